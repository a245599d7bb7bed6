/-
  What the functions that the laws call compute, for every input that the statements allow (part 7): for the claims up to a bulk of 1048576.
-/
import Derived.Test.YtgehlcgjchfibaaGreatDoorZ06
set_option maxRecDepth 100000
set_option linter.unusedVariables false
set_option linter.unusedSimpArgs false
set_option linter.defProp false
set_option maxHeartbeats 4000000
namespace Go.Proofs.YtgehlcgjchfibaaGreatDoor.F
open Go Go.RowKit Go.Proofs
def ic6_1 : IC := (.seq (.reg [zK 23 20 7,zM 24 1,zK 25 3 5,zA 26 (.call 15 [(.t 23,none),(.t 24,none),(.t 25,none)]),zM 22 26,zE 27 22 0,zE 28 22 1,zA 9 (.alloc 23 [(.bool false),(.str []),(.int .i64 0)]),zS 3 9 27,zM 10 28] false [1,5,7,9,10] [5,7,9]) (.seq (.reg [zK 30 20 7,zM 31 1,zK 32 3 5,zA 33 (.call 19 [(.t 30,none),(.t 31,none),(.t 32,none)]),zM 29 33,zE 34 29 0,zE 35 29 1,zA 11 (.alloc 23 [(.bool false),(.str []),(.int .i64 0)]),zS 3 11 34,zM 12 35] false [9,10,11,12] [9,11]) (.seq (.reg [zA 36 (.call 18 []),zM 37 36,zT 37 38 (.mv (.t 10)),zT 37 39 (.mv (.t 12)),zT 37 40 (.bin .eql none (.t 38) (.t 39)),zA 41 (.pick (.t 37) (.t 40) (.c (.bool false))),zM 42 41,zT 42 43 (.ld (some 3) (.t 9)),zT 42 44 (.ld (some 3) (.t 11)),zT 42 45 (.bin .eql (some [1,2,0]) (.t 43) (.t 44)),zA 46 (.pick (.t 42) (.t 45) (.c (.bool false))),zM 6 46] false [6] []) .ret)))
def ic6 : IC := (.seq (.reg [zA 5 (.box 23 (.t 2)),zA 6 (.mv (.c (.bool false)))] false [0,1,5] [5]) (.seq (.reg [zM 14 0,zK 15 3 5,zY 16 17 14 15,zM 13 16,zE 17 13 0,zE 18 13 1,zA 7 (.alloc 26 [(.sl 2 []),(.sl 2 []),(.bool false),(.sl 2 []),(.sl 2 []),(.int .i64 0),(.int .i64 0),(.int .i64 0),(.int .i64 0),(.int .i64 0),(.int .i64 0),(.int .i64 0),(.int .i64 0),(.str []),(.bool false),(.int .i64 0),(.bool false),(.int .i64 0),(.int .i32 0),(.int .i64 0)]),zS 20 7 17,zM 8 18] false [1,5,7,8] [5,7]) (.seq (.seq (.reg [zM 19 8,zA 20 (.not (.t 19))] false [1,5,7,20] [5,7]) (.cond (.t 20) (.seq (.reg [zA 21 (.call 18 []),zM 6 21] false [6] []) .ret) .skip)) ic6_1)))
def kp6 : List (Nat × Keep) := [(0, ⟨[0, 1, 5], [5], []⟩),
  (1, ⟨[1, 5, 7, 8], [5, 7], []⟩),
  (2, ⟨[1, 5, 7, 20], [5, 7], []⟩),
  (3, ⟨[6], [], []⟩),
  (4, ⟨[1, 5, 7, 9, 10], [5, 7, 9], []⟩),
  (5, ⟨[9, 10, 11, 12], [9, 11], []⟩),
  (6, ⟨[6], [], []⟩)]
theorem c6 : (Tryz.f6.body.bind fun c => compC Tryz.prog 47 [] kp6 c) = some ic6 := by kernel_rfl
theorem e6 {args : List AV} {r : AV} (ha : args.length ≤ 47) (h : VC e0 ic6 (retQ [(6, none)] r) ⟨argT 0 args, []⟩) : Fn 6 args r := fn_of Tryz.func6 rfl (by kernel_rfl) c6 ha (by decide) h
def ic7_1 : IC := (.seq (.reg [zA 30 (.call 18 []),zM 31 30,zT 31 32 (.ld (some 20) (.t 7)),zT 31 33 (.ld (some 3) (.t 9)),zT 31 34 (.call 20 [(.t 32,none),(.t 33,none)]),zT 31 35 (.ld (some 20) (.t 7)),zT 31 36 (.ld (some 3) (.t 9)),zT 31 37 (.ld (some 20) (.t 7)),zT 31 38 (.call 23 [(.t 37,none)]),zT 31 39 (.call 22 [(.t 36,none),(.t 38,none)]),zT 31 40 (.call 21 [(.t 35,none),(.t 39,none)]),zT 31 41 (.bin .eql (some [1,2,2,0]) (.t 34) (.t 40)),zA 42 (.pick (.t 31) (.t 41) (.c (.bool false))),zM 6 42] true [6] []) .ret)
def ic7_2 : IC := (.seq (.reg [zK 21 20 7,zM 22 1,zK 23 3 5,zA 24 (.call 19 [(.t 21,none),(.t 22,none),(.t 23,none)]),zM 20 24,zE 25 20 0,zE 26 20 1,zA 9 (.alloc 23 [(.bool false),(.str []),(.int .i64 0)]),zS 3 9 25,zM 10 26] false [7,9,10] [7,9]) (.seq (.seq (.reg [zM 27 10,zA 28 (.bin .neq none (.t 27) (.c (.int .i64 0)))] false [7,9,28] [7,9]) (.cond (.t 28) (.seq (.reg [zA 29 (.call 18 []),zM 6 29] false [6] []) .ret) .skip)) ic7_1))
def ic7 : IC := (.seq (.reg [zA 5 (.box 23 (.t 2)),zA 6 (.mv (.c (.bool false)))] false [0,1,5] [5]) (.seq (.reg [zM 12 0,zK 13 3 5,zY 14 17 12 13,zM 11 14,zE 15 11 0,zE 16 11 1,zA 7 (.alloc 26 [(.sl 2 []),(.sl 2 []),(.bool false),(.sl 2 []),(.sl 2 []),(.int .i64 0),(.int .i64 0),(.int .i64 0),(.int .i64 0),(.int .i64 0),(.int .i64 0),(.int .i64 0),(.int .i64 0),(.str []),(.bool false),(.int .i64 0),(.bool false),(.int .i64 0),(.int .i32 0),(.int .i64 0)]),zS 20 7 15,zM 8 16] false [1,5,7,8] [5,7]) (.seq (.seq (.reg [zM 17 8,zA 18 (.not (.t 17))] false [1,5,7,18] [5,7]) (.cond (.t 18) (.seq (.reg [zA 19 (.call 18 []),zM 6 19] false [6] []) .ret) .skip)) ic7_2)))
def kp7 : List (Nat × Keep) := [(0, ⟨[0, 1, 5], [5], []⟩),
  (1, ⟨[1, 5, 7, 8], [5, 7], []⟩),
  (2, ⟨[1, 5, 7, 18], [5, 7], []⟩),
  (3, ⟨[6], [], []⟩),
  (4, ⟨[7, 9, 10], [7, 9], []⟩),
  (5, ⟨[7, 9, 28], [7, 9], []⟩),
  (6, ⟨[6], [], []⟩),
  (7, ⟨[6], [], []⟩)]
theorem c7 : (Tryz.f7.body.bind fun c => compC Tryz.prog 43 [] kp7 c) = some ic7 := by kernel_rfl
theorem e7 {args : List AV} {r : AV} (ha : args.length ≤ 43) (h : VC e0 ic7 (retQ [(6, none)] r) ⟨argT 0 args, []⟩) : Fn 7 args r := fn_of Tryz.func7 rfl (by kernel_rfl) c7 ha (by decide) h
def ic8_1 : IC := (.seq (.reg [zA 66 (.call 18 []),zM 67 66,zT 67 68 (.ld (some 20) (.t 3)),zT 67 69 (.call 26 [(.t 68,none)]),zT 67 70 (.not (.t 69)),zA 71 (.pick (.t 67) (.t 70) (.c (.bool false))),zM 2 71] false [2] []) .ret)
def ic8_2 : IC := (.seq (.reg [zK 19 20 3,zC 20 24 19,zM 18 20,zE 21 18 0,zE 22 18 1,zM 5 21,zM 6 22] false [3,5,6] [3]) (.seq (.seq (.reg [zG 23 14 3,zL 24 23,zM 25 24,zF 25 26 (.fa 9 none (.t 3)),zF 25 27 (.ld none (.t 26)),zF 25 28 (.bin .gtr none (.t 27) (.c (.int .i64 0))),zA 29 (.pick (.t 25) (.c (.bool true)) (.t 28))] false [3,5,6,29] [3]) (.cond (.t 29) (.seq (.reg [zK 31 20 3,zC 32 25 31,zM 30 32,zE 33 30 0,zE 34 30 1,zM 7 33,zM 8 34] false [3,5,6,7,8] [3]) (.seq (.reg [zA 35 (.call 18 []),zM 36 35,zT 36 37 (.mv (.t 5)),zT 36 38 (.mv (.t 7)),zT 36 39 (.bin .eql none (.t 37) (.t 38)),zA 40 (.pick (.t 36) (.t 39) (.c (.bool false))),zM 41 40,zT 41 42 (.mv (.t 6)),zT 41 43 (.mv (.t 8)),zT 41 44 (.bin .eql none (.t 42) (.t 43)),zA 45 (.pick (.t 41) (.t 44) (.c (.bool false))),zM 46 45,zT 46 47 (.mv (.t 5)),zT 46 48 (.bin .geq none (.t 47) (.c (.int .i64 0))),zA 49 (.pick (.t 46) (.t 48) (.c (.bool false))),zM 50 49,zT 50 51 (.mv (.t 6)),zT 50 52 (.bin .geq none (.t 51) (.c (.int .i64 1))),zA 53 (.pick (.t 50) (.t 52) (.c (.bool false))),zM 54 53,zT 54 55 (.mv (.t 5)),zT 54 56 (.mv (.t 6)),zT 54 57 (.bin .leq none (.t 55) (.t 56)),zA 58 (.pick (.t 54) (.t 57) (.c (.bool false))),zM 59 58,zT 59 60 (.ld (some 20) (.t 3)),zT 59 61 (.call 26 [(.t 60,none)]),zT 59 62 (.ld (some 20) (.t 3)),zT 59 63 (.call 27 [(.t 62,none)]),zT 59 64 (.bin .eql (some [9]) (.t 61) (.t 63)),zA 65 (.pick (.t 59) (.t 64) (.c (.bool false))),zM 2 65] true [2] []) .ret)) .skip)) ic8_1))
def ic8 : IC := (.seq (.reg [zA 2 (.mv (.c (.bool false)))] false [0] []) (.seq (.reg [zM 10 0,zA 11 (.build [(.bool false),(.str []),(.int .i64 0)] []),zY 12 17 10 11,zM 9 12,zE 13 9 0,zE 14 9 1,zA 3 (.alloc 26 [(.sl 2 []),(.sl 2 []),(.bool false),(.sl 2 []),(.sl 2 []),(.int .i64 0),(.int .i64 0),(.int .i64 0),(.int .i64 0),(.int .i64 0),(.int .i64 0),(.int .i64 0),(.int .i64 0),(.str []),(.bool false),(.int .i64 0),(.bool false),(.int .i64 0),(.int .i32 0),(.int .i64 0)]),zS 20 3 13,zM 4 14] false [3,4] [3]) (.seq (.seq (.reg [zM 15 4,zA 16 (.not (.t 15))] false [3,16] [3]) (.cond (.t 16) (.seq (.reg [zA 17 (.call 18 []),zM 2 17] false [2] []) .ret) .skip)) ic8_2)))
def kp8 : List (Nat × Keep) := [(0, ⟨[0], [], []⟩),
  (1, ⟨[3, 4], [3], []⟩),
  (2, ⟨[3, 16], [3], []⟩),
  (3, ⟨[2], [], []⟩),
  (4, ⟨[3, 5, 6], [3], []⟩),
  (5, ⟨[3, 5, 6, 29], [3], []⟩),
  (6, ⟨[3, 5, 6, 7, 8], [3], []⟩),
  (7, ⟨[2], [], []⟩),
  (8, ⟨[2], [], []⟩)]
theorem c8 : (Tryz.f8.body.bind fun c => compC Tryz.prog 72 [] kp8 c) = some ic8 := by kernel_rfl
theorem e8 {args : List AV} {r : AV} (ha : args.length ≤ 72) (h : VC e0 ic8 (retQ [(2, none)] r) ⟨argT 0 args, []⟩) : Fn 8 args r := fn_of Tryz.func8 rfl (by kernel_rfl) c8 ha (by decide) h
def ic9_1 : IC := (.seq (.reg [zA 134 (.call 18 []),zM 135 134,zT 135 136 (.fa 14 none (.t 7)),zT 135 137 (.ld none (.t 136)),zT 135 138 (.not (.t 137)),zT 135 139 (.mv (.t 138)),zF 139 140 (.ld (some 20) (.t 7)),zF 139 141 (.call 27 [(.t 140,none)]),zT 135 142 (.pick (.t 139) (.c (.bool true)) (.t 141)),zT 135 143 (.mv (.t 142)),zF 143 144 (.fa 9 none (.t 7)),zF 143 145 (.ld none (.t 144)),zF 143 146 (.bin .gtr none (.t 145) (.c (.int .i64 0))),zT 135 147 (.pick (.t 143) (.c (.bool true)) (.t 146)),zT 135 148 (.mv (.t 147)),zF 148 149 (.fa 1 none (.t 11)),zF 148 150 (.ld none (.t 149)),zF 148 151 (.len true (.t 150)),zF 148 152 (.ld (some 20) (.t 7)),zF 148 153 (.call 29 [(.t 152,none)]),zF 148 154 (.bin .eql none (.t 151) (.t 153)),zT 135 155 (.pick (.t 148) (.c (.bool true)) (.t 154)),zT 135 156 (.mv (.t 155)),zF 156 157 (.mv (.t 12)),zF 156 158 (.bin .eql none (.t 157) (.c (.str [48]))),zT 135 159 (.pick (.t 156) (.c (.bool true)) (.t 158)),zA 160 (.pick (.t 135) (.t 159) (.c (.bool false))),zM 6 160] true [6] []) .ret)
def ic9_2 : IC := (.seq (.seq (.reg [zK 110 20 7,zC 111 27 110,zM 112 111,zT 112 113 (.fa 3 none (.t 11)),zT 112 114 (.ld none (.t 113)),zT 112 115 (.fa 6 none (.t 7)),zT 112 116 (.ld none (.t 115)),zT 112 117 (.bin .rem none (.t 114) (.t 116)),zT 112 118 (.bin .neq none (.t 117) (.c (.int .i64 0))),zT 112 119 (.mv (.t 118)),zF 119 120 (.fa 1 none (.t 11)),zF 119 121 (.ld none (.t 120)),zF 119 122 (.len true (.t 121)),zF 119 123 (.fa 6 none (.t 7)),zF 119 124 (.ld none (.t 123)),zF 119 125 (.bin .gtr none (.t 122) (.t 124)),zT 112 126 (.pick (.t 119) (.c (.bool true)) (.t 125)),zT 112 127 (.mv (.t 126)),zF 127 128 (.fa 1 none (.t 11)),zF 127 129 (.ld none (.t 128)),zF 127 130 (.len true (.t 129)),zF 127 131 (.bin .lss none (.t 130) (.c (.int .i64 1))),zT 112 132 (.pick (.t 127) (.c (.bool true)) (.t 131)),zA 133 (.pick (.t 112) (.t 132) (.c (.bool false)))] false [7,11,12,133] [7,11]) (.cond (.t 133) (.seq (.reg [zA 6 (.mv (.c (.bool false)))] false [6] []) .ret) .skip)) ic9_1)
def ic9_3 : IC := (.seq (.reg [zK 33 20 7,zK 34 3 9,zY 35 20 33 34,zA 11 (.alloc 39 [(.bool false),(.str []),(.str []),(.int .i64 0)]),zS 4 11 35] false [7,9,11] [7,9,11]) (.seq (.reg [zG 36 1 11,zL 37 36,zG 38 2 11,zL 39 38,zA 40 (.bin .add none (.t 37) (.t 39)),zM 12 40] false [7,9,11,12] [7,9,11]) (.seq (.reg [zG 41 0 11,zL 42 41,zM 43 12,zG 44 3 11,zL 45 44,zG 46 2 11,zL 47 46,zA 48 (.len true (.t 47)),zA 49 (.bin .sub none (.t 45) (.t 48)),zK 50 20 7,zC 51 23 50,zA 52 (.bin .sub none (.t 49) (.t 51)),zA 53 (.call 28 [(.t 42,none),(.t 43,none),(.t 52,none)]),zA 13 (.alloc 23 [(.bool false),(.str []),(.int .i64 0)]),zS 3 13 53] true [7,9,11,12,13] [7,9,11,13]) (.seq (.seq (.reg [zM 54 12,zA 55 (.bin .eql none (.t 54) (.c (.str []))),zM 56 55,zF 56 57 (.ld (some 3) (.t 13)),zF 56 58 (.ld (some 3) (.t 9)),zF 56 59 (.bin .neq (some [1,2,0]) (.t 57) (.t 58)),zA 60 (.pick (.t 56) (.c (.bool true)) (.t 59)),zM 61 60,zF 61 62 (.fa 14 none (.t 7)),zF 61 63 (.ld none (.t 62)),zF 61 64 (.not (.t 63)),zF 61 65 (.mv (.t 64)),zT 65 66 (.fa 3 none (.t 11)),zT 65 67 (.ld none (.t 66)),zT 65 68 (.bin .neq none (.t 67) (.c (.int .i64 0))),zF 61 69 (.pick (.t 65) (.t 68) (.c (.bool false))),zA 70 (.pick (.t 61) (.c (.bool true)) (.t 69)),zM 71 70,zF 71 72 (.fa 1 none (.t 11)),zF 71 73 (.ld none (.t 72)),zF 71 74 (.len true (.t 73)),zF 71 75 (.fa 5 none (.t 7)),zF 71 76 (.ld none (.t 75)),zF 71 77 (.bin .lss none (.t 74) (.t 76)),zF 71 78 (.mv (.t 77)),zT 78 79 (.fa 14 none (.t 7)),zT 78 80 (.ld none (.t 79)),zT 78 81 (.not (.t 80)),zF 71 82 (.pick (.t 78) (.t 81) (.c (.bool false))),zA 83 (.pick (.t 71) (.c (.bool true)) (.t 82)),zM 84 83,zF 84 85 (.fa 9 none (.t 7)),zF 84 86 (.ld none (.t 85)),zF 84 87 (.bin .eql none (.t 86) (.c (.int .i64 0))),zF 84 88 (.mv (.t 87)),zT 88 89 (.fa 14 none (.t 7)),zT 88 90 (.ld none (.t 89)),zT 88 91 (.not (.t 90)),zF 84 92 (.pick (.t 88) (.t 91) (.c (.bool false))),zF 84 93 (.mv (.t 92)),zT 93 94 (.fa 2 none (.t 11)),zT 93 95 (.ld none (.t 94)),zT 93 96 (.len true (.t 95)),zT 93 97 (.fa 7 none (.t 7)),zT 93 98 (.ld none (.t 97)),zT 93 99 (.bin .lss none (.t 96) (.t 98)),zT 93 100 (.mv (.t 99)),zF 100 101 (.fa 2 none (.t 11)),zF 100 102 (.ld none (.t 101)),zF 100 103 (.len true (.t 102)),zF 100 104 (.fa 8 none (.t 7)),zF 100 105 (.ld none (.t 104)),zF 100 106 (.bin .gtr none (.t 103) (.t 105)),zT 93 107 (.pick (.t 100) (.c (.bool true)) (.t 106)),zF 84 108 (.pick (.t 93) (.t 107) (.c (.bool false))),zA 109 (.pick (.t 84) (.c (.bool true)) (.t 108))] false [7,11,12,109] [7,11]) (.cond (.t 109) (.seq (.reg [zA 6 (.mv (.c (.bool false)))] false [6] []) .ret) .skip)) ic9_2))))
def ic9_4 : IC := (.seq (.reg [zK 24 20 7,zM 25 1,zK 26 3 5,zA 27 (.call 19 [(.t 24,none),(.t 25,none),(.t 26,none)]),zM 23 27,zE 28 23 0,zE 29 23 1,zA 9 (.alloc 23 [(.bool false),(.str []),(.int .i64 0)]),zS 3 9 28,zM 10 29] false [7,9,10] [7,9]) (.seq (.seq (.reg [zM 30 10,zA 31 (.bin .neq none (.t 30) (.c (.int .i64 0)))] false [7,9,31] [7,9]) (.cond (.t 31) (.seq (.reg [zA 32 (.call 18 []),zM 6 32] false [6] []) .ret) .skip)) ic9_3))
def ic9 : IC := (.seq (.reg [zA 5 (.box 23 (.t 2)),zA 6 (.mv (.c (.bool false)))] false [0,1,5] [5]) (.seq (.reg [zM 15 0,zK 16 3 5,zY 17 17 15 16,zM 14 17,zE 18 14 0,zE 19 14 1,zA 7 (.alloc 26 [(.sl 2 []),(.sl 2 []),(.bool false),(.sl 2 []),(.sl 2 []),(.int .i64 0),(.int .i64 0),(.int .i64 0),(.int .i64 0),(.int .i64 0),(.int .i64 0),(.int .i64 0),(.int .i64 0),(.str []),(.bool false),(.int .i64 0),(.bool false),(.int .i64 0),(.int .i32 0),(.int .i64 0)]),zS 20 7 18,zM 8 19] false [1,5,7,8] [5,7]) (.seq (.seq (.reg [zM 20 8,zA 21 (.not (.t 20))] false [1,5,7,21] [5,7]) (.cond (.t 21) (.seq (.reg [zA 22 (.call 18 []),zM 6 22] false [6] []) .ret) .skip)) ic9_4)))
def kp9 : List (Nat × Keep) := [(0, ⟨[0, 1, 5], [5], []⟩),
  (1, ⟨[1, 5, 7, 8], [5, 7], []⟩),
  (2, ⟨[1, 5, 7, 21], [5, 7], []⟩),
  (3, ⟨[6], [], []⟩),
  (4, ⟨[7, 9, 10], [7, 9], []⟩),
  (5, ⟨[7, 9, 31], [7, 9], []⟩),
  (6, ⟨[6], [], []⟩),
  (7, ⟨[7, 9, 11], [7, 9, 11], []⟩),
  (8, ⟨[7, 9, 11, 12], [7, 9, 11], []⟩),
  (9, ⟨[7, 9, 11, 12, 13], [7, 9, 11, 13], []⟩),
  (10, ⟨[7, 11, 12, 109], [7, 11], []⟩),
  (11, ⟨[6], [], []⟩),
  (12, ⟨[7, 11, 12, 133], [7, 11], []⟩),
  (13, ⟨[6], [], []⟩),
  (14, ⟨[6], [], []⟩)]
theorem c9 : (Tryz.f9.body.bind fun c => compC Tryz.prog 161 [] kp9 c) = some ic9 := by kernel_rfl
theorem e9 {args : List AV} {r : AV} (ha : args.length ≤ 161) (h : VC e0 ic9 (retQ [(6, none)] r) ⟨argT 0 args, []⟩) : Fn 9 args r := fn_of Tryz.func9 rfl (by kernel_rfl) c9 ha (by decide) h
def ic10_1 : IC := (.seq (.reg [zK 48 20 9,zM 49 2,zK 50 3 11,zA 51 (.call 15 [(.t 48,none),(.t 49,none),(.t 50,none)]),zM 47 51,zE 52 47 0,zE 53 47 1,zA 13 (.alloc 23 [(.bool false),(.str []),(.int .i64 0)]),zS 3 13 52,zM 14 53] false [11,13,14] [11,13]) (.seq (.reg [zA 54 (.call 18 []),zM 55 54,zT 55 56 (.mv (.t 14)),zT 55 57 (.bin .eql none (.t 56) (.c (.int .i64 0))),zA 58 (.pick (.t 55) (.t 57) (.c (.bool false))),zM 59 58,zT 59 60 (.ld (some 3) (.t 13)),zT 59 61 (.ld (some 3) (.t 11)),zT 59 62 (.bin .eql (some [1,2,0]) (.t 60) (.t 61)),zA 63 (.pick (.t 59) (.t 62) (.c (.bool false))),zM 8 63] false [8] []) .ret))
def ic10_2 : IC := (.seq (.reg [zK 33 20 9,zM 34 1,zK 35 3 7,zA 36 (.call 15 [(.t 33,none),(.t 34,none),(.t 35,none)]),zM 32 36,zE 37 32 0,zE 38 32 1,zA 11 (.alloc 23 [(.bool false),(.str []),(.int .i64 0)]),zS 3 11 37,zM 12 38] false [2,9,11,12] [9,11]) (.seq (.seq (.reg [zM 39 12,zA 40 (.bin .neq none (.t 39) (.c (.int .i64 0)))] false [2,9,11,40] [9,11]) (.cond (.t 40) (.seq (.reg [zA 41 (.call 18 []),zM 42 41,zT 42 43 (.ld (some 3) (.t 11)),zT 42 44 (.build [(.bool false),(.str []),(.int .i64 0)] []),zT 42 45 (.bin .eql (some [1,2,0]) (.t 43) (.t 44)),zA 46 (.pick (.t 42) (.t 45) (.c (.bool false))),zM 8 46] false [8] []) .ret) .skip)) ic10_1))
def ic10 : IC := (.seq (.reg [zA 7 (.box 23 (.t 3)),zA 8 (.mv (.c (.bool false)))] false [0,1,2,7] [7]) (.seq (.reg [zM 16 0,zK 17 3 7,zY 18 17 16 17,zM 15 18,zE 19 15 0,zE 20 15 1,zA 9 (.alloc 26 [(.sl 2 []),(.sl 2 []),(.bool false),(.sl 2 []),(.sl 2 []),(.int .i64 0),(.int .i64 0),(.int .i64 0),(.int .i64 0),(.int .i64 0),(.int .i64 0),(.int .i64 0),(.int .i64 0),(.str []),(.bool false),(.int .i64 0),(.bool false),(.int .i64 0),(.int .i32 0),(.int .i64 0)]),zS 20 9 19,zM 10 20] false [1,2,7,9,10] [7,9]) (.seq (.seq (.reg [zM 21 10,zA 22 (.not (.t 21)),zM 23 22,zF 23 24 (.mv (.t 2)),zF 23 25 (.bin .lss none (.t 24) (.c (.int .i64 0))),zA 26 (.pick (.t 23) (.c (.bool true)) (.t 25)),zM 27 26,zF 27 28 (.mv (.t 2)),zF 27 29 (.bin .gtr none (.t 28) (.c (.int .i64 7))),zA 30 (.pick (.t 27) (.c (.bool true)) (.t 29))] false [1,2,7,9,30] [7,9]) (.cond (.t 30) (.seq (.reg [zA 31 (.call 18 []),zM 8 31] false [8] []) .ret) .skip)) ic10_2)))
def kp10 : List (Nat × Keep) := [(0, ⟨[0, 1, 2, 7], [7], []⟩),
  (1, ⟨[1, 2, 7, 9, 10], [7, 9], []⟩),
  (2, ⟨[1, 2, 7, 9, 30], [7, 9], []⟩),
  (3, ⟨[8], [], []⟩),
  (4, ⟨[2, 9, 11, 12], [9, 11], []⟩),
  (5, ⟨[2, 9, 11, 40], [9, 11], []⟩),
  (6, ⟨[8], [], []⟩),
  (7, ⟨[11, 13, 14], [11, 13], []⟩),
  (8, ⟨[8], [], []⟩)]
theorem c10 : (Tryz.f10.body.bind fun c => compC Tryz.prog 64 [] kp10 c) = some ic10 := by kernel_rfl
theorem e10 {args : List AV} {r : AV} (ha : args.length ≤ 64) (h : VC e0 ic10 (retQ [(8, none)] r) ⟨argT 0 args, []⟩) : Fn 10 args r := fn_of Tryz.func10 rfl (by kernel_rfl) c10 ha (by decide) h
def ic15_1 : IC := (.seq (.reg [zK 49 3 9,zS 3 6 49,zI 7 0] false [6,7] [6]) .ret)
def ic15_2 : IC := (.seq (.seq (.reg [zK 41 3 9,zM 42 8,zA 43 (.neg (.t 42)),zY 44 43 41 43,zS 3 9 44] false [6,9] [6,9]) (.seq (.reg [zK 45 3 9,zC 46 40 45,zA 47 (.not (.t 46))] false [6,9,47] [6,9]) (.cond (.t 47) (.seq (.reg [zA 48 (.build [(.bool false),(.str []),(.int .i64 0)] []),zS 3 6 48,zI 7 10] false [6,7] [6]) .ret) .skip))) ic15_1)
def ic15_3 : IC := (.seq (.reg [zK 26 20 3,zC 27 41 26,zM 8 27] false [1,3,5,6,8] [3,5,6]) (.seq (.reg [zK 29 20 3,zM 30 1,zK 31 3 5,zM 32 8,zY 33 43 31 32,zA 34 (.call 42 [(.t 29,none),(.t 30,none),(.t 33,none)]),zM 28 34,zE 35 28 0,zE 36 28 1,zA 9 (.alloc 23 [(.bool false),(.str []),(.int .i64 0)]),zS 3 9 35,zM 10 36] true [6,8,9,10] [6,9]) (.seq (.seq (.reg [zM 37 10,zA 38 (.bin .neq none (.t 37) (.c (.int .i64 0)))] false [6,8,9,10,38] [6,9]) (.cond (.t 38) (.seq (.reg [zA 39 (.build [(.bool false),(.str []),(.int .i64 0)] []),zM 40 10,zS 3 6 39,zM 7 40] false [6,7] [6]) .ret) .skip)) ic15_2)))
def ic15 : IC := (.seq (.reg [zA 3 (.box 26 (.t 0)),zA 5 (.box 23 (.t 2)),zA 6 (.alloc 23 [(.bool false),(.str []),(.int .i64 0)]),zI 7 0] false [1,3,5,6] [3,5,6]) (.seq (.block 0 (.seq (.reg [zM 12 1,zC 13 38 12,zA 14 (.not (.t 13)),zM 11 14] false [1,3,5,6,11] [3,5,6]) (.cond (.t 11) (.seq (.reg [zA 15 (.build [(.bool false),(.str []),(.int .i64 0)] []),zS 3 6 15,zI 7 1] false [6,7] [6]) .ret) (.seq (.reg [zK 17 3 5,zC 18 39 17,zA 19 (.not (.t 18)),zM 16 19] false [1,3,5,6,16] [3,5,6]) (.cond (.t 16) (.seq (.reg [zA 20 (.build [(.bool false),(.str []),(.int .i64 0)] []),zS 3 6 20,zI 7 9] false [6,7] [6]) .ret) (.seq (.reg [zK 22 3 5,zC 23 40 22,zA 24 (.not (.t 23)),zM 21 24] false [1,3,5,6,21] [3,5,6]) (.cond (.t 21) (.seq (.reg [zA 25 (.build [(.bool false),(.str []),(.int .i64 0)] []),zS 3 6 25,zI 7 10] false [6,7] [6]) .ret) .skip))))))) ic15_3))
def kp15 : List (Nat × Keep) := [(0, ⟨[1, 3, 5, 6], [3, 5, 6], []⟩),
  (1, ⟨[1, 3, 5, 6, 11], [3, 5, 6], []⟩),
  (2, ⟨[6, 7], [6], []⟩),
  (3, ⟨[1, 3, 5, 6, 16], [3, 5, 6], []⟩),
  (4, ⟨[6, 7], [6], []⟩),
  (5, ⟨[1, 3, 5, 6, 21], [3, 5, 6], []⟩),
  (6, ⟨[6, 7], [6], []⟩),
  (7, ⟨[1, 3, 5, 6, 8], [3, 5, 6], []⟩),
  (8, ⟨[6, 8, 9, 10], [6, 9], []⟩),
  (9, ⟨[6, 8, 9, 10, 38], [6, 9], []⟩),
  (10, ⟨[6, 7], [6], []⟩),
  (11, ⟨[6, 9], [6, 9], []⟩),
  (12, ⟨[6, 9, 47], [6, 9], []⟩),
  (13, ⟨[6, 7], [6], []⟩),
  (14, ⟨[6, 7], [6], []⟩)]
theorem c15 : (Tryz.f15.body.bind fun c => compC Tryz.prog 50 [] kp15 c) = some ic15 := by kernel_rfl
theorem e15 {args : List AV} {r : AV} (ha : args.length ≤ 50) (h : VC e0 ic15 (retQ [(6, (some (some 3))), (7, none)] r) ⟨argT 0 args, []⟩) : Fn 15 args r := fn_of Tryz.func15 rfl (by kernel_rfl) c15 ha (by decide) h
def ic17 : IC := (.seq (.reg [zA 3 (.box 23 (.t 1)),zA 4 (.alloc 26 [(.sl 2 []),(.sl 2 []),(.bool false),(.sl 2 []),(.sl 2 []),(.int .i64 0),(.int .i64 0),(.int .i64 0),(.int .i64 0),(.int .i64 0),(.int .i64 0),(.int .i64 0),(.int .i64 0),(.str []),(.bool false),(.int .i64 0),(.bool false),(.int .i64 0),(.int .i32 0),(.int .i64 0)]),zA 5 (.mv (.c (.bool false)))] false [0,3,4] [3,4]) (.seq (.reg [zM 9 0,zC 10 31 9,zM 8 10,zE 11 8 0,zE 12 8 1,zA 6 (.alloc 26 [(.sl 2 []),(.sl 2 []),(.bool false),(.sl 2 []),(.sl 2 []),(.int .i64 0),(.int .i64 0),(.int .i64 0),(.int .i64 0),(.int .i64 0),(.int .i64 0),(.int .i64 0),(.int .i64 0),(.str []),(.bool false),(.int .i64 0),(.bool false),(.int .i64 0),(.int .i32 0),(.int .i64 0)]),zA 7 (.alloc 52 [(.int .i64 0),(.int .i64 0)]),zS 20 6 11,zS 2 7 12] false [0,3,4,6,7] [3,4,6,7]) (.seq (.reg [zK 13 20 6,zG 14 0 7,⟨(some 15),(.ld none (.t 14)),none,(.at 7 0 1)⟩,zA 16 (.bin .eql none (.t 15) (.c (.int .i64 0))),zM 17 16,zT 17 18 (.mv (.t 0)),⟨(some 19),(.len true (.t 18)),(some (17,true)),.ref⟩,zT 17 20 (.bin .leq none (.t 19) (.c (.int .i64 300))),zA 21 (.pick (.t 17) (.t 20) (.c (.bool false))),zM 22 21,zT 22 23 (.fa 1 none (.t 3)),⟨(some 24),(.ld none (.t 23)),(some (22,true)),(.at 3 1 1)⟩,⟨(some 25),(.len true (.t 24)),(some (22,true)),.ref⟩,zT 22 26 (.bin .leq none (.t 25) (.c (.int .i64 120))),zA 27 (.pick (.t 22) (.t 26) (.c (.bool false))),⟨none,(.st 20 (.t 4) (.t 13)),none,(.at 4 0 20)⟩,zM 5 27] true [4,5] [4]) .ret)))
def kp17 : List (Nat × Keep) := [(0, ⟨[0, 3, 4], [3, 4], []⟩),
  (1, ⟨[0, 3, 4, 6, 7], [3, 4, 6, 7], []⟩),
  (2, ⟨[4, 5], [4], [(2, .at 7 0 1), (6, .ref), (11, .at 3 1 1), (12, .ref), (15, .at 4 0 20)]⟩)]
theorem c17 : (Tryz.f17.body.bind fun c => compC Tryz.prog 28 [] kp17 c) = some ic17 := by kernel_rfl
theorem e17 {args : List AV} {r : AV} (ha : args.length ≤ 28) (h : VC e0 ic17 (retQ [(4, (some (some 20))), (5, none)] r) ⟨argT 0 args, []⟩) : Fn 17 args r := fn_of Tryz.func17 rfl (by kernel_rfl) c17 ha (by decide) h
def ic18 : IC := (.seq (.reg [zA 0 (.mv (.c (.bool false)))] false [] []) (.seq (.reg [zA 7 (.call 31 [((.c (.str [35,35,48,46,35,35,69,48])),none)]),zM 6 7,zE 8 6 0,zE 9 6 1,zA 1 (.alloc 26 [(.sl 2 []),(.sl 2 []),(.bool false),(.sl 2 []),(.sl 2 []),(.int .i64 0),(.int .i64 0),(.int .i64 0),(.int .i64 0),(.int .i64 0),(.int .i64 0),(.int .i64 0),(.int .i64 0),(.str []),(.bool false),(.int .i64 0),(.bool false),(.int .i64 0),(.int .i32 0),(.int .i64 0)]),zA 2 (.alloc 52 [(.int .i64 0),(.int .i64 0)]),zS 20 1 8,zS 2 2 9] false [1] [1]) (.seq (.reg [zK 11 20 1,zA 12 (.build [(.bool false),(.str []),(.int .i64 0)] [(1,(1,(.c (.str [49,50,51,52,53]))))]),zA 13 (.call 15 [(.t 11,none),((.c (.int .i64 4)),none),(.t 12,none)]),zM 10 13,zE 14 10 0,zE 15 10 1,zA 3 (.alloc 23 [(.bool false),(.str []),(.int .i64 0)]),zS 3 3 14,zM 4 15] false [1,3,4] [1,3]) (.seq (.reg [zK 16 20 1,zK 17 3 3,zY 18 20 16 17,zA 5 (.alloc 39 [(.bool false),(.str []),(.str []),(.int .i64 0)]),zS 4 5 18] false [1,3,4,5] [1,3,5]) (.seq (.reg [zM 19 4,zA 20 (.bin .eql none (.t 19) (.c (.int .i64 0))),zM 21 20,zT 21 22 (.ld (some 3) (.t 3)),zT 21 23 (.build [(.bool false),(.str []),(.int .i64 0)] [(1,(1,(.c (.str [49,50,51])))),(2,(1,(.c (.int .i64 2))))]),zT 21 24 (.bin .eql (some [1,2,0]) (.t 22) (.t 23)),zA 25 (.pick (.t 21) (.t 24) (.c (.bool false))),zM 26 25,zT 26 27 (.ld (some 4) (.t 5)),zT 26 28 (.build [(.bool false),(.str []),(.str []),(.int .i64 0)] [(1,(1,(.c (.str [49,50])))),(2,(1,(.c (.str [51])))),(3,(1,(.c (.int .i64 3))))]),zT 26 29 (.bin .eql (some [1,2,2,0]) (.t 27) (.t 28)),zA 30 (.pick (.t 26) (.t 29) (.c (.bool false))),zM 31 30,zT 31 32 (.ld (some 20) (.t 1)),zT 31 33 (.call 26 [(.t 32,none)]),zA 34 (.pick (.t 31) (.t 33) (.c (.bool false))),zM 0 34] false [0] []) .ret)))))
def kp18 : List (Nat × Keep) := [(0, ⟨[], [], []⟩),
  (1, ⟨[1], [1], []⟩),
  (2, ⟨[1, 3, 4], [1, 3], []⟩),
  (3, ⟨[1, 3, 4, 5], [1, 3, 5], []⟩),
  (4, ⟨[0], [], []⟩)]
theorem c18 : (Tryz.f18.body.bind fun c => compC Tryz.prog 35 [] kp18 c) = some ic18 := by kernel_rfl
theorem e18 {args : List AV} {r : AV} (ha : args.length ≤ 35) (h : VC e0 ic18 (retQ [(0, none)] r) ⟨argT 0 args, []⟩) : Fn 18 args r := fn_of Tryz.func18 rfl (by kernel_rfl) c18 ha (by decide) h
def ic20_1 : IC := (.seq (.reg [zK 25 4 7,zS 4 4 25] false [4] [4]) .ret)
def ic20_2 : IC := (.seq (.reg [zM 14 6,zK 15 20 2,zK 16 3 5,zA 17 (.dcall (.t 14) [(.t 15,none),(.t 16,none)]),zA 7 (.alloc 39 [(.bool false),(.str []),(.str []),(.int .i64 0)]),zS 4 7 17] false [4,7] [4,7]) (.seq (.seq (.reg [zG 18 1 7,zL 19 18,zG 20 2 7,zL 21 20,zA 22 (.bin .add none (.t 19) (.t 21)),zA 23 (.bin .eql none (.t 22) (.c (.str [])))] false [4,7,23] [4,7]) (.cond (.t 23) (.reg [zG 24 1 7,zU (.st 1 (.t 24) (.c (.str [48])))] false [4,7] [4,7]) .skip)) ic20_1))
def ic20 : IC := (.seq (.reg [zA 2 (.box 26 (.t 0)),zA 3 (.box 23 (.t 1)),zA 4 (.alloc 39 [(.bool false),(.str []),(.str []),(.int .i64 0)])] false [2,3,4] [2,3,4]) (.seq (.reg [zK 8 3 3,zK 9 20 2,zC 10 41 9,zY 11 43 8 10,zA 5 (.alloc 23 [(.bool false),(.str []),(.int .i64 0)]),zS 3 5 11] true [2,4,5] [2,4,5]) (.seq (.reg [zA 6 (.mv (.c (.fn 48)))] false [2,4,5,6] [2,4,5]) (.seq (.seq (.reg [zG 12 14 2,zL 13 12] false [2,4,5,6,13] [2,4,5]) (.cond (.t 13) (.reg [zA 6 (.mv (.c (.fn 49)))] false [2,4,5,6] [2,4,5]) .skip)) ic20_2))))
def kp20 : List (Nat × Keep) := [(0, ⟨[2, 3, 4], [2, 3, 4], []⟩),
  (1, ⟨[2, 4, 5], [2, 4, 5], []⟩),
  (2, ⟨[2, 4, 5, 6], [2, 4, 5], []⟩),
  (3, ⟨[2, 4, 5, 6, 13], [2, 4, 5], []⟩),
  (4, ⟨[2, 4, 5, 6], [2, 4, 5], []⟩),
  (5, ⟨[4, 7], [4, 7], []⟩),
  (6, ⟨[4, 7, 23], [4, 7], []⟩),
  (7, ⟨[4, 7], [4, 7], []⟩),
  (8, ⟨[4], [4], []⟩)]
theorem c20 : (Tryz.f20.body.bind fun c => compC Tryz.prog 26 [] kp20 c) = some ic20 := by kernel_rfl
theorem e20 {args : List AV} {r : AV} (ha : args.length ≤ 26) (h : VC e0 ic20 (retQ [(4, (some (some 4)))] r) ⟨argT 0 args, []⟩) : Fn 20 args r := fn_of Tryz.func20 rfl (by kernel_rfl) c20 ha (by decide) h
def ic24_1 : IC := (.seq (.reg [zK 11 20 1,zC 12 54 11,zG 13 7 1,zL 14 13,zA 15 (.bin .add none (.t 12) (.t 14)),zK 16 20 1,zC 17 54 16,zG 18 8 1,zL 19 18,zA 20 (.bin .add none (.t 17) (.t 19)),zM 2 15,zM 3 20] true [2,3] []) .ret)
def ic24 : IC := (.seq (.reg [zA 1 (.box 26 (.t 0)),zI 2 0,zI 3 0] false [1] [1]) (.seq (.seq (.reg [zG 4 9 1,zL 5 4,zA 6 (.bin .gtr none (.t 5) (.c (.int .i64 0)))] false [1,6] [1]) (.cond (.t 6) (.seq (.reg [zG 7 9 1,zL 8 7,zG 9 10 1,zL 10 9,zM 2 8,zM 3 10] true [2,3] []) .ret) .skip)) ic24_1))
def kp24 : List (Nat × Keep) := [(0, ⟨[1], [1], []⟩),
  (1, ⟨[1, 6], [1], []⟩),
  (2, ⟨[2, 3], [], []⟩),
  (3, ⟨[2, 3], [], []⟩)]
theorem c24 : (Tryz.f24.body.bind fun c => compC Tryz.prog 21 [] kp24 c) = some ic24 := by kernel_rfl
theorem e24 {args : List AV} {r : AV} (ha : args.length ≤ 21) (h : VC e0 ic24 (retQ [(2, none), (3, none)] r) ⟨argT 0 args, []⟩) : Fn 24 args r := fn_of Tryz.func24 rfl (by kernel_rfl) c24 ha (by decide) h
def ic26 : IC := (.seq (.reg [zA 1 (.box 26 (.t 0)),zA 2 (.mv (.c (.bool false)))] false [1] [1]) (.seq (.reg [zG 3 14 1,zL 4 3,zM 5 4,zT 5 6 (.fa 6 none (.t 1)),zT 5 7 (.ld none (.t 6)),zT 5 8 (.fa 5 none (.t 1)),zT 5 9 (.ld none (.t 8)),zT 5 10 (.bin .gtr none (.t 7) (.t 9)),zA 11 (.pick (.t 5) (.t 10) (.c (.bool false))),zM 12 11,zT 12 13 (.fa 6 none (.t 1)),zT 12 14 (.ld none (.t 13)),zT 12 15 (.bin .gtr none (.t 14) (.c (.int .i64 1))),zA 16 (.pick (.t 12) (.t 15) (.c (.bool false))),zM 2 16] false [2] []) .ret))
def kp26 : List (Nat × Keep) := [(0, ⟨[1], [1], []⟩),
  (1, ⟨[2], [], []⟩)]
theorem c26 : (Tryz.f26.body.bind fun c => compC Tryz.prog 17 [] kp26 c) = some ic26 := by kernel_rfl
theorem e26 {args : List AV} {r : AV} (ha : args.length ≤ 17) (h : VC e0 ic26 (retQ [(2, none)] r) ⟨argT 0 args, []⟩) : Fn 26 args r := fn_of Tryz.func26 rfl (by kernel_rfl) c26 ha (by decide) h
inductive Rs where
  | err (k : Int)
  | ok (neg : Bool) (c : Nat) (e : Int)
def Rs.av : Rs → AV
  | .err k => .tup [zD, i64 k]
  | .ok neg c e => .tup [N neg c e, i64 0]
def plS (m : Int) (neg : Bool) (c : Nat) (e p : Int) : Rs :=
  if good8 m = false then .err 1 else if fits c e p = true then .ok neg c e else if m = 7 then .err 11 else .ok neg (rq m neg c (10 ^ (p - e).toNat)) p
theorem plR_av (m : Int) (neg : Bool) (c : Nat) (e p : Int) : plR m neg c e p = (plS m neg c e p).av := by
  unfold plR plS
  split
  · rfl
  · split
    · rfl
    · split <;> rfl
def sgS (m : Int) (neg : Bool) (c : Nat) (e n : Int) : Rs := if n < 1 then .err 1 else plS m neg c e (top c e - n + 1)
theorem sgR_av (m : Int) (neg : Bool) (c : Nat) (e n : Int) : sgR m neg c e n = (sgS m neg c e n).av := by
  unfold sgR sgS
  split
  · rfl
  · exact plR_av _ _ _ _ _
def inS (m : Int) (neg : Bool) (c : Nat) (e : Int) (b : Nat) (p : Int) : Rs :=
  let E := if p < e then p else e
  let a := c * 10 ^ (e - E).toNat
  let w := b * 10 ^ (p - E).toNat
  if good8 m = false then .err 1 else if a % w = 0 then .ok neg c e else if m = 7 then .err 11 else .ok neg (rq m neg a w * w) E
theorem inR_av (m : Int) (neg : Bool) (c : Nat) (e : Int) (b : Nat) (p : Int) : inR m neg c e b p = (inS m neg c e b p).av := by
  unfold inR inS
  simp only
  generalize (if p < e then p else e) = E
  split
  · rfl
  · split
    · rfl
    · split <;> rfl
def Pat.av (p : Pat) : AV := .agg [items p.pre, items p.suf, .bool p.hasNeg, items p.npre, items p.nsuf, i64 p.minInt, i64 p.maxInt, i64 p.minFrac, i64 p.maxFrac, i64 p.minSig, i64 p.maxSig, i64 p.prim, i64 p.sec, .str p.inc, .bool p.sci, i64 p.minExp, .bool p.plusExp, i64 p.padAt, .int .i32 p.pad, i64 p.width]
def Pat.mult (p : Pat) : Nat := if p.has 4 = true then 2 else if p.has 5 = true then 3 else 0
theorem Pat.mult_le (p : Pat) : p.mult ≤ 3 := by unfold Pat.mult; split; · omega
                                                 · split <;> omega
structure Pat.Ok (p : Pat) : Prop where
  lens : (p.pre ++ p.suf ++ p.npre ++ p.nsuf).length < 1000
  cnt : p.minInt ≤ 40 ∧ p.maxInt ≤ 40 ∧ p.minFrac ≤ p.maxFrac ∧ p.maxFrac ≤ 40 ∧ p.minSig ≤ p.maxSig ∧ p.maxSig ≤ 40
  inc : dgs p.inc = true ∧ p.inc.length ≤ 40 ∧ (p.inc ≠ [] → dv p.inc ≠ 0)
theorem con67 {p : Pat} (h : p.Ok) (k : Int) : Fn 67 [p.av, i64 k] (.bool (p.has k)) := by
  have c := con95 (ls := [p.pre, p.suf, p.npre, p.nsuf]) (by simp) (by have := h.lens; simpa using this) k
  have hR : p.has k = ([p.pre, p.suf, p.npre, p.nsuf].flatten.any fun x => x.1 == k) := by simp [Pat.has]
  rw [hR]
  simp only [List.map_cons, List.map_nil, items] at c
  refine e67 (by simp) ?_
  simp only [ic67, Pat.av, items, wkA, Nat.reduceEqDiff, Nat.reduceAdd, Nat.reduceSub, Nat.reduceLeDiff, Nat.reduceLT, Nat.reduceBEq, Nat.reduceBNe, reduceCtorEq]
  exact callF c rfl (by simp only [wkA, Nat.reduceEqDiff, Nat.reduceAdd, Nat.reduceSub, Nat.reduceLeDiff, Nat.reduceLT, Nat.reduceBEq, Nat.reduceBNe, reduceCtorEq])
theorem con41 {p : Pat} (h : p.Ok) : Fn 41 [p.av] (i64 p.mult) := by
  have c4 := con67 h 4
  have c5 := con67 h 5
  refine e41 (by simp) ?_
  unfold Pat.mult
  cases h4 : p.has 4 with
  | true =>
    rw [h4] at c4
    rw [if_pos rfl]
    simp only [Pat.av, items, ic41, wkA, Nat.reduceEqDiff, Nat.reduceAdd, Nat.reduceSub, Nat.reduceLeDiff, Nat.reduceLT, Nat.reduceBEq, Nat.reduceBNe, reduceCtorEq] at c4 ⊢
    refine callF c4 rfl ?_
    simp only [wkA, Nat.reduceEqDiff, Nat.reduceAdd, Nat.reduceSub, Nat.reduceLeDiff, Nat.reduceLT, Nat.reduceBEq, Nat.reduceBNe, reduceCtorEq]
    rfl
  | false =>
    rw [h4] at c4
    rw [if_neg (by simp)]
    cases h5 : p.has 5 with
    | true =>
      rw [h5] at c5
      rw [if_pos rfl]
      simp only [Pat.av, items, ic41, wkA, Nat.reduceEqDiff, Nat.reduceAdd, Nat.reduceSub, Nat.reduceLeDiff, Nat.reduceLT, Nat.reduceBEq, Nat.reduceBNe, reduceCtorEq] at c4 c5 ⊢
      refine callF c4 rfl ?_
      simp only [wkA, Nat.reduceEqDiff, Nat.reduceAdd, Nat.reduceSub, Nat.reduceLeDiff, Nat.reduceLT, Nat.reduceBEq, Nat.reduceBNe, reduceCtorEq]
      refine callF c5 rfl ?_
      simp only [wkA, Nat.reduceEqDiff, Nat.reduceAdd, Nat.reduceSub, Nat.reduceLeDiff, Nat.reduceLT, Nat.reduceBEq, Nat.reduceBNe, reduceCtorEq]
      rfl
    | false =>
      rw [h5] at c5
      rw [if_neg (by simp)]
      simp only [Pat.av, items, ic41, wkA, Nat.reduceEqDiff, Nat.reduceAdd, Nat.reduceSub, Nat.reduceLeDiff, Nat.reduceLT, Nat.reduceBEq, Nat.reduceBNe, reduceCtorEq] at c4 c5 ⊢
      refine callF c4 rfl ?_
      simp only [wkA, Nat.reduceEqDiff, Nat.reduceAdd, Nat.reduceSub, Nat.reduceLeDiff, Nat.reduceLT, Nat.reduceBEq, Nat.reduceBNe, reduceCtorEq]
      refine callF c5 rfl ?_
      simp only [ic41_1, wkA, Nat.reduceEqDiff, Nat.reduceAdd, Nat.reduceSub, Nat.reduceLeDiff, Nat.reduceLT, Nat.reduceBEq, Nat.reduceBNe, reduceCtorEq]
      rfl
def Pat.eng (p : Pat) : Bool := p.sci && decide (p.maxInt > p.minInt) && decide (p.maxInt > 1)
theorem con26 (p : Pat) : Fn 26 [p.av] (.bool p.eng) := by
  refine e26 (by simp) ?_
  unfold Pat.eng
  cases h1 : p.sci with
  | false =>
    simp only [Pat.av, items, ic26, wkA, Nat.reduceEqDiff, Nat.reduceAdd, Nat.reduceSub, Nat.reduceLeDiff, Nat.reduceLT, Nat.reduceBEq, Nat.reduceBNe, reduceCtorEq, h1, Bool.false_and]
  | true =>
    have e1 : decide ((p.maxInt : Int) > p.minInt) = decide (p.maxInt > p.minInt) := by rw [decide_eq_decide]; omega
    have e2 : decide ((p.maxInt : Int) > 1) = decide (p.maxInt > 1) := by rw [decide_eq_decide]; omega
    cases h2 : decide (p.maxInt > p.minInt) with
    | false =>
      simp only [Pat.av, items, ic26, wkA, Nat.reduceEqDiff, Nat.reduceAdd, Nat.reduceSub, Nat.reduceLeDiff, Nat.reduceLT, Nat.reduceBEq, Nat.reduceBNe, reduceCtorEq, h1, e1, h2, Bool.false_and]
    | true =>
      simp only [Pat.av, items, ic26, wkA, Nat.reduceEqDiff, Nat.reduceAdd, Nat.reduceSub, Nat.reduceLeDiff, Nat.reduceLT, Nat.reduceBEq, Nat.reduceBNe, reduceCtorEq, h1, e1, h2, e2]
      try rfl
def Pat.whole (p : Pat) : Nat := if 0 < p.minSig ∨ (p.eng = true ∧ p.minInt = 0) ∨ p.minInt + p.maxFrac = 0 then 1 else p.minInt
theorem con54 {p : Pat} (h : p.Ok) : Fn 54 [p.av] (i64 p.whole) := by
  have c26 := con26 p
  have hc := h.cnt
  refine e54 (by simp) ?_
  unfold Pat.whole
  by_cases h1 : 0 < p.minSig
  · have e1 : decide ((p.minSig : Int) > 0) = true := decide_eq_true (by omega)
    rw [if_pos (.inl h1)]
    simp only [Pat.av, items, ic54, wkA, Nat.reduceEqDiff, Nat.reduceAdd, Nat.reduceSub, Nat.reduceLeDiff, Nat.reduceLT, Nat.reduceBEq, Nat.reduceBNe, reduceCtorEq, e1]
    simp only [ic54_1, wkA, Nat.reduceEqDiff, Nat.reduceAdd, Nat.reduceSub, Nat.reduceLeDiff, Nat.reduceLT, Nat.reduceBEq, Nat.reduceBNe, reduceCtorEq]
    rfl
  · have e1 : decide ((p.minSig : Int) > 0) = false := decide_eq_false (by omega)
    have w1 : IntKind.i64.wrap ((p.minInt : Int) + p.maxFrac) = (p.minInt : Int) + p.maxFrac := by rw [wrap64] <;> omega
    have e3 : ((p.minInt : Int) == 0) = decide (p.minInt = 0) := by rw [Bool.eq_iff_iff, beq_iff_eq, decide_eq_true_eq]; omega
    have e4 : ((p.minInt : Int) + p.maxFrac == 0) = decide (p.minInt + p.maxFrac = 0) := by rw [Bool.eq_iff_iff, beq_iff_eq, decide_eq_true_eq]; omega
    cases h2 : p.eng with
    | false =>
      rw [h2] at c26
      by_cases h4 : p.minInt + p.maxFrac = 0
      · rw [if_pos (.inr (.inr h4))]
        simp only [Pat.av, items, ic54, wkA, Nat.reduceEqDiff, Nat.reduceAdd, Nat.reduceSub, Nat.reduceLeDiff, Nat.reduceLT, Nat.reduceBEq, Nat.reduceBNe, reduceCtorEq, e1] at c26 ⊢
        refine callF c26 rfl ?_
        simp only [wkA, Nat.reduceEqDiff, Nat.reduceAdd, Nat.reduceSub, Nat.reduceLeDiff, Nat.reduceLT, Nat.reduceBEq, Nat.reduceBNe, reduceCtorEq, w1, e4, decide_eq_true h4]
        simp only [ic54_1, wkA, Nat.reduceEqDiff, Nat.reduceAdd, Nat.reduceSub, Nat.reduceLeDiff, Nat.reduceLT, Nat.reduceBEq, Nat.reduceBNe, reduceCtorEq]
        rfl
      · rw [if_neg (by rintro (h | h | h); · exact h1 h
                       · exact absurd h.1 (by simp)
                       · exact h4 h)]
        simp only [Pat.av, items, ic54, wkA, Nat.reduceEqDiff, Nat.reduceAdd, Nat.reduceSub, Nat.reduceLeDiff, Nat.reduceLT, Nat.reduceBEq, Nat.reduceBNe, reduceCtorEq, e1] at c26 ⊢
        refine callF c26 rfl ?_
        simp only [wkA, Nat.reduceEqDiff, Nat.reduceAdd, Nat.reduceSub, Nat.reduceLeDiff, Nat.reduceLT, Nat.reduceBEq, Nat.reduceBNe, reduceCtorEq, w1, e4, decide_eq_false h4]
        simp only [ic54_1, ic54_2, wkA, Nat.reduceEqDiff, Nat.reduceAdd, Nat.reduceSub, Nat.reduceLeDiff, Nat.reduceLT, Nat.reduceBEq, Nat.reduceBNe, reduceCtorEq]
    | true =>
      rw [h2] at c26
      by_cases h5 : p.minInt = 0
      · rw [if_pos (.inr (.inl ⟨rfl, h5⟩))]
        simp only [Pat.av, items, ic54, wkA, Nat.reduceEqDiff, Nat.reduceAdd, Nat.reduceSub, Nat.reduceLeDiff, Nat.reduceLT, Nat.reduceBEq, Nat.reduceBNe, reduceCtorEq, e1] at c26 ⊢
        refine callF c26 rfl ?_
        simp only [wkA, Nat.reduceEqDiff, Nat.reduceAdd, Nat.reduceSub, Nat.reduceLeDiff, Nat.reduceLT, Nat.reduceBEq, Nat.reduceBNe, reduceCtorEq, e3, decide_eq_true h5]
        simp only [ic54_1, wkA, Nat.reduceEqDiff, Nat.reduceAdd, Nat.reduceSub, Nat.reduceLeDiff, Nat.reduceLT, Nat.reduceBEq, Nat.reduceBNe, reduceCtorEq]
        rfl
      · by_cases h4 : p.minInt + p.maxFrac = 0
        · omega
        · rw [if_neg (by rintro (h | h | h); · exact h1 h
                         · exact h5 h.2
                         · exact h4 h)]
          simp only [Pat.av, items, ic54, wkA, Nat.reduceEqDiff, Nat.reduceAdd, Nat.reduceSub, Nat.reduceLeDiff, Nat.reduceLT, Nat.reduceBEq, Nat.reduceBNe, reduceCtorEq, e1] at c26 ⊢
          refine callF c26 rfl ?_
          simp only [wkA, Nat.reduceEqDiff, Nat.reduceAdd, Nat.reduceSub, Nat.reduceLeDiff, Nat.reduceLT, Nat.reduceBEq, Nat.reduceBNe, reduceCtorEq, e3, decide_eq_false h5, w1, e4, decide_eq_false h4]
          simp only [ic54_1, ic54_2, wkA, Nat.reduceEqDiff, Nat.reduceAdd, Nat.reduceSub, Nat.reduceLeDiff, Nat.reduceLT, Nat.reduceBEq, Nat.reduceBNe, reduceCtorEq]
theorem Pat.whole_le {p : Pat} (h : p.Ok) : p.whole ≤ 40 := by
  have := h.cnt
  unfold Pat.whole; split <;> omega
def Pat.least (p : Pat) : Nat := if 0 < p.minSig then p.minSig else p.whole + p.minFrac
def Pat.most (p : Pat) : Nat := if 0 < p.minSig then p.maxSig else p.whole + p.maxFrac
theorem Pat.most_le {p : Pat} (h : p.Ok) : p.most ≤ 80 := by
  have := h.cnt
  have := Pat.whole_le h
  unfold Pat.most; split <;> omega
theorem con24 {p : Pat} (h : p.Ok) : Fn 24 [p.av] (.tup [i64 p.least, i64 p.most]) := by
  have c54 := con54 h
  have hc := h.cnt
  have hw := Pat.whole_le h
  refine e24 (by simp) ?_
  unfold Pat.least Pat.most
  by_cases h1 : 0 < p.minSig
  · have e1 : decide ((p.minSig : Int) > 0) = true := decide_eq_true (by omega)
    rw [if_pos h1, if_pos h1]
    simp only [Pat.av, items, ic24, wkA, Nat.reduceEqDiff, Nat.reduceAdd, Nat.reduceSub, Nat.reduceLeDiff, Nat.reduceLT, Nat.reduceBEq, Nat.reduceBNe, reduceCtorEq, e1]
  · have e1 : decide ((p.minSig : Int) > 0) = false := decide_eq_false (by omega)
    rw [if_neg h1, if_neg h1]
    have w1 : IntKind.i64.wrap ((p.whole : Int) + p.minFrac) = ((p.whole + p.minFrac : Nat) : Int) := by rw [wrap64] <;> omega
    have w2 : IntKind.i64.wrap ((p.whole : Int) + p.maxFrac) = ((p.whole + p.maxFrac : Nat) : Int) := by rw [wrap64] <;> omega
    simp only [Pat.av, items, ic24, wkA, Nat.reduceEqDiff, Nat.reduceAdd, Nat.reduceSub, Nat.reduceLeDiff, Nat.reduceLT, Nat.reduceBEq, Nat.reduceBNe, reduceCtorEq, e1] at c54 ⊢
    simp only [ic24_1, wkA, Nat.reduceEqDiff, Nat.reduceAdd, Nat.reduceSub, Nat.reduceLeDiff, Nat.reduceLT, Nat.reduceBEq, Nat.reduceBNe, reduceCtorEq]
    refine callFD c54 rfl ?_
    simp only [wkA, Nat.reduceEqDiff, Nat.reduceAdd, Nat.reduceSub, Nat.reduceLeDiff, Nat.reduceLT, Nat.reduceBEq, Nat.reduceBNe, reduceCtorEq, w1]
    refine callFD c54 rfl ?_
    simp only [wkA, Nat.reduceEqDiff, Nat.reduceAdd, Nat.reduceSub, Nat.reduceLeDiff, Nat.reduceLT, Nat.reduceBEq, Nat.reduceBNe, reduceCtorEq, w1, w2]
theorem Rs.two (r : Rs) : ∃ a b d k, r.av = .tup [.agg [a, b, d], i64 k] := by
  cases r with
  | err k => exact ⟨_, _, _, _, rfl⟩
  | ok neg c e => exact ⟨_, _, _, _, rfl⟩
def rdS (p : Pat) (m : Int) (neg : Bool) (c : Nat) (e : Int) : Rs :=
  if p.sci = true ∨ 0 < p.minSig then sgS m neg c e p.most
  else if p.inc ≠ [] then inS m neg c e (dv p.inc) (-(p.maxFrac : Int))
  else plS m neg c e (-(p.maxFrac : Int))
theorem con42 {p : Pat} (h : p.Ok) {m : Int} {neg : Bool} {s : List UInt8} {e : Int} (hs : okD s e) (he : -3500 < e ∧ e < 3500) (hl : s.length < 9000) : Fn 42 [p.av, i64 m, D neg s e] (rdS p m neg (dv s) e).av := by
  have hc := h.cnt
  have hm := Pat.most_le h
  have w1 : IntKind.i64.wrap (0 - (p.maxFrac : Int)) = -(p.maxFrac : Int) := by rw [wrap64] <;> omega
  have c24 := con24 h
  have sigp : (p.sci = true ∨ 0 < p.minSig) → VC e0 (.seq (.reg [⟨(some 19), (.ld (some 20) (.t 3)), none, .any⟩, ⟨(some 20), (.call 24 [((.t 19), none)]), none, .any⟩, ⟨(some 18), (.mv (.t 20)), none, .any⟩, ⟨(some 21), (.ext (.t 18) 0), none, .any⟩, ⟨(some 22), (.ext (.t 18) 1), none, .any⟩, ⟨(some 8), (.mv (.t 21)), none, .any⟩, ⟨(some 9), (.mv (.t 22)), none, .any⟩] false [1, 5, 6, 9] [5, 6]) (.seq (.reg [⟨(some 23), (.mv (.t 1)), none, .any⟩, ⟨(some 24), (.ld (some 3) (.t 5)), none, .any⟩, ⟨(some 25), (.mv (.t 9)), none, .any⟩, ⟨(some 26), (.call 68 [((.t 23), none), ((.t 24), none), ((.t 25), none)]), none, .any⟩, ⟨(some 27), (.ext (.t 26) 0), none, .any⟩, ⟨(some 28), (.ext (.t 26) 1), none, .any⟩, ⟨none, (.st 3 (.t 6) (.t 27)), none, .any⟩, ⟨(some 7), (.mv (.t 28)), none, .any⟩] false [6, 7] [6]) .ret)) (retQ [(6, some (some 3)), (7, none)] (rdS p m neg (dv s) e).av) ⟨[(1, i64 m), (3, .box 3 0), (5, .box 5 0), (6, .box 6 0), (10, .bool true)], [(3, .box 26 (avCells p.av)), (5, .box 23 [.bool neg, .str s, i64 e]), (6, .box 23 [.bool false, .str [], i64 0])]⟩ := by
    intro hsg
    have c68 := con68 (m := m) (neg := neg) (n := p.most) hs (by omega) (by omega) (by omega)
    rw [sgR_av] at c68
    rw [rdS, if_pos hsg]
    obtain ⟨a, b, d, k, hab⟩ := Rs.two (sgS m neg (dv s) e p.most)
    rw [hab] at c68 ⊢
    simp only [Pat.av, items, D, wkA, Nat.reduceEqDiff, Nat.reduceAdd, Nat.reduceSub, Nat.reduceLeDiff, Nat.reduceLT, Nat.reduceBEq, Nat.reduceBNe, reduceCtorEq] at c24 c68 ⊢
    refine callF c24 rfl ?_
    simp only [wkA, Nat.reduceEqDiff, Nat.reduceAdd, Nat.reduceSub, Nat.reduceLeDiff, Nat.reduceLT, Nat.reduceBEq, Nat.reduceBNe, reduceCtorEq]
    refine callF c68 rfl ?_
    simp only [wkA, Nat.reduceEqDiff, Nat.reduceAdd, Nat.reduceSub, Nat.reduceLeDiff, Nat.reduceLT, Nat.reduceBEq, Nat.reduceBNe, reduceCtorEq]
  refine e42 (by simp) ?_
  cases h1 : p.sci with
  | true =>
    have := sigp (.inl h1)
    simp only [Pat.av, items, D, ic42, wkA, Nat.reduceEqDiff, Nat.reduceAdd, Nat.reduceSub, Nat.reduceLeDiff, Nat.reduceLT, Nat.reduceBEq, Nat.reduceBNe, reduceCtorEq, h1] at this ⊢
    exact this
  | false =>
    by_cases h2 : 0 < p.minSig
    · have e1 : decide ((p.minSig : Int) > 0) = true := decide_eq_true (by omega)
      have := sigp (.inr h2)
      simp only [Pat.av, items, D, ic42, wkA, Nat.reduceEqDiff, Nat.reduceAdd, Nat.reduceSub, Nat.reduceLeDiff, Nat.reduceLT, Nat.reduceBEq, Nat.reduceBNe, reduceCtorEq, h1, e1] at this ⊢
      exact this
    · have e1 : decide ((p.minSig : Int) > 0) = false := decide_eq_false (by omega)
      rw [rdS, if_neg (by rw [h1]; simp; omega)]
      by_cases h3 : p.inc = []
      · have e2 : (p.inc != []) = false := by rw [h3]; rfl
        rw [if_neg (by simp [h3])]
        have c69 := con69 (m := m) (neg := neg) (p := -(p.maxFrac : Int)) hs (by omega) (by omega) (by omega) (by omega)
        rw [plR_av] at c69
        obtain ⟨a, b, d, k, hab⟩ := Rs.two (plS m neg (dv s) e (-(p.maxFrac : Int)))
        rw [hab] at c69 ⊢
        simp only [Pat.av, items, D, ic42, wkA, Nat.reduceEqDiff, Nat.reduceAdd, Nat.reduceSub, Nat.reduceLeDiff, Nat.reduceLT, Nat.reduceBEq, Nat.reduceBNe, reduceCtorEq, h1, e1, e2] at c69 ⊢
        simp only [ic42_1, wkA, Nat.reduceEqDiff, Nat.reduceAdd, Nat.reduceSub, Nat.reduceLeDiff, Nat.reduceLT, Nat.reduceBEq, Nat.reduceBNe, reduceCtorEq, w1]
        refine callF c69 rfl ?_
        simp only [wkA, Nat.reduceEqDiff, Nat.reduceAdd, Nat.reduceSub, Nat.reduceLeDiff, Nat.reduceLT, Nat.reduceBEq, Nat.reduceBNe, reduceCtorEq]
      · have e2 : (p.inc != []) = true := by rw [bne_iff_ne]; exact h3
        rw [if_pos h3]
        have c45 := con45 (m := m) (neg := neg) (st := p.inc) (p := -(p.maxFrac : Int)) hs h.inc.1 h.inc.2.1 (h.inc.2.2 h3) (by omega) (by omega) (by omega)
        rw [inR_av] at c45
        obtain ⟨a, b, d, k, hab⟩ := Rs.two (inS m neg (dv s) e (dv p.inc) (-(p.maxFrac : Int)))
        rw [hab] at c45 ⊢
        simp only [Pat.av, items, D, ic42, wkA, Nat.reduceEqDiff, Nat.reduceAdd, Nat.reduceSub, Nat.reduceLeDiff, Nat.reduceLT, Nat.reduceBEq, Nat.reduceBNe, reduceCtorEq, h1, e1, e2, w1] at c45 ⊢
        refine callF c45 rfl ?_
        simp only [wkA, Nat.reduceEqDiff, Nat.reduceAdd, Nat.reduceSub, Nat.reduceLeDiff, Nat.reduceLT, Nat.reduceBEq, Nat.reduceBNe, reduceCtorEq]
theorem plS_err {m : Int} {neg : Bool} {c : Nat} {e p k : Int} (h : plS m neg c e p = .err k) : k = 1 ∨ k = 11 := by
  unfold plS at h
  split at h
  · injection h with h; omega
  · split at h
    · cases h
    · split at h
      · injection h with h; omega
      · cases h
theorem rdS_err {p : Pat} {m : Int} {neg : Bool} {c : Nat} {e k : Int} (h : rdS p m neg c e = .err k) : k = 1 ∨ k = 11 := by
  unfold rdS at h
  split at h
  · unfold sgS at h
    split at h
    · injection h with h; omega
    · exact plS_err h
  · split at h
    · unfold inS at h
      simp only at h
      generalize (if -(p.maxFrac : Int) < e then -(p.maxFrac : Int) else e) = E at h
      split at h
      · injection h with h; omega
      · split at h
        · cases h
        · split at h
          · injection h with h; omega
          · cases h
    · exact plS_err h
theorem nd_succ (q : Nat) : nd (q + 1) ≤ nd q + 1 := by
  by_cases h0 : q = 0
  · rw [h0, nd_zero, nd_pos (by decide), nd_zero]; omega
  · have := nd_mul h0 1
    have := nd_mono (show q + 1 ≤ q * 10 ^ 1 by omega)
    omega
theorem nd_rq (m : Int) (neg : Bool) (c w : Nat) : nd (rq m neg c w) ≤ nd c + 1 := by
  have h1 := nd_mono (rq_le m neg c w)
  have h2 := nd_succ (c / w)
  have h3 := nd_mono (Nat.div_le_self c w)
  omega
theorem nd_mulLe (a b : Nat) : nd (a * b) ≤ nd a + nd b := by
  refine nd_le ?_
  rw [Nat.pow_add]
  exact Nat.mul_lt_mul_of_lt_of_lt (lt_nd a) (lt_nd b)
theorem plS_ok {m : Int} {neg n : Bool} {c q : Nat} {e p E : Int} (h : plS m neg c e p = .ok n q E) : n = neg ∧ nd q ≤ nd c + 1 ∧ (E = e ∨ E = p) := by
  unfold plS at h
  split at h
  · cases h
  · split at h
    · injection h with h1 h2 h3; subst h1 h2 h3; exact ⟨rfl, by omega, .inl rfl⟩
    · split at h
      · cases h
      · injection h with h1 h2 h3; subst h1 h2 h3; exact ⟨rfl, nd_rq _ _ _ _, .inr rfl⟩
theorem rdS_ok {p : Pat} (hp : p.Ok) {m : Int} {neg n : Bool} {c q : Nat} {e E : Int} (hc : nd c < 2000) (he : -3000 < e ∧ e < 3000) (h : rdS p m neg c e = .ok n q E) : n = neg ∧ nd q < 20000 ∧ -8000 < E ∧ E < 8000 := by
  have h1 := hp.cnt
  have h2 := Pat.most_le hp
  unfold rdS at h
  split at h
  · unfold sgS at h
    split at h
    · cases h
    · obtain ⟨h3, h4, h5⟩ := plS_ok h
      have ht : -3100 < top c e ∧ top c e < 5100 := by unfold top; split <;> omega
      exact ⟨h3, by omega, by rcases h5 with h5 | h5 <;> omega⟩
  · split at h
    · unfold inS at h
      simp only at h
      have hE : ∃ E', E' = (if -(p.maxFrac : Int) < e then -(p.maxFrac : Int) else e) := ⟨_, rfl⟩
      obtain ⟨E', hE⟩ := hE
      have hE2 : E' ≤ e ∧ E' ≤ -(p.maxFrac : Int) ∧ -3000 < E' := by rw [hE]; split <;> omega
      rw [← hE] at h
      have hb := nd_dv hp.inc.1
      have hb2 := hp.inc.2.1
      split at h
      · cases h
      · split at h
        · injection h with h3 h4 h5; subst h3 h4 h5; exact ⟨rfl, by omega, by omega, by omega⟩
        · split at h
          · cases h
          · injection h with h3 h4 h5
            subst h3 h4 h5
            refine ⟨rfl, ?_, by omega, by omega⟩
            have g1 := nd_mulLe (rq m neg (c * 10 ^ (e - E').toNat) (dv p.inc * 10 ^ (-(p.maxFrac : Int) - E').toNat)) (dv p.inc * 10 ^ (-(p.maxFrac : Int) - E').toNat)
            have g2 := nd_rq m neg (c * 10 ^ (e - E').toNat) (dv p.inc * 10 ^ (-(p.maxFrac : Int) - E').toNat)
            have g3 : nd (c * 10 ^ (e - E').toNat) ≤ nd c + (e - E').toNat := nd_mul_le
            have g4 : nd (dv p.inc * 10 ^ (-(p.maxFrac : Int) - E').toNat) ≤ nd (dv p.inc) + (-(p.maxFrac : Int) - E').toNat := nd_mul_le
            omega
    · obtain ⟨h3, h4, h5⟩ := plS_ok h
      exact ⟨h3, by omega, by rcases h5 with h5 | h5 <;> omega⟩
def shS (p : Pat) (m : Int) (neg : Bool) (s : List UInt8) (e : Int) : Rs :=
  if good8 m = false then .err 1 else if goodD s e = false then .err 9 else if rngd (dv s) e = false then .err 10
  else match rdS p m neg (core (dv s)) (ne (dv s) (e + p.mult)) with
    | .err k => .err k
    | .ok n q E => if rngd q (E - p.mult) = true then .ok n q (E - p.mult) else .err 10
theorem N_core (neg : Bool) (c : Nat) (e k : Int) : N neg (core c) (ne c e + k) = N neg c (e + k) := by
  by_cases h : c = 0
  · subst h; rw [core_zero, N_zero, N_zero]
  · rw [N, N, core_core, ne_pos h, ne_pos (core_ne h), ne_pos h, tz_core h]
    congr 1; omega
theorem rngd_core (c : Nat) (e k : Int) : rngd (core c) (ne c e + k) = rngd c (e + k) := by
  by_cases h : c = 0
  · subst h; rw [core_zero]; rfl
  · have h1 : ne (core c) (ne c e + k) = ne c (e + k) := by rw [ne_pos (core_ne h), ne_pos h, ne_pos h, tz_core h]; omega
    have h2 : top (core c) (ne c e + k) = top c (e + k) := by rw [top, if_neg (core_ne h), top, if_neg h, ne_pos h, nd_core h]; omega
    have h3 : decide (core c = 0) = decide (c = 0) := by rw [decide_eq_decide]; exact ⟨fun h4 => absurd h4 (core_ne h), fun h4 => absurd h4 h⟩
    rw [rngd, rngd, h1, h2, h3]
theorem con15 {p : Pat} (h : p.Ok) {m : Int} {neg : Bool} {s : List UInt8} {e : Int} : Fn 15 [p.av, i64 m, D neg s e] (shS p m neg s e).av := by
  have c38 := con38 m
  have c39 := con39 (neg := neg) (s := s) (e := e)
  have c41 := con41 h
  refine e15 (by simp) ?_
  unfold shS
  cases h1 : good8 m with
  | false =>
    have h1' : (decide (0 ≤ m) && decide (m < 8)) = false := h1
    rw [h1'] at c38
    rw [if_pos rfl]
    simp only [Pat.av, items, D, ic15, wkA, Nat.reduceEqDiff, Nat.reduceAdd, Nat.reduceSub, Nat.reduceLeDiff, Nat.reduceLT, Nat.reduceBEq, Nat.reduceBNe, reduceCtorEq] at c38 ⊢
    refine callF c38 rfl ?_
    simp only [wkA, Nat.reduceEqDiff, Nat.reduceAdd, Nat.reduceSub, Nat.reduceLeDiff, Nat.reduceLT, Nat.reduceBEq, Nat.reduceBNe, reduceCtorEq, Bool.not_false]
    rfl
  | true =>
    have h1' : (decide (0 ≤ m) && decide (m < 8)) = true := h1
    rw [h1'] at c38
    rw [if_neg (by simp)]
    cases h2 : goodD s e with
    | false =>
      rw [h2] at c39
      rw [if_pos rfl]
      simp only [Pat.av, items, D, ic15, wkA, Nat.reduceEqDiff, Nat.reduceAdd, Nat.reduceSub, Nat.reduceLeDiff, Nat.reduceLT, Nat.reduceBEq, Nat.reduceBNe, reduceCtorEq] at c38 c39 ⊢
      refine callF c38 rfl ?_
      simp only [wkA, Nat.reduceEqDiff, Nat.reduceAdd, Nat.reduceSub, Nat.reduceLeDiff, Nat.reduceLT, Nat.reduceBEq, Nat.reduceBNe, reduceCtorEq, Bool.not_true]
      refine callF c39 rfl ?_
      simp only [wkA, Nat.reduceEqDiff, Nat.reduceAdd, Nat.reduceSub, Nat.reduceLeDiff, Nat.reduceLT, Nat.reduceBEq, Nat.reduceBNe, reduceCtorEq, Bool.not_false]
      rfl
    | true =>
      rw [h2] at c39
      rw [if_neg (by simp)]
      obtain ⟨hs, hl, he1, he2⟩ := goodD_ok h2
      have c40 := con40 (neg := neg) hs (by omega) (by omega)
      cases h3 : rngd (dv s) e with
      | false =>
        rw [h3] at c40
        rw [if_pos rfl]
        simp only [Pat.av, items, D, ic15, wkA, Nat.reduceEqDiff, Nat.reduceAdd, Nat.reduceSub, Nat.reduceLeDiff, Nat.reduceLT, Nat.reduceBEq, Nat.reduceBNe, reduceCtorEq] at c38 c39 c40 ⊢
        refine callF c38 rfl ?_
        simp only [wkA, Nat.reduceEqDiff, Nat.reduceAdd, Nat.reduceSub, Nat.reduceLeDiff, Nat.reduceLT, Nat.reduceBEq, Nat.reduceBNe, reduceCtorEq, Bool.not_true]
        refine callF c39 rfl ?_
        simp only [wkA, Nat.reduceEqDiff, Nat.reduceAdd, Nat.reduceSub, Nat.reduceLeDiff, Nat.reduceLT, Nat.reduceBEq, Nat.reduceBNe, reduceCtorEq, Bool.not_true]
        refine callF c40 rfl ?_
        simp only [wkA, Nat.reduceEqDiff, Nat.reduceAdd, Nat.reduceSub, Nat.reduceLeDiff, Nat.reduceLT, Nat.reduceBEq, Nat.reduceBNe, reduceCtorEq, Bool.not_false]
        rfl
      | true =>
        rw [h3] at c40
        rw [if_neg (by simp)]
        have hm := Pat.mult_le p
        have hr := nd_dv hs.1
        have c43 := con43 (neg := neg) (n := (p.mult : Int)) hs (by omega)
        have hz := tz_le (dv s)
        have hn : nd (core (dv s)) ≤ nd (dv s) := by
          by_cases h0 : dv s = 0
          · rw [h0, core_zero]; omega
          · rw [nd_core h0]; omega
        have hne : -1100 < ne (dv s) (e + p.mult) ∧ ne (dv s) (e + p.mult) < 2200 := by unfold ne; split <;> omega
        have hN := okN (c := dv s) (e := e + p.mult) (by omega) (by omega)
        have c42 := con42 h (m := m) (neg := neg) hN (by omega) (by have := text_len (core (dv s)); omega)
        rw [dv_text] at c42
        have w0 : IntKind.i64.wrap (0 - (p.mult : Int)) = -(p.mult : Int) := by rw [wrap64] <;> omega
        unfold N at c43
        cases hR : rdS p m neg (core (dv s)) (ne (dv s) (e + p.mult)) with
        | err k =>
          have hk := rdS_err hR
          rw [hR] at c42
          have hk2 : (k != 0) = true := by rw [bne_iff_ne]; omega
          change VC e0 ic15 (retQ _ (Rs.err k).av) _
          generalize text (core (dv s)) = s1 at *
          generalize ne (dv s) (e + p.mult) = x1 at *
          simp only [Pat.av, items, D, ic15, wkA, Nat.reduceEqDiff, Nat.reduceAdd, Nat.reduceSub, Nat.reduceLeDiff, Nat.reduceLT, Nat.reduceBEq, Nat.reduceBNe, reduceCtorEq, Rs.av, zD] at c38 c39 c40 c41 c42 c43 ⊢
          refine callF c38 rfl ?_
          simp only [wkA, Nat.reduceEqDiff, Nat.reduceAdd, Nat.reduceSub, Nat.reduceLeDiff, Nat.reduceLT, Nat.reduceBEq, Nat.reduceBNe, reduceCtorEq, Bool.not_true]
          refine callF c39 rfl ?_
          simp only [wkA, Nat.reduceEqDiff, Nat.reduceAdd, Nat.reduceSub, Nat.reduceLeDiff, Nat.reduceLT, Nat.reduceBEq, Nat.reduceBNe, reduceCtorEq, Bool.not_true]
          refine callF c40 rfl ?_
          simp only [wkA, Nat.reduceEqDiff, Nat.reduceAdd, Nat.reduceSub, Nat.reduceLeDiff, Nat.reduceLT, Nat.reduceBEq, Nat.reduceBNe, reduceCtorEq, Bool.not_true]
          simp only [ic15_3, wkA, Nat.reduceEqDiff, Nat.reduceAdd, Nat.reduceSub, Nat.reduceLeDiff, Nat.reduceLT, Nat.reduceBEq, Nat.reduceBNe, reduceCtorEq]
          refine callF c41 rfl ?_
          simp only [wkA, Nat.reduceEqDiff, Nat.reduceAdd, Nat.reduceSub, Nat.reduceLeDiff, Nat.reduceLT, Nat.reduceBEq, Nat.reduceBNe, reduceCtorEq]
          refine callFD c43 rfl ?_
          simp only [wkA, Nat.reduceEqDiff, Nat.reduceAdd, Nat.reduceSub, Nat.reduceLeDiff, Nat.reduceLT, Nat.reduceBEq, Nat.reduceBNe, reduceCtorEq]
          refine callFD c42 rfl ?_
          simp only [wkA, Nat.reduceEqDiff, Nat.reduceAdd, Nat.reduceSub, Nat.reduceLeDiff, Nat.reduceLT, Nat.reduceBEq, Nat.reduceBNe, reduceCtorEq, hk2]
        | ok n q E =>
          obtain ⟨rfl, hq, hE1, hE2⟩ := rdS_ok h (by omega) (by omega) hR
          rw [hR] at c42
          change VC e0 ic15 (retQ _ (if rngd q (E - p.mult) = true then Rs.ok n q (E - p.mult) else Rs.err 10).av) _
          have hq2 := okN (c := q) (e := E) (by omega) (by omega)
          have c43b := con43 (neg := n) (n := -(p.mult : Int)) hq2 (by omega)
          rw [dv_text, N_core] at c43b
          have hq3 := okN (c := q) (e := E - p.mult) (by omega) (by omega)
          have hlen := text_len (core q)
          have hnq : nd (core q) ≤ nd q := by
            by_cases h0 : q = 0
            · rw [h0, core_zero]; omega
            · rw [nd_core h0]; omega
          have hneq : ne q (E - p.mult) < 40000 := by have := tz_le q; unfold ne; split <;> omega
          have c40b := con40 (neg := n) hq3 (by omega) (by omega)
          rw [dv_text] at c40b
          have hrc := rngd_core q (E - p.mult) 0
          rw [Int.add_zero, Int.add_zero] at hrc
          rw [hrc] at c40b
          rw [show E + -(p.mult : Int) = E - p.mult by omega] at c43b
          have h00 : ((0 : Int) != 0) = false := rfl
          unfold N at c43b
          change Fn 42 _ (.tup [D n (text (core q)) (ne q E), i64 0]) at c42
          cases h5 : rngd q (E - p.mult) with
          | false =>
            rw [h5] at c40b
            rw [if_neg (by simp)]
            generalize text (core (dv s)) = s1 at *
            generalize ne (dv s) (e + p.mult) = x1 at *
            generalize text (core q) = s2 at *
            generalize ne q E = x2 at *
            generalize ne q (E - p.mult) = x3 at *
            simp only [Pat.av, items, D, ic15, wkA, Nat.reduceEqDiff, Nat.reduceAdd, Nat.reduceSub, Nat.reduceLeDiff, Nat.reduceLT, Nat.reduceBEq, Nat.reduceBNe, reduceCtorEq, Rs.av, zD] at c38 c39 c40 c41 c42 c43 c43b c40b ⊢
            refine callF c38 rfl ?_
            simp only [wkA, Nat.reduceEqDiff, Nat.reduceAdd, Nat.reduceSub, Nat.reduceLeDiff, Nat.reduceLT, Nat.reduceBEq, Nat.reduceBNe, reduceCtorEq, Bool.not_true]
            refine callF c39 rfl ?_
            simp only [wkA, Nat.reduceEqDiff, Nat.reduceAdd, Nat.reduceSub, Nat.reduceLeDiff, Nat.reduceLT, Nat.reduceBEq, Nat.reduceBNe, reduceCtorEq, Bool.not_true]
            refine callF c40 rfl ?_
            simp only [wkA, Nat.reduceEqDiff, Nat.reduceAdd, Nat.reduceSub, Nat.reduceLeDiff, Nat.reduceLT, Nat.reduceBEq, Nat.reduceBNe, reduceCtorEq, Bool.not_true]
            simp only [ic15_3, wkA, Nat.reduceEqDiff, Nat.reduceAdd, Nat.reduceSub, Nat.reduceLeDiff, Nat.reduceLT, Nat.reduceBEq, Nat.reduceBNe, reduceCtorEq]
            refine callF c41 rfl ?_
            simp only [wkA, Nat.reduceEqDiff, Nat.reduceAdd, Nat.reduceSub, Nat.reduceLeDiff, Nat.reduceLT, Nat.reduceBEq, Nat.reduceBNe, reduceCtorEq]
            refine callFD c43 rfl ?_
            simp only [wkA, Nat.reduceEqDiff, Nat.reduceAdd, Nat.reduceSub, Nat.reduceLeDiff, Nat.reduceLT, Nat.reduceBEq, Nat.reduceBNe, reduceCtorEq]
            refine callFD c42 rfl ?_
            simp only [wkA, Nat.reduceEqDiff, Nat.reduceAdd, Nat.reduceSub, Nat.reduceLeDiff, Nat.reduceLT, Nat.reduceBEq, Nat.reduceBNe, reduceCtorEq, h00]
            simp only [ic15_2, wkA, Nat.reduceEqDiff, Nat.reduceAdd, Nat.reduceSub, Nat.reduceLeDiff, Nat.reduceLT, Nat.reduceBEq, Nat.reduceBNe, reduceCtorEq, w0]
            refine callF c43b rfl ?_
            simp only [wkA, Nat.reduceEqDiff, Nat.reduceAdd, Nat.reduceSub, Nat.reduceLeDiff, Nat.reduceLT, Nat.reduceBEq, Nat.reduceBNe, reduceCtorEq]
            refine callF c40b rfl ?_
            simp only [wkA, Nat.reduceEqDiff, Nat.reduceAdd, Nat.reduceSub, Nat.reduceLeDiff, Nat.reduceLT, Nat.reduceBEq, Nat.reduceBNe, reduceCtorEq, Bool.not_false]
          | true =>
            rw [h5] at c40b
            rw [if_pos rfl]
            change VC e0 ic15 (retQ _ (.tup [D n (text (core q)) (ne q (E - p.mult)), i64 0])) _
            generalize text (core (dv s)) = s1 at *
            generalize ne (dv s) (e + p.mult) = x1 at *
            generalize text (core q) = s2 at *
            generalize ne q E = x2 at *
            generalize ne q (E - p.mult) = x3 at *
            simp only [Pat.av, items, D, ic15, wkA, Nat.reduceEqDiff, Nat.reduceAdd, Nat.reduceSub, Nat.reduceLeDiff, Nat.reduceLT, Nat.reduceBEq, Nat.reduceBNe, reduceCtorEq, Rs.av, zD] at c38 c39 c40 c41 c42 c43 c43b c40b ⊢
            refine callF c38 rfl ?_
            simp only [wkA, Nat.reduceEqDiff, Nat.reduceAdd, Nat.reduceSub, Nat.reduceLeDiff, Nat.reduceLT, Nat.reduceBEq, Nat.reduceBNe, reduceCtorEq, Bool.not_true]
            refine callF c39 rfl ?_
            simp only [wkA, Nat.reduceEqDiff, Nat.reduceAdd, Nat.reduceSub, Nat.reduceLeDiff, Nat.reduceLT, Nat.reduceBEq, Nat.reduceBNe, reduceCtorEq, Bool.not_true]
            refine callF c40 rfl ?_
            simp only [wkA, Nat.reduceEqDiff, Nat.reduceAdd, Nat.reduceSub, Nat.reduceLeDiff, Nat.reduceLT, Nat.reduceBEq, Nat.reduceBNe, reduceCtorEq, Bool.not_true]
            simp only [ic15_3, wkA, Nat.reduceEqDiff, Nat.reduceAdd, Nat.reduceSub, Nat.reduceLeDiff, Nat.reduceLT, Nat.reduceBEq, Nat.reduceBNe, reduceCtorEq]
            refine callF c41 rfl ?_
            simp only [wkA, Nat.reduceEqDiff, Nat.reduceAdd, Nat.reduceSub, Nat.reduceLeDiff, Nat.reduceLT, Nat.reduceBEq, Nat.reduceBNe, reduceCtorEq]
            refine callFD c43 rfl ?_
            simp only [wkA, Nat.reduceEqDiff, Nat.reduceAdd, Nat.reduceSub, Nat.reduceLeDiff, Nat.reduceLT, Nat.reduceBEq, Nat.reduceBNe, reduceCtorEq]
            refine callFD c42 rfl ?_
            simp only [wkA, Nat.reduceEqDiff, Nat.reduceAdd, Nat.reduceSub, Nat.reduceLeDiff, Nat.reduceLT, Nat.reduceBEq, Nat.reduceBNe, reduceCtorEq, h00]
            simp only [ic15_2, wkA, Nat.reduceEqDiff, Nat.reduceAdd, Nat.reduceSub, Nat.reduceLeDiff, Nat.reduceLT, Nat.reduceBEq, Nat.reduceBNe, reduceCtorEq, w0]
            refine callF c43b rfl ?_
            simp only [wkA, Nat.reduceEqDiff, Nat.reduceAdd, Nat.reduceSub, Nat.reduceLeDiff, Nat.reduceLT, Nat.reduceBEq, Nat.reduceBNe, reduceCtorEq]
            refine callF c40b rfl ?_
            simp only [wkA, Nat.reduceEqDiff, Nat.reduceAdd, Nat.reduceSub, Nat.reduceLeDiff, Nat.reduceLT, Nat.reduceBEq, Nat.reduceBNe, reduceCtorEq, Bool.not_true]
            simp only [ic15_1, wkA, Nat.reduceEqDiff, Nat.reduceAdd, Nat.reduceSub, Nat.reduceLeDiff, Nat.reduceLT, Nat.reduceBEq, Nat.reduceBNe, reduceCtorEq]
theorem eq48 (c : UInt8) : (((c.toNat : Nat) : Int) == 48) = (c == 48) := by
  rw [Bool.eq_iff_iff, beq_iff_eq, beq_iff_eq]
  constructor
  · intro h; exact UInt8.toNat_inj.1 (by have : (48 : UInt8).toNat = 48 := rfl; omega)
  · rintro rfl; rfl
theorem drop_get {s : List UInt8} {n : Nat} (h : n < s.length) : s.drop n = s.getD n 0 :: s.drop (n + 1) := by
  rw [List.drop_eq_getElem_cons h, List.getD_eq_getElem?_getD, List.getElem?_eq_getElem h]; rfl
def I59 (s : List UInt8) (k : Nat) (st : St) : Prop := ∃ n, k = s.length - n ∧ n ≤ s.length ∧ st = ⟨[(0, .str s), (3, i64 n)], []⟩ ∧ strip s = strip (s.drop n)
theorem con59 (s : List UInt8) (hl : s.length < 1099511627776) : Fn 59 [.str s] (.str (strip s)) := by
  refine e59 (by simp) ?_
  simp only [ic59, wkA, Nat.reduceEqDiff, Nat.reduceAdd, Nat.reduceSub, Nat.reduceLeDiff, Nat.reduceLT, Nat.reduceBEq, Nat.reduceBNe, reduceCtorEq]
  refine ⟨I59 s, s.length, _, Gh.refl _, ⟨0, by omega, by omega, rfl, rfl⟩, ?_⟩
  rintro k st ⟨n, rfl, hn, rfl, hs⟩
  by_cases hlt : n < s.length
  · have h0 : decide ((n : Int) < (s.length : Int)) = true := decide_eq_true (by omega)
    have w1 : IntKind.i64.wrap ((n : Int) + 1) = ((n + 1 : Nat) : Int) := by rw [wrap64] <;> omega
    rw [drop_get hlt] at hs
    cases h1 : (s.getD n 0 == 48) with
    | true =>
      have h2 : (((s.getD n 0).toNat : Int) == 48) = true := by rw [eq48]; exact h1
      have h3 : s.getD n 0 = 48 := beq_iff_eq.1 h1
      simp only [ic59_2, ic59_1, wkA, Nat.reduceEqDiff, Nat.reduceAdd, Nat.reduceSub, Nat.reduceLeDiff, Nat.reduceLT, Nat.reduceBEq, Nat.reduceBNe, reduceCtorEq, h0, Int.toNat_natCast, h2, w1]
      refine ⟨⟨by omega, by omega⟩, ⟨_, s.length - (n + 1), Gh.refl _, by omega, n + 1, by omega, by omega, rfl, ?_⟩⟩
      rw [hs, h3, strip_zero]
    | false =>
      have h2 : (((s.getD n 0).toNat : Int) == 48) = false := by rw [eq48]; exact h1
      have h3 : s.getD n 0 ≠ 48 := fun e => by rw [e] at h1; exact absurd h1 (by simp)
      rw [strip_pos h3, ← drop_get hlt] at hs
      simp only [ic59_2, ic59_1, wkA, Nat.reduceEqDiff, Nat.reduceAdd, Nat.reduceSub, Nat.reduceLeDiff, Nat.reduceLT, Nat.reduceBEq, Nat.reduceBNe, reduceCtorEq, h0, Int.toNat_natCast, h2]
      refine ⟨⟨by omega, by omega⟩, ?_⟩
      simp only [ic59_3, wkA, Nat.reduceEqDiff, Nat.reduceAdd, Nat.reduceSub, Nat.reduceLeDiff, Nat.reduceLT, Nat.reduceBEq, Nat.reduceBNe, reduceCtorEq, Int.toNat_natCast]
      rw [hs]
      refine ⟨⟨by omega, by omega, by omega⟩, ?_⟩
      rw [List.take_of_length_le (by simp)]
  · have h0 : decide ((n : Int) < (s.length : Int)) = false := decide_eq_false (by omega)
    have h1 : n = s.length := by omega
    rw [h1, List.drop_length, strip_nil] at hs
    simp only [ic59_2, ic59_1, wkA, Nat.reduceEqDiff, Nat.reduceAdd, Nat.reduceSub, Nat.reduceLeDiff, Nat.reduceLT, Nat.reduceBEq, Nat.reduceBNe, reduceCtorEq, h0]
    simp only [ic59_3, wkA, Nat.reduceEqDiff, Nat.reduceAdd, Nat.reduceSub, Nat.reduceLeDiff, Nat.reduceLT, Nat.reduceBEq, Nat.reduceBNe, reduceCtorEq, Int.toNat_natCast]
    rw [hs, h1]
    refine ⟨⟨by omega, by omega, by omega⟩, ?_⟩
    simp
def bts (s : List UInt8) : List AV := s.map byteAV
theorem bts_ok (s : List UInt8) : ∀ x ∈ bts s, isByte x := by
  intro x hx
  obtain ⟨c, _, rfl⟩ := List.mem_map.1 hx
  have := c.toNat_lt
  exact ⟨by omega, by omega⟩
theorem bts_map (s : List UInt8) : (bts s).map byteOf = s := by
  rw [bts, List.map_map]
  conv => rhs; rw [← List.map_id s]
  refine List.map_congr_left fun c _ => ?_
  simp [byteAV, byteOf]
def I60 (m : Int) (k : Nat) (st : St) : Prop := ∃ n, k = m.toNat - n ∧ n ≤ m.toNat ∧ st = ⟨[(0, i64 m), (3, .own 12), (4, i64 n)], [(12, .row 5 1 (bts (noughts n)))]⟩
theorem con60 {m : Int} (hm : m < 1000000000) : Fn 60 [i64 m] (.str (noughts m.toNat)) := by
  refine e60 (by simp) ?_
  simp only [ic60, wkA, Nat.reduceEqDiff, Nat.reduceAdd, Nat.reduceSub, Nat.reduceLeDiff, Nat.reduceLT, Nat.reduceBEq, Nat.reduceBNe, reduceCtorEq]
  refine ⟨I60 m, m.toNat, ⟨[(0, i64 m), (3, .own 12), (4, i64 0)], [(12, .row 5 1 [])]⟩, ?_, ⟨0, by omega, by omega, rfl⟩, ?_⟩
  · have := Gh.own (s := ⟨[(0, i64 m), (3, .nil), (4, i64 0)], []⟩) (t := 3) 5 1 12 rfl (by decide)
    refine this.trans ?_
    refine (Gh.keep _ [0, 3, 4] [12]).trans ?_
    simp only [wkA, Nat.reduceEqDiff, Nat.reduceAdd, Nat.reduceSub, Nat.reduceLeDiff, Nat.reduceLT, Nat.reduceBEq, Nat.reduceBNe, reduceCtorEq]
    exact Gh.refl _
  · rintro k st ⟨n, rfl, hn, rfl⟩
    by_cases hlt : n < m.toNat
    · have h0 : decide ((n : Int) < m) = true := decide_eq_true (by omega)
      have w1 : IntKind.i64.wrap ((n : Int) + 1) = ((n + 1 : Nat) : Int) := by rw [wrap64] <;> omega
      have hb : (bts (noughts n)).length = n := by simp [bts, noughts]
      simp only [ic60_2, ic60_1, wkA, Nat.reduceEqDiff, Nat.reduceAdd, Nat.reduceSub, Nat.reduceLeDiff, Nat.reduceLT, Nat.reduceBEq, Nat.reduceBNe, reduceCtorEq, h0, w1, hb]
      refine ⟨⟨by omega, by omega⟩, _, m.toNat - (n + 1), Gh.refl _, by omega, n + 1, by omega, by omega, ?_⟩
      simp [bts, noughts, List.replicate_succ', byteAV]
    · have h0 : decide ((n : Int) < m) = false := decide_eq_false (by omega)
      have h1 : n = m.toNat := by omega
      subst h1
      simp only [ic60_2, ic60_1, wkA, Nat.reduceEqDiff, Nat.reduceAdd, Nat.reduceSub, Nat.reduceLeDiff, Nat.reduceLT, Nat.reduceBEq, Nat.reduceBNe, reduceCtorEq, h0]
      simp only [ic60_3, wkA, Nat.reduceEqDiff, Nat.reduceAdd, Nat.reduceSub, Nat.reduceLeDiff, Nat.reduceLT, Nat.reduceBEq, Nat.reduceBNe, reduceCtorEq, bts_map]
      exact bts_ok _
def I58 (s : List UInt8) (k : Nat) (st : St) : Prop := ∃ n, k = s.length - n ∧ n ≤ s.length ∧ st = ⟨[(0, .str s), (3, i64 n)], []⟩ ∧ dgs s = dgs (s.drop n)
theorem con58 (s : List UInt8) (hl : s.length < 1099511627776) : Fn 58 [.str s] (.bool (dgs s && decide (s ≠ []))) := by
  refine e58 (by simp) ?_
  simp only [ic58, wkA, Nat.reduceEqDiff, Nat.reduceAdd, Nat.reduceSub, Nat.reduceLeDiff, Nat.reduceLT, Nat.reduceBEq, Nat.reduceBNe, reduceCtorEq]
  refine ⟨I58 s, s.length, _, Gh.refl _, ⟨0, by omega, by omega, rfl, rfl⟩, ?_⟩
  rintro k st ⟨n, rfl, hn, rfl, hs⟩
  by_cases hlt : n < s.length
  · have h0 : decide ((n : Int) < (s.length : Int)) = true := decide_eq_true (by omega)
    have w1 : IntKind.i64.wrap ((n : Int) + 1) = ((n + 1 : Nat) : Int) := by rw [wrap64] <;> omega
    rw [drop_get hlt] at hs
    by_cases h1 : (s.getD n 0).toNat < 48
    · have h2 : decide (((s.getD n 0).toNat : Int) < 48) = true := decide_eq_true (by omega)
      have h3 : dgs s = false := by
        rw [hs]
        cases h : dgs (s.getD n 0 :: s.drop (n + 1)) with
        | false => rfl
        | true => have := isDg_iff.1 (dgs_cons.1 h).1; omega
      rw [h3, Bool.false_and]
      simp only [ic58_3, ic58_2, wkA, Nat.reduceEqDiff, Nat.reduceAdd, Nat.reduceSub, Nat.reduceLeDiff, Nat.reduceLT, Nat.reduceBEq, Nat.reduceBNe, reduceCtorEq, h0, Int.toNat_natCast, h2]
      omega
    · have h2 : decide (((s.getD n 0).toNat : Int) < 48) = false := decide_eq_false (by omega)
      by_cases h4 : 57 < (s.getD n 0).toNat
      · have h5 : decide (((s.getD n 0).toNat : Int) > 57) = true := decide_eq_true (by omega)
        have h3 : dgs s = false := by
          rw [hs]
          cases h : dgs (s.getD n 0 :: s.drop (n + 1)) with
          | false => rfl
          | true => have := isDg_iff.1 (dgs_cons.1 h).1; omega
        rw [h3, Bool.false_and]
        simp only [ic58_3, ic58_2, wkA, Nat.reduceEqDiff, Nat.reduceAdd, Nat.reduceSub, Nat.reduceLeDiff, Nat.reduceLT, Nat.reduceBEq, Nat.reduceBNe, reduceCtorEq, h0, Int.toNat_natCast, h2, h5]
        omega
      · have h5 : decide (((s.getD n 0).toNat : Int) > 57) = false := decide_eq_false (by omega)
        simp only [ic58_3, ic58_2, ic58_1, wkA, Nat.reduceEqDiff, Nat.reduceAdd, Nat.reduceSub, Nat.reduceLeDiff, Nat.reduceLT, Nat.reduceBEq, Nat.reduceBNe, reduceCtorEq, h0, Int.toNat_natCast, h2, h5, w1]
        refine ⟨⟨by omega, by omega⟩, ⟨by omega, by omega⟩, _, s.length - (n + 1), Gh.refl _, by omega, n + 1, by omega, by omega, rfl, ?_⟩
        rw [hs, Bool.eq_iff_iff, dgs_cons, isDg_iff]
        exact ⟨fun h => h.2, fun h => ⟨⟨by omega, by omega⟩, h⟩⟩
  · have h0 : decide ((n : Int) < (s.length : Int)) = false := decide_eq_false (by omega)
    have h1 : n = s.length := by omega
    rw [h1, List.drop_length] at hs
    rw [hs, show dgs [] = true from rfl, Bool.true_and]
    have h2 : (s != []) = decide (s ≠ []) := by rw [Bool.eq_iff_iff, bne_iff_ne, decide_eq_true_eq]
    rw [← h2]
    simp only [ic58_3, ic58_2, wkA, Nat.reduceEqDiff, Nat.reduceAdd, Nat.reduceSub, Nat.reduceLeDiff, Nat.reduceLT, Nat.reduceBEq, Nat.reduceBNe, reduceCtorEq, h0]
    simp only [ic58_4, wkA, Nat.reduceEqDiff, Nat.reduceAdd, Nat.reduceSub, Nat.reduceLeDiff, Nat.reduceLT, Nat.reduceBEq, Nat.reduceBNe, reduceCtorEq]
theorem bytesLess_dv : ∀ {a b : List UInt8}, dgs a = true → dgs b = true → a.length = b.length → Op.bytesLess a b = decide (dv a < dv b)
  | [], [], _, _, _ => rfl
  | x :: a, y :: b, ha, hb, hl => by
    obtain ⟨hx, ha⟩ := dgs_cons.1 ha
    obtain ⟨hy, hb⟩ := dgs_cons.1 hb
    have hl : a.length = b.length := by simpa using hl
    have ih := bytesLess_dv ha hb hl
    have hx := isDg_iff.1 hx
    have hy := isDg_iff.1 hy
    have h1 := dv_lt ha
    have h2 := dv_lt hb
    rw [← hl] at h2
    simp only [Op.bytesLess, dv, ← hl, ih]
    rcases Nat.lt_trichotomy x.toNat y.toNat with h | h | h
    · have e1 : decide (x < y) = true := decide_eq_true (UInt8.lt_iff_toNat_lt.2 h)
      have h3 : (x.toNat - 48 + 1) * 10 ^ a.length ≤ (y.toNat - 48) * 10 ^ a.length := Nat.mul_le_mul_right _ (by omega)
      rw [Nat.add_mul] at h3
      rw [e1, Bool.true_or]
      exact (decide_eq_true (by omega)).symm
    · have e0 : x = y := UInt8.toNat_inj.1 h
      subst e0
      have e1 : decide (x < x) = false := decide_eq_false (fun h => by have := UInt8.lt_iff_toNat_lt.1 h; omega)
      rw [e1, BEq.rfl, Bool.false_or, Bool.true_and, decide_eq_decide]
      omega
    · have e1 : decide (x < y) = false := decide_eq_false (fun h => by have := UInt8.lt_iff_toNat_lt.1 h; omega)
      have e2 : (x == y) = false := beq_eq_false_iff_ne.2 fun e => by rw [e] at h; omega
      have h3 : (y.toNat - 48 + 1) * 10 ^ a.length ≤ (x.toNat - 48) * 10 ^ a.length := Nat.mul_le_mul_right _ (by omega)
      rw [Nat.add_mul] at h3
      rw [e1, e2, Bool.false_or, Bool.false_and]
      exact (decide_eq_false (by omega)).symm
theorem con35 (a b : Nat) (ha : nd a < 1099511627776) (hb : nd b < 1099511627776) : Fn 35 [.str (digs a), .str (digs b)] (.bool (decide (a < b))) := by
  refine e35 (by simp) ?_
  have e1 : (((digs a).length : Int) != ((digs b).length : Int)) = decide (nd a ≠ nd b) := by
    have : (digs a).length = nd a := rfl
    have : (digs b).length = nd b := rfl
    rw [Bool.eq_iff_iff, bne_iff_ne, decide_eq_true_eq]; omega
  by_cases h : nd a = nd b
  · have h1 : decide (nd a ≠ nd b) = false := decide_eq_false (by omega)
    have h2 := bytesLess_dv (dgs_digs a) (dgs_digs b) h
    rw [dv_digs, dv_digs] at h2
    rw [← h2]
    simp only [ic35, ic35_1, wkA, Nat.reduceEqDiff, Nat.reduceAdd, Nat.reduceSub, Nat.reduceLeDiff, Nat.reduceLT, Nat.reduceBEq, Nat.reduceBNe, reduceCtorEq, e1, h1]
  · have h1 : decide (nd a ≠ nd b) = true := decide_eq_true h
    have h2 : decide (((digs a).length : Int) < ((digs b).length : Int)) = decide (a < b) := by
      have e1 : (digs a).length = nd a := rfl
      have e2 : (digs b).length = nd b := rfl
      rw [decide_eq_decide, e1, e2]
      constructor
      · intro h3
        have h4 := lt_nd a
        have h5 : b ≠ 0 := by rintro rfl; rw [nd_zero] at h3; omega
        have h6 := le_nd h5
        have h7 : 10 ^ nd a ≤ 10 ^ (nd b - 1) := Nat.pow_le_pow_right (by decide) (by omega)
        omega
      · intro h3
        have := nd_mono (Nat.le_of_lt h3)
        omega
    rw [← h2]
    simp only [ic35, wkA, Nat.reduceEqDiff, Nat.reduceAdd, Nat.reduceSub, Nat.reduceLeDiff, Nat.reduceLT, Nat.reduceBEq, Nat.reduceBNe, reduceCtorEq, e1, h1]
theorem con34 {neg : Bool} {s : List UInt8} {e E : Int} (h : okD s e) (hE : E ≤ e) (hE2 : -1000000 < E) : Fn 34 [D neg s e, i64 E] (.str (digs (dv s * 10 ^ (e - E).toNat))) := by
  have hb := h.2.2
  have c59 := con59 s (by omega)
  rw [← digs_dv h.1] at c59
  have w1 : IntKind.i64.wrap (e - E) = e - E := by rw [wrap64] <;> omega
  have c60 := con60 (m := e - E) (by omega)
  have hr := nd_dv h.1
  refine e34 (by simp) ?_
  by_cases h0 : dv s = 0
  · rw [h0, Nat.zero_mul]
    rw [h0] at c59
    have e0 : digs 0 = [] := digs_zero
    rw [e0] at c59 ⊢
    have e1 : (([] : List UInt8) == []) = true := rfl
    simp only [ic34, D, wkA, Nat.reduceEqDiff, Nat.reduceAdd, Nat.reduceSub, Nat.reduceLeDiff, Nat.reduceLT, Nat.reduceBEq, Nat.reduceBNe, reduceCtorEq] at c59 ⊢
    refine callF c59 rfl ?_
    simp only [wkA, Nat.reduceEqDiff, Nat.reduceAdd, Nat.reduceSub, Nat.reduceLeDiff, Nat.reduceLT, Nat.reduceBEq, Nat.reduceBNe, reduceCtorEq, e1]
  · have e1 : (digs (dv s) == []) = false := beq_eq_false_iff_ne.2 fun e => h0 (digs_nil.1 e)
    have e2 : (digs (dv s)).length = nd (dv s) := rfl
    have e3 : (noughts (e - E).toNat).length = (e - E).toNat := by simp [noughts]
    rw [digs_mul h0]
    simp only [ic34, D, wkA, Nat.reduceEqDiff, Nat.reduceAdd, Nat.reduceSub, Nat.reduceLeDiff, Nat.reduceLT, Nat.reduceBEq, Nat.reduceBNe, reduceCtorEq] at c59 c60 ⊢
    refine callF c59 rfl ?_
    simp only [wkA, Nat.reduceEqDiff, Nat.reduceAdd, Nat.reduceSub, Nat.reduceLeDiff, Nat.reduceLT, Nat.reduceBEq, Nat.reduceBNe, reduceCtorEq, e1]
    simp only [ic34_1, wkA, Nat.reduceEqDiff, Nat.reduceAdd, Nat.reduceSub, Nat.reduceLeDiff, Nat.reduceLT, Nat.reduceBEq, Nat.reduceBNe, reduceCtorEq, w1]
    refine callF c60 rfl ?_
    simp only [wkA, Nat.reduceEqDiff, Nat.reduceAdd, Nat.reduceSub, Nat.reduceLeDiff, Nat.reduceLT, Nat.reduceBEq, Nat.reduceBNe, reduceCtorEq, e2, e3]
    omega
abbrev i32 (n : Int) : AV := .int .i32 n
theorem con113 (r : Int) : Fn 113 [i32 r] (.bool (scalarS r)) := by
  refine e113 (by simp) ?_
  unfold scalarS
  cases h1 : decide (0 ≤ r) with
  | false =>
    have e1 : decide (r ≥ 0) = false := h1
    simp only [ic113, wkA, Nat.reduceEqDiff, Nat.reduceAdd, Nat.reduceSub, Nat.reduceLeDiff, Nat.reduceLT, Nat.reduceBEq, Nat.reduceBNe, reduceCtorEq, e1]
    rfl
  | true =>
    have e1 : decide (r ≥ 0) = true := h1
    cases h2 : decide (r ≤ 1114111) with
    | false =>
      simp only [ic113, wkA, Nat.reduceEqDiff, Nat.reduceAdd, Nat.reduceSub, Nat.reduceLeDiff, Nat.reduceLT, Nat.reduceBEq, Nat.reduceBNe, reduceCtorEq, e1, h2]
      rfl
    | true =>
      cases h3 : decide (r < 55296) with
      | false =>
        simp only [ic113, wkA, Nat.reduceEqDiff, Nat.reduceAdd, Nat.reduceSub, Nat.reduceLeDiff, Nat.reduceLT, Nat.reduceBEq, Nat.reduceBNe, reduceCtorEq, e1, h2, h3]
        rfl
      | true =>
        simp only [ic113, wkA, Nat.reduceEqDiff, Nat.reduceAdd, Nat.reduceSub, Nat.reduceLeDiff, Nat.reduceLT, Nat.reduceBEq, Nat.reduceBNe, reduceCtorEq, e1, h2, h3]
        rfl
theorem wrap8 {x : Int} (h : 0 ≤ x) (h' : x < 256) : IntKind.u8.wrap x = x := by
  simp only [IntKind.wrap, IntKind.signed, IntKind.bits, Bool.false_and, Bool.false_eq_true, if_false]
  omega
theorem wrapI32 {x : Int} (h : -2147483648 ≤ x) (h' : x < 2147483648) : IntKind.i32.wrap x = x := by
  simp only [IntKind.wrap, IntKind.signed, IntKind.bits, Bool.true_and, decide_eq_true_eq, Nat.reduceSub, Int.reducePow, ge_iff_le]
  split <;> omega
theorem btsCons (n : Nat) (h : n < 256) (s : List UInt8) : bts (UInt8.ofNat n :: s) = .int .u8 n :: bts s := by
  simp [bts, byteAV, Nat.mod_eq_of_lt h]
theorem con88 {n : Nat} (hn : n < 2097152) : Fn 88 [i32 n] (.sl 1 (bts (bytesS n))) := by
  refine e88 (by simp) ?_
  have w0 : IntKind.i64.wrap (n : Int) = n := by rw [wrap64] <;> omega
  unfold bytesS
  by_cases h1 : n < 128
  · have e1 : decide ((n : Int) < 128) = true := decide_eq_true (by omega)
    have w1 : IntKind.u8.wrap (n : Int) = n := by rw [wrap8] <;> omega
    rw [if_pos h1, btsCons _ (by omega)]
    simp only [ic88, wkA, Nat.reduceEqDiff, Nat.reduceAdd, Nat.reduceSub, Nat.reduceLeDiff, Nat.reduceLT, Nat.reduceBEq, Nat.reduceBNe, reduceCtorEq, w0, e1, w1]
    rfl
  · have e1 : decide ((n : Int) < 128) = false := decide_eq_false (by omega)
    have m64 : (n : Int).tmod 64 = ((n % 64 : Nat) : Int) := rfl
    have w3 : IntKind.i64.wrap (128 + ((n % 64 : Nat) : Int)) = ((128 + n % 64 : Nat) : Int) := by rw [wrap64] <;> omega
    have v3 : IntKind.u8.wrap ((128 + n % 64 : Nat) : Int) = ((128 + n % 64 : Nat) : Int) := by rw [wrap8] <;> omega
    have d64 : (n : Int).tdiv 64 = ((n / 64 : Nat) : Int) := rfl
    have x64 : IntKind.i64.wrap ((n / 64 : Nat) : Int) = ((n / 64 : Nat) : Int) := by rw [wrap64] <;> omega
    rw [if_neg h1]
    by_cases h2 : n < 2048
    · have e2 : decide ((n : Int) < 2048) = true := decide_eq_true (by omega)
      have w1 : IntKind.i64.wrap (192 + ((n / 64 : Nat) : Int)) = ((192 + n / 64 : Nat) : Int) := by rw [wrap64] <;> omega
      have v1 : IntKind.u8.wrap ((192 + n / 64 : Nat) : Int) = ((192 + n / 64 : Nat) : Int) := by rw [wrap8] <;> omega
      rw [if_pos h2, btsCons _ (by omega), btsCons _ (by omega)]
      simp only [ic88, wkA, Nat.reduceEqDiff, Nat.reduceAdd, Nat.reduceSub, Nat.reduceLeDiff, Nat.reduceLT, Nat.reduceBEq, Nat.reduceBNe, reduceCtorEq, w0, e1, e2, d64, m64, x64, w1, v1, w3, v3]
      refine ⟨by omega, by omega, ?_⟩
      rfl
    · have e2 : decide ((n : Int) < 2048) = false := decide_eq_false (by omega)
      have m2 : ((n / 64 : Nat) : Int).tmod 64 = ((n / 64 % 64 : Nat) : Int) := rfl
      have w2 : IntKind.i64.wrap (128 + ((n / 64 % 64 : Nat) : Int)) = ((128 + n / 64 % 64 : Nat) : Int) := by rw [wrap64] <;> omega
      have v2 : IntKind.u8.wrap ((128 + n / 64 % 64 : Nat) : Int) = ((128 + n / 64 % 64 : Nat) : Int) := by rw [wrap8] <;> omega
      have d4 : (n : Int).tdiv 4096 = ((n / 4096 : Nat) : Int) := rfl
      have x4 : IntKind.i64.wrap ((n / 4096 : Nat) : Int) = ((n / 4096 : Nat) : Int) := by rw [wrap64] <;> omega
      rw [if_neg h2]
      by_cases h3 : n < 65536
      · have e3 : decide ((n : Int) < 65536) = true := decide_eq_true (by omega)
        have w1 : IntKind.i64.wrap (224 + ((n / 4096 : Nat) : Int)) = ((224 + n / 4096 : Nat) : Int) := by rw [wrap64] <;> omega
        have v1 : IntKind.u8.wrap ((224 + n / 4096 : Nat) : Int) = ((224 + n / 4096 : Nat) : Int) := by rw [wrap8] <;> omega
        rw [if_pos h3, btsCons _ (by omega), btsCons _ (by omega), btsCons _ (by omega)]
        simp only [ic88, wkA, Nat.reduceEqDiff, Nat.reduceAdd, Nat.reduceSub, Nat.reduceLeDiff, Nat.reduceLT, Nat.reduceBEq, Nat.reduceBNe, reduceCtorEq, w0, e1, e2, e3, d64, m64, x64, d4, x4, m2, w1, v1, w2, v2, w3, v3]
        refine ⟨by omega, by omega, by omega, by omega, ?_⟩
        rfl
      · have e3 : decide ((n : Int) < 65536) = false := decide_eq_false (by omega)
        have d5 : (n : Int).tdiv 262144 = ((n / 262144 : Nat) : Int) := rfl
        have x5 : IntKind.i64.wrap ((n / 262144 : Nat) : Int) = ((n / 262144 : Nat) : Int) := by rw [wrap64] <;> omega
        have m4 : ((n / 4096 : Nat) : Int).tmod 64 = ((n / 4096 % 64 : Nat) : Int) := rfl
        have w4 : IntKind.i64.wrap (128 + ((n / 4096 % 64 : Nat) : Int)) = ((128 + n / 4096 % 64 : Nat) : Int) := by rw [wrap64] <;> omega
        have v4 : IntKind.u8.wrap ((128 + n / 4096 % 64 : Nat) : Int) = ((128 + n / 4096 % 64 : Nat) : Int) := by rw [wrap8] <;> omega
        have w1 : IntKind.i64.wrap (240 + ((n / 262144 : Nat) : Int)) = ((240 + n / 262144 : Nat) : Int) := by rw [wrap64] <;> omega
        have v1 : IntKind.u8.wrap ((240 + n / 262144 : Nat) : Int) = ((240 + n / 262144 : Nat) : Int) := by rw [wrap8] <;> omega
        rw [if_neg h3, btsCons _ (by omega), btsCons _ (by omega), btsCons _ (by omega), btsCons _ (by omega)]
        simp only [ic88, wkA, Nat.reduceEqDiff, Nat.reduceAdd, Nat.reduceSub, Nat.reduceLeDiff, Nat.reduceLT, Nat.reduceBEq, Nat.reduceBNe, reduceCtorEq, w0, e1, e2, e3]
        simp only [ic88_1, wkA, Nat.reduceEqDiff, Nat.reduceAdd, Nat.reduceSub, Nat.reduceLeDiff, Nat.reduceLT, Nat.reduceBEq, Nat.reduceBNe, reduceCtorEq, d64, m64, x64, d4, x4, m2, d5, x5, m4, w1, v1, w2, v2, w3, v3, w4, v4]
        refine ⟨by omega, by omega, by omega, by omega, by omega, by omega, ?_⟩
        rfl
def restS (s : List UInt8) (n k : Nat) : Int × Nat :=
  if s.length < k then (0, 0) else match contS s (k - 1) 1 n with
    | none => (0, 0)
    | some n => if scalarS n = false then (0, 0) else if bytesS n.toNat ≠ s.take k then (0, 0) else (n, k)
def I86 (s : List UInt8) (k : Nat) (x : Option Int) (j : Nat) (st : St) : Prop := ∃ (i : Nat) (n : Int), j = k - i ∧ 1 ≤ i ∧ i ≤ k ∧ 0 ≤ n ∧ n < 256 * 64 ^ (i - 1) ∧ st = ⟨[(0, .str s), (4, i64 n), (5, i64 k), (6, i64 i)], []⟩ ∧ x = contS s (k - i) i n
theorem tail86 {s : List UInt8} {n k : Nat} (hk : 1 ≤ k ∧ k ≤ 4) (hn : n < 256) (hl : s.length < 1099511627776) (ex : List (Nat × AV)) : VC e0 ic86_7 (retQ [(2, none), (3, none)] (.tup [i32 (restS s n k).1, i64 (restS s n k).2])) ⟨(0, .str s) :: (4, i64 n) :: (5, i64 k) :: ex, []⟩ := by
  unfold restS
  by_cases h1 : s.length < k
  · have e1 : decide ((s.length : Int) < (k : Int)) = true := decide_eq_true (by omega)
    rw [if_pos h1]
    simp only [ic86_7, wkA, Nat.reduceEqDiff, Nat.reduceAdd, Nat.reduceSub, Nat.reduceLeDiff, Nat.reduceLT, Nat.reduceBEq, Nat.reduceBNe, reduceCtorEq, e1]
    rfl
  · have e1 : decide ((s.length : Int) < (k : Int)) = false := decide_eq_false (by omega)
    rw [if_neg h1]
    simp only [ic86_7, wkA, Nat.reduceEqDiff, Nat.reduceAdd, Nat.reduceSub, Nat.reduceLeDiff, Nat.reduceLT, Nat.reduceBEq, Nat.reduceBNe, reduceCtorEq, e1]
    simp only [ic86_6, wkA, Nat.reduceEqDiff, Nat.reduceAdd, Nat.reduceSub, Nat.reduceLeDiff, Nat.reduceLT, Nat.reduceBEq, Nat.reduceBNe, reduceCtorEq]
    refine ⟨I86 s k (contS s (k - 1) 1 n), k - 1, _, Gh.refl _, ⟨1, n, rfl, by omega, by omega, by omega, by simp; omega, rfl, rfl⟩, ?_⟩
    rintro j st ⟨i, m, rfl, hi1, hik, hm0, hm1, rfl, hx⟩
    have hp : (64 : Int) ^ (i - 1) ≤ 64 ^ 3 := by
      have : (64 : Nat) ^ (i - 1) ≤ 64 ^ 3 := Nat.pow_le_pow_right (by decide) (by omega)
      exact_mod_cast this
    have hm2 : m < 67108864 := by
      have : (64 : Int) ^ 3 = 262144 := by decide
      omega
    rw [hx]
    by_cases hlt : i < k
    · have e2 : decide ((i : Int) < (k : Int)) = true := decide_eq_true (by omega)
      have hc := (s.getD i 0).toNat_lt
      have w1 : IntKind.i64.wrap (m * 64) = m * 64 := by rw [wrap64] <;> omega
      have w2 : IntKind.i64.wrap (((s.getD i 0).toNat : Nat) : Int) = ((s.getD i 0).toNat : Int) := by rw [wrap64] <;> omega
      have w3 : IntKind.i64.wrap (m * 64 + ((s.getD i 0).toNat : Int)) = m * 64 + ((s.getD i 0).toNat : Int) := by rw [wrap64] <;> omega
      have w4 : IntKind.i64.wrap (m * 64 + ((s.getD i 0).toNat : Int) - 128) = m * 64 + ((s.getD i 0).toNat : Int) - 128 := by rw [wrap64] <;> omega
      have w5 : IntKind.i64.wrap ((i : Int) + 1) = ((i + 1 : Nat) : Int) := by rw [wrap64] <;> omega
      obtain ⟨f, hf⟩ : ∃ f, k - i = f + 1 := ⟨k - i - 1, by omega⟩
      rw [hf, contS]
      by_cases h2 : (s.getD i 0).toNat < 128
      · have e3 : decide (((s.getD i 0).toNat : Int) < 128) = true := decide_eq_true (by omega)
        rw [if_pos (.inl h2)]
        simp only [ic86_3, ic86_2, wkA, Nat.reduceEqDiff, Nat.reduceAdd, Nat.reduceSub, Nat.reduceLeDiff, Nat.reduceLT, Nat.reduceBEq, Nat.reduceBNe, reduceCtorEq, e2, Int.toNat_natCast, w1, w2, w3, w4, e3]
        refine ⟨⟨by omega, by omega⟩, ⟨by omega, by omega⟩, ?_⟩
        rfl
      · have e3 : decide (((s.getD i 0).toNat : Int) < 128) = false := decide_eq_false (by omega)
        by_cases h3 : 191 < (s.getD i 0).toNat
        · have e4 : decide (((s.getD i 0).toNat : Int) > 191) = true := decide_eq_true (by omega)
          rw [if_pos (.inr h3)]
          simp only [ic86_3, ic86_2, wkA, Nat.reduceEqDiff, Nat.reduceAdd, Nat.reduceSub, Nat.reduceLeDiff, Nat.reduceLT, Nat.reduceBEq, Nat.reduceBNe, reduceCtorEq, e2, Int.toNat_natCast, w1, w2, w3, w4, e3, e4]
          refine ⟨⟨by omega, by omega⟩, ⟨by omega, by omega⟩, ⟨by omega, by omega⟩, ?_⟩
          rfl
        · have e4 : decide (((s.getD i 0).toNat : Int) > 191) = false := decide_eq_false (by omega)
          rw [if_neg (by omega)]
          simp only [ic86_3, ic86_2, ic86_1, wkA, Nat.reduceEqDiff, Nat.reduceAdd, Nat.reduceSub, Nat.reduceLeDiff, Nat.reduceLT, Nat.reduceBEq, Nat.reduceBNe, reduceCtorEq, e2, Int.toNat_natCast, w1, w2, w3, w4, e3, e4, w5]
          refine ⟨⟨by omega, by omega⟩, ⟨by omega, by omega⟩, ⟨by omega, by omega⟩, _, k - (i + 1), Gh.refl _, by omega, i + 1, m * 64 + ((s.getD i 0).toNat : Int) - 128, rfl, by omega, by omega, by omega, ?_, rfl, ?_⟩
          · have : (64 : Int) ^ (i + 1 - 1) = 64 ^ (i - 1) * 64 := by
              rw [← Int.pow_succ]; congr 1; omega
            rw [this]; omega
          · rw [show k - (i + 1) = f by omega]
    · have e2 : decide ((i : Int) < (k : Int)) = false := decide_eq_false (by omega)
      have hi : i = k := by omega
      subst hi
      rw [Nat.sub_self, contS]
      have w1 : IntKind.i32.wrap m = m := by rw [wrapI32] <;> omega
      obtain ⟨v, rfl⟩ : ∃ v : Nat, m = v := ⟨m.toNat, by omega⟩
      simp only [ic86_3, wkA, Nat.reduceEqDiff, Nat.reduceAdd, Nat.reduceSub, Nat.reduceLeDiff, Nat.reduceLT, Nat.reduceBEq, Nat.reduceBNe, reduceCtorEq, e2]
      simp only [ic86_5, wkA, Nat.reduceEqDiff, Nat.reduceAdd, Nat.reduceSub, Nat.reduceLeDiff, Nat.reduceLT, Nat.reduceBEq, Nat.reduceBNe, reduceCtorEq, w1]
      refine callFD (con113 v) rfl ?_
      show _
      cases hsc : scalarS (v : Int) with
      | false =>
        simp only [wkA, Nat.reduceEqDiff, Nat.reduceAdd, Nat.reduceSub, Nat.reduceLeDiff, Nat.reduceLT, Nat.reduceBEq, Nat.reduceBNe, reduceCtorEq, Bool.not_false]
        rfl
      | true =>
        have hv : v < 2097152 := by
          simp only [scalarS, Bool.and_eq_true, decide_eq_true_eq] at hsc
          omega
        simp only [wkA, Nat.reduceEqDiff, Nat.reduceAdd, Nat.reduceSub, Nat.reduceLeDiff, Nat.reduceLT, Nat.reduceBEq, Nat.reduceBNe, reduceCtorEq, Bool.not_true, w1]
        refine callFD (con88 hv) rfl ?_
        simp only [wkA, Nat.reduceEqDiff, Nat.reduceAdd, Nat.reduceSub, Nat.reduceLeDiff, Nat.reduceLT, Nat.reduceBEq, Nat.reduceBNe, reduceCtorEq, bts_map, Int.toNat_natCast, Int.toNat_zero, Nat.sub_zero]
        refine ⟨bts_ok _, ⟨by omega, by omega⟩, ?_⟩
        have hb : (bytesS v != s.take i) = decide (bytesS v ≠ s.take i) := by rw [Bool.eq_iff_iff, bne_iff_ne, decide_eq_true_eq]
        by_cases h2 : bytesS v = s.take i
        · rw [decide_eq_false (by simpa using h2)] at hb
          simp only [wkA, Nat.reduceEqDiff, Nat.reduceAdd, Nat.reduceSub, Nat.reduceLeDiff, Nat.reduceLT, Nat.reduceBEq, Nat.reduceBNe, reduceCtorEq, hb, ic86_4, w1]
          rw [if_neg (by simpa using h2)]
        · rw [decide_eq_true h2] at hb
          simp only [wkA, Nat.reduceEqDiff, Nat.reduceAdd, Nat.reduceSub, Nat.reduceLeDiff, Nat.reduceLT, Nat.reduceBEq, Nat.reduceBNe, reduceCtorEq, hb]
          rw [if_pos (by simpa using h2)]
          rfl
theorem con86 {s : List UInt8} (hl : s.length < 1099511627776) : Fn 86 [.str s] (.tup [i32 (firstS s).1, i64 (firstS s).2]) := by
  refine e86 (by simp) ?_
  cases s with
  | nil =>
    have e1 : (([] : List UInt8) == []) = true := rfl
    simp only [ic86, wkA, Nat.reduceEqDiff, Nat.reduceAdd, Nat.reduceSub, Nat.reduceLeDiff, Nat.reduceLT, Nat.reduceBEq, Nat.reduceBNe, reduceCtorEq, e1]
    rfl
  | cons c t =>
    have e1 : ((c :: t : List UInt8) == []) = false := rfl
    have hc := c.toNat_lt
    have g0 : (c :: t).getD 0 0 = c := rfl
    have w0 : IntKind.i64.wrap ((c.toNat : Nat) : Int) = c.toNat := by rw [wrap64] <;> omega
    have hfs : ∀ n k, leadS c.toNat = some (n, k) → firstS (c :: t) = restS (c :: t) n k := by
      intro n k h
      simp only [firstS, h]; rfl
    have hlen : (0 : Int) < ((t.length + 1 : Nat) : Int) := by omega
    by_cases h1 : c.toNat < 128
    · have e2 : decide ((c.toNat : Int) < 128) = true := decide_eq_true (by omega)
      rw [hfs c.toNat 1 (by rw [leadS, if_pos h1])]
      simp only [ic86, wkA, Nat.reduceEqDiff, Nat.reduceAdd, Nat.reduceSub, Nat.reduceLeDiff, Nat.reduceLT, Nat.reduceBEq, Nat.reduceBNe, reduceCtorEq, e1]
      simp only [ic86_8, wkA, Nat.reduceEqDiff, Nat.reduceAdd, Nat.reduceSub, Nat.reduceLeDiff, Nat.reduceLT, Nat.reduceBEq, Nat.reduceBNe, reduceCtorEq, Int.toNat_zero, g0, w0, e2]
      exact ⟨by omega, tail86 (n := c.toNat) (k := 1) (by omega) (by omega) hl _⟩
    · have e2 : decide ((c.toNat : Int) < 128) = false := decide_eq_false (by omega)
      by_cases h2 : 192 ≤ c.toNat ∧ c.toNat < 224
      · have e3 : decide ((c.toNat : Int) ≥ 192) = true := decide_eq_true (by omega)
        have e4 : decide ((c.toNat : Int) < 224) = true := decide_eq_true (by omega)
        have w1 : IntKind.i64.wrap ((c.toNat : Int) - 192) = ((c.toNat - 192 : Nat) : Int) := by rw [wrap64] <;> omega
        rw [hfs (c.toNat - 192) 2 (by rw [leadS, if_neg h1, if_pos h2])]
        simp only [ic86, wkA, Nat.reduceEqDiff, Nat.reduceAdd, Nat.reduceSub, Nat.reduceLeDiff, Nat.reduceLT, Nat.reduceBEq, Nat.reduceBNe, reduceCtorEq, e1]
        simp only [ic86_8, wkA, Nat.reduceEqDiff, Nat.reduceAdd, Nat.reduceSub, Nat.reduceLeDiff, Nat.reduceLT, Nat.reduceBEq, Nat.reduceBNe, reduceCtorEq, Int.toNat_zero, g0, w0, e2, e3, e4, w1]
        exact ⟨by omega, tail86 (n := c.toNat - 192) (k := 2) (by omega) (by omega) hl _⟩
      · have e34 : decide ((c.toNat : Int) ≥ 192) = false ∨ (decide ((c.toNat : Int) ≥ 192) = true ∧ decide ((c.toNat : Int) < 224) = false) := by
          by_cases h : 192 ≤ c.toNat
          · exact .inr ⟨decide_eq_true (by omega), decide_eq_false (by omega)⟩
          · exact .inl (decide_eq_false (by omega))
        by_cases h3 : 224 ≤ c.toNat ∧ c.toNat < 240
        · have e3 : decide ((c.toNat : Int) ≥ 192) = true := decide_eq_true (by omega)
          have e4 : decide ((c.toNat : Int) < 224) = false := decide_eq_false (by omega)
          have e5 : decide ((c.toNat : Int) ≥ 224) = true := decide_eq_true (by omega)
          have e6 : decide ((c.toNat : Int) < 240) = true := decide_eq_true (by omega)
          have w1 : IntKind.i64.wrap ((c.toNat : Int) - 224) = ((c.toNat - 224 : Nat) : Int) := by rw [wrap64] <;> omega
          rw [hfs (c.toNat - 224) 3 (by rw [leadS, if_neg h1, if_neg h2, if_pos h3])]
          simp only [ic86, wkA, Nat.reduceEqDiff, Nat.reduceAdd, Nat.reduceSub, Nat.reduceLeDiff, Nat.reduceLT, Nat.reduceBEq, Nat.reduceBNe, reduceCtorEq, e1]
          simp only [ic86_8, wkA, Nat.reduceEqDiff, Nat.reduceAdd, Nat.reduceSub, Nat.reduceLeDiff, Nat.reduceLT, Nat.reduceBEq, Nat.reduceBNe, reduceCtorEq, Int.toNat_zero, g0, w0, e2, e3, e4, e5, e6, w1]
          exact ⟨by omega, tail86 (n := c.toNat - 224) (k := 3) (by omega) (by omega) hl _⟩
        · by_cases h4 : 240 ≤ c.toNat ∧ c.toNat < 248
          · have e3 : decide ((c.toNat : Int) ≥ 192) = true := decide_eq_true (by omega)
            have e4 : decide ((c.toNat : Int) < 224) = false := decide_eq_false (by omega)
            have e5 : decide ((c.toNat : Int) ≥ 224) = true := decide_eq_true (by omega)
            have e6 : decide ((c.toNat : Int) < 240) = false := decide_eq_false (by omega)
            have e7 : decide ((c.toNat : Int) ≥ 240) = true := decide_eq_true (by omega)
            have e8 : decide ((c.toNat : Int) < 248) = true := decide_eq_true (by omega)
            have w1 : IntKind.i64.wrap ((c.toNat : Int) - 240) = ((c.toNat - 240 : Nat) : Int) := by rw [wrap64] <;> omega
            rw [hfs (c.toNat - 240) 4 (by rw [leadS, if_neg h1, if_neg h2, if_neg h3, if_pos h4])]
            simp only [ic86, wkA, Nat.reduceEqDiff, Nat.reduceAdd, Nat.reduceSub, Nat.reduceLeDiff, Nat.reduceLT, Nat.reduceBEq, Nat.reduceBNe, reduceCtorEq, e1]
            simp only [ic86_8, wkA, Nat.reduceEqDiff, Nat.reduceAdd, Nat.reduceSub, Nat.reduceLeDiff, Nat.reduceLT, Nat.reduceBEq, Nat.reduceBNe, reduceCtorEq, Int.toNat_zero, g0, w0, e2, e3, e4, e5, e6, e7, e8, w1]
            exact ⟨by omega, tail86 (n := c.toNat - 240) (k := 4) (by omega) (by omega) hl _⟩
          · have hf : firstS (c :: t) = (0, 0) := by
              simp only [firstS, leadS, if_neg h1, if_neg h2, if_neg h3, if_neg h4]
            rw [hf]
            by_cases h5 : 192 ≤ c.toNat
            · have e3 : decide ((c.toNat : Int) ≥ 192) = true := decide_eq_true (by omega)
              have e4 : decide ((c.toNat : Int) < 224) = false := decide_eq_false (by omega)
              have e5 : decide ((c.toNat : Int) ≥ 224) = true := decide_eq_true (by omega)
              have e6 : decide ((c.toNat : Int) < 240) = false := decide_eq_false (by omega)
              have e7 : decide ((c.toNat : Int) ≥ 240) = true := decide_eq_true (by omega)
              have e8 : decide ((c.toNat : Int) < 248) = false := decide_eq_false (by omega)
              simp only [ic86, wkA, Nat.reduceEqDiff, Nat.reduceAdd, Nat.reduceSub, Nat.reduceLeDiff, Nat.reduceLT, Nat.reduceBEq, Nat.reduceBNe, reduceCtorEq, e1]
              simp only [ic86_8, wkA, Nat.reduceEqDiff, Nat.reduceAdd, Nat.reduceSub, Nat.reduceLeDiff, Nat.reduceLT, Nat.reduceBEq, Nat.reduceBNe, reduceCtorEq, Int.toNat_zero, g0, w0, e2, e3, e4, e5, e6, e7, e8]
              exact ⟨by omega, rfl⟩
            · have e3 : decide ((c.toNat : Int) ≥ 192) = false := decide_eq_false (by omega)
              have e5 : decide ((c.toNat : Int) ≥ 224) = false := decide_eq_false (by omega)
              have e7 : decide ((c.toNat : Int) ≥ 240) = false := decide_eq_false (by omega)
              simp only [ic86, wkA, Nat.reduceEqDiff, Nat.reduceAdd, Nat.reduceSub, Nat.reduceLeDiff, Nat.reduceLT, Nat.reduceBEq, Nat.reduceBNe, reduceCtorEq, e1]
              simp only [ic86_8, wkA, Nat.reduceEqDiff, Nat.reduceAdd, Nat.reduceSub, Nat.reduceLeDiff, Nat.reduceLT, Nat.reduceBEq, Nat.reduceBNe, reduceCtorEq, Int.toNat_zero, g0, w0, e2, e3, e5, e7]
              exact ⟨by omega, rfl⟩
theorem firstS_le (s : List UInt8) : (firstS s).2 ≤ s.length ∧ (firstS s).2 ≤ 4 := by
  unfold firstS
  split
  · simp
  · rename_i c t
    split
    · simp
    · rename_i n k hk
      have hk4 : k ≤ 4 := by
        unfold leadS at hk
        repeat' split at hk
        all_goals first
          | (injection hk with hk; injection hk with h1 h2; omega)
          | cases hk
      split
      · simp
      · rename_i hlen
        split
        · simp
        · split
          · simp
          · split
            · simp
            · exact ⟨by omega, hk4⟩
theorem badS_nil : badS [] = none := by rw [badS]; simp
theorem badS_cons {s : List UInt8} (h : s ≠ []) : badS s = if (firstS s).2 = 0 then some 0 else (badS (s.drop (firstS s).2)).map (· + (firstS s).2) := by
  rw [badS, dif_neg h]
  split <;> rfl
theorem runesS_nil : runesS [] = [] := by rw [runesS]; simp
theorem runesS_cons {s : List UInt8} (h : s ≠ []) (h2 : (firstS s).2 ≠ 0) : runesS s = (firstS s).1 :: runesS (s.drop (firstS s).2) := by
  rw [runesS, dif_neg h, dif_neg h2]
def runA (s : List UInt8) : AV := match badS s with
  | some b => .tup [.nil, i64 b]
  | none => .tup [.sl 1 ((runesS s).map i32), i64 (-1)]
def I85 (s : List UInt8) (j : Nat) (st : St) : Prop := ∃ (k : Nat) (xs : List Int), j = s.length - k ∧ k ≤ s.length ∧ st = ⟨[(0, .str s), (4, .own 25), (5, i64 k)], [(25, .row 21 1 (xs.map i32))]⟩ ∧ xs.length ≤ k ∧
  badS s = (badS (s.drop k)).map (· + k) ∧ runesS s = xs ++ runesS (s.drop k)
theorem con85 {s : List UInt8} (hl : s.length < 1099511627776) : Fn 85 [.str s] (runA s) := by
  refine e85 (by simp) ?_
  simp only [ic85, wkA, Nat.reduceEqDiff, Nat.reduceAdd, Nat.reduceSub, Nat.reduceLeDiff, Nat.reduceLT, Nat.reduceBEq, Nat.reduceBNe, reduceCtorEq]
  refine ⟨I85 s, s.length, ⟨[(0, .str s), (4, .own 25), (5, i64 0)], [(25, .row 21 1 [])]⟩, ?_, ⟨0, [], by omega, by omega, rfl, by simp, by simp, by simp⟩, ?_⟩
  · have := Gh.own (s := ⟨[(0, .str s), (4, .nil), (5, i64 0)], []⟩) (t := 4) 21 1 25 rfl (by decide)
    refine this.trans ?_
    refine (Gh.keep _ [0, 4, 5] [25]).trans ?_
    simp only [wkA, Nat.reduceEqDiff, Nat.reduceAdd, Nat.reduceSub, Nat.reduceLeDiff, Nat.reduceLT, Nat.reduceBEq, Nat.reduceBNe, reduceCtorEq]
    exact Gh.refl _
  · rintro j st ⟨k, xs, rfl, hk, rfl, hxl, hb, hr⟩
    by_cases hlt : k < s.length
    · have e0 : decide ((k : Int) < (s.length : Int)) = true := decide_eq_true (by omega)
      have hdl : (s.drop k).length = s.length - k := by simp
      have hne : s.drop k ≠ [] := by intro e; rw [e] at hdl; simp at hdl; omega
      have c86 := con86 (s := s.drop k) (by omega)
      have hle := firstS_le (s.drop k)
      have htk : (s.drop k).take (s.length - k) = s.drop k := List.take_of_length_le (by omega)
      rw [badS_cons hne] at hb
      by_cases h0 : (firstS (s.drop k)).2 = 0
      · have e1 : (((firstS (s.drop k)).2 : Int) == 0) = true := by rw [h0]; rfl
        rw [if_pos h0] at hb
        have hres : runA s = .tup [.nil, i64 k] := by rw [runA, hb]; simp
        rw [hres]
        simp only [ic85_3, ic85_2, wkA, Nat.reduceEqDiff, Nat.reduceAdd, Nat.reduceSub, Nat.reduceLeDiff, Nat.reduceLT, Nat.reduceBEq, Nat.reduceBNe, reduceCtorEq, e0, Int.toNat_natCast, htk]
        refine ⟨⟨by omega, by omega, by omega⟩, callF c86 rfl ?_⟩
        simp only [wkA, Nat.reduceEqDiff, Nat.reduceAdd, Nat.reduceSub, Nat.reduceLeDiff, Nat.reduceLT, Nat.reduceBEq, Nat.reduceBNe, reduceCtorEq, e1]
      · have e1 : (((firstS (s.drop k)).2 : Int) == 0) = false := by rw [beq_eq_false_iff_ne]; omega
        rw [if_neg h0] at hb
        rw [runesS_cons hne h0] at hr
        have w1 : IntKind.i64.wrap ((k : Int) + ((firstS (s.drop k)).2 : Int)) = ((k + (firstS (s.drop k)).2 : Nat) : Int) := by rw [wrap64] <;> omega
        simp only [ic85_3, ic85_2, ic85_1, wkA, Nat.reduceEqDiff, Nat.reduceAdd, Nat.reduceSub, Nat.reduceLeDiff, Nat.reduceLT, Nat.reduceBEq, Nat.reduceBNe, reduceCtorEq, e0, Int.toNat_natCast, htk]
        refine ⟨⟨by omega, by omega, by omega⟩, callF c86 rfl ?_⟩
        simp only [wkA, Nat.reduceEqDiff, Nat.reduceAdd, Nat.reduceSub, Nat.reduceLeDiff, Nat.reduceLT, Nat.reduceBEq, Nat.reduceBNe, reduceCtorEq, e1, w1, List.length_map]
        refine ⟨⟨by omega, by omega⟩, _, s.length - (k + (firstS (s.drop k)).2), Gh.refl _, by omega, k + (firstS (s.drop k)).2, xs ++ [(firstS (s.drop k)).1], rfl, by omega, ?_, by simp; omega, ?_, ?_⟩
        · simp
        · rw [hb, List.drop_drop, Option.map_map]
          congr 1
          funext x
          simp only [Function.comp]
          omega
        · rw [hr, List.drop_drop]; simp
    · have e0 : decide ((k : Int) < (s.length : Int)) = false := decide_eq_false (by omega)
      have hk2 : s.drop k = [] := List.drop_of_length_le (by omega)
      rw [hk2, badS_nil] at hb
      rw [hk2, runesS_nil, List.append_nil] at hr
      have hres : runA s = .tup [.sl 1 (xs.map i32), i64 (-1)] := by rw [runA, hb, hr]; rfl
      rw [hres]
      simp only [ic85_3, wkA, Nat.reduceEqDiff, Nat.reduceAdd, Nat.reduceSub, Nat.reduceLeDiff, Nat.reduceLT, Nat.reduceBEq, Nat.reduceBNe, reduceCtorEq, e0]
      simp only [ic85_4, wkA, Nat.reduceEqDiff, Nat.reduceAdd, Nat.reduceSub, Nat.reduceLeDiff, Nat.reduceLT, Nat.reduceBEq, Nat.reduceBNe, reduceCtorEq]
theorem firstS_bytes {s : List UInt8} (h : (firstS s).2 ≠ 0) : bytesS (firstS s).1.toNat = s.take (firstS s).2 ∧ scalarS (firstS s).1 = true := by
  obtain ⟨x, hx⟩ : ∃ x, x = firstS s := ⟨_, rfl⟩
  rw [← hx] at h ⊢
  unfold firstS at hx
  split at hx
  · subst hx; exact absurd rfl h
  · split at hx
    · subst hx; exact absurd rfl h
    · split at hx
      · subst hx; exact absurd rfl h
      · split at hx
        · subst hx; exact absurd rfl h
        · split at hx
          · subst hx; exact absurd rfl h
          · rename_i h1
            split at hx
            · subst hx; exact absurd rfl h
            · rename_i h2
              subst hx
              exact ⟨by simpa using h2, by simpa using h1⟩
theorem first39 {s : List UInt8} (h : (firstS s).2 ≠ 0) (h2 : (firstS s).1 = 39) : (firstS s).2 = 1 := by
  have h3 := (firstS_bytes h).1
  rw [h2] at h3
  have h4 := firstS_le s
  have h5 : (bytesS (39 : Int).toNat).length = 1 := by decide
  rw [h3, List.length_take] at h5
  omega
theorem first_ascii (c : UInt8) (t : List UInt8) (h : c.toNat < 128) : firstS (c :: t) = ((c.toNat : Int), 1) := by
  have h1 : leadS c.toNat = some (c.toNat, 1) := by rw [leadS, if_pos h]
  have h2 : scalarS (c.toNat : Int) = true := by
    simp only [scalarS, Bool.and_eq_true, Bool.or_eq_true, decide_eq_true_eq]; omega
  have h3 : bytesS (c.toNat : Int).toNat = [c] := by
    rw [Int.toNat_natCast, bytesS, if_pos h, UInt8.ofNat_toNat]
  simp only [firstS, h1]
  rw [if_neg (by simp)]
  simp only [Nat.sub_self, contS]
  rw [if_neg (by rw [h2]; simp), if_neg (by rw [h3]; simp)]
theorem badS_step {s : List UInt8} (h : s ≠ []) (hb : badS s = none) : (firstS s).2 ≠ 0 ∧ badS (s.drop (firstS s).2) = none := by
  rw [badS_cons h] at hb
  split at hb
  · cases hb
  · rename_i h2
    exact ⟨h2, by simpa using hb⟩
theorem badS_two {s : List UInt8} (h : s ≠ []) (hb : badS s = none) (h1 : (firstS s).1 = 39) (h2 : 2 ≤ s.length) (h3 : s.getD 1 0 = 39) : badS (s.drop 2) = none := by
  obtain ⟨h4, h5⟩ := badS_step h hb
  rw [first39 h4 h1] at h5
  have h6 : s.drop 1 = 39 :: s.drop 2 := by rw [drop_get (show 1 < s.length by omega), h3]
  rw [h6] at h5
  have := badS_step (by simp) h5
  rw [first_ascii 39 _ (by decide)] at this
  simpa using this.2
theorem scanS_nil (pos : Nat) (op : Int) : scanS [] pos op = (op, []) := by rw [scanS]; simp
theorem scanS_two {s : List UInt8} {pos : Nat} {op : Int} (h : s ≠ []) (h2 : (firstS s).2 ≠ 0) (h3 : (firstS s).1 = 39 ∧ 2 ≤ s.length ∧ s.getD 1 0 = 39) :
    scanS s pos op = ((scanS (s.drop 2) (pos + 2) op).1, ⟨39, true, pos⟩ :: (scanS (s.drop 2) (pos + 2) op).2) := by rw [scanS, dif_neg h, dif_neg h2, if_pos h3]
theorem scanS_quote {s : List UInt8} {pos : Nat} {op : Int} (h : s ≠ []) (h2 : (firstS s).2 ≠ 0) (h3 : ¬ ((firstS s).1 = 39 ∧ 2 ≤ s.length ∧ s.getD 1 0 = 39)) (h4 : (firstS s).1 = 39) :
    scanS s pos op = scanS (s.drop (firstS s).2) (pos + (firstS s).2) (if 0 ≤ op then -1 else pos) := by rw [scanS, dif_neg h, dif_neg h2, if_neg h3, if_pos h4]
theorem scanS_other {s : List UInt8} {pos : Nat} {op : Int} (h : s ≠ []) (h2 : (firstS s).2 ≠ 0) (h4 : (firstS s).1 ≠ 39) :
    scanS s pos op = ((scanS (s.drop (firstS s).2) (pos + (firstS s).2) op).1, ⟨(firstS s).1, decide (0 ≤ op), pos⟩ :: (scanS (s.drop (firstS s).2) (pos + (firstS s).2) op).2) := by
  rw [scanS, dif_neg h, dif_neg h2, if_neg (fun h => h4 h.1), if_neg h4]
def Tok.av (t : Tok) : AV := .agg [i32 t.r, .bool t.q, i64 t.at_]
def Flt.av (f : Flt) : AV := .agg [i64 f.e, i64 f.at_]
def scanA (s : List UInt8) : AV := match scanT s with
  | .error f => .tup [.nil, f.av]
  | .ok l => .tup [.sl 3 (l.map Tok.av), (Flt.mk 0 0).av]
def I55 (s : List UInt8) (j : Nat) (st : St) : Prop := ∃ (k : Nat) (op : Int) (xs : List Tok), j = s.length - k ∧ k ≤ s.length ∧ -1 ≤ op ∧ op < 1099511627776 ∧ xs.length ≤ k ∧
  st = ⟨[(0, .str s), (3, .box 3 0), (6, .own 67), (7, i64 op), (8, i64 k)], [(3, .box 52 [i64 0, i64 0]), (67, .row 71 3 (xs.map Tok.av))]⟩ ∧
  badS (s.drop k) = none ∧ scanS s 0 (-1) = ((scanS (s.drop k) k op).1, xs ++ (scanS (s.drop k) k op).2)
theorem con55 {s : List UInt8} (hl : s.length < 1099511627776) : Fn 55 [.str s] (scanA s) := by
  have c85 := con85 hl
  refine e55 (by simp) ?_
  unfold scanA scanT
  unfold runA at c85
  cases hb : badS s with
  | some b =>
    rw [hb] at c85
    have e1 : decide (((b : Nat) : Int) ≥ 0) = true := decide_eq_true (by omega)
    simp only at c85 ⊢
    simp only [ic55, wkA, Nat.reduceEqDiff, Nat.reduceAdd, Nat.reduceSub, Nat.reduceLeDiff, Nat.reduceLT, Nat.reduceBEq, Nat.reduceBNe, reduceCtorEq]
    refine callF c85 rfl ?_
    simp only [wkA, Nat.reduceEqDiff, Nat.reduceAdd, Nat.reduceSub, Nat.reduceLeDiff, Nat.reduceLT, Nat.reduceBEq, Nat.reduceBNe, reduceCtorEq, e1]
    rfl
  | none =>
    rw [hb] at c85
    simp only at c85 ⊢
    have e1 : decide ((-1 : Int) ≥ 0) = false := rfl
    simp only [ic55, wkA, Nat.reduceEqDiff, Nat.reduceAdd, Nat.reduceSub, Nat.reduceLeDiff, Nat.reduceLT, Nat.reduceBEq, Nat.reduceBNe, reduceCtorEq]
    refine callF c85 rfl ?_
    simp only [wkA, Nat.reduceEqDiff, Nat.reduceAdd, Nat.reduceSub, Nat.reduceLeDiff, Nat.reduceLT, Nat.reduceBEq, Nat.reduceBNe, reduceCtorEq, e1]
    simp only [ic55_8, wkA, Nat.reduceEqDiff, Nat.reduceAdd, Nat.reduceSub, Nat.reduceLeDiff, Nat.reduceLT, Nat.reduceBEq, Nat.reduceBNe, reduceCtorEq]
    refine ⟨I55 s, s.length, ⟨[(0, .str s), (3, .box 3 0), (6, .own 67), (7, i64 (-1)), (8, i64 0)], [(3, .box 52 [i64 0, i64 0]), (67, .row 71 3 [])]⟩, ?_, ⟨0, -1, [], by omega, by omega, by omega, by omega, by simp, rfl, by simpa using hb, by simp⟩, ?_⟩
    · have := Gh.own (s := ⟨[(0, .str s), (3, .box 3 0), (6, .nil), (7, i64 (-1)), (8, i64 0)], [(3, .box 52 [i64 0, i64 0])]⟩) (t := 6) 71 3 67 rfl (by decide)
      refine this.trans ?_
      refine (Gh.keep _ [0, 3, 6, 7, 8] [3, 67]).trans ?_
      simp only [wkA, Nat.reduceEqDiff, Nat.reduceAdd, Nat.reduceSub, Nat.reduceLeDiff, Nat.reduceLT, Nat.reduceBEq, Nat.reduceBNe, reduceCtorEq]
      exact Gh.refl _
    · rintro j st ⟨k, op, xs, rfl, hk, hop, hop2, hxl, rfl, hbk, hsc⟩
      by_cases hlt : k < s.length
      · have e0 : decide ((k : Int) < (s.length : Int)) = true := decide_eq_true (by omega)
        have hdl : (s.drop k).length = s.length - k := by simp
        have hne : s.drop k ≠ [] := by intro e; rw [e] at hdl; simp at hdl; omega
        have c86 := con86 (s := s.drop k) (by omega)
        have hle := firstS_le (s.drop k)
        have htk : (s.drop k).take (s.length - k) = s.drop k := List.take_of_length_le (by omega)
        obtain ⟨hn0, hbn⟩ := badS_step hne hbk
        have w1 : IntKind.i64.wrap ((k : Int) + 1) = ((k + 1 : Nat) : Int) := by rw [wrap64] <;> omega
        have w2 : IntKind.i64.wrap ((k : Int) + 2) = ((k + 2 : Nat) : Int) := by rw [wrap64] <;> omega
        have wn : IntKind.i64.wrap ((k : Int) + ((firstS (s.drop k)).2 : Int)) = ((k + (firstS (s.drop k)).2 : Nat) : Int) := by rw [wrap64] <;> omega
        have hgd : (s.drop k).getD 1 0 = s.getD (k + 1) 0 := by simp [List.getD_eq_getElem?_getD]
        rw [List.drop_drop] at hbn
        have hbt := badS_two hne hbk
        have s2 := scanS_two (pos := k) (op := op) hne hn0
        have sq := scanS_quote (pos := k) (op := op) hne hn0
        have so := scanS_other (pos := k) (op := op) hne hn0
        rw [hgd, List.drop_drop] at s2 hbt
        rw [hgd, List.drop_drop] at sq
        rw [List.drop_drop] at so
        rw [hdl] at s2 hbt sq
        have step : ∀ (n : Nat) (op' : Int) (t : List Tok), n ≠ 0 → n ≤ 4 → k + n ≤ s.length → -1 ≤ op' → op' < 1099511627776 → t.length ≤ 1 → badS (s.drop (k + n)) = none → scanS (s.drop k) k op = ((scanS (s.drop (k + n)) (k + n) op').1, t ++ (scanS (s.drop (k + n)) (k + n) op').2) →
            backQ (I55 s) (s.length - k) ⟨[(0, .str s), (3, .box 3 0), (6, .own 67), (7, i64 op'), (8, i64 ((k + n : Nat) : Int))], [(3, .box 52 [i64 0, i64 0]), (67, .row 71 3 (xs.map Tok.av ++ t.map Tok.av))]⟩ := by
          intro n op' t h1 h2 h3 h4 h5 h6 h7 h8
          refine ⟨_, s.length - (k + n), Gh.refl _, by omega, k + n, op', xs ++ t, rfl, h3, h4, h5, by simp; omega, by simp, h7, ?_⟩
          rw [hsc, h8]; simp
        have hfv : IntKind.i64.wrap 0 = 0 := rfl
        generalize hfr : (firstS (s.drop k)).1 = r at *
        generalize hfn : (firstS (s.drop k)).2 = n at *
        by_cases h39 : r = 39
        · have e39 : (r == 39) = true := beq_iff_eq.2 h39
          by_cases h2l : k + 1 < s.length
          · have el : decide (((k + 1 : Nat) : Int) < (s.length : Int)) = true := decide_eq_true (by omega)
            by_cases hq : s.getD (k + 1) 0 = 39
            · have eq : (((s.getD (k + 1) 0).toNat : Int) == 39) = true := by rw [hq]; rfl
              have hs2 := s2 ⟨h39, by omega, hq⟩
              have hb2 := hbt h39 (by omega) hq
              simp only [ic55_4, ic55_3, wkA, Nat.reduceEqDiff, Nat.reduceAdd, Nat.reduceSub, Nat.reduceLeDiff, Nat.reduceLT, Nat.reduceBEq, Nat.reduceBNe, reduceCtorEq, e0, Int.toNat_natCast, htk]
              refine ⟨⟨by omega, by omega, by omega⟩, callF c86 rfl ?_⟩
              simp only [wkA, Nat.reduceEqDiff, Nat.reduceAdd, Nat.reduceSub, Nat.reduceLeDiff, Nat.reduceLT, Nat.reduceBEq, Nat.reduceBNe, reduceCtorEq, e39, w1, el, Int.toNat_natCast, eq, w2, List.length_map]
              refine ⟨⟨by omega, by omega⟩, ⟨by omega, by omega⟩, ?_⟩
              have := step 2 op [⟨39, true, k⟩] (by omega) (by omega) (by omega) hop hop2 (by simp) hb2 hs2
              simp only [List.map_cons, List.map_nil, Tok.av] at this
              rw [h39]
              exact this
            · have eq : (((s.getD (k + 1) 0).toNat : Int) == 39) = false := by
                rw [beq_eq_false_iff_ne]; intro e; exact hq (UInt8.toNat_inj.1 (by have : (39 : UInt8).toNat = 39 := rfl; omega))
              have hs2 := sq (fun h => hq h.2.2) h39
              by_cases hop0 : 0 ≤ op
              · have eo : decide (op ≥ 0) = true := decide_eq_true hop0
                rw [if_pos hop0] at hs2
                simp only [ic55_4, ic55_3, wkA, Nat.reduceEqDiff, Nat.reduceAdd, Nat.reduceSub, Nat.reduceLeDiff, Nat.reduceLT, Nat.reduceBEq, Nat.reduceBNe, reduceCtorEq, e0, Int.toNat_natCast, htk]
                refine ⟨⟨by omega, by omega, by omega⟩, callF c86 rfl ?_⟩
                simp only [wkA, Nat.reduceEqDiff, Nat.reduceAdd, Nat.reduceSub, Nat.reduceLeDiff, Nat.reduceLT, Nat.reduceBEq, Nat.reduceBNe, reduceCtorEq, e39, w1, el, Int.toNat_natCast, eq]
                refine ⟨⟨by omega, by omega⟩, ?_⟩
                simp only [ic55_2, ic55_1, wkA, Nat.reduceEqDiff, Nat.reduceAdd, Nat.reduceSub, Nat.reduceLeDiff, Nat.reduceLT, Nat.reduceBEq, Nat.reduceBNe, reduceCtorEq, e39, eo, wn]
                have := step n (-1) [] (by omega) (by omega) (by omega) (by omega) (by omega) (by simp) hbn (by rw [hs2]; simp)
                simpa using this
              · have eo : decide (op ≥ 0) = false := decide_eq_false hop0
                rw [if_neg hop0] at hs2
                simp only [ic55_4, ic55_3, wkA, Nat.reduceEqDiff, Nat.reduceAdd, Nat.reduceSub, Nat.reduceLeDiff, Nat.reduceLT, Nat.reduceBEq, Nat.reduceBNe, reduceCtorEq, e0, Int.toNat_natCast, htk]
                refine ⟨⟨by omega, by omega, by omega⟩, callF c86 rfl ?_⟩
                simp only [wkA, Nat.reduceEqDiff, Nat.reduceAdd, Nat.reduceSub, Nat.reduceLeDiff, Nat.reduceLT, Nat.reduceBEq, Nat.reduceBNe, reduceCtorEq, e39, w1, el, Int.toNat_natCast, eq]
                refine ⟨⟨by omega, by omega⟩, ?_⟩
                simp only [ic55_2, ic55_1, wkA, Nat.reduceEqDiff, Nat.reduceAdd, Nat.reduceSub, Nat.reduceLeDiff, Nat.reduceLT, Nat.reduceBEq, Nat.reduceBNe, reduceCtorEq, e39, eo, wn]
                have := step n k [] (by omega) (by omega) (by omega) (by omega) (by omega) (by simp) hbn (by rw [hs2]; simp)
                simpa using this
          · have el : decide (((k + 1 : Nat) : Int) < (s.length : Int)) = false := decide_eq_false (by omega)
            have hs2 := sq (fun h => by have := h.2.1; omega) h39
            by_cases hop0 : 0 ≤ op
            · have eo : decide (op ≥ 0) = true := decide_eq_true hop0
              rw [if_pos hop0] at hs2
              simp only [ic55_4, ic55_3, wkA, Nat.reduceEqDiff, Nat.reduceAdd, Nat.reduceSub, Nat.reduceLeDiff, Nat.reduceLT, Nat.reduceBEq, Nat.reduceBNe, reduceCtorEq, e0, Int.toNat_natCast, htk]
              refine ⟨⟨by omega, by omega, by omega⟩, callF c86 rfl ?_⟩
              simp only [wkA, Nat.reduceEqDiff, Nat.reduceAdd, Nat.reduceSub, Nat.reduceLeDiff, Nat.reduceLT, Nat.reduceBEq, Nat.reduceBNe, reduceCtorEq, e39, w1, el]
              simp only [ic55_2, ic55_1, wkA, Nat.reduceEqDiff, Nat.reduceAdd, Nat.reduceSub, Nat.reduceLeDiff, Nat.reduceLT, Nat.reduceBEq, Nat.reduceBNe, reduceCtorEq, e39, eo, wn]
              have := step n (-1) [] (by omega) (by omega) (by omega) (by omega) (by omega) (by simp) hbn (by rw [hs2]; simp)
              simpa using this
            · have eo : decide (op ≥ 0) = false := decide_eq_false hop0
              rw [if_neg hop0] at hs2
              simp only [ic55_4, ic55_3, wkA, Nat.reduceEqDiff, Nat.reduceAdd, Nat.reduceSub, Nat.reduceLeDiff, Nat.reduceLT, Nat.reduceBEq, Nat.reduceBNe, reduceCtorEq, e0, Int.toNat_natCast, htk]
              refine ⟨⟨by omega, by omega, by omega⟩, callF c86 rfl ?_⟩
              simp only [wkA, Nat.reduceEqDiff, Nat.reduceAdd, Nat.reduceSub, Nat.reduceLeDiff, Nat.reduceLT, Nat.reduceBEq, Nat.reduceBNe, reduceCtorEq, e39, w1, el]
              simp only [ic55_2, ic55_1, wkA, Nat.reduceEqDiff, Nat.reduceAdd, Nat.reduceSub, Nat.reduceLeDiff, Nat.reduceLT, Nat.reduceBEq, Nat.reduceBNe, reduceCtorEq, e39, eo, wn]
              have := step n k [] (by omega) (by omega) (by omega) (by omega) (by omega) (by simp) hbn (by rw [hs2]; simp)
              simpa using this
        · have e39 : (r == 39) = false := beq_eq_false_iff_ne.2 h39
          have hs2 := so h39
          simp only [ic55_4, ic55_3, wkA, Nat.reduceEqDiff, Nat.reduceAdd, Nat.reduceSub, Nat.reduceLeDiff, Nat.reduceLT, Nat.reduceBEq, Nat.reduceBNe, reduceCtorEq, e0, Int.toNat_natCast, htk]
          refine ⟨⟨by omega, by omega, by omega⟩, callF c86 rfl ?_⟩
          simp (config := { maxSteps := 2000000 }) only [wkA, Nat.reduceEqDiff, Nat.reduceAdd, Nat.reduceSub, Nat.reduceLeDiff, Nat.reduceLT, Nat.reduceBEq, Nat.reduceBNe, reduceCtorEq, e39]
          simp only [ic55_2, ic55_1, wkA, Nat.reduceEqDiff, Nat.reduceAdd, Nat.reduceSub, Nat.reduceLeDiff, Nat.reduceLT, Nat.reduceBEq, Nat.reduceBNe, reduceCtorEq, e39, wn, List.length_map]
          refine ⟨⟨by omega, by omega⟩, ?_⟩
          have := step n op [⟨r, decide (0 ≤ op), k⟩] (by omega) (by omega) (by omega) hop hop2 (by simp) hbn hs2
          simp only [List.map_cons, List.map_nil, Tok.av] at this
          exact this
      · have e0 : decide ((k : Int) < (s.length : Int)) = false := decide_eq_false (by omega)
        have hk2 : s.drop k = [] := List.drop_of_length_le (by omega)
        rw [hk2, scanS_nil] at hsc
        rw [hsc]
        simp only [ic55_4, wkA, Nat.reduceEqDiff, Nat.reduceAdd, Nat.reduceSub, Nat.reduceLeDiff, Nat.reduceLT, Nat.reduceBEq, Nat.reduceBNe, reduceCtorEq, e0]
        simp only [List.append_nil]
        by_cases hop0 : 0 ≤ op
        · have eo : decide (op ≥ 0) = true := decide_eq_true hop0
          rw [if_pos hop0]
          simp only [ic55_7, wkA, Nat.reduceEqDiff, Nat.reduceAdd, Nat.reduceSub, Nat.reduceLeDiff, Nat.reduceLT, Nat.reduceBEq, Nat.reduceBNe, reduceCtorEq, eo]
          rfl
        · have eo : decide (op ≥ 0) = false := decide_eq_false hop0
          rw [if_neg hop0]
          simp only [ic55_7, wkA, Nat.reduceEqDiff, Nat.reduceAdd, Nat.reduceSub, Nat.reduceLeDiff, Nat.reduceLT, Nat.reduceBEq, Nat.reduceBNe, reduceCtorEq, eo]
          by_cases h400 : 400 < xs.length
          · have e4 : decide ((xs.length : Int) > 400) = true := decide_eq_true (by omega)
            rw [if_pos h400]
            simp only [ic55_6, wkA, Nat.reduceEqDiff, Nat.reduceAdd, Nat.reduceSub, Nat.reduceLeDiff, Nat.reduceLT, Nat.reduceBEq, Nat.reduceBNe, reduceCtorEq, List.length_map, e4]
            rfl
          · have e4 : decide ((xs.length : Int) > 400) = false := decide_eq_false (by omega)
            rw [if_neg h400]
            simp only [ic55_6, wkA, Nat.reduceEqDiff, Nat.reduceAdd, Nat.reduceSub, Nat.reduceLeDiff, Nat.reduceLT, Nat.reduceBEq, Nat.reduceBNe, reduceCtorEq, List.length_map, e4]
            simp only [ic55_5, wkA, Nat.reduceEqDiff, Nat.reduceAdd, Nat.reduceSub, Nat.reduceLeDiff, Nat.reduceLT, Nat.reduceBEq, Nat.reduceBNe, reduceCtorEq]
            rfl
theorem con114 (r : Int) : Fn 114 [i32 r] (.bool (markS r)) := by
  refine e114 (by simp) ?_
  unfold markS
  have ge : decide (r ≥ 48) = decide (48 ≤ r) := rfl
  rw [← ge]
  cases h1 : decide (r ≥ 48) with
  | false =>
    cases h3 : r == 35 with
    | true => simp only [ic114, wkA, Nat.reduceEqDiff, Nat.reduceAdd, Nat.reduceSub, Nat.reduceLeDiff, Nat.reduceLT, Nat.reduceBEq, Nat.reduceBNe, reduceCtorEq, h1, h3]; rfl
    | false => cases h4 : r == 64 with
      | true => simp only [ic114, wkA, Nat.reduceEqDiff, Nat.reduceAdd, Nat.reduceSub, Nat.reduceLeDiff, Nat.reduceLT, Nat.reduceBEq, Nat.reduceBNe, reduceCtorEq, h1, h3, h4]; rfl
      | false => cases h5 : r == 44 with
        | true => simp only [ic114, wkA, Nat.reduceEqDiff, Nat.reduceAdd, Nat.reduceSub, Nat.reduceLeDiff, Nat.reduceLT, Nat.reduceBEq, Nat.reduceBNe, reduceCtorEq, h1, h3, h4, h5]; rfl
        | false => cases h6 : r == 46 with
          | true => simp only [ic114, wkA, Nat.reduceEqDiff, Nat.reduceAdd, Nat.reduceSub, Nat.reduceLeDiff, Nat.reduceLT, Nat.reduceBEq, Nat.reduceBNe, reduceCtorEq, h1, h3, h4, h5, h6]; rfl
          | false => cases h7 : r == 59 with
            | true => simp only [ic114, wkA, Nat.reduceEqDiff, Nat.reduceAdd, Nat.reduceSub, Nat.reduceLeDiff, Nat.reduceLT, Nat.reduceBEq, Nat.reduceBNe, reduceCtorEq, h1, h3, h4, h5, h6, h7]; rfl
            | false => simp only [ic114, wkA, Nat.reduceEqDiff, Nat.reduceAdd, Nat.reduceSub, Nat.reduceLeDiff, Nat.reduceLT, Nat.reduceBEq, Nat.reduceBNe, reduceCtorEq, h1, h3, h4, h5, h6, h7]; rfl
  | true =>
    cases h2 : decide (r ≤ 57) with
    | true => simp only [ic114, wkA, Nat.reduceEqDiff, Nat.reduceAdd, Nat.reduceSub, Nat.reduceLeDiff, Nat.reduceLT, Nat.reduceBEq, Nat.reduceBNe, reduceCtorEq, h1, h2]; rfl
    | false => cases h3 : r == 35 with
      | true => simp only [ic114, wkA, Nat.reduceEqDiff, Nat.reduceAdd, Nat.reduceSub, Nat.reduceLeDiff, Nat.reduceLT, Nat.reduceBEq, Nat.reduceBNe, reduceCtorEq, h1, h2, h3]; rfl
      | false => cases h4 : r == 64 with
        | true => simp only [ic114, wkA, Nat.reduceEqDiff, Nat.reduceAdd, Nat.reduceSub, Nat.reduceLeDiff, Nat.reduceLT, Nat.reduceBEq, Nat.reduceBNe, reduceCtorEq, h1, h2, h3, h4]; rfl
        | false => cases h5 : r == 44 with
          | true => simp only [ic114, wkA, Nat.reduceEqDiff, Nat.reduceAdd, Nat.reduceSub, Nat.reduceLeDiff, Nat.reduceLT, Nat.reduceBEq, Nat.reduceBNe, reduceCtorEq, h1, h2, h3, h4, h5]; rfl
          | false => cases h6 : r == 46 with
            | true => simp only [ic114, wkA, Nat.reduceEqDiff, Nat.reduceAdd, Nat.reduceSub, Nat.reduceLeDiff, Nat.reduceLT, Nat.reduceBEq, Nat.reduceBNe, reduceCtorEq, h1, h2, h3, h4, h5, h6]; rfl
            | false => cases h7 : r == 59 with
              | true => simp only [ic114, wkA, Nat.reduceEqDiff, Nat.reduceAdd, Nat.reduceSub, Nat.reduceLeDiff, Nat.reduceLT, Nat.reduceBEq, Nat.reduceBNe, reduceCtorEq, h1, h2, h3, h4, h5, h6, h7]; rfl
              | false => simp only [ic114, wkA, Nat.reduceEqDiff, Nat.reduceAdd, Nat.reduceSub, Nat.reduceLeDiff, Nat.reduceLT, Nat.reduceBEq, Nat.reduceBNe, reduceCtorEq, h1, h2, h3, h4, h5, h6, h7]; rfl
theorem beqI {x y : Int} : (x == y) = decide (x = y) := by rw [Bool.eq_iff_iff, beq_iff_eq, decide_eq_true_eq]
theorem con115 (r : Int) : Fn 115 [i32 r] (i64 (signS r)) := by
  refine e115 (by simp) ?_
  unfold signS
  by_cases h1 : r = 45
  · rw [if_pos h1]
    simp only [ic115, wkA, Nat.reduceEqDiff, Nat.reduceAdd, Nat.reduceSub, Nat.reduceLeDiff, Nat.reduceLT, Nat.reduceBEq, Nat.reduceBNe, reduceCtorEq, beqI, decide_eq_true h1]
  · rw [if_neg h1]
    by_cases h2 : r = 43
    · rw [if_pos h2]
      simp only [ic115, wkA, Nat.reduceEqDiff, Nat.reduceAdd, Nat.reduceSub, Nat.reduceLeDiff, Nat.reduceLT, Nat.reduceBEq, Nat.reduceBNe, reduceCtorEq, beqI, decide_eq_false h1, decide_eq_true h2]
    · rw [if_neg h2]
      by_cases h3 : r = 37
      · rw [if_pos h3]
        simp only [ic115, wkA, Nat.reduceEqDiff, Nat.reduceAdd, Nat.reduceSub, Nat.reduceLeDiff, Nat.reduceLT, Nat.reduceBEq, Nat.reduceBNe, reduceCtorEq, beqI, decide_eq_false h1, decide_eq_false h2, decide_eq_true h3]
      · rw [if_neg h3]
        by_cases h4 : r = 8240
        · rw [if_pos h4]
          simp only [ic115, wkA, Nat.reduceEqDiff, Nat.reduceAdd, Nat.reduceSub, Nat.reduceLeDiff, Nat.reduceLT, Nat.reduceBEq, Nat.reduceBNe, reduceCtorEq, beqI, decide_eq_false h1, decide_eq_false h2, decide_eq_false h3, decide_eq_true h4]
        · rw [if_neg h4]
          by_cases h5 : r = 164
          · rw [if_pos h5]
            simp only [ic115, wkA, Nat.reduceEqDiff, Nat.reduceAdd, Nat.reduceSub, Nat.reduceLeDiff, Nat.reduceLT, Nat.reduceBEq, Nat.reduceBNe, reduceCtorEq, beqI, decide_eq_false h1, decide_eq_false h2, decide_eq_false h3, decide_eq_false h4, decide_eq_true h5]
          · rw [if_neg h5]
            simp only [ic115, wkA, Nat.reduceEqDiff, Nat.reduceAdd, Nat.reduceSub, Nat.reduceLeDiff, Nat.reduceLT, Nat.reduceBEq, Nat.reduceBNe, reduceCtorEq, beqI, decide_eq_false h1, decide_eq_false h2, decide_eq_false h3, decide_eq_false h4, decide_eq_false h5]
            simp only [ic115_1, wkA, Nat.reduceEqDiff, Nat.reduceAdd, Nat.reduceSub, Nat.reduceLeDiff, Nat.reduceLT, Nat.reduceBEq, Nat.reduceBNe, reduceCtorEq]
def El.av (e : El) : AV := .agg [i32 e.t.r, .bool e.t.q, i64 e.t.at_, .bool e.pad]
theorem con87 (e : El) : Fn 87 [e.av] (.bool e.body) := by
  have c := con114 e.t.r
  refine e87 (by simp) ?_
  unfold El.body
  cases h1 : e.pad with
  | true => simp only [ic87, El.av, wkA, Nat.reduceEqDiff, Nat.reduceAdd, Nat.reduceSub, Nat.reduceLeDiff, Nat.reduceLT, Nat.reduceBEq, Nat.reduceBNe, reduceCtorEq, h1, Bool.not_true]; rfl
  | false => cases h2 : e.t.q with
    | true => simp only [ic87, El.av, wkA, Nat.reduceEqDiff, Nat.reduceAdd, Nat.reduceSub, Nat.reduceLeDiff, Nat.reduceLT, Nat.reduceBEq, Nat.reduceBNe, reduceCtorEq, h1, h2, Bool.not_true, Bool.not_false]; rfl
    | false =>
      simp only [ic87, El.av, wkA, Nat.reduceEqDiff, Nat.reduceAdd, Nat.reduceSub, Nat.reduceLeDiff, Nat.reduceLT, Nat.reduceBEq, Nat.reduceBNe, reduceCtorEq, h1, h2, Bool.not_true, Bool.not_false]
      refine callF c rfl ?_
      cases h3 : markS e.t.r with
      | false => simp only [wkA, Nat.reduceEqDiff, Nat.reduceAdd, Nat.reduceSub, Nat.reduceLeDiff, Nat.reduceLT, Nat.reduceBEq, Nat.reduceBNe, reduceCtorEq]; rfl
      | true =>
        have e1 : (e.t.r != 59) = !(e.t.r == 59) := rfl
        have e2 : (e.t.r != 42) = !(e.t.r == 42) := rfl
        rw [e1, e2]
        cases h4 : (e.t.r == 59) with
        | true => simp only [wkA, Nat.reduceEqDiff, Nat.reduceAdd, Nat.reduceSub, Nat.reduceLeDiff, Nat.reduceLT, Nat.reduceBEq, Nat.reduceBNe, reduceCtorEq, e1, h4, Bool.not_true]; rfl
        | false => simp only [wkA, Nat.reduceEqDiff, Nat.reduceAdd, Nat.reduceSub, Nat.reduceLeDiff, Nat.reduceLT, Nat.reduceBEq, Nat.reduceBNe, reduceCtorEq, e1, e2, h4, Bool.not_false]
theorem con56 (e : El) (r : Int) : Fn 56 [e.av, i32 r] (.bool (e.plain r)) := by
  refine e56 (by simp) ?_
  unfold El.plain
  cases h1 : e.pad with
  | true => simp only [ic56, El.av, wkA, Nat.reduceEqDiff, Nat.reduceAdd, Nat.reduceSub, Nat.reduceLeDiff, Nat.reduceLT, Nat.reduceBEq, Nat.reduceBNe, reduceCtorEq, h1, Bool.not_true]; rfl
  | false => cases h2 : e.t.q with
    | true => simp only [ic56, El.av, wkA, Nat.reduceEqDiff, Nat.reduceAdd, Nat.reduceSub, Nat.reduceLeDiff, Nat.reduceLT, Nat.reduceBEq, Nat.reduceBNe, reduceCtorEq, h1, h2, Bool.not_true, Bool.not_false]; rfl
    | false => simp only [ic56, El.av, wkA, Nat.reduceEqDiff, Nat.reduceAdd, Nat.reduceSub, Nat.reduceLeDiff, Nat.reduceLT, Nat.reduceBEq, Nat.reduceBNe, reduceCtorEq, h1, h2, Bool.not_true, Bool.not_false]
theorem getTok {l : List Tok} {i : Nat} (h : i < l.length) : (l.map Tok.av).getD i .top = (l.getD i ⟨0, false, 0⟩).av := by
  simp [List.getD_eq_getElem?_getD, h]
def itemsA (l : List Tok) : AV := match itemsT l with
  | .error f => .tup [.nil, f.av]
  | .ok xs => .tup [items xs, (Flt.mk 0 0).av]
theorem itemsS_cons (t : Tok) (l : List Tok) : itemsS (t :: l) = if t.q = false ∧ markS t.r = true then .error ⟨4, t.at_⟩ else match itemsS l with
      | .error f => .error f
      | .ok xs => .ok ((if t.q = false ∧ 0 < signS t.r then (signS t.r, 0) else (1, t.r)) :: xs) := rfl
def resI (r : Except Flt (List (Int × Int))) : AV := match (match r with
  | .error f => .error f
  | .ok xs => if 40 < xs.length then .error ⟨8, 0⟩ else .ok xs : Except Flt (List (Int × Int))) with
  | .error f => .tup [.nil, f.av]
  | .ok xs => .tup [items xs, (Flt.mk 0 0).av]
def appI (xs : List (Int × Int)) (r : Except Flt (List (Int × Int))) : Except Flt (List (Int × Int)) := match r with
  | .error f => .error f
  | .ok ys => .ok (xs ++ ys)
def I89 (l : List Tok) (j : Nat) (st : St) : Prop := ∃ (k : Nat) (xs : List (Int × Int)), j = l.length - k ∧ k ≤ l.length ∧ xs.length = k ∧
  st = ⟨[(0, .sl 3 (l.map Tok.av)), (3, .box 3 0), (4, .own 45), (5, i64 k)], [(3, .box 52 [i64 0, i64 0]), (45, .row 80 2 (xs.map itemA))]⟩ ∧
  itemsS l = appI xs (itemsS (l.drop k))
theorem con89 {l : List Tok} (hl : l.length < 1000000) : Fn 89 [.sl 3 (l.map Tok.av)] (itemsA l) := by
  refine e89 (by simp) ?_
  change VC e0 ic89 (retQ _ (resI (itemsS l))) _
  simp only [ic89, wkA, Nat.reduceEqDiff, Nat.reduceAdd, Nat.reduceSub, Nat.reduceLeDiff, Nat.reduceLT, Nat.reduceBEq, Nat.reduceBNe, reduceCtorEq]
  refine ⟨I89 l, l.length, ⟨[(0, .sl 3 (l.map Tok.av)), (3, .box 3 0), (4, .own 45), (5, i64 0)], [(3, .box 52 [i64 0, i64 0]), (45, .row 80 2 [])]⟩, ?_, ⟨0, [], by omega, by omega, rfl, rfl, ?_⟩, ?_⟩
  · have := Gh.own (s := ⟨[(0, .sl 3 (l.map Tok.av)), (3, .box 3 0), (4, .nil), (5, i64 0)], [(3, .box 52 [i64 0, i64 0])]⟩) (t := 4) 80 2 45 rfl (by decide)
    refine this.trans ?_
    refine (Gh.keep _ [0, 3, 4, 5] [3, 45]).trans ?_
    simp only [wkA, Nat.reduceEqDiff, Nat.reduceAdd, Nat.reduceSub, Nat.reduceLeDiff, Nat.reduceLT, Nat.reduceBEq, Nat.reduceBNe, reduceCtorEq]
    exact Gh.refl _
  · rw [List.drop_zero]; unfold appI; split <;> simp_all
  · rintro j st ⟨k, xs, rfl, hk, hxk, rfl, hi⟩
    by_cases hlt : k < l.length
    · have e0 : decide ((k : Int) < (l.length : Int)) = true := decide_eq_true (by omega)
      have w1 : IntKind.i64.wrap ((k : Int) + 1) = ((k + 1 : Nat) : Int) := by rw [wrap64] <;> omega
      have hd : l.drop k = l.getD k ⟨0, false, 0⟩ :: l.drop (k + 1) := by
        rw [List.drop_eq_getElem_cons hlt, List.getD_eq_getElem?_getD, List.getElem?_eq_getElem hlt]; rfl
      have hg := getTok hlt
      generalize l.getD k ⟨0, false, 0⟩ = t at *
      rw [hd, itemsS_cons] at hi
      have cm := con114 t.r
      have cs := con115 t.r
      have next : ∀ (it : Int × Int), itemsS l = appI (xs ++ [it]) (itemsS (l.drop (k + 1))) →
          backQ (I89 l) (l.length - k) ⟨[(0, .sl 3 (l.map Tok.av)), (3, .box 3 0), (4, .own 45), (5, i64 ((k + 1 : Nat) : Int))], [(3, .box 52 [i64 0, i64 0]), (45, .row 80 2 (xs.map itemA ++ [itemA it]))]⟩ := by
        intro it h
        exact ⟨_, l.length - (k + 1), Gh.refl _, by omega, k + 1, xs ++ [it], rfl, by omega, by simp [hxk], by simp, h⟩
      have happ : ∀ it, appI xs (match itemsS (l.drop (k + 1)) with
          | .error f => .error f
          | .ok ys => .ok (it :: ys)) = appI (xs ++ [it]) (itemsS (l.drop (k + 1))) := by
        intro it
        cases itemsS (l.drop (k + 1)) <;> simp [appI]
      simp only [Tok.av] at hg
      cases hq : t.q with
      | true =>
        rw [hq] at hi hg
        rw [if_neg (by simp), if_neg (by simp), happ] at hi
        have nx := next _ hi
        simp only [itemA] at nx
        simp only [ic89_5, ic89_4, wkA, Nat.reduceEqDiff, Nat.reduceAdd, Nat.reduceSub, Nat.reduceLeDiff, Nat.reduceLT, Nat.reduceBEq, Nat.reduceBNe, reduceCtorEq, e0, Int.toNat_natCast, List.length_map, hg]
        refine ⟨⟨by omega, by omega⟩, ⟨by omega, by omega⟩, ?_⟩
        simp only [ic89_2, ic89_3, wkA, Nat.reduceEqDiff, Nat.reduceAdd, Nat.reduceSub, Nat.reduceLeDiff, Nat.reduceLT, Nat.reduceBEq, Nat.reduceBNe, reduceCtorEq, Bool.not_true, w1, List.length_map]
        exact ⟨⟨by omega, by omega⟩, nx⟩
      | false =>
        rw [hq] at hi hg
        simp only [ic89_5, ic89_4, wkA, Nat.reduceEqDiff, Nat.reduceAdd, Nat.reduceSub, Nat.reduceLeDiff, Nat.reduceLT, Nat.reduceBEq, Nat.reduceBNe, reduceCtorEq, e0, Int.toNat_natCast, List.length_map, hg]
        refine ⟨⟨by omega, by omega⟩, ⟨by omega, by omega⟩, ?_⟩
        simp only [wkA, Nat.reduceEqDiff, Nat.reduceAdd, Nat.reduceSub, Nat.reduceLeDiff, Nat.reduceLT, Nat.reduceBEq, Nat.reduceBNe, reduceCtorEq, Bool.not_false]
        refine callF cm rfl ?_
        cases hm : markS t.r with
        | true =>
          rw [if_pos ⟨rfl, hm⟩] at hi
          have hres : resI (itemsS l) = .tup [.nil, (Flt.mk 4 t.at_).av] := by rw [hi]; rfl
          rw [hres]
          simp only [wkA, Nat.reduceEqDiff, Nat.reduceAdd, Nat.reduceSub, Nat.reduceLeDiff, Nat.reduceLT, Nat.reduceBEq, Nat.reduceBNe, reduceCtorEq, Int.toNat_natCast, List.length_map, hg]
          refine ⟨⟨by omega, by omega⟩, ?_⟩
          rfl
        | false =>
          rw [if_neg (by rw [hm]; simp)] at hi
          simp only [wkA, Nat.reduceEqDiff, Nat.reduceAdd, Nat.reduceSub, Nat.reduceLeDiff, Nat.reduceLT, Nat.reduceBEq, Nat.reduceBNe, reduceCtorEq]
          simp only [ic89_1, wkA, Nat.reduceEqDiff, Nat.reduceAdd, Nat.reduceSub, Nat.reduceLeDiff, Nat.reduceLT, Nat.reduceBEq, Nat.reduceBNe, reduceCtorEq]
          refine callF cs rfl ?_
          by_cases hs : 0 < signS t.r
          · have es : decide (signS t.r > 0) = true := decide_eq_true hs
            rw [if_pos ⟨rfl, hs⟩, happ] at hi
            have nx := next _ hi
            simp only [itemA] at nx
            simp only [ic89_2, ic89_3, wkA, Nat.reduceEqDiff, Nat.reduceAdd, Nat.reduceSub, Nat.reduceLeDiff, Nat.reduceLT, Nat.reduceBEq, Nat.reduceBNe, reduceCtorEq, es, w1, List.length_map]
            exact ⟨⟨by omega, by omega⟩, nx⟩
          · have es : decide (signS t.r > 0) = false := decide_eq_false hs
            rw [if_neg (fun h => hs h.2), happ] at hi
            have nx := next _ hi
            simp only [itemA] at nx
            simp only [ic89_2, ic89_3, wkA, Nat.reduceEqDiff, Nat.reduceAdd, Nat.reduceSub, Nat.reduceLeDiff, Nat.reduceLT, Nat.reduceBEq, Nat.reduceBNe, reduceCtorEq, es, w1, List.length_map]
            exact ⟨⟨by omega, by omega⟩, nx⟩
    · have e0 : decide ((k : Int) < (l.length : Int)) = false := decide_eq_false (by omega)
      have hk2 : l.drop k = [] := List.drop_of_length_le (by omega)
      have hi2 : itemsS l = .ok xs := by rw [hi, hk2]; simp [itemsS, appI]
      rw [hi2]
      simp only [ic89_5, wkA, Nat.reduceEqDiff, Nat.reduceAdd, Nat.reduceSub, Nat.reduceLeDiff, Nat.reduceLT, Nat.reduceBEq, Nat.reduceBNe, reduceCtorEq, e0, List.length_map]
      by_cases h40 : 40 < xs.length
      · have e4 : decide ((xs.length : Int) > 40) = true := decide_eq_true (by omega)
        have hres : resI (.ok xs) = .tup [.nil, (Flt.mk 8 0).av] := by simp only [resI]; rw [if_pos h40]
        rw [hres]
        simp only [ic89_7, wkA, Nat.reduceEqDiff, Nat.reduceAdd, Nat.reduceSub, Nat.reduceLeDiff, Nat.reduceLT, Nat.reduceBEq, Nat.reduceBNe, reduceCtorEq, List.length_map, e4]
        rfl
      · have e4 : decide ((xs.length : Int) > 40) = false := decide_eq_false (by omega)
        have hres : resI (.ok xs) = .tup [items xs, (Flt.mk 0 0).av] := by simp only [resI]; rw [if_neg h40]
        rw [hres]
        simp only [ic89_7, wkA, Nat.reduceEqDiff, Nat.reduceAdd, Nat.reduceSub, Nat.reduceLeDiff, Nat.reduceLT, Nat.reduceBEq, Nat.reduceBNe, reduceCtorEq, List.length_map, e4]
        simp only [ic89_6, wkA, Nat.reduceEqDiff, Nat.reduceAdd, Nat.reduceSub, Nat.reduceLeDiff, Nat.reduceLT, Nat.reduceBEq, Nat.reduceBNe, reduceCtorEq]
        rfl
theorem beq8 (x c : UInt8) : (((x.toNat : Nat) : Int) == ((c.toNat : Nat) : Int)) = (x == c) := by
  rw [Bool.eq_iff_iff, beq_iff_eq, beq_iff_eq]
  exact ⟨fun h => UInt8.toNat_inj.1 (by omega), fun h => by rw [h]⟩
def I117 (s : List UInt8) (j : Nat) (st : St) : Prop := ∃ t : List UInt8, j = t.length ∧ t.length ≤ s.length ∧ st = ⟨[(0, .str t)], []⟩ ∧ strip s = strip t
theorem con117 (s : List UInt8) (hl : s.length < 1099511627776) : Fn 117 [.str s] (.str (strip s)) := by
  refine e117 (by simp) ?_
  simp only [ic117, wkA, Nat.reduceEqDiff, Nat.reduceAdd, Nat.reduceSub, Nat.reduceLeDiff, Nat.reduceLT, Nat.reduceBEq, Nat.reduceBNe, reduceCtorEq]
  refine ⟨I117 s, s.length, _, Gh.refl _, ⟨s, rfl, Nat.le_refl _, rfl, rfl⟩, ?_⟩
  rintro j st ⟨t, rfl, htl, rfl, hs⟩
  rw [hs]
  cases t with
  | nil =>
    have e0 : decide (((([] : List UInt8).length : Nat) : Int) > 0) = false := rfl
    simp only [ic117_2, wkA, Nat.reduceEqDiff, Nat.reduceAdd, Nat.reduceSub, Nat.reduceLeDiff, Nat.reduceLT, Nat.reduceBEq, Nat.reduceBNe, reduceCtorEq, e0]
    have e1 : decide (((0 : Nat) : Int) > 0) = false := rfl
    simp only [ic117_3, wkA, Nat.reduceEqDiff, Nat.reduceAdd, Nat.reduceSub, Nat.reduceLeDiff, Nat.reduceLT, Nat.reduceBEq, Nat.reduceBNe, reduceCtorEq, e1]
    rfl
  | cons c t =>
    have e0 : decide (((t.length + 1 : Nat) : Int) > 0) = true := decide_eq_true (by omega)
    have g0 : (c :: t).getD 0 0 = c := rfl
    cases h1 : (c == 48) with
    | true =>
      have e1 : ((c.toNat : Int) == 48) = true := by rw [eq48]; exact h1
      have h2 : c = 48 := beq_iff_eq.1 h1
      have htk : t.take (t.length + 1 - 1) = t := List.take_of_length_le (by omega)
      simp only [ic117_2, ic117_1, wkA, Nat.reduceEqDiff, Nat.reduceAdd, Nat.reduceSub, Nat.reduceLeDiff, Nat.reduceLT, Nat.reduceBEq, Nat.reduceBNe, reduceCtorEq, e0, Int.toNat_zero, g0, e1]
      refine ⟨by omega, ⟨by omega, by omega⟩, _, t.length, Gh.refl _, by simp, t, rfl, by simp at htl; omega, ?_, ?_⟩
      · simp
      · rw [hs, h2, strip_zero]
    | false =>
      have e1 : ((c.toNat : Int) == 48) = false := by rw [eq48]; exact h1
      have h2 : c ≠ 48 := fun e => by rw [e] at h1; exact absurd h1 (by simp)
      simp only [ic117_2, wkA, Nat.reduceEqDiff, Nat.reduceAdd, Nat.reduceSub, Nat.reduceLeDiff, Nat.reduceLT, Nat.reduceBEq, Nat.reduceBNe, reduceCtorEq, e0, Int.toNat_zero, g0, e1]
      refine ⟨by omega, ?_⟩
      simp only [ic117_3, wkA, Nat.reduceEqDiff, Nat.reduceAdd, Nat.reduceSub, Nat.reduceLeDiff, Nat.reduceLT, Nat.reduceBEq, Nat.reduceBNe, reduceCtorEq]
      rw [strip_pos h2]
theorem countS_cons (x : UInt8) (s : List UInt8) (c : UInt8) : countS (x :: s) c = (if isC c x = true then 1 else 0) + countS s c := by
  unfold countS
  rw [List.filter_cons]
  split
  · simp; omega
  · simp
def I118 (s : List UInt8) (c : UInt8) (j : Nat) (st : St) : Prop := ∃ (i n : Nat), j = s.length - i ∧ i ≤ s.length ∧ n ≤ i ∧ st = ⟨[(0, .str s), (1, .int .u8 c.toNat), (5, i64 n), (6, i64 i)], []⟩ ∧ countS s c = n + countS (s.drop i) c
theorem con118 (s : List UInt8) (c : UInt8) (hl : s.length < 1099511627776) : Fn 118 [.str s, .int .u8 c.toNat] (i64 (countS s c)) := by
  refine e118 (by simp) ?_
  simp only [ic118, wkA, Nat.reduceEqDiff, Nat.reduceAdd, Nat.reduceSub, Nat.reduceLeDiff, Nat.reduceLT, Nat.reduceBEq, Nat.reduceBNe, reduceCtorEq]
  refine ⟨I118 s c, s.length, _, Gh.refl _, ⟨0, 0, by omega, by omega, by omega, rfl, by simp⟩, ?_⟩
  rintro j st ⟨i, n, rfl, hi, hni, rfl, hc⟩
  by_cases hlt : i < s.length
  · have h0 : decide ((i : Int) < (s.length : Int)) = true := decide_eq_true (by omega)
    have w1 : IntKind.i64.wrap ((i : Int) + 1) = ((i + 1 : Nat) : Int) := by rw [wrap64] <;> omega
    have w2 : IntKind.i64.wrap ((n : Int) + 1) = ((n + 1 : Nat) : Int) := by rw [wrap64] <;> omega
    rw [drop_get hlt, countS_cons] at hc
    have hd : isDg (s.getD i 0) = (decide ((((s.getD i 0).toNat : Nat) : Int) ≥ 48) && decide ((((s.getD i 0).toNat : Nat) : Int) ≤ 57)) := by
      unfold isDg
      congr 1
      · rw [decide_eq_decide]; omega
      · rw [decide_eq_decide]; omega
    have miss : isC c (s.getD i 0) = false → backQ (I118 s c) (s.length - i) ⟨[(0, .str s), (1, .int .u8 c.toNat), (5, i64 n), (6, i64 ((i + 1 : Nat) : Int))], []⟩ := by
      intro h
      rw [if_neg (by rw [h]; simp)] at hc
      exact ⟨_, s.length - (i + 1), Gh.refl _, by omega, i + 1, n, rfl, by omega, by omega, rfl, by omega⟩
    have hits : isC c (s.getD i 0) = true → backQ (I118 s c) (s.length - i) ⟨[(0, .str s), (1, .int .u8 c.toNat), (5, i64 ((n + 1 : Nat) : Int)), (6, i64 ((i + 1 : Nat) : Int))], []⟩ := by
      intro h
      rw [if_pos h] at hc
      exact ⟨_, s.length - (i + 1), Gh.refl _, by omega, i + 1, n + 1, rfl, by omega, by omega, rfl, by omega⟩
    unfold isC at miss hits
    rw [hd] at miss hits
    cases h1 : (s.getD i 0 == c) with
    | true =>
      rw [h1] at hits
      simp only [ic118_3, ic118_2, ic118_1, wkA, Nat.reduceEqDiff, Nat.reduceAdd, Nat.reduceSub, Nat.reduceLeDiff, Nat.reduceLT, Nat.reduceBEq, Nat.reduceBNe, reduceCtorEq, h0, Int.toNat_natCast, beq8, h1, w1, w2]
      exact ⟨⟨by omega, by omega⟩, hits rfl⟩
    | false =>
      rw [h1] at miss hits
      cases h2 : (c == 48) with
      | false =>
        rw [h2] at miss hits
        have e2 : ((c.toNat : Int) == 48) = false := by rw [eq48]; exact h2
        simp only [ic118_3, ic118_2, ic118_1, wkA, Nat.reduceEqDiff, Nat.reduceAdd, Nat.reduceSub, Nat.reduceLeDiff, Nat.reduceLT, Nat.reduceBEq, Nat.reduceBNe, reduceCtorEq, h0, Int.toNat_natCast, beq8, h1, e2, w1, w2]
        exact ⟨⟨by omega, by omega⟩, miss rfl⟩
      | true =>
        rw [h2] at miss hits
        have e2 : ((c.toNat : Int) == 48) = true := by rw [eq48]; exact h2
        cases h3 : decide ((((s.getD i 0).toNat : Nat) : Int) ≥ 48) with
        | false =>
          rw [h3] at miss hits
          simp only [ic118_3, ic118_2, ic118_1, wkA, Nat.reduceEqDiff, Nat.reduceAdd, Nat.reduceSub, Nat.reduceLeDiff, Nat.reduceLT, Nat.reduceBEq, Nat.reduceBNe, reduceCtorEq, h0, Int.toNat_natCast, beq8, h1, e2, h3, w1, w2]
          exact ⟨⟨by omega, by omega⟩, ⟨by omega, by omega⟩, miss rfl⟩
        | true =>
          rw [h3] at miss hits
          cases h4 : decide ((((s.getD i 0).toNat : Nat) : Int) ≤ 57) with
          | false =>
            rw [h4] at miss hits
            simp only [ic118_3, ic118_2, ic118_1, wkA, Nat.reduceEqDiff, Nat.reduceAdd, Nat.reduceSub, Nat.reduceLeDiff, Nat.reduceLT, Nat.reduceBEq, Nat.reduceBNe, reduceCtorEq, h0, Int.toNat_natCast, beq8, h1, e2, h3, h4, w1, w2]
            exact ⟨⟨by omega, by omega⟩, ⟨by omega, by omega⟩, ⟨by omega, by omega⟩, miss rfl⟩
          | true =>
            rw [h4] at miss hits
            simp only [ic118_3, ic118_2, ic118_1, wkA, Nat.reduceEqDiff, Nat.reduceAdd, Nat.reduceSub, Nat.reduceLeDiff, Nat.reduceLT, Nat.reduceBEq, Nat.reduceBNe, reduceCtorEq, h0, Int.toNat_natCast, beq8, h1, e2, h3, h4, w1, w2]
            exact ⟨⟨by omega, by omega⟩, ⟨by omega, by omega⟩, ⟨by omega, by omega⟩, hits rfl⟩
  · have h0 : decide ((i : Int) < (s.length : Int)) = false := decide_eq_false (by omega)
    have hd : s.drop i = [] := List.drop_of_length_le (by omega)
    rw [hd] at hc
    simp only [ic118_3, wkA, Nat.reduceEqDiff, Nat.reduceAdd, Nat.reduceSub, Nat.reduceLeDiff, Nat.reduceLT, Nat.reduceBEq, Nat.reduceBNe, reduceCtorEq, h0]
    simp only [ic118_4, wkA, Nat.reduceEqDiff, Nat.reduceAdd, Nat.reduceSub, Nat.reduceLeDiff, Nat.reduceLT, Nat.reduceBEq, Nat.reduceBNe, reduceCtorEq]
    rw [hc]; simp [countS]
theorem cutS_cons (x : UInt8) (t : List UInt8) (c : UInt8) : cutS (x :: t) c = if x = c then ([], t, true) else (x :: (cutS t c).1, (cutS t c).2.1, (cutS t c).2.2) := by
  rw [cutS]
def I116 (s : List UInt8) (c : UInt8) (j : Nat) (st : St) : Prop := ∃ i : Nat, j = s.length - i ∧ i ≤ s.length ∧ st = ⟨[(0, .str s), (1, .int .u8 c.toNat), (7, i64 i)], []⟩ ∧ cutS s c = (s.take i ++ (cutS (s.drop i) c).1, (cutS (s.drop i) c).2.1, (cutS (s.drop i) c).2.2)
theorem con116 (s : List UInt8) (c : UInt8) (hl : s.length < 1099511627776) : Fn 116 [.str s, .int .u8 c.toNat] (.tup [.str (cutS s c).1, .str (cutS s c).2.1, .bool (cutS s c).2.2]) := by
  refine e116 (by simp) ?_
  simp only [ic116, wkA, Nat.reduceEqDiff, Nat.reduceAdd, Nat.reduceSub, Nat.reduceLeDiff, Nat.reduceLT, Nat.reduceBEq, Nat.reduceBNe, reduceCtorEq]
  refine ⟨I116 s c, s.length, _, Gh.refl _, ⟨0, by omega, by omega, rfl, by simp⟩, ?_⟩
  rintro j st ⟨i, rfl, hi, rfl, hc⟩
  by_cases hlt : i < s.length
  · have h0 : decide ((i : Int) < (s.length : Int)) = true := decide_eq_true (by omega)
    have w1 : IntKind.i64.wrap ((i : Int) + 1) = ((i + 1 : Nat) : Int) := by rw [wrap64] <;> omega
    have hdg := drop_get hlt
    have htk : s.take (i + 1) = s.take i ++ [s.getD i 0] := by
      rw [List.take_add_one]; simp [List.getD_eq_getElem?_getD, hlt]
    rw [hdg, cutS_cons] at hc
    cases h1 : (s.getD i 0 == c) with
    | true =>
      rw [if_pos (beq_iff_eq.1 h1)] at hc
      have ht2 : (s.drop (i + 1)).take (s.length - (i + 1)) = s.drop (i + 1) := List.take_of_length_le (by simp)
      rw [hc]
      simp only [ic116_3, ic116_2, wkA, Nat.reduceEqDiff, Nat.reduceAdd, Nat.reduceSub, Nat.reduceLeDiff, Nat.reduceLT, Nat.reduceBEq, Nat.reduceBNe, reduceCtorEq, h0, Int.toNat_natCast, Int.toNat_zero, Nat.sub_zero, beq8, h1, w1, ht2]
      refine ⟨⟨by omega, by omega⟩, ?_⟩
      repeat' apply And.intro
      all_goals first
        | omega
        | simp
    | false =>
      rw [if_neg (by simpa using h1)] at hc
      simp only [ic116_3, ic116_2, ic116_1, wkA, Nat.reduceEqDiff, Nat.reduceAdd, Nat.reduceSub, Nat.reduceLeDiff, Nat.reduceLT, Nat.reduceBEq, Nat.reduceBNe, reduceCtorEq, h0, Int.toNat_natCast, beq8, h1, w1]
      refine ⟨⟨by omega, by omega⟩, _, s.length - (i + 1), Gh.refl _, by omega, i + 1, rfl, by omega, rfl, ?_⟩
      rw [hc, htk]; simp
  · have h0 : decide ((i : Int) < (s.length : Int)) = false := decide_eq_false (by omega)
    have hd : s.drop i = [] := List.drop_of_length_le (by omega)
    have ht : s.take i = s := List.take_of_length_le (by omega)
    rw [hd, ht] at hc
    have hc2 : cutS s c = (s, [], false) := by rw [hc]; simp [cutS]
    rw [hc2]
    simp only [ic116_3, wkA, Nat.reduceEqDiff, Nat.reduceAdd, Nat.reduceSub, Nat.reduceLeDiff, Nat.reduceLT, Nat.reduceBEq, Nat.reduceBNe, reduceCtorEq, h0]
    simp only [ic116_4, wkA, Nat.reduceEqDiff, Nat.reduceAdd, Nat.reduceSub, Nat.reduceLeDiff, Nat.reduceLT, Nat.reduceBEq, Nat.reduceBNe, reduceCtorEq]
def I119i (s : List UInt8) (a b c : UInt8) (i : Nat) (j : Nat) (st : St) : Prop := ∃ k : Nat, j = 3 - k ∧ k ≤ 3 ∧ st = ⟨[(0, .str s), (9, .sl 1 (bts [a, b, c])), (10, i64 k), (11, i64 i)], []⟩ ∧ rowsS s [a, b, c] = rowsS (s.drop i) ([a, b, c].drop k)
def I119 (s : List UInt8) (a b c : UInt8) (j : Nat) (st : St) : Prop := ∃ (i k : Nat), j = s.length - i ∧ i ≤ s.length ∧ k ≤ 3 ∧ st = ⟨[(0, .str s), (9, .sl 1 (bts [a, b, c])), (10, i64 k), (11, i64 i)], []⟩ ∧ rowsS s [a, b, c] = rowsS (s.drop i) ([a, b, c].drop k)
theorem rowsS_nil (cs : List UInt8) : rowsS [] cs = true := by rw [rowsS]
theorem rowsS_no (x : UInt8) (s : List UInt8) : rowsS (x :: s) [] = false := by rw [rowsS]
theorem rowsS_cons (x : UInt8) (s : List UInt8) (c : UInt8) (cs : List UInt8) : rowsS (x :: s) (c :: cs) = if isC c x = true then rowsS s (c :: cs) else rowsS (x :: s) cs := by
  rw [rowsS]
theorem con119 (s : List UInt8) (a b c : UInt8) (hl : s.length < 1099511627776) : Fn 119 [.str s, .int .u8 a.toNat, .int .u8 b.toNat, .int .u8 c.toNat] (.bool (rowsS s [a, b, c])) := by
  refine e119 (by simp) ?_
  simp only [ic119, wkA, Nat.reduceEqDiff, Nat.reduceAdd, Nat.reduceSub, Nat.reduceLeDiff, Nat.reduceLT, Nat.reduceBEq, Nat.reduceBNe, reduceCtorEq]
  refine ⟨I119 s a b c, s.length, _, Gh.refl _, ⟨0, 0, by omega, by omega, by omega, rfl, by simp⟩, ?_⟩
  rintro j st ⟨i, k, rfl, hi, hk, rfl, hr⟩
  by_cases hlt : i < s.length
  · have h0 : decide ((i : Int) < (s.length : Int)) = true := decide_eq_true (by omega)
    have w1 : IntKind.i64.wrap ((i : Int) + 1) = ((i + 1 : Nat) : Int) := by rw [wrap64] <;> omega
    have hdg := drop_get hlt
    have htk : (s.drop i).take (i + 1 - i) = [s.getD i 0] := by rw [hdg]; simp
    simp only [ic119_6, wkA, Nat.reduceEqDiff, Nat.reduceAdd, Nat.reduceSub, Nat.reduceLeDiff, Nat.reduceLT, Nat.reduceBEq, Nat.reduceBNe, reduceCtorEq, h0]
    simp only [ic119_5, wkA, Nat.reduceEqDiff, Nat.reduceAdd, Nat.reduceSub, Nat.reduceLeDiff, Nat.reduceLT, Nat.reduceBEq, Nat.reduceBNe, reduceCtorEq]
    refine ⟨I119i s a b c i, 3 - k, ⟨[(0, .str s), (9, .sl 1 (bts [a, b, c])), (10, i64 k), (11, i64 i)], []⟩, ?_, ⟨k, rfl, hk, rfl, hr⟩, ?_⟩
    · have := Gh.keep ⟨[(0, .str s), (9, .sl 1 (bts [a, b, c])), (10, i64 k), (11, i64 i), (19, .bool true)], []⟩ [0, 9, 10, 11] [15]
      simp only [wkA, Nat.reduceEqDiff, Nat.reduceAdd, Nat.reduceSub, Nat.reduceLeDiff, Nat.reduceLT, Nat.reduceBEq, Nat.reduceBNe, reduceCtorEq] at this
      exact this
    rintro j st ⟨m, rfl, hm, rfl, hr2⟩
    by_cases hm3 : m < 3
    · have e3 : decide ((m : Int) < 3) = true := decide_eq_true (by omega)
      have wm : IntKind.i64.wrap ((m : Int) + 1) = ((m + 1 : Nat) : Int) := by rw [wrap64] <;> omega
      have hm4 : ((m : Int) == 3) = false := by rw [beq_eq_false_iff_ne]; omega
      obtain ⟨x, hx⟩ : ∃ x, [a, b, c].drop m = x :: [a, b, c].drop (m + 1) ∧ (bts [a, b, c]).getD m .top = .int .u8 x.toNat := by
        match m, hm3 with
        | 0, _ => exact ⟨a, rfl, rfl⟩
        | 1, _ => exact ⟨b, rfl, rfl⟩
        | 2, _ => exact ⟨c, rfl, rfl⟩
      have c118 := con118 [s.getD i 0] x (by simp)
      rw [hdg, hx.1, rowsS_cons] at hr2
      have hlen3 : (bts [a, b, c]).length = 3 := rfl
      have cc : (((countS [s.getD i 0] x : Nat) : Int) == 0) = !isC x (s.getD i 0) := by
        rw [countS_cons]
        cases isC x (s.getD i 0) <;> simp [countS]
      cases hi : isC x (s.getD i 0) with
      | true =>
        rw [hi] at cc
        rw [if_pos hi, ← hx.1] at hr2
        simp only [ic119_2, wkA, Nat.reduceEqDiff, Nat.reduceAdd, Nat.reduceSub, Nat.reduceLeDiff, Nat.reduceLT, Nat.reduceBEq, Nat.reduceBNe, reduceCtorEq, e3, w1, Int.toNat_natCast, htk, hx.2, hlen3]
        refine ⟨⟨by omega, by omega, by omega⟩, ⟨by omega, by omega⟩, callFD c118 rfl ?_⟩
        simp only [wkA, Nat.reduceEqDiff, Nat.reduceAdd, Nat.reduceSub, Nat.reduceLeDiff, Nat.reduceLT, Nat.reduceBEq, Nat.reduceBNe, reduceCtorEq, cc, Bool.not_true]
        simp only [ic119_3, ic119_4, wkA, Nat.reduceEqDiff, Nat.reduceAdd, Nat.reduceSub, Nat.reduceLeDiff, Nat.reduceLT, Nat.reduceBEq, Nat.reduceBNe, reduceCtorEq, hm4, w1]
        refine ⟨_, s.length - (i + 1), Gh.refl _, by omega, i + 1, m, rfl, by omega, by omega, rfl, hr2⟩
      | false =>
        rw [hi] at cc
        rw [if_neg (by rw [hi]; simp), ← hdg] at hr2
        simp only [ic119_2, wkA, Nat.reduceEqDiff, Nat.reduceAdd, Nat.reduceSub, Nat.reduceLeDiff, Nat.reduceLT, Nat.reduceBEq, Nat.reduceBNe, reduceCtorEq, e3, w1, Int.toNat_natCast, htk, hx.2, hlen3]
        refine ⟨⟨by omega, by omega, by omega⟩, ⟨by omega, by omega⟩, callFD c118 rfl ?_⟩
        simp only [wkA, Nat.reduceEqDiff, Nat.reduceAdd, Nat.reduceSub, Nat.reduceLeDiff, Nat.reduceLT, Nat.reduceBEq, Nat.reduceBNe, reduceCtorEq, cc, Bool.not_false]
        simp only [ic119_1, wkA, Nat.reduceEqDiff, Nat.reduceAdd, Nat.reduceSub, Nat.reduceLeDiff, Nat.reduceLT, Nat.reduceBEq, Nat.reduceBNe, reduceCtorEq, wm]
        exact ⟨_, 3 - (m + 1), Gh.refl _, by omega, m + 1, rfl, by omega, rfl, hr2⟩
    · have e3 : decide ((m : Int) < 3) = false := decide_eq_false (by omega)
      have hm5 : m = 3 := by omega
      subst hm5
      have hm4 : (((3 : Nat) : Int) == 3) = true := rfl
      have e5 : decide (((3 : Nat) : Int) < 3) = false := rfl
      rw [hdg, show [a, b, c].drop 3 = [] from rfl, rowsS_no] at hr2
      rw [hr2]
      simp only [ic119_2, wkA, Nat.reduceEqDiff, Nat.reduceAdd, Nat.reduceSub, Nat.reduceLeDiff, Nat.reduceLT, Nat.reduceBEq, Nat.reduceBNe, reduceCtorEq, e5]
      simp only [ic119_3, wkA, Nat.reduceEqDiff, Nat.reduceAdd, Nat.reduceSub, Nat.reduceLeDiff, Nat.reduceLT, Nat.reduceBEq, Nat.reduceBNe, reduceCtorEq, hm4]
  · have h0 : decide ((i : Int) < (s.length : Int)) = false := decide_eq_false (by omega)
    have hd : s.drop i = [] := List.drop_of_length_le (by omega)
    rw [hd, rowsS_nil] at hr
    rw [hr]
    simp only [ic119_6, wkA, Nat.reduceEqDiff, Nat.reduceAdd, Nat.reduceSub, Nat.reduceLeDiff, Nat.reduceLT, Nat.reduceBEq, Nat.reduceBNe, reduceCtorEq, h0]
    simp only [ic119_7, wkA, Nat.reduceEqDiff, Nat.reduceAdd, Nat.reduceSub, Nat.reduceLeDiff, Nat.reduceLT, Nat.reduceBEq, Nat.reduceBNe, reduceCtorEq]
def resN (r : Except Int Pat) : AV := match r with
  | .error e => .tup [Pat.zero.av, i64 e]
  | .ok p => .tup [p.av, i64 0]
abbrev qN (r : Except Int Pat) : Exit → St → Prop := retQ [(2, some (some 20)), (3, none)] (resN r)
def obN (p : Pat) : List (Nat × Ob) := [(2, .box 26 (avCells Pat.zero.av)), (4, .box 26 (avCells p.av))]
def valsN (p : Pat) : List Nat := [p.minInt, p.maxInt, p.maxFrac, p.maxSig, p.prim, p.sec, p.inc.length]
def n64 (l : List Nat) : AV := .sl 1 (l.map fun (n : Nat) => i64 n)
def I28 (p : Pat) (j : Nat) (st : St) : Prop := ∃ n : Nat, j = 7 - n ∧ n ≤ 7 ∧ st = ⟨[(2, .box 2 0), (4, .box 4 0), (310, n64 (valsN p)), (311, i64 7), (312, i64 n)], obN p⟩ ∧ ∀ k, k < n → (valsN p).getD k 0 ≤ 40
theorem getN {l : List Nat} {i : Nat} (h : i < l.length) : (l.map fun (n : Nat) => i64 n).getD i .top = i64 (l.getD i 0) := by
  simp [List.getD_eq_getElem?_getD, h]
theorem seg28 (p : Pat) (ex : List (Nat × AV)) : VC e0 ic90_28 (qN (longN p)) ⟨(2, .box 2 0) :: (4, .box 4 0) :: ex, obN p⟩ := by
  simp only [ic90_28, obN, n64, Pat.av, Pat.zero, items, wkA, Nat.reduceEqDiff, Nat.reduceAdd, Nat.reduceSub, Nat.reduceLeDiff, Nat.reduceLT, Nat.reduceBEq, Nat.reduceBNe, reduceCtorEq]
  refine ⟨I28 p, 7, _, Gh.refl _, ⟨0, rfl, by omega, rfl, fun k hk => absurd hk (by omega)⟩, ?_⟩
  rintro j st ⟨n, rfl, hn, rfl, hall⟩
  by_cases hlt : n < 7
  · have e0 : decide ((n : Int) < 7) = true := decide_eq_true (by omega)
    have w1 : IntKind.i64.wrap ((n : Int) + 1) = ((n + 1 : Nat) : Int) := by rw [wrap64] <;> omega
    have hg := getN (l := valsN p) (i := n) hlt
    have hl : ((valsN p).map fun (n : Nat) => i64 n).length = 7 := rfl
    by_cases h40 : 40 < (valsN p).getD n 0
    · have e4 : decide ((((valsN p).getD n 0 : Nat) : Int) > 40) = true := decide_eq_true (by omega)
      have hres : longN p = .error 8 := by
        rw [longN, if_pos]
        match n, hlt, h40 with
        | 0, _, h => exact .inl h
        | 1, _, h => exact .inr (.inl h)
        | 2, _, h => exact .inr (.inr (.inl h))
        | 3, _, h => exact .inr (.inr (.inr (.inl h)))
        | 4, _, h => exact .inr (.inr (.inr (.inr (.inl h))))
        | 5, _, h => exact .inr (.inr (.inr (.inr (.inr (.inl h)))))
        | 6, _, h => exact .inr (.inr (.inr (.inr (.inr (.inr h)))))
      rw [hres]
      simp only [ic90_26, wkA, Nat.reduceEqDiff, Nat.reduceAdd, Nat.reduceSub, Nat.reduceLeDiff, Nat.reduceLT, Nat.reduceBEq, Nat.reduceBNe, reduceCtorEq, e0]
      simp only [ic90_25, n64, obN, Pat.av, Pat.zero, items, wkA, Nat.reduceEqDiff, Nat.reduceAdd, Nat.reduceSub, Nat.reduceLeDiff, Nat.reduceLT, Nat.reduceBEq, Nat.reduceBNe, reduceCtorEq, hl, Int.toNat_natCast, hg, e4]
      refine ⟨⟨by omega, by omega⟩, ?_⟩
      rfl
    · have e4 : decide ((((valsN p).getD n 0 : Nat) : Int) > 40) = false := decide_eq_false (by omega)
      simp only [ic90_26, wkA, Nat.reduceEqDiff, Nat.reduceAdd, Nat.reduceSub, Nat.reduceLeDiff, Nat.reduceLT, Nat.reduceBEq, Nat.reduceBNe, reduceCtorEq, e0]
      simp only [ic90_25, n64, wkA, Nat.reduceEqDiff, Nat.reduceAdd, Nat.reduceSub, Nat.reduceLeDiff, Nat.reduceLT, Nat.reduceBEq, Nat.reduceBNe, reduceCtorEq, hl, Int.toNat_natCast, hg, e4]
      refine ⟨⟨by omega, by omega⟩, ?_⟩
      simp only [ic90_24, wkA, Nat.reduceEqDiff, Nat.reduceAdd, Nat.reduceSub, Nat.reduceLeDiff, Nat.reduceLT, Nat.reduceBEq, Nat.reduceBNe, reduceCtorEq, w1]
      refine ⟨_, 7 - (n + 1), Gh.refl _, by omega, n + 1, rfl, by omega, rfl, fun k hk => ?_⟩
      by_cases hkn : k = n
      · subst hkn; omega
      · exact hall k (by omega)
  · have hn7 : n = 7 := by omega
    subst hn7
    have e0 : decide (((7 : Nat) : Int) < 7) = false := rfl
    have hres : longN p = .ok p := by
      have h0 := hall 0 (by omega)
      have h1 := hall 1 (by omega)
      have h2 := hall 2 (by omega)
      have h3 := hall 3 (by omega)
      have h4 := hall 4 (by omega)
      have h5 := hall 5 (by omega)
      have h6 := hall 6 (by omega)
      simp only [valsN, List.getD_cons_zero, List.getD_cons_succ] at h0 h1 h2 h3 h4 h5 h6
      rw [longN, if_neg]
      omega
    rw [hres]
    simp only [ic90_26, wkA, Nat.reduceEqDiff, Nat.reduceAdd, Nat.reduceSub, Nat.reduceLeDiff, Nat.reduceLT, Nat.reduceBEq, Nat.reduceBNe, reduceCtorEq, e0]
    simp only [ic90_27, obN, n64, Pat.av, Pat.zero, items, wkA, Nat.reduceEqDiff, Nat.reduceAdd, Nat.reduceSub, Nat.reduceLeDiff, Nat.reduceLT, Nat.reduceBEq, Nat.reduceBNe, reduceCtorEq]
    rfl
theorem seg29 (p : Pat) (sizes : List Nat) (plain : List UInt8) (hp : 0 < p.minSig → plain ≠ []) (hs : sizes.length < 1000000) (ex : List (Nat × AV)) : VC e0 ic90_29 (qN (mixN p sizes plain)) ⟨(2, .box 2 0) :: (4, .box 4 0) :: (7, .bool p.sci) :: (13, n64 sizes) :: (14, .str plain) :: ex, obN p⟩ := by
  have fin := fun ex => seg28 p ex
  have bad : mixN p sizes plain = .error 6 → True := fun _ => trivial
  have e1 : decide ((((sizes.map fun (n : Nat) => i64 n).length : Nat) : Int) > 1) = decide (1 < sizes.length) := by rw [List.length_map, decide_eq_decide]; omega
  have e2 : decide ((p.minSig : Int) > 0) = decide (0 < p.minSig) := by rw [decide_eq_decide]; omega
  cases h1 : p.sci with
  | false =>
    have hres : mixN p sizes plain = longN p := by rw [mixN, if_neg (by rw [h1]; simp)]
    rw [hres]
    simp only [obN, n64, Pat.av, Pat.zero, items, wkA, Nat.reduceEqDiff, Nat.reduceAdd, Nat.reduceSub, Nat.reduceLeDiff, Nat.reduceLT, Nat.reduceBEq, Nat.reduceBNe, reduceCtorEq] at fin
    simp only [ic90_29, obN, n64, Pat.av, Pat.zero, items, wkA, Nat.reduceEqDiff, Nat.reduceAdd, Nat.reduceSub, Nat.reduceLeDiff, Nat.reduceLT, Nat.reduceBEq, Nat.reduceBNe, reduceCtorEq, h1] at fin ⊢
    exact fin _
  | true =>
    cases h2 : decide (1 < sizes.length) with
    | true =>
      rw [h2] at e1
      have hres : mixN p sizes plain = .error 6 := by rw [mixN, if_pos ⟨h1, .inl (by simpa using h2)⟩]
      rw [hres]
      simp only [ic90_29, obN, n64, Pat.av, Pat.zero, items, wkA, Nat.reduceEqDiff, Nat.reduceAdd, Nat.reduceSub, Nat.reduceLeDiff, Nat.reduceLT, Nat.reduceBEq, Nat.reduceBNe, reduceCtorEq, h1, e1]
      rfl
    | false =>
      rw [h2] at e1
      cases h3 : decide (0 < p.minSig) with
      | false =>
        rw [h3] at e2
        have hres : mixN p sizes plain = longN p := by
          rw [mixN, if_neg]
          rintro ⟨_, h | h⟩
          · simp at h2; omega
          · have := h.1; simp at h3; omega
        rw [hres]
        simp only [obN, n64, Pat.av, Pat.zero, items, wkA, Nat.reduceEqDiff, Nat.reduceAdd, Nat.reduceSub, Nat.reduceLeDiff, Nat.reduceLT, Nat.reduceBEq, Nat.reduceBNe, reduceCtorEq] at fin
        simp only [ic90_29, obN, n64, Pat.av, Pat.zero, items, wkA, Nat.reduceEqDiff, Nat.reduceAdd, Nat.reduceSub, Nat.reduceLeDiff, Nat.reduceLT, Nat.reduceBEq, Nat.reduceBNe, reduceCtorEq, h1, e1, e2] at fin ⊢
        exact fin _
      | true =>
        rw [h3] at e2
        obtain ⟨c, t, rfl⟩ := List.exists_cons_of_ne_nil (hp (by simpa using h3))
        have e3 : (((c.toNat : Nat) : Int) == 35) = (c == 35) := beq8 c 35
        have g0 : (c :: t).getD 0 0 = c := rfl
        cases h4 : (c == 35) with
        | false =>
          rw [h4] at e3
          have hres : mixN p sizes (c :: t) = longN p := by
            rw [mixN, if_neg]
            rintro ⟨_, h | h⟩
            · simp at h2; omega
            · have := h.2; simp only [List.headD_cons] at this; simp [this] at h4
          rw [hres]
          simp only [obN, n64, Pat.av, Pat.zero, items, wkA, Nat.reduceEqDiff, Nat.reduceAdd, Nat.reduceSub, Nat.reduceLeDiff, Nat.reduceLT, Nat.reduceBEq, Nat.reduceBNe, reduceCtorEq] at fin
          simp only [ic90_29, obN, n64, Pat.av, Pat.zero, items, wkA, Nat.reduceEqDiff, Nat.reduceAdd, Nat.reduceSub, Nat.reduceLeDiff, Nat.reduceLT, Nat.reduceBEq, Nat.reduceBNe, reduceCtorEq, h1, e1, e2, Int.toNat_zero, g0, e3] at fin ⊢
          exact ⟨by omega, fin _⟩
        | true =>
          rw [h4] at e3
          have hres : mixN p sizes (c :: t) = .error 6 := by
            rw [mixN, if_pos ⟨h1, .inr ⟨by simpa using h3, by simpa using h4⟩⟩]
          rw [hres]
          simp only [ic90_29, obN, n64, Pat.av, Pat.zero, items, wkA, Nat.reduceEqDiff, Nat.reduceAdd, Nat.reduceSub, Nat.reduceLeDiff, Nat.reduceLT, Nat.reduceBEq, Nat.reduceBNe, reduceCtorEq, h1, e1, e2, Int.toNat_zero, g0, e3]
          refine ⟨by omega, ?_⟩
          rfl
abbrev szN (sizes : List Nat) : Nat × Ob := (139, .row 3 1 (sizes.map fun (n : Nat) => i64 n))
abbrev tmN (p : Pat) (sizes : List Nat) (plain : List UInt8) : List (Nat × AV) := [(2, .box 2 0), (4, .box 4 0), (7, .bool p.sci), (13, n64 sizes), (14, .str plain)]
theorem take_succ8 {s : List UInt8} {i : Nat} (h : i < s.length) : s.take (i + 1) = s.take i ++ [s.getD i 0] := by
  rw [List.take_add_one]; simp [List.getD_eq_getElem?_getD, h]
def I20 (p : Pat) (sizes : List Nat) (plain all : List UInt8) (j : Nat) (st : St) : Prop := ∃ i : Nat, j = all.length - i ∧ i ≤ all.length ∧ st = ⟨tmN p sizes plain ++ [(18, .str all), (19, .str (incN (all.take i))), (20, i64 i)], obN p⟩
theorem seg22 (p : Pat) (sizes : List Nat) (plain digits : List UInt8) (ex : List UInt8 × List (Nat × AV)) (hs : sizes.length < 1000000) (hd : digits.length < 1000000) (hsig : p.minSig = 0) :
    VC e0 ic90_22 (thenQ (VC e0 ic90_29 (qN (aftN p sizes plain digits))) (qN (aftN p sizes plain digits))) ⟨(2, .box 2 0) :: (4, .box 4 0) :: (7, .bool p.sci) :: (13, n64 sizes) :: (14, .str plain) :: (18, .str ex.1) :: (19, .str digits) :: ex.2, obN p⟩ := by
  have c117 := con117 digits (by omega)
  have e1 : (strip digits != []) = decide (strip digits ≠ []) := by rw [Bool.eq_iff_iff, bne_iff_ne, decide_eq_true_eq]
  have e2 : decide ((p.minFrac : Int) < (p.maxFrac : Int)) = decide (p.minFrac < p.maxFrac) := by rw [decide_eq_decide]; omega
  have fin := fun ex => seg29 { p with inc := strip digits, maxInt := if p.sci = true then plain.length else p.maxInt } sizes plain (by intro h; simp only at h; omega) hs ex
  have go : ∀ (b : Bool), (aftN p sizes plain digits = mixN { p with inc := strip digits, maxInt := if p.sci = true then plain.length else p.maxInt } sizes plain) →
      VC e0 ic90_21 (thenQ (VC e0 ic90_29 (qN (aftN p sizes plain digits))) (qN (aftN p sizes plain digits))) ⟨[(2, .box 2 0), (4, .box 4 0), (7, .bool p.sci), (13, n64 sizes), (14, .str plain), (272, .bool b)], obN { p with inc := strip digits }⟩ := by
    intro b hres
    rw [hres]
    cases h1 : p.sci with
    | false =>
      rw [h1, if_neg (by simp)] at fin
      rw [if_neg (by simp)]
      simp only [obN, n64, Pat.av, Pat.zero, items, wkA, Nat.reduceEqDiff, Nat.reduceAdd, Nat.reduceSub, Nat.reduceLeDiff, Nat.reduceLT, Nat.reduceBEq, Nat.reduceBNe, reduceCtorEq, h1] at fin
      simp only [ic90_21, obN, n64, Pat.av, Pat.zero, items, wkA, Nat.reduceEqDiff, Nat.reduceAdd, Nat.reduceSub, Nat.reduceLeDiff, Nat.reduceLT, Nat.reduceBEq, Nat.reduceBNe, reduceCtorEq, h1]
      exact fin _
    | true =>
      have f := fin []
      rw [h1, if_pos rfl] at f
      rw [if_pos rfl]
      simp only [obN, n64, Pat.av, Pat.zero, items, wkA, Nat.reduceEqDiff, Nat.reduceAdd, Nat.reduceSub, Nat.reduceLeDiff, Nat.reduceLT, Nat.reduceBEq, Nat.reduceBNe, reduceCtorEq, h1] at f
      simp only [ic90_21, obN, n64, Pat.av, Pat.zero, items, wkA, Nat.reduceEqDiff, Nat.reduceAdd, Nat.reduceSub, Nat.reduceLeDiff, Nat.reduceLT, Nat.reduceBEq, Nat.reduceBNe, reduceCtorEq, h1]
      exact f
  cases h1 : decide (strip digits ≠ []) with
  | false =>
    rw [h1] at e1
    have g := go false (by rw [aftN, if_neg]; rintro ⟨h, _⟩; simp at h1; exact h h1)
    simp only [obN, n64, Pat.av, Pat.zero, items, wkA, Nat.reduceEqDiff, Nat.reduceAdd, Nat.reduceSub, Nat.reduceLeDiff, Nat.reduceLT, Nat.reduceBEq, Nat.reduceBNe, reduceCtorEq] at g
    simp only [ic90_22, obN, n64, Pat.av, Pat.zero, items, wkA, Nat.reduceEqDiff, Nat.reduceAdd, Nat.reduceSub, Nat.reduceLeDiff, Nat.reduceLT, Nat.reduceBEq, Nat.reduceBNe, reduceCtorEq]
    refine callF c117 rfl ?_
    simp only [wkA, Nat.reduceEqDiff, Nat.reduceAdd, Nat.reduceSub, Nat.reduceLeDiff, Nat.reduceLT, Nat.reduceBEq, Nat.reduceBNe, reduceCtorEq, e1]
    exact g
  | true =>
    rw [h1] at e1
    have h1' : strip digits ≠ [] := by simpa using h1
    cases h2 : decide (p.minFrac < p.maxFrac) with
    | true =>
      rw [h2] at e2
      have hres : aftN p sizes plain digits = .error 6 := by rw [aftN, if_pos ⟨h1', .inl (by simpa using h2)⟩]
      rw [hres]
      simp only [ic90_22, obN, n64, Pat.av, Pat.zero, items, wkA, Nat.reduceEqDiff, Nat.reduceAdd, Nat.reduceSub, Nat.reduceLeDiff, Nat.reduceLT, Nat.reduceBEq, Nat.reduceBNe, reduceCtorEq]
      refine callF c117 rfl ?_
      simp only [wkA, Nat.reduceEqDiff, Nat.reduceAdd, Nat.reduceSub, Nat.reduceLeDiff, Nat.reduceLT, Nat.reduceBEq, Nat.reduceBNe, reduceCtorEq, e1, e2]
      rfl
    | false =>
      rw [h2] at e2
      cases h3 : p.sci with
      | true =>
        have hres : aftN p sizes plain digits = .error 6 := by rw [aftN, if_pos ⟨h1', .inr h3⟩]
        rw [hres]
        simp only [ic90_22, obN, n64, Pat.av, Pat.zero, items, wkA, Nat.reduceEqDiff, Nat.reduceAdd, Nat.reduceSub, Nat.reduceLeDiff, Nat.reduceLT, Nat.reduceBEq, Nat.reduceBNe, reduceCtorEq]
        refine callF c117 rfl ?_
        simp only [wkA, Nat.reduceEqDiff, Nat.reduceAdd, Nat.reduceSub, Nat.reduceLeDiff, Nat.reduceLT, Nat.reduceBEq, Nat.reduceBNe, reduceCtorEq, e1, e2, h3]
        rfl
      | false =>
        have g := go false (by
          rw [aftN, if_neg]
          rintro ⟨_, h | h⟩
          · simp at h2; omega
          · rw [h3] at h; simp at h)
        simp only [obN, n64, Pat.av, Pat.zero, items, wkA, Nat.reduceEqDiff, Nat.reduceAdd, Nat.reduceSub, Nat.reduceLeDiff, Nat.reduceLT, Nat.reduceBEq, Nat.reduceBNe, reduceCtorEq, h3] at g
        simp only [ic90_22, obN, n64, Pat.av, Pat.zero, items, wkA, Nat.reduceEqDiff, Nat.reduceAdd, Nat.reduceSub, Nat.reduceLeDiff, Nat.reduceLT, Nat.reduceBEq, Nat.reduceBNe, reduceCtorEq]
        refine callF c117 rfl ?_
        simp only [wkA, Nat.reduceEqDiff, Nat.reduceAdd, Nat.reduceSub, Nat.reduceLeDiff, Nat.reduceLT, Nat.reduceBEq, Nat.reduceBNe, reduceCtorEq, e1, e2, h3]
        exact g
theorem seg23 (p : Pat) (sizes : List Nat) (plain fraction all : List UInt8) (ex : List (Nat × AV)) (hs : sizes.length < 1000000) (hp : plain.length < 1000000) (hf : fraction.length < 1000000) (ha : all.length < 1000000) (hsig : p.minSig = 0) (R : Except Int Pat)
    (hR : R = aftN { p with minInt := countS plain 48, minFrac := countS fraction 48, maxFrac := fraction.length } sizes plain (incN all)) :
    VC e0 ic90_23 (thenQ (VC e0 ic90_29 (qN R)) (qN R)) ⟨(2, .box 2 0) :: (4, .box 4 0) :: (7, .bool p.sci) :: (11, .str fraction) :: (13, n64 sizes) :: (14, .str plain) :: (18, .str all) :: ex, obN p⟩ := by
  have c1 := con118 plain 48 (by omega)
  have c2 := con118 fraction 48 (by omega)
  have h48 : (((48 : UInt8).toNat : Nat) : Int) = 48 := rfl
  rw [h48] at c1 c2
  simp only [ic90_23, obN, n64, Pat.av, Pat.zero, items, wkA, Nat.reduceEqDiff, Nat.reduceAdd, Nat.reduceSub, Nat.reduceLeDiff, Nat.reduceLT, Nat.reduceBEq, Nat.reduceBNe, reduceCtorEq]
  refine callF c1 rfl ?_
  simp only [wkA, Nat.reduceEqDiff, Nat.reduceAdd, Nat.reduceSub, Nat.reduceLeDiff, Nat.reduceLT, Nat.reduceBEq, Nat.reduceBNe, reduceCtorEq]
  refine callF c2 rfl ?_
  simp only [wkA, Nat.reduceEqDiff, Nat.reduceAdd, Nat.reduceSub, Nat.reduceLeDiff, Nat.reduceLT, Nat.reduceBEq, Nat.reduceBNe, reduceCtorEq]
  refine ⟨I20 { p with minInt := countS plain 48, minFrac := countS fraction 48, maxFrac := fraction.length } sizes plain all, all.length, _, Gh.refl _, ⟨0, rfl, by omega, rfl⟩, ?_⟩
  rintro j st ⟨i, rfl, hi, rfl⟩
  by_cases hlt : i < all.length
  · have e0 : decide ((i : Int) < (all.length : Int)) = true := decide_eq_true (by omega)
    have w1 : IntKind.i64.wrap ((i : Int) + 1) = ((i + 1 : Nat) : Int) := by rw [wrap64] <;> omega
    have hx : ((((all.getD i 0).toNat : Nat) : Int) != 35) = (all.getD i 0 != 35) := by
      have := beq8 (all.getD i 0) 35
      rw [bne, bne]; exact congrArg (!·) this
    have htk : (all.drop i).take (i + 1 - i) = [all.getD i 0] := by rw [drop_get hlt]; simp
    have hil : (incN (all.take i)).length ≤ i := by
      refine Nat.le_trans (List.length_filter_le _ _) ?_
      simp; omega
    have hinc : incN (all.take (i + 1)) = incN (all.take i) ++ (if (all.getD i 0 != 35) = true then [all.getD i 0] else []) := by
      rw [take_succ8 hlt, incN, List.filter_append]
      congr 1
      rw [List.filter_cons, List.filter_nil]
    cases h1 : (all.getD i 0 != 35) with
    | true =>
      rw [h1] at hx
      rw [h1, if_pos rfl] at hinc
      simp only [ic90_20, tmN, obN, n64, Pat.av, Pat.zero, items, wkA, Nat.reduceEqDiff, Nat.reduceAdd, Nat.reduceSub, Nat.reduceLeDiff, Nat.reduceLT, Nat.reduceBEq, Nat.reduceBNe, reduceCtorEq, e0]
      simp only [ic90_19, ic90_18, wkA, Nat.reduceEqDiff, Nat.reduceAdd, Nat.reduceSub, Nat.reduceLeDiff, Nat.reduceLT, Nat.reduceBEq, Nat.reduceBNe, reduceCtorEq, Int.toNat_natCast, hx, w1, htk]
      refine ⟨⟨by omega, by omega⟩, ⟨by omega, by omega, by omega⟩, by omega, ?_⟩
      refine ⟨_, all.length - (i + 1), Gh.refl _, by omega, i + 1, rfl, by omega, ?_⟩
      rw [hinc]; rfl
    | false =>
      rw [h1] at hx
      rw [h1, if_neg (by simp), List.append_nil] at hinc
      simp only [ic90_20, tmN, obN, n64, Pat.av, Pat.zero, items, wkA, Nat.reduceEqDiff, Nat.reduceAdd, Nat.reduceSub, Nat.reduceLeDiff, Nat.reduceLT, Nat.reduceBEq, Nat.reduceBNe, reduceCtorEq, e0]
      simp only [ic90_19, ic90_18, wkA, Nat.reduceEqDiff, Nat.reduceAdd, Nat.reduceSub, Nat.reduceLeDiff, Nat.reduceLT, Nat.reduceBEq, Nat.reduceBNe, reduceCtorEq, Int.toNat_natCast, hx, w1]
      refine ⟨⟨by omega, by omega⟩, ?_⟩
      refine ⟨_, all.length - (i + 1), Gh.refl _, by omega, i + 1, rfl, by omega, ?_⟩
      rw [hinc]; rfl
  · have e0 : decide ((i : Int) < (all.length : Int)) = false := decide_eq_false (by omega)
    have ht : all.take i = all := List.take_of_length_le (by omega)
    have hil : (incN all).length ≤ all.length := List.length_filter_le _ _
    have f := seg22 { p with minInt := countS plain 48, minFrac := countS fraction 48, maxFrac := fraction.length } sizes plain (incN all) (all, [(20, i64 i), (243, .bool false)]) hs (by omega) hsig
    rw [← hR] at f
    rw [ht]
    simp only [obN, n64, Pat.av, Pat.zero, items, wkA, Nat.reduceEqDiff, Nat.reduceAdd, Nat.reduceSub, Nat.reduceLeDiff, Nat.reduceLT, Nat.reduceBEq, Nat.reduceBNe, reduceCtorEq] at f
    simp only [ic90_20, tmN, obN, n64, Pat.av, Pat.zero, items, wkA, Nat.reduceEqDiff, Nat.reduceAdd, Nat.reduceSub, Nat.reduceLeDiff, Nat.reduceLT, Nat.reduceBEq, Nat.reduceBNe, reduceCtorEq, e0]
    exact f
def I15 (p : Pat) (sizes : List Nat) (plain : List UInt8) (j : Nat) (st : St) : Prop := ∃ (n : Nat) (ex : List (Nat × AV)), j = plain.length - n ∧ n ≤ plain.length ∧ 0 < countS (plain.drop n) 64 ∧ tagN plain = tagN (plain.drop n) ∧
  st = ⟨tmN p sizes plain ++ ex, obN { p with minSig := countS plain 64, maxSig := plain.length - n }⟩
theorem seg17 (p : Pat) (sizes : List Nat) (plain : List UInt8) (ex : List (Nat × AV)) (hs : sizes.length < 1000000) (hp : plain.length < 1000000) (h64 : 0 < countS plain 64) (R : Except Int Pat)
    (hR : R = if rowsS plain [35, 64, 35] = false then .error 4 else mixN { p with minSig := countS plain 64, maxSig := (tagN plain).length } sizes plain) :
    VC e0 ic90_17 (thenQ (VC e0 ic90_29 (qN R)) (qN R)) ⟨(2, .box 2 0) :: (4, .box 4 0) :: (7, .bool p.sci) :: (13, n64 sizes) :: (14, .str plain) :: ex, obN p⟩ := by
  have c119 := con119 plain 35 64 35 (by omega)
  have h35 : (((35 : UInt8).toNat : Nat) : Int) = 35 := rfl
  have h6 : (((64 : UInt8).toNat : Nat) : Int) = 64 := rfl
  have c118 := con118 plain 64 (by omega)
  rw [h35, h6] at c119
  rw [h6] at c118
  cases hr : rowsS plain [35, 64, 35] with
  | false =>
    rw [hr, if_pos rfl] at hR
    rw [hr] at c119
    subst hR
    simp only [ic90_17, obN, n64, Pat.av, Pat.zero, items, wkA, Nat.reduceEqDiff, Nat.reduceAdd, Nat.reduceSub, Nat.reduceLeDiff, Nat.reduceLT, Nat.reduceBEq, Nat.reduceBNe, reduceCtorEq]
    refine callF c119 rfl ?_
    simp only [wkA, Nat.reduceEqDiff, Nat.reduceAdd, Nat.reduceSub, Nat.reduceLeDiff, Nat.reduceLT, Nat.reduceBEq, Nat.reduceBNe, reduceCtorEq, Bool.not_false]
    rfl
  | true =>
    rw [hr, if_neg (by simp)] at hR
    rw [hr] at c119
    simp only [ic90_17, obN, n64, Pat.av, Pat.zero, items, wkA, Nat.reduceEqDiff, Nat.reduceAdd, Nat.reduceSub, Nat.reduceLeDiff, Nat.reduceLT, Nat.reduceBEq, Nat.reduceBNe, reduceCtorEq]
    refine callF c119 rfl ?_
    simp only [wkA, Nat.reduceEqDiff, Nat.reduceAdd, Nat.reduceSub, Nat.reduceLeDiff, Nat.reduceLT, Nat.reduceBEq, Nat.reduceBNe, reduceCtorEq, Bool.not_true]
    simp only [ic90_16, wkA, Nat.reduceEqDiff, Nat.reduceAdd, Nat.reduceSub, Nat.reduceLeDiff, Nat.reduceLT, Nat.reduceBEq, Nat.reduceBNe, reduceCtorEq]
    refine callF c118 rfl ?_
    simp only [wkA, Nat.reduceEqDiff, Nat.reduceAdd, Nat.reduceSub, Nat.reduceLeDiff, Nat.reduceLT, Nat.reduceBEq, Nat.reduceBNe, reduceCtorEq]
    refine ⟨I15 p sizes plain, plain.length, _, Gh.refl _, ⟨0, [], rfl, by omega, by simpa using h64, by simp, rfl⟩, ?_⟩
    rintro j st ⟨n, ex, rfl, hn, hc, ht, rfl⟩
    have hlt : n < plain.length := by
      rcases Nat.lt_or_ge n plain.length with h | h
      · exact h
      · rw [List.drop_of_length_le h] at hc; simp [countS] at hc
    have w1 : IntKind.i64.wrap ((plain.length : Int) - ((plain.length - n : Nat) : Int)) = (n : Int) := by rw [wrap64] <;> omega
    have w2 : IntKind.i64.wrap (((plain.length - n : Nat) : Int) - 1) = ((plain.length - (n + 1) : Nat) : Int) := by rw [wrap64] <;> omega
    have hx := beq8 (plain.getD n 0) 35
    rw [h35] at hx
    rw [drop_get hlt] at hc ht
    rw [countS_cons] at hc
    cases h1 : (plain.getD n 0 == 35) with
    | true =>
      rw [h1] at hx
      have h2 : plain.getD n 0 = 35 := beq_iff_eq.1 h1
      rw [h2, if_neg (by decide), Nat.zero_add] at hc
      have ht2 : tagN plain = tagN (plain.drop (n + 1)) := by rw [ht, h2, tagN, tagN, List.dropWhile_cons]; rfl
      simp only [ic90_15, tmN, obN, n64, Pat.av, Pat.zero, items, wkA, Nat.reduceEqDiff, Nat.reduceAdd, Nat.reduceSub, Nat.reduceLeDiff, Nat.reduceLT, Nat.reduceBEq, Nat.reduceBNe, reduceCtorEq, w1, Int.toNat_natCast, hx]
      refine ⟨⟨by omega, by omega⟩, ?_⟩
      simp only [ic90_14, wkA, Nat.reduceEqDiff, Nat.reduceAdd, Nat.reduceSub, Nat.reduceLeDiff, Nat.reduceLT, Nat.reduceBEq, Nat.reduceBNe, reduceCtorEq, w2]
      exact ⟨_, plain.length - (n + 1), Gh.refl _, by omega, n + 1, [], rfl, by omega, hc, ht2, rfl⟩
    | false =>
      rw [h1] at hx
      have ht2 : (tagN plain).length = plain.length - n := by
        rw [ht, tagN, List.dropWhile_cons, if_neg (by rw [h1]; simp)]
        simp; omega
      rw [ht2] at hR
      have f := fun ex => seg29 { p with minSig := countS plain 64, maxSig := plain.length - n } sizes plain (fun _ h => by rw [h] at hlt; simp at hlt) hs ex
      rw [← hR] at f
      simp only [obN, n64, Pat.av, Pat.zero, items, wkA, Nat.reduceEqDiff, Nat.reduceAdd, Nat.reduceSub, Nat.reduceLeDiff, Nat.reduceLT, Nat.reduceBEq, Nat.reduceBNe, reduceCtorEq] at f
      simp only [ic90_15, tmN, obN, n64, Pat.av, Pat.zero, items, wkA, Nat.reduceEqDiff, Nat.reduceAdd, Nat.reduceSub, Nat.reduceLeDiff, Nat.reduceLT, Nat.reduceBEq, Nat.reduceBNe, reduceCtorEq, w1, Int.toNat_natCast, hx]
      refine ⟨⟨by omega, by omega⟩, ?_⟩
      exact f _
theorem seg30 (p : Pat) (sizes : List Nat) (plain fraction all : List UInt8) (point : Bool) (ex : List (Nat × AV)) (hs : sizes.length < 1000000) (hp : plain.length < 1000000) (hf : fraction.length < 1000000) (ha : all.length < 1000000) (hsig : p.minSig = 0) (hall : point = false → all = plain) :
    VC e0 ic90_30 (qN (choN p sizes plain fraction all point)) ⟨(2, .box 2 0) :: (4, .box 4 0) :: (7, .bool p.sci) :: (11, .str fraction) :: (12, .bool point) :: (13, n64 sizes) :: (14, .str plain) :: (18, .str all) :: ex, obN p⟩ := by
  have c1 := con118 all 64 (by omega)
  have c2 := con118 plain 48 (by omega)
  have c3 := con119 plain 35 48 48 (by omega)
  have c4 := con119 fraction 48 35 35 (by omega)
  have h35 : (((35 : UInt8).toNat : Nat) : Int) = 35 := rfl
  have h6 : (((64 : UInt8).toNat : Nat) : Int) = 64 := rfl
  have h48 : (((48 : UInt8).toNat : Nat) : Int) = 48 := rfl
  rw [h6] at c1
  rw [h48] at c2
  rw [h35, h48] at c3 c4
  have e1 : decide (((countS all 64 : Nat) : Int) > 0) = decide (0 < countS all 64) := by rw [decide_eq_decide]; omega
  have e2 : decide (((countS plain 48 : Nat) : Int) > 0) = decide (0 < countS plain 48) := by rw [decide_eq_decide]; omega
  have f17 := fun (h : 0 < countS plain 64) R hR ex => seg17 p sizes plain ex hs hp h R hR
  have f23 := fun R hR ex => seg23 p sizes plain fraction all ex hs hp hf ha hsig R hR
  unfold choN
  cases h1 : decide (0 < countS all 64) with
  | true =>
    rw [h1] at e1
    have h1' : 0 < countS all 64 := by simpa using h1
    rw [if_pos h1']
    cases hpt : point with
    | true =>
      rw [if_pos (.inl rfl)]
      simp only [ic90_30, obN, n64, Pat.av, Pat.zero, items, wkA, Nat.reduceEqDiff, Nat.reduceAdd, Nat.reduceSub, Nat.reduceLeDiff, Nat.reduceLT, Nat.reduceBEq, Nat.reduceBNe, reduceCtorEq]
      refine callF c1 rfl ?_
      simp only [wkA, Nat.reduceEqDiff, Nat.reduceAdd, Nat.reduceSub, Nat.reduceLeDiff, Nat.reduceLT, Nat.reduceBEq, Nat.reduceBNe, reduceCtorEq, e1]
      rfl
    | false =>
      rw [hall hpt] at h1'
      cases h2 : decide (0 < countS plain 48) with
      | true =>
        rw [h2] at e2
        rw [if_pos (.inr (by simpa using h2))]
        simp only [ic90_30, obN, n64, Pat.av, Pat.zero, items, wkA, Nat.reduceEqDiff, Nat.reduceAdd, Nat.reduceSub, Nat.reduceLeDiff, Nat.reduceLT, Nat.reduceBEq, Nat.reduceBNe, reduceCtorEq]
        refine callF c1 rfl ?_
        simp only [wkA, Nat.reduceEqDiff, Nat.reduceAdd, Nat.reduceSub, Nat.reduceLeDiff, Nat.reduceLT, Nat.reduceBEq, Nat.reduceBNe, reduceCtorEq, e1]
        refine callF c2 rfl ?_
        simp only [wkA, Nat.reduceEqDiff, Nat.reduceAdd, Nat.reduceSub, Nat.reduceLeDiff, Nat.reduceLT, Nat.reduceBEq, Nat.reduceBNe, reduceCtorEq, e2]
        rfl
      | false =>
        rw [h2] at e2
        rw [if_neg (by simp at h2; simp; omega)]
        have f := f17 h1' _ rfl
        simp only [obN, n64, Pat.av, Pat.zero, items, wkA, Nat.reduceEqDiff, Nat.reduceAdd, Nat.reduceSub, Nat.reduceLeDiff, Nat.reduceLT, Nat.reduceBEq, Nat.reduceBNe, reduceCtorEq] at f
        simp only [ic90_30, obN, n64, Pat.av, Pat.zero, items, wkA, Nat.reduceEqDiff, Nat.reduceAdd, Nat.reduceSub, Nat.reduceLeDiff, Nat.reduceLT, Nat.reduceBEq, Nat.reduceBNe, reduceCtorEq]
        refine callF c1 rfl ?_
        simp only [wkA, Nat.reduceEqDiff, Nat.reduceAdd, Nat.reduceSub, Nat.reduceLeDiff, Nat.reduceLT, Nat.reduceBEq, Nat.reduceBNe, reduceCtorEq, e1]
        refine callF c2 rfl ?_
        simp only [wkA, Nat.reduceEqDiff, Nat.reduceAdd, Nat.reduceSub, Nat.reduceLeDiff, Nat.reduceLT, Nat.reduceBEq, Nat.reduceBNe, reduceCtorEq, e2]
        exact f _
  | false =>
    rw [h1] at e1
    rw [if_neg (by simpa using h1)]
    cases h3 : rowsS plain [35, 48, 48] with
    | false =>
      rw [h3] at c3
      rw [if_pos (.inl rfl)]
      simp only [ic90_30, obN, n64, Pat.av, Pat.zero, items, wkA, Nat.reduceEqDiff, Nat.reduceAdd, Nat.reduceSub, Nat.reduceLeDiff, Nat.reduceLT, Nat.reduceBEq, Nat.reduceBNe, reduceCtorEq]
      refine callF c1 rfl ?_
      simp only [wkA, Nat.reduceEqDiff, Nat.reduceAdd, Nat.reduceSub, Nat.reduceLeDiff, Nat.reduceLT, Nat.reduceBEq, Nat.reduceBNe, reduceCtorEq, e1]
      refine callF c3 rfl ?_
      simp only [wkA, Nat.reduceEqDiff, Nat.reduceAdd, Nat.reduceSub, Nat.reduceLeDiff, Nat.reduceLT, Nat.reduceBEq, Nat.reduceBNe, reduceCtorEq, Bool.not_false]
      rfl
    | true =>
      rw [h3] at c3
      cases h4 : rowsS fraction [48, 35, 35] with
      | false =>
        rw [h4] at c4
        rw [if_pos (.inr rfl)]
        simp only [ic90_30, obN, n64, Pat.av, Pat.zero, items, wkA, Nat.reduceEqDiff, Nat.reduceAdd, Nat.reduceSub, Nat.reduceLeDiff, Nat.reduceLT, Nat.reduceBEq, Nat.reduceBNe, reduceCtorEq]
        refine callF c1 rfl ?_
        simp only [wkA, Nat.reduceEqDiff, Nat.reduceAdd, Nat.reduceSub, Nat.reduceLeDiff, Nat.reduceLT, Nat.reduceBEq, Nat.reduceBNe, reduceCtorEq, e1]
        refine callF c3 rfl ?_
        simp only [wkA, Nat.reduceEqDiff, Nat.reduceAdd, Nat.reduceSub, Nat.reduceLeDiff, Nat.reduceLT, Nat.reduceBEq, Nat.reduceBNe, reduceCtorEq, Bool.not_true]
        refine callF c4 rfl ?_
        simp only [wkA, Nat.reduceEqDiff, Nat.reduceAdd, Nat.reduceSub, Nat.reduceLeDiff, Nat.reduceLT, Nat.reduceBEq, Nat.reduceBNe, reduceCtorEq, Bool.not_false]
        rfl
      | true =>
        rw [h4] at c4
        rw [if_neg (by simp)]
        have f := f23 _ rfl
        simp only [obN, n64, Pat.av, Pat.zero, items, wkA, Nat.reduceEqDiff, Nat.reduceAdd, Nat.reduceSub, Nat.reduceLeDiff, Nat.reduceLT, Nat.reduceBEq, Nat.reduceBNe, reduceCtorEq] at f
        simp only [ic90_30, obN, n64, Pat.av, Pat.zero, items, wkA, Nat.reduceEqDiff, Nat.reduceAdd, Nat.reduceSub, Nat.reduceLeDiff, Nat.reduceLT, Nat.reduceBEq, Nat.reduceBNe, reduceCtorEq]
        refine callF c1 rfl ?_
        simp only [wkA, Nat.reduceEqDiff, Nat.reduceAdd, Nat.reduceSub, Nat.reduceLeDiff, Nat.reduceLT, Nat.reduceBEq, Nat.reduceBNe, reduceCtorEq, e1]
        refine callF c3 rfl ?_
        simp only [wkA, Nat.reduceEqDiff, Nat.reduceAdd, Nat.reduceSub, Nat.reduceLeDiff, Nat.reduceLT, Nat.reduceBEq, Nat.reduceBNe, reduceCtorEq, Bool.not_true]
        refine callF c4 rfl ?_
        simp only [wkA, Nat.reduceEqDiff, Nat.reduceAdd, Nat.reduceSub, Nat.reduceLeDiff, Nat.reduceLT, Nat.reduceBEq, Nat.reduceBNe, reduceCtorEq, Bool.not_true]
        exact f _
theorem seg31 (p : Pat) (sizes : List Nat) (plain fraction : List UInt8) (point : Bool) (ex : List (Nat × AV)) (hs : sizes.length < 1000000) (hp : plain.length < 400000) (hf : fraction.length < 400000) (hsig : p.minSig = 0) (hall : point = false → fraction = []) :
    VC e0 ic90_31 (qN (allN p sizes plain fraction point)) ⟨(2, .box 2 0) :: (4, .box 4 0) :: (7, .bool p.sci) :: (11, .str fraction) :: (12, .bool point) :: (13, n64 sizes) :: (14, .str plain) :: ex, obN p⟩ := by
  have e1 : (plain ++ fraction == []) = decide (plain ++ fraction = []) := strBeq _ _
  unfold allN
  by_cases h : plain ++ fraction = []
  · rw [decide_eq_true h] at e1
    rw [if_pos h]
    simp only [ic90_31, obN, n64, Pat.av, Pat.zero, items, wkA, Nat.reduceEqDiff, Nat.reduceAdd, Nat.reduceSub, Nat.reduceLeDiff, Nat.reduceLT, Nat.reduceBEq, Nat.reduceBNe, reduceCtorEq, e1]
    refine ⟨by omega, ?_⟩
    rfl
  · rw [decide_eq_false h] at e1
    rw [if_neg h]
    have f := fun ex => seg30 p sizes plain fraction (plain ++ fraction) point ex hs (by omega) (by omega) (by simp; omega) hsig (fun hp => by rw [hall hp]; simp)
    simp only [obN, n64, Pat.av, Pat.zero, items, wkA, Nat.reduceEqDiff, Nat.reduceAdd, Nat.reduceSub, Nat.reduceLeDiff, Nat.reduceLT, Nat.reduceBEq, Nat.reduceBNe, reduceCtorEq] at f
    simp only [ic90_31, obN, n64, Pat.av, Pat.zero, items, wkA, Nat.reduceEqDiff, Nat.reduceAdd, Nat.reduceSub, Nat.reduceLeDiff, Nat.reduceLT, Nat.reduceBEq, Nat.reduceBNe, reduceCtorEq, e1]
    exact ⟨by omega, f _⟩
theorem getSz {l : List Nat} {i : Nat} (h : i < l.length) : (l.map fun (n : Nat) => i64 n).getD i .top = .int .i64 (l.getD i 0) := by
  simp [List.getD_eq_getElem?_getD, h]
theorem seg32 (p : Pat) (sizes : List Nat) (plain fraction : List UInt8) (point : Bool) (ex : List (Nat × AV)) (hs : sizes.length < 1000000) (hp : plain.length < 400000) (hf : fraction.length < 400000) (hsig : p.minSig = 0) (hall : point = false → fraction = []) (R : Except Int Pat)
    (hR : R = allN { p with sec := if 2 < sizes.length then sizes.getD (sizes.length - 2) 0 else p.sec } sizes plain fraction point) :
    VC e0 ic90_32 (qN R) ⟨(2, .box 2 0) :: (4, .box 4 0) :: (7, .bool p.sci) :: (11, .str fraction) :: (12, .bool point) :: (13, n64 sizes) :: (14, .str plain) :: ex, obN p⟩ := by
  by_cases h2 : 2 < sizes.length
  · have e1 : decide (((sizes.length : Nat) : Int) > 2) = true := decide_eq_true (by omega)
    have w1 : IntKind.i64.wrap ((sizes.length : Int) - 2) = ((sizes.length - 2 : Nat) : Int) := by rw [wrap64] <;> omega
    have hg := getSz (l := sizes) (i := sizes.length - 2) (by omega)
    rw [if_pos h2] at hR
    have f := fun ex => seg31 { p with sec := sizes.getD (sizes.length - 2) 0 } sizes plain fraction point ex hs hp hf hsig hall
    rw [← hR] at f
    simp only [obN, n64, Pat.av, Pat.zero, items, wkA, Nat.reduceEqDiff, Nat.reduceAdd, Nat.reduceSub, Nat.reduceLeDiff, Nat.reduceLT, Nat.reduceBEq, Nat.reduceBNe, reduceCtorEq] at f
    simp only [ic90_32, obN, n64, Pat.av, Pat.zero, items, wkA, Nat.reduceEqDiff, Nat.reduceAdd, Nat.reduceSub, Nat.reduceLeDiff, Nat.reduceLT, Nat.reduceBEq, Nat.reduceBNe, reduceCtorEq, List.length_map, e1, w1, Int.toNat_natCast, hg]
    exact ⟨⟨by omega, by omega⟩, f _⟩
  · have e1 : decide (((sizes.length : Nat) : Int) > 2) = false := decide_eq_false (by omega)
    rw [if_neg h2] at hR
    have f := fun ex => seg31 p sizes plain fraction point ex hs hp hf hsig hall
    rw [← hR] at f
    simp only [obN, n64, Pat.av, Pat.zero, items, wkA, Nat.reduceEqDiff, Nat.reduceAdd, Nat.reduceSub, Nat.reduceLeDiff, Nat.reduceLT, Nat.reduceBEq, Nat.reduceBNe, reduceCtorEq] at f
    simp only [ic90_32, obN, n64, Pat.av, Pat.zero, items, wkA, Nat.reduceEqDiff, Nat.reduceAdd, Nat.reduceSub, Nat.reduceLeDiff, Nat.reduceLT, Nat.reduceBEq, Nat.reduceBNe, reduceCtorEq, List.length_map, e1]
    exact f _
theorem seg33 (p : Pat) (sizes : List Nat) (plain fraction : List UInt8) (point : Bool) (ex : List (Nat × AV)) (hs : sizes.length < 1000000) (hp : plain.length < 400000) (hf : fraction.length < 400000) (hsig : p.minSig = 0) (hall : point = false → fraction = []) (R : Except Int Pat) (hp0 : p.prim = 0 ∧ p.sec = 0)
    (hR : R = allN { p with prim := if 1 < sizes.length then sizes.getD (sizes.length - 1) 0 else 0, sec := if 2 < sizes.length then sizes.getD (sizes.length - 2) 0 else if 1 < sizes.length then sizes.getD (sizes.length - 1) 0 else 0 } sizes plain fraction point) :
    VC e0 ic90_33 (qN R) ⟨(2, .box 2 0) :: (4, .box 4 0) :: (7, .bool p.sci) :: (11, .str fraction) :: (12, .bool point) :: (13, n64 sizes) :: (14, .str plain) :: ex, obN p⟩ := by
  by_cases h2 : 1 < sizes.length
  · have e1 : decide (((sizes.length : Nat) : Int) > 1) = true := decide_eq_true (by omega)
    have w1 : IntKind.i64.wrap ((sizes.length : Int) - 1) = ((sizes.length - 1 : Nat) : Int) := by rw [wrap64] <;> omega
    have hg := getSz (l := sizes) (i := sizes.length - 1) (by omega)
    rw [if_pos h2] at hR
    have f := fun ex => seg32 { p with prim := sizes.getD (sizes.length - 1) 0, sec := sizes.getD (sizes.length - 1) 0 } sizes plain fraction point ex hs hp hf hsig hall R hR
    simp only [obN, n64, Pat.av, Pat.zero, items, wkA, Nat.reduceEqDiff, Nat.reduceAdd, Nat.reduceSub, Nat.reduceLeDiff, Nat.reduceLT, Nat.reduceBEq, Nat.reduceBNe, reduceCtorEq] at f
    simp only [ic90_33, obN, n64, Pat.av, Pat.zero, items, wkA, Nat.reduceEqDiff, Nat.reduceAdd, Nat.reduceSub, Nat.reduceLeDiff, Nat.reduceLT, Nat.reduceBEq, Nat.reduceBNe, reduceCtorEq, List.length_map, e1, w1, Int.toNat_natCast, hg]
    exact ⟨⟨by omega, by omega⟩, ⟨by omega, by omega⟩, f _⟩
  · have e1 : decide (((sizes.length : Nat) : Int) > 1) = false := decide_eq_false (by omega)
    have hpe : ({ p with prim := if 1 < sizes.length then sizes.getD (sizes.length - 1) 0 else 0, sec := if 2 < sizes.length then sizes.getD (sizes.length - 2) 0 else if 1 < sizes.length then sizes.getD (sizes.length - 1) 0 else 0 } : Pat) = { p with sec := if 2 < sizes.length then sizes.getD (sizes.length - 2) 0 else p.sec } := by
      rw [if_neg h2, hp0.2, ← hp0.1]
    rw [hpe] at hR
    have f := fun ex => seg32 p sizes plain fraction point ex hs hp hf hsig hall R hR
    simp only [obN, n64, Pat.av, Pat.zero, items, wkA, Nat.reduceEqDiff, Nat.reduceAdd, Nat.reduceSub, Nat.reduceLeDiff, Nat.reduceLT, Nat.reduceBEq, Nat.reduceBNe, reduceCtorEq] at f
    simp only [ic90_33, obN, n64, Pat.av, Pat.zero, items, wkA, Nat.reduceEqDiff, Nat.reduceAdd, Nat.reduceSub, Nat.reduceLeDiff, Nat.reduceLT, Nat.reduceBEq, Nat.reduceBNe, reduceCtorEq, List.length_map, e1]
    exact f _
def I13 (p : Pat) (sizes : List Nat) (plain fraction : List UInt8) (point : Bool) (j : Nat) (st : St) : Prop := ∃ n : Nat, j = sizes.length - n ∧ n ≤ sizes.length ∧ (1 < sizes.length → ∀ k, k < n → sizes.getD k 0 ≠ 0) ∧
  st = ⟨[(2, .box 2 0), (4, .box 4 0), (7, .bool p.sci), (11, .str fraction), (12, .bool point), (13, n64 sizes), (14, .str plain), (17, i64 n)], obN p⟩
theorem seg34 (p : Pat) (sizes : List Nat) (whole plain fraction : List UInt8) (point : Bool) (ex : List (Nat × AV)) (hs : sizes.length < 1000000) (hp : plain.length < 400000) (hf : fraction.length < 400000) (hsig : p.minSig = 0) (hall : point = false → fraction = []) (hp0 : p.prim = 0 ∧ p.sec = 0) :
    VC e0 ic90_34 (qN (sizN p sizes plain fraction point)) ⟨(2, .box 2 0) :: (4, .box 4 0) :: (7, .bool p.sci) :: (10, .str whole) :: (11, .str fraction) :: (12, .bool point) :: (13, .own 139) :: (14, .str plain) :: ex, obN p ++ [szN sizes]⟩ := by
  simp only [ic90_34, obN, Pat.av, Pat.zero, items, wkA, Nat.reduceEqDiff, Nat.reduceAdd, Nat.reduceSub, Nat.reduceLeDiff, Nat.reduceLT, Nat.reduceBEq, Nat.reduceBNe, reduceCtorEq]
  refine ⟨I13 p sizes plain fraction point, sizes.length, ⟨[(2, .box 2 0), (4, .box 4 0), (7, .bool p.sci), (11, .str fraction), (12, .bool point), (13, n64 sizes), (14, .str plain), (17, i64 0)], obN p⟩, ?_, ⟨0, rfl, by omega, fun _ k hk => absurd hk (by omega), rfl⟩, ?_⟩
  · have := Gh.frz ⟨[(2, .box 2 0), (4, .box 4 0), (7, .bool p.sci), (11, .str fraction), (12, .bool point), (13, .own 139), (14, .str plain), (17, i64 0)], obN p ++ [szN sizes]⟩ 139
    simp only [obN, Pat.av, Pat.zero, items, wkA, Nat.reduceEqDiff, Nat.reduceAdd, Nat.reduceSub, Nat.reduceLeDiff, Nat.reduceLT, Nat.reduceBEq, Nat.reduceBNe, reduceCtorEq] at this
    exact this
  · rintro j st ⟨n, rfl, hn, hall0, rfl⟩
    by_cases hlt : n < sizes.length
    · have e0 : decide ((n : Int) < (sizes.length : Int)) = true := decide_eq_true (by omega)
      have w1 : IntKind.i64.wrap ((n : Int) + 1) = ((n + 1 : Nat) : Int) := by rw [wrap64] <;> omega
      have hg := getSz hlt
      by_cases h1 : 1 < sizes.length
      · have e1 : decide ((sizes.length : Int) > 1) = true := decide_eq_true (by omega)
        by_cases h0 : sizes.getD n 0 = 0
        · have e2 : (((sizes.getD n 0 : Nat) : Int) == 0) = true := by rw [h0]; rfl
          have hres : sizN p sizes plain fraction point = .error 5 := by
            rw [sizN, if_pos]
            refine ⟨h1, ?_⟩
            have : sizes.getD n 0 ∈ sizes := by
              rw [List.getD_eq_getElem?_getD, List.getElem?_eq_getElem hlt]
              exact List.getElem_mem hlt
            rwa [h0] at this
          rw [hres]
          simp only [ic90_13, obN, n64, Pat.av, Pat.zero, items, wkA, Nat.reduceEqDiff, Nat.reduceAdd, Nat.reduceSub, Nat.reduceLeDiff, Nat.reduceLT, Nat.reduceBEq, Nat.reduceBNe, reduceCtorEq, List.length_map, e0]
          simp only [ic90_12, wkA, Nat.reduceEqDiff, Nat.reduceAdd, Nat.reduceSub, Nat.reduceLeDiff, Nat.reduceLT, Nat.reduceBEq, Nat.reduceBNe, reduceCtorEq, List.length_map, e1, Int.toNat_natCast, hg, e2]
          refine ⟨⟨by omega, by omega⟩, ?_⟩
          rfl
        · have e2 : (((sizes.getD n 0 : Nat) : Int) == 0) = false := by rw [beq_eq_false_iff_ne]; omega
          simp only [ic90_13, obN, n64, Pat.av, Pat.zero, items, wkA, Nat.reduceEqDiff, Nat.reduceAdd, Nat.reduceSub, Nat.reduceLeDiff, Nat.reduceLT, Nat.reduceBEq, Nat.reduceBNe, reduceCtorEq, List.length_map, e0]
          simp only [ic90_12, ic90_11, wkA, Nat.reduceEqDiff, Nat.reduceAdd, Nat.reduceSub, Nat.reduceLeDiff, Nat.reduceLT, Nat.reduceBEq, Nat.reduceBNe, reduceCtorEq, List.length_map, e1, Int.toNat_natCast, hg, e2, w1]
          refine ⟨⟨by omega, by omega⟩, _, sizes.length - (n + 1), Gh.refl _, by omega, n + 1, rfl, by omega, fun hh k hk => ?_, rfl⟩
          by_cases hkn : k = n
          · subst hkn; exact h0
          · exact hall0 hh k (by omega)
      · have e1 : decide ((sizes.length : Int) > 1) = false := decide_eq_false (by omega)
        simp only [ic90_13, obN, n64, Pat.av, Pat.zero, items, wkA, Nat.reduceEqDiff, Nat.reduceAdd, Nat.reduceSub, Nat.reduceLeDiff, Nat.reduceLT, Nat.reduceBEq, Nat.reduceBNe, reduceCtorEq, List.length_map, e0]
        simp only [ic90_12, ic90_11, wkA, Nat.reduceEqDiff, Nat.reduceAdd, Nat.reduceSub, Nat.reduceLeDiff, Nat.reduceLT, Nat.reduceBEq, Nat.reduceBNe, reduceCtorEq, List.length_map, e1, w1]
        exact ⟨_, sizes.length - (n + 1), Gh.refl _, by omega, n + 1, rfl, by omega, fun hh => absurd hh h1, rfl⟩
    · have e0 : decide ((n : Int) < (sizes.length : Int)) = false := decide_eq_false (by omega)
      have hres : sizN p sizes plain fraction point = allN { p with prim := if 1 < sizes.length then sizes.getD (sizes.length - 1) 0 else 0, sec := if 2 < sizes.length then sizes.getD (sizes.length - 2) 0 else if 1 < sizes.length then sizes.getD (sizes.length - 1) 0 else 0 } sizes plain fraction point := by
        rw [sizN, if_neg]
        rintro ⟨h1, hm⟩
        obtain ⟨k, hk, he⟩ := List.mem_iff_getElem.1 hm
        refine hall0 h1 k (by omega) ?_
        rw [List.getD_eq_getElem?_getD, List.getElem?_eq_getElem hk, he]; rfl
      have f := fun ex => seg33 p sizes plain fraction point ex hs hp hf hsig hall _ hp0 hres
      simp only [obN, n64, Pat.av, Pat.zero, items, wkA, Nat.reduceEqDiff, Nat.reduceAdd, Nat.reduceSub, Nat.reduceLeDiff, Nat.reduceLT, Nat.reduceBEq, Nat.reduceBNe, reduceCtorEq] at f
      simp only [ic90_13, obN, n64, Pat.av, Pat.zero, items, wkA, Nat.reduceEqDiff, Nat.reduceAdd, Nat.reduceSub, Nat.reduceLeDiff, Nat.reduceLT, Nat.reduceBEq, Nat.reduceBNe, reduceCtorEq, List.length_map, e0]
      exact f _
end Go.Proofs.YtgehlcgjchfibaaGreatDoor.F
