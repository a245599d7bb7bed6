/-
  What the functions that the laws call compute, for every input that the statements allow (part 5): for the claims up to a bulk of 1048576.
-/
import Derived.Test.YtgehlcgjchfibaaGreatDoorZ04
set_option maxRecDepth 100000
set_option linter.unusedVariables false
set_option linter.unusedSimpArgs false
set_option linter.defProp false
namespace Go.Proofs.YtgehlcgjchfibaaGreatDoor.F
open Go Go.RowKit Go.Proofs
def ic19_1 : IC := (.seq (.reg [zK 49 3 9,zS 3 6 49,zI 7 0] false [6,7] [6]) .ret)
def ic19_2 : IC := (.seq (.reg [zK 41 3 9,zM 42 8,zA 43 (.neg (.t 42)),zY 44 22 41 43,zS 3 9 44] false [6,9] [6,9]) (.seq (.seq (.reg [zK 45 3 9,zC 46 33 45,zA 47 (.not (.t 46))] false [6,9,47] [6,9]) (.cond (.t 47) (.seq (.reg [zA 48 (.build [(.bool false),(.str []),(.int .i64 0)] []),zS 3 6 48,zI 7 10] false [6,7] [6]) .ret) .skip)) ic19_1))
def ic19_3 : IC := (.seq (.reg [zK 26 20 3,zC 27 23 26,zM 8 27] false [1,3,5,6,8] [3,5,6]) (.seq (.reg [zK 29 20 3,zM 30 1,zK 31 3 5,zM 32 8,zY 33 22 31 32,zA 34 (.call 47 [(.t 29,none),(.t 30,none),(.t 33,none)]),zM 28 34,zE 35 28 0,zE 36 28 1,zA 9 (.alloc 23 [(.bool false),(.str []),(.int .i64 0)]),zS 3 9 35,zM 10 36] true [6,8,9,10] [6,9]) (.seq (.seq (.reg [zM 37 10,zA 38 (.bin .neq none (.t 37) (.c (.int .i64 0)))] false [6,8,9,10,38] [6,9]) (.cond (.t 38) (.seq (.reg [zA 39 (.build [(.bool false),(.str []),(.int .i64 0)] []),zM 40 10,zS 3 6 39,zM 7 40] false [6,7] [6]) .ret) .skip)) ic19_2)))
def ic19_4 : IC := (.seq (.seq (.reg [zK 22 3 5,zC 23 33 22,zA 24 (.not (.t 23))] false [1,3,5,6,24] [3,5,6]) (.cond (.t 24) (.seq (.reg [zA 25 (.build [(.bool false),(.str []),(.int .i64 0)] []),zS 3 6 25,zI 7 10] false [6,7] [6]) .ret) .skip)) ic19_3)
def ic19_5 : IC := (.seq (.seq (.reg [zK 18 3 5,zC 19 32 18,zA 20 (.not (.t 19))] false [1,3,5,6,20] [3,5,6]) (.cond (.t 20) (.seq (.reg [zA 21 (.build [(.bool false),(.str []),(.int .i64 0)] []),zS 3 6 21,zI 7 9] false [6,7] [6]) .ret) .skip)) ic19_4)
def ic19 : IC := (.seq (.reg [zA 3 (.box 26 (.t 0)),zA 5 (.box 23 (.t 2)),zA 6 (.alloc 23 [(.bool false),(.str []),(.int .i64 0)]),zI 7 0] false [1,3,5,6] [3,5,6]) (.seq (.seq (.reg [zM 11 1,zA 12 (.bin .lss none (.t 11) (.c (.int .i64 0))),zM 13 12,zF 13 14 (.mv (.t 1)),zF 13 15 (.bin .gtr none (.t 14) (.c (.int .i64 7))),zA 16 (.pick (.t 13) (.c (.bool true)) (.t 15))] false [1,3,5,6,16] [3,5,6]) (.cond (.t 16) (.seq (.reg [zA 17 (.build [(.bool false),(.str []),(.int .i64 0)] []),zS 3 6 17,zI 7 1] false [6,7] [6]) .ret) .skip)) ic19_5))
def kp19 : List (Nat × Keep) := [(0, ⟨[1, 3, 5, 6], [3, 5, 6], []⟩),
  (1, ⟨[1, 3, 5, 6, 16], [3, 5, 6], []⟩),
  (2, ⟨[6, 7], [6], []⟩),
  (3, ⟨[1, 3, 5, 6, 20], [3, 5, 6], []⟩),
  (4, ⟨[6, 7], [6], []⟩),
  (5, ⟨[1, 3, 5, 6, 24], [3, 5, 6], []⟩),
  (6, ⟨[6, 7], [6], []⟩),
  (7, ⟨[1, 3, 5, 6, 8], [3, 5, 6], []⟩),
  (8, ⟨[6, 8, 9, 10], [6, 9], []⟩),
  (9, ⟨[6, 8, 9, 10, 38], [6, 9], []⟩),
  (10, ⟨[6, 7], [6], []⟩),
  (11, ⟨[6, 9], [6, 9], []⟩),
  (12, ⟨[6, 9, 47], [6, 9], []⟩),
  (13, ⟨[6, 7], [6], []⟩),
  (14, ⟨[6, 7], [6], []⟩)]
theorem c19 : (Tryz.f19.body.bind fun c => compC Tryz.prog 50 [] kp19 c) = some ic19 := by kernel_rfl
theorem e19 {args : List AV} {r : AV} (ha : args.length ≤ 50) (h : VC e0 ic19 (retQ [(6, (some (some 3))), (7, none)] r) ⟨argT 0 args, []⟩) : Fn 19 args r := fn_of Tryz.func19 rfl (by kernel_rfl) c19 ha (by decide) h
def ic21_1 : IC := (.block 1 (.reg [zG 48 3 7,zL 49 48,zA 50 (.bin .sub none (.t 49) (.c (.int .i64 1))),zG 51 3 7,zS 1 51 50] false [2,3,4,5,6,7] [2,3,4,7]))
def ic21_2 : IC := (.seq (.seq (.reg [zG 42 3 7,zL 43 42,zG 44 6 2,zL 45 44,zA 46 (.bin .rem none (.t 43) (.t 45)),zA 47 (.bin .neq none (.t 46) (.c (.int .i64 0)))] false [2,3,4,5,6,7,47] [2,3,4,7]) (.cond (.t 47) .skip (.exit 0))) ic21_1)
def ic21_3 : IC := (.reg [zM 52 5,zG 53 3 7,zL 54 53,zA 55 (.bin .sub none (.t 52) (.t 54)),zA 56 (.bin .add none (.t 55) (.c (.int .i64 1))),zM 8 56] false [2,3,4,6,7,8] [2,3,4,7])
def ic21_4 : IC := (.seq (.reg [zK 105 4 7,zS 4 4 105] false [4] [4]) .ret)
def ic21_5 : IC := (.seq (.reg [zK 78 3 3,zG 79 3 7,zL 80 79,zM 81 8,zA 82 (.bin .add none (.t 80) (.t 81)),zA 83 (.bin .sub none (.t 82) (.c (.int .i64 1))),zG 84 3 7,zL 85 84,zA 86 (.call 52 [(.t 78,none),(.t 83,none),(.t 85,none)]),zK 87 3 3,zG 88 3 7,zL 89 88,zA 90 (.bin .sub none (.t 89) (.c (.int .i64 1))),zG 91 3 7,zL 92 91,zM 93 11,zA 94 (.bin .sub none (.t 92) (.t 93)),zA 95 (.call 52 [(.t 87,none),(.t 90,none),(.t 94,none)]),zG 96 1 7,zS 1 96 86,zG 97 2 7,zS 1 97 95] true [4,7] [4,7]) (.seq (.seq (.reg [zG 98 1 7,zL 99 98,zG 100 2 7,zL 101 100,zA 102 (.bin .add none (.t 99) (.t 101)),zA 103 (.bin .eql none (.t 102) (.c (.str [])))] false [4,7,103] [4,7]) (.cond (.t 103) (.reg [zG 104 1 7,zU (.st 1 (.t 104) (.c (.str [48])))] false [4,7] [4,7]) .skip)) ic21_4))
def ic21_6 : IC := (.seq (.reg [zK 58 20 2,zC 59 25 58,zM 57 59,zE 60 57 0,zE 61 57 1,zM 9 60,zM 10 61] false [3,4,6,7,8,9] [3,4,7]) (.seq (.reg [zM 62 9,zM 63 8,zA 64 (.bin .sub none (.t 62) (.t 63)),zM 11 64] false [3,4,6,7,8,11] [3,4,7]) (.seq (.seq (.reg [zG 65 3 7,zL 66 65,zG 67 2 3,zL 68 67,zA 69 (.bin .sub none (.t 66) (.t 68)),zM 12 69] false [3,4,6,7,8,11,12] [3,4,7]) (.seq (.reg [zM 70 12,zM 71 11,zA 72 (.bin .gtr none (.t 70) (.t 71)),zM 73 72,zT 73 74 (.mv (.t 6)),zT 73 75 (.not (.t 74)),zA 76 (.pick (.t 73) (.t 75) (.c (.bool false)))] false [3,4,7,8,11,12,76] [3,4,7]) (.cond (.t 76) (.reg [zM 77 12,zM 11 77] false [3,4,7,8,11] [3,4,7]) .skip))) ic21_5)))
def ic21_7 : IC := (.seq (.seq (.reg [zK 36 20 2,zC 37 27 36] false [2,3,4,5,6,7,8,37] [2,3,4,7]) (.cond (.t 37) (.seq (.reg [zI 8 1] false [2,3,4,5,6,7,8] [2,3,4,7]) (.seq (.reg [zM 38 6,zA 39 (.not (.t 38))] false [2,3,4,5,6,7,8,39] [2,3,4,7]) (.cond (.t 39) (.seq (.reg [zM 40 5,zG 41 3 7,zS 1 41 40] false [2,3,4,5,6,7] [2,3,4,7]) (.seq (.block 0 (.loop ic21_2)) ic21_3)) .skip))) .skip)) ic21_6)
def ic21_8 : IC := (.seq (.reg [zK 150 3 3,zM 151 14,zA 152 (.bin .sub none (.t 151) (.c (.int .i64 1))),zA 153 (.call 52 [(.t 150,none),(.t 152,none),((.c (.int .i64 0)),none)]),zK 154 3 3,zM 155 13,zA 156 (.neg (.t 155)),zA 157 (.call 52 [(.t 154,none),((.c (.int .i64 (-1))),none),(.t 156,none)]),zG 158 1 7,zS 1 158 153,zG 159 2 7,zS 1 159 157] true [4,7] [4,7]) (.seq (.reg [zK 160 4 7,zS 4 4 160] false [4] [4]) .ret))
def ic21_9 : IC := (.seq (.seq (.reg [zM 146 14,zM 147 13,zA 148 (.bin .add none (.t 146) (.t 147)),zA 149 (.bin .eql none (.t 148) (.c (.int .i64 0)))] false [3,4,7,13,14,149] [3,4,7]) (.cond (.t 149) (.reg [zI 14 1] false [3,4,7,13,14] [3,4,7]) .skip)) ic21_8)
def ic21_10 : IC := (.seq (.seq (.reg [zM 132 5,zA 133 (.bin .geq none (.t 132) (.c (.int .i64 0))),zM 134 133,zT 134 135 (.mv (.t 6)),zT 134 136 (.not (.t 135)),zA 137 (.pick (.t 134) (.t 136) (.c (.bool false))),zM 138 137,zT 138 139 (.mv (.t 5)),zT 138 140 (.bin .add none (.t 139) (.c (.int .i64 1))),zT 138 141 (.mv (.t 14)),zT 138 142 (.bin .gtr none (.t 140) (.t 141)),zA 143 (.pick (.t 138) (.t 142) (.c (.bool false)))] false [3,4,5,7,13,14,143] [3,4,7]) (.cond (.t 143) (.reg [zM 144 5,zA 145 (.bin .add none (.t 144) (.c (.int .i64 1))),zM 14 145] false [3,4,7,13,14] [3,4,7]) .skip)) ic21_9)
def ic21_11 : IC := (.seq (.seq (.reg [zM 130 13,zA 131 (.bin .lss none (.t 130) (.c (.int .i64 0)))] false [3,4,5,6,7,13,14,131] [3,4,7]) (.cond (.t 131) (.reg [zI 13 0] false [3,4,5,6,7,13,14] [3,4,7]) .skip)) ic21_10)
def ic21_12 : IC := (.seq (.seq (.reg [zG 118 2 3,zL 119 118,zA 120 (.neg (.t 119)),zM 121 13,zA 122 (.bin .gtr none (.t 120) (.t 121)),zM 123 122,zT 123 124 (.mv (.t 6)),zT 123 125 (.not (.t 124)),zA 126 (.pick (.t 123) (.t 125) (.c (.bool false)))] false [3,4,5,6,7,13,14,126] [3,4,7]) (.cond (.t 126) (.reg [zG 127 2 3,zL 128 127,zA 129 (.neg (.t 128)),zM 13 129] false [3,4,5,6,7,13,14] [3,4,7]) .skip)) ic21_11)
def ic21_13 : IC := (.seq (.reg [zG 106 7 2,zL 107 106,zM 13 107] false [2,3,4,5,6,7,13] [2,3,4,7]) (.seq (.reg [zG 108 5 2,zL 109 108,zM 14 109] false [2,3,4,5,6,7,13,14] [2,3,4,7]) (.seq (.seq (.reg [zG 110 9 2,zL 111 110,zA 112 (.bin .gtr none (.t 111) (.c (.int .i64 0)))] false [2,3,4,5,6,7,13,14,112] [2,3,4,7]) (.cond (.t 112) (.reg [zG 113 9 2,zL 114 113,zA 115 (.bin .sub none (.t 114) (.c (.int .i64 1))),zM 116 5,zA 117 (.bin .sub none (.t 115) (.t 116)),zM 13 117,zI 14 1] false [3,4,5,6,7,13,14] [3,4,7]) .skip)) ic21_12)))
def ic21 : IC := (.seq (.reg [zA 2 (.box 26 (.t 0)),zA 3 (.box 23 (.t 1)),zA 4 (.alloc 39 [(.bool false),(.str []),(.str []),(.int .i64 0)])] false [2,3,4] [2,3,4]) (.seq (.reg [zK 15 3 3,zC 16 50 15,zS 3 3 16] false [2,3,4] [2,3,4]) (.seq (.reg [zK 17 3 3,zC 18 51 17,zM 5 18] false [2,3,4,5] [2,3,4]) (.seq (.reg [zG 19 1 3,zL 20 19,zA 21 (.bin .eql none (.t 20) (.c (.str [48]))),zM 6 21] false [2,3,4,5,6] [2,3,4]) (.seq (.reg [zG 22 0 3,zL 23 22,zA 24 (.build [(.bool false),(.str []),(.str []),(.int .i64 0)] [(0,(1,(.t 23)))]),zA 7 (.alloc 39 [(.bool false),(.str []),(.str []),(.int .i64 0)]),zS 4 7 24] false [2,3,4,5,6,7] [2,3,4,7]) (.seq (.seq (.reg [zG 25 14 2,zL 26 25] false [2,3,4,5,6,7,26] [2,3,4,7]) (.cond (.t 26) (.seq (.reg [zK 27 20 2,zC 28 29 27,zM 8 28] false [2,3,4,5,6,7,8] [2,3,4,7]) (.seq (.seq (.reg [zM 29 6,zA 30 (.not (.t 29))] false [2,3,4,5,6,7,8,30] [2,3,4,7]) (.cond (.t 30) (.reg [zM 31 5,zM 32 8,zA 33 (.bin .sub none (.t 31) (.t 32)),zA 34 (.bin .add none (.t 33) (.c (.int .i64 1))),zG 35 3 7,zS 1 35 34] false [2,3,4,5,6,7,8] [2,3,4,7]) .skip)) ic21_7)) .skip)) ic21_13))))))
def kp21 : List (Nat × Keep) := [(0, ⟨[2, 3, 4], [2, 3, 4], []⟩),
  (1, ⟨[2, 3, 4], [2, 3, 4], []⟩),
  (2, ⟨[2, 3, 4, 5], [2, 3, 4], []⟩),
  (3, ⟨[2, 3, 4, 5, 6], [2, 3, 4], []⟩),
  (4, ⟨[2, 3, 4, 5, 6, 7], [2, 3, 4, 7], []⟩),
  (5, ⟨[2, 3, 4, 5, 6, 7, 26], [2, 3, 4, 7], []⟩),
  (6, ⟨[2, 3, 4, 5, 6, 7, 8], [2, 3, 4, 7], []⟩),
  (7, ⟨[2, 3, 4, 5, 6, 7, 8, 30], [2, 3, 4, 7], []⟩),
  (8, ⟨[2, 3, 4, 5, 6, 7, 8], [2, 3, 4, 7], []⟩),
  (9, ⟨[2, 3, 4, 5, 6, 7, 8, 37], [2, 3, 4, 7], []⟩),
  (10, ⟨[2, 3, 4, 5, 6, 7, 8], [2, 3, 4, 7], []⟩),
  (11, ⟨[2, 3, 4, 5, 6, 7, 8, 39], [2, 3, 4, 7], []⟩),
  (12, ⟨[2, 3, 4, 5, 6, 7], [2, 3, 4, 7], []⟩),
  (13, ⟨[2, 3, 4, 5, 6, 7, 47], [2, 3, 4, 7], []⟩),
  (14, ⟨[2, 3, 4, 5, 6, 7], [2, 3, 4, 7], []⟩),
  (15, ⟨[2, 3, 4, 6, 7, 8], [2, 3, 4, 7], []⟩),
  (16, ⟨[3, 4, 6, 7, 8, 9], [3, 4, 7], []⟩),
  (17, ⟨[3, 4, 6, 7, 8, 11], [3, 4, 7], []⟩),
  (18, ⟨[3, 4, 6, 7, 8, 11, 12], [3, 4, 7], []⟩),
  (19, ⟨[3, 4, 7, 8, 11, 12, 76], [3, 4, 7], []⟩),
  (20, ⟨[3, 4, 7, 8, 11], [3, 4, 7], []⟩),
  (21, ⟨[4, 7], [4, 7], []⟩),
  (22, ⟨[4, 7, 103], [4, 7], []⟩),
  (23, ⟨[4, 7], [4, 7], []⟩),
  (24, ⟨[4], [4], []⟩),
  (25, ⟨[2, 3, 4, 5, 6, 7, 13], [2, 3, 4, 7], []⟩),
  (26, ⟨[2, 3, 4, 5, 6, 7, 13, 14], [2, 3, 4, 7], []⟩),
  (27, ⟨[2, 3, 4, 5, 6, 7, 13, 14, 112], [2, 3, 4, 7], []⟩),
  (28, ⟨[3, 4, 5, 6, 7, 13, 14], [3, 4, 7], []⟩),
  (29, ⟨[3, 4, 5, 6, 7, 13, 14, 126], [3, 4, 7], []⟩),
  (30, ⟨[3, 4, 5, 6, 7, 13, 14], [3, 4, 7], []⟩),
  (31, ⟨[3, 4, 5, 6, 7, 13, 14, 131], [3, 4, 7], []⟩),
  (32, ⟨[3, 4, 5, 6, 7, 13, 14], [3, 4, 7], []⟩),
  (33, ⟨[3, 4, 5, 7, 13, 14, 143], [3, 4, 7], []⟩),
  (34, ⟨[3, 4, 7, 13, 14], [3, 4, 7], []⟩),
  (35, ⟨[3, 4, 7, 13, 14, 149], [3, 4, 7], []⟩),
  (36, ⟨[3, 4, 7, 13, 14], [3, 4, 7], []⟩),
  (37, ⟨[4, 7], [4, 7], []⟩),
  (38, ⟨[4], [4], []⟩)]
theorem c21 : (Tryz.f21.body.bind fun c => compC Tryz.prog 161 [] kp21 c) = some ic21 := by kernel_rfl
theorem e21 {args : List AV} {r : AV} (ha : args.length ≤ 161) (h : VC e0 ic21 (retQ [(4, (some (some 4)))] r) ⟨argT 0 args, []⟩) : Fn 21 args r := fn_of Tryz.func21 rfl (by kernel_rfl) c21 ha (by decide) h
def ic22 : IC := (.seq (.reg [zA 2 (.box 23 (.t 0)),zA 4 (.alloc 23 [(.bool false),(.str []),(.int .i64 0)])] false [1,2,4] [2,4]) (.seq (.reg [zG 5 2 2,zL 6 5,zM 7 1,zA 8 (.bin .add none (.t 6) (.t 7)),zG 9 2 2,zS 1 9 8] false [2,4] [2,4]) (.seq (.reg [zK 10 3 2,zC 11 50 10,zS 3 4 11] false [4] [4]) .ret)))
def kp22 : List (Nat × Keep) := [(0, ⟨[1, 2, 4], [2, 4], []⟩),
  (1, ⟨[2, 4], [2, 4], []⟩),
  (2, ⟨[4], [4], []⟩)]
theorem c22 : (Tryz.f22.body.bind fun c => compC Tryz.prog 12 [] kp22 c) = some ic22 := by kernel_rfl
theorem e22 {args : List AV} {r : AV} (ha : args.length ≤ 12) (h : VC e0 ic22 (retQ [(4, (some (some 3)))] r) ⟨argT 0 args, []⟩) : Fn 22 args r := fn_of Tryz.func22 rfl (by kernel_rfl) c22 ha (by decide) h
def ic25_1 : IC := (.seq (.reg [zK 12 20 1,zC 13 29 12,zM 4 13] false [1,4] [1]) (.seq (.reg [zM 14 4,zG 15 7 1,zL 16 15,zA 17 (.bin .add none (.t 14) (.t 16)),zM 18 4,zG 19 8 1,zL 20 19,zA 21 (.bin .add none (.t 18) (.t 20)),zM 2 17,zM 3 21] true [2,3] []) .ret))
def ic25 : IC := (.seq (.reg [zA 1 (.box 26 (.t 0)),zI 2 0,zI 3 0] false [1] [1]) (.seq (.seq (.reg [zG 5 9 1,zL 6 5,zA 7 (.bin .gtr none (.t 6) (.c (.int .i64 0)))] false [1,7] [1]) (.cond (.t 7) (.seq (.reg [zG 8 9 1,zL 9 8,zG 10 10 1,zL 11 10,zM 2 9,zM 3 11] true [2,3] []) .ret) .skip)) ic25_1))
def kp25 : List (Nat × Keep) := [(0, ⟨[1], [1], []⟩),
  (1, ⟨[1, 7], [1], []⟩),
  (2, ⟨[2, 3], [], []⟩),
  (3, ⟨[1, 4], [1], []⟩),
  (4, ⟨[2, 3], [], []⟩)]
theorem c25 : (Tryz.f25.body.bind fun c => compC Tryz.prog 22 [] kp25 c) = some ic25 := by kernel_rfl
theorem e25 {args : List AV} {r : AV} (ha : args.length ≤ 22) (h : VC e0 ic25 (retQ [(2, none), (3, none)] r) ⟨argT 0 args, []⟩) : Fn 25 args r := fn_of Tryz.func25 rfl (by kernel_rfl) c25 ha (by decide) h
def ic27 : IC := (.seq (.reg [zA 1 (.box 26 (.t 0)),zA 2 (.mv (.c (.bool false)))] false [1] [1]) (.seq (.reg [zG 3 14 1,zL 4 3,zM 5 4,zT 5 6 (.fa 6 none (.t 1)),zT 5 7 (.ld none (.t 6)),zT 5 8 (.fa 5 none (.t 1)),zT 5 9 (.ld none (.t 8)),zT 5 10 (.bin .gtr none (.t 7) (.t 9)),zA 11 (.pick (.t 5) (.t 10) (.c (.bool false))),zM 12 11,zT 12 13 (.fa 6 none (.t 1)),zT 12 14 (.ld none (.t 13)),zT 12 15 (.bin .gtr none (.t 14) (.c (.int .i64 1))),zA 16 (.pick (.t 12) (.t 15) (.c (.bool false))),zM 2 16] false [2] []) .ret))
def kp27 : List (Nat × Keep) := [(0, ⟨[1], [1], []⟩),
  (1, ⟨[2], [], []⟩)]
theorem c27 : (Tryz.f27.body.bind fun c => compC Tryz.prog 17 [] kp27 c) = some ic27 := by kernel_rfl
theorem e27 {args : List AV} {r : AV} (ha : args.length ≤ 17) (h : VC e0 ic27 (retQ [(2, none)] r) ⟨argT 0 args, []⟩) : Fn 27 args r := fn_of Tryz.func27 rfl (by kernel_rfl) c27 ha (by decide) h
def ic28 : IC := (.seq (.reg [zA 6 (.alloc 23 [(.bool false),(.str []),(.int .i64 0)])] false [0,1,2,6] [6]) (.seq (.reg [zM 7 0,zM 8 1,zA 9 (.bin .add none (.c (.str [48])) (.t 8)),zM 10 2,zA 11 (.build [(.bool false),(.str []),(.int .i64 0)] [(0,(1,(.t 7))),(1,(1,(.t 9))),(2,(1,(.t 10)))]),zC 12 50 11,zS 3 6 12] false [6] [6]) .ret))
def kp28 : List (Nat × Keep) := [(0, ⟨[0, 1, 2, 6], [6], []⟩),
  (1, ⟨[6], [6], []⟩)]
theorem c28 : (Tryz.f28.body.bind fun c => compC Tryz.prog 13 [] kp28 c) = some ic28 := by kernel_rfl
theorem e28 {args : List AV} {r : AV} (ha : args.length ≤ 13) (h : VC e0 ic28 (retQ [(6, (some (some 3)))] r) ⟨argT 0 args, []⟩) : Fn 28 args r := fn_of Tryz.func28 rfl (by kernel_rfl) c28 ha (by decide) h
def ic29_1 : IC := (.seq (.reg [zG 25 5 1,zL 26 25,zM 2 26] false [2] []) .ret)
def ic29 : IC := (.seq (.reg [zA 1 (.box 26 (.t 0)),zI 2 0] false [1] [1]) (.seq (.seq (.reg [zG 3 9 1,zL 4 3,zA 5 (.bin .gtr none (.t 4) (.c (.int .i64 0))),zM 6 5,zF 6 7 (.ld (some 20) (.t 1)),zF 6 8 (.call 27 [(.t 7,none)]),zF 6 9 (.mv (.t 8)),zT 9 10 (.fa 5 none (.t 1)),zT 9 11 (.ld none (.t 10)),zT 9 12 (.bin .eql none (.t 11) (.c (.int .i64 0))),zF 6 13 (.pick (.t 9) (.t 12) (.c (.bool false))),zA 14 (.pick (.t 6) (.c (.bool true)) (.t 13)),zM 15 14,zF 15 16 (.fa 5 none (.t 1)),zF 15 17 (.ld none (.t 16)),zF 15 18 (.bin .eql none (.t 17) (.c (.int .i64 0))),zF 15 19 (.mv (.t 18)),zT 19 20 (.fa 8 none (.t 1)),zT 19 21 (.ld none (.t 20)),zT 19 22 (.bin .eql none (.t 21) (.c (.int .i64 0))),zF 15 23 (.pick (.t 19) (.t 22) (.c (.bool false))),zA 24 (.pick (.t 15) (.c (.bool true)) (.t 23))] false [1,24] [1]) (.cond (.t 24) (.seq (.reg [zI 2 1] false [2] []) .ret) .skip)) ic29_1))
def kp29 : List (Nat × Keep) := [(0, ⟨[1], [1], []⟩),
  (1, ⟨[1, 24], [1], []⟩),
  (2, ⟨[2], [], []⟩),
  (3, ⟨[2], [], []⟩)]
theorem c29 : (Tryz.f29.body.bind fun c => compC Tryz.prog 27 [] kp29 c) = some ic29 := by kernel_rfl
theorem e29 {args : List AV} {r : AV} (ha : args.length ≤ 27) (h : VC e0 ic29 (retQ [(2, none)] r) ⟨argT 0 args, []⟩) : Fn 29 args r := fn_of Tryz.func29 rfl (by kernel_rfl) c29 ha (by decide) h
def ic32 : IC := (.seq (.reg [zA 1 (.box 23 (.t 0)),zA 2 (.mv (.c (.bool false)))] false [1] [1]) (.seq (.reg [zG 3 1 1,zL 4 3,zC 5 58 4,zM 6 5,zT 6 7 (.fa 1 none (.t 1)),zT 6 8 (.ld none (.t 7)),zT 6 9 (.len true (.t 8)),zT 6 10 (.bin .leq none (.t 9) (.c (.int .i64 1000))),zA 11 (.pick (.t 6) (.t 10) (.c (.bool false))),zM 12 11,zT 12 13 (.fa 2 none (.t 1)),zT 12 14 (.ld none (.t 13)),zT 12 15 (.bin .geq none (.t 14) (.c (.int .i64 (-1000)))),zA 16 (.pick (.t 12) (.t 15) (.c (.bool false))),zM 17 16,zT 17 18 (.fa 2 none (.t 1)),zT 17 19 (.ld none (.t 18)),zT 17 20 (.bin .leq none (.t 19) (.c (.int .i64 1000))),zA 21 (.pick (.t 17) (.t 20) (.c (.bool false))),zM 2 21] false [2] []) .ret))
def kp32 : List (Nat × Keep) := [(0, ⟨[1], [1], []⟩),
  (1, ⟨[2], [], []⟩)]
theorem c32 : (Tryz.f32.body.bind fun c => compC Tryz.prog 22 [] kp32 c) = some ic32 := by kernel_rfl
theorem e32 {args : List AV} {r : AV} (ha : args.length ≤ 22) (h : VC e0 ic32 (retQ [(2, none)] r) ⟨argT 0 args, []⟩) : Fn 32 args r := fn_of Tryz.func32 rfl (by kernel_rfl) c32 ha (by decide) h
def ic33 : IC := (.seq (.reg [zA 1 (.box 23 (.t 0)),zA 2 (.mv (.c (.bool false)))] false [1] [1]) (.seq (.reg [zK 4 3 1,zC 5 50 4,zA 3 (.alloc 23 [(.bool false),(.str []),(.int .i64 0)]),zS 3 3 5] false [3] [3]) (.seq (.reg [zG 6 1 3,zL 7 6,zA 8 (.bin .eql none (.t 7) (.c (.str [48]))),zM 9 8,zF 9 10 (.fa 2 none (.t 3)),zF 9 11 (.ld none (.t 10)),zF 9 12 (.bin .geq none (.t 11) (.c (.int .i64 (-300)))),zF 9 13 (.mv (.t 12)),zT 13 14 (.fa 2 none (.t 3)),zT 13 15 (.ld none (.t 14)),zT 13 16 (.fa 1 none (.t 3)),zT 13 17 (.ld none (.t 16)),zT 13 18 (.len true (.t 17)),zT 13 19 (.bin .add none (.t 15) (.t 18)),zT 13 20 (.bin .leq none (.t 19) (.c (.int .i64 300))),zF 9 21 (.pick (.t 13) (.t 20) (.c (.bool false))),zA 22 (.pick (.t 9) (.c (.bool true)) (.t 21)),zM 2 22] false [2] []) .ret)))
def kp33 : List (Nat × Keep) := [(0, ⟨[1], [1], []⟩),
  (1, ⟨[3], [3], []⟩),
  (2, ⟨[2], [], []⟩)]
theorem c33 : (Tryz.f33.body.bind fun c => compC Tryz.prog 23 [] kp33 c) = some ic33 := by kernel_rfl
theorem e33 {args : List AV} {r : AV} (ha : args.length ≤ 23) (h : VC e0 ic33 (retQ [(2, none)] r) ⟨argT 0 args, []⟩) : Fn 33 args r := fn_of Tryz.func33 rfl (by kernel_rfl) c33 ha (by decide) h
def ic34_1 : IC := (.seq (.reg [zM 11 5,zG 12 2 2,zL 13 12,zM 14 1,zA 15 (.bin .sub none (.t 13) (.t 14)),zC 16 60 15,zA 17 (.bin .add none (.t 11) (.t 16)),zM 4 17] false [4] []) .ret)
def ic34 : IC := (.seq (.reg [zA 2 (.box 23 (.t 0)),zA 4 (.mv (.c (.str [])))] false [1,2] [2]) (.seq (.reg [zG 6 1 2,zL 7 6,zC 8 59 7,zM 5 8] false [1,2,5] [2]) (.seq (.seq (.reg [zM 9 5,zA 10 (.bin .eql none (.t 9) (.c (.str [])))] false [1,2,5,10] [2]) (.cond (.t 10) (.seq (.reg [zA 4 (.mv (.c (.str [])))] false [4] []) .ret) .skip)) ic34_1)))
def kp34 : List (Nat × Keep) := [(0, ⟨[1, 2], [2], []⟩),
  (1, ⟨[1, 2, 5], [2], []⟩),
  (2, ⟨[1, 2, 5, 10], [2], []⟩),
  (3, ⟨[4], [], []⟩),
  (4, ⟨[4], [], []⟩)]
theorem c34 : (Tryz.f34.body.bind fun c => compC Tryz.prog 18 [] kp34 c) = some ic34 := by kernel_rfl
theorem e34 {args : List AV} {r : AV} (ha : args.length ≤ 18) (h : VC e0 ic34 (retQ [(4, none)] r) ⟨argT 0 args, []⟩) : Fn 34 args r := fn_of Tryz.func34 rfl (by kernel_rfl) c34 ha (by decide) h
def ic35_1 : IC := (.seq (.reg [zM 15 0,zM 16 1,zA 17 (.bin .lss none (.t 15) (.t 16)),zM 4 17] false [4] []) .ret)
def ic35 : IC := (.seq (.reg [zA 4 (.mv (.c (.bool false)))] false [0,1] []) (.seq (.seq (.reg [zM 5 0,zA 6 (.len true (.t 5)),zM 7 1,zA 8 (.len true (.t 7)),zA 9 (.bin .neq none (.t 6) (.t 8))] false [0,1,9] []) (.cond (.t 9) (.seq (.reg [zM 10 0,zA 11 (.len true (.t 10)),zM 12 1,zA 13 (.len true (.t 12)),zA 14 (.bin .lss none (.t 11) (.t 13)),zM 4 14] false [4] []) .ret) .skip)) ic35_1))
def kp35 : List (Nat × Keep) := [(0, ⟨[0, 1], [], []⟩),
  (1, ⟨[0, 1, 9], [], []⟩),
  (2, ⟨[4], [], []⟩),
  (3, ⟨[4], [], []⟩)]
theorem c35 : (Tryz.f35.body.bind fun c => compC Tryz.prog 18 [] kp35 c) = some ic35 := by kernel_rfl
theorem e35 {args : List AV} {r : AV} (ha : args.length ≤ 18) (h : VC e0 ic35 (retQ [(4, none)] r) ⟨argT 0 args, []⟩) : Fn 35 args r := fn_of Tryz.func35 rfl (by kernel_rfl) c35 ha (by decide) h
def ic47_1 : IC := (.seq (.reg [zM 45 1,zK 46 3 5,zG 47 8 3,zL 48 47,zA 49 (.neg (.t 48)),zA 50 (.call 79 [(.t 45,none),(.t 46,none),((.c (.str [49])),none),(.t 49,none)]),zE 51 50 0,zE 52 50 1,zS 3 6 51,zM 7 52] false [6,7] [6]) .ret)
def ic47_2 : IC := (.seq (.seq (.reg [zG 32 13 3,zL 33 32,zA 34 (.bin .neq none (.t 33) (.c (.str [])))] false [1,3,5,6,34] [3,5,6]) (.cond (.t 34) (.seq (.reg [zM 35 1,zK 36 3 5,zG 37 13 3,zL 38 37,zG 39 8 3,zL 40 39,zA 41 (.neg (.t 40)),zA 42 (.call 79 [(.t 35,none),(.t 36,none),(.t 38,none),(.t 41,none)]),zE 43 42 0,zE 44 42 1,zS 3 6 43,zM 7 44] false [6,7] [6]) .ret) .skip)) ic47_1)
def ic47 : IC := (.seq (.reg [zA 3 (.box 26 (.t 0)),zA 5 (.box 23 (.t 2)),zA 6 (.alloc 23 [(.bool false),(.str []),(.int .i64 0)]),zI 7 0] false [1,3,5,6] [3,5,6]) (.seq (.seq (.reg [zG 10 14 3,zL 11 10,zM 12 11,zF 12 13 (.fa 9 none (.t 3)),zF 12 14 (.ld none (.t 13)),zF 12 15 (.bin .gtr none (.t 14) (.c (.int .i64 0))),zA 16 (.pick (.t 12) (.c (.bool true)) (.t 15))] false [1,3,5,6,16] [3,5,6]) (.cond (.t 16) (.seq (.reg [zK 18 20 3,zC 19 25 18,zM 17 19,zE 20 17 0,zE 21 17 1,zM 8 20,zM 9 21] false [1,5,6,9] [5,6]) (.seq (.reg [zM 22 1,zK 23 3 5,zK 24 3 5,zC 25 51 24,zM 26 9,zA 27 (.bin .sub none (.t 25) (.t 26)),zA 28 (.bin .add none (.t 27) (.c (.int .i64 1))),zA 29 (.call 79 [(.t 22,none),(.t 23,none),((.c (.str [49])),none),(.t 28,none)]),zE 30 29 0,zE 31 29 1,zS 3 6 30,zM 7 31] true [6,7] [6]) .ret)) .skip)) ic47_2))
def kp47 : List (Nat × Keep) := [(0, ⟨[1, 3, 5, 6], [3, 5, 6], []⟩),
  (1, ⟨[1, 3, 5, 6, 16], [3, 5, 6], []⟩),
  (2, ⟨[1, 5, 6, 9], [5, 6], []⟩),
  (3, ⟨[6, 7], [6], []⟩),
  (4, ⟨[1, 3, 5, 6, 34], [3, 5, 6], []⟩),
  (5, ⟨[6, 7], [6], []⟩),
  (6, ⟨[6, 7], [6], []⟩)]
theorem c47 : (Tryz.f47.body.bind fun c => compC Tryz.prog 53 [] kp47 c) = some ic47 := by kernel_rfl
theorem e47 {args : List AV} {r : AV} (ha : args.length ≤ 53) (h : VC e0 ic47 (retQ [(6, (some (some 3))), (7, none)] r) ⟨argT 0 args, []⟩) : Fn 47 args r := fn_of Tryz.func47 rfl (by kernel_rfl) c47 ha (by decide) h
def ic50_1 : IC := (.block 1 (.reg [zM 21 3,zM 22 3,zA 23 (.len true (.t 22)),zA 24 (.bin .sub none (.t 23) (.c (.int .i64 1))),zA 25 (.ss (.t 21) none (some (.t 24))),zM 26 4,zA 27 (.bin .add none (.t 26) (.c (.int .i64 1))),zM 3 25,zM 4 27] false [1,2,3,4] [1,2]))
def ic50_2 : IC := (.seq (.seq (.reg [zM 15 3,zM 16 3,zA 17 (.len true (.t 16)),zA 18 (.bin .sub none (.t 17) (.c (.int .i64 1))),zA 19 (.ix (.t 15) (.t 18)),zA 20 (.bin .eql none (.t 19) (.c (.int .u8 48)))] false [1,2,3,4,20] [1,2]) (.cond (.t 20) .skip (.exit 0))) ic50_1)
def ic50_3 : IC := (.seq (.reg [zG 28 0 1,zL 29 28,zM 30 3,zM 31 4,zA 32 (.build [(.bool false),(.str []),(.int .i64 0)] [(0,(1,(.t 29))),(1,(1,(.t 30))),(2,(1,(.t 31)))]),zS 3 2 32] false [2] [2]) .ret)
def ic50_4 : IC := (.seq (.reg [zG 13 2 1,zL 14 13,zM 4 14] false [1,2,3,4] [1,2]) (.seq (.block 0 (.loop ic50_2)) ic50_3))
def ic50 : IC := (.seq (.reg [zA 1 (.box 23 (.t 0)),zA 2 (.alloc 23 [(.bool false),(.str []),(.int .i64 0)])] false [1,2] [1,2]) (.seq (.reg [zG 5 1 1,zL 6 5,zC 7 59 6,zM 3 7] false [1,2,3] [1,2]) (.seq (.seq (.reg [zM 8 3,zA 9 (.bin .eql none (.t 8) (.c (.str [])))] false [1,2,3,9] [1,2]) (.cond (.t 9) (.seq (.reg [zG 10 0 1,zL 11 10,zA 12 (.build [(.bool false),(.str []),(.int .i64 0)] [(0,(1,(.t 11))),(1,(1,(.c (.str [48]))))]),zS 3 2 12] false [2] [2]) .ret) .skip)) ic50_4)))
def kp50 : List (Nat × Keep) := [(0, ⟨[1, 2], [1, 2], []⟩),
  (1, ⟨[1, 2, 3], [1, 2], []⟩),
  (2, ⟨[1, 2, 3, 9], [1, 2], []⟩),
  (3, ⟨[2], [2], []⟩),
  (4, ⟨[1, 2, 3, 4], [1, 2], []⟩),
  (5, ⟨[1, 2, 3, 4, 20], [1, 2], []⟩),
  (6, ⟨[1, 2, 3, 4], [1, 2], []⟩),
  (7, ⟨[2], [2], []⟩)]
theorem c50 : (Tryz.f50.body.bind fun c => compC Tryz.prog 33 [] kp50 c) = some ic50 := by kernel_rfl
theorem e50 {args : List AV} {r : AV} (ha : args.length ≤ 33) (h : VC e0 ic50 (retQ [(2, (some (some 3)))] r) ⟨argT 0 args, []⟩) : Fn 50 args r := fn_of Tryz.func50 rfl (by kernel_rfl) c50 ha (by decide) h
def ic51_1 : IC := (.seq (.reg [zG 9 2 1,zL 10 9,zM 11 3,zA 12 (.len true (.t 11)),zA 13 (.bin .add none (.t 10) (.t 12)),zA 14 (.bin .sub none (.t 13) (.c (.int .i64 1))),zM 2 14] false [2] []) .ret)
def ic51 : IC := (.seq (.reg [zA 1 (.box 23 (.t 0)),zI 2 0] false [1] [1]) (.seq (.reg [zG 4 1 1,zL 5 4,zC 6 59 5,zM 3 6] false [1,3] [1]) (.seq (.seq (.reg [zM 7 3,zA 8 (.bin .eql none (.t 7) (.c (.str [])))] false [1,3,8] [1]) (.cond (.t 8) (.seq (.reg [zI 2 0] false [2] []) .ret) .skip)) ic51_1)))
def kp51 : List (Nat × Keep) := [(0, ⟨[1], [1], []⟩),
  (1, ⟨[1, 3], [1], []⟩),
  (2, ⟨[1, 3, 8], [1], []⟩),
  (3, ⟨[2], [], []⟩),
  (4, ⟨[2], [], []⟩)]
theorem c51 : (Tryz.f51.body.bind fun c => compC Tryz.prog 15 [] kp51 c) = some ic51 := by kernel_rfl
theorem e51 {args : List AV} {r : AV} (ha : args.length ≤ 15) (h : VC e0 ic51 (retQ [(2, none)] r) ⟨argT 0 args, []⟩) : Fn 51 args r := fn_of Tryz.func51 rfl (by kernel_rfl) c51 ha (by decide) h
def ic52_1 : IC := (.seq (.block 1 (.reg [zM 15 7,zK 16 3 3,zM 17 8,zY 18 84 16 17,zA 19 (.bin .add none (.t 15) (.t 18)),zM 7 19] false [2,3,7,8] [3])) (.reg [zM 13 8,zA 14 (.bin .sub none (.t 13) (.c (.int .i64 1))),zM 8 14] false [2,3,7,8] [3]))
def ic52_2 : IC := (.seq (.seq (.reg [zM 10 8,zM 11 2,zA 12 (.bin .geq none (.t 10) (.t 11))] false [2,3,7,8,12] [3]) (.cond (.t 12) .skip (.exit 0))) ic52_1)
def ic52_3 : IC := (.seq (.reg [zM 20 7,zM 6 20] false [6] []) .ret)
def ic52 : IC := (.seq (.reg [zA 3 (.box 23 (.t 0)),zA 6 (.mv (.c (.str [])))] false [1,2,3] [3]) (.seq (.reg [zA 7 (.mv (.c (.str [])))] false [1,2,3,7] [3]) (.seq (.seq (.reg [zM 9 1,zM 8 9] false [2,3,7,8] [3]) (.block 0 (.loop ic52_2))) ic52_3)))
def kp52 : List (Nat × Keep) := [(0, ⟨[1, 2, 3], [3], []⟩),
  (1, ⟨[1, 2, 3, 7], [3], []⟩),
  (2, ⟨[2, 3, 7, 8], [3], []⟩),
  (3, ⟨[2, 3, 7, 8, 12], [3], []⟩),
  (4, ⟨[2, 3, 7, 8], [3], []⟩),
  (5, ⟨[2, 3, 7, 8], [3], []⟩),
  (6, ⟨[6], [], []⟩)]
theorem c52 : (Tryz.f52.body.bind fun c => compC Tryz.prog 21 [] kp52 c) = some ic52 := by kernel_rfl
theorem e52 {args : List AV} {r : AV} (ha : args.length ≤ 21) (h : VC e0 ic52 (retQ [(6, none)] r) ⟨argT 0 args, []⟩) : Fn 52 args r := fn_of Tryz.func52 rfl (by kernel_rfl) c52 ha (by decide) h
def ic58_1 : IC := (.reg [zM 8 3,zA 9 (.bin .add none (.t 8) (.c (.int .i64 1))),zM 3 9] false [0,3] [])
def ic58_2 : IC := (.seq (.block 1 (.seq (.reg [zM 10 0,zM 11 3,zA 12 (.ix (.t 10) (.t 11)),zA 13 (.bin .lss none (.t 12) (.c (.int .u8 48))),zM 14 13,zF 14 15 (.mv (.t 0)),zF 14 16 (.mv (.t 3)),zF 14 17 (.ix (.t 15) (.t 16)),zF 14 18 (.bin .gtr none (.t 17) (.c (.int .u8 57))),zA 19 (.pick (.t 14) (.c (.bool true)) (.t 18))] false [0,3,19] []) (.cond (.t 19) (.seq (.reg [zA 2 (.mv (.c (.bool false)))] false [2] []) .ret) .skip))) ic58_1)
def ic58_3 : IC := (.seq (.seq (.reg [zM 4 3,zM 5 0,zA 6 (.len true (.t 5)),zA 7 (.bin .lss none (.t 4) (.t 6))] false [0,3,7] []) (.cond (.t 7) .skip (.exit 0))) ic58_2)
def ic58_4 : IC := (.seq (.reg [zM 20 0,zA 21 (.bin .neq none (.t 20) (.c (.str []))),zM 2 21] false [2] []) .ret)
def ic58 : IC := (.seq (.reg [zA 2 (.mv (.c (.bool false)))] false [0] []) (.seq (.seq (.reg [zI 3 0] false [0,3] []) (.block 0 (.loop ic58_3))) ic58_4))
def kp58 : List (Nat × Keep) := [(0, ⟨[0], [], []⟩),
  (1, ⟨[0, 3], [], []⟩),
  (2, ⟨[0, 3, 7], [], []⟩),
  (3, ⟨[0, 3], [], []⟩),
  (4, ⟨[0, 3, 19], [], []⟩),
  (5, ⟨[2], [], []⟩),
  (6, ⟨[2], [], []⟩)]
theorem c58 : (Tryz.f58.body.bind fun c => compC Tryz.prog 22 [] kp58 c) = some ic58 := by kernel_rfl
theorem e58 {args : List AV} {r : AV} (ha : args.length ≤ 22) (h : VC e0 ic58 (retQ [(2, none)] r) ⟨argT 0 args, []⟩) : Fn 58 args r := fn_of Tryz.func58 rfl (by kernel_rfl) c58 ha (by decide) h
def ic59_1 : IC := (.block 1 (.reg [zM 14 3,zA 15 (.bin .add none (.t 14) (.c (.int .i64 1))),zM 3 15] false [0,3] []))
def ic59_2 : IC := (.seq (.seq (.reg [zM 4 3,zM 5 0,zA 6 (.len true (.t 5)),zA 7 (.bin .lss none (.t 4) (.t 6)),zM 8 7,zT 8 9 (.mv (.t 0)),zT 8 10 (.mv (.t 3)),zT 8 11 (.ix (.t 9) (.t 10)),zT 8 12 (.bin .eql none (.t 11) (.c (.int .u8 48))),zA 13 (.pick (.t 8) (.t 12) (.c (.bool false)))] false [0,3,13] []) (.cond (.t 13) .skip (.exit 0))) ic59_1)
def ic59_3 : IC := (.seq (.reg [zM 16 0,zM 17 3,zA 18 (.ss (.t 16) (some (.t 17)) none),zM 2 18] false [2] []) .ret)
def ic59 : IC := (.seq (.reg [zA 2 (.mv (.c (.str [])))] false [0] []) (.seq (.reg [zI 3 0] false [0,3] []) (.seq (.block 0 (.loop ic59_2)) ic59_3)))
def kp59 : List (Nat × Keep) := [(0, ⟨[0], [], []⟩),
  (1, ⟨[0, 3], [], []⟩),
  (2, ⟨[0, 3, 13], [], []⟩),
  (3, ⟨[0, 3], [], []⟩),
  (4, ⟨[2], [], []⟩)]
theorem c59 : (Tryz.f59.body.bind fun c => compC Tryz.prog 19 [] kp59 c) = some ic59 := by kernel_rfl
theorem e59 {args : List AV} {r : AV} (ha : args.length ≤ 19) (h : VC e0 ic59 (retQ [(2, none)] r) ⟨argT 0 args, []⟩) : Fn 59 args r := fn_of Tryz.func59 rfl (by kernel_rfl) c59 ha (by decide) h
def ic60_1 : IC := (.seq (.block 1 (.reg [zM 10 3,zA 11 (.lit false 5 1 [(.c (.int .u8 48))]),zA 12 (.app 5 1 1 (.t 10) (.t 11)),zM 3 12] false [0,3,4] [12])) (.reg [zM 8 4,zA 9 (.bin .add none (.t 8) (.c (.int .i64 1))),zM 4 9] false [0,3,4] [12]))
def ic60_2 : IC := (.seq (.seq (.reg [zM 5 4,zM 6 0,zA 7 (.bin .lss none (.t 5) (.t 6))] false [0,3,4,7] [12]) (.cond (.t 7) .skip (.exit 0))) ic60_1)
def ic60_3 : IC := (.seq (.reg [zM 13 3,zA 14 (.b2s (.t 13)),zM 2 14] false [2] []) .ret)
def ic60 : IC := (.seq (.reg [zA 2 (.mv (.c (.str [])))] false [0] []) (.seq (.reg [zA 3 (.mv (.c .nil))] false [0,3] [12]) (.seq (.seq (.reg [zI 4 0] false [0,3,4] [12]) (.block 0 (.loop ic60_2))) ic60_3)))
def kp60 : List (Nat × Keep) := [(0, ⟨[0], [], []⟩),
  (1, ⟨[0, 3], [12], []⟩),
  (2, ⟨[0, 3, 4], [12], []⟩),
  (3, ⟨[0, 3, 4, 7], [12], []⟩),
  (4, ⟨[0, 3, 4], [12], []⟩),
  (5, ⟨[0, 3, 4], [12], []⟩),
  (6, ⟨[2], [], []⟩)]
theorem c60 : (Tryz.f60.body.bind fun c => compC Tryz.prog 15 [] kp60 c) = some ic60 := by kernel_rfl
theorem e60 {args : List AV} {r : AV} (ha : args.length ≤ 15) (h : VC e0 ic60 (retQ [(2, none)] r) ⟨argT 0 args, []⟩) : Fn 60 args r := fn_of Tryz.func60 rfl (by kernel_rfl) c60 ha (by decide) h
def ic79_1 : IC := (.seq (.reg [zG 75 0 5,zL 76 75,zM 77 12,zM 78 11,zY 79 110 77 78,zM 80 10,zA 81 (.call 28 [(.t 76,none),(.t 79,none),(.t 80,none)]),zS 3 8 81,zI 9 0] true [8,9] [8]) .ret)
def ic79_2 : IC := (.seq (.reg [zM 54 12,zA 55 (.len true (.t 54)),zA 56 (.bin .gtr none (.t 55) (.c (.int .i64 0))),zM 57 56,zT 57 58 (.mv (.t 12)),zT 57 59 (.mv (.t 12)),zT 57 60 (.len true (.t 59)),zT 57 61 (.bin .sub none (.t 60) (.c (.int .i64 1))),zT 57 62 (.ix (.t 58) (.t 61)),zT 57 63 (.bin .sub none (.t 62) (.c (.int .u8 48))),zT 57 64 (.bin .rem none (.t 63) (.c (.int .u8 2))),zT 57 65 (.bin .eql none (.t 64) (.c (.int .u8 1))),zA 66 (.pick (.t 57) (.t 65) (.c (.bool false))),zM 16 66] false [0,5,8,10,11,12,15,16] [5,8]) (.seq (.seq (.reg [zM 67 0,zG 68 0 5,zL 69 68,zM 70 16,zM 71 15,zA 72 (.call 109 [(.t 67,none),(.t 69,none),(.t 70,none),(.t 71,none)])] false [5,8,10,11,12,72] [5,8]) (.cond (.t 72) (.reg [zM 73 12,zA 74 (.call 108 [(.t 73,none),((.c (.str [49])),none)]),zM 12 74] false [5,8,10,11,12] [5,8]) .skip)) ic79_1))
def ic79_3 : IC := (.seq (.seq (.reg [zM 51 11,zM 52 14,zY 53 35 51 52] false [0,5,8,10,11,12,15,53] [5,8]) (.cond (.t 53) (.reg [zI 15 1] false [0,5,8,10,11,12,15] [5,8]) .skip)) ic79_2)
def ic79_4 : IC := (.seq (.reg [zM 45 13,zM 46 13,zY 47 108 45 46,zM 14 47] false [0,5,8,10,11,12,14] [5,8]) (.seq (.reg [zI 15 0] false [0,5,8,10,11,12,14,15] [5,8]) (.seq (.seq (.reg [zM 48 14,zM 49 11,zY 50 35 48 49] false [0,5,8,10,11,12,14,15,50] [5,8]) (.cond (.t 50) (.reg [zA 15 (.mv (.c (.int .i64 (-1))))] false [0,5,8,10,11,12,14,15] [5,8]) .skip)) ic79_3)))
def ic79_5 : IC := (.seq (.seq (.reg [zM 42 0,zA 43 (.bin .eql none (.t 42) (.c (.int .i64 7)))] false [0,5,8,10,11,12,13,43] [5,8]) (.cond (.t 43) (.seq (.reg [zA 44 (.build [(.bool false),(.str []),(.int .i64 0)] []),zS 3 8 44,zI 9 11] false [8,9] [8]) .ret) .skip)) ic79_4)
def ic79_6 : IC := (.seq (.reg [zM 23 2,zC 24 59 23,zM 25 3,zM 26 10,zA 27 (.bin .sub none (.t 25) (.t 26)),zC 28 60 27,zA 29 (.bin .add none (.t 24) (.t 28)),zM 11 29] false [0,5,8,10,11] [5,8]) (.seq (.reg [zK 31 3 5,zM 32 10,zY 33 34 31 32,zM 34 11,zY 35 107 33 34,zM 30 35,zE 36 30 0,zE 37 30 1,zM 12 36,zM 13 37] false [0,5,8,10,11,12,13] [5,8]) (.seq (.seq (.reg [zM 38 13,zA 39 (.bin .eql none (.t 38) (.c (.str [])))] false [0,5,8,10,11,12,13,39] [5,8]) (.cond (.t 39) (.seq (.reg [zK 40 3 5,zC 41 50 40,zS 3 8 41,zI 9 0] false [8,9] [8]) .ret) .skip)) ic79_5)))
def ic79 : IC := (.seq (.reg [zA 5 (.box 23 (.t 1)),zA 8 (.alloc 23 [(.bool false),(.str []),(.int .i64 0)]),zI 9 0] false [0,2,3,5,8] [5,8]) (.seq (.reg [zG 17 2 5,zL 18 17,zM 10 18] false [0,2,3,5,8,10] [5,8]) (.seq (.seq (.reg [zM 19 3,zM 20 10,zA 21 (.bin .lss none (.t 19) (.t 20))] false [0,2,3,5,8,10,21] [5,8]) (.cond (.t 21) (.reg [zM 22 3,zM 10 22] false [0,2,3,5,8,10] [5,8]) .skip)) ic79_6)))
def kp79 : List (Nat × Keep) := [(0, ⟨[0, 2, 3, 5, 8], [5, 8], []⟩),
  (1, ⟨[0, 2, 3, 5, 8, 10], [5, 8], []⟩),
  (2, ⟨[0, 2, 3, 5, 8, 10, 21], [5, 8], []⟩),
  (3, ⟨[0, 2, 3, 5, 8, 10], [5, 8], []⟩),
  (4, ⟨[0, 5, 8, 10, 11], [5, 8], []⟩),
  (5, ⟨[0, 5, 8, 10, 11, 12, 13], [5, 8], []⟩),
  (6, ⟨[0, 5, 8, 10, 11, 12, 13, 39], [5, 8], []⟩),
  (7, ⟨[8, 9], [8], []⟩),
  (8, ⟨[0, 5, 8, 10, 11, 12, 13, 43], [5, 8], []⟩),
  (9, ⟨[8, 9], [8], []⟩),
  (10, ⟨[0, 5, 8, 10, 11, 12, 14], [5, 8], []⟩),
  (11, ⟨[0, 5, 8, 10, 11, 12, 14, 15], [5, 8], []⟩),
  (12, ⟨[0, 5, 8, 10, 11, 12, 14, 15, 50], [5, 8], []⟩),
  (13, ⟨[0, 5, 8, 10, 11, 12, 14, 15], [5, 8], []⟩),
  (14, ⟨[0, 5, 8, 10, 11, 12, 15, 53], [5, 8], []⟩),
  (15, ⟨[0, 5, 8, 10, 11, 12, 15], [5, 8], []⟩),
  (16, ⟨[0, 5, 8, 10, 11, 12, 15, 16], [5, 8], []⟩),
  (17, ⟨[5, 8, 10, 11, 12, 72], [5, 8], []⟩),
  (18, ⟨[5, 8, 10, 11, 12], [5, 8], []⟩),
  (19, ⟨[8, 9], [8], []⟩)]
theorem c79 : (Tryz.f79.body.bind fun c => compC Tryz.prog 82 [] kp79 c) = some ic79 := by kernel_rfl
theorem e79 {args : List AV} {r : AV} (ha : args.length ≤ 82) (h : VC e0 ic79 (retQ [(8, (some (some 3))), (9, none)] r) ⟨argT 0 args, []⟩) : Fn 79 args r := fn_of Tryz.func79 rfl (by kernel_rfl) c79 ha (by decide) h
def ic84_1 : IC := (.seq (.reg [zG 20 1 2,zL 21 20,zA 22 (.len true (.t 21)),zA 23 (.bin .sub none (.t 22) (.c (.int .i64 1))),zM 24 5,zA 25 (.bin .sub none (.t 23) (.t 24)),zM 6 25] false [2,6] [2]) (.seq (.reg [zG 26 1 2,zL 27 26,zM 28 6,zM 29 6,zA 30 (.bin .add none (.t 29) (.c (.int .i64 1))),zA 31 (.ss (.t 27) (some (.t 28)) (some (.t 30))),zM 4 31] false [4] []) .ret))
def ic84 : IC := (.seq (.reg [zA 2 (.box 23 (.t 0)),zA 4 (.mv (.c (.str [])))] false [1,2] [2]) (.seq (.reg [zM 7 1,zG 8 2 2,zL 9 8,zA 10 (.bin .sub none (.t 7) (.t 9)),zM 5 10] false [2,5] [2]) (.seq (.seq (.reg [zM 11 5,zA 12 (.bin .lss none (.t 11) (.c (.int .i64 0))),zM 13 12,zF 13 14 (.mv (.t 5)),zF 13 15 (.fa 1 none (.t 2)),zF 13 16 (.ld none (.t 15)),zF 13 17 (.len true (.t 16)),zF 13 18 (.bin .geq none (.t 14) (.t 17)),zA 19 (.pick (.t 13) (.c (.bool true)) (.t 18))] false [2,5,19] [2]) (.cond (.t 19) (.seq (.reg [zA 4 (.mv (.c (.str [48])))] false [4] []) .ret) .skip)) ic84_1)))
def kp84 : List (Nat × Keep) := [(0, ⟨[1, 2], [2], []⟩),
  (1, ⟨[2, 5], [2], []⟩),
  (2, ⟨[2, 5, 19], [2], []⟩),
  (3, ⟨[4], [], []⟩),
  (4, ⟨[2, 6], [2], []⟩),
  (5, ⟨[4], [], []⟩)]
theorem c84 : (Tryz.f84.body.bind fun c => compC Tryz.prog 32 [] kp84 c) = some ic84 := by kernel_rfl
theorem e84 {args : List AV} {r : AV} (ha : args.length ≤ 32) (h : VC e0 ic84 (retQ [(4, none)] r) ⟨argT 0 args, []⟩) : Fn 84 args r := fn_of Tryz.func84 rfl (by kernel_rfl) c84 ha (by decide) h
def ic107_1 : IC := (.block 3 (.seq (.reg [zM 28 7,zM 29 1,zY 30 138 28 29,zM 7 30] false [0,1,6,7,8,9] []) (.reg [zM 31 9,zA 32 (.bin .add none (.t 31) (.c (.int .i64 1))),zM 9 32] false [0,1,6,7,8,9] [])))
def ic107_2 : IC := (.seq (.seq (.reg [zM 24 7,zM 25 1,zY 26 35 24 25,zA 27 (.not (.t 26))] false [0,1,6,7,8,9,27] []) (.cond (.t 27) .skip (.exit 2))) ic107_1)
def ic107_3 : IC := (.reg [zM 33 6,zM 34 9,zA 35 (.bin .add none (.c (.int .i64 48)) (.t 34)),zA 36 (.conv .u8 (.t 35)),zA 37 (.lit false 5 1 [(.t 36)]),zA 38 (.b2s (.t 37)),zA 39 (.bin .add none (.t 33) (.t 38)),zM 6 39] false [0,1,6,7,8] [])
def ic107_4 : IC := (.reg [zM 14 8,zA 15 (.bin .add none (.t 14) (.c (.int .i64 1))),zM 8 15] false [0,1,6,7,8] [])
def ic107_5 : IC := (.seq (.block 1 (.seq (.reg [zM 16 7,zM 17 0,zM 18 8,zM 19 8,zA 20 (.bin .add none (.t 19) (.c (.int .i64 1))),zA 21 (.ss (.t 17) (some (.t 18)) (some (.t 20))),zA 22 (.bin .add none (.t 16) (.t 21)),zC 23 59 22,zM 7 23] false [0,1,6,7,8] []) (.seq (.reg [zI 9 0] false [0,1,6,7,8,9] []) (.seq (.block 2 (.loop ic107_2)) ic107_3)))) ic107_4)
def ic107_6 : IC := (.seq (.seq (.reg [zM 10 8,zM 11 0,zA 12 (.len true (.t 11)),zA 13 (.bin .lss none (.t 10) (.t 12))] false [0,1,6,7,8,13] []) (.cond (.t 13) .skip (.exit 0))) ic107_5)
def ic107_7 : IC := (.seq (.reg [zM 40 6,zC 41 59 40,zM 42 7,zM 4 41,zM 5 42] false [4,5] []) .ret)
def ic107 : IC := (.seq (.reg [zA 4 (.mv (.c (.str []))),zA 5 (.mv (.c (.str [])))] false [0,1] []) (.seq (.reg [zA 6 (.mv (.c (.str []))),zA 7 (.mv (.c (.str [])))] false [0,1,6,7] []) (.seq (.seq (.reg [zI 8 0] false [0,1,6,7,8] []) (.block 0 (.loop ic107_6))) ic107_7)))
def kp107 : List (Nat × Keep) := [(0, ⟨[0, 1], [], []⟩),
  (1, ⟨[0, 1, 6, 7], [], []⟩),
  (2, ⟨[0, 1, 6, 7, 8], [], []⟩),
  (3, ⟨[0, 1, 6, 7, 8, 13], [], []⟩),
  (4, ⟨[0, 1, 6, 7, 8], [], []⟩),
  (5, ⟨[0, 1, 6, 7, 8], [], []⟩),
  (6, ⟨[0, 1, 6, 7, 8, 9], [], []⟩),
  (7, ⟨[0, 1, 6, 7, 8, 9, 27], [], []⟩),
  (8, ⟨[0, 1, 6, 7, 8, 9], [], []⟩),
  (9, ⟨[0, 1, 6, 7, 8, 9], [], []⟩),
  (10, ⟨[0, 1, 6, 7, 8], [], []⟩),
  (11, ⟨[4, 5], [], []⟩)]
theorem c107 : (Tryz.f107.body.bind fun c => compC Tryz.prog 43 [] kp107 c) = some ic107 := by kernel_rfl
theorem e107 {args : List AV} {r : AV} (ha : args.length ≤ 43) (h : VC e0 ic107 (retQ [(4, none), (5, none)] r) ⟨argT 0 args, []⟩) : Fn 107 args r := fn_of Tryz.func107 rfl (by kernel_rfl) c107 ha (by decide) h
def ic108_1 : IC := (.seq (.block 1 (.seq (.reg [zM 25 0,zM 26 7,zY 27 139 25 26,zM 28 1,zM 29 7,zY 30 139 28 29,zA 31 (.bin .add none (.t 27) (.t 30)),zM 32 6,zA 33 (.bin .add none (.t 31) (.t 32)),zM 8 33] false [0,1,5,7,8] [40]) (.seq (.reg [zM 34 5,zM 35 8,zA 36 (.bin .rem none (.t 35) (.c (.int .i64 10))),zA 37 (.bin .add none (.c (.int .i64 48)) (.t 36)),zA 38 (.conv .u8 (.t 37)),zA 39 (.lit false 5 1 [(.t 38)]),zA 40 (.app 5 1 1 (.t 34) (.t 39)),zM 5 40] false [0,1,5,7,8] [40]) (.reg [zM 41 8,zA 42 (.bin .quo none (.t 41) (.c (.int .i64 10))),zM 6 42] false [0,1,5,6,7] [40])))) (.reg [zM 23 7,zA 24 (.bin .add none (.t 23) (.c (.int .i64 1))),zM 7 24] false [0,1,5,6,7] [40]))
def ic108_2 : IC := (.seq (.seq (.reg [zM 9 7,zM 10 0,zA 11 (.len true (.t 10)),zA 12 (.bin .lss none (.t 9) (.t 11)),zM 13 12,zF 13 14 (.mv (.t 7)),zF 13 15 (.mv (.t 1)),zF 13 16 (.len true (.t 15)),zF 13 17 (.bin .lss none (.t 14) (.t 16)),zA 18 (.pick (.t 13) (.c (.bool true)) (.t 17)),zM 19 18,zF 19 20 (.mv (.t 6)),zF 19 21 (.bin .gtr none (.t 20) (.c (.int .i64 0))),zA 22 (.pick (.t 19) (.c (.bool true)) (.t 21))] false [0,1,5,6,7,22] [40]) (.cond (.t 22) .skip (.exit 0))) ic108_1)
def ic108_3 : IC := (.seq (.reg [zM 43 5,zA 44 (.call 140 [(.t 43,(some 1))]),zC 45 59 44,zM 4 45] false [4] []) .ret)
def ic108 : IC := (.seq (.reg [zA 4 (.mv (.c (.str [])))] false [0,1] []) (.seq (.reg [zA 5 (.mv (.c .nil))] false [0,1,5] [40]) (.seq (.reg [zI 6 0] false [0,1,5,6] [40]) (.seq (.seq (.reg [zI 7 0] false [0,1,5,6,7] [40]) (.block 0 (.loop ic108_2))) ic108_3))))
def kp108 : List (Nat × Keep) := [(0, ⟨[0, 1], [], []⟩),
  (1, ⟨[0, 1, 5], [40], []⟩),
  (2, ⟨[0, 1, 5, 6], [40], []⟩),
  (3, ⟨[0, 1, 5, 6, 7], [40], []⟩),
  (4, ⟨[0, 1, 5, 6, 7, 22], [40], []⟩),
  (5, ⟨[0, 1, 5, 6, 7], [40], []⟩),
  (6, ⟨[0, 1, 5, 7, 8], [40], []⟩),
  (7, ⟨[0, 1, 5, 7, 8], [40], []⟩),
  (8, ⟨[0, 1, 5, 6, 7], [40], []⟩),
  (9, ⟨[4], [], []⟩)]
theorem c108 : (Tryz.f108.body.bind fun c => compC Tryz.prog 46 [] kp108 c) = some ic108 := by kernel_rfl
theorem e108 {args : List AV} {r : AV} (ha : args.length ≤ 46) (h : VC e0 ic108 (retQ [(4, none)] r) ⟨argT 0 args, []⟩) : Fn 108 args r := fn_of Tryz.func108 rfl (by kernel_rfl) c108 ha (by decide) h
def ic109_1 : IC := (.seq (.reg [zA 8 (.mv (.c (.bool false)))] false [8] []) .ret)
def ic109 : IC := (.seq (.reg [zA 8 (.mv (.c (.bool false)))] false [0,1,2,3] []) (.seq (.seq (.reg [zM 9 0] false [1,2,3,9] []) (.block 0 (.seq (.reg [zA 11 (.bin .eql none (.t 9) (.c (.int .i64 0))),zM 10 11] false [1,2,3,9,10] []) (.cond (.t 10) (.seq (.reg [zM 12 1,zA 13 (.not (.t 12)),zM 8 13] false [8] []) .ret) (.seq (.reg [zA 15 (.bin .eql none (.t 9) (.c (.int .i64 1))),zM 14 15] false [1,2,3,9,14] []) (.cond (.t 14) (.seq (.reg [zM 16 1,zM 8 16] false [8] []) .ret) (.seq (.reg [zA 18 (.bin .eql none (.t 9) (.c (.int .i64 2))),zM 17 18] false [2,3,9,17] []) (.cond (.t 17) (.seq (.reg [zA 8 (.mv (.c (.bool true)))] false [8] []) .ret) (.seq (.reg [zA 20 (.bin .eql none (.t 9) (.c (.int .i64 4))),zM 19 20] false [2,3,9,19] []) (.cond (.t 19) (.seq (.reg [zM 21 3,zA 22 (.bin .gtr none (.t 21) (.c (.int .i64 0))),zM 23 22,zF 23 24 (.mv (.t 3)),zF 23 25 (.bin .eql none (.t 24) (.c (.int .i64 0))),zF 23 26 (.mv (.t 25)),zT 26 27 (.mv (.t 2)),zF 23 28 (.pick (.t 26) (.t 27) (.c (.bool false))),zA 29 (.pick (.t 23) (.c (.bool true)) (.t 28)),zM 8 29] false [8] []) .ret) (.seq (.reg [zA 31 (.bin .eql none (.t 9) (.c (.int .i64 5))),zM 30 31] false [3,9,30] []) (.cond (.t 30) (.seq (.reg [zM 32 3,zA 33 (.bin .geq none (.t 32) (.c (.int .i64 0))),zM 8 33] false [8] []) .ret) (.seq (.reg [zA 35 (.bin .eql none (.t 9) (.c (.int .i64 6))),zM 34 35] false [3,34] []) (.cond (.t 34) (.seq (.reg [zM 36 3,zA 37 (.bin .gtr none (.t 36) (.c (.int .i64 0))),zM 8 37] false [8] []) .ret) .skip)))))))))))))) ic109_1))
def kp109 : List (Nat × Keep) := [(0, ⟨[0, 1, 2, 3], [], []⟩),
  (1, ⟨[1, 2, 3, 9], [], []⟩),
  (2, ⟨[1, 2, 3, 9, 10], [], []⟩),
  (3, ⟨[8], [], []⟩),
  (4, ⟨[1, 2, 3, 9, 14], [], []⟩),
  (5, ⟨[8], [], []⟩),
  (6, ⟨[2, 3, 9, 17], [], []⟩),
  (7, ⟨[8], [], []⟩),
  (8, ⟨[2, 3, 9, 19], [], []⟩),
  (9, ⟨[8], [], []⟩),
  (10, ⟨[3, 9, 30], [], []⟩),
  (11, ⟨[8], [], []⟩),
  (12, ⟨[3, 34], [], []⟩),
  (13, ⟨[8], [], []⟩),
  (14, ⟨[8], [], []⟩)]
theorem c109 : (Tryz.f109.body.bind fun c => compC Tryz.prog 38 [] kp109 c) = some ic109 := by kernel_rfl
theorem e109 {args : List AV} {r : AV} (ha : args.length ≤ 38) (h : VC e0 ic109 (retQ [(8, none)] r) ⟨argT 0 args, []⟩) : Fn 109 args r := fn_of Tryz.func109 rfl (by kernel_rfl) c109 ha (by decide) h
def ic110_1 : IC := (.seq (.block 3 (.reg [zM 31 5,zM 32 6,zM 33 7,zA 34 (.bin .add none (.t 32) (.t 33)),zM 35 5,zM 36 6,zM 37 7,zA 38 (.bin .add none (.t 36) (.t 37)),zA 39 (.ia 1 (.t 35) (.t 38)),zL 40 39,zM 41 0,zM 42 6,zY 43 139 41 42,zM 44 1,zM 45 7,zY 46 139 44 45,zA 47 (.bin .mul none (.t 43) (.t 46)),zA 48 (.bin .add none (.t 40) (.t 47)),zA 49 (.ia 1 (.t 31) (.t 34)),zS 1 49 48] true [0,1,5,6,7] [18])) (.reg [zM 29 7,zA 30 (.bin .add none (.t 29) (.c (.int .i64 1))),zM 7 30] false [0,1,5,6,7] [18]))
def ic110_2 : IC := (.seq (.seq (.reg [zM 25 7,zM 26 1,zA 27 (.len true (.t 26)),zA 28 (.bin .lss none (.t 25) (.t 27))] false [0,1,5,6,7,28] [18]) (.cond (.t 28) .skip (.exit 2))) ic110_1)
def ic110_3 : IC := (.reg [zM 23 6,zA 24 (.bin .add none (.t 23) (.c (.int .i64 1))),zM 6 24] false [0,1,5,6] [18])
def ic110_4 : IC := (.seq (.block 1 (.seq (.reg [zI 7 0] false [0,1,5,6,7] [18]) (.block 2 (.loop ic110_2)))) ic110_3)
def ic110_5 : IC := (.seq (.seq (.reg [zM 19 6,zM 20 0,zA 21 (.len true (.t 20)),zA 22 (.bin .lss none (.t 19) (.t 21))] false [0,1,5,6,22] [18]) (.cond (.t 22) .skip (.exit 0))) ic110_4)
def ic110_6 : IC := (.seq (.block 5 (.seq (.reg [zM 56 5,zM 57 10,zA 58 (.ia 1 (.t 56) (.t 57)),zL 59 58,zM 60 9,zA 61 (.bin .add none (.t 59) (.t 60)),zM 11 61] false [5,8,10,11] [18,68]) (.seq (.reg [zM 62 8,zM 63 11,zA 64 (.bin .rem none (.t 63) (.c (.int .i64 10))),zA 65 (.bin .add none (.c (.int .i64 48)) (.t 64)),zA 66 (.conv .u8 (.t 65)),zA 67 (.lit false 5 1 [(.t 66)]),zA 68 (.app 5 1 1 (.t 62) (.t 67)),zM 8 68] false [5,8,10,11] [18,68]) (.reg [zM 69 11,zA 70 (.bin .quo none (.t 69) (.c (.int .i64 10))),zM 9 70] false [5,8,9,10] [18,68])))) (.reg [zM 54 10,zA 55 (.bin .add none (.t 54) (.c (.int .i64 1))),zM 10 55] false [5,8,9,10] [18,68]))
def ic110_7 : IC := (.seq (.seq (.reg [zM 50 10,zM 51 5,zA 52 (.len false (.t 51)),zA 53 (.bin .lss none (.t 50) (.t 52))] false [5,8,9,10,53] [18,68]) (.cond (.t 53) .skip (.exit 4))) ic110_6)
def ic110_8 : IC := (.seq (.reg [zM 71 8,zA 72 (.call 140 [(.t 71,(some 1))]),zC 73 59 72,zM 4 73] false [4] []) .ret)
def ic110_9 : IC := (.seq (.reg [zA 8 (.mv (.c .nil))] false [5,8] [18,68]) (.seq (.reg [zI 9 0] false [5,8,9] [18,68]) (.seq (.seq (.reg [zI 10 0] false [5,8,9,10] [18,68]) (.block 4 (.loop ic110_7))) ic110_8)))
def ic110 : IC := (.seq (.reg [zA 4 (.mv (.c (.str [])))] false [0,1] []) (.seq (.reg [zM 12 0,zA 13 (.len true (.t 12)),zM 14 1,zA 15 (.len true (.t 14)),zA 16 (.bin .add none (.t 13) (.t 15)),zA 17 (.bin .add none (.t 16) (.c (.int .i64 1))),zA 18 (.mk 3 8 (.int .i64 0) (.t 17) (.t 17)),zM 5 18] false [0,1,5] [18]) (.seq (.seq (.reg [zI 6 0] false [0,1,5,6] [18]) (.block 0 (.loop ic110_5))) ic110_9)))
def kp110 : List (Nat × Keep) := [(0, ⟨[0, 1], [], []⟩),
  (1, ⟨[0, 1, 5], [18], []⟩),
  (2, ⟨[0, 1, 5, 6], [18], []⟩),
  (3, ⟨[0, 1, 5, 6, 22], [18], []⟩),
  (4, ⟨[0, 1, 5, 6], [18], []⟩),
  (5, ⟨[0, 1, 5, 6, 7], [18], []⟩),
  (6, ⟨[0, 1, 5, 6, 7, 28], [18], []⟩),
  (7, ⟨[0, 1, 5, 6, 7], [18], []⟩),
  (8, ⟨[0, 1, 5, 6, 7], [18], []⟩),
  (9, ⟨[5, 8], [18, 68], []⟩),
  (10, ⟨[5, 8, 9], [18, 68], []⟩),
  (11, ⟨[5, 8, 9, 10], [18, 68], []⟩),
  (12, ⟨[5, 8, 9, 10, 53], [18, 68], []⟩),
  (13, ⟨[5, 8, 9, 10], [18, 68], []⟩),
  (14, ⟨[5, 8, 10, 11], [18, 68], []⟩),
  (15, ⟨[5, 8, 10, 11], [18, 68], []⟩),
  (16, ⟨[5, 8, 9, 10], [18, 68], []⟩),
  (17, ⟨[4], [], []⟩)]
theorem c110 : (Tryz.f110.body.bind fun c => compC Tryz.prog 74 [] kp110 c) = some ic110 := by kernel_rfl
theorem e110 {args : List AV} {r : AV} (ha : args.length ≤ 74) (h : VC e0 ic110 (retQ [(4, none)] r) ⟨argT 0 args, []⟩) : Fn 110 args r := fn_of Tryz.func110 rfl (by kernel_rfl) c110 ha (by decide) h
def ic138_1 : IC := (.reg [zM 28 5,zM 29 8,zA 30 (.bin .add none (.c (.int .i64 48)) (.t 29)),zA 31 (.conv .u8 (.t 30)),zA 32 (.lit false 5 1 [(.t 31)]),zA 33 (.app 5 1 1 (.t 28) (.t 32)),zM 5 33] false [0,1,5,6,7] [33])
def ic138_2 : IC := (.reg [zM 13 7,zA 14 (.bin .add none (.t 13) (.c (.int .i64 1))),zM 7 14] false [0,1,5,6,7] [33])
def ic138_3 : IC := (.seq (.block 1 (.seq (.reg [zM 15 0,zM 16 7,zY 17 139 15 16,zM 18 1,zM 19 7,zY 20 139 18 19,zA 21 (.bin .sub none (.t 17) (.t 20)),zM 22 6,zA 23 (.bin .sub none (.t 21) (.t 22)),zM 8 23] false [0,1,5,7,8] [33]) (.seq (.reg [zI 6 0] false [0,1,5,6,7,8] [33]) (.seq (.seq (.reg [zM 24 8,zA 25 (.bin .lss none (.t 24) (.c (.int .i64 0)))] false [0,1,5,6,7,8,25] [33]) (.cond (.t 25) (.reg [zM 26 8,zA 27 (.bin .add none (.t 26) (.c (.int .i64 10))),zM 8 27,zI 6 1] false [0,1,5,6,7,8] [33]) .skip)) ic138_1)))) ic138_2)
def ic138_4 : IC := (.seq (.seq (.reg [zM 9 7,zM 10 0,zA 11 (.len true (.t 10)),zA 12 (.bin .lss none (.t 9) (.t 11))] false [0,1,5,6,7,12] [33]) (.cond (.t 12) .skip (.exit 0))) ic138_3)
def ic138_5 : IC := (.seq (.reg [zM 34 5,zA 35 (.call 140 [(.t 34,(some 1))]),zC 36 59 35,zM 4 36] false [4] []) .ret)
def ic138 : IC := (.seq (.reg [zA 4 (.mv (.c (.str [])))] false [0,1] []) (.seq (.reg [zA 5 (.mv (.c .nil))] false [0,1,5] [33]) (.seq (.reg [zI 6 0] false [0,1,5,6] [33]) (.seq (.seq (.reg [zI 7 0] false [0,1,5,6,7] [33]) (.block 0 (.loop ic138_4))) ic138_5))))
def kp138 : List (Nat × Keep) := [(0, ⟨[0, 1], [], []⟩),
  (1, ⟨[0, 1, 5], [33], []⟩),
  (2, ⟨[0, 1, 5, 6], [33], []⟩),
  (3, ⟨[0, 1, 5, 6, 7], [33], []⟩),
  (4, ⟨[0, 1, 5, 6, 7, 12], [33], []⟩),
  (5, ⟨[0, 1, 5, 6, 7], [33], []⟩),
  (6, ⟨[0, 1, 5, 7, 8], [33], []⟩),
  (7, ⟨[0, 1, 5, 6, 7, 8], [33], []⟩),
  (8, ⟨[0, 1, 5, 6, 7, 8, 25], [33], []⟩),
  (9, ⟨[0, 1, 5, 6, 7, 8], [33], []⟩),
  (10, ⟨[0, 1, 5, 6, 7], [33], []⟩),
  (11, ⟨[4], [], []⟩)]
theorem c138 : (Tryz.f138.body.bind fun c => compC Tryz.prog 37 [] kp138 c) = some ic138 := by kernel_rfl
theorem e138 {args : List AV} {r : AV} (ha : args.length ≤ 37) (h : VC e0 ic138 (retQ [(4, none)] r) ⟨argT 0 args, []⟩) : Fn 138 args r := fn_of Tryz.func138 rfl (by kernel_rfl) c138 ha (by decide) h
def ic139_1 : IC := (.seq (.reg [zM 9 0,zM 10 0,zA 11 (.len true (.t 10)),zA 12 (.bin .sub none (.t 11) (.c (.int .i64 1))),zM 13 1,zA 14 (.bin .sub none (.t 12) (.t 13)),zA 15 (.ix (.t 9) (.t 14)),zA 16 (.bin .sub none (.t 15) (.c (.int .u8 48))),zA 17 (.conv .i64 (.t 16)),zM 4 17] false [4] []) .ret)
def ic139 : IC := (.seq (.reg [zI 4 0] false [0,1] []) (.seq (.seq (.reg [zM 5 1,zM 6 0,zA 7 (.len true (.t 6)),zA 8 (.bin .geq none (.t 5) (.t 7))] false [0,1,8] []) (.cond (.t 8) (.seq (.reg [zI 4 0] false [4] []) .ret) .skip)) ic139_1))
def kp139 : List (Nat × Keep) := [(0, ⟨[0, 1], [], []⟩),
  (1, ⟨[0, 1, 8], [], []⟩),
  (2, ⟨[4], [], []⟩),
  (3, ⟨[4], [], []⟩)]
theorem c139 : (Tryz.f139.body.bind fun c => compC Tryz.prog 18 [] kp139 c) = some ic139 := by kernel_rfl
theorem e139 {args : List AV} {r : AV} (ha : args.length ≤ 18) (h : VC e0 ic139 (retQ [(4, none)] r) ⟨argT 0 args, []⟩) : Fn 139 args r := fn_of Tryz.func139 rfl (by kernel_rfl) c139 ha (by decide) h
def ic140_1 : IC := (.seq (.block 1 (.reg [zM 12 3,zM 13 0,zM 14 4,zA 15 (.ia 1 (.t 13) (.t 14)),zL 16 15,zA 17 (.lit false 5 1 [(.t 16)]),zA 18 (.app 5 1 1 (.t 12) (.t 17)),zM 3 18] false [0,3,4] [18])) (.reg [zM 10 4,zA 11 (.bin .sub none (.t 10) (.c (.int .i64 1))),zM 4 11] false [0,3,4] [18]))
def ic140_2 : IC := (.seq (.seq (.reg [zM 8 4,zA 9 (.bin .geq none (.t 8) (.c (.int .i64 0)))] false [0,3,4,9] [18]) (.cond (.t 9) .skip (.exit 0))) ic140_1)
def ic140_3 : IC := (.seq (.reg [zM 19 3,zA 20 (.b2s (.t 19)),zM 2 20] false [2] []) .ret)
def ic140 : IC := (.seq (.reg [zA 2 (.mv (.c (.str [])))] false [0] []) (.seq (.reg [zA 3 (.mv (.c .nil))] false [0,3] [18]) (.seq (.seq (.reg [zM 5 0,zA 6 (.len false (.t 5)),zA 7 (.bin .sub none (.t 6) (.c (.int .i64 1))),zM 4 7] false [0,3,4] [18]) (.block 0 (.loop ic140_2))) ic140_3)))
def kp140 : List (Nat × Keep) := [(0, ⟨[0], [], []⟩),
  (1, ⟨[0, 3], [18], []⟩),
  (2, ⟨[0, 3, 4], [18], []⟩),
  (3, ⟨[0, 3, 4, 9], [18], []⟩),
  (4, ⟨[0, 3, 4], [18], []⟩),
  (5, ⟨[0, 3, 4], [18], []⟩),
  (6, ⟨[2], [], []⟩)]
theorem c140 : (Tryz.f140.body.bind fun c => compC Tryz.prog 21 [] kp140 c) = some ic140 := by kernel_rfl
theorem e140 {args : List AV} {r : AV} (ha : args.length ≤ 21) (h : VC e0 ic140 (retQ [(2, none)] r) ⟨argT 0 args, []⟩) : Fn 140 args r := fn_of Tryz.func140 rfl (by kernel_rfl) c140 ha (by decide) h
end Go.Proofs.YtgehlcgjchfibaaGreatDoor.F
