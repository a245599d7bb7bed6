/-
  What the functions that the laws call compute, for every input that the statements allow (part 6): for the claims up to a bulk of 1048576.
-/
import Derived.Test.YtgehlcgjchfibaaGreatDoorZ05
set_option maxRecDepth 100000
set_option linter.unusedVariables false
set_option linter.unusedSimpArgs false
set_option linter.defProp false
set_option maxHeartbeats 2000000
namespace Go.Proofs.YtgehlcgjchfibaaGreatDoor.F
open Go Go.RowKit Go.Proofs
def ic23_1 : IC := (.seq (.reg [zI 2 0] false [2] []) .ret)
def ic23_2 : IC := (.seq (.seq (.reg [zK 6 20 1,zA 7 (.call 53 [(.t 6,none),((.c (.int .i64 5)),none)]),zA 8 (.bin .gtr none (.t 7) (.c (.int .i64 0)))] false [8] []) (.cond (.t 8) (.seq (.reg [zI 2 3] false [2] []) .ret) .skip)) ic23_1)
def ic23 : IC := (.seq (.reg [zA 1 (.box 26 (.t 0)),zI 2 0] false [1] [1]) (.seq (.seq (.reg [zK 3 20 1,zA 4 (.call 53 [(.t 3,none),((.c (.int .i64 4)),none)]),zA 5 (.bin .gtr none (.t 4) (.c (.int .i64 0)))] false [1,5] [1]) (.cond (.t 5) (.seq (.reg [zI 2 2] false [2] []) .ret) .skip)) ic23_2))
def kp23 : List (Nat × Keep) := [(0, ⟨[1], [1], []⟩),
  (1, ⟨[1, 5], [1], []⟩),
  (2, ⟨[2], [], []⟩),
  (3, ⟨[8], [], []⟩),
  (4, ⟨[2], [], []⟩),
  (5, ⟨[2], [], []⟩)]
theorem c23 : (Tryz.f23.body.bind fun c => compC Tryz.prog 9 [] kp23 c) = some ic23 := by kernel_rfl
theorem e23 {args : List AV} {r : AV} (ha : args.length ≤ 9) (h : VC e0 ic23 (retQ [(2, none)] r) ⟨argT 0 args, []⟩) : Fn 23 args r := fn_of Tryz.func23 rfl (by kernel_rfl) c23 ha (by decide) h
def ic31_1 : IC := (.seq (.reg [zG 49 3 8,zU (.st 1 (.t 49) (.c (.bool true)))] false [2,3,4,5,6,7,8] [2,3,5,8,63]) (.seq (.reg [zM 50 4,zM 51 7,zA 52 (.bin .add none (.t 51) (.c (.int .i64 1))),zA 53 (.ia 3 (.t 50) (.t 52)),zG 54 0 53,zL 55 54,zA 56 (.fa 0 (some 3) (.t 8)),zG 57 0 56,zS 1 57 55] false [2,3,4,5,6,7,8] [2,3,5,8,63]) (.reg [zM 58 7,zA 59 (.bin .add none (.t 58) (.c (.int .i64 1))),zM 7 59] false [2,3,4,5,6,7,8] [2,3,5,8,63])))
def ic31_2 : IC := (.reg [zM 60 6,zK 61 4 8,zA 62 (.lit false 73 4 [(.t 61)]),zA 63 (.app 73 4 24 (.t 60) (.t 62)),zM 6 63] false [2,3,4,5,6,7] [2,3,5,63])
def ic31_3 : IC := (.reg [zM 30 7,zA 31 (.bin .add none (.t 30) (.c (.int .i64 1))),zM 7 31] false [2,3,4,5,6,7] [2,3,5,63])
def ic31_4 : IC := (.seq (.block 1 (.seq (.reg [zM 32 4,zM 33 7,zA 34 (.ia 3 (.t 32) (.t 33)),zK 35 3 34,zA 36 (.build [(.int .i32 0),(.bool false),(.int .i64 0),(.bool false)] [(0,(3,(.t 35)))]),zA 8 (.alloc 73 [(.int .i32 0),(.bool false),(.int .i64 0),(.bool false)]),zS 4 8 36] false [2,3,4,5,6,7,8] [2,3,5,8,63]) (.seq (.seq (.reg [zK 37 4 8,zA 38 (.call 56 [(.t 37,none),((.c (.int .i32 42)),none)])] false [2,3,4,5,6,7,8,38] [2,3,5,8,63]) (.cond (.t 38) (.seq (.seq (.reg [zM 39 7,zA 40 (.bin .add none (.t 39) (.c (.int .i64 1))),zM 41 4,zA 42 (.len false (.t 41)),zA 43 (.bin .eql none (.t 40) (.t 42))] false [2,3,4,5,6,7,8,43] [2,3,5,8,63]) (.cond (.t 43) (.seq (.reg [zA 44 (.build [(.sl 2 []),(.sl 2 []),(.bool false),(.sl 2 []),(.sl 2 []),(.int .i64 0),(.int .i64 0),(.int .i64 0),(.int .i64 0),(.int .i64 0),(.int .i64 0),(.int .i64 0),(.int .i64 0),(.str []),(.bool false),(.int .i64 0),(.bool false),(.int .i64 0),(.int .i32 0),(.int .i64 0)] []),zA 45 (.fa 0 (some 3) (.t 8)),zG 46 2 45,⟨(some 47),(.ld none (.t 46)),none,(.at 8 2 1)⟩,zA 48 (.build [(.int .i64 0),(.int .i64 0)] [(0,(1,(.c (.int .i64 7)))),(1,(1,(.t 47)))]),⟨none,(.st 20 (.t 2) (.t 44)),none,(.at 2 0 20)⟩,zS 2 3 48] true [2,3] [2,3]) .ret) .skip)) ic31_1) .skip)) ic31_2))) ic31_3)
def ic31_5 : IC := (.seq (.seq (.reg [zM 26 7,zM 27 4,zA 28 (.len false (.t 27)),zA 29 (.bin .lss none (.t 26) (.t 28))] false [2,3,4,5,6,7,29] [2,3,5,63]) (.cond (.t 29) .skip (.exit 0))) ic31_4)
def ic31_6 : IC := (.reg [zM 85 10,zM 9 85] false [2,3,5,6,9,10] [2,3,5,63])
def ic31_7 : IC := (.reg [zM 68 10,zA 69 (.bin .add none (.t 68) (.c (.int .i64 1))),zM 10 69] false [2,3,5,6,9,10] [2,3,5,63])
def ic31_8 : IC := (.seq (.block 3 (.seq (.reg [zM 70 6,zM 71 10,zA 72 (.ia 4 (.t 70) (.t 71)),zK 73 4 72,zA 74 (.call 56 [(.t 73,none),((.c (.int .i32 59)),none)])] false [2,3,5,6,9,10,74] [2,3,5,63]) (.cond (.t 74) (.seq (.seq (.reg [zM 75 9,zA 76 (.bin .geq none (.t 75) (.c (.int .i64 0)))] false [2,3,5,6,10,76] [2,3,5,63]) (.cond (.t 76) (.seq (.reg [zA 77 (.build [(.sl 2 []),(.sl 2 []),(.bool false),(.sl 2 []),(.sl 2 []),(.int .i64 0),(.int .i64 0),(.int .i64 0),(.int .i64 0),(.int .i64 0),(.int .i64 0),(.int .i64 0),(.int .i64 0),(.str []),(.bool false),(.int .i64 0),(.bool false),(.int .i64 0),(.int .i32 0),(.int .i64 0)] []),zM 78 6,zM 79 10,⟨(some 80),(.ia 4 (.t 78) (.t 79)),none,.ref⟩,zA 81 (.fa 0 (some 3) (.t 80)),zG 82 2 81,⟨(some 83),(.ld none (.t 82)),none,.ref⟩,zA 84 (.build [(.int .i64 0),(.int .i64 0)] [(0,(1,(.c (.int .i64 4)))),(1,(1,(.t 83)))]),⟨none,(.st 20 (.t 2) (.t 77)),none,(.at 2 0 20)⟩,zS 2 3 84] true [2,3] [2,3]) .ret) .skip)) ic31_6) .skip))) ic31_7)
def ic31_9 : IC := (.seq (.seq (.reg [zM 64 10,zM 65 6,zA 66 (.len false (.t 65)),zA 67 (.bin .lss none (.t 64) (.t 66))] false [2,3,5,6,9,10,67] [2,3,5,63]) (.cond (.t 67) .skip (.exit 2))) ic31_8)
def ic31_10 : IC := (.reg [zG 161 0 14,⟨(some 162),(.ld none (.t 161)),none,(.at 14 0 1)⟩,zG 163 1 14,⟨(some 164),(.ld none (.t 163)),none,(.at 14 1 1)⟩,zG 165 2 13,⟨none,(.st 1 (.t 165) (.c (.bool true))),none,(.at 13 2 1)⟩,zG 166 3 13,⟨none,(.st 1 (.t 166) (.t 162)),none,(.at 13 3 1)⟩,zG 167 4 13,zS 1 167 164] true [2,3,13] [2,3,13])
def ic31_11 : IC := (.seq (.reg [zK 178 20 13,zA 179 (.build [(.int .i64 0),(.int .i64 0)] []),zS 20 2 178,zS 2 3 179] false [2,3] [2,3]) .ret)
def ic31_12 : IC := (.seq (.seq (.reg [zK 168 20 13,zA 169 (.call 53 [(.t 168,none),((.c (.int .i64 4)),none)]),zA 170 (.bin .gtr none (.t 169) (.c (.int .i64 0))),zM 171 170,zT 171 172 (.ld (some 20) (.t 13)),zT 171 173 (.call 53 [(.t 172,none),((.c (.int .i64 5)),none)]),zT 171 174 (.bin .gtr none (.t 173) (.c (.int .i64 0))),zA 175 (.pick (.t 171) (.t 174) (.c (.bool false)))] false [2,3,13,175] [2,3,13]) (.cond (.t 175) (.seq (.reg [zA 176 (.build [(.sl 2 []),(.sl 2 []),(.bool false),(.sl 2 []),(.sl 2 []),(.int .i64 0),(.int .i64 0),(.int .i64 0),(.int .i64 0),(.int .i64 0),(.int .i64 0),(.int .i64 0),(.int .i64 0),(.str []),(.bool false),(.int .i64 0),(.bool false),(.int .i64 0),(.int .i32 0),(.int .i64 0)] []),zA 177 (.build [(.int .i64 0),(.int .i64 0)] [(0,(1,(.c (.int .i64 6))))]),zS 20 2 176,zS 2 3 177] false [2,3] [2,3]) .ret) .skip)) ic31_11)
def ic31_13 : IC := (.seq (.reg [zA 130 (.build [(.int .i64 0),(.int .i32 0)] [(0,(1,(.c (.int .i64 2))))]),zA 131 (.lit true 80 2 [(.t 130)]),zG 132 0 12,zL 133 132,zA 134 (.app 80 2 16 (.t 131) (.t 133)),zG 135 3 13,zS 1 135 134] false [2,3,6,9,12,13] [2,3,12,13,63]) (.seq (.reg [zG 136 1 12,zL 137 136,zG 138 4 13,zS 1 138 137] false [2,3,6,9,13] [2,3,13,63]) (.seq (.seq (.reg [zM 139 9,zA 140 (.bin .geq none (.t 139) (.c (.int .i64 0)))] false [2,3,6,9,13,140] [2,3,13,63]) (.cond (.t 140) (.seq (.reg [zM 142 6,zM 143 9,zA 144 (.bin .add none (.t 143) (.c (.int .i64 1))),zA 145 (.sls 4 (.t 142) (some (.t 144)) none),zM 146 6,zM 147 9,zA 148 (.ia 4 (.t 146) (.t 147)),zA 149 (.fa 0 (some 3) (.t 148)),zG 150 2 149,zL 151 150,zA 152 (.bin .add none (.t 151) (.c (.int .i64 1))),zA 153 (.call 57 [(.t 145,(some 4)),(.t 152,none),((.c (.bool false)),none)]),zM 141 153,zE 154 141 0,zE 155 141 1,zA 14 (.alloc 76 [(.sl 2 []),(.sl 2 []),(.sl 2 []),(.sl 2 []),(.bool false),(.sl 2 []),(.sl 2 []),(.int .i64 0),(.int .i64 0),(.int .i64 0),(.int .i64 0),(.int .i64 0),(.int .i64 0),(.int .i64 0),(.int .i64 0),(.str []),(.bool false),(.int .i64 0),(.bool false),(.int .i64 0),(.int .i32 0),(.int .i64 0),(.int .i64 0),(.int .i32 0),(.int .i64 0)]),zA 15 (.alloc 52 [(.int .i64 0),(.int .i64 0)]),zS 25 14 154,zS 2 15 155] true [2,3,13,14,15] [2,3,13,14,15]) (.seq (.seq (.reg [zG 156 0 15,zL 157 156,zA 158 (.bin .neq none (.t 157) (.c (.int .i64 0)))] false [2,3,13,14,15,158] [2,3,13,14,15]) (.cond (.t 158) (.seq (.reg [zA 159 (.build [(.sl 2 []),(.sl 2 []),(.bool false),(.sl 2 []),(.sl 2 []),(.int .i64 0),(.int .i64 0),(.int .i64 0),(.int .i64 0),(.int .i64 0),(.int .i64 0),(.int .i64 0),(.int .i64 0),(.str []),(.bool false),(.int .i64 0),(.bool false),(.int .i64 0),(.int .i32 0),(.int .i64 0)] []),⟨(some 160),(.ld (some 2) (.t 15)),none,(.at 15 0 2)⟩,⟨none,(.st 20 (.t 2) (.t 159)),none,(.at 2 0 20)⟩,zS 2 3 160] true [2,3] [2,3]) .ret) .skip)) ic31_10)) .skip)) ic31_12)))
def ic31_14 : IC := (.seq (.reg [zA 102 (.fa 2 (some 20) (.t 12)),zK 103 20 102,zA 13 (.alloc 26 [(.sl 2 []),(.sl 2 []),(.bool false),(.sl 2 []),(.sl 2 []),(.int .i64 0),(.int .i64 0),(.int .i64 0),(.int .i64 0),(.int .i64 0),(.int .i64 0),(.int .i64 0),(.int .i64 0),(.str []),(.bool false),(.int .i64 0),(.bool false),(.int .i64 0),(.int .i32 0),(.int .i64 0)]),zS 20 13 103] false [2,3,6,9,12,13] [2,3,12,13,63]) (.seq (.reg [zG 104 0 12,zL 105 104,zG 106 1 12,⟨(some 107),(.ld none (.t 106)),none,(.at 12 1 1)⟩,zG 108 22 12,⟨(some 109),(.ld none (.t 108)),none,(.at 12 22 1)⟩,zG 110 23 12,⟨(some 111),(.ld none (.t 110)),none,(.at 12 23 1)⟩,zG 112 0 13,⟨none,(.st 1 (.t 112) (.t 105)),none,(.at 13 0 1)⟩,zG 113 1 13,⟨none,(.st 1 (.t 113) (.t 107)),none,(.at 13 1 1)⟩,zG 114 17 13,⟨none,(.st 1 (.t 114) (.t 109)),none,(.at 13 17 1)⟩,zG 115 18 13,zS 1 115 111] true [2,3,6,9,12,13] [2,3,12,13,63]) (.seq (.seq (.reg [zG 116 22 12,zL 117 116,zA 118 (.bin .gtr none (.t 117) (.c (.int .i64 0)))] false [2,3,6,9,12,13,118] [2,3,12,13,63]) (.cond (.t 118) (.reg [zG 119 0 12,zL 120 119,zA 121 (.len false (.t 120)),zG 122 1 12,zL 123 122,zA 124 (.len false (.t 123)),zA 125 (.bin .add none (.t 121) (.t 124)),zG 126 24 12,zL 127 126,zA 128 (.bin .add none (.t 125) (.t 127)),zG 129 19 13,zS 1 129 128] false [2,3,6,9,12,13] [2,3,12,13,63]) .skip)) ic31_13)))
def ic31_15 : IC := (.seq (.reg [zM 93 11,zA 94 (.call 57 [(.t 93,(some 4)),((.c (.int .i64 0)),none),((.c (.bool true)),none)]),zM 92 94,zE 95 92 0,zE 96 92 1,zA 12 (.alloc 76 [(.sl 2 []),(.sl 2 []),(.sl 2 []),(.sl 2 []),(.bool false),(.sl 2 []),(.sl 2 []),(.int .i64 0),(.int .i64 0),(.int .i64 0),(.int .i64 0),(.int .i64 0),(.int .i64 0),(.int .i64 0),(.int .i64 0),(.str []),(.bool false),(.int .i64 0),(.bool false),(.int .i64 0),(.int .i32 0),(.int .i64 0),(.int .i64 0),(.int .i32 0),(.int .i64 0)]),zS 25 12 95,zS 2 5 96] false [2,3,5,6,9,12] [2,3,5,12,63]) (.seq (.seq (.reg [zG 97 0 5,zL 98 97,zA 99 (.bin .neq none (.t 98) (.c (.int .i64 0)))] false [2,3,5,6,9,12,99] [2,3,5,12,63]) (.cond (.t 99) (.seq (.reg [zA 100 (.build [(.sl 2 []),(.sl 2 []),(.bool false),(.sl 2 []),(.sl 2 []),(.int .i64 0),(.int .i64 0),(.int .i64 0),(.int .i64 0),(.int .i64 0),(.int .i64 0),(.int .i64 0),(.int .i64 0),(.str []),(.bool false),(.int .i64 0),(.bool false),(.int .i64 0),(.int .i32 0),(.int .i64 0)] []),⟨(some 101),(.ld (some 2) (.t 5)),none,(.at 5 0 2)⟩,⟨none,(.st 20 (.t 2) (.t 100)),none,(.at 2 0 20)⟩,zS 2 3 101] true [2,3] [2,3]) .ret) .skip)) ic31_14))
def ic31_16 : IC := (.seq (.reg [zM 86 6,zM 11 86] false [2,3,5,6,9,11] [2,3,5,63]) (.seq (.seq (.reg [zM 87 9,zA 88 (.bin .geq none (.t 87) (.c (.int .i64 0)))] false [2,3,5,6,9,11,88] [2,3,5,63]) (.cond (.t 88) (.reg [zM 89 6,zM 90 9,zA 91 (.sls 4 (.t 89) none (some (.t 90))),zM 11 91] false [2,3,5,6,9,11] [2,3,5,63]) .skip)) ic31_15))
def ic31_17 : IC := (.seq (.reg [zA 9 (.mv (.c (.int .i64 (-1))))] false [2,3,5,6,9] [2,3,5,63]) (.seq (.seq (.reg [zI 10 0] false [2,3,5,6,9,10] [2,3,5,63]) (.block 2 (.loop ic31_9))) ic31_16))
def ic31_18 : IC := (.seq (.reg [zA 6 (.mv (.c .nil))] false [2,3,4,5,6] [2,3,5,63]) (.seq (.seq (.reg [zI 7 0] false [2,3,4,5,6,7] [2,3,5,63]) (.block 0 (.loop ic31_5))) ic31_17))
def ic31 : IC := (.seq (.reg [zA 2 (.alloc 26 [(.sl 2 []),(.sl 2 []),(.bool false),(.sl 2 []),(.sl 2 []),(.int .i64 0),(.int .i64 0),(.int .i64 0),(.int .i64 0),(.int .i64 0),(.int .i64 0),(.int .i64 0),(.int .i64 0),(.str []),(.bool false),(.int .i64 0),(.bool false),(.int .i64 0),(.int .i32 0),(.int .i64 0)]),zA 3 (.alloc 52 [(.int .i64 0),(.int .i64 0)])] false [0,2,3] [2,3]) (.seq (.reg [zM 17 0,zC 18 55 17,zM 16 18,zE 19 16 0,zE 20 16 1,zA 5 (.alloc 52 [(.int .i64 0),(.int .i64 0)]),zM 4 19,zS 2 5 20] false [2,3,4,5] [2,3,5]) (.seq (.seq (.reg [zG 21 0 5,zL 22 21,zA 23 (.bin .neq none (.t 22) (.c (.int .i64 0)))] false [2,3,4,5,23] [2,3,5]) (.cond (.t 23) (.seq (.reg [zA 24 (.build [(.sl 2 []),(.sl 2 []),(.bool false),(.sl 2 []),(.sl 2 []),(.int .i64 0),(.int .i64 0),(.int .i64 0),(.int .i64 0),(.int .i64 0),(.int .i64 0),(.int .i64 0),(.int .i64 0),(.str []),(.bool false),(.int .i64 0),(.bool false),(.int .i64 0),(.int .i32 0),(.int .i64 0)] []),⟨(some 25),(.ld (some 2) (.t 5)),none,(.at 5 0 2)⟩,⟨none,(.st 20 (.t 2) (.t 24)),none,(.at 2 0 20)⟩,zS 2 3 25] true [2,3] [2,3]) .ret) .skip)) ic31_18)))
def kp31 : List (Nat × Keep) := [(0, ⟨[0, 2, 3], [2, 3], []⟩),
  (1, ⟨[2, 3, 4, 5], [2, 3, 5], []⟩),
  (2, ⟨[2, 3, 4, 5, 23], [2, 3, 5], []⟩),
  (3, ⟨[2, 3], [2, 3], [(1, .at 5 0 2), (2, .at 2 0 20)]⟩),
  (4, ⟨[2, 3, 4, 5, 6], [2, 3, 5, 63], []⟩),
  (5, ⟨[2, 3, 4, 5, 6, 7], [2, 3, 5, 63], []⟩),
  (6, ⟨[2, 3, 4, 5, 6, 7, 29], [2, 3, 5, 63], []⟩),
  (7, ⟨[2, 3, 4, 5, 6, 7], [2, 3, 5, 63], []⟩),
  (8, ⟨[2, 3, 4, 5, 6, 7, 8], [2, 3, 5, 8, 63], []⟩),
  (9, ⟨[2, 3, 4, 5, 6, 7, 8, 38], [2, 3, 5, 8, 63], []⟩),
  (10, ⟨[2, 3, 4, 5, 6, 7, 8, 43], [2, 3, 5, 8, 63], []⟩),
  (11, ⟨[2, 3], [2, 3], [(3, .at 8 2 1), (5, .at 2 0 20)]⟩),
  (12, ⟨[2, 3, 4, 5, 6, 7, 8], [2, 3, 5, 8, 63], []⟩),
  (13, ⟨[2, 3, 4, 5, 6, 7, 8], [2, 3, 5, 8, 63], []⟩),
  (14, ⟨[2, 3, 4, 5, 6, 7, 8], [2, 3, 5, 8, 63], []⟩),
  (15, ⟨[2, 3, 4, 5, 6, 7], [2, 3, 5, 63], []⟩),
  (16, ⟨[2, 3, 5, 6, 9], [2, 3, 5, 63], []⟩),
  (17, ⟨[2, 3, 5, 6, 9, 10], [2, 3, 5, 63], []⟩),
  (18, ⟨[2, 3, 5, 6, 9, 10, 67], [2, 3, 5, 63], []⟩),
  (19, ⟨[2, 3, 5, 6, 9, 10], [2, 3, 5, 63], []⟩),
  (20, ⟨[2, 3, 5, 6, 9, 10, 74], [2, 3, 5, 63], []⟩),
  (21, ⟨[2, 3, 5, 6, 10, 76], [2, 3, 5, 63], []⟩),
  (22, ⟨[2, 3], [2, 3], [(3, .ref), (6, .ref), (8, .at 2 0 20)]⟩),
  (23, ⟨[2, 3, 5, 6, 9, 10], [2, 3, 5, 63], []⟩),
  (24, ⟨[2, 3, 5, 6, 9, 11], [2, 3, 5, 63], []⟩),
  (25, ⟨[2, 3, 5, 6, 9, 11, 88], [2, 3, 5, 63], []⟩),
  (26, ⟨[2, 3, 5, 6, 9, 11], [2, 3, 5, 63], []⟩),
  (27, ⟨[2, 3, 5, 6, 9, 12], [2, 3, 5, 12, 63], []⟩),
  (28, ⟨[2, 3, 5, 6, 9, 12, 99], [2, 3, 5, 12, 63], []⟩),
  (29, ⟨[2, 3], [2, 3], [(1, .at 5 0 2), (2, .at 2 0 20)]⟩),
  (30, ⟨[2, 3, 6, 9, 12, 13], [2, 3, 12, 13, 63], []⟩),
  (31, ⟨[2, 3, 6, 9, 12, 13], [2, 3, 12, 13, 63], [(3, .at 12 1 1), (5, .at 12 22 1), (7, .at 12 23 1), (9, .at 13 0 1), (11, .at 13 1 1), (13, .at 13 17 1)]⟩),
  (32, ⟨[2, 3, 6, 9, 12, 13, 118], [2, 3, 12, 13, 63], []⟩),
  (33, ⟨[2, 3, 6, 9, 12, 13], [2, 3, 12, 13, 63], []⟩),
  (34, ⟨[2, 3, 6, 9, 12, 13], [2, 3, 12, 13, 63], []⟩),
  (35, ⟨[2, 3, 6, 9, 13], [2, 3, 13, 63], []⟩),
  (36, ⟨[2, 3, 6, 9, 13, 140], [2, 3, 13, 63], []⟩),
  (37, ⟨[2, 3, 13, 14, 15], [2, 3, 13, 14, 15], []⟩),
  (38, ⟨[2, 3, 13, 14, 15, 158], [2, 3, 13, 14, 15], []⟩),
  (39, ⟨[2, 3], [2, 3], [(1, .at 15 0 2), (2, .at 2 0 20)]⟩),
  (40, ⟨[2, 3, 13], [2, 3, 13], [(1, .at 14 0 1), (3, .at 14 1 1), (5, .at 13 2 1), (7, .at 13 3 1)]⟩),
  (41, ⟨[2, 3, 13, 175], [2, 3, 13], []⟩),
  (42, ⟨[2, 3], [2, 3], []⟩),
  (43, ⟨[2, 3], [2, 3], []⟩)]
theorem c31 : (Tryz.f31.body.bind fun c => compC Tryz.prog 180 [131] kp31 c) = some ic31 := by kernel_rfl
theorem e31 {args : List AV} {r : AV} (ha : args.length ≤ 180) (h : VC e0 ic31 (retQ [(2, (some (some 20))), (3, (some (some 2)))] r) ⟨argT 0 args, []⟩) : Fn 31 args r := fn_of Tryz.func31 rfl (by kernel_rfl) c31 ha (by decide) h
def ic53_1 : IC := (.reg [zM 27 8,zA 28 (.bin .add none (.t 27) (.c (.int .i64 1))),zM 8 28] false [1,5,7,8,17,18,19] [17])
def ic53_2 : IC := (.seq (.block 3 (.seq (.reg [zM 29 7,zM 30 8,zA 31 (.ia 2 (.t 29) (.t 30)),zG 32 0 31,zL 33 32,zM 34 1,zA 35 (.bin .eql none (.t 33) (.t 34))] false [1,5,7,8,17,18,19,35] [17]) (.cond (.t 35) (.reg [zM 36 5,zA 37 (.bin .add none (.t 36) (.c (.int .i64 1))),zM 5 37] false [1,5,7,8,17,18,19] [17]) .skip))) ic53_1)
def ic53_3 : IC := (.seq (.seq (.reg [zM 23 8,zM 24 7,zA 25 (.len false (.t 24)),zA 26 (.bin .lss none (.t 23) (.t 25))] false [1,5,7,8,17,18,19,26] [17]) (.cond (.t 26) .skip (.exit 2))) ic53_2)
def ic53_4 : IC := (.reg [zA 38 (.bin .add none (.t 19) (.c (.int .i64 1))),zM 19 38] false [1,5,17,18,19] [17])
def ic53_5 : IC := (.seq (.block 1 (.seq (.reg [zA 21 (.ia 1 (.t 17) (.t 19)),zL 22 21,zM 7 22] false [1,5,7,17,18,19] [17]) (.seq (.reg [zI 8 0] false [1,5,7,8,17,18,19] [17]) (.block 2 (.loop ic53_3))))) ic53_4)
def ic53_6 : IC := (.seq (.reg [zA 20 (.bin .lss none (.t 19) (.t 18))] false [1,5,17,18,19,20] [17]) (.seq (.cond (.t 20) .skip (.exit 0)) ic53_5))
def ic53_7 : IC := (.seq (.reg [zM 39 5,zM 4 39] false [4] []) .ret)
def ic53 : IC := (.seq (.reg [zA 2 (.box 26 (.t 0)),zI 4 0] false [1,2] [2]) (.seq (.reg [zI 5 0] false [1,2,5] [2]) (.seq (.seq (.reg [zG 9 0 2,zL 10 9,zG 11 1 2,zL 12 11,zG 13 3 2,zL 14 13,zG 15 4 2,zL 16 15,zA 17 (.lit false 24 1 [(.t 10),(.t 12),(.t 14),(.t 16)]),zA 18 (.len false (.t 17)),zI 19 0] false [1,5,17,18,19] [17]) (.block 0 (.loop ic53_6))) ic53_7)))
def kp53 : List (Nat × Keep) := [(0, ⟨[1, 2], [2], []⟩),
  (1, ⟨[1, 2, 5], [2], []⟩),
  (2, ⟨[1, 5, 17, 18, 19], [17], []⟩),
  (3, ⟨[1, 5, 17, 18, 19, 20], [17], []⟩),
  (4, ⟨[1, 5, 7, 17, 18, 19], [17], []⟩),
  (5, ⟨[1, 5, 7, 8, 17, 18, 19], [17], []⟩),
  (6, ⟨[1, 5, 7, 8, 17, 18, 19, 26], [17], []⟩),
  (7, ⟨[1, 5, 7, 8, 17, 18, 19], [17], []⟩),
  (8, ⟨[1, 5, 7, 8, 17, 18, 19, 35], [17], []⟩),
  (9, ⟨[1, 5, 7, 8, 17, 18, 19], [17], []⟩),
  (10, ⟨[1, 5, 17, 18, 19], [17], []⟩),
  (11, ⟨[4], [], []⟩)]
theorem c53 : (Tryz.f53.body.bind fun c => compC Tryz.prog 40 [] kp53 c) = some ic53 := by kernel_rfl
theorem e53 {args : List AV} {r : AV} (ha : args.length ≤ 40) (h : VC e0 ic53 (retQ [(4, none)] r) ⟨argT 0 args, []⟩) : Fn 53 args r := fn_of Tryz.func53 rfl (by kernel_rfl) c53 ha (by decide) h
def ic55_1 : IC := (.reg [zM 68 8,zM 69 10,zA 70 (.bin .add none (.t 68) (.t 69)),zM 8 70] false [0,3,6,7,8] [3,52,67])
def ic55_2 : IC := (.seq (.seq (.reg [zM 55 9,zA 56 (.bin .eql none (.t 55) (.c (.int .i32 39)))] false [0,3,6,7,8,9,10,56] [3,52,67]) (.cond (.t 56) (.seq (.reg [zM 57 7,zA 58 (.bin .geq none (.t 57) (.c (.int .i64 0)))] false [0,3,6,8,10,58] [3,52,67]) (.cond (.t 58) (.reg [zA 7 (.mv (.c (.int .i64 (-1))))] false [0,3,6,7,8,10] [3,52,67]) (.reg [zM 59 8,zM 7 59] false [0,3,6,7,8,10] [3,52,67]))) (.reg [zM 60 6,zM 61 9,zM 62 7,zA 63 (.bin .geq none (.t 62) (.c (.int .i64 0))),zM 64 8,zA 65 (.build [(.int .i32 0),(.bool false),(.int .i64 0)] [(0,(1,(.t 61))),(1,(1,(.t 63))),(2,(1,(.t 64)))]),zA 66 (.lit false 71 3 [(.t 65)]),zA 67 (.app 71 3 16 (.t 60) (.t 66)),zM 6 67] false [0,3,6,7,8,10] [3,52,67]))) ic55_1)
def ic55_3 : IC := (.block 1 (.seq (.reg [zM 25 0,zM 26 8,zA 27 (.ss (.t 25) (some (.t 26)) none),zC 28 86 27,zM 24 28,zE 29 24 0,zE 30 24 1,zM 9 29,zM 10 30] false [0,3,6,7,8,9,10] [3,52,67]) (.seq (.seq (.reg [zM 31 9,zA 32 (.bin .eql none (.t 31) (.c (.int .i32 39))),zM 33 32,zT 33 34 (.mv (.t 8)),zT 33 35 (.bin .add none (.t 34) (.c (.int .i64 1))),zT 33 36 (.mv (.t 0)),zT 33 37 (.len true (.t 36)),zT 33 38 (.bin .lss none (.t 35) (.t 37)),zA 39 (.pick (.t 33) (.t 38) (.c (.bool false))),zM 40 39,zT 40 41 (.mv (.t 0)),zT 40 42 (.mv (.t 8)),zT 40 43 (.bin .add none (.t 42) (.c (.int .i64 1))),zT 40 44 (.ix (.t 41) (.t 43)),zT 40 45 (.bin .eql none (.t 44) (.c (.int .u8 39))),zA 46 (.pick (.t 40) (.t 45) (.c (.bool false)))] false [0,3,6,7,8,9,10,46] [3,52,67]) (.cond (.t 46) (.seq (.reg [zM 47 6,zM 48 9,zM 49 8,zA 50 (.build [(.int .i32 0),(.bool false),(.int .i64 0)] [(0,(1,(.t 48))),(1,(1,(.c (.bool true)))),(2,(1,(.t 49)))]),zA 51 (.lit false 71 3 [(.t 50)]),zA 52 (.app 71 3 16 (.t 47) (.t 51)),zM 6 52] false [0,3,6,7,8] [3,52,67]) (.seq (.reg [zM 53 8,zA 54 (.bin .add none (.t 53) (.c (.int .i64 2))),zM 8 54] false [0,3,6,7,8] [3,52,67]) (.exit 1))) .skip)) ic55_2)))
def ic55_4 : IC := (.seq (.seq (.reg [zM 20 8,zM 21 0,zA 22 (.len true (.t 21)),zA 23 (.bin .lss none (.t 20) (.t 22))] false [0,3,6,7,8,23] [3,52,67]) (.cond (.t 23) .skip (.exit 0))) ic55_3)
def ic55_5 : IC := (.seq (.reg [zM 79 6,zA 80 (.build [(.int .i64 0),(.int .i64 0)] []),zM 2 79,zS 2 3 80] false [2,3] [3,52,67]) .ret)
def ic55_6 : IC := (.seq (.seq (.reg [zM 75 6,zA 76 (.len false (.t 75)),zA 77 (.bin .gtr none (.t 76) (.c (.int .i64 400)))] false [3,6,77] [3,52,67]) (.cond (.t 77) (.seq (.reg [zA 78 (.build [(.int .i64 0),(.int .i64 0)] [(0,(1,(.c (.int .i64 8))))]),zA 2 (.mv (.c .nil)),zS 2 3 78] false [2,3] [3,52,67]) .ret) .skip)) ic55_5)
def ic55_7 : IC := (.seq (.seq (.reg [zM 71 7,zA 72 (.bin .geq none (.t 71) (.c (.int .i64 0)))] false [3,6,7,72] [3,52,67]) (.cond (.t 72) (.seq (.reg [zM 73 7,zA 74 (.build [(.int .i64 0),(.int .i64 0)] [(0,(1,(.c (.int .i64 3)))),(1,(1,(.t 73)))]),zA 2 (.mv (.c .nil)),zS 2 3 74] false [2,3] [3,52,67]) .ret) .skip)) ic55_6)
def ic55_8 : IC := (.seq (.reg [zA 6 (.mv (.c .nil))] false [0,3,6] [3,52,67]) (.seq (.reg [zA 7 (.mv (.c (.int .i64 (-1))))] false [0,3,6,7] [3,52,67]) (.seq (.seq (.reg [zI 8 0] false [0,3,6,7,8] [3,52,67]) (.block 0 (.loop ic55_4))) ic55_7)))
def ic55 : IC := (.seq (.reg [zA 2 (.mv (.c .nil)),zA 3 (.alloc 52 [(.int .i64 0),(.int .i64 0)])] false [0,3] [3]) (.seq (.seq (.reg [zM 12 0,zC 13 85 12,zM 11 13,zE 14 11 0,zE 15 11 1,zM 4 14,zM 5 15] false [0,3,5] [3]) (.seq (.reg [zM 16 5,zA 17 (.bin .geq none (.t 16) (.c (.int .i64 0)))] false [0,3,5,17] [3]) (.cond (.t 17) (.seq (.reg [zM 18 5,zA 19 (.build [(.int .i64 0),(.int .i64 0)] [(0,(1,(.c (.int .i64 2)))),(1,(1,(.t 18)))]),zA 2 (.mv (.c .nil)),zS 2 3 19] false [2,3] [3,52,67]) .ret) .skip))) ic55_8))
def kp55 : List (Nat × Keep) := [(0, ⟨[0, 3], [3], []⟩),
  (1, ⟨[0, 3, 5], [3], []⟩),
  (2, ⟨[0, 3, 5, 17], [3], []⟩),
  (3, ⟨[2, 3], [3, 52, 67], []⟩),
  (4, ⟨[0, 3, 6], [3, 52, 67], []⟩),
  (5, ⟨[0, 3, 6, 7], [3, 52, 67], []⟩),
  (6, ⟨[0, 3, 6, 7, 8], [3, 52, 67], []⟩),
  (7, ⟨[0, 3, 6, 7, 8, 23], [3, 52, 67], []⟩),
  (8, ⟨[0, 3, 6, 7, 8, 9, 10], [3, 52, 67], []⟩),
  (9, ⟨[0, 3, 6, 7, 8, 9, 10, 46], [3, 52, 67], []⟩),
  (10, ⟨[0, 3, 6, 7, 8], [3, 52, 67], []⟩),
  (11, ⟨[0, 3, 6, 7, 8], [3, 52, 67], []⟩),
  (12, ⟨[0, 3, 6, 7, 8, 9, 10, 56], [3, 52, 67], []⟩),
  (13, ⟨[0, 3, 6, 8, 10, 58], [3, 52, 67], []⟩),
  (14, ⟨[0, 3, 6, 7, 8, 10], [3, 52, 67], []⟩),
  (15, ⟨[0, 3, 6, 7, 8, 10], [3, 52, 67], []⟩),
  (16, ⟨[0, 3, 6, 7, 8, 10], [3, 52, 67], []⟩),
  (17, ⟨[0, 3, 6, 7, 8], [3, 52, 67], []⟩),
  (18, ⟨[3, 6, 7, 72], [3, 52, 67], []⟩),
  (19, ⟨[2, 3], [3, 52, 67], []⟩),
  (20, ⟨[3, 6, 77], [3, 52, 67], []⟩),
  (21, ⟨[2, 3], [3, 52, 67], []⟩),
  (22, ⟨[2, 3], [3, 52, 67], []⟩)]
theorem c55 : (Tryz.f55.body.bind fun c => compC Tryz.prog 81 [] kp55 c) = some ic55 := by kernel_rfl
theorem e55 {args : List AV} {r : AV} (ha : args.length ≤ 81) (h : VC e0 ic55 (retQ [(2, none), (3, (some (some 2)))] r) ⟨argT 0 args, []⟩) : Fn 55 args r := fn_of Tryz.func55 rfl (by kernel_rfl) c55 ha (by decide) h
def ic56 : IC := (.seq (.reg [zA 2 (.box 73 (.t 0)),zA 4 (.mv (.c (.bool false)))] false [1,2] [2]) (.seq (.reg [zG 5 3 2,zL 6 5,zA 7 (.not (.t 6)),zM 8 7,zT 8 9 (.fa 0 (some 3) (.t 2)),zT 8 10 (.fa 1 none (.t 9)),zT 8 11 (.ld none (.t 10)),zT 8 12 (.not (.t 11)),zA 13 (.pick (.t 8) (.t 12) (.c (.bool false))),zM 14 13,zT 14 15 (.fa 0 (some 3) (.t 2)),zT 14 16 (.fa 0 none (.t 15)),zT 14 17 (.ld none (.t 16)),zT 14 18 (.mv (.t 1)),zT 14 19 (.bin .eql none (.t 17) (.t 18)),zA 20 (.pick (.t 14) (.t 19) (.c (.bool false))),zM 4 20] false [4] []) .ret))
def kp56 : List (Nat × Keep) := [(0, ⟨[1, 2], [2], []⟩),
  (1, ⟨[4], [], []⟩)]
theorem c56 : (Tryz.f56.body.bind fun c => compC Tryz.prog 21 [] kp56 c) = some ic56 := by kernel_rfl
theorem e56 {args : List AV} {r : AV} (ha : args.length ≤ 21) (h : VC e0 ic56 (retQ [(4, none)] r) ⟨argT 0 args, []⟩) : Fn 56 args r := fn_of Tryz.func56 rfl (by kernel_rfl) c56 ha (by decide) h
def ic57_1 : IC := (.block 1 (.reg [zM 35 8,zA 36 (.bin .add none (.t 35) (.c (.int .i64 1))),zM 8 36] false [0,1,2,6,7,8] [6,7]))
def ic57_2 : IC := (.seq (.seq (.reg [zM 23 8,zM 24 0,zA 25 (.len false (.t 24)),zA 26 (.bin .lss none (.t 23) (.t 25)),zM 27 26,zT 27 28 (.mv (.t 0)),zT 27 29 (.mv (.t 8)),zT 27 30 (.ia 4 (.t 28) (.t 29)),zT 27 31 (.ld (some 4) (.t 30)),zT 27 32 (.call 87 [(.t 31,none)]),zT 27 33 (.not (.t 32)),zA 34 (.pick (.t 27) (.t 33) (.c (.bool false)))] false [0,1,2,6,7,8,34] [6,7]) (.cond (.t 34) .skip (.exit 0))) ic57_1)
def ic57_3 : IC := (.block 3 (.reg [zM 56 9,zA 57 (.bin .add none (.t 56) (.c (.int .i64 1))),zM 9 57] false [0,2,6,7,8,9] [6,7]))
def ic57_4 : IC := (.seq (.seq (.reg [zM 45 9,zM 46 0,zA 47 (.len false (.t 46)),zA 48 (.bin .lss none (.t 45) (.t 47)),zM 49 48,zT 49 50 (.mv (.t 0)),zT 49 51 (.mv (.t 9)),zT 49 52 (.ia 4 (.t 50) (.t 51)),zT 49 53 (.ld (some 4) (.t 52)),zT 49 54 (.call 87 [(.t 53,none)]),zA 55 (.pick (.t 49) (.t 54) (.c (.bool false)))] false [0,2,6,7,8,9,55] [6,7]) (.cond (.t 55) .skip (.exit 2))) ic57_3)
def ic57_5 : IC := (.block 5 (.reg [zM 95 9,zA 96 (.bin .add none (.t 95) (.c (.int .i64 1))),zM 9 96] false [0,2,6,7,8,9] [6,7]))
def ic57_6 : IC := (.seq (.seq (.reg [zM 84 9,zM 85 0,zA 86 (.len false (.t 85)),zA 87 (.bin .lss none (.t 84) (.t 86)),zM 88 87,zT 88 89 (.mv (.t 0)),zT 88 90 (.mv (.t 9)),zT 88 91 (.ia 4 (.t 89) (.t 90)),zT 88 92 (.ld (some 4) (.t 91)),zT 88 93 (.call 87 [(.t 92,none)]),zA 94 (.pick (.t 88) (.t 93) (.c (.bool false)))] false [0,2,6,7,8,9,94] [6,7]) (.cond (.t 94) .skip (.exit 4))) ic57_5)
def ic57_7 : IC := (.block 4 (.loop ic57_6))
def ic57_8 : IC := (.reg [zM 148 13,zM 149 0,zM 150 12,⟨(some 151),(.ia 4 (.t 149) (.t 150)),none,.ref⟩,zA 152 (.fa 0 (some 3) (.t 151)),zG 153 0 152,⟨(some 154),(.ld none (.t 153)),none,.ref⟩,zG 155 22 10,⟨none,(.st 1 (.t 155) (.t 148)),none,(.at 10 22 1)⟩,zG 156 23 10,zS 1 156 154] true [0,2,6,7,8,9,10,11,12] [6,7,10])
def ic57_9 : IC := (.seq (.reg [zM 128 11,zA 129 (.bin .add none (.t 128) (.c (.int .i64 1))),zM 11 129] false [0,2,6,7,8,9,10,11,12,13] [6,7,10]) (.seq (.seq (.reg [zM 130 13,zA 131 (.bin .eql none (.t 130) (.c (.int .i64 0))),zM 132 131,zF 132 133 (.mv (.t 11)),zF 132 134 (.bin .gtr none (.t 133) (.c (.int .i64 1))),zA 135 (.pick (.t 132) (.c (.bool true)) (.t 134)),zM 136 135,zF 136 137 (.mv (.t 2)),zF 136 138 (.not (.t 137)),zA 139 (.pick (.t 136) (.c (.bool true)) (.t 138))] false [0,2,6,7,8,9,10,11,12,13,139] [6,7,10]) (.cond (.t 139) (.seq (.reg [zA 140 (.build [(.sl 2 []),(.sl 2 []),(.sl 2 []),(.sl 2 []),(.bool false),(.sl 2 []),(.sl 2 []),(.int .i64 0),(.int .i64 0),(.int .i64 0),(.int .i64 0),(.int .i64 0),(.int .i64 0),(.int .i64 0),(.int .i64 0),(.str []),(.bool false),(.int .i64 0),(.bool false),(.int .i64 0),(.int .i32 0),(.int .i64 0),(.int .i64 0),(.int .i32 0),(.int .i64 0)] []),zM 141 0,zM 142 12,⟨(some 143),(.ia 4 (.t 141) (.t 142)),none,.ref⟩,zA 144 (.fa 0 (some 3) (.t 143)),zG 145 2 144,⟨(some 146),(.ld none (.t 145)),none,.ref⟩,zA 147 (.build [(.int .i64 0),(.int .i64 0)] [(0,(1,(.c (.int .i64 7)))),(1,(1,(.t 146)))]),⟨none,(.st 25 (.t 6) (.t 140)),none,(.at 6 0 25)⟩,zS 2 7 147] true [6,7] [6,7]) .ret) .skip)) ic57_8))
def ic57_10 : IC := (.seq (.reg [zI 13 0] false [0,2,6,7,8,9,10,11,12,13] [6,7,10]) (.seq (.block 8 (.seq (.reg [zM 111 12,zA 112 (.bin .eql none (.t 111) (.c (.int .i64 0))),zM 110 112] false [0,2,6,7,8,9,10,11,12,13,110] [6,7,10]) (.cond (.t 110) (.reg [zI 13 1] false [0,2,6,7,8,9,10,11,12,13] [6,7,10]) (.seq (.reg [zM 114 12,zM 115 8,zA 116 (.bin .sub none (.t 115) (.c (.int .i64 1))),zA 117 (.bin .eql none (.t 114) (.t 116)),zM 113 117] false [0,2,6,7,8,9,10,11,12,13,113] [6,7,10]) (.cond (.t 113) (.reg [zI 13 2] false [0,2,6,7,8,9,10,11,12,13] [6,7,10]) (.seq (.reg [zM 119 12,zM 120 9,zA 121 (.bin .eql none (.t 119) (.t 120)),zM 118 121] false [0,2,6,7,8,9,10,11,12,13,118] [6,7,10]) (.cond (.t 118) (.reg [zI 13 3] false [0,2,6,7,8,9,10,11,12,13] [6,7,10]) (.seq (.reg [zM 123 12,zM 124 0,zA 125 (.len false (.t 124)),zA 126 (.bin .sub none (.t 125) (.c (.int .i64 1))),zA 127 (.bin .eql none (.t 123) (.t 126)),zM 122 127] false [0,2,6,7,8,9,10,11,12,13,122] [6,7,10]) (.cond (.t 122) (.reg [zI 13 4] false [0,2,6,7,8,9,10,11,12,13] [6,7,10]) .skip))))))))) ic57_9))
def ic57_11 : IC := (.reg [zM 102 12,zA 103 (.bin .add none (.t 102) (.c (.int .i64 1))),zM 12 103] false [0,2,6,7,8,9,10,11,12] [6,7,10])
def ic57_12 : IC := (.seq (.block 7 (.seq (.seq (.reg [zM 104 0,zM 105 12,zA 106 (.ia 4 (.t 104) (.t 105)),zG 107 3 106,zL 108 107,zA 109 (.not (.t 108))] false [0,2,6,7,8,9,10,11,12,109] [6,7,10]) (.cond (.t 109) (.exit 7) .skip)) ic57_10)) ic57_11)
def ic57_13 : IC := (.seq (.seq (.reg [zM 98 12,zM 99 0,zA 100 (.len false (.t 99)),zA 101 (.bin .lss none (.t 98) (.t 100))] false [0,2,6,7,8,9,10,11,12,101] [6,7,10]) (.cond (.t 101) .skip (.exit 6))) ic57_12)
def ic57_14 : IC := (.seq (.reg [zM 168 17,zM 169 8,zA 170 (.bin .lss none (.t 168) (.t 169))] false [0,6,7,8,9,10,14,15,16,17,170] [6,7,10,178,199]) (.cond (.t 170) (.reg [zM 171 14,zM 172 0,zM 173 17,zA 174 (.ia 4 (.t 172) (.t 173)),zA 175 (.fa 0 (some 3) (.t 174)),zK 176 3 175,zA 177 (.lit false 71 3 [(.t 176)]),zA 178 (.app 71 3 16 (.t 171) (.t 177)),zM 14 178] false [0,6,7,8,9,10,14,15,16,17] [6,7,10,178,199]) (.seq (.reg [zM 179 17,zM 180 9,zA 181 (.bin .lss none (.t 179) (.t 180))] false [0,6,7,8,9,10,14,15,16,17,181] [6,7,10,178,199]) (.cond (.t 181) (.reg [zM 182 16,zM 183 0,zM 184 17,zA 185 (.ia 4 (.t 183) (.t 184)),zA 186 (.fa 0 (some 3) (.t 185)),zG 187 0 186,zL 188 187,zC 189 88 188,zA 190 (.b2s (.t 189)),zA 191 (.bin .add none (.t 182) (.t 190)),zM 16 191] false [0,6,7,8,9,10,14,15,16,17] [6,7,10,178,199]) (.reg [zM 192 15,zM 193 0,zM 194 17,zA 195 (.ia 4 (.t 193) (.t 194)),zA 196 (.fa 0 (some 3) (.t 195)),zK 197 3 196,zA 198 (.lit false 71 3 [(.t 197)]),zA 199 (.app 71 3 16 (.t 192) (.t 198)),zM 15 199] false [0,6,7,8,9,10,14,15,16,17] [6,7,10,178,199])))))
def ic57_15 : IC := (.reg [zM 161 17,zA 162 (.bin .add none (.t 161) (.c (.int .i64 1))),zM 17 162] false [0,6,7,8,9,10,14,15,16,17] [6,7,10,178,199])
def ic57_16 : IC := (.seq (.block 10 (.seq (.seq (.reg [zM 163 0,zM 164 17,zA 165 (.ia 4 (.t 163) (.t 164)),zG 166 3 165,zL 167 166] false [0,6,7,8,9,10,14,15,16,17,167] [6,7,10,178,199]) (.cond (.t 167) (.exit 10) .skip)) ic57_14)) ic57_15)
def ic57_17 : IC := (.seq (.seq (.reg [zM 157 17,zM 158 0,zA 159 (.len false (.t 158)),zA 160 (.bin .lss none (.t 157) (.t 159))] false [0,6,7,8,9,10,14,15,16,17,160] [6,7,10,178,199]) (.cond (.t 160) .skip (.exit 9))) ic57_16)
def ic57_18 : IC := (.seq (.reg [zM 236 18,zM 237 22,⟨(some 238),(.ld (some 20) (.t 20)),none,(.at 20 0 20)⟩,zM 239 16,⟨(some 240),(.len true (.t 239)),none,.ref⟩,zG 241 0 10,⟨none,(.st 1 (.t 241) (.t 236)),none,(.at 10 0 1)⟩,zG 242 1 10,⟨none,(.st 1 (.t 242) (.t 237)),none,(.at 10 1 1)⟩,zA 243 (.fa 2 (some 20) (.t 10)),⟨none,(.st 20 (.t 243) (.t 238)),none,(.at 10 2 20)⟩,zG 244 24 10,zS 1 244 240] true [6,7,10] [6,7,10]) (.seq (.reg [zK 245 25 10,zA 246 (.build [(.int .i64 0),(.int .i64 0)] []),zS 25 6 245,zS 2 7 246] false [6,7] [6,7]) .ret))
def ic57_19 : IC := (.seq (.reg [zM 227 15,zA 228 (.call 89 [(.t 227,(some 3))]),zM 226 228,zE 229 226 0,zE 230 226 1,zM 22 229,zS 2 19 230] false [6,7,10,16,18,19,20,22] [6,7,10,19,20]) (.seq (.seq (.reg [zG 231 0 19,zL 232 231,zA 233 (.bin .neq none (.t 232) (.c (.int .i64 0)))] false [6,7,10,16,18,19,20,22,233] [6,7,10,19,20]) (.cond (.t 233) (.seq (.reg [zA 234 (.build [(.sl 2 []),(.sl 2 []),(.sl 2 []),(.sl 2 []),(.bool false),(.sl 2 []),(.sl 2 []),(.int .i64 0),(.int .i64 0),(.int .i64 0),(.int .i64 0),(.int .i64 0),(.int .i64 0),(.int .i64 0),(.int .i64 0),(.str []),(.bool false),(.int .i64 0),(.bool false),(.int .i64 0),(.int .i32 0),(.int .i64 0),(.int .i64 0),(.int .i32 0),(.int .i64 0)] []),⟨(some 235),(.ld (some 2) (.t 19)),none,(.at 19 0 2)⟩,⟨none,(.st 25 (.t 6) (.t 234)),none,(.at 6 0 25)⟩,zS 2 7 235] true [6,7] [6,7]) .ret) .skip)) ic57_18))
def ic57_20 : IC := (.seq (.reg [zM 211 16,zC 212 90 211,zM 210 212,zE 213 210 0,zE 214 210 1,zA 20 (.alloc 26 [(.sl 2 []),(.sl 2 []),(.bool false),(.sl 2 []),(.sl 2 []),(.int .i64 0),(.int .i64 0),(.int .i64 0),(.int .i64 0),(.int .i64 0),(.int .i64 0),(.int .i64 0),(.int .i64 0),(.str []),(.bool false),(.int .i64 0),(.bool false),(.int .i64 0),(.int .i32 0),(.int .i64 0)]),zS 20 20 213,zM 21 214] false [0,6,7,8,10,15,16,18,19,20,21] [6,7,10,19,20,199]) (.seq (.seq (.reg [zM 215 21,zA 216 (.bin .neq none (.t 215) (.c (.int .i64 0)))] false [0,6,7,8,10,15,16,18,19,20,21,216] [6,7,10,19,20,199]) (.cond (.t 216) (.seq (.reg [zA 217 (.build [(.sl 2 []),(.sl 2 []),(.sl 2 []),(.sl 2 []),(.bool false),(.sl 2 []),(.sl 2 []),(.int .i64 0),(.int .i64 0),(.int .i64 0),(.int .i64 0),(.int .i64 0),(.int .i64 0),(.int .i64 0),(.int .i64 0),(.str []),(.bool false),(.int .i64 0),(.bool false),(.int .i64 0),(.int .i32 0),(.int .i64 0),(.int .i64 0),(.int .i32 0),(.int .i64 0)] []),zM 218 21,zM 219 0,zM 220 8,⟨(some 221),(.ia 4 (.t 219) (.t 220)),none,.ref⟩,zA 222 (.fa 0 (some 3) (.t 221)),zG 223 2 222,⟨(some 224),(.ld none (.t 223)),none,.ref⟩,zA 225 (.build [(.int .i64 0),(.int .i64 0)] [(0,(1,(.t 218))),(1,(1,(.t 224)))]),⟨none,(.st 25 (.t 6) (.t 217)),none,(.at 6 0 25)⟩,zS 2 7 225] true [6,7] [6,7]) .ret) .skip)) ic57_19))
def ic57_21 : IC := (.seq (.reg [zM 201 14,zA 202 (.call 89 [(.t 201,(some 3))]),zM 200 202,zE 203 200 0,zE 204 200 1,zA 19 (.alloc 52 [(.int .i64 0),(.int .i64 0)]),zM 18 203,zS 2 19 204] false [0,6,7,8,10,15,16,18,19] [6,7,10,19,199]) (.seq (.seq (.reg [zG 205 0 19,zL 206 205,zA 207 (.bin .neq none (.t 206) (.c (.int .i64 0)))] false [0,6,7,8,10,15,16,18,19,207] [6,7,10,19,199]) (.cond (.t 207) (.seq (.reg [zA 208 (.build [(.sl 2 []),(.sl 2 []),(.sl 2 []),(.sl 2 []),(.bool false),(.sl 2 []),(.sl 2 []),(.int .i64 0),(.int .i64 0),(.int .i64 0),(.int .i64 0),(.int .i64 0),(.int .i64 0),(.int .i64 0),(.int .i64 0),(.str []),(.bool false),(.int .i64 0),(.bool false),(.int .i64 0),(.int .i32 0),(.int .i64 0),(.int .i64 0),(.int .i32 0),(.int .i64 0)] []),⟨(some 209),(.ld (some 2) (.t 19)),none,(.at 19 0 2)⟩,⟨none,(.st 25 (.t 6) (.t 208)),none,(.at 6 0 25)⟩,zS 2 7 209] true [6,7] [6,7]) .ret) .skip)) ic57_20))
def ic57_22 : IC := (.seq (.reg [zA 14 (.mv (.c .nil)),zA 15 (.mv (.c .nil))] false [0,6,7,8,9,10,14,15] [6,7,10,178,199]) (.seq (.reg [zA 16 (.mv (.c (.str [])))] false [0,6,7,8,9,10,14,15,16] [6,7,10,178,199]) (.seq (.seq (.reg [zI 17 0] false [0,6,7,8,9,10,14,15,16,17] [6,7,10,178,199]) (.block 9 (.loop ic57_17))) ic57_21)))
def ic57_23 : IC := (.seq (.reg [zA 97 (.build [(.sl 2 []),(.sl 2 []),(.sl 2 []),(.sl 2 []),(.bool false),(.sl 2 []),(.sl 2 []),(.int .i64 0),(.int .i64 0),(.int .i64 0),(.int .i64 0),(.int .i64 0),(.int .i64 0),(.int .i64 0),(.int .i64 0),(.str []),(.bool false),(.int .i64 0),(.bool false),(.int .i64 0),(.int .i32 0),(.int .i64 0),(.int .i64 0),(.int .i32 0),(.int .i64 0)] []),zA 10 (.alloc 76 [(.sl 2 []),(.sl 2 []),(.sl 2 []),(.sl 2 []),(.bool false),(.sl 2 []),(.sl 2 []),(.int .i64 0),(.int .i64 0),(.int .i64 0),(.int .i64 0),(.int .i64 0),(.int .i64 0),(.int .i64 0),(.int .i64 0),(.str []),(.bool false),(.int .i64 0),(.bool false),(.int .i64 0),(.int .i32 0),(.int .i64 0),(.int .i64 0),(.int .i32 0),(.int .i64 0)]),zS 25 10 97] false [0,2,6,7,8,9,10] [6,7,10]) (.seq (.reg [zI 11 0] false [0,2,6,7,8,9,10,11] [6,7,10]) (.seq (.seq (.reg [zI 12 0] false [0,2,6,7,8,9,10,11,12] [6,7,10]) (.block 6 (.loop ic57_13))) ic57_22)))
def ic57_24 : IC := (.seq (.seq (.reg [zM 58 9,zM 59 0,zA 60 (.len false (.t 59)),zA 61 (.bin .lss none (.t 58) (.t 60)),zM 62 61,zT 62 63 (.mv (.t 0)),zT 62 64 (.mv (.t 9)),zT 62 65 (.ia 4 (.t 63) (.t 64)),zT 62 66 (.ld (some 4) (.t 65)),zT 62 67 (.call 56 [(.t 66,none),((.c (.int .i32 69)),none)]),zA 68 (.pick (.t 62) (.t 67) (.c (.bool false)))] false [0,2,6,7,8,9,68] [6,7]) (.cond (.t 68) (.seq (.reg [zM 69 9,zA 70 (.bin .add none (.t 69) (.c (.int .i64 1))),zM 9 70] false [0,2,6,7,8,9] [6,7]) (.seq (.seq (.reg [zM 71 9,zM 72 0,zA 73 (.len false (.t 72)),zA 74 (.bin .lss none (.t 71) (.t 73)),zM 75 74,zT 75 76 (.mv (.t 0)),zT 75 77 (.mv (.t 9)),zT 75 78 (.ia 4 (.t 76) (.t 77)),zT 75 79 (.ld (some 4) (.t 78)),zT 75 80 (.call 56 [(.t 79,none),((.c (.int .i32 43)),none)]),zA 81 (.pick (.t 75) (.t 80) (.c (.bool false)))] false [0,2,6,7,8,9,81] [6,7]) (.cond (.t 81) (.reg [zM 82 9,zA 83 (.bin .add none (.t 82) (.c (.int .i64 1))),zM 9 83] false [0,2,6,7,8,9] [6,7]) .skip)) ic57_7)) .skip)) ic57_23)
def ic57_25 : IC := (.seq (.reg [zM 44 8,zM 9 44] false [0,2,6,7,8,9] [6,7]) (.seq (.block 2 (.loop ic57_4)) ic57_24))
def ic57_26 : IC := (.seq (.seq (.reg [zM 37 8,zM 38 0,zA 39 (.len false (.t 38)),zA 40 (.bin .eql none (.t 37) (.t 39))] false [0,1,2,6,7,8,40] [6,7]) (.cond (.t 40) (.seq (.reg [zA 41 (.build [(.sl 2 []),(.sl 2 []),(.sl 2 []),(.sl 2 []),(.bool false),(.sl 2 []),(.sl 2 []),(.int .i64 0),(.int .i64 0),(.int .i64 0),(.int .i64 0),(.int .i64 0),(.int .i64 0),(.int .i64 0),(.int .i64 0),(.str []),(.bool false),(.int .i64 0),(.bool false),(.int .i64 0),(.int .i32 0),(.int .i64 0),(.int .i64 0),(.int .i32 0),(.int .i64 0)] []),zM 42 1,zA 43 (.build [(.int .i64 0),(.int .i64 0)] [(0,(1,(.c (.int .i64 4)))),(1,(1,(.t 42)))]),zS 25 6 41,zS 2 7 43] false [6,7] [6,7]) .ret) .skip)) ic57_25)
def ic57 : IC := (.seq (.reg [zA 6 (.alloc 76 [(.sl 2 []),(.sl 2 []),(.sl 2 []),(.sl 2 []),(.bool false),(.sl 2 []),(.sl 2 []),(.int .i64 0),(.int .i64 0),(.int .i64 0),(.int .i64 0),(.int .i64 0),(.int .i64 0),(.int .i64 0),(.int .i64 0),(.str []),(.bool false),(.int .i64 0),(.bool false),(.int .i64 0),(.int .i32 0),(.int .i64 0),(.int .i64 0),(.int .i32 0),(.int .i64 0)]),zA 7 (.alloc 52 [(.int .i64 0),(.int .i64 0)])] false [0,1,2,6,7] [6,7]) (.seq (.reg [zI 8 0] false [0,1,2,6,7,8] [6,7]) (.seq (.block 0 (.loop ic57_2)) ic57_26)))
def kp57 : List (Nat × Keep) := [(0, ⟨[0, 1, 2, 6, 7], [6, 7], []⟩),
  (1, ⟨[0, 1, 2, 6, 7, 8], [6, 7], []⟩),
  (2, ⟨[0, 1, 2, 6, 7, 8, 34], [6, 7], []⟩),
  (3, ⟨[0, 1, 2, 6, 7, 8], [6, 7], []⟩),
  (4, ⟨[0, 1, 2, 6, 7, 8, 40], [6, 7], []⟩),
  (5, ⟨[6, 7], [6, 7], []⟩),
  (6, ⟨[0, 2, 6, 7, 8, 9], [6, 7], []⟩),
  (7, ⟨[0, 2, 6, 7, 8, 9, 55], [6, 7], []⟩),
  (8, ⟨[0, 2, 6, 7, 8, 9], [6, 7], []⟩),
  (9, ⟨[0, 2, 6, 7, 8, 9, 68], [6, 7], []⟩),
  (10, ⟨[0, 2, 6, 7, 8, 9], [6, 7], []⟩),
  (11, ⟨[0, 2, 6, 7, 8, 9, 81], [6, 7], []⟩),
  (12, ⟨[0, 2, 6, 7, 8, 9], [6, 7], []⟩),
  (13, ⟨[0, 2, 6, 7, 8, 9, 94], [6, 7], []⟩),
  (14, ⟨[0, 2, 6, 7, 8, 9], [6, 7], []⟩),
  (15, ⟨[0, 2, 6, 7, 8, 9, 10], [6, 7, 10], []⟩),
  (16, ⟨[0, 2, 6, 7, 8, 9, 10, 11], [6, 7, 10], []⟩),
  (17, ⟨[0, 2, 6, 7, 8, 9, 10, 11, 12], [6, 7, 10], []⟩),
  (18, ⟨[0, 2, 6, 7, 8, 9, 10, 11, 12, 101], [6, 7, 10], []⟩),
  (19, ⟨[0, 2, 6, 7, 8, 9, 10, 11, 12], [6, 7, 10], []⟩),
  (20, ⟨[0, 2, 6, 7, 8, 9, 10, 11, 12, 109], [6, 7, 10], []⟩),
  (21, ⟨[0, 2, 6, 7, 8, 9, 10, 11, 12, 13], [6, 7, 10], []⟩),
  (22, ⟨[0, 2, 6, 7, 8, 9, 10, 11, 12, 13, 110], [6, 7, 10], []⟩),
  (23, ⟨[0, 2, 6, 7, 8, 9, 10, 11, 12, 13], [6, 7, 10], []⟩),
  (24, ⟨[0, 2, 6, 7, 8, 9, 10, 11, 12, 13, 113], [6, 7, 10], []⟩),
  (25, ⟨[0, 2, 6, 7, 8, 9, 10, 11, 12, 13], [6, 7, 10], []⟩),
  (26, ⟨[0, 2, 6, 7, 8, 9, 10, 11, 12, 13, 118], [6, 7, 10], []⟩),
  (27, ⟨[0, 2, 6, 7, 8, 9, 10, 11, 12, 13], [6, 7, 10], []⟩),
  (28, ⟨[0, 2, 6, 7, 8, 9, 10, 11, 12, 13, 122], [6, 7, 10], []⟩),
  (29, ⟨[0, 2, 6, 7, 8, 9, 10, 11, 12, 13], [6, 7, 10], []⟩),
  (30, ⟨[0, 2, 6, 7, 8, 9, 10, 11, 12, 13], [6, 7, 10], []⟩),
  (31, ⟨[0, 2, 6, 7, 8, 9, 10, 11, 12, 13, 139], [6, 7, 10], []⟩),
  (32, ⟨[6, 7], [6, 7], [(3, .ref), (6, .ref), (8, .at 6 0 25)]⟩),
  (33, ⟨[0, 2, 6, 7, 8, 9, 10, 11, 12], [6, 7, 10], [(3, .ref), (6, .ref), (8, .at 10 22 1)]⟩),
  (34, ⟨[0, 6, 7, 8, 9, 10, 14, 15], [6, 7, 10, 178, 199], []⟩),
  (35, ⟨[0, 6, 7, 8, 9, 10, 14, 15, 16], [6, 7, 10, 178, 199], []⟩),
  (36, ⟨[0, 6, 7, 8, 9, 10, 14, 15, 16, 17], [6, 7, 10, 178, 199], []⟩),
  (37, ⟨[0, 6, 7, 8, 9, 10, 14, 15, 16, 17, 160], [6, 7, 10, 178, 199], []⟩),
  (38, ⟨[0, 6, 7, 8, 9, 10, 14, 15, 16, 17], [6, 7, 10, 178, 199], []⟩),
  (39, ⟨[0, 6, 7, 8, 9, 10, 14, 15, 16, 17, 167], [6, 7, 10, 178, 199], []⟩),
  (40, ⟨[0, 6, 7, 8, 9, 10, 14, 15, 16, 17, 170], [6, 7, 10, 178, 199], []⟩),
  (41, ⟨[0, 6, 7, 8, 9, 10, 14, 15, 16, 17], [6, 7, 10, 178, 199], []⟩),
  (42, ⟨[0, 6, 7, 8, 9, 10, 14, 15, 16, 17, 181], [6, 7, 10, 178, 199], []⟩),
  (43, ⟨[0, 6, 7, 8, 9, 10, 14, 15, 16, 17], [6, 7, 10, 178, 199], []⟩),
  (44, ⟨[0, 6, 7, 8, 9, 10, 14, 15, 16, 17], [6, 7, 10, 178, 199], []⟩),
  (45, ⟨[0, 6, 7, 8, 10, 15, 16, 18, 19], [6, 7, 10, 19, 199], []⟩),
  (46, ⟨[0, 6, 7, 8, 10, 15, 16, 18, 19, 207], [6, 7, 10, 19, 199], []⟩),
  (47, ⟨[6, 7], [6, 7], [(1, .at 19 0 2), (2, .at 6 0 25)]⟩),
  (48, ⟨[0, 6, 7, 8, 10, 15, 16, 18, 19, 20, 21], [6, 7, 10, 19, 20, 199], []⟩),
  (49, ⟨[0, 6, 7, 8, 10, 15, 16, 18, 19, 20, 21, 216], [6, 7, 10, 19, 20, 199], []⟩),
  (50, ⟨[6, 7], [6, 7], [(4, .ref), (7, .ref), (9, .at 6 0 25)]⟩),
  (51, ⟨[6, 7, 10, 16, 18, 19, 20, 22], [6, 7, 10, 19, 20], []⟩),
  (52, ⟨[6, 7, 10, 16, 18, 19, 20, 22, 233], [6, 7, 10, 19, 20], []⟩),
  (53, ⟨[6, 7], [6, 7], [(1, .at 19 0 2), (2, .at 6 0 25)]⟩),
  (54, ⟨[6, 7, 10], [6, 7, 10], [(2, .at 20 0 20), (4, .ref), (6, .at 10 0 1), (8, .at 10 1 1), (10, .at 10 2 20)]⟩),
  (55, ⟨[6, 7], [6, 7], []⟩)]
theorem c57 : (Tryz.f57.body.bind fun c => compC Tryz.prog 247 [] kp57 c) = some ic57 := by kernel_rfl
theorem e57 {args : List AV} {r : AV} (ha : args.length ≤ 247) (h : VC e0 ic57 (retQ [(6, (some (some 25))), (7, (some (some 2)))] r) ⟨argT 0 args, []⟩) : Fn 57 args r := fn_of Tryz.func57 rfl (by kernel_rfl) c57 ha (by decide) h
def ic85_1 : IC := (.seq (.reg [zM 22 4,zM 23 6,zA 24 (.lit false 21 1 [(.t 23)]),zA 25 (.app 21 1 4 (.t 22) (.t 24)),zM 4 25] false [0,4,5,7] [25]) (.reg [zM 26 5,zM 27 7,zA 28 (.bin .add none (.t 26) (.t 27)),zM 5 28] false [0,4,5] [25]))
def ic85_2 : IC := (.block 1 (.seq (.reg [zM 13 0,zM 14 5,zA 15 (.ss (.t 13) (some (.t 14)) none),zC 16 86 15,zM 12 16,zE 17 12 0,zE 18 12 1,zM 6 17,zM 7 18] false [0,4,5,6,7] [25]) (.seq (.seq (.reg [zM 19 7,zA 20 (.bin .eql none (.t 19) (.c (.int .i64 0)))] false [0,4,5,6,7,20] [25]) (.cond (.t 20) (.seq (.reg [zM 21 5,zA 2 (.mv (.c .nil)),zM 3 21] false [2,3] [25]) .ret) .skip)) ic85_1)))
def ic85_3 : IC := (.seq (.seq (.reg [zM 8 5,zM 9 0,zA 10 (.len true (.t 9)),zA 11 (.bin .lss none (.t 8) (.t 10))] false [0,4,5,11] [25]) (.cond (.t 11) .skip (.exit 0))) ic85_2)
def ic85_4 : IC := (.seq (.reg [zM 29 4,zM 2 29,zA 3 (.mv (.c (.int .i64 (-1))))] false [2,3] [25]) .ret)
def ic85 : IC := (.seq (.reg [zA 2 (.mv (.c .nil)),zI 3 0] false [0] []) (.seq (.reg [zA 4 (.mv (.c .nil))] false [0,4] [25]) (.seq (.reg [zI 5 0] false [0,4,5] [25]) (.seq (.block 0 (.loop ic85_3)) ic85_4))))
def kp85 : List (Nat × Keep) := [(0, ⟨[0], [], []⟩),
  (1, ⟨[0, 4], [25], []⟩),
  (2, ⟨[0, 4, 5], [25], []⟩),
  (3, ⟨[0, 4, 5, 11], [25], []⟩),
  (4, ⟨[0, 4, 5, 6, 7], [25], []⟩),
  (5, ⟨[0, 4, 5, 6, 7, 20], [25], []⟩),
  (6, ⟨[2, 3], [25], []⟩),
  (7, ⟨[0, 4, 5, 7], [25], []⟩),
  (8, ⟨[0, 4, 5], [25], []⟩),
  (9, ⟨[2, 3], [25], []⟩)]
theorem c85 : (Tryz.f85.body.bind fun c => compC Tryz.prog 30 [] kp85 c) = some ic85 := by kernel_rfl
theorem e85 {args : List AV} {r : AV} (ha : args.length ≤ 30) (h : VC e0 ic85 (retQ [(2, none), (3, none)] r) ⟨argT 0 args, []⟩) : Fn 85 args r := fn_of Tryz.func85 rfl (by kernel_rfl) c85 ha (by decide) h
def ic86_1 : IC := (.reg [zM 49 6,zA 50 (.bin .add none (.t 49) (.c (.int .i64 1))),zM 6 50] false [0,4,5,6] [])
def ic86_2 : IC := (.seq (.block 2 (.seq (.reg [zM 51 4,zA 52 (.bin .mul none (.t 51) (.c (.int .i64 64))),zM 53 0,zM 54 6,zA 55 (.ix (.t 53) (.t 54)),zA 56 (.conv .i64 (.t 55)),zA 57 (.bin .add none (.t 52) (.t 56)),zA 58 (.bin .sub none (.t 57) (.c (.int .i64 128))),zM 4 58] false [0,4,5,6] []) (.seq (.reg [zM 59 0,zM 60 6,zA 61 (.ix (.t 59) (.t 60)),zA 62 (.bin .lss none (.t 61) (.c (.int .u8 128))),zM 63 62,zF 63 64 (.mv (.t 0)),zF 63 65 (.mv (.t 6)),zF 63 66 (.ix (.t 64) (.t 65)),zF 63 67 (.bin .gtr none (.t 66) (.c (.int .u8 191))),zA 68 (.pick (.t 63) (.c (.bool true)) (.t 67))] false [0,4,5,6,68] []) (.cond (.t 68) (.seq (.reg [zA 2 (.mv (.c (.int .i32 0))),zI 3 0] false [2,3] []) .ret) .skip)))) ic86_1)
def ic86_3 : IC := (.seq (.seq (.reg [zM 46 6,zM 47 5,zA 48 (.bin .lss none (.t 46) (.t 47))] false [0,4,5,6,48] []) (.cond (.t 48) .skip (.exit 1))) ic86_2)
def ic86_4 : IC := (.seq (.reg [zM 83 4,zA 84 (.conv .i32 (.t 83)),zM 85 5,zM 2 84,zM 3 85] false [2,3] []) .ret)
def ic86_5 : IC := (.seq (.seq (.reg [zM 69 4,zA 70 (.conv .i32 (.t 69)),zC 71 113 70,zA 72 (.not (.t 71)),zM 73 72,zF 73 74 (.mv (.t 4)),zF 73 75 (.conv .i32 (.t 74)),zF 73 76 (.call 88 [(.t 75,none)]),zF 73 77 (.b2s (.t 76)),zF 73 78 (.mv (.t 0)),zF 73 79 (.mv (.t 5)),zF 73 80 (.ss (.t 78) none (some (.t 79))),zF 73 81 (.bin .neq none (.t 77) (.t 80)),zA 82 (.pick (.t 73) (.c (.bool true)) (.t 81))] true [4,5,82] []) (.cond (.t 82) (.seq (.reg [zA 2 (.mv (.c (.int .i32 0))),zI 3 0] false [2,3] []) .ret) .skip)) ic86_4)
def ic86_6 : IC := (.seq (.seq (.reg [zI 6 1] false [0,4,5,6] []) (.block 1 (.loop ic86_3))) ic86_5)
def ic86_7 : IC := (.seq (.seq (.reg [zM 42 0,zA 43 (.len true (.t 42)),zM 44 5,zA 45 (.bin .lss none (.t 43) (.t 44))] false [0,4,5,45] []) (.cond (.t 45) (.seq (.reg [zA 2 (.mv (.c (.int .i32 0))),zI 3 0] false [2,3] []) .ret) .skip)) ic86_6)
def ic86_8 : IC := (.seq (.reg [zM 9 0,zA 10 (.ix (.t 9) (.c (.int .i64 0))),zA 11 (.conv .i64 (.t 10)),zM 4 11,zI 5 1] false [0,4,5] []) (.seq (.block 0 (.seq (.reg [zM 13 4,zA 14 (.bin .lss none (.t 13) (.c (.int .i64 128))),zM 12 14] false [0,4,5,12] []) (.cond (.t 12) .skip (.seq (.reg [zM 16 4,zA 17 (.bin .geq none (.t 16) (.c (.int .i64 192))),zM 18 17,zT 18 19 (.mv (.t 4)),zT 18 20 (.bin .lss none (.t 19) (.c (.int .i64 224))),zA 21 (.pick (.t 18) (.t 20) (.c (.bool false))),zM 15 21] false [0,4,15] []) (.cond (.t 15) (.reg [zM 22 4,zA 23 (.bin .sub none (.t 22) (.c (.int .i64 192))),zM 4 23,zI 5 2] false [0,4,5] []) (.seq (.reg [zM 25 4,zA 26 (.bin .geq none (.t 25) (.c (.int .i64 224))),zM 27 26,zT 27 28 (.mv (.t 4)),zT 27 29 (.bin .lss none (.t 28) (.c (.int .i64 240))),zA 30 (.pick (.t 27) (.t 29) (.c (.bool false))),zM 24 30] false [0,4,24] []) (.cond (.t 24) (.reg [zM 31 4,zA 32 (.bin .sub none (.t 31) (.c (.int .i64 224))),zM 4 32,zI 5 3] false [0,4,5] []) (.seq (.reg [zM 34 4,zA 35 (.bin .geq none (.t 34) (.c (.int .i64 240))),zM 36 35,zT 36 37 (.mv (.t 4)),zT 36 38 (.bin .lss none (.t 37) (.c (.int .i64 248))),zA 39 (.pick (.t 36) (.t 38) (.c (.bool false))),zM 33 39] false [0,4,33] []) (.cond (.t 33) (.reg [zM 40 4,zA 41 (.bin .sub none (.t 40) (.c (.int .i64 240))),zM 4 41,zI 5 4] false [0,4,5] []) (.seq (.reg [zA 2 (.mv (.c (.int .i32 0))),zI 3 0] false [2,3] []) .ret)))))))))) ic86_7))
def ic86 : IC := (.seq (.reg [zA 2 (.mv (.c (.int .i32 0))),zI 3 0] false [0] []) (.seq (.seq (.reg [zM 7 0,zA 8 (.bin .eql none (.t 7) (.c (.str [])))] false [0,8] []) (.cond (.t 8) (.seq (.reg [zA 2 (.mv (.c (.int .i32 0))),zI 3 0] false [2,3] []) .ret) .skip)) ic86_8))
def kp86 : List (Nat × Keep) := [(0, ⟨[0], [], []⟩),
  (1, ⟨[0, 8], [], []⟩),
  (2, ⟨[2, 3], [], []⟩),
  (3, ⟨[0, 4, 5], [], []⟩),
  (4, ⟨[2, 3], [], []⟩),
  (5, ⟨[0, 4, 5, 12], [], []⟩),
  (6, ⟨[0, 4, 15], [], []⟩),
  (7, ⟨[0, 4, 5], [], []⟩),
  (8, ⟨[0, 4, 24], [], []⟩),
  (9, ⟨[0, 4, 5], [], []⟩),
  (10, ⟨[0, 4, 33], [], []⟩),
  (11, ⟨[0, 4, 5], [], []⟩),
  (12, ⟨[0, 4, 5, 45], [], []⟩),
  (13, ⟨[2, 3], [], []⟩),
  (14, ⟨[0, 4, 5, 6], [], []⟩),
  (15, ⟨[0, 4, 5, 6, 48], [], []⟩),
  (16, ⟨[0, 4, 5, 6], [], []⟩),
  (17, ⟨[0, 4, 5, 6], [], []⟩),
  (18, ⟨[0, 4, 5, 6, 68], [], []⟩),
  (19, ⟨[2, 3], [], []⟩),
  (20, ⟨[4, 5, 82], [], []⟩),
  (21, ⟨[2, 3], [], []⟩),
  (22, ⟨[2, 3], [], []⟩)]
theorem c86 : (Tryz.f86.body.bind fun c => compC Tryz.prog 86 [] kp86 c) = some ic86 := by kernel_rfl
theorem e86 {args : List AV} {r : AV} (ha : args.length ≤ 86) (h : VC e0 ic86 (retQ [(2, none), (3, none)] r) ⟨argT 0 args, []⟩) : Fn 86 args r := fn_of Tryz.func86 rfl (by kernel_rfl) c86 ha (by decide) h
def ic87 : IC := (.seq (.reg [zA 1 (.box 73 (.t 0)),zA 2 (.mv (.c (.bool false)))] false [1] [1]) (.seq (.reg [zG 3 3 1,zL 4 3,zA 5 (.not (.t 4)),zM 6 5,zT 6 7 (.fa 0 (some 3) (.t 1)),zT 6 8 (.fa 1 none (.t 7)),zT 6 9 (.ld none (.t 8)),zT 6 10 (.not (.t 9)),zA 11 (.pick (.t 6) (.t 10) (.c (.bool false))),zM 12 11,zT 12 13 (.fa 0 (some 3) (.t 1)),zT 12 14 (.fa 0 none (.t 13)),zT 12 15 (.ld none (.t 14)),zT 12 16 (.call 114 [(.t 15,none)]),zA 17 (.pick (.t 12) (.t 16) (.c (.bool false))),zM 18 17,zT 18 19 (.fa 0 (some 3) (.t 1)),zT 18 20 (.fa 0 none (.t 19)),zT 18 21 (.ld none (.t 20)),zT 18 22 (.bin .neq none (.t 21) (.c (.int .i32 59))),zA 23 (.pick (.t 18) (.t 22) (.c (.bool false))),zM 24 23,zT 24 25 (.fa 0 (some 3) (.t 1)),zT 24 26 (.fa 0 none (.t 25)),zT 24 27 (.ld none (.t 26)),zT 24 28 (.bin .neq none (.t 27) (.c (.int .i32 42))),zA 29 (.pick (.t 24) (.t 28) (.c (.bool false))),zM 2 29] false [2] []) .ret))
def kp87 : List (Nat × Keep) := [(0, ⟨[1], [1], []⟩),
  (1, ⟨[2], [], []⟩)]
theorem c87 : (Tryz.f87.body.bind fun c => compC Tryz.prog 30 [] kp87 c) = some ic87 := by kernel_rfl
theorem e87 {args : List AV} {r : AV} (ha : args.length ≤ 30) (h : VC e0 ic87 (retQ [(2, none)] r) ⟨argT 0 args, []⟩) : Fn 87 args r := fn_of Tryz.func87 rfl (by kernel_rfl) c87 ha (by decide) h
def ic88_1 : IC := (.seq (.reg [zM 41 3,zA 42 (.bin .quo none (.t 41) (.c (.int .i64 262144))),zA 43 (.bin .add none (.c (.int .i64 240)) (.t 42)),zA 44 (.conv .u8 (.t 43)),zM 45 3,zA 46 (.bin .quo none (.t 45) (.c (.int .i64 4096))),zA 47 (.bin .rem none (.t 46) (.c (.int .i64 64))),zA 48 (.bin .add none (.c (.int .i64 128)) (.t 47)),zA 49 (.conv .u8 (.t 48)),zM 50 3,zA 51 (.bin .quo none (.t 50) (.c (.int .i64 64))),zA 52 (.bin .rem none (.t 51) (.c (.int .i64 64))),zA 53 (.bin .add none (.c (.int .i64 128)) (.t 52)),zA 54 (.conv .u8 (.t 53)),zM 55 3,zA 56 (.bin .rem none (.t 55) (.c (.int .i64 64))),zA 57 (.bin .add none (.c (.int .i64 128)) (.t 56)),zA 58 (.conv .u8 (.t 57)),zA 59 (.lit false 5 1 [(.t 44),(.t 49),(.t 54),(.t 58)]),zM 2 59] false [2] [11,23,40,59]) .ret)
def ic88 : IC := (.seq (.reg [zA 2 (.mv (.c .nil))] false [0] []) (.seq (.reg [zM 4 0,zA 5 (.conv .i64 (.t 4)),zM 3 5] false [3] []) (.seq (.block 0 (.seq (.reg [zM 7 3,zA 8 (.bin .lss none (.t 7) (.c (.int .i64 128))),zM 6 8] false [3,6] []) (.cond (.t 6) (.seq (.reg [zM 9 3,zA 10 (.conv .u8 (.t 9)),zA 11 (.lit false 5 1 [(.t 10)]),zM 2 11] false [2] [11,23,40,59]) .ret) (.seq (.reg [zM 13 3,zA 14 (.bin .lss none (.t 13) (.c (.int .i64 2048))),zM 12 14] false [3,12] []) (.cond (.t 12) (.seq (.reg [zM 15 3,zA 16 (.bin .quo none (.t 15) (.c (.int .i64 64))),zA 17 (.bin .add none (.c (.int .i64 192)) (.t 16)),zA 18 (.conv .u8 (.t 17)),zM 19 3,zA 20 (.bin .rem none (.t 19) (.c (.int .i64 64))),zA 21 (.bin .add none (.c (.int .i64 128)) (.t 20)),zA 22 (.conv .u8 (.t 21)),zA 23 (.lit false 5 1 [(.t 18),(.t 22)]),zM 2 23] false [2] [11,23,40,59]) .ret) (.seq (.reg [zM 25 3,zA 26 (.bin .lss none (.t 25) (.c (.int .i64 65536))),zM 24 26] false [3,24] []) (.cond (.t 24) (.seq (.reg [zM 27 3,zA 28 (.bin .quo none (.t 27) (.c (.int .i64 4096))),zA 29 (.bin .add none (.c (.int .i64 224)) (.t 28)),zA 30 (.conv .u8 (.t 29)),zM 31 3,zA 32 (.bin .quo none (.t 31) (.c (.int .i64 64))),zA 33 (.bin .rem none (.t 32) (.c (.int .i64 64))),zA 34 (.bin .add none (.c (.int .i64 128)) (.t 33)),zA 35 (.conv .u8 (.t 34)),zM 36 3,zA 37 (.bin .rem none (.t 36) (.c (.int .i64 64))),zA 38 (.bin .add none (.c (.int .i64 128)) (.t 37)),zA 39 (.conv .u8 (.t 38)),zA 40 (.lit false 5 1 [(.t 30),(.t 35),(.t 39)]),zM 2 40] false [2] [11,23,40,59]) .ret) .skip))))))) ic88_1)))
def kp88 : List (Nat × Keep) := [(0, ⟨[0], [], []⟩),
  (1, ⟨[3], [], []⟩),
  (2, ⟨[3, 6], [], []⟩),
  (3, ⟨[2], [11, 23, 40, 59], []⟩),
  (4, ⟨[3, 12], [], []⟩),
  (5, ⟨[2], [11, 23, 40, 59], []⟩),
  (6, ⟨[3, 24], [], []⟩),
  (7, ⟨[2], [11, 23, 40, 59], []⟩),
  (8, ⟨[2], [11, 23, 40, 59], []⟩)]
theorem c88 : (Tryz.f88.body.bind fun c => compC Tryz.prog 60 [] kp88 c) = some ic88 := by kernel_rfl
theorem e88 {args : List AV} {r : AV} (ha : args.length ≤ 60) (h : VC e0 ic88 (retQ [(2, none)] r) ⟨argT 0 args, []⟩) : Fn 88 args r := fn_of Tryz.func88 rfl (by kernel_rfl) c88 ha (by decide) h
def ic89_1 : IC := (.seq (.reg [zG 35 1 6,zL 36 35,zC 37 115 36,zM 7 37] false [0,3,4,5,6,7] [3,6,45]) (.seq (.reg [zM 38 7,zA 39 (.bin .gtr none (.t 38) (.c (.int .i64 0)))] false [0,3,4,5,6,7,39] [3,6,45]) (.cond (.t 39) (.reg [zM 40 7,zA 41 (.build [(.int .i64 0),(.int .i32 0)] [(0,(1,(.t 40)))]),zS 2 6 41] false [0,3,4,5,6] [3,6,45]) .skip)))
def ic89_2 : IC := (.reg [zM 42 4,zK 43 2 6,zA 44 (.lit false 80 2 [(.t 43)]),zA 45 (.app 80 2 16 (.t 42) (.t 44)),zM 4 45] false [0,3,4,5] [3,45])
def ic89_3 : IC := (.reg [zM 12 5,zA 13 (.bin .add none (.t 12) (.c (.int .i64 1))),zM 5 13] false [0,3,4,5] [3,45])
def ic89_4 : IC := (.seq (.block 1 (.seq (.reg [zM 14 0,zM 15 5,zA 16 (.ia 3 (.t 14) (.t 15)),zG 17 0 16,zL 18 17,zA 19 (.build [(.int .i64 0),(.int .i32 0)] [(0,(1,(.c (.int .i64 1)))),(1,(1,(.t 18)))]),zA 6 (.alloc 80 [(.int .i64 0),(.int .i32 0)]),zS 2 6 19] false [0,3,4,5,6] [3,6,45]) (.seq (.seq (.reg [zM 20 0,zM 21 5,zA 22 (.ia 3 (.t 20) (.t 21)),zG 23 1 22,zL 24 23,zA 25 (.not (.t 24))] false [0,3,4,5,6,25] [3,6,45]) (.cond (.t 25) (.seq (.seq (.reg [zG 26 1 6,zL 27 26,zC 28 114 27] false [0,3,4,5,6,28] [3,6,45]) (.cond (.t 28) (.seq (.reg [zM 29 0,zM 30 5,zA 31 (.ia 3 (.t 29) (.t 30)),zG 32 2 31,zL 33 32,zA 34 (.build [(.int .i64 0),(.int .i64 0)] [(0,(1,(.c (.int .i64 4)))),(1,(1,(.t 33)))]),zA 2 (.mv (.c .nil)),zS 2 3 34] true [2,3] [3,45]) .ret) .skip)) ic89_1) .skip)) ic89_2))) ic89_3)
def ic89_5 : IC := (.seq (.seq (.reg [zM 8 5,zM 9 0,zA 10 (.len false (.t 9)),zA 11 (.bin .lss none (.t 8) (.t 10))] false [0,3,4,5,11] [3,45]) (.cond (.t 11) .skip (.exit 0))) ic89_4)
def ic89_6 : IC := (.seq (.reg [zM 50 4,zA 51 (.build [(.int .i64 0),(.int .i64 0)] []),zM 2 50,zS 2 3 51] false [2,3] [3,45]) .ret)
def ic89_7 : IC := (.seq (.seq (.reg [zM 46 4,zA 47 (.len false (.t 46)),zA 48 (.bin .gtr none (.t 47) (.c (.int .i64 40)))] false [3,4,48] [3,45]) (.cond (.t 48) (.seq (.reg [zA 49 (.build [(.int .i64 0),(.int .i64 0)] [(0,(1,(.c (.int .i64 8))))]),zA 2 (.mv (.c .nil)),zS 2 3 49] false [2,3] [3,45]) .ret) .skip)) ic89_6)
def ic89 : IC := (.seq (.reg [zA 2 (.mv (.c .nil)),zA 3 (.alloc 52 [(.int .i64 0),(.int .i64 0)])] false [0,3] [3]) (.seq (.reg [zA 4 (.mv (.c .nil))] false [0,3,4] [3,45]) (.seq (.seq (.reg [zI 5 0] false [0,3,4,5] [3,45]) (.block 0 (.loop ic89_5))) ic89_7)))
def kp89 : List (Nat × Keep) := [(0, ⟨[0, 3], [3], []⟩),
  (1, ⟨[0, 3, 4], [3, 45], []⟩),
  (2, ⟨[0, 3, 4, 5], [3, 45], []⟩),
  (3, ⟨[0, 3, 4, 5, 11], [3, 45], []⟩),
  (4, ⟨[0, 3, 4, 5], [3, 45], []⟩),
  (5, ⟨[0, 3, 4, 5, 6], [3, 6, 45], []⟩),
  (6, ⟨[0, 3, 4, 5, 6, 25], [3, 6, 45], []⟩),
  (7, ⟨[0, 3, 4, 5, 6, 28], [3, 6, 45], []⟩),
  (8, ⟨[2, 3], [3, 45], []⟩),
  (9, ⟨[0, 3, 4, 5, 6, 7], [3, 6, 45], []⟩),
  (10, ⟨[0, 3, 4, 5, 6, 7, 39], [3, 6, 45], []⟩),
  (11, ⟨[0, 3, 4, 5, 6], [3, 6, 45], []⟩),
  (12, ⟨[0, 3, 4, 5], [3, 45], []⟩),
  (13, ⟨[3, 4, 48], [3, 45], []⟩),
  (14, ⟨[2, 3], [3, 45], []⟩),
  (15, ⟨[2, 3], [3, 45], []⟩)]
theorem c89 : (Tryz.f89.body.bind fun c => compC Tryz.prog 52 [] kp89 c) = some ic89 := by kernel_rfl
theorem e89 {args : List AV} {r : AV} (ha : args.length ≤ 52) (h : VC e0 ic89 (retQ [(2, none), (3, (some (some 2)))] r) ⟨argT 0 args, []⟩) : Fn 89 args r := fn_of Tryz.func89 rfl (by kernel_rfl) c89 ha (by decide) h
def ic90_1 : IC := (.reg [zM 54 6,zA 55 (.len true (.t 54)),zG 56 14 4,zU (.st 1 (.t 56) (.c (.bool true))),zG 57 15 4,zS 1 57 55] false [2,4,5,7] [2,4])
def ic90_2 : IC := (.seq (.seq (.reg [zM 50 6,zA 51 (.len true (.t 50)),zA 52 (.bin .gtr none (.t 51) (.c (.int .i64 9)))] false [2,4,5,6,7,52] [2,4]) (.cond (.t 52) (.seq (.reg [zA 53 (.build [(.sl 2 []),(.sl 2 []),(.bool false),(.sl 2 []),(.sl 2 []),(.int .i64 0),(.int .i64 0),(.int .i64 0),(.int .i64 0),(.int .i64 0),(.int .i64 0),(.int .i64 0),(.int .i64 0),(.str []),(.bool false),(.int .i64 0),(.bool false),(.int .i64 0),(.int .i32 0),(.int .i64 0)] []),zS 20 2 53,zI 3 8] false [2,3] [2]) .ret) .skip)) ic90_1)
def ic90_3 : IC := (.seq (.seq (.reg [zM 42 6,zA 43 (.bin .eql none (.t 42) (.c (.str []))),zM 44 43,zF 44 45 (.mv (.t 6)),zF 44 46 (.call 117 [(.t 45,none)]),zF 44 47 (.bin .neq none (.t 46) (.c (.str []))),zA 48 (.pick (.t 44) (.c (.bool true)) (.t 47))] false [2,4,5,6,7,48] [2,4]) (.cond (.t 48) (.seq (.reg [zA 49 (.build [(.sl 2 []),(.sl 2 []),(.bool false),(.sl 2 []),(.sl 2 []),(.int .i64 0),(.int .i64 0),(.int .i64 0),(.int .i64 0),(.int .i64 0),(.int .i64 0),(.int .i64 0),(.int .i64 0),(.str []),(.bool false),(.int .i64 0),(.bool false),(.int .i64 0),(.int .i32 0),(.int .i64 0)] []),zS 20 2 49,zI 3 4] false [2,3] [2]) .ret) .skip)) ic90_2)
def ic90_4 : IC := (.reg [zM 62 8,zA 63 (.bin .add none (.t 62) (.c (.int .i64 1))),zM 8 63] false [2,4,5,7,8] [2,4])
def ic90_5 : IC := (.seq (.block 1 (.seq (.reg [zM 64 5,zM 65 8,zA 66 (.ix (.t 64) (.t 65)),zM 9 66] false [2,4,5,7,8,9] [2,4]) (.seq (.reg [zM 67 9,zA 68 (.bin .neq none (.t 67) (.c (.int .u8 35))),zM 69 68,zT 69 70 (.mv (.t 9)),zT 69 71 (.bin .neq none (.t 70) (.c (.int .u8 64))),zA 72 (.pick (.t 69) (.t 71) (.c (.bool false))),zM 73 72,zT 73 74 (.mv (.t 9)),zT 73 75 (.bin .neq none (.t 74) (.c (.int .u8 44))),zA 76 (.pick (.t 73) (.t 75) (.c (.bool false))),zM 77 76,zT 77 78 (.mv (.t 9)),zT 77 79 (.bin .neq none (.t 78) (.c (.int .u8 46))),zA 80 (.pick (.t 77) (.t 79) (.c (.bool false))),zM 81 80,zT 81 82 (.mv (.t 9)),zT 81 83 (.bin .lss none (.t 82) (.c (.int .u8 48))),zT 81 84 (.mv (.t 83)),zF 84 85 (.mv (.t 9)),zF 84 86 (.bin .gtr none (.t 85) (.c (.int .u8 57))),zT 81 87 (.pick (.t 84) (.c (.bool true)) (.t 86)),zA 88 (.pick (.t 81) (.t 87) (.c (.bool false)))] false [2,4,5,7,8,88] [2,4]) (.cond (.t 88) (.seq (.reg [zA 89 (.build [(.sl 2 []),(.sl 2 []),(.bool false),(.sl 2 []),(.sl 2 []),(.int .i64 0),(.int .i64 0),(.int .i64 0),(.int .i64 0),(.int .i64 0),(.int .i64 0),(.int .i64 0),(.int .i64 0),(.str []),(.bool false),(.int .i64 0),(.bool false),(.int .i64 0),(.int .i32 0),(.int .i64 0)] []),zS 20 2 89,zI 3 4] false [2,3] [2]) .ret) .skip)))) ic90_4)
def ic90_6 : IC := (.seq (.seq (.reg [zM 58 8,zM 59 5,zA 60 (.len true (.t 59)),zA 61 (.bin .lss none (.t 58) (.t 60))] false [2,4,5,7,8,61] [2,4]) (.cond (.t 61) .skip (.exit 0))) ic90_5)
def ic90_7 : IC := (.seq (.reg [zM 136 13,zM 137 15,zA 138 (.lit false 3 1 [(.t 137)]),zA 139 (.app 3 1 8 (.t 136) (.t 138)),zM 13 139] false [2,4,7,10,11,12,13,14,16] [2,4,139]) (.reg [zI 15 0] false [2,4,7,10,11,12,13,14,15,16] [2,4,139]))
def ic90_8 : IC := (.reg [zM 115 16,zA 116 (.bin .add none (.t 115) (.c (.int .i64 1))),zM 16 116] false [2,4,7,10,11,12,13,14,15,16] [2,4,139])
def ic90_9 : IC := (.seq (.block 3 (.seq (.seq (.reg [zM 117 16,zM 118 10,zA 119 (.len true (.t 118)),zA 120 (.bin .lss none (.t 117) (.t 119)),zM 121 120,zT 121 122 (.mv (.t 10)),zT 121 123 (.mv (.t 16)),zT 121 124 (.ix (.t 122) (.t 123)),zT 121 125 (.bin .neq none (.t 124) (.c (.int .u8 44))),zA 126 (.pick (.t 121) (.t 125) (.c (.bool false)))] false [2,4,7,10,11,12,13,14,15,16,126] [2,4,139]) (.cond (.t 126) (.seq (.reg [zM 127 14,zM 128 10,zM 129 16,zM 130 16,zA 131 (.bin .add none (.t 130) (.c (.int .i64 1))),zA 132 (.ss (.t 128) (some (.t 129)) (some (.t 131))),zA 133 (.bin .add none (.t 127) (.t 132)),zM 14 133] false [2,4,7,10,11,12,13,14,15,16] [2,4,139]) (.seq (.reg [zM 134 15,zA 135 (.bin .add none (.t 134) (.c (.int .i64 1))),zM 15 135] false [2,4,7,10,11,12,13,14,15,16] [2,4,139]) (.exit 3))) .skip)) ic90_7)) ic90_8)
def ic90_10 : IC := (.seq (.seq (.reg [zM 111 16,zM 112 10,zA 113 (.len true (.t 112)),zA 114 (.bin .leq none (.t 111) (.t 113))] false [2,4,7,10,11,12,13,14,15,16,114] [2,4,139]) (.cond (.t 114) .skip (.exit 2))) ic90_9)
def ic90_11 : IC := (.reg [zM 144 17,zA 145 (.bin .add none (.t 144) (.c (.int .i64 1))),zM 17 145] false [2,4,7,11,12,13,14,17] [2,4,139])
def ic90_12 : IC := (.seq (.block 5 (.seq (.reg [zM 146 13,zA 147 (.len false (.t 146)),zA 148 (.bin .gtr none (.t 147) (.c (.int .i64 1))),zM 149 148,zT 149 150 (.mv (.t 13)),zT 149 151 (.mv (.t 17)),zT 149 152 (.ia 1 (.t 150) (.t 151)),zT 149 153 (.ld none (.t 152)),zT 149 154 (.bin .eql none (.t 153) (.c (.int .i64 0))),zA 155 (.pick (.t 149) (.t 154) (.c (.bool false)))] false [2,4,7,11,12,13,14,17,155] [2,4,139]) (.cond (.t 155) (.seq (.reg [zA 156 (.build [(.sl 2 []),(.sl 2 []),(.bool false),(.sl 2 []),(.sl 2 []),(.int .i64 0),(.int .i64 0),(.int .i64 0),(.int .i64 0),(.int .i64 0),(.int .i64 0),(.int .i64 0),(.int .i64 0),(.str []),(.bool false),(.int .i64 0),(.bool false),(.int .i64 0),(.int .i32 0),(.int .i64 0)] []),zS 20 2 156,zI 3 5] false [2,3] [2]) .ret) .skip))) ic90_11)
def ic90_13 : IC := (.seq (.seq (.reg [zM 140 17,zM 141 13,zA 142 (.len false (.t 141)),zA 143 (.bin .lss none (.t 140) (.t 142))] false [2,4,7,11,12,13,14,17,143] [2,4,139]) (.cond (.t 143) .skip (.exit 4))) ic90_12)
def ic90_14 : IC := (.block 7 (.reg [zG 218 10 4,zL 219 218,zA 220 (.bin .sub none (.t 219) (.c (.int .i64 1))),zG 221 10 4,zS 1 221 220] false [2,4,7,13,14] [2,4,139]))
def ic90_15 : IC := (.seq (.seq (.reg [zM 210 14,zM 211 14,zA 212 (.len true (.t 211)),zG 213 10 4,zL 214 213,zA 215 (.bin .sub none (.t 212) (.t 214)),zA 216 (.ix (.t 210) (.t 215)),zA 217 (.bin .eql none (.t 216) (.c (.int .u8 35)))] false [2,4,7,13,14,217] [2,4,139]) (.cond (.t 217) .skip (.exit 6))) ic90_14)
def ic90_16 : IC := (.seq (.reg [zM 204 14,zA 205 (.call 118 [(.t 204,none),((.c (.int .u8 64)),none)]),zG 206 9 4,zS 1 206 205] false [2,4,7,13,14] [2,4,139]) (.seq (.reg [zM 207 14,zA 208 (.len true (.t 207)),zG 209 10 4,zS 1 209 208] false [2,4,7,13,14] [2,4,139]) (.block 6 (.loop ic90_15))))
def ic90_17 : IC := (.seq (.seq (.reg [zM 200 14,zA 201 (.call 119 [(.t 200,none),((.c (.int .u8 35)),none),((.c (.int .u8 64)),none),((.c (.int .u8 35)),none)]),zA 202 (.not (.t 201))] false [2,4,7,13,14,202] [2,4,139]) (.cond (.t 202) (.seq (.reg [zA 203 (.build [(.sl 2 []),(.sl 2 []),(.bool false),(.sl 2 []),(.sl 2 []),(.int .i64 0),(.int .i64 0),(.int .i64 0),(.int .i64 0),(.int .i64 0),(.int .i64 0),(.int .i64 0),(.int .i64 0),(.str []),(.bool false),(.int .i64 0),(.bool false),(.int .i64 0),(.int .i32 0),(.int .i64 0)] []),zS 20 2 203,zI 3 4] false [2,3] [2]) .ret) .skip)) ic90_16)
def ic90_18 : IC := (.reg [zM 244 20,zA 245 (.bin .add none (.t 244) (.c (.int .i64 1))),zM 20 245] false [2,4,7,13,14,18,19,20] [2,4,139])
def ic90_19 : IC := (.seq (.block 9 (.seq (.reg [zM 246 18,zM 247 20,zA 248 (.ix (.t 246) (.t 247)),zA 249 (.bin .neq none (.t 248) (.c (.int .u8 35)))] false [2,4,7,13,14,18,19,20,249] [2,4,139]) (.cond (.t 249) (.reg [zM 250 19,zM 251 18,zM 252 20,zM 253 20,zA 254 (.bin .add none (.t 253) (.c (.int .i64 1))),zA 255 (.ss (.t 251) (some (.t 252)) (some (.t 254))),zA 256 (.bin .add none (.t 250) (.t 255)),zM 19 256] false [2,4,7,13,14,18,19,20] [2,4,139]) .skip))) ic90_18)
def ic90_20 : IC := (.seq (.seq (.reg [zM 240 20,zM 241 18,zA 242 (.len true (.t 241)),zA 243 (.bin .lss none (.t 240) (.t 242))] false [2,4,7,13,14,18,19,20,243] [2,4,139]) (.cond (.t 243) .skip (.exit 8))) ic90_19)
def ic90_21 : IC := (.seq (.reg [zM 274 7] false [2,4,7,13,14,274] [2,4,139]) (.cond (.t 274) (.reg [zM 275 14,zA 276 (.len true (.t 275)),zG 277 6 4,zS 1 277 276] false [2,4,7,13,14] [2,4,139]) .skip))
def ic90_22 : IC := (.seq (.reg [zM 257 19,zC 258 117 257,zG 259 13 4,zS 1 259 258] false [2,4,7,13,14] [2,4,139]) (.seq (.seq (.reg [zG 260 13 4,zL 261 260,zA 262 (.bin .neq none (.t 261) (.c (.str []))),zM 263 262,zT 263 264 (.fa 7 none (.t 4)),zT 263 265 (.ld none (.t 264)),zT 263 266 (.fa 8 none (.t 4)),zT 263 267 (.ld none (.t 266)),zT 263 268 (.bin .lss none (.t 265) (.t 267)),zT 263 269 (.mv (.t 268)),zF 269 270 (.mv (.t 7)),zT 263 271 (.pick (.t 269) (.c (.bool true)) (.t 270)),zA 272 (.pick (.t 263) (.t 271) (.c (.bool false)))] false [2,4,7,13,14,272] [2,4,139]) (.cond (.t 272) (.seq (.reg [zA 273 (.build [(.sl 2 []),(.sl 2 []),(.bool false),(.sl 2 []),(.sl 2 []),(.int .i64 0),(.int .i64 0),(.int .i64 0),(.int .i64 0),(.int .i64 0),(.int .i64 0),(.int .i64 0),(.int .i64 0),(.str []),(.bool false),(.int .i64 0),(.bool false),(.int .i64 0),(.int .i32 0),(.int .i64 0)] []),zS 20 2 273,zI 3 6] false [2,3] [2]) .ret) .skip)) ic90_21))
def ic90_23 : IC := (.seq (.reg [zM 231 14,zA 232 (.call 118 [(.t 231,none),((.c (.int .u8 48)),none)]),zM 233 11,zA 234 (.call 118 [(.t 233,none),((.c (.int .u8 48)),none)]),zM 235 11,zA 236 (.len true (.t 235)),zG 237 5 4,zS 1 237 232,zG 238 7 4,zS 1 238 234,zG 239 8 4,zS 1 239 236] false [2,4,7,13,14,18] [2,4,139]) (.seq (.reg [zA 19 (.mv (.c (.str [])))] false [2,4,7,13,14,18,19] [2,4,139]) (.seq (.seq (.reg [zI 20 0] false [2,4,7,13,14,18,19,20] [2,4,139]) (.block 8 (.loop ic90_20))) ic90_22)))
def ic90_24 : IC := (.reg [zA 319 (.bin .add none (.t 312) (.c (.int .i64 1))),zM 312 319] false [2,4,310,311,312] [2,4,310])
def ic90_25 : IC := (.seq (.block 11 (.seq (.reg [zA 314 (.ia 1 (.t 310) (.t 312)),zL 315 314,zM 22 315] false [2,4,22,310,311,312] [2,4,310]) (.seq (.reg [zM 316 22,zA 317 (.bin .gtr none (.t 316) (.c (.int .i64 40)))] false [2,4,310,311,312,317] [2,4,310]) (.cond (.t 317) (.seq (.reg [zA 318 (.build [(.sl 2 []),(.sl 2 []),(.bool false),(.sl 2 []),(.sl 2 []),(.int .i64 0),(.int .i64 0),(.int .i64 0),(.int .i64 0),(.int .i64 0),(.int .i64 0),(.int .i64 0),(.int .i64 0),(.str []),(.bool false),(.int .i64 0),(.bool false),(.int .i64 0),(.int .i32 0),(.int .i64 0)] []),zS 20 2 318,zI 3 8] false [2,3] [2]) .ret) .skip)))) ic90_24)
def ic90_26 : IC := (.seq (.reg [zA 313 (.bin .lss none (.t 312) (.t 311))] false [2,4,310,311,312,313] [2,4,310]) (.seq (.cond (.t 313) .skip (.exit 10)) ic90_25))
def ic90_27 : IC := (.seq (.reg [zK 320 20 4,zS 20 2 320,zI 3 0] false [2,3] [2]) .ret)
def ic90_28 : IC := (.seq (.seq (.reg [zG 295 5 4,zL 296 295,zG 297 6 4,zL 298 297,zG 299 8 4,zL 300 299,zG 301 10 4,zL 302 301,zG 303 11 4,zL 304 303,zG 305 12 4,zL 306 305,zG 307 13 4,zL 308 307,zA 309 (.len true (.t 308)),zA 310 (.lit false 3 1 [(.t 296),(.t 298),(.t 300),(.t 302),(.t 304),(.t 306),(.t 309)]),zA 311 (.len false (.t 310)),zI 312 0] false [2,4,310,311,312] [2,4,310]) (.block 10 (.loop ic90_26))) ic90_27)
def ic90_29 : IC := (.seq (.seq (.reg [zM 278 7,zM 279 278,zT 279 280 (.mv (.t 13)),zT 279 281 (.len false (.t 280)),zT 279 282 (.bin .gtr none (.t 281) (.c (.int .i64 1))),zT 279 283 (.mv (.t 282)),zF 283 284 (.fa 9 none (.t 4)),zF 283 285 (.ld none (.t 284)),zF 283 286 (.bin .gtr none (.t 285) (.c (.int .i64 0))),zF 283 287 (.mv (.t 286)),zT 287 288 (.mv (.t 14)),zT 287 289 (.ix (.t 288) (.c (.int .i64 0))),zT 287 290 (.bin .eql none (.t 289) (.c (.int .u8 35))),zF 283 291 (.pick (.t 287) (.t 290) (.c (.bool false))),zT 279 292 (.pick (.t 283) (.c (.bool true)) (.t 291)),zA 293 (.pick (.t 279) (.t 292) (.c (.bool false)))] false [2,4,293] [2,4]) (.cond (.t 293) (.seq (.reg [zA 294 (.build [(.sl 2 []),(.sl 2 []),(.bool false),(.sl 2 []),(.sl 2 []),(.int .i64 0),(.int .i64 0),(.int .i64 0),(.int .i64 0),(.int .i64 0),(.int .i64 0),(.int .i64 0),(.int .i64 0),(.str []),(.bool false),(.int .i64 0),(.bool false),(.int .i64 0),(.int .i32 0),(.int .i64 0)] []),zS 20 2 294,zI 3 6] false [2,3] [2]) .ret) .skip)) ic90_28)
def ic90_30 : IC := (.seq (.seq (.reg [zM 190 18,zA 191 (.call 118 [(.t 190,none),((.c (.int .u8 64)),none)]),zA 192 (.bin .gtr none (.t 191) (.c (.int .i64 0)))] false [2,4,7,11,12,13,14,18,192] [2,4,139]) (.cond (.t 192) (.seq (.seq (.reg [zM 193 12,zM 194 193,zF 194 195 (.mv (.t 14)),zF 194 196 (.call 118 [(.t 195,none),((.c (.int .u8 48)),none)]),zF 194 197 (.bin .gtr none (.t 196) (.c (.int .i64 0))),zA 198 (.pick (.t 194) (.c (.bool true)) (.t 197))] false [2,4,7,13,14,198] [2,4,139]) (.cond (.t 198) (.seq (.reg [zA 199 (.build [(.sl 2 []),(.sl 2 []),(.bool false),(.sl 2 []),(.sl 2 []),(.int .i64 0),(.int .i64 0),(.int .i64 0),(.int .i64 0),(.int .i64 0),(.int .i64 0),(.int .i64 0),(.int .i64 0),(.str []),(.bool false),(.int .i64 0),(.bool false),(.int .i64 0),(.int .i32 0),(.int .i64 0)] []),zS 20 2 199,zI 3 6] false [2,3] [2]) .ret) .skip)) ic90_17) (.seq (.seq (.reg [zM 222 14,zA 223 (.call 119 [(.t 222,none),((.c (.int .u8 35)),none),((.c (.int .u8 48)),none),((.c (.int .u8 48)),none)]),zA 224 (.not (.t 223)),zM 225 224,zF 225 226 (.mv (.t 11)),zF 225 227 (.call 119 [(.t 226,none),((.c (.int .u8 48)),none),((.c (.int .u8 35)),none),((.c (.int .u8 35)),none)]),zF 225 228 (.not (.t 227)),zA 229 (.pick (.t 225) (.c (.bool true)) (.t 228))] false [2,4,7,11,13,14,18,229] [2,4,139]) (.cond (.t 229) (.seq (.reg [zA 230 (.build [(.sl 2 []),(.sl 2 []),(.bool false),(.sl 2 []),(.sl 2 []),(.int .i64 0),(.int .i64 0),(.int .i64 0),(.int .i64 0),(.int .i64 0),(.int .i64 0),(.int .i64 0),(.int .i64 0),(.str []),(.bool false),(.int .i64 0),(.bool false),(.int .i64 0),(.int .i32 0),(.int .i64 0)] []),zS 20 2 230,zI 3 4] false [2,3] [2]) .ret) .skip)) ic90_23))) ic90_29)
def ic90_31 : IC := (.seq (.reg [zM 184 14,zM 185 11,zA 186 (.bin .add none (.t 184) (.t 185)),zM 18 186] false [2,4,7,11,12,13,14,18] [2,4,139]) (.seq (.seq (.reg [zM 187 18,zA 188 (.bin .eql none (.t 187) (.c (.str [])))] false [2,4,7,11,12,13,14,18,188] [2,4,139]) (.cond (.t 188) (.seq (.reg [zA 189 (.build [(.sl 2 []),(.sl 2 []),(.bool false),(.sl 2 []),(.sl 2 []),(.int .i64 0),(.int .i64 0),(.int .i64 0),(.int .i64 0),(.int .i64 0),(.int .i64 0),(.int .i64 0),(.int .i64 0),(.str []),(.bool false),(.int .i64 0),(.bool false),(.int .i64 0),(.int .i32 0),(.int .i64 0)] []),zS 20 2 189,zI 3 4] false [2,3] [2]) .ret) .skip)) ic90_30))
def ic90_32 : IC := (.seq (.seq (.reg [zM 174 13,zA 175 (.len false (.t 174)),zA 176 (.bin .gtr none (.t 175) (.c (.int .i64 2)))] false [2,4,7,11,12,13,14,176] [2,4,139]) (.cond (.t 176) (.reg [zM 177 13,zM 178 13,zA 179 (.len false (.t 178)),zA 180 (.bin .sub none (.t 179) (.c (.int .i64 2))),zA 181 (.ia 1 (.t 177) (.t 180)),zL 182 181,zG 183 12 4,zS 1 183 182] false [2,4,7,11,12,13,14] [2,4,139]) .skip)) ic90_31)
def ic90_33 : IC := (.seq (.seq (.reg [zM 157 13,zA 158 (.len false (.t 157)),zA 159 (.bin .gtr none (.t 158) (.c (.int .i64 1)))] false [2,4,7,11,12,13,14,159] [2,4,139]) (.cond (.t 159) (.reg [zM 160 13,zM 161 13,zA 162 (.len false (.t 161)),zA 163 (.bin .sub none (.t 162) (.c (.int .i64 1))),zA 164 (.ia 1 (.t 160) (.t 163)),zL 165 164,zM 166 13,zM 167 13,⟨(some 168),(.len false (.t 167)),none,.ref⟩,zA 169 (.bin .sub none (.t 168) (.c (.int .i64 1))),⟨(some 170),(.ia 1 (.t 166) (.t 169)),none,.ref⟩,⟨(some 171),(.ld none (.t 170)),none,.ref⟩,zG 172 11 4,⟨none,(.st 1 (.t 172) (.t 165)),none,(.at 4 11 1)⟩,zG 173 12 4,zS 1 173 171] true [2,4,7,11,12,13,14] [2,4,139]) .skip)) ic90_32)
def ic90_34 : IC := (.seq (.seq (.reg [zI 17 0] false [2,4,7,11,12,13,14,17] [2,4,139]) (.block 4 (.loop ic90_13))) ic90_33)
def ic90_35 : IC := (.seq (.reg [zA 13 (.mv (.c .nil))] false [2,4,7,10,11,12,13] [2,4,139]) (.seq (.reg [zA 14 (.mv (.c (.str [])))] false [2,4,7,10,11,12,13,14] [2,4,139]) (.seq (.reg [zI 15 0] false [2,4,7,10,11,12,13,14,15] [2,4,139]) (.seq (.seq (.reg [zI 16 0] false [2,4,7,10,11,12,13,14,15,16] [2,4,139]) (.block 2 (.loop ic90_10))) ic90_34))))
def ic90_36 : IC := (.seq (.seq (.reg [zM 107 11,zA 108 (.call 118 [(.t 107,none),((.c (.int .u8 44)),none)]),zA 109 (.bin .gtr none (.t 108) (.c (.int .i64 0)))] false [2,4,7,10,11,12,109] [2,4]) (.cond (.t 109) (.seq (.reg [zA 110 (.build [(.sl 2 []),(.sl 2 []),(.bool false),(.sl 2 []),(.sl 2 []),(.int .i64 0),(.int .i64 0),(.int .i64 0),(.int .i64 0),(.int .i64 0),(.int .i64 0),(.int .i64 0),(.int .i64 0),(.str []),(.bool false),(.int .i64 0),(.bool false),(.int .i64 0),(.int .i32 0),(.int .i64 0)] []),zS 20 2 110,zI 3 5] false [2,3] [2]) .ret) .skip)) ic90_35)
def ic90_37 : IC := (.seq (.reg [zM 91 5,zA 92 (.call 116 [(.t 91,none),((.c (.int .u8 46)),none)]),zM 90 92,zE 93 90 0,zE 94 90 1,zE 95 90 2,zM 10 93,zM 11 94,zM 12 95] false [2,4,7,10,11,12] [2,4]) (.seq (.seq (.reg [zM 96 11,zA 97 (.call 118 [(.t 96,none),((.c (.int .u8 46)),none)]),zA 98 (.bin .gtr none (.t 97) (.c (.int .i64 0))),zM 99 98,zF 99 100 (.mv (.t 12)),zF 99 101 (.mv (.t 100)),zT 101 102 (.mv (.t 11)),zT 101 103 (.bin .eql none (.t 102) (.c (.str []))),zF 99 104 (.pick (.t 101) (.t 103) (.c (.bool false))),zA 105 (.pick (.t 99) (.c (.bool true)) (.t 104))] false [2,4,7,10,11,12,105] [2,4]) (.cond (.t 105) (.seq (.reg [zA 106 (.build [(.sl 2 []),(.sl 2 []),(.bool false),(.sl 2 []),(.sl 2 []),(.int .i64 0),(.int .i64 0),(.int .i64 0),(.int .i64 0),(.int .i64 0),(.int .i64 0),(.int .i64 0),(.int .i64 0),(.str []),(.bool false),(.int .i64 0),(.bool false),(.int .i64 0),(.int .i32 0),(.int .i64 0)] []),zS 20 2 106,zI 3 4] false [2,3] [2]) .ret) .skip)) ic90_36))
def ic90_38 : IC := (.seq (.seq (.reg [zI 8 0] false [2,4,5,7,8] [2,4]) (.block 0 (.loop ic90_6))) ic90_37)
def ic90 : IC := (.seq (.reg [zA 2 (.alloc 26 [(.sl 2 []),(.sl 2 []),(.bool false),(.sl 2 []),(.sl 2 []),(.int .i64 0),(.int .i64 0),(.int .i64 0),(.int .i64 0),(.int .i64 0),(.int .i64 0),(.int .i64 0),(.int .i64 0),(.str []),(.bool false),(.int .i64 0),(.bool false),(.int .i64 0),(.int .i32 0),(.int .i64 0)]),zI 3 0] false [0,2] [2]) (.seq (.reg [zA 23 (.build [(.sl 2 []),(.sl 2 []),(.bool false),(.sl 2 []),(.sl 2 []),(.int .i64 0),(.int .i64 0),(.int .i64 0),(.int .i64 0),(.int .i64 0),(.int .i64 0),(.int .i64 0),(.int .i64 0),(.str []),(.bool false),(.int .i64 0),(.bool false),(.int .i64 0),(.int .i32 0),(.int .i64 0)] []),zA 4 (.alloc 26 [(.sl 2 []),(.sl 2 []),(.bool false),(.sl 2 []),(.sl 2 []),(.int .i64 0),(.int .i64 0),(.int .i64 0),(.int .i64 0),(.int .i64 0),(.int .i64 0),(.int .i64 0),(.int .i64 0),(.str []),(.bool false),(.int .i64 0),(.bool false),(.int .i64 0),(.int .i32 0),(.int .i64 0)]),zS 20 4 23] false [0,2,4] [2,4]) (.seq (.reg [zM 25 0,zA 26 (.call 116 [(.t 25,none),((.c (.int .u8 69)),none)]),zM 24 26,zE 27 24 0,zE 28 24 1,zE 29 24 2,zM 5 27,zM 6 28,zM 7 29] false [2,4,5,6,7] [2,4]) (.seq (.seq (.reg [zM 30 7] false [2,4,5,6,7,30] [2,4]) (.cond (.t 30) (.seq (.seq (.reg [zM 31 6,zA 32 (.len true (.t 31)),zA 33 (.bin .gtr none (.t 32) (.c (.int .i64 0))),zM 34 33,zT 34 35 (.mv (.t 6)),zT 34 36 (.ix (.t 35) (.c (.int .i64 0))),zT 34 37 (.bin .eql none (.t 36) (.c (.int .u8 43))),zA 38 (.pick (.t 34) (.t 37) (.c (.bool false)))] false [2,4,5,6,7,38] [2,4]) (.cond (.t 38) (.seq (.reg [zG 39 16 4,zU (.st 1 (.t 39) (.c (.bool true)))] false [2,4,5,6,7] [2,4]) (.reg [zM 40 6,zA 41 (.ss (.t 40) (some (.c (.int .i64 1))) none),zM 6 41] false [2,4,5,6,7] [2,4])) .skip)) ic90_3) .skip)) ic90_38))))
def kp90 : List (Nat × Keep) := [(0, ⟨[0, 2], [2], []⟩),
  (1, ⟨[0, 2, 4], [2, 4], []⟩),
  (2, ⟨[2, 4, 5, 6, 7], [2, 4], []⟩),
  (3, ⟨[2, 4, 5, 6, 7, 30], [2, 4], []⟩),
  (4, ⟨[2, 4, 5, 6, 7, 38], [2, 4], []⟩),
  (5, ⟨[2, 4, 5, 6, 7], [2, 4], []⟩),
  (6, ⟨[2, 4, 5, 6, 7], [2, 4], []⟩),
  (7, ⟨[2, 4, 5, 6, 7, 48], [2, 4], []⟩),
  (8, ⟨[2, 3], [2], []⟩),
  (9, ⟨[2, 4, 5, 6, 7, 52], [2, 4], []⟩),
  (10, ⟨[2, 3], [2], []⟩),
  (11, ⟨[2, 4, 5, 7], [2, 4], []⟩),
  (12, ⟨[2, 4, 5, 7, 8], [2, 4], []⟩),
  (13, ⟨[2, 4, 5, 7, 8, 61], [2, 4], []⟩),
  (14, ⟨[2, 4, 5, 7, 8], [2, 4], []⟩),
  (15, ⟨[2, 4, 5, 7, 8, 9], [2, 4], []⟩),
  (16, ⟨[2, 4, 5, 7, 8, 88], [2, 4], []⟩),
  (17, ⟨[2, 3], [2], []⟩),
  (18, ⟨[2, 4, 7, 10, 11, 12], [2, 4], []⟩),
  (19, ⟨[2, 4, 7, 10, 11, 12, 105], [2, 4], []⟩),
  (20, ⟨[2, 3], [2], []⟩),
  (21, ⟨[2, 4, 7, 10, 11, 12, 109], [2, 4], []⟩),
  (22, ⟨[2, 3], [2], []⟩),
  (23, ⟨[2, 4, 7, 10, 11, 12, 13], [2, 4, 139], []⟩),
  (24, ⟨[2, 4, 7, 10, 11, 12, 13, 14], [2, 4, 139], []⟩),
  (25, ⟨[2, 4, 7, 10, 11, 12, 13, 14, 15], [2, 4, 139], []⟩),
  (26, ⟨[2, 4, 7, 10, 11, 12, 13, 14, 15, 16], [2, 4, 139], []⟩),
  (27, ⟨[2, 4, 7, 10, 11, 12, 13, 14, 15, 16, 114], [2, 4, 139], []⟩),
  (28, ⟨[2, 4, 7, 10, 11, 12, 13, 14, 15, 16], [2, 4, 139], []⟩),
  (29, ⟨[2, 4, 7, 10, 11, 12, 13, 14, 15, 16, 126], [2, 4, 139], []⟩),
  (30, ⟨[2, 4, 7, 10, 11, 12, 13, 14, 15, 16], [2, 4, 139], []⟩),
  (31, ⟨[2, 4, 7, 10, 11, 12, 13, 14, 15, 16], [2, 4, 139], []⟩),
  (32, ⟨[2, 4, 7, 10, 11, 12, 13, 14, 16], [2, 4, 139], []⟩),
  (33, ⟨[2, 4, 7, 10, 11, 12, 13, 14, 15, 16], [2, 4, 139], []⟩),
  (34, ⟨[2, 4, 7, 11, 12, 13, 14, 17], [2, 4, 139], []⟩),
  (35, ⟨[2, 4, 7, 11, 12, 13, 14, 17, 143], [2, 4, 139], []⟩),
  (36, ⟨[2, 4, 7, 11, 12, 13, 14, 17], [2, 4, 139], []⟩),
  (37, ⟨[2, 4, 7, 11, 12, 13, 14, 17, 155], [2, 4, 139], []⟩),
  (38, ⟨[2, 3], [2], []⟩),
  (39, ⟨[2, 4, 7, 11, 12, 13, 14, 159], [2, 4, 139], []⟩),
  (40, ⟨[2, 4, 7, 11, 12, 13, 14], [2, 4, 139], [(8, .ref), (10, .ref), (11, .ref), (13, .at 4 11 1)]⟩),
  (41, ⟨[2, 4, 7, 11, 12, 13, 14, 176], [2, 4, 139], []⟩),
  (42, ⟨[2, 4, 7, 11, 12, 13, 14], [2, 4, 139], []⟩),
  (43, ⟨[2, 4, 7, 11, 12, 13, 14, 18], [2, 4, 139], []⟩),
  (44, ⟨[2, 4, 7, 11, 12, 13, 14, 18, 188], [2, 4, 139], []⟩),
  (45, ⟨[2, 3], [2], []⟩),
  (46, ⟨[2, 4, 7, 11, 12, 13, 14, 18, 192], [2, 4, 139], []⟩),
  (47, ⟨[2, 4, 7, 13, 14, 198], [2, 4, 139], []⟩),
  (48, ⟨[2, 3], [2], []⟩),
  (49, ⟨[2, 4, 7, 13, 14, 202], [2, 4, 139], []⟩),
  (50, ⟨[2, 3], [2], []⟩),
  (51, ⟨[2, 4, 7, 13, 14], [2, 4, 139], []⟩),
  (52, ⟨[2, 4, 7, 13, 14], [2, 4, 139], []⟩),
  (53, ⟨[2, 4, 7, 13, 14, 217], [2, 4, 139], []⟩),
  (54, ⟨[2, 4, 7, 13, 14], [2, 4, 139], []⟩),
  (55, ⟨[2, 4, 7, 11, 13, 14, 18, 229], [2, 4, 139], []⟩),
  (56, ⟨[2, 3], [2], []⟩),
  (57, ⟨[2, 4, 7, 13, 14, 18], [2, 4, 139], []⟩),
  (58, ⟨[2, 4, 7, 13, 14, 18, 19], [2, 4, 139], []⟩),
  (59, ⟨[2, 4, 7, 13, 14, 18, 19, 20], [2, 4, 139], []⟩),
  (60, ⟨[2, 4, 7, 13, 14, 18, 19, 20, 243], [2, 4, 139], []⟩),
  (61, ⟨[2, 4, 7, 13, 14, 18, 19, 20], [2, 4, 139], []⟩),
  (62, ⟨[2, 4, 7, 13, 14, 18, 19, 20, 249], [2, 4, 139], []⟩),
  (63, ⟨[2, 4, 7, 13, 14, 18, 19, 20], [2, 4, 139], []⟩),
  (64, ⟨[2, 4, 7, 13, 14], [2, 4, 139], []⟩),
  (65, ⟨[2, 4, 7, 13, 14, 272], [2, 4, 139], []⟩),
  (66, ⟨[2, 3], [2], []⟩),
  (67, ⟨[2, 4, 7, 13, 14, 274], [2, 4, 139], []⟩),
  (68, ⟨[2, 4, 7, 13, 14], [2, 4, 139], []⟩),
  (69, ⟨[2, 4, 293], [2, 4], []⟩),
  (70, ⟨[2, 3], [2], []⟩),
  (71, ⟨[2, 4, 310, 311, 312], [2, 4, 310], []⟩),
  (72, ⟨[2, 4, 310, 311, 312, 313], [2, 4, 310], []⟩),
  (73, ⟨[2, 4, 22, 310, 311, 312], [2, 4, 310], []⟩),
  (74, ⟨[2, 4, 310, 311, 312, 317], [2, 4, 310], []⟩),
  (75, ⟨[2, 3], [2], []⟩),
  (76, ⟨[2, 4, 310, 311, 312], [2, 4, 310], []⟩),
  (77, ⟨[2, 3], [2], []⟩)]
theorem c90 : (Tryz.f90.body.bind fun c => compC Tryz.prog 321 [] kp90 c) = some ic90 := by kernel_rfl
theorem e90 {args : List AV} {r : AV} (ha : args.length ≤ 321) (h : VC e0 ic90 (retQ [(2, (some (some 20))), (3, none)] r) ⟨argT 0 args, []⟩) : Fn 90 args r := fn_of Tryz.func90 rfl (by kernel_rfl) c90 ha (by decide) h
def ic113 : IC := (.seq (.reg [zA 2 (.mv (.c (.bool false)))] false [0] []) (.seq (.reg [zM 3 0,zA 4 (.bin .geq none (.t 3) (.c (.int .i32 0))),zM 5 4,zT 5 6 (.mv (.t 0)),zT 5 7 (.bin .leq none (.t 6) (.c (.int .i32 1114111))),zA 8 (.pick (.t 5) (.t 7) (.c (.bool false))),zM 9 8,zT 9 10 (.mv (.t 0)),zT 9 11 (.bin .lss none (.t 10) (.c (.int .i32 55296))),zT 9 12 (.mv (.t 11)),zF 12 13 (.mv (.t 0)),zF 12 14 (.bin .gtr none (.t 13) (.c (.int .i32 57343))),zT 9 15 (.pick (.t 12) (.c (.bool true)) (.t 14)),zA 16 (.pick (.t 9) (.t 15) (.c (.bool false))),zM 2 16] false [2] []) .ret))
def kp113 : List (Nat × Keep) := [(0, ⟨[0], [], []⟩),
  (1, ⟨[2], [], []⟩)]
theorem c113 : (Tryz.f113.body.bind fun c => compC Tryz.prog 17 [] kp113 c) = some ic113 := by kernel_rfl
theorem e113 {args : List AV} {r : AV} (ha : args.length ≤ 17) (h : VC e0 ic113 (retQ [(2, none)] r) ⟨argT 0 args, []⟩) : Fn 113 args r := fn_of Tryz.func113 rfl (by kernel_rfl) c113 ha (by decide) h
def ic114 : IC := (.seq (.reg [zA 2 (.mv (.c (.bool false)))] false [0] []) (.seq (.reg [zM 3 0,zA 4 (.bin .geq none (.t 3) (.c (.int .i32 48))),zM 5 4,zT 5 6 (.mv (.t 0)),zT 5 7 (.bin .leq none (.t 6) (.c (.int .i32 57))),zA 8 (.pick (.t 5) (.t 7) (.c (.bool false))),zM 9 8,zF 9 10 (.mv (.t 0)),zF 9 11 (.bin .eql none (.t 10) (.c (.int .i32 35))),zA 12 (.pick (.t 9) (.c (.bool true)) (.t 11)),zM 13 12,zF 13 14 (.mv (.t 0)),zF 13 15 (.bin .eql none (.t 14) (.c (.int .i32 64))),zA 16 (.pick (.t 13) (.c (.bool true)) (.t 15)),zM 17 16,zF 17 18 (.mv (.t 0)),zF 17 19 (.bin .eql none (.t 18) (.c (.int .i32 44))),zA 20 (.pick (.t 17) (.c (.bool true)) (.t 19)),zM 21 20,zF 21 22 (.mv (.t 0)),zF 21 23 (.bin .eql none (.t 22) (.c (.int .i32 46))),zA 24 (.pick (.t 21) (.c (.bool true)) (.t 23)),zM 25 24,zF 25 26 (.mv (.t 0)),zF 25 27 (.bin .eql none (.t 26) (.c (.int .i32 59))),zA 28 (.pick (.t 25) (.c (.bool true)) (.t 27)),zM 29 28,zF 29 30 (.mv (.t 0)),zF 29 31 (.bin .eql none (.t 30) (.c (.int .i32 42))),zA 32 (.pick (.t 29) (.c (.bool true)) (.t 31)),zM 2 32] false [2] []) .ret))
def kp114 : List (Nat × Keep) := [(0, ⟨[0], [], []⟩),
  (1, ⟨[2], [], []⟩)]
theorem c114 : (Tryz.f114.body.bind fun c => compC Tryz.prog 33 [] kp114 c) = some ic114 := by kernel_rfl
theorem e114 {args : List AV} {r : AV} (ha : args.length ≤ 33) (h : VC e0 ic114 (retQ [(2, none)] r) ⟨argT 0 args, []⟩) : Fn 114 args r := fn_of Tryz.func114 rfl (by kernel_rfl) c114 ha (by decide) h
def ic115_1 : IC := (.seq (.reg [zI 2 0] false [2] []) .ret)
def ic115 : IC := (.seq (.reg [zI 2 0] false [0] []) (.seq (.seq (.reg [zM 3 0] false [3] []) (.block 0 (.seq (.reg [zA 5 (.bin .eql none (.t 3) (.c (.int .i32 45))),zM 4 5] false [3,4] []) (.cond (.t 4) (.seq (.reg [zI 2 2] false [2] []) .ret) (.seq (.reg [zA 7 (.bin .eql none (.t 3) (.c (.int .i32 43))),zM 6 7] false [3,6] []) (.cond (.t 6) (.seq (.reg [zI 2 3] false [2] []) .ret) (.seq (.reg [zA 9 (.bin .eql none (.t 3) (.c (.int .i32 37))),zM 8 9] false [3,8] []) (.cond (.t 8) (.seq (.reg [zI 2 4] false [2] []) .ret) (.seq (.reg [zA 11 (.bin .eql none (.t 3) (.c (.int .i32 8240))),zM 10 11] false [3,10] []) (.cond (.t 10) (.seq (.reg [zI 2 5] false [2] []) .ret) (.seq (.reg [zA 13 (.bin .eql none (.t 3) (.c (.int .i32 164))),zM 12 13] false [12] []) (.cond (.t 12) (.seq (.reg [zI 2 6] false [2] []) .ret) .skip)))))))))))) ic115_1))
def kp115 : List (Nat × Keep) := [(0, ⟨[0], [], []⟩),
  (1, ⟨[3], [], []⟩),
  (2, ⟨[3, 4], [], []⟩),
  (3, ⟨[2], [], []⟩),
  (4, ⟨[3, 6], [], []⟩),
  (5, ⟨[2], [], []⟩),
  (6, ⟨[3, 8], [], []⟩),
  (7, ⟨[2], [], []⟩),
  (8, ⟨[3, 10], [], []⟩),
  (9, ⟨[2], [], []⟩),
  (10, ⟨[12], [], []⟩),
  (11, ⟨[2], [], []⟩),
  (12, ⟨[2], [], []⟩)]
theorem c115 : (Tryz.f115.body.bind fun c => compC Tryz.prog 14 [] kp115 c) = some ic115 := by kernel_rfl
theorem e115 {args : List AV} {r : AV} (ha : args.length ≤ 14) (h : VC e0 ic115 (retQ [(2, none)] r) ⟨argT 0 args, []⟩) : Fn 115 args r := fn_of Tryz.func115 rfl (by kernel_rfl) c115 ha (by decide) h
def ic116_1 : IC := (.reg [zM 12 7,zA 13 (.bin .add none (.t 12) (.c (.int .i64 1))),zM 7 13] false [0,1,7] [])
def ic116_2 : IC := (.seq (.block 1 (.seq (.reg [zM 14 0,zM 15 7,zA 16 (.ix (.t 14) (.t 15)),zM 17 1,zA 18 (.bin .eql none (.t 16) (.t 17))] false [0,1,7,18] []) (.cond (.t 18) (.seq (.reg [zM 19 0,zM 20 7,zA 21 (.ss (.t 19) none (some (.t 20))),zM 22 0,zM 23 7,zA 24 (.bin .add none (.t 23) (.c (.int .i64 1))),zA 25 (.ss (.t 22) (some (.t 24)) none),zM 4 21,zM 5 25,zA 6 (.mv (.c (.bool true)))] true [4,5,6] []) .ret) .skip))) ic116_1)
def ic116_3 : IC := (.seq (.seq (.reg [zM 8 7,zM 9 0,zA 10 (.len true (.t 9)),zA 11 (.bin .lss none (.t 8) (.t 10))] false [0,1,7,11] []) (.cond (.t 11) .skip (.exit 0))) ic116_2)
def ic116_4 : IC := (.seq (.reg [zM 26 0,zM 4 26,zA 5 (.mv (.c (.str []))),zA 6 (.mv (.c (.bool false)))] false [4,5,6] []) .ret)
def ic116 : IC := (.seq (.reg [zA 4 (.mv (.c (.str []))),zA 5 (.mv (.c (.str []))),zA 6 (.mv (.c (.bool false)))] false [0,1] []) (.seq (.seq (.reg [zI 7 0] false [0,1,7] []) (.block 0 (.loop ic116_3))) ic116_4))
def kp116 : List (Nat × Keep) := [(0, ⟨[0, 1], [], []⟩),
  (1, ⟨[0, 1, 7], [], []⟩),
  (2, ⟨[0, 1, 7, 11], [], []⟩),
  (3, ⟨[0, 1, 7], [], []⟩),
  (4, ⟨[0, 1, 7, 18], [], []⟩),
  (5, ⟨[4, 5, 6], [], []⟩),
  (6, ⟨[4, 5, 6], [], []⟩)]
theorem c116 : (Tryz.f116.body.bind fun c => compC Tryz.prog 27 [] kp116 c) = some ic116 := by kernel_rfl
theorem e116 {args : List AV} {r : AV} (ha : args.length ≤ 27) (h : VC e0 ic116 (retQ [(4, none), (5, none), (6, none)] r) ⟨argT 0 args, []⟩) : Fn 116 args r := fn_of Tryz.func116 rfl (by kernel_rfl) c116 ha (by decide) h
def ic117_1 : IC := (.block 1 (.reg [zM 11 0,zA 12 (.ss (.t 11) (some (.c (.int .i64 1))) none),zM 0 12] false [0] []))
def ic117_2 : IC := (.seq (.seq (.reg [zM 3 0,zA 4 (.len true (.t 3)),zA 5 (.bin .gtr none (.t 4) (.c (.int .i64 0))),zM 6 5,zT 6 7 (.mv (.t 0)),zT 6 8 (.ix (.t 7) (.c (.int .i64 0))),zT 6 9 (.bin .eql none (.t 8) (.c (.int .u8 48))),zA 10 (.pick (.t 6) (.t 9) (.c (.bool false)))] false [0,10] []) (.cond (.t 10) .skip (.exit 0))) ic117_1)
def ic117_3 : IC := (.seq (.reg [zM 13 0,zM 2 13] false [2] []) .ret)
def ic117 : IC := (.seq (.reg [zA 2 (.mv (.c (.str [])))] false [0] []) (.seq (.block 0 (.loop ic117_2)) ic117_3))
def kp117 : List (Nat × Keep) := [(0, ⟨[0], [], []⟩),
  (1, ⟨[0, 10], [], []⟩),
  (2, ⟨[0], [], []⟩),
  (3, ⟨[2], [], []⟩)]
theorem c117 : (Tryz.f117.body.bind fun c => compC Tryz.prog 14 [] kp117 c) = some ic117 := by kernel_rfl
theorem e117 {args : List AV} {r : AV} (ha : args.length ≤ 14) (h : VC e0 ic117 (retQ [(2, none)] r) ⟨argT 0 args, []⟩) : Fn 117 args r := fn_of Tryz.func117 rfl (by kernel_rfl) c117 ha (by decide) h
def ic118_1 : IC := (.reg [zM 11 6,zA 12 (.bin .add none (.t 11) (.c (.int .i64 1))),zM 6 12] false [0,1,5,6] [])
def ic118_2 : IC := (.seq (.block 1 (.seq (.reg [zM 13 0,zM 14 6,zA 15 (.ix (.t 13) (.t 14)),zM 16 1,zA 17 (.bin .eql none (.t 15) (.t 16)),zM 18 17,zF 18 19 (.mv (.t 1)),zF 18 20 (.bin .eql none (.t 19) (.c (.int .u8 48))),zF 18 21 (.mv (.t 20)),zT 21 22 (.mv (.t 0)),zT 21 23 (.mv (.t 6)),zT 21 24 (.ix (.t 22) (.t 23)),zT 21 25 (.bin .geq none (.t 24) (.c (.int .u8 48))),zF 18 26 (.pick (.t 21) (.t 25) (.c (.bool false))),zF 18 27 (.mv (.t 26)),zT 27 28 (.mv (.t 0)),zT 27 29 (.mv (.t 6)),zT 27 30 (.ix (.t 28) (.t 29)),zT 27 31 (.bin .leq none (.t 30) (.c (.int .u8 57))),zF 18 32 (.pick (.t 27) (.t 31) (.c (.bool false))),zA 33 (.pick (.t 18) (.c (.bool true)) (.t 32))] false [0,1,5,6,33] []) (.cond (.t 33) (.reg [zM 34 5,zA 35 (.bin .add none (.t 34) (.c (.int .i64 1))),zM 5 35] false [0,1,5,6] []) .skip))) ic118_1)
def ic118_3 : IC := (.seq (.seq (.reg [zM 7 6,zM 8 0,zA 9 (.len true (.t 8)),zA 10 (.bin .lss none (.t 7) (.t 9))] false [0,1,5,6,10] []) (.cond (.t 10) .skip (.exit 0))) ic118_2)
def ic118_4 : IC := (.seq (.reg [zM 36 5,zM 4 36] false [4] []) .ret)
def ic118 : IC := (.seq (.reg [zI 4 0] false [0,1] []) (.seq (.reg [zI 5 0] false [0,1,5] []) (.seq (.seq (.reg [zI 6 0] false [0,1,5,6] []) (.block 0 (.loop ic118_3))) ic118_4)))
def kp118 : List (Nat × Keep) := [(0, ⟨[0, 1], [], []⟩),
  (1, ⟨[0, 1, 5], [], []⟩),
  (2, ⟨[0, 1, 5, 6], [], []⟩),
  (3, ⟨[0, 1, 5, 6, 10], [], []⟩),
  (4, ⟨[0, 1, 5, 6], [], []⟩),
  (5, ⟨[0, 1, 5, 6, 33], [], []⟩),
  (6, ⟨[0, 1, 5, 6], [], []⟩),
  (7, ⟨[4], [], []⟩)]
theorem c118 : (Tryz.f118.body.bind fun c => compC Tryz.prog 37 [] kp118 c) = some ic118 := by kernel_rfl
theorem e118 {args : List AV} {r : AV} (ha : args.length ≤ 37) (h : VC e0 ic118 (retQ [(4, none)] r) ⟨argT 0 args, []⟩) : Fn 118 args r := fn_of Tryz.func118 rfl (by kernel_rfl) c118 ha (by decide) h
def ic119_1 : IC := (.block 3 (.reg [zM 37 10,zA 38 (.bin .add none (.t 37) (.c (.int .i64 1))),zM 10 38] false [0,9,10,11] [15]))
def ic119_2 : IC := (.seq (.seq (.reg [zM 22 10,zA 23 (.bin .lss none (.t 22) (.c (.int .i64 3))),zM 24 23,zT 24 25 (.mv (.t 0)),zT 24 26 (.mv (.t 11)),zT 24 27 (.mv (.t 11)),zT 24 28 (.bin .add none (.t 27) (.c (.int .i64 1))),zT 24 29 (.ss (.t 25) (some (.t 26)) (some (.t 28))),zT 24 30 (.mv (.t 9)),zT 24 31 (.mv (.t 10)),zT 24 32 (.ia 1 (.t 30) (.t 31)),zT 24 33 (.ld none (.t 32)),zT 24 34 (.call 118 [(.t 29,none),(.t 33,none)]),zT 24 35 (.bin .eql none (.t 34) (.c (.int .i64 0))),zA 36 (.pick (.t 24) (.t 35) (.c (.bool false)))] true [0,9,10,11,36] [15]) (.cond (.t 36) .skip (.exit 2))) ic119_1)
def ic119_3 : IC := (.seq (.reg [zM 39 10,zA 40 (.bin .eql none (.t 39) (.c (.int .i64 3)))] false [0,9,10,11,40] [15]) (.cond (.t 40) (.seq (.reg [zA 8 (.mv (.c (.bool false)))] false [8] []) .ret) .skip))
def ic119_4 : IC := (.reg [zM 20 11,zA 21 (.bin .add none (.t 20) (.c (.int .i64 1))),zM 11 21] false [0,9,10,11] [15])
def ic119_5 : IC := (.seq (.block 1 (.seq (.block 2 (.loop ic119_2)) ic119_3)) ic119_4)
def ic119_6 : IC := (.seq (.seq (.reg [zM 16 11,zM 17 0,zA 18 (.len true (.t 17)),zA 19 (.bin .lss none (.t 16) (.t 18))] false [0,9,10,11,19] [15]) (.cond (.t 19) .skip (.exit 0))) ic119_5)
def ic119_7 : IC := (.seq (.reg [zA 8 (.mv (.c (.bool true)))] false [8] []) .ret)
def ic119 : IC := (.seq (.reg [zA 8 (.mv (.c (.bool false)))] false [0,1,2,3] []) (.seq (.reg [zM 12 1,zM 13 2,zM 14 3,zA 15 (.lit false 5 1 [(.t 12),(.t 13),(.t 14)]),zM 9 15] false [0,9] [15]) (.seq (.reg [zI 10 0] false [0,9,10] [15]) (.seq (.seq (.reg [zI 11 0] false [0,9,10,11] [15]) (.block 0 (.loop ic119_6))) ic119_7))))
def kp119 : List (Nat × Keep) := [(0, ⟨[0, 1, 2, 3], [], []⟩),
  (1, ⟨[0, 9], [15], []⟩),
  (2, ⟨[0, 9, 10], [15], []⟩),
  (3, ⟨[0, 9, 10, 11], [15], []⟩),
  (4, ⟨[0, 9, 10, 11, 19], [15], []⟩),
  (5, ⟨[0, 9, 10, 11], [15], []⟩),
  (6, ⟨[0, 9, 10, 11, 36], [15], []⟩),
  (7, ⟨[0, 9, 10, 11], [15], []⟩),
  (8, ⟨[0, 9, 10, 11, 40], [15], []⟩),
  (9, ⟨[8], [], []⟩),
  (10, ⟨[8], [], []⟩)]
theorem c119 : (Tryz.f119.body.bind fun c => compC Tryz.prog 41 [] kp119 c) = some ic119 := by kernel_rfl
theorem e119 {args : List AV} {r : AV} (ha : args.length ≤ 41) (h : VC e0 ic119 (retQ [(8, none)] r) ⟨argT 0 args, []⟩) : Fn 119 args r := fn_of Tryz.func119 rfl (by kernel_rfl) c119 ha (by decide) h
def D (neg : Bool) (s : List UInt8) (e : Int) : AV := .agg [.bool neg, .str s, i64 e]
def N (neg : Bool) (c : Nat) (e : Int) : AV := D neg (text (core c)) (ne c e)
theorem strBeq (a b : List UInt8) : (a == b) = decide (a = b) := by
  by_cases h : a = b
  · subst h; simp
  · simp [h]
theorem N_zero (neg : Bool) (e : Int) : N neg 0 e = D neg [48] 0 := by rw [N, core_zero]; rfl
theorem N_pos {neg : Bool} {c : Nat} {e : Int} (h : c ≠ 0) : N neg c e = D neg (digs (core c)) (e + tz c) := by rw [N, text_pos (core_ne h), ne_pos h]
theorem con65z {neg : Bool} {s : List UInt8} {e : Int} (h1 : Fn 93 [.str s, .str [48]] (.str [])) : Fn 65 [D neg s e] (D neg [48] 0) := by
  refine e65 (by simp) ?_
  simp only [ic65, wkA, Nat.reduceEqDiff, Nat.reduceAdd, Nat.reduceSub, Nat.reduceLeDiff, Nat.reduceLT, Nat.reduceBEq, Nat.reduceBNe, reduceCtorEq, D]
  refine callF h1 rfl ?_
  have h1 : (([] : List UInt8) == []) = true := rfl
  simp only [ic65_1, wkA, Nat.reduceEqDiff, Nat.reduceAdd, Nat.reduceSub, Nat.reduceLeDiff, Nat.reduceLT, Nat.reduceBEq, Nat.reduceBNe, reduceCtorEq, h1]
theorem con65p {neg : Bool} {s t u : List UInt8} {e : Int} (h1 : Fn 93 [.str s, .str [48]] (.str t)) (h2 : Fn 94 [.str t, .str [48]] (.str u)) (h0 : (t == []) = false) (hl : t.length < 1000000) (hu : u.length ≤ t.length) (he : -1000000000 < e ∧ e < 1000000000) : Fn 65 [D neg s e] (D neg u (e + t.length - u.length)) := by
  refine e65 (by simp) ?_
  simp only [ic65, wkA, Nat.reduceEqDiff, Nat.reduceAdd, Nat.reduceSub, Nat.reduceLeDiff, Nat.reduceLT, Nat.reduceBEq, Nat.reduceBNe, reduceCtorEq, D]
  refine callF h1 rfl ?_
  have e2 : IntKind.i64.wrap (e + (t.length : Int)) = e + (t.length : Int) := by rw [wrap64] <;> omega
  have e3 : IntKind.i64.wrap (e + (t.length : Int) - (u.length : Int)) = e + t.length - u.length := by rw [wrap64] <;> omega
  simp only [ic65_1, wkA, Nat.reduceEqDiff, Nat.reduceAdd, Nat.reduceSub, Nat.reduceLeDiff, Nat.reduceLT, Nat.reduceBEq, Nat.reduceBNe, reduceCtorEq, h0]
  refine callF h2 rfl ?_
  simp only [wkA, Nat.reduceEqDiff, Nat.reduceAdd, Nat.reduceSub, Nat.reduceLeDiff, Nat.reduceLT, Nat.reduceBEq, Nat.reduceBNe, reduceCtorEq, e2, e3]
theorem con65 {neg : Bool} {s : List UInt8} {e : Int} (hs : dgs s = true) (hl : s.length < 1000000) (he : -1000000000 < e ∧ e < 1000000000) : Fn 65 [D neg s e] (N neg (dv s) e) := by
  have h1 := con93 s (by omega)
  rw [← digs_dv hs] at h1
  have hn := nd_dv hs
  by_cases h0 : dv s = 0
  · rw [h0, digs_zero] at h1
    rw [h0, N_zero]
    exact con65z h1
  · have h2 := con94 (digs (dv s)) (by have : (digs (dv s)).length = nd (dv s) := rfl; omega)
    rw [rstrip_digs h0] at h2
    have e1 : (digs (dv s)).length = (digs (core (dv s))).length + tz (dv s) := nd_core h0
    have h3 := con65p (neg := neg) h1 h2 (by rw [strBeq]; exact decide_eq_false fun e => h0 (digs_nil.1 e)) (by have : (digs (dv s)).length = nd (dv s) := rfl; omega) (by omega) he
    rw [N_pos h0]
    rw [show e + ((digs (dv s)).length : Int) - ((digs (core (dv s))).length : Int) = e + tz (dv s) by omega] at h3
    exact h3
def okD (s : List UInt8) (e : Int) : Prop := dgs s = true ∧ s ≠ [] ∧ s.length < 100000 ∧ -1000000 < e ∧ e < 1000000
theorem okD.norm {s : List UInt8} {e : Int} (h : okD s e) (neg : Bool) : Fn 65 [D neg s e] (N neg (dv s) e) := con65 h.1 (by have := h.2.2.1; omega) (by have := h.2.2.2; omega)
theorem con43 {neg : Bool} {s : List UInt8} {e n : Int} (h : okD s e) (hn : -1000000 < n ∧ n < 1000000) : Fn 43 [D neg s e, i64 n] (N neg (dv s) (e + n)) := by
  refine e43 (by simp) ?_
  have e1 : IntKind.i64.wrap (e + n) = e + n := by have := h.2.2.2; rw [wrap64] <;> omega
  simp only [ic43, wkA, Nat.reduceEqDiff, Nat.reduceAdd, Nat.reduceSub, Nat.reduceLeDiff, Nat.reduceLT, Nat.reduceBEq, Nat.reduceBNe, reduceCtorEq, D, e1]
  refine callF (con65 h.1 (by have := h.2.2.1; omega) (by have := h.2.2.2; omega) : Fn 65 [D neg s (e + n)] _) rfl ?_
  simp only [wkA, Nat.reduceEqDiff, Nat.reduceAdd, Nat.reduceSub, Nat.reduceLeDiff, Nat.reduceLT, Nat.reduceBEq, Nat.reduceBNe, reduceCtorEq, N, D]
theorem con66 {neg : Bool} {s : List UInt8} {e : Int} (h : okD s e) : Fn 66 [D neg s e] (i64 (top (dv s) e)) := by
  refine e66 (by simp) ?_
  have hl : nd (dv s) ≤ s.length := nd_dv h.1
  have := h.2.2
  simp only [ic66, wkA, Nat.reduceEqDiff, Nat.reduceAdd, Nat.reduceSub, Nat.reduceLeDiff, Nat.reduceLT, Nat.reduceBEq, Nat.reduceBNe, reduceCtorEq, D]
  refine callF (h.norm neg) rfl ?_
  by_cases h0 : dv s = 0
  · have h1 : ([48] == ([48] : List UInt8)) = true := rfl
    rw [h0, N_zero]
    simp only [ic66_1, wkA, Nat.reduceEqDiff, Nat.reduceAdd, Nat.reduceSub, Nat.reduceLeDiff, Nat.reduceLT, Nat.reduceBEq, Nat.reduceBNe, reduceCtorEq, D, h1, top]
  · have h1 : (digs (core (dv s)) == [48]) = false := by
      rw [strBeq]; exact decide_eq_false fun e => core_ne h0 (text_eq48.1 (by rw [text_pos (core_ne h0)]; exact e))
    rw [N_pos h0, top, if_neg h0]
    have e1 : nd (dv s) = (digs (core (dv s))).length + tz (dv s) := nd_core h0
    generalize digs (core (dv s)) = m at *
    generalize tz (dv s) = k at *
    have e2 : IntKind.i64.wrap (e + k + (m.length : Int)) = e + k + (m.length : Int) := by rw [wrap64] <;> omega
    have e3 : IntKind.i64.wrap (e + k + (m.length : Int) - 1) = e + nd (dv s) - 1 := by rw [wrap64] <;> omega
    simp only [ic66_1, wkA, Nat.reduceEqDiff, Nat.reduceAdd, Nat.reduceSub, Nat.reduceLeDiff, Nat.reduceLT, Nat.reduceBEq, Nat.reduceBNe, reduceCtorEq, D, h1, e2, e3]
theorem con81 {neg : Bool} {s : List UInt8} {e : Int} (h : okD s e) : Fn 81 [D neg s e] (.bool (decide (dv s = 0))) := by
  refine e81 (by simp) ?_
  simp only [ic81, wkA, Nat.reduceEqDiff, Nat.reduceAdd, Nat.reduceSub, Nat.reduceLeDiff, Nat.reduceLT, Nat.reduceBEq, Nat.reduceBNe, reduceCtorEq, D]
  refine callF (h.norm neg) rfl ?_
  have h1 : (text (core (dv s)) == [48]) = decide (dv s = 0) := by
    rw [strBeq, decide_eq_decide, text_eq48]
    exact ⟨fun h => Classical.not_not.1 fun hn => core_ne hn h, fun h => by rw [h, core_zero]⟩
  simp only [wkA, Nat.reduceEqDiff, Nat.reduceAdd, Nat.reduceSub, Nat.reduceLeDiff, Nat.reduceLT, Nat.reduceBEq, Nat.reduceBNe, reduceCtorEq, N, D, h1]
theorem con61 {neg : Bool} {s : List UInt8} {e n : Int} (h : okD s e) (hn : -1000000 < n ∧ n < 1000000) : Fn 61 [D neg s e, i64 n] (i64 (top (dv s) e - (if n < 1 then 1 else n) + 1)) := by
  refine e61 (by simp) ?_
  simp only [ic61, wkA, Nat.reduceEqDiff, Nat.reduceAdd, Nat.reduceSub, Nat.reduceLeDiff, Nat.reduceLT, Nat.reduceBEq, Nat.reduceBNe, reduceCtorEq, D]
  refine callF (con66 h) rfl ?_
  have hl : nd (dv s) ≤ s.length := nd_dv h.1
  have h3 := h.2.2
  have h4 : -2000000 < top (dv s) e ∧ top (dv s) e < 2000000 := by unfold top; split <;> omega
  generalize top (dv s) e = t at *
  obtain ⟨m, hm⟩ : ∃ m, m = (if n < 1 then (1 : Int) else n) := ⟨_, rfl⟩
  have hm2 : -1000000 < m ∧ m < 1000000 := by rw [hm]; split <;> omega
  have e1 : IntKind.i64.wrap (t - m) = t - m := by rw [wrap64] <;> omega
  have e2 : IntKind.i64.wrap (t - m + 1) = t - m + 1 := by rw [wrap64] <;> omega
  simp only [wkA, Nat.reduceEqDiff, Nat.reduceAdd, Nat.reduceSub, Nat.reduceLeDiff, Nat.reduceLT, Nat.reduceBEq, Nat.reduceBNe, reduceCtorEq, ← hm, e1, e2]
theorem con72 {neg : Bool} {s : List UInt8} {e : Int} (h : okD s e) : Fn 72 [D neg s e] (L (limbs (dv s))) := by
  refine e72 (by simp) ?_
  simp only [ic72, wkA, Nat.reduceEqDiff, Nat.reduceAdd, Nat.reduceSub, Nat.reduceLeDiff, Nat.reduceLT, Nat.reduceBEq, Nat.reduceBNe, reduceCtorEq, D]
  refine callF (con64 (by have := h.2.2.1; omega) h.1 h.2.1) rfl ?_
  simp only [wkA, Nat.reduceEqDiff, Nat.reduceAdd, Nat.reduceSub, Nat.reduceLeDiff, Nat.reduceLT, Nat.reduceBEq, Nat.reduceBNe, reduceCtorEq, L]
def digAt (s : List UInt8) (e p : Int) : Nat := if p < e ∨ e + s.length ≤ p then 0 else (s.getD (s.length - 1 - (p - e).toNat) 0).toNat - 48
theorem con112 {neg : Bool} {s : List UInt8} {e p : Int} (h : okD s e) (hp : -10000000 < p ∧ p < 10000000) : Fn 112 [D neg s e, i64 p] (i64 (digAt s e p)) := by
  refine e112 (by simp) ?_
  have h3 := h.2.2
  have e1 : IntKind.i64.wrap (e + (s.length : Int)) = e + (s.length : Int) := by rw [wrap64] <;> omega
  unfold digAt
  by_cases h1 : p < e
  · have h2 : decide (p < e) = true := decide_eq_true h1
    rw [if_pos (.inl h1)]
    simp only [ic112, ic112_1, wkA, Nat.reduceEqDiff, Nat.reduceAdd, Nat.reduceSub, Nat.reduceLeDiff, Nat.reduceLT, Nat.reduceBEq, Nat.reduceBNe, reduceCtorEq, D, h2]
    rfl
  · have h2 : decide (p < e) = false := decide_eq_false h1
    by_cases h4 : e + (s.length : Int) ≤ p
    · have h5 : decide (p ≥ e + (s.length : Int)) = true := decide_eq_true h4
      rw [if_pos (.inr h4)]
      simp only [ic112, ic112_1, wkA, Nat.reduceEqDiff, Nat.reduceAdd, Nat.reduceSub, Nat.reduceLeDiff, Nat.reduceLT, Nat.reduceBEq, Nat.reduceBNe, reduceCtorEq, D, h2, e1, h5]
      rfl
    · have h5 : decide (p ≥ e + (s.length : Int)) = false := decide_eq_false (by omega)
      rw [if_neg (by omega)]
      have hk : (s.length : Int) - 1 - (p - e) = ((s.length - 1 - (p - e).toNat : Nat) : Int) := by omega
      have hlt : s.length - 1 - (p - e).toNat < s.length := by omega
      have hd := isDg_iff.1 (dgs_get h.1 hlt)
      generalize s.length - 1 - (p - e).toNat = k at *
      have e2 : IntKind.i64.wrap ((s.length : Int) - 1) = (s.length : Int) - 1 := by rw [wrap64] <;> omega
      have e3 : IntKind.i64.wrap (p - e) = p - e := by rw [wrap64] <;> omega
      have e4 : IntKind.i64.wrap ((s.length : Int) - 1 - (p - e)) = (k : Int) := by rw [wrap64] <;> omega
      have e5 : IntKind.u8.wrap (((s.getD k 0).toNat : Int) - 48) = (((s.getD k 0).toNat - 48 : Nat) : Int) := by
        simp only [IntKind.wrap, IntKind.signed, IntKind.bits, Bool.false_and, Bool.false_eq_true, if_false]; omega
      have e6 : IntKind.i64.wrap (((s.getD k 0).toNat - 48 : Nat) : Int) = (((s.getD k 0).toNat - 48 : Nat) : Int) := by rw [wrap64] <;> omega
      simp only [ic112, ic112_1, wkA, Nat.reduceEqDiff, Nat.reduceAdd, Nat.reduceSub, Nat.reduceLeDiff, Nat.reduceLT, Nat.reduceBEq, Nat.reduceBNe, reduceCtorEq, D, h2, e1, h5, e2, e3, e4, e5, e6, Int.toNat_natCast]
      omega
def goodD (s : List UInt8) (e : Int) : Bool := decide (s.length ≤ 1000) && decide (-1000 ≤ e) && decide (e ≤ 1000) && (dgs s && decide (s ≠ []))
theorem goodD_ok {s : List UInt8} {e : Int} (h : goodD s e = true) : okD s e ∧ s.length ≤ 1000 ∧ -1000 ≤ e ∧ e ≤ 1000 := by
  simp only [goodD, Bool.and_eq_true, decide_eq_true_eq] at h
  exact ⟨⟨h.2.1, h.2.2, by omega, by omega, by omega⟩, by omega, by omega, by omega⟩
def rngd (c : Nat) (e : Int) : Bool := decide (c = 0) || (decide (-300 ≤ ne c e) && decide (top c e < 300))
theorem con39 {neg : Bool} {s : List UInt8} {e : Int} : Fn 39 [D neg s e] (.bool (goodD s e)) := by
  refine e39 (by simp) ?_
  by_cases h1 : 1000 < s.length
  · have h2 : decide ((s.length : Int) > 1000) = true := decide_eq_true (by omega)
    have h3 : goodD s e = false := by simp [goodD]; omega
    simp only [ic39, ic39_1, wkA, Nat.reduceEqDiff, Nat.reduceAdd, Nat.reduceSub, Nat.reduceLeDiff, Nat.reduceLT, Nat.reduceBEq, Nat.reduceBNe, reduceCtorEq, D, h2, h3]
  · have h2 : decide ((s.length : Int) > 1000) = false := decide_eq_false (by omega)
    have h2b : decide (s.length ≤ 1000) = true := decide_eq_true (by omega)
    by_cases h3 : e < -1000
    · have h4 : decide (e < -1000) = true := decide_eq_true h3
      have h5 : goodD s e = false := by simp [goodD]; omega
      simp only [ic39, ic39_1, wkA, Nat.reduceEqDiff, Nat.reduceAdd, Nat.reduceSub, Nat.reduceLeDiff, Nat.reduceLT, Nat.reduceBEq, Nat.reduceBNe, reduceCtorEq, D, h2, h4, h5]
    · have h4 : decide (e < -1000) = false := decide_eq_false h3
      by_cases h5 : 1000 < e
      · have h6 : decide (e > 1000) = true := decide_eq_true h5
        have h7 : goodD s e = false := by simp [goodD]; omega
        simp only [ic39, ic39_1, wkA, Nat.reduceEqDiff, Nat.reduceAdd, Nat.reduceSub, Nat.reduceLeDiff, Nat.reduceLT, Nat.reduceBEq, Nat.reduceBNe, reduceCtorEq, D, h2, h4, h6, h7]
      · have h6 : decide (e > 1000) = false := decide_eq_false h5
        have h7 : goodD s e = (dgs s && decide (s ≠ [])) := by
          have h8 : decide (-1000 ≤ e) = true := decide_eq_true (by omega)
          have h9 : decide (e ≤ 1000) = true := decide_eq_true (by omega)
          rw [goodD, h2b, h8, h9]; rfl
        rw [h7]
        simp only [ic39, ic39_1, wkA, Nat.reduceEqDiff, Nat.reduceAdd, Nat.reduceSub, Nat.reduceLeDiff, Nat.reduceLT, Nat.reduceBEq, Nat.reduceBNe, reduceCtorEq, D, h2, h4, h6]
        by_cases h8 : dgs s = true ∧ s ≠ []
        · have h9 : (dgs s && decide (s ≠ [])) = true := by rw [h8.1, decide_eq_true h8.2]; rfl
          refine callF (con64 (by omega) h8.1 h8.2) rfl ?_
          simp only [ic39_1, wkA, Nat.reduceEqDiff, Nat.reduceAdd, Nat.reduceSub, Nat.reduceLeDiff, Nat.reduceLT, Nat.reduceBEq, Nat.reduceBNe, reduceCtorEq, h9]
        · have h9 : (dgs s && decide (s ≠ [])) = false := by
            rw [Bool.and_eq_false_iff]
            by_cases h10 : dgs s = true
            · exact .inr (decide_eq_false fun h => h8 ⟨h10, h⟩)
            · exact .inl (by simpa using h10)
          refine callF (con64_no (by omega) (by
            by_cases h10 : dgs s = true
            · exact .inr (Classical.not_not.1 fun h => h8 ⟨h10, h⟩)
            · exact .inl (by simpa using h10))) rfl ?_
          simp only [ic39_1, wkA, Nat.reduceEqDiff, Nat.reduceAdd, Nat.reduceSub, Nat.reduceLeDiff, Nat.reduceLT, Nat.reduceBEq, Nat.reduceBNe, reduceCtorEq, h9]
theorem okN {c : Nat} {e : Int} (h : nd c < 99990) (he : -1000000 < e ∧ e + nd c < 1000000) : okD (text (core c)) (ne c e) := by
  refine ⟨dgs_text _, text_ne _, ?_, ?_⟩
  · have h1 := text_len (core c)
    have h2 : nd (core c) ≤ nd c := by
      by_cases h0 : c = 0
      · subst h0; rw [core_zero]; omega
      · rw [nd_core h0]; omega
    omega
  · have := tz_le c
    unfold ne; split <;> omega
theorem con40 {neg : Bool} {s : List UInt8} {e : Int} (h : okD s e) (h9 : s.length < 99990) (h8 : e + s.length < 1000000) : Fn 40 [D neg s e] (.bool (rngd (dv s) e)) := by
  refine e40 (by simp) ?_
  have hl : nd (dv s) ≤ s.length := nd_dv h.1
  have h3 := h.2.2
  simp only [ic40, wkA, Nat.reduceEqDiff, Nat.reduceAdd, Nat.reduceSub, Nat.reduceLeDiff, Nat.reduceLT, Nat.reduceBEq, Nat.reduceBNe, reduceCtorEq, D]
  refine callF (h.norm neg) rfl ?_
  by_cases h0 : dv s = 0
  · have h1 : ([48] == ([48] : List UInt8)) = true := rfl
    have h2 : rngd (dv s) e = true := by rw [h0]; rfl
    rw [h2, h0, N_zero]
    simp only [wkA, Nat.reduceEqDiff, Nat.reduceAdd, Nat.reduceSub, Nat.reduceLeDiff, Nat.reduceLT, Nat.reduceBEq, Nat.reduceBNe, reduceCtorEq, D, h1]
  · have h1 : (digs (core (dv s)) == [48]) = false := by
      rw [strBeq]; exact decide_eq_false fun e => core_ne h0 (text_eq48.1 (by rw [text_pos (core_ne h0)]; exact e))
    have h2 : rngd (dv s) e = (decide (-300 ≤ ne (dv s) e) && decide (top (dv s) e < 300)) := by rw [rngd, decide_eq_false h0]; rfl
    have hn := okN (c := dv s) (e := e) (by omega) (by omega)
    have hc := con66 (neg := neg) hn
    rw [dv_text, top_core, text_pos (core_ne h0), ne_pos h0] at hc
    rw [h2, N_pos h0, ne_pos h0]
    generalize digs (core (dv s)) = m at *
    generalize e + (tz (dv s) : Int) = k at *
    generalize top (dv s) e = t at *
    by_cases h4 : k ≥ -300
    · have h5 : decide (k ≥ -300) = true := decide_eq_true h4
      have h6 : decide (-300 ≤ k) = true := decide_eq_true h4
      rw [h6, Bool.true_and]
      simp only [wkA, Nat.reduceEqDiff, Nat.reduceAdd, Nat.reduceSub, Nat.reduceLeDiff, Nat.reduceLT, Nat.reduceBEq, Nat.reduceBNe, reduceCtorEq, D, h1, h5]
      refine callF hc rfl ?_
      simp only [wkA, Nat.reduceEqDiff, Nat.reduceAdd, Nat.reduceSub, Nat.reduceLeDiff, Nat.reduceLT, Nat.reduceBEq, Nat.reduceBNe, reduceCtorEq]
    · have h5 : decide (k ≥ -300) = false := decide_eq_false h4
      have h6 : decide (-300 ≤ k) = false := decide_eq_false h4
      rw [h6, Bool.false_and]
      simp only [wkA, Nat.reduceEqDiff, Nat.reduceAdd, Nat.reduceSub, Nat.reduceLeDiff, Nat.reduceLT, Nat.reduceBEq, Nat.reduceBNe, reduceCtorEq, D, h1, h5]
def ic174 : IC := (.seq (.reg [zA 6 (.mv (.c (.bool false)))] false [0] []) (.seq (.reg [zM 7 0,zA 8 (.not (.t 7)),zM 6 8] false [6] []) .ret))
def kp174 : List (Nat × Keep) := [(0, ⟨[0], [], []⟩),
  (1, ⟨[6], [], []⟩)]
theorem c174 : (Tryz.f174.body.bind fun c => compC Tryz.prog 9 [] kp174 c) = some ic174 := by kernel_rfl
theorem e174 {args : List AV} {r : AV} (ha : args.length ≤ 9) (h : VC e0 ic174 (retQ [(6, none)] r) ⟨argT 0 args, []⟩) : Fn 174 args r := fn_of Tryz.func174 rfl (by kernel_rfl) c174 ha (by decide) h
def ic175 : IC := (.seq (.reg [zA 6 (.mv (.c (.bool false)))] false [0] []) (.seq (.reg [zM 7 0,zM 6 7] false [6] []) .ret))
def kp175 : List (Nat × Keep) := [(0, ⟨[0], [], []⟩),
  (1, ⟨[6], [], []⟩)]
theorem c175 : (Tryz.f175.body.bind fun c => compC Tryz.prog 8 [] kp175 c) = some ic175 := by kernel_rfl
theorem e175 {args : List AV} {r : AV} (ha : args.length ≤ 8) (h : VC e0 ic175 (retQ [(6, none)] r) ⟨argT 0 args, []⟩) : Fn 175 args r := fn_of Tryz.func175 rfl (by kernel_rfl) c175 ha (by decide) h
def ic176 : IC := (.seq (.reg [zA 6 (.mv (.c (.bool false)))] false [] []) (.seq (.reg [zA 6 (.mv (.c (.bool true)))] false [6] []) .ret))
def kp176 : List (Nat × Keep) := [(0, ⟨[], [], []⟩),
  (1, ⟨[6], [], []⟩)]
theorem c176 : (Tryz.f176.body.bind fun c => compC Tryz.prog 7 [] kp176 c) = some ic176 := by kernel_rfl
theorem e176 {args : List AV} {r : AV} (ha : args.length ≤ 7) (h : VC e0 ic176 (retQ [(6, none)] r) ⟨argT 0 args, []⟩) : Fn 176 args r := fn_of Tryz.func176 rfl (by kernel_rfl) c176 ha (by decide) h
def ic177 : IC := (.seq (.reg [zA 6 (.mv (.c (.bool false)))] false [] []) (.seq (.reg [zA 6 (.mv (.c (.bool false)))] false [6] []) .ret))
def kp177 : List (Nat × Keep) := [(0, ⟨[], [], []⟩),
  (1, ⟨[6], [], []⟩)]
theorem c177 : (Tryz.f177.body.bind fun c => compC Tryz.prog 7 [] kp177 c) = some ic177 := by kernel_rfl
theorem e177 {args : List AV} {r : AV} (ha : args.length ≤ 7) (h : VC e0 ic177 (retQ [(6, none)] r) ⟨argT 0 args, []⟩) : Fn 177 args r := fn_of Tryz.func177 rfl (by kernel_rfl) c177 ha (by decide) h
def ic178 : IC := (.seq (.reg [zA 6 (.mv (.c (.bool false)))] false [1,2] []) (.seq (.reg [zM 7 2,zA 8 (.bin .gtr none (.t 7) (.c (.int .i64 0))),zM 9 8,zF 9 10 (.mv (.t 2)),zF 9 11 (.bin .eql none (.t 10) (.c (.int .i64 0))),zF 9 12 (.mv (.t 11)),zT 12 13 (.mv (.t 1)),zF 9 14 (.pick (.t 12) (.t 13) (.c (.bool false))),zA 15 (.pick (.t 9) (.c (.bool true)) (.t 14)),zM 6 15] false [6] []) .ret))
def kp178 : List (Nat × Keep) := [(0, ⟨[1, 2], [], []⟩),
  (1, ⟨[6], [], []⟩)]
theorem c178 : (Tryz.f178.body.bind fun c => compC Tryz.prog 16 [] kp178 c) = some ic178 := by kernel_rfl
theorem e178 {args : List AV} {r : AV} (ha : args.length ≤ 16) (h : VC e0 ic178 (retQ [(6, none)] r) ⟨argT 0 args, []⟩) : Fn 178 args r := fn_of Tryz.func178 rfl (by kernel_rfl) c178 ha (by decide) h
def ic179 : IC := (.seq (.reg [zA 6 (.mv (.c (.bool false)))] false [2] []) (.seq (.reg [zM 7 2,zA 8 (.bin .geq none (.t 7) (.c (.int .i64 0))),zM 6 8] false [6] []) .ret))
def kp179 : List (Nat × Keep) := [(0, ⟨[2], [], []⟩),
  (1, ⟨[6], [], []⟩)]
theorem c179 : (Tryz.f179.body.bind fun c => compC Tryz.prog 9 [] kp179 c) = some ic179 := by kernel_rfl
theorem e179 {args : List AV} {r : AV} (ha : args.length ≤ 9) (h : VC e0 ic179 (retQ [(6, none)] r) ⟨argT 0 args, []⟩) : Fn 179 args r := fn_of Tryz.func179 rfl (by kernel_rfl) c179 ha (by decide) h
def ic180 : IC := (.seq (.reg [zA 6 (.mv (.c (.bool false)))] false [2] []) (.seq (.reg [zM 7 2,zA 8 (.bin .gtr none (.t 7) (.c (.int .i64 0))),zM 6 8] false [6] []) .ret))
def kp180 : List (Nat × Keep) := [(0, ⟨[2], [], []⟩),
  (1, ⟨[6], [], []⟩)]
theorem c180 : (Tryz.f180.body.bind fun c => compC Tryz.prog 9 [] kp180 c) = some ic180 := by kernel_rfl
theorem e180 {args : List AV} {r : AV} (ha : args.length ≤ 9) (h : VC e0 ic180 (retQ [(6, none)] r) ⟨argT 0 args, []⟩) : Fn 180 args r := fn_of Tryz.func180 rfl (by kernel_rfl) c180 ha (by decide) h
def ic181 : IC := (.seq (.reg [zA 6 (.mv (.c (.bool false)))] false [] []) (.seq (.reg [zA 6 (.mv (.c (.bool false)))] false [6] []) .ret))
def kp181 : List (Nat × Keep) := [(0, ⟨[], [], []⟩),
  (1, ⟨[6], [], []⟩)]
theorem c181 : (Tryz.f181.body.bind fun c => compC Tryz.prog 7 [] kp181 c) = some ic181 := by kernel_rfl
theorem e181 {args : List AV} {r : AV} (ha : args.length ≤ 7) (h : VC e0 ic181 (retQ [(6, none)] r) ⟨argT 0 args, []⟩) : Fn 181 args r := fn_of Tryz.func181 rfl (by kernel_rfl) c181 ha (by decide) h
theorem limbs_len10 {n k : Nat} (h : n < 10 ^ k) : (limbs n).length ≤ k := by
  refine limbs_len (Nat.lt_of_lt_of_le h ?_)
  exact Nat.pow_le_pow_left (by decide) k
theorem limbs_nd (n : Nat) : (limbs n).length ≤ nd n := limbs_len10 (lt_nd n)
theorem limbs_eq_nil {n : Nat} : (limbs n).length = 0 ↔ n = 0 := by
  constructor
  · intro h
    have := lv_limbs n
    rw [List.eq_nil_of_length_eq_zero h] at this
    exact this.symm
  · rintro rfl; rw [limbs_zero]; simp
theorem limbs_head {n : Nat} (h : n ≠ 0) : (limbs n).getD 0 0 % 2 = n % 2 ∧ 0 < (limbs n).length := by
  rw [limbs, dif_neg h]
  refine ⟨?_, by simp⟩
  simp only [List.getD_cons_zero]
  omega
theorem con38 (m : Int) : Fn 38 [i64 m] (.bool (decide (0 ≤ m) && decide (m < 8))) := by
  refine e38 (by simp) ?_
  by_cases h : 0 ≤ m
  · have h1 : decide (m ≥ 0) = true := decide_eq_true h
    have h2 : decide (0 ≤ m) = true := decide_eq_true h
    rw [h2]
    simp only [ic38, wkA, Nat.reduceEqDiff, Nat.reduceAdd, Nat.reduceSub, Nat.reduceLeDiff, Nat.reduceLT, Nat.reduceBEq, Nat.reduceBNe, reduceCtorEq, h1]
  · have h1 : decide (m ≥ 0) = false := decide_eq_false h
    have h2 : decide (0 ≤ m) = false := decide_eq_false h
    rw [h2]
    simp only [ic38, wkA, Nat.reduceEqDiff, Nat.reduceAdd, Nat.reduceSub, Nat.reduceLeDiff, Nat.reduceLT, Nat.reduceBEq, Nat.reduceBNe, reduceCtorEq, h1, Bool.false_and]
def awayB (m : Int) (neg odd : Bool) (half : Int) : Bool :=
  if m = 0 then !neg else if m = 1 then neg else if m = 2 then true else if m = 4 then decide (half > 0) || (decide (half = 0) && odd) else if m = 5 then decide (half ≥ 0) else if m = 6 then decide (half > 0) else false
theorem con174 (neg odd : Bool) (half : Int) : Fn 174 [.bool neg, .bool odd, i64 half] (.bool (!neg)) := by
  refine e174 (by simp) ?_
  simp only [ic174, wkA, Nat.reduceEqDiff, Nat.reduceAdd, Nat.reduceSub, Nat.reduceLeDiff, Nat.reduceLT, Nat.reduceBEq, Nat.reduceBNe, reduceCtorEq]
theorem con175 (neg odd : Bool) (half : Int) : Fn 175 [.bool neg, .bool odd, i64 half] (.bool neg) := by
  refine e175 (by simp) ?_
  simp only [ic175, wkA, Nat.reduceEqDiff, Nat.reduceAdd, Nat.reduceSub, Nat.reduceLeDiff, Nat.reduceLT, Nat.reduceBEq, Nat.reduceBNe, reduceCtorEq]
theorem con176 (neg odd : Bool) (half : Int) : Fn 176 [.bool neg, .bool odd, i64 half] (.bool true) := by
  refine e176 (by simp) ?_
  simp only [ic176, wkA, Nat.reduceEqDiff, Nat.reduceAdd, Nat.reduceSub, Nat.reduceLeDiff, Nat.reduceLT, Nat.reduceBEq, Nat.reduceBNe, reduceCtorEq]
theorem con177 (neg odd : Bool) (half : Int) : Fn 177 [.bool neg, .bool odd, i64 half] (.bool false) := by
  refine e177 (by simp) ?_
  simp only [ic177, wkA, Nat.reduceEqDiff, Nat.reduceAdd, Nat.reduceSub, Nat.reduceLeDiff, Nat.reduceLT, Nat.reduceBEq, Nat.reduceBNe, reduceCtorEq]
theorem con178 (neg odd : Bool) (half : Int) : Fn 178 [.bool neg, .bool odd, i64 half] (.bool (decide (half > 0) || (decide (half = 0) && odd))) := by
  refine e178 (by simp) ?_
  by_cases h : half > 0
  · have h1 : decide (half > 0) = true := decide_eq_true h
    rw [h1]
    simp only [ic178, wkA, Nat.reduceEqDiff, Nat.reduceAdd, Nat.reduceSub, Nat.reduceLeDiff, Nat.reduceLT, Nat.reduceBEq, Nat.reduceBNe, reduceCtorEq, h1, Bool.true_or]
  · have h1 : decide (half > 0) = false := decide_eq_false h
    by_cases h2 : half = 0
    · have h3 : (half == 0) = true := beq_iff_eq.2 h2
      rw [h1, decide_eq_true h2]
      simp only [ic178, wkA, Nat.reduceEqDiff, Nat.reduceAdd, Nat.reduceSub, Nat.reduceLeDiff, Nat.reduceLT, Nat.reduceBEq, Nat.reduceBNe, reduceCtorEq, h1, h3, Bool.false_or]
    · have h3 : (half == 0) = false := beq_eq_false_iff_ne.2 h2
      rw [h1, decide_eq_false h2]
      simp only [ic178, wkA, Nat.reduceEqDiff, Nat.reduceAdd, Nat.reduceSub, Nat.reduceLeDiff, Nat.reduceLT, Nat.reduceBEq, Nat.reduceBNe, reduceCtorEq, h1, h3, Bool.false_or, Bool.false_and]
theorem con179 (neg odd : Bool) (half : Int) : Fn 179 [.bool neg, .bool odd, i64 half] (.bool (decide (half ≥ 0))) := by
  refine e179 (by simp) ?_
  simp only [ic179, wkA, Nat.reduceEqDiff, Nat.reduceAdd, Nat.reduceSub, Nat.reduceLeDiff, Nat.reduceLT, Nat.reduceBEq, Nat.reduceBNe, reduceCtorEq]
theorem con180 (neg odd : Bool) (half : Int) : Fn 180 [.bool neg, .bool odd, i64 half] (.bool (decide (half > 0))) := by
  refine e180 (by simp) ?_
  simp only [ic180, wkA, Nat.reduceEqDiff, Nat.reduceAdd, Nat.reduceSub, Nat.reduceLeDiff, Nat.reduceLT, Nat.reduceBEq, Nat.reduceBNe, reduceCtorEq]
theorem con181 (neg odd : Bool) (half : Int) : Fn 181 [.bool neg, .bool odd, i64 half] (.bool false) := by
  refine e181 (by simp) ?_
  simp only [ic181, wkA, Nat.reduceEqDiff, Nat.reduceAdd, Nat.reduceSub, Nat.reduceLeDiff, Nat.reduceLT, Nat.reduceBEq, Nat.reduceBNe, reduceCtorEq]
theorem waysAt {n : Nat} (h : n < 8) : [AV.fn 174, AV.fn 175, AV.fn 176, AV.fn 177, AV.fn 178, AV.fn 179, AV.fn 180, AV.fn 181].getD n .top = .fn (174 + n) := by
  match n, h with
  | 0, _ | 1, _ | 2, _ | 3, _ | 4, _ | 5, _ | 6, _ | 7, _ => rfl
theorem conWay {n : Nat} (h : n < 8) (neg odd : Bool) (half : Int) : okF Tryz.prog (174 + n) = true ∧ Fn (174 + n) [.bool neg, .bool odd, i64 half] (.bool (awayB n neg odd half)) := by
  match n, h with
  | 0, _ => exact ⟨by kernel_rfl, con174 neg odd half⟩
  | 1, _ => exact ⟨by kernel_rfl, con175 neg odd half⟩
  | 2, _ => exact ⟨by kernel_rfl, con176 neg odd half⟩
  | 3, _ => exact ⟨by kernel_rfl, con177 neg odd half⟩
  | 4, _ => exact ⟨by kernel_rfl, con178 neg odd half⟩
  | 5, _ => exact ⟨by kernel_rfl, con179 neg odd half⟩
  | 6, _ => exact ⟨by kernel_rfl, con180 neg odd half⟩
  | 7, _ => exact ⟨by kernel_rfl, con181 neg odd half⟩
theorem con73 (m : Int) (neg odd : Bool) (half : Int) : Fn 73 [i64 m, .bool neg, .bool odd, i64 half] (.bool (awayB m neg odd half)) := by
  refine e73 (by simp) ?_
  simp only [ic73, wkA, Nat.reduceEqDiff, Nat.reduceAdd, Nat.reduceSub, Nat.reduceLeDiff, Nat.reduceLT, Nat.reduceBEq, Nat.reduceBNe, reduceCtorEq]
  refine callF (con38 m) rfl ?_
  by_cases h : 0 ≤ m ∧ m < 8
  · have h1 : (decide (0 ≤ m) && decide (m < 8)) = true := by rw [decide_eq_true h.1, decide_eq_true h.2]; rfl
    obtain ⟨n, rfl⟩ : ∃ n : Nat, m = n := ⟨m.toNat, by omega⟩
    have hn : n < 8 := by omega
    obtain ⟨hok, hw⟩ := conWay hn neg odd half
    simp only [wkA, Nat.reduceEqDiff, Nat.reduceAdd, Nat.reduceSub, Nat.reduceLeDiff, Nat.reduceLT, Nat.reduceBEq, Nat.reduceBNe, reduceCtorEq, h1, Int.toNat_natCast, waysAt hn]
    refine ⟨⟨by omega, by omega⟩, hok, callF hw rfl ?_⟩
    simp only [wkA, Nat.reduceEqDiff, Nat.reduceAdd, Nat.reduceSub, Nat.reduceLeDiff, Nat.reduceLT, Nat.reduceBEq, Nat.reduceBNe, reduceCtorEq]
  · have h1 : (decide (0 ≤ m) && decide (m < 8)) = false := by
      rw [Bool.and_eq_false_iff]
      by_cases h2 : 0 ≤ m
      · exact .inr (decide_eq_false fun h3 => h ⟨h2, h3⟩)
      · exact .inl (decide_eq_false h2)
    have h2 : awayB m neg odd half = false := by
      unfold awayB
      rw [if_neg (by omega), if_neg (by omega), if_neg (by omega), if_neg (by omega), if_neg (by omega), if_neg (by omega)]
    rw [h2]
    simp only [wkA, Nat.reduceEqDiff, Nat.reduceAdd, Nat.reduceSub, Nat.reduceLeDiff, Nat.reduceLT, Nat.reduceBEq, Nat.reduceBNe, reduceCtorEq, h1]
theorem nd_mul_le {c k : Nat} : nd (c * 10 ^ k) ≤ nd c + k := by
  by_cases h : c = 0
  · subst h; simp [nd_zero]
  · rw [nd_mul h]; exact Nat.le_refl _
theorem con78 {neg : Bool} {s : List UInt8} {e p : Int} (h : okD s e) (hp : e ≤ p) (hp2 : p - e < 100000) : Fn 78 [D neg s e, i64 p] (.tup [L (limbs (dv s / 10 ^ (p - e).toNat)), L (limbs (dv s % 10 ^ (p - e).toNat))]) := by
  have c1 := con72 (neg := neg) h
  have hb := h.2.2
  have hq := limbs_nd (dv s)
  have hr := nd_dv h.1
  have c2 := con106 (xs := limbs (dv s)) (n := (p - e).toNat) (by omega) (by omega) (ok_limbs _)
  rw [lv_limbs, show (((p - e).toNat : Nat) : Int) = p - e by omega] at c2
  have w1 : IntKind.i64.wrap (p - e) = p - e := by rw [wrap64] <;> omega
  refine e78 (by simp) ?_
  generalize limbs (dv s / 10 ^ (p - e).toNat) = qs at *
  generalize limbs (dv s % 10 ^ (p - e).toNat) = rs at *
  simp only [ic78, wkA, Nat.reduceEqDiff, Nat.reduceAdd, Nat.reduceSub, Nat.reduceLeDiff, Nat.reduceLT, Nat.reduceBEq, Nat.reduceBNe, reduceCtorEq, L, lenL, mapTake, mapDrop, List.drop_zero, Int.toNat_natCast, Int.toNat_zero, Nat.sub_zero, List.length_map, D] at c1 c2 ⊢
  refine callFD c1 rfl ?_
  simp only [wkA, Nat.reduceEqDiff, Nat.reduceAdd, Nat.reduceSub, Nat.reduceLeDiff, Nat.reduceLT, Nat.reduceBEq, Nat.reduceBNe, reduceCtorEq, L, lenL, mapTake, mapDrop, List.drop_zero, Int.toNat_natCast, Int.toNat_zero, Nat.sub_zero, List.length_map, w1]
  refine callFD c2 rfl ?_
  simp only [wkA, Nat.reduceEqDiff, Nat.reduceAdd, Nat.reduceSub, Nat.reduceLeDiff, Nat.reduceLT, Nat.reduceBEq, Nat.reduceBNe, reduceCtorEq, L, lenL, mapTake, mapDrop, List.drop_zero, Int.toNat_natCast, Int.toNat_zero, Nat.sub_zero, List.length_map]
def fits (c : Nat) (e p : Int) : Bool := decide (p ≤ e) || decide (c % 10 ^ (p - e).toNat = 0)
theorem con46 {neg : Bool} {s : List UInt8} {e p : Int} (h : okD s e) (hp2 : p - e < 100000) : Fn 46 [D neg s e, i64 p] (.bool (fits (dv s) e p)) := by
  refine e46 (by simp) ?_
  by_cases hle : p ≤ e
  · have h1 : decide (p ≤ e) = true := decide_eq_true hle
    rw [fits, h1]
    simp only [ic46, wkA, Nat.reduceEqDiff, Nat.reduceAdd, Nat.reduceSub, Nat.reduceLeDiff, Nat.reduceLT, Nat.reduceBEq, Nat.reduceBNe, reduceCtorEq, L, lenL, mapTake, mapDrop, List.drop_zero, Int.toNat_natCast, Int.toNat_zero, Nat.sub_zero, List.length_map, D, h1, Bool.true_or]
  · have h1 : decide (p ≤ e) = false := decide_eq_false hle
    have c1 := con78 (neg := neg) h (show e ≤ p by omega) hp2
    rw [fits, h1]
    have h2 : decide (dv s % 10 ^ (p - e).toNat = 0) = (((limbs (dv s % 10 ^ (p - e).toNat)).length : Int) == 0) := by
      have := limbs_eq_nil (n := dv s % 10 ^ (p - e).toNat)
      rw [Bool.eq_iff_iff, decide_eq_true_eq, beq_iff_eq]
      omega
    rw [h2]
    generalize limbs (dv s / 10 ^ (p - e).toNat) = qs at *
    generalize limbs (dv s % 10 ^ (p - e).toNat) = rs at *
    simp only [ic46, wkA, Nat.reduceEqDiff, Nat.reduceAdd, Nat.reduceSub, Nat.reduceLeDiff, Nat.reduceLT, Nat.reduceBEq, Nat.reduceBNe, reduceCtorEq, L, lenL, mapTake, mapDrop, List.drop_zero, Int.toNat_natCast, Int.toNat_zero, Nat.sub_zero, List.length_map, D, h1] at c1 ⊢
    simp only [ic46_1, wkA, Nat.reduceEqDiff, Nat.reduceAdd, Nat.reduceSub, Nat.reduceLeDiff, Nat.reduceLT, Nat.reduceBEq, Nat.reduceBNe, reduceCtorEq, L, lenL, mapTake, mapDrop, List.drop_zero, Int.toNat_natCast, Int.toNat_zero, Nat.sub_zero, List.length_map]
    refine callF c1 rfl ?_
    simp only [wkA, Nat.reduceEqDiff, Nat.reduceAdd, Nat.reduceSub, Nat.reduceLeDiff, Nat.reduceLT, Nat.reduceBEq, Nat.reduceBNe, reduceCtorEq, L, lenL, mapTake, mapDrop, List.drop_zero, Int.toNat_natCast, Int.toNat_zero, Nat.sub_zero, List.length_map, Bool.false_or]
def zD : AV := D false [] 0
def good8 (m : Int) : Bool := decide (0 ≤ m) && decide (m < 8)
def rq (m : Int) (neg : Bool) (c w : Nat) : Nat := c / w + if awayB m neg (decide (c / w % 2 = 1)) (cmpI ((2 * (c % w) : Nat) : Int) (w : Nat)) = true then 1 else 0
theorem rq_le (m : Int) (neg : Bool) (c w : Nat) : rq m neg c w ≤ c / w + 1 := by unfold rq; split <;> omega
def plR (m : Int) (neg : Bool) (c : Nat) (e p : Int) : AV :=
  if good8 m = false then .tup [zD, i64 1]
  else if fits c e p = true then .tup [N neg c e, i64 0]
  else if m = 7 then .tup [zD, i64 11]
  else .tup [N neg (rq m neg c (10 ^ (p - e).toNat)) p, i64 0]
theorem oddL {n : Nat} : (if decide (((limbs n).length : Int) > 0) = true then decide ((limbs n).getD 0 0 % 2 = 1) else false) = decide (n % 2 = 1) := by
  by_cases h : n = 0
  · subst h; rw [limbs_zero]; simp
  · obtain ⟨h1, h2⟩ := limbs_head h
    rw [if_pos (decide_eq_true (by omega)), h1]
theorem con69 {m : Int} {neg : Bool} {s : List UInt8} {e p : Int} (h : okD s e) (hp : -100000 < p ∧ p < 100000) (he : -50000 < e ∧ e < 50000) (hl : s.length < 10000) (hp2 : p - e < 50000) : Fn 69 [i64 m, D neg s e, i64 p] (plR m neg (dv s) e p) := by
  refine e69 (by simp) ?_
  have hr := nd_dv h.1
  cases hg : good8 m with
  | false =>
    have hg' : (decide (0 ≤ m) && decide (m < 8)) = false := hg
    rw [plR, if_pos hg]
    simp only [ic69, wkA, Nat.reduceEqDiff, Nat.reduceAdd, Nat.reduceSub, Nat.reduceLeDiff, Nat.reduceLT, Nat.reduceBEq, Nat.reduceBNe, reduceCtorEq, L, lenL, mapTake, mapDrop, List.drop_zero, Int.toNat_natCast, Int.toNat_zero, Nat.sub_zero, List.length_map, D]
    refine callF (con38 m) rfl ?_
    simp only [wkA, Nat.reduceEqDiff, Nat.reduceAdd, Nat.reduceSub, Nat.reduceLeDiff, Nat.reduceLT, Nat.reduceBEq, Nat.reduceBNe, reduceCtorEq, L, lenL, mapTake, mapDrop, List.drop_zero, Int.toNat_natCast, Int.toNat_zero, Nat.sub_zero, List.length_map, hg', Bool.not_false]
    simp only [wkA, Nat.reduceEqDiff, Nat.reduceAdd, Nat.reduceSub, Nat.reduceLeDiff, Nat.reduceLT, Nat.reduceBEq, Nat.reduceBNe, reduceCtorEq, L, lenL, mapTake, mapDrop, List.drop_zero, Int.toNat_natCast, Int.toNat_zero, Nat.sub_zero, List.length_map, zD, D]
  | true =>
    have hg' : (decide (0 ≤ m) && decide (m < 8)) = true := hg
    rw [plR, if_neg (by rw [hg]; simp)]
    have c46 := con46 (neg := neg) h (show p - e < 100000 by omega)
    cases hf : fits (dv s) e p with
    | true =>
      rw [if_pos rfl]
      rw [hf] at c46
      have c65 := h.norm neg
      simp only [ic69, wkA, Nat.reduceEqDiff, Nat.reduceAdd, Nat.reduceSub, Nat.reduceLeDiff, Nat.reduceLT, Nat.reduceBEq, Nat.reduceBNe, reduceCtorEq, L, lenL, mapTake, mapDrop, List.drop_zero, Int.toNat_natCast, Int.toNat_zero, Nat.sub_zero, List.length_map, D] at c46 c65 ⊢
      refine callF (con38 m) rfl ?_
      simp only [wkA, Nat.reduceEqDiff, Nat.reduceAdd, Nat.reduceSub, Nat.reduceLeDiff, Nat.reduceLT, Nat.reduceBEq, Nat.reduceBNe, reduceCtorEq, L, lenL, mapTake, mapDrop, List.drop_zero, Int.toNat_natCast, Int.toNat_zero, Nat.sub_zero, List.length_map, hg', Bool.not_true]
      refine callF c46 rfl ?_
      simp only [wkA, Nat.reduceEqDiff, Nat.reduceAdd, Nat.reduceSub, Nat.reduceLeDiff, Nat.reduceLT, Nat.reduceBEq, Nat.reduceBNe, reduceCtorEq, L, lenL, mapTake, mapDrop, List.drop_zero, Int.toNat_natCast, Int.toNat_zero, Nat.sub_zero, List.length_map]
      refine callF c65 rfl ?_
      simp only [wkA, Nat.reduceEqDiff, Nat.reduceAdd, Nat.reduceSub, Nat.reduceLeDiff, Nat.reduceLT, Nat.reduceBEq, Nat.reduceBNe, reduceCtorEq, L, lenL, mapTake, mapDrop, List.drop_zero, Int.toNat_natCast, Int.toNat_zero, Nat.sub_zero, List.length_map, N, D]
    | false =>
      rw [if_neg (by simp)]
      rw [hf] at c46
      have hple : ¬ p ≤ e := by
        intro hle
        rw [fits, decide_eq_true hle] at hf
        simp at hf
      by_cases h7 : m = 7
      · rw [if_pos h7]
        have h7' : (m == 7) = true := beq_iff_eq.2 h7
        simp only [ic69, wkA, Nat.reduceEqDiff, Nat.reduceAdd, Nat.reduceSub, Nat.reduceLeDiff, Nat.reduceLT, Nat.reduceBEq, Nat.reduceBNe, reduceCtorEq, L, lenL, mapTake, mapDrop, List.drop_zero, Int.toNat_natCast, Int.toNat_zero, Nat.sub_zero, List.length_map, D] at c46 ⊢
        refine callF (con38 m) rfl ?_
        simp only [wkA, Nat.reduceEqDiff, Nat.reduceAdd, Nat.reduceSub, Nat.reduceLeDiff, Nat.reduceLT, Nat.reduceBEq, Nat.reduceBNe, reduceCtorEq, L, lenL, mapTake, mapDrop, List.drop_zero, Int.toNat_natCast, Int.toNat_zero, Nat.sub_zero, List.length_map, hg', Bool.not_true]
        refine callF c46 rfl ?_
        simp only [wkA, Nat.reduceEqDiff, Nat.reduceAdd, Nat.reduceSub, Nat.reduceLeDiff, Nat.reduceLT, Nat.reduceBEq, Nat.reduceBNe, reduceCtorEq, L, lenL, mapTake, mapDrop, List.drop_zero, Int.toNat_natCast, Int.toNat_zero, Nat.sub_zero, List.length_map, h7']
        simp only [wkA, Nat.reduceEqDiff, Nat.reduceAdd, Nat.reduceSub, Nat.reduceLeDiff, Nat.reduceLT, Nat.reduceBEq, Nat.reduceBNe, reduceCtorEq, L, lenL, mapTake, mapDrop, List.drop_zero, Int.toNat_natCast, Int.toNat_zero, Nat.sub_zero, List.length_map, zD, D]
      · rw [if_neg h7]
        have h7' : (m == 7) = false := beq_eq_false_iff_ne.2 h7
        have c78 := con78 (neg := neg) h (show e ≤ p by omega) (by omega)
        have w1 : IntKind.i64.wrap (p - e) = p - e := by rw [wrap64] <;> omega
        obtain ⟨k, hk⟩ : ∃ k, k = (p - e).toNat := ⟨_, rfl⟩
        have c70 := con70 (xs := [1]) (n := p - e) (by simp) (by omega) (ok_one.2 (by decide))
        rw [lv_one, Nat.one_mul] at c70
        rw [← hk] at c78 c70 ⊢
        have hw : 0 < 10 ^ k := Nat.pow_pos (by decide)
        have hk2 : nd (10 ^ k) = k + 1 := by
          have := nd_mul (n := 1) (by decide) k
          rw [Nat.one_mul] at this
          rw [this, nd_pos (by decide), nd_zero]; omega
        obtain ⟨q, hq⟩ : ∃ q, q = dv s / 10 ^ k := ⟨_, rfl⟩
        obtain ⟨r, hrr⟩ : ∃ r, r = dv s % 10 ^ k := ⟨_, rfl⟩
        obtain ⟨w, hww⟩ : ∃ w, w = 10 ^ k := ⟨_, rfl⟩
        have hrw : r < w := by rw [hrr, hww]; exact Nat.mod_lt _ hw
        rw [rq, ← hq, ← hrr, ← hww]
        rw [← hq, ← hrr] at c78
        rw [← hww] at c70 hk2
        have l1 := limbs_nd r
        have l2 := limbs_nd w
        have l3 := limbs_nd q
        have l4 := nd_mono (show r ≤ w by omega)
        have l5 : nd q ≤ nd (dv s) := nd_mono (by rw [hq]; exact Nat.div_le_self _ _)
        have l6 := limbs_nd (r + r)
        have l7 : nd (r + r) ≤ nd (w * 10 ^ 1) := nd_mono (by omega)
        have l8 : nd (w * 10 ^ 1) ≤ nd w + 1 := nd_mul_le
        have c75 := con75 (xs := limbs r) (ys := limbs r) (by omega) (by omega) (ok_limbs _) (ok_limbs _)
        rw [lv_limbs] at c75
        have c74 := con74 (xs := limbs (r + r)) (ys := limbs w) (by omega) (by omega) (ok_limbs _) (ok_limbs _)
        rw [lv_limbs, lv_limbs] at c74
        have hodd := oddL (n := q)
        have c75q := con75 (xs := limbs q) (ys := [1]) (by omega) (by simp) (ok_limbs _) (ok_one.2 (by decide))
        rw [lv_limbs, lv_one] at c75q
        have hnq : nd (q + 1) ≤ nd q + 1 := by
          by_cases h0 : q = 0
          · rw [h0, nd_zero, nd_pos (by decide), nd_zero]; omega
          · have := nd_mul h0 1
            have := nd_mono (show q + 1 ≤ q * 10 ^ 1 by omega)
            omega
        have c76 : ∀ x, nd x ≤ nd q + 1 → Fn 76 [L (limbs x)] (.str (text x)) := fun x hx => by
          have l9 := limbs_nd x
          have := con76 (xs := limbs x) (by omega) (ok_limbs x)
          rwa [lv_limbs] at this
        have c65 : ∀ x, nd x ≤ nd q + 1 → Fn 65 [D neg (text x) p] (N neg x p) := fun x hx => by
          have := con65 (neg := neg) (s := text x) (e := p) (dgs_text x) (by have := text_len x; omega) (by omega)
          rwa [dv_text] at this
        have c73 := con73 m neg (decide (q % 2 = 1)) (cmpI ((r + r : Nat) : Int) (w : Nat))
        rw [show (2 * r : Nat) = r + r by omega]
        generalize awayB m neg (decide (q % 2 = 1)) (cmpI ((r + r : Nat) : Int) (w : Nat)) = aw at *
        simp only [ic69, wkA, Nat.reduceEqDiff, Nat.reduceAdd, Nat.reduceSub, Nat.reduceLeDiff, Nat.reduceLT, Nat.reduceBEq, Nat.reduceBNe, reduceCtorEq, L, lenL, mapTake, mapDrop, List.drop_zero, Int.toNat_natCast, Int.toNat_zero, Nat.sub_zero, List.length_map, D] at c46 c78 c70 c75 c74 c75q ⊢
        refine callF (con38 m) rfl ?_
        simp only [wkA, Nat.reduceEqDiff, Nat.reduceAdd, Nat.reduceSub, Nat.reduceLeDiff, Nat.reduceLT, Nat.reduceBEq, Nat.reduceBNe, reduceCtorEq, L, lenL, mapTake, mapDrop, List.drop_zero, Int.toNat_natCast, Int.toNat_zero, Nat.sub_zero, List.length_map, hg', Bool.not_true]
        refine callF c46 rfl ?_
        simp only [wkA, Nat.reduceEqDiff, Nat.reduceAdd, Nat.reduceSub, Nat.reduceLeDiff, Nat.reduceLT, Nat.reduceBEq, Nat.reduceBNe, reduceCtorEq, L, lenL, mapTake, mapDrop, List.drop_zero, Int.toNat_natCast, Int.toNat_zero, Nat.sub_zero, List.length_map, h7']
        simp only [ic69_2, wkA, Nat.reduceEqDiff, Nat.reduceAdd, Nat.reduceSub, Nat.reduceLeDiff, Nat.reduceLT, Nat.reduceBEq, Nat.reduceBNe, reduceCtorEq, L, lenL, mapTake, mapDrop, List.drop_zero, Int.toNat_natCast, Int.toNat_zero, Nat.sub_zero, List.length_map]
        refine callF c78 rfl ?_
        simp only [wkA, Nat.reduceEqDiff, Nat.reduceAdd, Nat.reduceSub, Nat.reduceLeDiff, Nat.reduceLT, Nat.reduceBEq, Nat.reduceBNe, reduceCtorEq, L, lenL, mapTake, mapDrop, List.drop_zero, Int.toNat_natCast, Int.toNat_zero, Nat.sub_zero, List.length_map]
        refine callFD c75 rfl ?_
        simp only [wkA, Nat.reduceEqDiff, Nat.reduceAdd, Nat.reduceSub, Nat.reduceLeDiff, Nat.reduceLT, Nat.reduceBEq, Nat.reduceBNe, reduceCtorEq, L, lenL, mapTake, mapDrop, List.drop_zero, Int.toNat_natCast, Int.toNat_zero, Nat.sub_zero, List.length_map, w1]
        refine callFD c70 rfl ?_
        simp only [wkA, Nat.reduceEqDiff, Nat.reduceAdd, Nat.reduceSub, Nat.reduceLeDiff, Nat.reduceLT, Nat.reduceBEq, Nat.reduceBNe, reduceCtorEq, L, lenL, mapTake, mapDrop, List.drop_zero, Int.toNat_natCast, Int.toNat_zero, Nat.sub_zero, List.length_map, w1]
        refine callFD c74 rfl ?_
        simp only [wkA, Nat.reduceEqDiff, Nat.reduceAdd, Nat.reduceSub, Nat.reduceLeDiff, Nat.reduceLT, Nat.reduceBEq, Nat.reduceBNe, reduceCtorEq, L, lenL, mapTake, mapDrop, List.drop_zero, Int.toNat_natCast, Int.toNat_zero, Nat.sub_zero, List.length_map]
        have fin : ∀ (x : Nat) (ex : List (Nat × AV)), nd x ≤ nd q + 1 → VC e0 ic69_1 (retQ [(6, some (some 3)), (7, none)] (.tup [N neg x p, i64 0])) ⟨(2, i64 p) :: (4, .box 4 0) :: (6, .box 6 0) :: (8, .sl 1 ((limbs x).map u32)) :: ex, [(4, .box 23 [.bool neg, .str s, i64 e]), (6, .box 23 [.bool false, .str [], i64 0])]⟩ := by
          intro x ex hx
          have d76 := c76 x hx
          have d65 := c65 x hx
          simp only [L, D] at d76 d65
          simp only [ic69_1, wkA, Nat.reduceEqDiff, Nat.reduceAdd, Nat.reduceSub, Nat.reduceLeDiff, Nat.reduceLT, Nat.reduceBEq, Nat.reduceBNe, reduceCtorEq, L, lenL, mapTake, mapDrop, List.drop_zero, Int.toNat_natCast, Int.toNat_zero, Nat.sub_zero, List.length_map]
          refine callFD d76 rfl ?_
          simp only [wkA, Nat.reduceEqDiff, Nat.reduceAdd, Nat.reduceSub, Nat.reduceLeDiff, Nat.reduceLT, Nat.reduceBEq, Nat.reduceBNe, reduceCtorEq, L, lenL, mapTake, mapDrop, List.drop_zero, Int.toNat_natCast, Int.toNat_zero, Nat.sub_zero, List.length_map]
          refine callFD d65 rfl ?_
          simp only [wkA, Nat.reduceEqDiff, Nat.reduceAdd, Nat.reduceSub, Nat.reduceLeDiff, Nat.reduceLT, Nat.reduceBEq, Nat.reduceBNe, reduceCtorEq, L, lenL, mapTake, mapDrop, List.drop_zero, Int.toNat_natCast, Int.toNat_zero, Nat.sub_zero, List.length_map, N, D]
        by_cases h0 : q = 0
        · have e1 : decide (((limbs q).length : Int) > 0) = false := by rw [h0, limbs_zero]; rfl
          have e2 : decide (q % 2 = 1) = false := by rw [h0]; rfl
          rw [e2] at c73
          simp only [wkA, Nat.reduceEqDiff, Nat.reduceAdd, Nat.reduceSub, Nat.reduceLeDiff, Nat.reduceLT, Nat.reduceBEq, Nat.reduceBNe, reduceCtorEq, L, lenL, mapTake, mapDrop, List.drop_zero, Int.toNat_natCast, Int.toNat_zero, Nat.sub_zero, List.length_map, e1]
          refine callFD c73 rfl ?_
          cases aw with
          | true =>
            simp only [wkA, Nat.reduceEqDiff, Nat.reduceAdd, Nat.reduceSub, Nat.reduceLeDiff, Nat.reduceLT, Nat.reduceBEq, Nat.reduceBNe, reduceCtorEq, L, lenL, mapTake, mapDrop, List.drop_zero, Int.toNat_natCast, Int.toNat_zero, Nat.sub_zero, List.length_map]
            refine callF c75q rfl ?_
            simp only [wkA, Nat.reduceEqDiff, Nat.reduceAdd, Nat.reduceSub, Nat.reduceLeDiff, Nat.reduceLT, Nat.reduceBEq, Nat.reduceBNe, reduceCtorEq, L, lenL, mapTake, mapDrop, List.drop_zero, Int.toNat_natCast, Int.toNat_zero, Nat.sub_zero, List.length_map]
            exact fin (q + 1) [] hnq
          | false =>
            simp only [wkA, Nat.reduceEqDiff, Nat.reduceAdd, Nat.reduceSub, Nat.reduceLeDiff, Nat.reduceLT, Nat.reduceBEq, Nat.reduceBNe, reduceCtorEq, L, lenL, mapTake, mapDrop, List.drop_zero, Int.toNat_natCast, Int.toNat_zero, Nat.sub_zero, List.length_map]
            exact fin (q + 0) _ (by simp)
        · obtain ⟨q1, q2⟩ := limbs_head h0
          have e1 : decide (((limbs q).length : Int) > 0) = true := decide_eq_true (by omega)
          have e2 : (((((limbs q).getD 0 0 : Nat) : Int).tmod 2) == 1) = decide (q % 2 = 1) := by
            rw [show (((limbs q).getD 0 0 : Nat) : Int).tmod 2 = (((limbs q).getD 0 0 % 2 : Nat) : Int) from rfl, q1, Bool.eq_iff_iff, beq_iff_eq, decide_eq_true_eq]
            omega
          simp only [wkA, Nat.reduceEqDiff, Nat.reduceAdd, Nat.reduceSub, Nat.reduceLeDiff, Nat.reduceLT, Nat.reduceBEq, Nat.reduceBNe, reduceCtorEq, L, lenL, mapTake, mapDrop, List.drop_zero, Int.toNat_natCast, Int.toNat_zero, Nat.sub_zero, List.length_map, e1, getL q2, e2]
          refine ⟨⟨by omega, by omega⟩, by omega, callFD c73 rfl ?_⟩
          cases aw with
          | true =>
            simp only [wkA, Nat.reduceEqDiff, Nat.reduceAdd, Nat.reduceSub, Nat.reduceLeDiff, Nat.reduceLT, Nat.reduceBEq, Nat.reduceBNe, reduceCtorEq, L, lenL, mapTake, mapDrop, List.drop_zero, Int.toNat_natCast, Int.toNat_zero, Nat.sub_zero, List.length_map]
            refine callF c75q rfl ?_
            simp only [wkA, Nat.reduceEqDiff, Nat.reduceAdd, Nat.reduceSub, Nat.reduceLeDiff, Nat.reduceLT, Nat.reduceBEq, Nat.reduceBNe, reduceCtorEq, L, lenL, mapTake, mapDrop, List.drop_zero, Int.toNat_natCast, Int.toNat_zero, Nat.sub_zero, List.length_map]
            exact fin (q + 1) [] hnq
          | false =>
            simp only [wkA, Nat.reduceEqDiff, Nat.reduceAdd, Nat.reduceSub, Nat.reduceLeDiff, Nat.reduceLT, Nat.reduceBEq, Nat.reduceBNe, reduceCtorEq, L, lenL, mapTake, mapDrop, List.drop_zero, Int.toNat_natCast, Int.toNat_zero, Nat.sub_zero, List.length_map]
            exact fin (q + 0) _ (by simp)
def sgR (m : Int) (neg : Bool) (c : Nat) (e n : Int) : AV := if n < 1 then .tup [zD, i64 1] else plR m neg c e (top c e - n + 1)
theorem plR_bad {m : Int} (h : good8 m = false) (neg : Bool) (c : Nat) (e p : Int) : plR m neg c e p = .tup [zD, i64 1] := by rw [plR, if_pos h]
theorem plR_two (m : Int) (neg : Bool) (c : Nat) (e p : Int) : ∃ a b d k, plR m neg c e p = .tup [.agg [a, b, d], i64 k] := by
  unfold plR
  split
  · exact ⟨_, _, _, _, rfl⟩
  · split
    · exact ⟨_, _, _, _, rfl⟩
    · split
      · exact ⟨_, _, _, _, rfl⟩
      · exact ⟨_, _, _, _, rfl⟩
theorem con68 {m n : Int} {neg : Bool} {s : List UInt8} {e : Int} (h : okD s e) (hn : -10000 < n ∧ n < 10000) (he : -10000 < e ∧ e < 10000) (hl : s.length < 10000) : Fn 68 [i64 m, D neg s e, i64 n] (sgR m neg (dv s) e n) := by
  refine e68 (by simp) ?_
  have hr := nd_dv h.1
  cases hg : good8 m with
  | false =>
    have hg' : (decide (0 ≤ m) && decide (m < 8)) = false := hg
    have : sgR m neg (dv s) e n = .tup [zD, i64 1] := by unfold sgR; split; · rfl
                                                         · exact plR_bad hg _ _ _ _
    rw [this]
    simp only [ic68, wkA, Nat.reduceEqDiff, Nat.reduceAdd, Nat.reduceSub, Nat.reduceLeDiff, Nat.reduceLT, Nat.reduceBEq, Nat.reduceBNe, reduceCtorEq, L, lenL, mapTake, mapDrop, List.drop_zero, Int.toNat_natCast, Int.toNat_zero, Nat.sub_zero, List.length_map, D]
    refine callF (con38 m) rfl ?_
    simp only [wkA, Nat.reduceEqDiff, Nat.reduceAdd, Nat.reduceSub, Nat.reduceLeDiff, Nat.reduceLT, Nat.reduceBEq, Nat.reduceBNe, reduceCtorEq, L, lenL, mapTake, mapDrop, List.drop_zero, Int.toNat_natCast, Int.toNat_zero, Nat.sub_zero, List.length_map, hg', Bool.not_false]
    simp only [wkA, Nat.reduceEqDiff, Nat.reduceAdd, Nat.reduceSub, Nat.reduceLeDiff, Nat.reduceLT, Nat.reduceBEq, Nat.reduceBNe, reduceCtorEq, L, lenL, mapTake, mapDrop, List.drop_zero, Int.toNat_natCast, Int.toNat_zero, Nat.sub_zero, List.length_map, zD, D]
  | true =>
    have hg' : (decide (0 ≤ m) && decide (m < 8)) = true := hg
    by_cases h1 : n < 1
    · have h1' : decide (n < 1) = true := decide_eq_true h1
      rw [sgR, if_pos h1]
      simp only [ic68, wkA, Nat.reduceEqDiff, Nat.reduceAdd, Nat.reduceSub, Nat.reduceLeDiff, Nat.reduceLT, Nat.reduceBEq, Nat.reduceBNe, reduceCtorEq, L, lenL, mapTake, mapDrop, List.drop_zero, Int.toNat_natCast, Int.toNat_zero, Nat.sub_zero, List.length_map, D]
      refine callF (con38 m) rfl ?_
      simp only [wkA, Nat.reduceEqDiff, Nat.reduceAdd, Nat.reduceSub, Nat.reduceLeDiff, Nat.reduceLT, Nat.reduceBEq, Nat.reduceBNe, reduceCtorEq, L, lenL, mapTake, mapDrop, List.drop_zero, Int.toNat_natCast, Int.toNat_zero, Nat.sub_zero, List.length_map, hg', Bool.not_true, h1']
      simp only [wkA, Nat.reduceEqDiff, Nat.reduceAdd, Nat.reduceSub, Nat.reduceLeDiff, Nat.reduceLT, Nat.reduceBEq, Nat.reduceBNe, reduceCtorEq, L, lenL, mapTake, mapDrop, List.drop_zero, Int.toNat_natCast, Int.toNat_zero, Nat.sub_zero, List.length_map, zD, D]
    · have h1' : decide (n < 1) = false := decide_eq_false h1
      rw [sgR, if_neg h1]
      have c61 := con61 (neg := neg) h (show -1000000 < n ∧ n < 1000000 by omega)
      rw [if_neg h1] at c61
      have ht : -20000 < top (dv s) e ∧ top (dv s) e < 20000 ∧ top (dv s) e - e < 20000 := by unfold top; split <;> omega
      have c69 := con69 (m := m) (neg := neg) (p := top (dv s) e - n + 1) h (by omega) (by omega) hl (by omega)
      obtain ⟨a, b, d, k, hab⟩ := plR_two m neg (dv s) e (top (dv s) e - n + 1)
      rw [hab] at c69 ⊢
      generalize top (dv s) e - n + 1 = p at *
      simp only [ic68, wkA, Nat.reduceEqDiff, Nat.reduceAdd, Nat.reduceSub, Nat.reduceLeDiff, Nat.reduceLT, Nat.reduceBEq, Nat.reduceBNe, reduceCtorEq, L, lenL, mapTake, mapDrop, List.drop_zero, Int.toNat_natCast, Int.toNat_zero, Nat.sub_zero, List.length_map, D] at c61 c69 ⊢
      refine callF (con38 m) rfl ?_
      simp only [wkA, Nat.reduceEqDiff, Nat.reduceAdd, Nat.reduceSub, Nat.reduceLeDiff, Nat.reduceLT, Nat.reduceBEq, Nat.reduceBNe, reduceCtorEq, L, lenL, mapTake, mapDrop, List.drop_zero, Int.toNat_natCast, Int.toNat_zero, Nat.sub_zero, List.length_map, hg', Bool.not_true, h1']
      simp only [ic68_1, wkA, Nat.reduceEqDiff, Nat.reduceAdd, Nat.reduceSub, Nat.reduceLeDiff, Nat.reduceLT, Nat.reduceBEq, Nat.reduceBNe, reduceCtorEq, L, lenL, mapTake, mapDrop, List.drop_zero, Int.toNat_natCast, Int.toNat_zero, Nat.sub_zero, List.length_map]
      refine callFD c61 rfl ?_
      simp only [wkA, Nat.reduceEqDiff, Nat.reduceAdd, Nat.reduceSub, Nat.reduceLeDiff, Nat.reduceLT, Nat.reduceBEq, Nat.reduceBNe, reduceCtorEq, L, lenL, mapTake, mapDrop, List.drop_zero, Int.toNat_natCast, Int.toNat_zero, Nat.sub_zero, List.length_map]
      refine callFD c69 rfl ?_
      simp only [wkA, Nat.reduceEqDiff, Nat.reduceAdd, Nat.reduceSub, Nat.reduceLeDiff, Nat.reduceLT, Nat.reduceBEq, Nat.reduceBNe, reduceCtorEq, L, lenL, mapTake, mapDrop, List.drop_zero, Int.toNat_natCast, Int.toNat_zero, Nat.sub_zero, List.length_map]
def inR (m : Int) (neg : Bool) (c : Nat) (e : Int) (b : Nat) (p : Int) : AV :=
  let E := if p < e then p else e
  let a := c * 10 ^ (e - E).toNat
  let w := b * 10 ^ (p - E).toNat
  if good8 m = false then .tup [zD, i64 1]
  else if a % w = 0 then .tup [N neg c e, i64 0]
  else if m = 7 then .tup [zD, i64 11]
  else .tup [N neg (rq m neg a w * w) E, i64 0]
theorem con45 {m : Int} {neg : Bool} {s st : List UInt8} {e p : Int} (h : okD s e) (hst : dgs st = true) (hst2 : st.length ≤ 40) (hst3 : dv st ≠ 0) (hp : -4000 < p ∧ p < 4000) (he : -4000 < e ∧ e < 4000) (hl : s.length < 10000) : Fn 45 [i64 m, D neg s e, .str st, i64 p] (inR m neg (dv s) e (dv st) p) := by
  have hr := nd_dv h.1
  have hrb := nd_dv hst
  have hst0 : st ≠ [] := by rintro rfl; exact hst3 rfl
  have c64 := con64 (by omega) hst hst0
  refine e45 (by simp) ?_
  unfold inR
  simp only
  cases hg : good8 m with
  | false =>
    have hg' : (decide (0 ≤ m) && decide (m < 8)) = false := hg
    rw [if_pos rfl]
    simp only [ic45, wkA, Nat.reduceEqDiff, Nat.reduceAdd, Nat.reduceSub, Nat.reduceLeDiff, Nat.reduceLT, Nat.reduceBEq, Nat.reduceBNe, reduceCtorEq, L, lenL, mapTake, mapDrop, List.drop_zero, Int.toNat_natCast, Int.toNat_zero, Nat.sub_zero, List.length_map, D]
    refine callF c64 rfl ?_
    simp only [wkA, Nat.reduceEqDiff, Nat.reduceAdd, Nat.reduceSub, Nat.reduceLeDiff, Nat.reduceLT, Nat.reduceBEq, Nat.reduceBNe, reduceCtorEq, L, lenL, mapTake, mapDrop, List.drop_zero, Int.toNat_natCast, Int.toNat_zero, Nat.sub_zero, List.length_map]
    refine callF (con38 m) rfl ?_
    simp only [wkA, Nat.reduceEqDiff, Nat.reduceAdd, Nat.reduceSub, Nat.reduceLeDiff, Nat.reduceLT, Nat.reduceBEq, Nat.reduceBNe, reduceCtorEq, L, lenL, mapTake, mapDrop, List.drop_zero, Int.toNat_natCast, Int.toNat_zero, Nat.sub_zero, List.length_map, hg', Bool.not_false]
    simp only [wkA, Nat.reduceEqDiff, Nat.reduceAdd, Nat.reduceSub, Nat.reduceLeDiff, Nat.reduceLT, Nat.reduceBEq, Nat.reduceBNe, reduceCtorEq, L, lenL, mapTake, mapDrop, List.drop_zero, Int.toNat_natCast, Int.toNat_zero, Nat.sub_zero, List.length_map, zD, D]
  | true =>
    have hg' : (decide (0 ≤ m) && decide (m < 8)) = true := hg
    rw [if_neg (by simp)]
    have h40 : decide ((st.length : Int) > 40) = false := decide_eq_false (by omega)
    have hb0 : (((limbs (dv st)).length : Int) == 0) = false := by
      rw [beq_eq_false_iff_ne]
      have := limbs_eq_nil (n := dv st)
      omega
    obtain ⟨E, hE⟩ : ∃ E, E = (if p < e then p else e) := ⟨_, rfl⟩
    have hE2 : E ≤ e ∧ E ≤ p ∧ -10000 < E := by rw [hE]; split <;> omega
    rw [← hE]
    have w1 : IntKind.i64.wrap (p - E) = p - E := by rw [wrap64] <;> omega
    have w2 : IntKind.i64.wrap (e - E) = e - E := by rw [wrap64] <;> omega
    have lb := limbs_nd (dv st)
    have lc := limbs_nd (dv s)
    have c70 := con70 (xs := limbs (dv st)) (n := p - E) (by omega) (by omega) (ok_limbs _)
    have c72 := con72 (neg := neg) h
    have c70a := con70 (xs := limbs (dv s)) (n := e - E) (by omega) (by omega) (ok_limbs _)
    rw [lv_limbs] at c70 c70a
    have hwp : 0 < dv st * 10 ^ (p - E).toNat := Nat.mul_pos (by omega) (Nat.pow_pos (by decide))
    have hna : nd (dv s * 10 ^ (e - E).toNat) ≤ nd (dv s) + (e - E).toNat := nd_mul_le
    have hnw : nd (dv st * 10 ^ (p - E).toNat) ≤ nd (dv st) + (p - E).toNat := nd_mul_le
    generalize dv s * 10 ^ (e - E).toNat = a at *
    generalize dv st * 10 ^ (p - E).toNat = w at *
    have l1 := limbs_nd a
    have l2 := limbs_nd w
    have c71 := con71 (xs := limbs a) (bs := limbs w) (by omega) (by omega) (ok_limbs _) (ok_limbs _) (by rw [lv_limbs]; exact hwp)
    rw [lv_limbs, lv_limbs] at c71
    have hrw := Nat.mod_lt a hwp
    have hqa : a / w ≤ a := Nat.div_le_self _ _
    have c65 := h.norm neg
    have hwm : ∀ n, rq m neg a w = a / w + n → n ≤ 1 → (a / w + n) * w ≤ a + w := by
      intro n _ hn
      rw [Nat.add_mul]
      have h1 := Nat.div_mul_le_self a w
      have h2 : n * w ≤ 1 * w := Nat.mul_le_mul_right _ hn
      omega
    rw [rq]
    obtain ⟨q, hq⟩ : ∃ q, q = a / w := ⟨_, rfl⟩
    obtain ⟨r, hrr⟩ : ∃ r, r = a % w := ⟨_, rfl⟩
    rw [rq] at hwm
    rw [← hq, ← hrr] at c71 ⊢
    rw [← hq, ← hrr] at hwm
    rw [← hrr] at hrw
    rw [← hq] at hqa
    have hr0 : (((limbs r).length : Int) == 0) = decide (r = 0) := by
      have := limbs_eq_nil (n := r)
      rw [Bool.eq_iff_iff, decide_eq_true_eq, beq_iff_eq]
      omega
    by_cases h0 : r = 0
    · have hr0 : (((limbs r).length : Int) == 0) = true := by rw [hr0]; exact decide_eq_true h0
      rw [if_pos h0]
      simp only [ic45, wkA, Nat.reduceEqDiff, Nat.reduceAdd, Nat.reduceSub, Nat.reduceLeDiff, Nat.reduceLT, Nat.reduceBEq, Nat.reduceBNe, reduceCtorEq, L, lenL, mapTake, mapDrop, List.drop_zero, Int.toNat_natCast, Int.toNat_zero, Nat.sub_zero, List.length_map, D] at c64 c65 c70 c72 c70a c71 ⊢
      refine callF c64 rfl ?_
      simp only [wkA, Nat.reduceEqDiff, Nat.reduceAdd, Nat.reduceSub, Nat.reduceLeDiff, Nat.reduceLT, Nat.reduceBEq, Nat.reduceBNe, reduceCtorEq, L, lenL, mapTake, mapDrop, List.drop_zero, Int.toNat_natCast, Int.toNat_zero, Nat.sub_zero, List.length_map]
      refine callF (con38 m) rfl ?_
      simp only [wkA, Nat.reduceEqDiff, Nat.reduceAdd, Nat.reduceSub, Nat.reduceLeDiff, Nat.reduceLT, Nat.reduceBEq, Nat.reduceBNe, reduceCtorEq, L, lenL, mapTake, mapDrop, List.drop_zero, Int.toNat_natCast, Int.toNat_zero, Nat.sub_zero, List.length_map, hg', Bool.not_true, h40, hb0]
      simp only [ic45_3, wkA, Nat.reduceEqDiff, Nat.reduceAdd, Nat.reduceSub, Nat.reduceLeDiff, Nat.reduceLT, Nat.reduceBEq, Nat.reduceBNe, reduceCtorEq, L, lenL, mapTake, mapDrop, List.drop_zero, Int.toNat_natCast, Int.toNat_zero, Nat.sub_zero, List.length_map, ← hE, w1, w2]
      refine callF c70 rfl ?_
      simp only [wkA, Nat.reduceEqDiff, Nat.reduceAdd, Nat.reduceSub, Nat.reduceLeDiff, Nat.reduceLT, Nat.reduceBEq, Nat.reduceBNe, reduceCtorEq, L, lenL, mapTake, mapDrop, List.drop_zero, Int.toNat_natCast, Int.toNat_zero, Nat.sub_zero, List.length_map, w1, w2]
      refine callFD c72 rfl ?_
      simp only [wkA, Nat.reduceEqDiff, Nat.reduceAdd, Nat.reduceSub, Nat.reduceLeDiff, Nat.reduceLT, Nat.reduceBEq, Nat.reduceBNe, reduceCtorEq, L, lenL, mapTake, mapDrop, List.drop_zero, Int.toNat_natCast, Int.toNat_zero, Nat.sub_zero, List.length_map, w1, w2]
      refine callFD c70a rfl ?_
      simp only [wkA, Nat.reduceEqDiff, Nat.reduceAdd, Nat.reduceSub, Nat.reduceLeDiff, Nat.reduceLT, Nat.reduceBEq, Nat.reduceBNe, reduceCtorEq, L, lenL, mapTake, mapDrop, List.drop_zero, Int.toNat_natCast, Int.toNat_zero, Nat.sub_zero, List.length_map, w1, w2]
      refine callFD c71 rfl ?_
      simp only [wkA, Nat.reduceEqDiff, Nat.reduceAdd, Nat.reduceSub, Nat.reduceLeDiff, Nat.reduceLT, Nat.reduceBEq, Nat.reduceBNe, reduceCtorEq, L, lenL, mapTake, mapDrop, List.drop_zero, Int.toNat_natCast, Int.toNat_zero, Nat.sub_zero, List.length_map, hr0]
      refine callF c65 rfl ?_
      simp only [wkA, Nat.reduceEqDiff, Nat.reduceAdd, Nat.reduceSub, Nat.reduceLeDiff, Nat.reduceLT, Nat.reduceBEq, Nat.reduceBNe, reduceCtorEq, L, lenL, mapTake, mapDrop, List.drop_zero, Int.toNat_natCast, Int.toNat_zero, Nat.sub_zero, List.length_map, N, D]
    · have hr0 : (((limbs r).length : Int) == 0) = false := by rw [hr0]; exact decide_eq_false h0
      rw [if_neg h0]
      by_cases h7 : m = 7
      · rw [if_pos h7]
        have h7' : (m == 7) = true := beq_iff_eq.2 h7
        simp only [ic45, wkA, Nat.reduceEqDiff, Nat.reduceAdd, Nat.reduceSub, Nat.reduceLeDiff, Nat.reduceLT, Nat.reduceBEq, Nat.reduceBNe, reduceCtorEq, L, lenL, mapTake, mapDrop, List.drop_zero, Int.toNat_natCast, Int.toNat_zero, Nat.sub_zero, List.length_map, D] at c64 c70 c72 c70a c71 ⊢
        refine callF c64 rfl ?_
        simp only [wkA, Nat.reduceEqDiff, Nat.reduceAdd, Nat.reduceSub, Nat.reduceLeDiff, Nat.reduceLT, Nat.reduceBEq, Nat.reduceBNe, reduceCtorEq, L, lenL, mapTake, mapDrop, List.drop_zero, Int.toNat_natCast, Int.toNat_zero, Nat.sub_zero, List.length_map]
        refine callF (con38 m) rfl ?_
        simp only [wkA, Nat.reduceEqDiff, Nat.reduceAdd, Nat.reduceSub, Nat.reduceLeDiff, Nat.reduceLT, Nat.reduceBEq, Nat.reduceBNe, reduceCtorEq, L, lenL, mapTake, mapDrop, List.drop_zero, Int.toNat_natCast, Int.toNat_zero, Nat.sub_zero, List.length_map, hg', Bool.not_true, h40, hb0]
        simp only [ic45_3, wkA, Nat.reduceEqDiff, Nat.reduceAdd, Nat.reduceSub, Nat.reduceLeDiff, Nat.reduceLT, Nat.reduceBEq, Nat.reduceBNe, reduceCtorEq, L, lenL, mapTake, mapDrop, List.drop_zero, Int.toNat_natCast, Int.toNat_zero, Nat.sub_zero, List.length_map, ← hE, w1, w2]
        refine callF c70 rfl ?_
        simp only [wkA, Nat.reduceEqDiff, Nat.reduceAdd, Nat.reduceSub, Nat.reduceLeDiff, Nat.reduceLT, Nat.reduceBEq, Nat.reduceBNe, reduceCtorEq, L, lenL, mapTake, mapDrop, List.drop_zero, Int.toNat_natCast, Int.toNat_zero, Nat.sub_zero, List.length_map, w1, w2]
        refine callFD c72 rfl ?_
        simp only [wkA, Nat.reduceEqDiff, Nat.reduceAdd, Nat.reduceSub, Nat.reduceLeDiff, Nat.reduceLT, Nat.reduceBEq, Nat.reduceBNe, reduceCtorEq, L, lenL, mapTake, mapDrop, List.drop_zero, Int.toNat_natCast, Int.toNat_zero, Nat.sub_zero, List.length_map, w1, w2]
        refine callFD c70a rfl ?_
        simp only [wkA, Nat.reduceEqDiff, Nat.reduceAdd, Nat.reduceSub, Nat.reduceLeDiff, Nat.reduceLT, Nat.reduceBEq, Nat.reduceBNe, reduceCtorEq, L, lenL, mapTake, mapDrop, List.drop_zero, Int.toNat_natCast, Int.toNat_zero, Nat.sub_zero, List.length_map, w1, w2]
        refine callFD c71 rfl ?_
        simp only [wkA, Nat.reduceEqDiff, Nat.reduceAdd, Nat.reduceSub, Nat.reduceLeDiff, Nat.reduceLT, Nat.reduceBEq, Nat.reduceBNe, reduceCtorEq, L, lenL, mapTake, mapDrop, List.drop_zero, Int.toNat_natCast, Int.toNat_zero, Nat.sub_zero, List.length_map, hr0, h7']
        simp only [wkA, Nat.reduceEqDiff, Nat.reduceAdd, Nat.reduceSub, Nat.reduceLeDiff, Nat.reduceLT, Nat.reduceBEq, Nat.reduceBNe, reduceCtorEq, L, lenL, mapTake, mapDrop, List.drop_zero, Int.toNat_natCast, Int.toNat_zero, Nat.sub_zero, List.length_map, zD, D]
      · rw [if_neg h7]
        have h7' : (m == 7) = false := beq_eq_false_iff_ne.2 h7
        have l3 := limbs_nd q
        have l4 := limbs_nd r
        have l5 : nd q ≤ nd a := nd_mono hqa
        have l6 : nd r ≤ nd w := nd_mono (by omega)
        have l7 := limbs_nd (r + r)
        have l8 : nd (r + r) ≤ nd (w * 10 ^ 1) := nd_mono (by omega)
        have l9 : nd (w * 10 ^ 1) ≤ nd w + 1 := nd_mul_le
        have c75 := con75 (xs := limbs r) (ys := limbs r) (by omega) (by omega) (ok_limbs _) (ok_limbs _)
        rw [lv_limbs] at c75
        have c74 := con74 (xs := limbs (r + r)) (ys := limbs w) (by omega) (by omega) (ok_limbs _) (ok_limbs _)
        rw [lv_limbs, lv_limbs] at c74
        have hodd := oddL (n := q)
        have c75q := con75 (xs := limbs q) (ys := [1]) (by omega) (by simp) (ok_limbs _) (ok_one.2 (by decide))
        rw [lv_limbs, lv_one] at c75q
        have c73 := con73 m neg (decide (q % 2 = 1)) (cmpI ((r + r : Nat) : Int) (w : Nat))
        rw [show (2 * r : Nat) = r + r by omega] at hwm ⊢
        generalize awayB m neg (decide (q % 2 = 1)) (cmpI ((r + r : Nat) : Int) (w : Nat)) = aw at *
        have fin : ∀ (x : Nat) (ex : List (Nat × AV)), x * w ≤ a + w → (limbs x).length < 100000 → VC e0 ic45_1 (retQ [(8, some (some 3)), (9, none)] (.tup [N neg (x * w) E, i64 0])) ⟨(5, .box 5 0) :: (8, .box 8 0) :: (10, .sl 1 ((limbs w).map u32)) :: (12, i64 E) :: (13, .sl 1 ((limbs x).map u32)) :: ex, [(5, .box 23 [.bool neg, .str s, i64 e]), (8, .box 23 [.bool false, .str [], i64 0])]⟩ := by
          intro x ex hx hx2
          have d77 := con77 (xs := limbs x) (ys := limbs w) hx2 (by omega) (ok_limbs _) (ok_limbs _)
          rw [lv_limbs, lv_limbs] at d77
          have d0 : nd (x * w) ≤ nd a + nd w + 1 := by
            have e1 : a + w < 10 ^ (nd a + nd w + 1) := by
              have g1 := lt_nd a
              have g2 := lt_nd w
              have g3 : 10 ^ nd a ≤ 10 ^ (nd a + nd w) := Nat.pow_le_pow_right (by decide) (by omega)
              have g4 : 10 ^ nd w ≤ 10 ^ (nd a + nd w) := Nat.pow_le_pow_right (by decide) (by omega)
              rw [Nat.pow_succ]; omega
            exact nd_le (by omega)
          have l10 := limbs_nd (x * w)
          have d76 := con76 (xs := limbs (x * w)) (by omega) (ok_limbs _)
          rw [lv_limbs] at d76
          have d65 := con65 (neg := neg) (s := text (x * w)) (e := E) (dgs_text _) (by have := text_len (x * w); omega) (by omega)
          rw [dv_text] at d65
          generalize x * w = y at *
          simp only [L, D] at d77 d76 d65
          simp only [ic45_1, wkA, Nat.reduceEqDiff, Nat.reduceAdd, Nat.reduceSub, Nat.reduceLeDiff, Nat.reduceLT, Nat.reduceBEq, Nat.reduceBNe, reduceCtorEq, L, lenL, mapTake, mapDrop, List.drop_zero, Int.toNat_natCast, Int.toNat_zero, Nat.sub_zero, List.length_map]
          refine callFD d77 rfl ?_
          simp only [wkA, Nat.reduceEqDiff, Nat.reduceAdd, Nat.reduceSub, Nat.reduceLeDiff, Nat.reduceLT, Nat.reduceBEq, Nat.reduceBNe, reduceCtorEq, L, lenL, mapTake, mapDrop, List.drop_zero, Int.toNat_natCast, Int.toNat_zero, Nat.sub_zero, List.length_map]
          refine callFD d76 rfl ?_
          simp only [wkA, Nat.reduceEqDiff, Nat.reduceAdd, Nat.reduceSub, Nat.reduceLeDiff, Nat.reduceLT, Nat.reduceBEq, Nat.reduceBNe, reduceCtorEq, L, lenL, mapTake, mapDrop, List.drop_zero, Int.toNat_natCast, Int.toNat_zero, Nat.sub_zero, List.length_map]
          refine callFD d65 rfl ?_
          simp only [wkA, Nat.reduceEqDiff, Nat.reduceAdd, Nat.reduceSub, Nat.reduceLeDiff, Nat.reduceLT, Nat.reduceBEq, Nat.reduceBNe, reduceCtorEq, L, lenL, mapTake, mapDrop, List.drop_zero, Int.toNat_natCast, Int.toNat_zero, Nat.sub_zero, List.length_map, N, D]
        have hnq : nd (q + 1) ≤ nd q + 1 := by
          by_cases h0 : q = 0
          · rw [h0, nd_zero, nd_pos (by decide), nd_zero]; omega
          · have := nd_mul h0 1
            have := nd_mono (show q + 1 ≤ q * 10 ^ 1 by omega)
            omega
        have l11 := limbs_nd (q + 1)
        simp only [ic45, wkA, Nat.reduceEqDiff, Nat.reduceAdd, Nat.reduceSub, Nat.reduceLeDiff, Nat.reduceLT, Nat.reduceBEq, Nat.reduceBNe, reduceCtorEq, L, lenL, mapTake, mapDrop, List.drop_zero, Int.toNat_natCast, Int.toNat_zero, Nat.sub_zero, List.length_map, D] at c64 c70 c72 c70a c71 c75 c74 c75q ⊢
        refine callF c64 rfl ?_
        simp only [wkA, Nat.reduceEqDiff, Nat.reduceAdd, Nat.reduceSub, Nat.reduceLeDiff, Nat.reduceLT, Nat.reduceBEq, Nat.reduceBNe, reduceCtorEq, L, lenL, mapTake, mapDrop, List.drop_zero, Int.toNat_natCast, Int.toNat_zero, Nat.sub_zero, List.length_map]
        refine callF (con38 m) rfl ?_
        simp only [wkA, Nat.reduceEqDiff, Nat.reduceAdd, Nat.reduceSub, Nat.reduceLeDiff, Nat.reduceLT, Nat.reduceBEq, Nat.reduceBNe, reduceCtorEq, L, lenL, mapTake, mapDrop, List.drop_zero, Int.toNat_natCast, Int.toNat_zero, Nat.sub_zero, List.length_map, hg', Bool.not_true, h40, hb0]
        simp only [ic45_3, wkA, Nat.reduceEqDiff, Nat.reduceAdd, Nat.reduceSub, Nat.reduceLeDiff, Nat.reduceLT, Nat.reduceBEq, Nat.reduceBNe, reduceCtorEq, L, lenL, mapTake, mapDrop, List.drop_zero, Int.toNat_natCast, Int.toNat_zero, Nat.sub_zero, List.length_map, ← hE, w1, w2]
        refine callF c70 rfl ?_
        simp only [wkA, Nat.reduceEqDiff, Nat.reduceAdd, Nat.reduceSub, Nat.reduceLeDiff, Nat.reduceLT, Nat.reduceBEq, Nat.reduceBNe, reduceCtorEq, L, lenL, mapTake, mapDrop, List.drop_zero, Int.toNat_natCast, Int.toNat_zero, Nat.sub_zero, List.length_map, w1, w2]
        refine callFD c72 rfl ?_
        simp only [wkA, Nat.reduceEqDiff, Nat.reduceAdd, Nat.reduceSub, Nat.reduceLeDiff, Nat.reduceLT, Nat.reduceBEq, Nat.reduceBNe, reduceCtorEq, L, lenL, mapTake, mapDrop, List.drop_zero, Int.toNat_natCast, Int.toNat_zero, Nat.sub_zero, List.length_map, w1, w2]
        refine callFD c70a rfl ?_
        simp only [wkA, Nat.reduceEqDiff, Nat.reduceAdd, Nat.reduceSub, Nat.reduceLeDiff, Nat.reduceLT, Nat.reduceBEq, Nat.reduceBNe, reduceCtorEq, L, lenL, mapTake, mapDrop, List.drop_zero, Int.toNat_natCast, Int.toNat_zero, Nat.sub_zero, List.length_map, w1, w2]
        refine callFD c71 rfl ?_
        simp only [wkA, Nat.reduceEqDiff, Nat.reduceAdd, Nat.reduceSub, Nat.reduceLeDiff, Nat.reduceLT, Nat.reduceBEq, Nat.reduceBNe, reduceCtorEq, L, lenL, mapTake, mapDrop, List.drop_zero, Int.toNat_natCast, Int.toNat_zero, Nat.sub_zero, List.length_map, hr0, h7']
        by_cases h0 : q = 0
        · have e1 : decide (((limbs q).length : Int) > 0) = false := by rw [h0, limbs_zero]; rfl
          have e2 : decide (q % 2 = 1) = false := by rw [h0]; rfl
          rw [e2] at c73
          simp only [ic45_2, wkA, Nat.reduceEqDiff, Nat.reduceAdd, Nat.reduceSub, Nat.reduceLeDiff, Nat.reduceLT, Nat.reduceBEq, Nat.reduceBNe, reduceCtorEq, L, lenL, mapTake, mapDrop, List.drop_zero, Int.toNat_natCast, Int.toNat_zero, Nat.sub_zero, List.length_map, e1]
          refine callFD c75 rfl ?_
          simp only [wkA, Nat.reduceEqDiff, Nat.reduceAdd, Nat.reduceSub, Nat.reduceLeDiff, Nat.reduceLT, Nat.reduceBEq, Nat.reduceBNe, reduceCtorEq, L, lenL, mapTake, mapDrop, List.drop_zero, Int.toNat_natCast, Int.toNat_zero, Nat.sub_zero, List.length_map, e1]
          refine callFD c74 rfl ?_
          simp only [wkA, Nat.reduceEqDiff, Nat.reduceAdd, Nat.reduceSub, Nat.reduceLeDiff, Nat.reduceLT, Nat.reduceBEq, Nat.reduceBNe, reduceCtorEq, L, lenL, mapTake, mapDrop, List.drop_zero, Int.toNat_natCast, Int.toNat_zero, Nat.sub_zero, List.length_map, e1]
          refine callFD c73 rfl ?_
          cases aw with
          | true =>
            simp only [wkA, Nat.reduceEqDiff, Nat.reduceAdd, Nat.reduceSub, Nat.reduceLeDiff, Nat.reduceLT, Nat.reduceBEq, Nat.reduceBNe, reduceCtorEq, L, lenL, mapTake, mapDrop, List.drop_zero, Int.toNat_natCast, Int.toNat_zero, Nat.sub_zero, List.length_map]
            refine callF c75q rfl ?_
            simp only [wkA, Nat.reduceEqDiff, Nat.reduceAdd, Nat.reduceSub, Nat.reduceLeDiff, Nat.reduceLT, Nat.reduceBEq, Nat.reduceBNe, reduceCtorEq, L, lenL, mapTake, mapDrop, List.drop_zero, Int.toNat_natCast, Int.toNat_zero, Nat.sub_zero, List.length_map]
            exact fin (q + 1) [] (hwm 1 rfl (by omega)) (by omega)
          | false =>
            simp only [wkA, Nat.reduceEqDiff, Nat.reduceAdd, Nat.reduceSub, Nat.reduceLeDiff, Nat.reduceLT, Nat.reduceBEq, Nat.reduceBNe, reduceCtorEq, L, lenL, mapTake, mapDrop, List.drop_zero, Int.toNat_natCast, Int.toNat_zero, Nat.sub_zero, List.length_map]
            exact fin (q + 0) _ (hwm 0 rfl (by omega)) (by simp only [Nat.add_zero]; omega)
        · obtain ⟨q1, q2⟩ := limbs_head h0
          have e1 : decide (((limbs q).length : Int) > 0) = true := decide_eq_true (by omega)
          have e2 : (((((limbs q).getD 0 0 : Nat) : Int).tmod 2) == 1) = decide (q % 2 = 1) := by
            rw [show (((limbs q).getD 0 0 : Nat) : Int).tmod 2 = (((limbs q).getD 0 0 % 2 : Nat) : Int) from rfl, q1, Bool.eq_iff_iff, beq_iff_eq, decide_eq_true_eq]
            omega
          simp only [ic45_2, wkA, Nat.reduceEqDiff, Nat.reduceAdd, Nat.reduceSub, Nat.reduceLeDiff, Nat.reduceLT, Nat.reduceBEq, Nat.reduceBNe, reduceCtorEq, L, lenL, mapTake, mapDrop, List.drop_zero, Int.toNat_natCast, Int.toNat_zero, Nat.sub_zero, List.length_map, e1, getL q2, e2]
          refine ⟨⟨by omega, by omega⟩, by omega, callFD c75 rfl ?_⟩
          simp only [wkA, Nat.reduceEqDiff, Nat.reduceAdd, Nat.reduceSub, Nat.reduceLeDiff, Nat.reduceLT, Nat.reduceBEq, Nat.reduceBNe, reduceCtorEq, L, lenL, mapTake, mapDrop, List.drop_zero, Int.toNat_natCast, Int.toNat_zero, Nat.sub_zero, List.length_map, e1]
          refine callFD c74 rfl ?_
          simp only [wkA, Nat.reduceEqDiff, Nat.reduceAdd, Nat.reduceSub, Nat.reduceLeDiff, Nat.reduceLT, Nat.reduceBEq, Nat.reduceBNe, reduceCtorEq, L, lenL, mapTake, mapDrop, List.drop_zero, Int.toNat_natCast, Int.toNat_zero, Nat.sub_zero, List.length_map, e1]
          refine callFD c73 rfl ?_
          cases aw with
          | true =>
            simp only [wkA, Nat.reduceEqDiff, Nat.reduceAdd, Nat.reduceSub, Nat.reduceLeDiff, Nat.reduceLT, Nat.reduceBEq, Nat.reduceBNe, reduceCtorEq, L, lenL, mapTake, mapDrop, List.drop_zero, Int.toNat_natCast, Int.toNat_zero, Nat.sub_zero, List.length_map]
            refine callF c75q rfl ?_
            simp only [wkA, Nat.reduceEqDiff, Nat.reduceAdd, Nat.reduceSub, Nat.reduceLeDiff, Nat.reduceLT, Nat.reduceBEq, Nat.reduceBNe, reduceCtorEq, L, lenL, mapTake, mapDrop, List.drop_zero, Int.toNat_natCast, Int.toNat_zero, Nat.sub_zero, List.length_map]
            exact fin (q + 1) [] (hwm 1 rfl (by omega)) (by omega)
          | false =>
            simp only [wkA, Nat.reduceEqDiff, Nat.reduceAdd, Nat.reduceSub, Nat.reduceLeDiff, Nat.reduceLT, Nat.reduceBEq, Nat.reduceBNe, reduceCtorEq, L, lenL, mapTake, mapDrop, List.drop_zero, Int.toNat_natCast, Int.toNat_zero, Nat.sub_zero, List.length_map]
            exact fin (q + 0) _ (hwm 0 rfl (by omega)) (by simp only [Nat.add_zero]; omega)
end Go.Proofs.YtgehlcgjchfibaaGreatDoor.F
