/-
  What the functions that the laws call compute, for every input that the statements allow (part 5): for the claims up to a bulk of 1048576.
-/
import Derived.Test.YtgehlcgjchfibaaGreatDoorY04
set_option maxRecDepth 100000
set_option linter.unusedVariables false
set_option linter.unusedSimpArgs false
set_option linter.defProp false
set_option maxHeartbeats 2000000
namespace Go.Proofs.YtgehlcgjchfibaaGreatDoor.F
open Go Go.RowKit Go.Proofs


def ic31_1 : IC := (.seq (.reg [⟨(some 49), (.fa 3 none (.t 8)), none, .any⟩, ⟨none, (.st 1 (.t 49) (.c (.bool true))), none, .any⟩] false [2, 3, 4, 5, 6, 7, 8] [2, 3, 5, 8, 63]) (.seq (.reg [⟨(some 50), (.mv (.t 4)), none, .any⟩, ⟨(some 51), (.mv (.t 7)), none, .any⟩, ⟨(some 52), (.bin .add none (.t 51) (.c (.int .i64 1))), none, .any⟩, ⟨(some 53), (.ia 3 (.t 50) (.t 52)), none, .any⟩, ⟨(some 54), (.fa 0 none (.t 53)), none, .any⟩, ⟨(some 55), (.ld none (.t 54)), none, .any⟩, ⟨(some 56), (.fa 0 (some 3) (.t 8)), none, .any⟩, ⟨(some 57), (.fa 0 none (.t 56)), none, .any⟩, ⟨none, (.st 1 (.t 57) (.t 55)), none, .any⟩] false [2, 3, 4, 5, 6, 7, 8] [2, 3, 5, 8, 63]) (.reg [⟨(some 58), (.mv (.t 7)), none, .any⟩, ⟨(some 59), (.bin .add none (.t 58) (.c (.int .i64 1))), none, .any⟩, ⟨(some 7), (.mv (.t 59)), none, .any⟩] false [2, 3, 4, 5, 6, 7, 8] [2, 3, 5, 8, 63])))
def ic31_2 : IC := (.reg [⟨(some 60), (.mv (.t 6)), none, .any⟩, ⟨(some 61), (.ld (some 4) (.t 8)), none, .any⟩, ⟨(some 62), (.lit false 73 4 [(.t 61)]), none, .any⟩, ⟨(some 63), (.app 73 4 24 (.t 60) (.t 62)), none, .any⟩, ⟨(some 6), (.mv (.t 63)), none, .any⟩] false [2, 3, 4, 5, 6, 7] [2, 3, 5, 63])
def ic31_3 : IC := (.reg [⟨(some 30), (.mv (.t 7)), none, .any⟩, ⟨(some 31), (.bin .add none (.t 30) (.c (.int .i64 1))), none, .any⟩, ⟨(some 7), (.mv (.t 31)), none, .any⟩] false [2, 3, 4, 5, 6, 7] [2, 3, 5, 63])
def ic31_4 : IC := (.seq (.block 1 (.seq (.reg [⟨(some 32), (.mv (.t 4)), none, .any⟩, ⟨(some 33), (.mv (.t 7)), none, .any⟩, ⟨(some 34), (.ia 3 (.t 32) (.t 33)), none, .any⟩, ⟨(some 35), (.ld (some 3) (.t 34)), none, .any⟩, ⟨(some 36), (.build [(.int .i32 0), (.bool false), (.int .i64 0), (.bool false)] [(0, (3, (.t 35)))]), none, .any⟩, ⟨(some 8), (.alloc 73 [(.int .i32 0), (.bool false), (.int .i64 0), (.bool false)]), none, .any⟩, ⟨none, (.st 4 (.t 8) (.t 36)), none, .any⟩] false [2, 3, 4, 5, 6, 7, 8] [2, 3, 5, 8, 63]) (.seq (.seq (.reg [⟨(some 37), (.ld (some 4) (.t 8)), none, .any⟩, ⟨(some 38), (.call 56 [((.t 37), none), ((.c (.int .i32 42)), none)]), none, .any⟩] false [2, 3, 4, 5, 6, 7, 8, 38] [2, 3, 5, 8, 63]) (.cond (.t 38) (.seq (.seq (.reg [⟨(some 39), (.mv (.t 7)), none, .any⟩, ⟨(some 40), (.bin .add none (.t 39) (.c (.int .i64 1))), none, .any⟩, ⟨(some 41), (.mv (.t 4)), none, .any⟩, ⟨(some 42), (.len false (.t 41)), none, .any⟩, ⟨(some 43), (.bin .eql none (.t 40) (.t 42)), none, .any⟩] false [2, 3, 4, 5, 6, 7, 8, 43] [2, 3, 5, 8, 63]) (.cond (.t 43) (.seq (.reg [⟨(some 44), (.build [(.sl 2 []), (.sl 2 []), (.bool false), (.sl 2 []), (.sl 2 []), (.int .i64 0), (.int .i64 0), (.int .i64 0), (.int .i64 0), (.int .i64 0), (.int .i64 0), (.int .i64 0), (.int .i64 0), (.str []), (.bool false), (.int .i64 0), (.bool false), (.int .i64 0), (.int .i32 0), (.int .i64 0)] []), none, .any⟩, ⟨(some 45), (.fa 0 (some 3) (.t 8)), none, .any⟩, ⟨(some 46), (.fa 2 none (.t 45)), none, .any⟩, ⟨(some 47), (.ld none (.t 46)), none, (.at 8 2 1)⟩, ⟨(some 48), (.build [(.int .i64 0), (.int .i64 0)] [(0, (1, (.c (.int .i64 7)))), (1, (1, (.t 47)))]), none, .any⟩, ⟨none, (.st 20 (.t 2) (.t 44)), none, (.at 2 0 20)⟩, ⟨none, (.st 2 (.t 3) (.t 48)), none, .any⟩] true [2, 3] [2, 3]) .ret) .skip)) ic31_1) .skip)) ic31_2))) ic31_3)
def ic31_5 : IC := (.seq (.seq (.reg [⟨(some 26), (.mv (.t 7)), none, .any⟩, ⟨(some 27), (.mv (.t 4)), none, .any⟩, ⟨(some 28), (.len false (.t 27)), none, .any⟩, ⟨(some 29), (.bin .lss none (.t 26) (.t 28)), none, .any⟩] false [2, 3, 4, 5, 6, 7, 29] [2, 3, 5, 63]) (.cond (.t 29) .skip (.exit 0))) ic31_4)
def ic31_6 : IC := (.reg [⟨(some 85), (.mv (.t 10)), none, .any⟩, ⟨(some 9), (.mv (.t 85)), none, .any⟩] false [2, 3, 5, 6, 9, 10] [2, 3, 5, 63])
def ic31_7 : IC := (.reg [⟨(some 68), (.mv (.t 10)), none, .any⟩, ⟨(some 69), (.bin .add none (.t 68) (.c (.int .i64 1))), none, .any⟩, ⟨(some 10), (.mv (.t 69)), none, .any⟩] false [2, 3, 5, 6, 9, 10] [2, 3, 5, 63])
def ic31_8 : IC := (.seq (.block 3 (.seq (.reg [⟨(some 70), (.mv (.t 6)), none, .any⟩, ⟨(some 71), (.mv (.t 10)), none, .any⟩, ⟨(some 72), (.ia 4 (.t 70) (.t 71)), none, .any⟩, ⟨(some 73), (.ld (some 4) (.t 72)), none, .any⟩, ⟨(some 74), (.call 56 [((.t 73), none), ((.c (.int .i32 59)), none)]), none, .any⟩] false [2, 3, 5, 6, 9, 10, 74] [2, 3, 5, 63]) (.cond (.t 74) (.seq (.seq (.reg [⟨(some 75), (.mv (.t 9)), none, .any⟩, ⟨(some 76), (.bin .geq none (.t 75) (.c (.int .i64 0))), none, .any⟩] false [2, 3, 5, 6, 10, 76] [2, 3, 5, 63]) (.cond (.t 76) (.seq (.reg [⟨(some 77), (.build [(.sl 2 []), (.sl 2 []), (.bool false), (.sl 2 []), (.sl 2 []), (.int .i64 0), (.int .i64 0), (.int .i64 0), (.int .i64 0), (.int .i64 0), (.int .i64 0), (.int .i64 0), (.int .i64 0), (.str []), (.bool false), (.int .i64 0), (.bool false), (.int .i64 0), (.int .i32 0), (.int .i64 0)] []), none, .any⟩, ⟨(some 78), (.mv (.t 6)), none, .any⟩, ⟨(some 79), (.mv (.t 10)), none, .any⟩, ⟨(some 80), (.ia 4 (.t 78) (.t 79)), none, .ref⟩, ⟨(some 81), (.fa 0 (some 3) (.t 80)), none, .any⟩, ⟨(some 82), (.fa 2 none (.t 81)), none, .any⟩, ⟨(some 83), (.ld none (.t 82)), none, .ref⟩, ⟨(some 84), (.build [(.int .i64 0), (.int .i64 0)] [(0, (1, (.c (.int .i64 4)))), (1, (1, (.t 83)))]), none, .any⟩, ⟨none, (.st 20 (.t 2) (.t 77)), none, (.at 2 0 20)⟩, ⟨none, (.st 2 (.t 3) (.t 84)), none, .any⟩] true [2, 3] [2, 3]) .ret) .skip)) ic31_6) .skip))) ic31_7)
def ic31_9 : IC := (.seq (.seq (.reg [⟨(some 64), (.mv (.t 10)), none, .any⟩, ⟨(some 65), (.mv (.t 6)), none, .any⟩, ⟨(some 66), (.len false (.t 65)), none, .any⟩, ⟨(some 67), (.bin .lss none (.t 64) (.t 66)), none, .any⟩] false [2, 3, 5, 6, 9, 10, 67] [2, 3, 5, 63]) (.cond (.t 67) .skip (.exit 2))) ic31_8)
def ic31_10 : IC := (.reg [⟨(some 161), (.fa 0 none (.t 14)), none, .any⟩, ⟨(some 162), (.ld none (.t 161)), none, (.at 14 0 1)⟩, ⟨(some 163), (.fa 1 none (.t 14)), none, .any⟩, ⟨(some 164), (.ld none (.t 163)), none, (.at 14 1 1)⟩, ⟨(some 165), (.fa 2 none (.t 13)), none, .any⟩, ⟨none, (.st 1 (.t 165) (.c (.bool true))), none, (.at 13 2 1)⟩, ⟨(some 166), (.fa 3 none (.t 13)), none, .any⟩, ⟨none, (.st 1 (.t 166) (.t 162)), none, (.at 13 3 1)⟩, ⟨(some 167), (.fa 4 none (.t 13)), none, .any⟩, ⟨none, (.st 1 (.t 167) (.t 164)), none, .any⟩] true [2, 3, 13] [2, 3, 13])
def ic31_11 : IC := (.seq (.reg [⟨(some 178), (.ld (some 20) (.t 13)), none, .any⟩, ⟨(some 179), (.build [(.int .i64 0), (.int .i64 0)] []), none, .any⟩, ⟨none, (.st 20 (.t 2) (.t 178)), none, .any⟩, ⟨none, (.st 2 (.t 3) (.t 179)), none, .any⟩] false [2, 3] [2, 3]) .ret)
def ic31_12 : IC := (.seq (.seq (.reg [⟨(some 168), (.ld (some 20) (.t 13)), none, .any⟩, ⟨(some 169), (.call 53 [((.t 168), none), ((.c (.int .i64 4)), none)]), none, .any⟩, ⟨(some 170), (.bin .gtr none (.t 169) (.c (.int .i64 0))), none, .any⟩, ⟨(some 171), (.mv (.t 170)), none, .any⟩, ⟨(some 172), (.ld (some 20) (.t 13)), (some (171, true)), .any⟩, ⟨(some 173), (.call 53 [((.t 172), none), ((.c (.int .i64 5)), none)]), (some (171, true)), .any⟩, ⟨(some 174), (.bin .gtr none (.t 173) (.c (.int .i64 0))), (some (171, true)), .any⟩, ⟨(some 175), (.pick (.t 171) (.t 174) (.c (.bool false))), none, .any⟩] false [2, 3, 13, 175] [2, 3, 13]) (.cond (.t 175) (.seq (.reg [⟨(some 176), (.build [(.sl 2 []), (.sl 2 []), (.bool false), (.sl 2 []), (.sl 2 []), (.int .i64 0), (.int .i64 0), (.int .i64 0), (.int .i64 0), (.int .i64 0), (.int .i64 0), (.int .i64 0), (.int .i64 0), (.str []), (.bool false), (.int .i64 0), (.bool false), (.int .i64 0), (.int .i32 0), (.int .i64 0)] []), none, .any⟩, ⟨(some 177), (.build [(.int .i64 0), (.int .i64 0)] [(0, (1, (.c (.int .i64 6))))]), none, .any⟩, ⟨none, (.st 20 (.t 2) (.t 176)), none, .any⟩, ⟨none, (.st 2 (.t 3) (.t 177)), none, .any⟩] false [2, 3] [2, 3]) .ret) .skip)) ic31_11)
def ic31_13 : IC := (.seq (.reg [⟨(some 130), (.build [(.int .i64 0), (.int .i32 0)] [(0, (1, (.c (.int .i64 2))))]), none, .any⟩, ⟨(some 131), (.lit true 80 2 [(.t 130)]), none, .any⟩, ⟨(some 132), (.fa 0 none (.t 12)), none, .any⟩, ⟨(some 133), (.ld none (.t 132)), none, .any⟩, ⟨(some 134), (.app 80 2 16 (.t 131) (.t 133)), none, .any⟩, ⟨(some 135), (.fa 3 none (.t 13)), none, .any⟩, ⟨none, (.st 1 (.t 135) (.t 134)), none, .any⟩] false [2, 3, 6, 9, 12, 13] [2, 3, 12, 13, 63]) (.seq (.reg [⟨(some 136), (.fa 1 none (.t 12)), none, .any⟩, ⟨(some 137), (.ld none (.t 136)), none, .any⟩, ⟨(some 138), (.fa 4 none (.t 13)), none, .any⟩, ⟨none, (.st 1 (.t 138) (.t 137)), none, .any⟩] false [2, 3, 6, 9, 13] [2, 3, 13, 63]) (.seq (.seq (.reg [⟨(some 139), (.mv (.t 9)), none, .any⟩, ⟨(some 140), (.bin .geq none (.t 139) (.c (.int .i64 0))), none, .any⟩] false [2, 3, 6, 9, 13, 140] [2, 3, 13, 63]) (.cond (.t 140) (.seq (.reg [⟨(some 142), (.mv (.t 6)), none, .any⟩, ⟨(some 143), (.mv (.t 9)), none, .any⟩, ⟨(some 144), (.bin .add none (.t 143) (.c (.int .i64 1))), none, .any⟩, ⟨(some 145), (.sls 4 (.t 142) (some (.t 144)) none), none, .any⟩, ⟨(some 146), (.mv (.t 6)), none, .any⟩, ⟨(some 147), (.mv (.t 9)), none, .any⟩, ⟨(some 148), (.ia 4 (.t 146) (.t 147)), none, .any⟩, ⟨(some 149), (.fa 0 (some 3) (.t 148)), none, .any⟩, ⟨(some 150), (.fa 2 none (.t 149)), none, .any⟩, ⟨(some 151), (.ld none (.t 150)), none, .any⟩, ⟨(some 152), (.bin .add none (.t 151) (.c (.int .i64 1))), none, .any⟩, ⟨(some 153), (.call 57 [((.t 145), (some 4)), ((.t 152), none), ((.c (.bool false)), none)]), none, .any⟩, ⟨(some 141), (.mv (.t 153)), none, .any⟩, ⟨(some 154), (.ext (.t 141) 0), none, .any⟩, ⟨(some 155), (.ext (.t 141) 1), none, .any⟩, ⟨(some 14), (.alloc 76 [(.sl 2 []), (.sl 2 []), (.sl 2 []), (.sl 2 []), (.bool false), (.sl 2 []), (.sl 2 []), (.int .i64 0), (.int .i64 0), (.int .i64 0), (.int .i64 0), (.int .i64 0), (.int .i64 0), (.int .i64 0), (.int .i64 0), (.str []), (.bool false), (.int .i64 0), (.bool false), (.int .i64 0), (.int .i32 0), (.int .i64 0), (.int .i64 0), (.int .i32 0), (.int .i64 0)]), none, .any⟩, ⟨(some 15), (.alloc 52 [(.int .i64 0), (.int .i64 0)]), none, .any⟩, ⟨none, (.st 25 (.t 14) (.t 154)), none, .any⟩, ⟨none, (.st 2 (.t 15) (.t 155)), none, .any⟩] true [2, 3, 13, 14, 15] [2, 3, 13, 14, 15]) (.seq (.seq (.reg [⟨(some 156), (.fa 0 none (.t 15)), none, .any⟩, ⟨(some 157), (.ld none (.t 156)), none, .any⟩, ⟨(some 158), (.bin .neq none (.t 157) (.c (.int .i64 0))), none, .any⟩] false [2, 3, 13, 14, 15, 158] [2, 3, 13, 14, 15]) (.cond (.t 158) (.seq (.reg [⟨(some 159), (.build [(.sl 2 []), (.sl 2 []), (.bool false), (.sl 2 []), (.sl 2 []), (.int .i64 0), (.int .i64 0), (.int .i64 0), (.int .i64 0), (.int .i64 0), (.int .i64 0), (.int .i64 0), (.int .i64 0), (.str []), (.bool false), (.int .i64 0), (.bool false), (.int .i64 0), (.int .i32 0), (.int .i64 0)] []), none, .any⟩, ⟨(some 160), (.ld (some 2) (.t 15)), none, (.at 15 0 2)⟩, ⟨none, (.st 20 (.t 2) (.t 159)), none, (.at 2 0 20)⟩, ⟨none, (.st 2 (.t 3) (.t 160)), none, .any⟩] true [2, 3] [2, 3]) .ret) .skip)) ic31_10)) .skip)) ic31_12)))
def ic31_14 : IC := (.seq (.reg [⟨(some 102), (.fa 2 (some 20) (.t 12)), none, .any⟩, ⟨(some 103), (.ld (some 20) (.t 102)), none, .any⟩, ⟨(some 13), (.alloc 26 [(.sl 2 []), (.sl 2 []), (.bool false), (.sl 2 []), (.sl 2 []), (.int .i64 0), (.int .i64 0), (.int .i64 0), (.int .i64 0), (.int .i64 0), (.int .i64 0), (.int .i64 0), (.int .i64 0), (.str []), (.bool false), (.int .i64 0), (.bool false), (.int .i64 0), (.int .i32 0), (.int .i64 0)]), none, .any⟩, ⟨none, (.st 20 (.t 13) (.t 103)), none, .any⟩] false [2, 3, 6, 9, 12, 13] [2, 3, 12, 13, 63]) (.seq (.reg [⟨(some 104), (.fa 0 none (.t 12)), none, .any⟩, ⟨(some 105), (.ld none (.t 104)), none, .any⟩, ⟨(some 106), (.fa 1 none (.t 12)), none, .any⟩, ⟨(some 107), (.ld none (.t 106)), none, (.at 12 1 1)⟩, ⟨(some 108), (.fa 22 none (.t 12)), none, .any⟩, ⟨(some 109), (.ld none (.t 108)), none, (.at 12 22 1)⟩, ⟨(some 110), (.fa 23 none (.t 12)), none, .any⟩, ⟨(some 111), (.ld none (.t 110)), none, (.at 12 23 1)⟩, ⟨(some 112), (.fa 0 none (.t 13)), none, .any⟩, ⟨none, (.st 1 (.t 112) (.t 105)), none, (.at 13 0 1)⟩, ⟨(some 113), (.fa 1 none (.t 13)), none, .any⟩, ⟨none, (.st 1 (.t 113) (.t 107)), none, (.at 13 1 1)⟩, ⟨(some 114), (.fa 17 none (.t 13)), none, .any⟩, ⟨none, (.st 1 (.t 114) (.t 109)), none, (.at 13 17 1)⟩, ⟨(some 115), (.fa 18 none (.t 13)), none, .any⟩, ⟨none, (.st 1 (.t 115) (.t 111)), none, .any⟩] true [2, 3, 6, 9, 12, 13] [2, 3, 12, 13, 63]) (.seq (.seq (.reg [⟨(some 116), (.fa 22 none (.t 12)), none, .any⟩, ⟨(some 117), (.ld none (.t 116)), none, .any⟩, ⟨(some 118), (.bin .gtr none (.t 117) (.c (.int .i64 0))), none, .any⟩] false [2, 3, 6, 9, 12, 13, 118] [2, 3, 12, 13, 63]) (.cond (.t 118) (.reg [⟨(some 119), (.fa 0 none (.t 12)), none, .any⟩, ⟨(some 120), (.ld none (.t 119)), none, .any⟩, ⟨(some 121), (.len false (.t 120)), none, .any⟩, ⟨(some 122), (.fa 1 none (.t 12)), none, .any⟩, ⟨(some 123), (.ld none (.t 122)), none, .any⟩, ⟨(some 124), (.len false (.t 123)), none, .any⟩, ⟨(some 125), (.bin .add none (.t 121) (.t 124)), none, .any⟩, ⟨(some 126), (.fa 24 none (.t 12)), none, .any⟩, ⟨(some 127), (.ld none (.t 126)), none, .any⟩, ⟨(some 128), (.bin .add none (.t 125) (.t 127)), none, .any⟩, ⟨(some 129), (.fa 19 none (.t 13)), none, .any⟩, ⟨none, (.st 1 (.t 129) (.t 128)), none, .any⟩] false [2, 3, 6, 9, 12, 13] [2, 3, 12, 13, 63]) .skip)) ic31_13)))
def ic31_15 : IC := (.seq (.reg [⟨(some 93), (.mv (.t 11)), none, .any⟩, ⟨(some 94), (.call 57 [((.t 93), (some 4)), ((.c (.int .i64 0)), none), ((.c (.bool true)), none)]), none, .any⟩, ⟨(some 92), (.mv (.t 94)), none, .any⟩, ⟨(some 95), (.ext (.t 92) 0), none, .any⟩, ⟨(some 96), (.ext (.t 92) 1), none, .any⟩, ⟨(some 12), (.alloc 76 [(.sl 2 []), (.sl 2 []), (.sl 2 []), (.sl 2 []), (.bool false), (.sl 2 []), (.sl 2 []), (.int .i64 0), (.int .i64 0), (.int .i64 0), (.int .i64 0), (.int .i64 0), (.int .i64 0), (.int .i64 0), (.int .i64 0), (.str []), (.bool false), (.int .i64 0), (.bool false), (.int .i64 0), (.int .i32 0), (.int .i64 0), (.int .i64 0), (.int .i32 0), (.int .i64 0)]), none, .any⟩, ⟨none, (.st 25 (.t 12) (.t 95)), none, .any⟩, ⟨none, (.st 2 (.t 5) (.t 96)), none, .any⟩] false [2, 3, 5, 6, 9, 12] [2, 3, 5, 12, 63]) (.seq (.seq (.reg [⟨(some 97), (.fa 0 none (.t 5)), none, .any⟩, ⟨(some 98), (.ld none (.t 97)), none, .any⟩, ⟨(some 99), (.bin .neq none (.t 98) (.c (.int .i64 0))), none, .any⟩] false [2, 3, 5, 6, 9, 12, 99] [2, 3, 5, 12, 63]) (.cond (.t 99) (.seq (.reg [⟨(some 100), (.build [(.sl 2 []), (.sl 2 []), (.bool false), (.sl 2 []), (.sl 2 []), (.int .i64 0), (.int .i64 0), (.int .i64 0), (.int .i64 0), (.int .i64 0), (.int .i64 0), (.int .i64 0), (.int .i64 0), (.str []), (.bool false), (.int .i64 0), (.bool false), (.int .i64 0), (.int .i32 0), (.int .i64 0)] []), none, .any⟩, ⟨(some 101), (.ld (some 2) (.t 5)), none, (.at 5 0 2)⟩, ⟨none, (.st 20 (.t 2) (.t 100)), none, (.at 2 0 20)⟩, ⟨none, (.st 2 (.t 3) (.t 101)), none, .any⟩] true [2, 3] [2, 3]) .ret) .skip)) ic31_14))
def ic31_16 : IC := (.seq (.reg [⟨(some 86), (.mv (.t 6)), none, .any⟩, ⟨(some 11), (.mv (.t 86)), none, .any⟩] false [2, 3, 5, 6, 9, 11] [2, 3, 5, 63]) (.seq (.seq (.reg [⟨(some 87), (.mv (.t 9)), none, .any⟩, ⟨(some 88), (.bin .geq none (.t 87) (.c (.int .i64 0))), none, .any⟩] false [2, 3, 5, 6, 9, 11, 88] [2, 3, 5, 63]) (.cond (.t 88) (.reg [⟨(some 89), (.mv (.t 6)), none, .any⟩, ⟨(some 90), (.mv (.t 9)), none, .any⟩, ⟨(some 91), (.sls 4 (.t 89) none (some (.t 90))), none, .any⟩, ⟨(some 11), (.mv (.t 91)), none, .any⟩] false [2, 3, 5, 6, 9, 11] [2, 3, 5, 63]) .skip)) ic31_15))
def ic31_17 : IC := (.seq (.reg [⟨(some 9), (.mv (.c (.int .i64 (-1)))), none, .any⟩] false [2, 3, 5, 6, 9] [2, 3, 5, 63]) (.seq (.seq (.reg [⟨(some 10), (.mv (.c (.int .i64 0))), none, .any⟩] false [2, 3, 5, 6, 9, 10] [2, 3, 5, 63]) (.block 2 (.loop ic31_9))) ic31_16))
def ic31_18 : IC := (.seq (.reg [⟨(some 6), (.mv (.c .nil)), none, .any⟩] false [2, 3, 4, 5, 6] [2, 3, 5, 63]) (.seq (.seq (.reg [⟨(some 7), (.mv (.c (.int .i64 0))), none, .any⟩] false [2, 3, 4, 5, 6, 7] [2, 3, 5, 63]) (.block 0 (.loop ic31_5))) ic31_17))
def ic31 : IC := (.seq (.reg [⟨(some 2), (.alloc 26 [(.sl 2 []), (.sl 2 []), (.bool false), (.sl 2 []), (.sl 2 []), (.int .i64 0), (.int .i64 0), (.int .i64 0), (.int .i64 0), (.int .i64 0), (.int .i64 0), (.int .i64 0), (.int .i64 0), (.str []), (.bool false), (.int .i64 0), (.bool false), (.int .i64 0), (.int .i32 0), (.int .i64 0)]), none, .any⟩, ⟨(some 3), (.alloc 52 [(.int .i64 0), (.int .i64 0)]), none, .any⟩] false [0, 2, 3] [2, 3]) (.seq (.reg [⟨(some 17), (.mv (.t 0)), none, .any⟩, ⟨(some 18), (.call 55 [((.t 17), none)]), none, .any⟩, ⟨(some 16), (.mv (.t 18)), none, .any⟩, ⟨(some 19), (.ext (.t 16) 0), none, .any⟩, ⟨(some 20), (.ext (.t 16) 1), none, .any⟩, ⟨(some 5), (.alloc 52 [(.int .i64 0), (.int .i64 0)]), none, .any⟩, ⟨(some 4), (.mv (.t 19)), none, .any⟩, ⟨none, (.st 2 (.t 5) (.t 20)), none, .any⟩] false [2, 3, 4, 5] [2, 3, 5]) (.seq (.seq (.reg [⟨(some 21), (.fa 0 none (.t 5)), none, .any⟩, ⟨(some 22), (.ld none (.t 21)), none, .any⟩, ⟨(some 23), (.bin .neq none (.t 22) (.c (.int .i64 0))), none, .any⟩] false [2, 3, 4, 5, 23] [2, 3, 5]) (.cond (.t 23) (.seq (.reg [⟨(some 24), (.build [(.sl 2 []), (.sl 2 []), (.bool false), (.sl 2 []), (.sl 2 []), (.int .i64 0), (.int .i64 0), (.int .i64 0), (.int .i64 0), (.int .i64 0), (.int .i64 0), (.int .i64 0), (.int .i64 0), (.str []), (.bool false), (.int .i64 0), (.bool false), (.int .i64 0), (.int .i32 0), (.int .i64 0)] []), none, .any⟩, ⟨(some 25), (.ld (some 2) (.t 5)), none, (.at 5 0 2)⟩, ⟨none, (.st 20 (.t 2) (.t 24)), none, (.at 2 0 20)⟩, ⟨none, (.st 2 (.t 3) (.t 25)), none, .any⟩] true [2, 3] [2, 3]) .ret) .skip)) ic31_18)))
def kp31 : List (Nat × Keep) := [(0, ⟨[0, 2, 3], [2, 3], []⟩),
  (1, ⟨[2, 3, 4, 5], [2, 3, 5], []⟩),
  (2, ⟨[2, 3, 4, 5, 23], [2, 3, 5], []⟩),
  (3, ⟨[2, 3], [2, 3], [(1, .at 5 0 2), (2, .at 2 0 20)]⟩),
  (4, ⟨[2, 3, 4, 5, 6], [2, 3, 5, 63], []⟩),
  (5, ⟨[2, 3, 4, 5, 6, 7], [2, 3, 5, 63], []⟩),
  (6, ⟨[2, 3, 4, 5, 6, 7, 29], [2, 3, 5, 63], []⟩),
  (7, ⟨[2, 3, 4, 5, 6, 7], [2, 3, 5, 63], []⟩),
  (8, ⟨[2, 3, 4, 5, 6, 7, 8], [2, 3, 5, 8, 63], []⟩),
  (9, ⟨[2, 3, 4, 5, 6, 7, 8, 38], [2, 3, 5, 8, 63], []⟩),
  (10, ⟨[2, 3, 4, 5, 6, 7, 8, 43], [2, 3, 5, 8, 63], []⟩),
  (11, ⟨[2, 3], [2, 3], [(3, .at 8 2 1), (5, .at 2 0 20)]⟩),
  (12, ⟨[2, 3, 4, 5, 6, 7, 8], [2, 3, 5, 8, 63], []⟩),
  (13, ⟨[2, 3, 4, 5, 6, 7, 8], [2, 3, 5, 8, 63], []⟩),
  (14, ⟨[2, 3, 4, 5, 6, 7, 8], [2, 3, 5, 8, 63], []⟩),
  (15, ⟨[2, 3, 4, 5, 6, 7], [2, 3, 5, 63], []⟩),
  (16, ⟨[2, 3, 5, 6, 9], [2, 3, 5, 63], []⟩),
  (17, ⟨[2, 3, 5, 6, 9, 10], [2, 3, 5, 63], []⟩),
  (18, ⟨[2, 3, 5, 6, 9, 10, 67], [2, 3, 5, 63], []⟩),
  (19, ⟨[2, 3, 5, 6, 9, 10], [2, 3, 5, 63], []⟩),
  (20, ⟨[2, 3, 5, 6, 9, 10, 74], [2, 3, 5, 63], []⟩),
  (21, ⟨[2, 3, 5, 6, 10, 76], [2, 3, 5, 63], []⟩),
  (22, ⟨[2, 3], [2, 3], [(3, .ref), (6, .ref), (8, .at 2 0 20)]⟩),
  (23, ⟨[2, 3, 5, 6, 9, 10], [2, 3, 5, 63], []⟩),
  (24, ⟨[2, 3, 5, 6, 9, 11], [2, 3, 5, 63], []⟩),
  (25, ⟨[2, 3, 5, 6, 9, 11, 88], [2, 3, 5, 63], []⟩),
  (26, ⟨[2, 3, 5, 6, 9, 11], [2, 3, 5, 63], []⟩),
  (27, ⟨[2, 3, 5, 6, 9, 12], [2, 3, 5, 12, 63], []⟩),
  (28, ⟨[2, 3, 5, 6, 9, 12, 99], [2, 3, 5, 12, 63], []⟩),
  (29, ⟨[2, 3], [2, 3], [(1, .at 5 0 2), (2, .at 2 0 20)]⟩),
  (30, ⟨[2, 3, 6, 9, 12, 13], [2, 3, 12, 13, 63], []⟩),
  (31, ⟨[2, 3, 6, 9, 12, 13], [2, 3, 12, 13, 63], [(3, .at 12 1 1), (5, .at 12 22 1), (7, .at 12 23 1), (9, .at 13 0 1), (11, .at 13 1 1), (13, .at 13 17 1)]⟩),
  (32, ⟨[2, 3, 6, 9, 12, 13, 118], [2, 3, 12, 13, 63], []⟩),
  (33, ⟨[2, 3, 6, 9, 12, 13], [2, 3, 12, 13, 63], []⟩),
  (34, ⟨[2, 3, 6, 9, 12, 13], [2, 3, 12, 13, 63], []⟩),
  (35, ⟨[2, 3, 6, 9, 13], [2, 3, 13, 63], []⟩),
  (36, ⟨[2, 3, 6, 9, 13, 140], [2, 3, 13, 63], []⟩),
  (37, ⟨[2, 3, 13, 14, 15], [2, 3, 13, 14, 15], []⟩),
  (38, ⟨[2, 3, 13, 14, 15, 158], [2, 3, 13, 14, 15], []⟩),
  (39, ⟨[2, 3], [2, 3], [(1, .at 15 0 2), (2, .at 2 0 20)]⟩),
  (40, ⟨[2, 3, 13], [2, 3, 13], [(1, .at 14 0 1), (3, .at 14 1 1), (5, .at 13 2 1), (7, .at 13 3 1)]⟩),
  (41, ⟨[2, 3, 13, 175], [2, 3, 13], []⟩),
  (42, ⟨[2, 3], [2, 3], []⟩),
  (43, ⟨[2, 3], [2, 3], []⟩)]
theorem c31 : (Tryz.f31.body.bind fun c => compC Tryz.prog 180 [131] kp31 c) = some ic31 := by kernel_rfl
theorem e31 {args : List AV} {r : AV} (ha : args.length ≤ 180) (h : VC e0 ic31 (retQ [(2, (some (some 20))), (3, (some (some 2)))] r) ⟨argT 0 args, []⟩) : Fn 31 args r := fn_of Tryz.func31 rfl (by kernel_rfl) c31 ha (by decide) h

def ic53_1 : IC := (.reg [⟨(some 27), (.mv (.t 8)), none, .any⟩, ⟨(some 28), (.bin .add none (.t 27) (.c (.int .i64 1))), none, .any⟩, ⟨(some 8), (.mv (.t 28)), none, .any⟩] false [1, 5, 7, 8, 17, 18, 19] [17])
def ic53_2 : IC := (.seq (.block 3 (.seq (.reg [⟨(some 29), (.mv (.t 7)), none, .any⟩, ⟨(some 30), (.mv (.t 8)), none, .any⟩, ⟨(some 31), (.ia 2 (.t 29) (.t 30)), none, .any⟩, ⟨(some 32), (.fa 0 none (.t 31)), none, .any⟩, ⟨(some 33), (.ld none (.t 32)), none, .any⟩, ⟨(some 34), (.mv (.t 1)), none, .any⟩, ⟨(some 35), (.bin .eql none (.t 33) (.t 34)), none, .any⟩] false [1, 5, 7, 8, 17, 18, 19, 35] [17]) (.cond (.t 35) (.reg [⟨(some 36), (.mv (.t 5)), none, .any⟩, ⟨(some 37), (.bin .add none (.t 36) (.c (.int .i64 1))), none, .any⟩, ⟨(some 5), (.mv (.t 37)), none, .any⟩] false [1, 5, 7, 8, 17, 18, 19] [17]) .skip))) ic53_1)
def ic53_3 : IC := (.seq (.seq (.reg [⟨(some 23), (.mv (.t 8)), none, .any⟩, ⟨(some 24), (.mv (.t 7)), none, .any⟩, ⟨(some 25), (.len false (.t 24)), none, .any⟩, ⟨(some 26), (.bin .lss none (.t 23) (.t 25)), none, .any⟩] false [1, 5, 7, 8, 17, 18, 19, 26] [17]) (.cond (.t 26) .skip (.exit 2))) ic53_2)
def ic53_4 : IC := (.reg [⟨(some 38), (.bin .add none (.t 19) (.c (.int .i64 1))), none, .any⟩, ⟨(some 19), (.mv (.t 38)), none, .any⟩] false [1, 5, 17, 18, 19] [17])
def ic53_5 : IC := (.seq (.block 1 (.seq (.reg [⟨(some 21), (.ia 1 (.t 17) (.t 19)), none, .any⟩, ⟨(some 22), (.ld none (.t 21)), none, .any⟩, ⟨(some 7), (.mv (.t 22)), none, .any⟩] false [1, 5, 7, 17, 18, 19] [17]) (.seq (.reg [⟨(some 8), (.mv (.c (.int .i64 0))), none, .any⟩] false [1, 5, 7, 8, 17, 18, 19] [17]) (.block 2 (.loop ic53_3))))) ic53_4)
def ic53_6 : IC := (.seq (.reg [⟨(some 20), (.bin .lss none (.t 19) (.t 18)), none, .any⟩] false [1, 5, 17, 18, 19, 20] [17]) (.seq (.cond (.t 20) .skip (.exit 0)) ic53_5))
def ic53_7 : IC := (.seq (.reg [⟨(some 39), (.mv (.t 5)), none, .any⟩, ⟨(some 4), (.mv (.t 39)), none, .any⟩] false [4] []) .ret)
def ic53 : IC := (.seq (.reg [⟨(some 2), (.box 26 (.t 0)), none, .any⟩, ⟨(some 4), (.mv (.c (.int .i64 0))), none, .any⟩] false [1, 2] [2]) (.seq (.reg [⟨(some 5), (.mv (.c (.int .i64 0))), none, .any⟩] false [1, 2, 5] [2]) (.seq (.seq (.reg [⟨(some 9), (.fa 0 none (.t 2)), none, .any⟩, ⟨(some 10), (.ld none (.t 9)), none, .any⟩, ⟨(some 11), (.fa 1 none (.t 2)), none, .any⟩, ⟨(some 12), (.ld none (.t 11)), none, .any⟩, ⟨(some 13), (.fa 3 none (.t 2)), none, .any⟩, ⟨(some 14), (.ld none (.t 13)), none, .any⟩, ⟨(some 15), (.fa 4 none (.t 2)), none, .any⟩, ⟨(some 16), (.ld none (.t 15)), none, .any⟩, ⟨(some 17), (.lit false 24 1 [(.t 10), (.t 12), (.t 14), (.t 16)]), none, .any⟩, ⟨(some 18), (.len false (.t 17)), none, .any⟩, ⟨(some 19), (.mv (.c (.int .i64 0))), none, .any⟩] false [1, 5, 17, 18, 19] [17]) (.block 0 (.loop ic53_6))) ic53_7)))
def kp53 : List (Nat × Keep) := [(0, ⟨[1, 2], [2], []⟩),
  (1, ⟨[1, 2, 5], [2], []⟩),
  (2, ⟨[1, 5, 17, 18, 19], [17], []⟩),
  (3, ⟨[1, 5, 17, 18, 19, 20], [17], []⟩),
  (4, ⟨[1, 5, 7, 17, 18, 19], [17], []⟩),
  (5, ⟨[1, 5, 7, 8, 17, 18, 19], [17], []⟩),
  (6, ⟨[1, 5, 7, 8, 17, 18, 19, 26], [17], []⟩),
  (7, ⟨[1, 5, 7, 8, 17, 18, 19], [17], []⟩),
  (8, ⟨[1, 5, 7, 8, 17, 18, 19, 35], [17], []⟩),
  (9, ⟨[1, 5, 7, 8, 17, 18, 19], [17], []⟩),
  (10, ⟨[1, 5, 17, 18, 19], [17], []⟩),
  (11, ⟨[4], [], []⟩)]
theorem c53 : (Tryz.f53.body.bind fun c => compC Tryz.prog 40 [] kp53 c) = some ic53 := by kernel_rfl
theorem e53 {args : List AV} {r : AV} (ha : args.length ≤ 40) (h : VC e0 ic53 (retQ [(4, none)] r) ⟨argT 0 args, []⟩) : Fn 53 args r := fn_of Tryz.func53 rfl (by kernel_rfl) c53 ha (by decide) h

def ic55_1 : IC := (.reg [⟨(some 68), (.mv (.t 8)), none, .any⟩, ⟨(some 69), (.mv (.t 10)), none, .any⟩, ⟨(some 70), (.bin .add none (.t 68) (.t 69)), none, .any⟩, ⟨(some 8), (.mv (.t 70)), none, .any⟩] false [0, 3, 6, 7, 8] [3, 52, 67])
def ic55_2 : IC := (.seq (.seq (.reg [⟨(some 55), (.mv (.t 9)), none, .any⟩, ⟨(some 56), (.bin .eql none (.t 55) (.c (.int .i32 39))), none, .any⟩] false [0, 3, 6, 7, 8, 9, 10, 56] [3, 52, 67]) (.cond (.t 56) (.seq (.reg [⟨(some 57), (.mv (.t 7)), none, .any⟩, ⟨(some 58), (.bin .geq none (.t 57) (.c (.int .i64 0))), none, .any⟩] false [0, 3, 6, 8, 10, 58] [3, 52, 67]) (.cond (.t 58) (.reg [⟨(some 7), (.mv (.c (.int .i64 (-1)))), none, .any⟩] false [0, 3, 6, 7, 8, 10] [3, 52, 67]) (.reg [⟨(some 59), (.mv (.t 8)), none, .any⟩, ⟨(some 7), (.mv (.t 59)), none, .any⟩] false [0, 3, 6, 7, 8, 10] [3, 52, 67]))) (.reg [⟨(some 60), (.mv (.t 6)), none, .any⟩, ⟨(some 61), (.mv (.t 9)), none, .any⟩, ⟨(some 62), (.mv (.t 7)), none, .any⟩, ⟨(some 63), (.bin .geq none (.t 62) (.c (.int .i64 0))), none, .any⟩, ⟨(some 64), (.mv (.t 8)), none, .any⟩, ⟨(some 65), (.build [(.int .i32 0), (.bool false), (.int .i64 0)] [(0, (1, (.t 61))), (1, (1, (.t 63))), (2, (1, (.t 64)))]), none, .any⟩, ⟨(some 66), (.lit false 71 3 [(.t 65)]), none, .any⟩, ⟨(some 67), (.app 71 3 16 (.t 60) (.t 66)), none, .any⟩, ⟨(some 6), (.mv (.t 67)), none, .any⟩] false [0, 3, 6, 7, 8, 10] [3, 52, 67]))) ic55_1)
def ic55_3 : IC := (.block 1 (.seq (.reg [⟨(some 25), (.mv (.t 0)), none, .any⟩, ⟨(some 26), (.mv (.t 8)), none, .any⟩, ⟨(some 27), (.ss (.t 25) (some (.t 26)) none), none, .any⟩, ⟨(some 28), (.call 86 [((.t 27), none)]), none, .any⟩, ⟨(some 24), (.mv (.t 28)), none, .any⟩, ⟨(some 29), (.ext (.t 24) 0), none, .any⟩, ⟨(some 30), (.ext (.t 24) 1), none, .any⟩, ⟨(some 9), (.mv (.t 29)), none, .any⟩, ⟨(some 10), (.mv (.t 30)), none, .any⟩] false [0, 3, 6, 7, 8, 9, 10] [3, 52, 67]) (.seq (.seq (.reg [⟨(some 31), (.mv (.t 9)), none, .any⟩, ⟨(some 32), (.bin .eql none (.t 31) (.c (.int .i32 39))), none, .any⟩, ⟨(some 33), (.mv (.t 32)), none, .any⟩, ⟨(some 34), (.mv (.t 8)), (some (33, true)), .any⟩, ⟨(some 35), (.bin .add none (.t 34) (.c (.int .i64 1))), (some (33, true)), .any⟩, ⟨(some 36), (.mv (.t 0)), (some (33, true)), .any⟩, ⟨(some 37), (.len true (.t 36)), (some (33, true)), .any⟩, ⟨(some 38), (.bin .lss none (.t 35) (.t 37)), (some (33, true)), .any⟩, ⟨(some 39), (.pick (.t 33) (.t 38) (.c (.bool false))), none, .any⟩, ⟨(some 40), (.mv (.t 39)), none, .any⟩, ⟨(some 41), (.mv (.t 0)), (some (40, true)), .any⟩, ⟨(some 42), (.mv (.t 8)), (some (40, true)), .any⟩, ⟨(some 43), (.bin .add none (.t 42) (.c (.int .i64 1))), (some (40, true)), .any⟩, ⟨(some 44), (.ix (.t 41) (.t 43)), (some (40, true)), .any⟩, ⟨(some 45), (.bin .eql none (.t 44) (.c (.int .u8 39))), (some (40, true)), .any⟩, ⟨(some 46), (.pick (.t 40) (.t 45) (.c (.bool false))), none, .any⟩] false [0, 3, 6, 7, 8, 9, 10, 46] [3, 52, 67]) (.cond (.t 46) (.seq (.reg [⟨(some 47), (.mv (.t 6)), none, .any⟩, ⟨(some 48), (.mv (.t 9)), none, .any⟩, ⟨(some 49), (.mv (.t 8)), none, .any⟩, ⟨(some 50), (.build [(.int .i32 0), (.bool false), (.int .i64 0)] [(0, (1, (.t 48))), (1, (1, (.c (.bool true)))), (2, (1, (.t 49)))]), none, .any⟩, ⟨(some 51), (.lit false 71 3 [(.t 50)]), none, .any⟩, ⟨(some 52), (.app 71 3 16 (.t 47) (.t 51)), none, .any⟩, ⟨(some 6), (.mv (.t 52)), none, .any⟩] false [0, 3, 6, 7, 8] [3, 52, 67]) (.seq (.reg [⟨(some 53), (.mv (.t 8)), none, .any⟩, ⟨(some 54), (.bin .add none (.t 53) (.c (.int .i64 2))), none, .any⟩, ⟨(some 8), (.mv (.t 54)), none, .any⟩] false [0, 3, 6, 7, 8] [3, 52, 67]) (.exit 1))) .skip)) ic55_2)))
def ic55_4 : IC := (.seq (.seq (.reg [⟨(some 20), (.mv (.t 8)), none, .any⟩, ⟨(some 21), (.mv (.t 0)), none, .any⟩, ⟨(some 22), (.len true (.t 21)), none, .any⟩, ⟨(some 23), (.bin .lss none (.t 20) (.t 22)), none, .any⟩] false [0, 3, 6, 7, 8, 23] [3, 52, 67]) (.cond (.t 23) .skip (.exit 0))) ic55_3)
def ic55_5 : IC := (.seq (.reg [⟨(some 79), (.mv (.t 6)), none, .any⟩, ⟨(some 80), (.build [(.int .i64 0), (.int .i64 0)] []), none, .any⟩, ⟨(some 2), (.mv (.t 79)), none, .any⟩, ⟨none, (.st 2 (.t 3) (.t 80)), none, .any⟩] false [2, 3] [3, 52, 67]) .ret)
def ic55_6 : IC := (.seq (.seq (.reg [⟨(some 75), (.mv (.t 6)), none, .any⟩, ⟨(some 76), (.len false (.t 75)), none, .any⟩, ⟨(some 77), (.bin .gtr none (.t 76) (.c (.int .i64 400))), none, .any⟩] false [3, 6, 77] [3, 52, 67]) (.cond (.t 77) (.seq (.reg [⟨(some 78), (.build [(.int .i64 0), (.int .i64 0)] [(0, (1, (.c (.int .i64 8))))]), none, .any⟩, ⟨(some 2), (.mv (.c .nil)), none, .any⟩, ⟨none, (.st 2 (.t 3) (.t 78)), none, .any⟩] false [2, 3] [3, 52, 67]) .ret) .skip)) ic55_5)
def ic55_7 : IC := (.seq (.seq (.reg [⟨(some 71), (.mv (.t 7)), none, .any⟩, ⟨(some 72), (.bin .geq none (.t 71) (.c (.int .i64 0))), none, .any⟩] false [3, 6, 7, 72] [3, 52, 67]) (.cond (.t 72) (.seq (.reg [⟨(some 73), (.mv (.t 7)), none, .any⟩, ⟨(some 74), (.build [(.int .i64 0), (.int .i64 0)] [(0, (1, (.c (.int .i64 3)))), (1, (1, (.t 73)))]), none, .any⟩, ⟨(some 2), (.mv (.c .nil)), none, .any⟩, ⟨none, (.st 2 (.t 3) (.t 74)), none, .any⟩] false [2, 3] [3, 52, 67]) .ret) .skip)) ic55_6)
def ic55_8 : IC := (.seq (.reg [⟨(some 6), (.mv (.c .nil)), none, .any⟩] false [0, 3, 6] [3, 52, 67]) (.seq (.reg [⟨(some 7), (.mv (.c (.int .i64 (-1)))), none, .any⟩] false [0, 3, 6, 7] [3, 52, 67]) (.seq (.seq (.reg [⟨(some 8), (.mv (.c (.int .i64 0))), none, .any⟩] false [0, 3, 6, 7, 8] [3, 52, 67]) (.block 0 (.loop ic55_4))) ic55_7)))
def ic55 : IC := (.seq (.reg [⟨(some 2), (.mv (.c .nil)), none, .any⟩, ⟨(some 3), (.alloc 52 [(.int .i64 0), (.int .i64 0)]), none, .any⟩] false [0, 3] [3]) (.seq (.seq (.reg [⟨(some 12), (.mv (.t 0)), none, .any⟩, ⟨(some 13), (.call 85 [((.t 12), none)]), none, .any⟩, ⟨(some 11), (.mv (.t 13)), none, .any⟩, ⟨(some 14), (.ext (.t 11) 0), none, .any⟩, ⟨(some 15), (.ext (.t 11) 1), none, .any⟩, ⟨(some 4), (.mv (.t 14)), none, .any⟩, ⟨(some 5), (.mv (.t 15)), none, .any⟩] false [0, 3, 5] [3]) (.seq (.reg [⟨(some 16), (.mv (.t 5)), none, .any⟩, ⟨(some 17), (.bin .geq none (.t 16) (.c (.int .i64 0))), none, .any⟩] false [0, 3, 5, 17] [3]) (.cond (.t 17) (.seq (.reg [⟨(some 18), (.mv (.t 5)), none, .any⟩, ⟨(some 19), (.build [(.int .i64 0), (.int .i64 0)] [(0, (1, (.c (.int .i64 2)))), (1, (1, (.t 18)))]), none, .any⟩, ⟨(some 2), (.mv (.c .nil)), none, .any⟩, ⟨none, (.st 2 (.t 3) (.t 19)), none, .any⟩] false [2, 3] [3, 52, 67]) .ret) .skip))) ic55_8))
def kp55 : List (Nat × Keep) := [(0, ⟨[0, 3], [3], []⟩),
  (1, ⟨[0, 3, 5], [3], []⟩),
  (2, ⟨[0, 3, 5, 17], [3], []⟩),
  (3, ⟨[2, 3], [3, 52, 67], []⟩),
  (4, ⟨[0, 3, 6], [3, 52, 67], []⟩),
  (5, ⟨[0, 3, 6, 7], [3, 52, 67], []⟩),
  (6, ⟨[0, 3, 6, 7, 8], [3, 52, 67], []⟩),
  (7, ⟨[0, 3, 6, 7, 8, 23], [3, 52, 67], []⟩),
  (8, ⟨[0, 3, 6, 7, 8, 9, 10], [3, 52, 67], []⟩),
  (9, ⟨[0, 3, 6, 7, 8, 9, 10, 46], [3, 52, 67], []⟩),
  (10, ⟨[0, 3, 6, 7, 8], [3, 52, 67], []⟩),
  (11, ⟨[0, 3, 6, 7, 8], [3, 52, 67], []⟩),
  (12, ⟨[0, 3, 6, 7, 8, 9, 10, 56], [3, 52, 67], []⟩),
  (13, ⟨[0, 3, 6, 8, 10, 58], [3, 52, 67], []⟩),
  (14, ⟨[0, 3, 6, 7, 8, 10], [3, 52, 67], []⟩),
  (15, ⟨[0, 3, 6, 7, 8, 10], [3, 52, 67], []⟩),
  (16, ⟨[0, 3, 6, 7, 8, 10], [3, 52, 67], []⟩),
  (17, ⟨[0, 3, 6, 7, 8], [3, 52, 67], []⟩),
  (18, ⟨[3, 6, 7, 72], [3, 52, 67], []⟩),
  (19, ⟨[2, 3], [3, 52, 67], []⟩),
  (20, ⟨[3, 6, 77], [3, 52, 67], []⟩),
  (21, ⟨[2, 3], [3, 52, 67], []⟩),
  (22, ⟨[2, 3], [3, 52, 67], []⟩)]
theorem c55 : (Tryz.f55.body.bind fun c => compC Tryz.prog 81 [] kp55 c) = some ic55 := by kernel_rfl
theorem e55 {args : List AV} {r : AV} (ha : args.length ≤ 81) (h : VC e0 ic55 (retQ [(2, none), (3, (some (some 2)))] r) ⟨argT 0 args, []⟩) : Fn 55 args r := fn_of Tryz.func55 rfl (by kernel_rfl) c55 ha (by decide) h


def ic56 : IC := (.seq (.reg [⟨(some 2), (.box 73 (.t 0)), none, .any⟩, ⟨(some 4), (.mv (.c (.bool false))), none, .any⟩] false [1, 2] [2]) (.seq (.reg [⟨(some 5), (.fa 3 none (.t 2)), none, .any⟩, ⟨(some 6), (.ld none (.t 5)), none, .any⟩, ⟨(some 7), (.not (.t 6)), none, .any⟩, ⟨(some 8), (.mv (.t 7)), none, .any⟩, ⟨(some 9), (.fa 0 (some 3) (.t 2)), (some (8, true)), .any⟩, ⟨(some 10), (.fa 1 none (.t 9)), (some (8, true)), .any⟩, ⟨(some 11), (.ld none (.t 10)), (some (8, true)), .any⟩, ⟨(some 12), (.not (.t 11)), (some (8, true)), .any⟩, ⟨(some 13), (.pick (.t 8) (.t 12) (.c (.bool false))), none, .any⟩, ⟨(some 14), (.mv (.t 13)), none, .any⟩, ⟨(some 15), (.fa 0 (some 3) (.t 2)), (some (14, true)), .any⟩, ⟨(some 16), (.fa 0 none (.t 15)), (some (14, true)), .any⟩, ⟨(some 17), (.ld none (.t 16)), (some (14, true)), .any⟩, ⟨(some 18), (.mv (.t 1)), (some (14, true)), .any⟩, ⟨(some 19), (.bin .eql none (.t 17) (.t 18)), (some (14, true)), .any⟩, ⟨(some 20), (.pick (.t 14) (.t 19) (.c (.bool false))), none, .any⟩, ⟨(some 4), (.mv (.t 20)), none, .any⟩] false [4] []) .ret))
def kp56 : List (Nat × Keep) := [(0, ⟨[1, 2], [2], []⟩),
  (1, ⟨[4], [], []⟩)]
theorem c56 : (Tryz.f56.body.bind fun c => compC Tryz.prog 21 [] kp56 c) = some ic56 := by kernel_rfl
theorem e56 {args : List AV} {r : AV} (ha : args.length ≤ 21) (h : VC e0 ic56 (retQ [(4, none)] r) ⟨argT 0 args, []⟩) : Fn 56 args r := fn_of Tryz.func56 rfl (by kernel_rfl) c56 ha (by decide) h

def ic57_1 : IC := (.block 1 (.reg [⟨(some 35), (.mv (.t 8)), none, .any⟩, ⟨(some 36), (.bin .add none (.t 35) (.c (.int .i64 1))), none, .any⟩, ⟨(some 8), (.mv (.t 36)), none, .any⟩] false [0, 1, 2, 6, 7, 8] [6, 7]))
def ic57_2 : IC := (.seq (.seq (.reg [⟨(some 23), (.mv (.t 8)), none, .any⟩, ⟨(some 24), (.mv (.t 0)), none, .any⟩, ⟨(some 25), (.len false (.t 24)), none, .any⟩, ⟨(some 26), (.bin .lss none (.t 23) (.t 25)), none, .any⟩, ⟨(some 27), (.mv (.t 26)), none, .any⟩, ⟨(some 28), (.mv (.t 0)), (some (27, true)), .any⟩, ⟨(some 29), (.mv (.t 8)), (some (27, true)), .any⟩, ⟨(some 30), (.ia 4 (.t 28) (.t 29)), (some (27, true)), .any⟩, ⟨(some 31), (.ld (some 4) (.t 30)), (some (27, true)), .any⟩, ⟨(some 32), (.call 87 [((.t 31), none)]), (some (27, true)), .any⟩, ⟨(some 33), (.not (.t 32)), (some (27, true)), .any⟩, ⟨(some 34), (.pick (.t 27) (.t 33) (.c (.bool false))), none, .any⟩] false [0, 1, 2, 6, 7, 8, 34] [6, 7]) (.cond (.t 34) .skip (.exit 0))) ic57_1)
def ic57_3 : IC := (.block 3 (.reg [⟨(some 56), (.mv (.t 9)), none, .any⟩, ⟨(some 57), (.bin .add none (.t 56) (.c (.int .i64 1))), none, .any⟩, ⟨(some 9), (.mv (.t 57)), none, .any⟩] false [0, 2, 6, 7, 8, 9] [6, 7]))
def ic57_4 : IC := (.seq (.seq (.reg [⟨(some 45), (.mv (.t 9)), none, .any⟩, ⟨(some 46), (.mv (.t 0)), none, .any⟩, ⟨(some 47), (.len false (.t 46)), none, .any⟩, ⟨(some 48), (.bin .lss none (.t 45) (.t 47)), none, .any⟩, ⟨(some 49), (.mv (.t 48)), none, .any⟩, ⟨(some 50), (.mv (.t 0)), (some (49, true)), .any⟩, ⟨(some 51), (.mv (.t 9)), (some (49, true)), .any⟩, ⟨(some 52), (.ia 4 (.t 50) (.t 51)), (some (49, true)), .any⟩, ⟨(some 53), (.ld (some 4) (.t 52)), (some (49, true)), .any⟩, ⟨(some 54), (.call 87 [((.t 53), none)]), (some (49, true)), .any⟩, ⟨(some 55), (.pick (.t 49) (.t 54) (.c (.bool false))), none, .any⟩] false [0, 2, 6, 7, 8, 9, 55] [6, 7]) (.cond (.t 55) .skip (.exit 2))) ic57_3)
def ic57_5 : IC := (.block 5 (.reg [⟨(some 95), (.mv (.t 9)), none, .any⟩, ⟨(some 96), (.bin .add none (.t 95) (.c (.int .i64 1))), none, .any⟩, ⟨(some 9), (.mv (.t 96)), none, .any⟩] false [0, 2, 6, 7, 8, 9] [6, 7]))
def ic57_6 : IC := (.seq (.seq (.reg [⟨(some 84), (.mv (.t 9)), none, .any⟩, ⟨(some 85), (.mv (.t 0)), none, .any⟩, ⟨(some 86), (.len false (.t 85)), none, .any⟩, ⟨(some 87), (.bin .lss none (.t 84) (.t 86)), none, .any⟩, ⟨(some 88), (.mv (.t 87)), none, .any⟩, ⟨(some 89), (.mv (.t 0)), (some (88, true)), .any⟩, ⟨(some 90), (.mv (.t 9)), (some (88, true)), .any⟩, ⟨(some 91), (.ia 4 (.t 89) (.t 90)), (some (88, true)), .any⟩, ⟨(some 92), (.ld (some 4) (.t 91)), (some (88, true)), .any⟩, ⟨(some 93), (.call 87 [((.t 92), none)]), (some (88, true)), .any⟩, ⟨(some 94), (.pick (.t 88) (.t 93) (.c (.bool false))), none, .any⟩] false [0, 2, 6, 7, 8, 9, 94] [6, 7]) (.cond (.t 94) .skip (.exit 4))) ic57_5)
def ic57_7 : IC := (.block 4 (.loop ic57_6))
def ic57_8 : IC := (.reg [⟨(some 148), (.mv (.t 13)), none, .any⟩, ⟨(some 149), (.mv (.t 0)), none, .any⟩, ⟨(some 150), (.mv (.t 12)), none, .any⟩, ⟨(some 151), (.ia 4 (.t 149) (.t 150)), none, .ref⟩, ⟨(some 152), (.fa 0 (some 3) (.t 151)), none, .any⟩, ⟨(some 153), (.fa 0 none (.t 152)), none, .any⟩, ⟨(some 154), (.ld none (.t 153)), none, .ref⟩, ⟨(some 155), (.fa 22 none (.t 10)), none, .any⟩, ⟨none, (.st 1 (.t 155) (.t 148)), none, (.at 10 22 1)⟩, ⟨(some 156), (.fa 23 none (.t 10)), none, .any⟩, ⟨none, (.st 1 (.t 156) (.t 154)), none, .any⟩] true [0, 2, 6, 7, 8, 9, 10, 11, 12] [6, 7, 10])
def ic57_9 : IC := (.seq (.reg [⟨(some 128), (.mv (.t 11)), none, .any⟩, ⟨(some 129), (.bin .add none (.t 128) (.c (.int .i64 1))), none, .any⟩, ⟨(some 11), (.mv (.t 129)), none, .any⟩] false [0, 2, 6, 7, 8, 9, 10, 11, 12, 13] [6, 7, 10]) (.seq (.seq (.reg [⟨(some 130), (.mv (.t 13)), none, .any⟩, ⟨(some 131), (.bin .eql none (.t 130) (.c (.int .i64 0))), none, .any⟩, ⟨(some 132), (.mv (.t 131)), none, .any⟩, ⟨(some 133), (.mv (.t 11)), (some (132, false)), .any⟩, ⟨(some 134), (.bin .gtr none (.t 133) (.c (.int .i64 1))), (some (132, false)), .any⟩, ⟨(some 135), (.pick (.t 132) (.c (.bool true)) (.t 134)), none, .any⟩, ⟨(some 136), (.mv (.t 135)), none, .any⟩, ⟨(some 137), (.mv (.t 2)), (some (136, false)), .any⟩, ⟨(some 138), (.not (.t 137)), (some (136, false)), .any⟩, ⟨(some 139), (.pick (.t 136) (.c (.bool true)) (.t 138)), none, .any⟩] false [0, 2, 6, 7, 8, 9, 10, 11, 12, 13, 139] [6, 7, 10]) (.cond (.t 139) (.seq (.reg [⟨(some 140), (.build [(.sl 2 []), (.sl 2 []), (.sl 2 []), (.sl 2 []), (.bool false), (.sl 2 []), (.sl 2 []), (.int .i64 0), (.int .i64 0), (.int .i64 0), (.int .i64 0), (.int .i64 0), (.int .i64 0), (.int .i64 0), (.int .i64 0), (.str []), (.bool false), (.int .i64 0), (.bool false), (.int .i64 0), (.int .i32 0), (.int .i64 0), (.int .i64 0), (.int .i32 0), (.int .i64 0)] []), none, .any⟩, ⟨(some 141), (.mv (.t 0)), none, .any⟩, ⟨(some 142), (.mv (.t 12)), none, .any⟩, ⟨(some 143), (.ia 4 (.t 141) (.t 142)), none, .ref⟩, ⟨(some 144), (.fa 0 (some 3) (.t 143)), none, .any⟩, ⟨(some 145), (.fa 2 none (.t 144)), none, .any⟩, ⟨(some 146), (.ld none (.t 145)), none, .ref⟩, ⟨(some 147), (.build [(.int .i64 0), (.int .i64 0)] [(0, (1, (.c (.int .i64 7)))), (1, (1, (.t 146)))]), none, .any⟩, ⟨none, (.st 25 (.t 6) (.t 140)), none, (.at 6 0 25)⟩, ⟨none, (.st 2 (.t 7) (.t 147)), none, .any⟩] true [6, 7] [6, 7]) .ret) .skip)) ic57_8))
def ic57_10 : IC := (.seq (.reg [⟨(some 13), (.mv (.c (.int .i64 0))), none, .any⟩] false [0, 2, 6, 7, 8, 9, 10, 11, 12, 13] [6, 7, 10]) (.seq (.block 8 (.seq (.reg [⟨(some 111), (.mv (.t 12)), none, .any⟩, ⟨(some 112), (.bin .eql none (.t 111) (.c (.int .i64 0))), none, .any⟩, ⟨(some 110), (.mv (.t 112)), none, .any⟩] false [0, 2, 6, 7, 8, 9, 10, 11, 12, 13, 110] [6, 7, 10]) (.cond (.t 110) (.reg [⟨(some 13), (.mv (.c (.int .i64 1))), none, .any⟩] false [0, 2, 6, 7, 8, 9, 10, 11, 12, 13] [6, 7, 10]) (.seq (.reg [⟨(some 114), (.mv (.t 12)), none, .any⟩, ⟨(some 115), (.mv (.t 8)), none, .any⟩, ⟨(some 116), (.bin .sub none (.t 115) (.c (.int .i64 1))), none, .any⟩, ⟨(some 117), (.bin .eql none (.t 114) (.t 116)), none, .any⟩, ⟨(some 113), (.mv (.t 117)), none, .any⟩] false [0, 2, 6, 7, 8, 9, 10, 11, 12, 13, 113] [6, 7, 10]) (.cond (.t 113) (.reg [⟨(some 13), (.mv (.c (.int .i64 2))), none, .any⟩] false [0, 2, 6, 7, 8, 9, 10, 11, 12, 13] [6, 7, 10]) (.seq (.reg [⟨(some 119), (.mv (.t 12)), none, .any⟩, ⟨(some 120), (.mv (.t 9)), none, .any⟩, ⟨(some 121), (.bin .eql none (.t 119) (.t 120)), none, .any⟩, ⟨(some 118), (.mv (.t 121)), none, .any⟩] false [0, 2, 6, 7, 8, 9, 10, 11, 12, 13, 118] [6, 7, 10]) (.cond (.t 118) (.reg [⟨(some 13), (.mv (.c (.int .i64 3))), none, .any⟩] false [0, 2, 6, 7, 8, 9, 10, 11, 12, 13] [6, 7, 10]) (.seq (.reg [⟨(some 123), (.mv (.t 12)), none, .any⟩, ⟨(some 124), (.mv (.t 0)), none, .any⟩, ⟨(some 125), (.len false (.t 124)), none, .any⟩, ⟨(some 126), (.bin .sub none (.t 125) (.c (.int .i64 1))), none, .any⟩, ⟨(some 127), (.bin .eql none (.t 123) (.t 126)), none, .any⟩, ⟨(some 122), (.mv (.t 127)), none, .any⟩] false [0, 2, 6, 7, 8, 9, 10, 11, 12, 13, 122] [6, 7, 10]) (.cond (.t 122) (.reg [⟨(some 13), (.mv (.c (.int .i64 4))), none, .any⟩] false [0, 2, 6, 7, 8, 9, 10, 11, 12, 13] [6, 7, 10]) .skip))))))))) ic57_9))
def ic57_11 : IC := (.reg [⟨(some 102), (.mv (.t 12)), none, .any⟩, ⟨(some 103), (.bin .add none (.t 102) (.c (.int .i64 1))), none, .any⟩, ⟨(some 12), (.mv (.t 103)), none, .any⟩] false [0, 2, 6, 7, 8, 9, 10, 11, 12] [6, 7, 10])
def ic57_12 : IC := (.seq (.block 7 (.seq (.seq (.reg [⟨(some 104), (.mv (.t 0)), none, .any⟩, ⟨(some 105), (.mv (.t 12)), none, .any⟩, ⟨(some 106), (.ia 4 (.t 104) (.t 105)), none, .any⟩, ⟨(some 107), (.fa 3 none (.t 106)), none, .any⟩, ⟨(some 108), (.ld none (.t 107)), none, .any⟩, ⟨(some 109), (.not (.t 108)), none, .any⟩] false [0, 2, 6, 7, 8, 9, 10, 11, 12, 109] [6, 7, 10]) (.cond (.t 109) (.exit 7) .skip)) ic57_10)) ic57_11)
def ic57_13 : IC := (.seq (.seq (.reg [⟨(some 98), (.mv (.t 12)), none, .any⟩, ⟨(some 99), (.mv (.t 0)), none, .any⟩, ⟨(some 100), (.len false (.t 99)), none, .any⟩, ⟨(some 101), (.bin .lss none (.t 98) (.t 100)), none, .any⟩] false [0, 2, 6, 7, 8, 9, 10, 11, 12, 101] [6, 7, 10]) (.cond (.t 101) .skip (.exit 6))) ic57_12)
def ic57_14 : IC := (.seq (.reg [⟨(some 168), (.mv (.t 17)), none, .any⟩, ⟨(some 169), (.mv (.t 8)), none, .any⟩, ⟨(some 170), (.bin .lss none (.t 168) (.t 169)), none, .any⟩] false [0, 6, 7, 8, 9, 10, 14, 15, 16, 17, 170] [6, 7, 10, 178, 199]) (.cond (.t 170) (.reg [⟨(some 171), (.mv (.t 14)), none, .any⟩, ⟨(some 172), (.mv (.t 0)), none, .any⟩, ⟨(some 173), (.mv (.t 17)), none, .any⟩, ⟨(some 174), (.ia 4 (.t 172) (.t 173)), none, .any⟩, ⟨(some 175), (.fa 0 (some 3) (.t 174)), none, .any⟩, ⟨(some 176), (.ld (some 3) (.t 175)), none, .any⟩, ⟨(some 177), (.lit false 71 3 [(.t 176)]), none, .any⟩, ⟨(some 178), (.app 71 3 16 (.t 171) (.t 177)), none, .any⟩, ⟨(some 14), (.mv (.t 178)), none, .any⟩] false [0, 6, 7, 8, 9, 10, 14, 15, 16, 17] [6, 7, 10, 178, 199]) (.seq (.reg [⟨(some 179), (.mv (.t 17)), none, .any⟩, ⟨(some 180), (.mv (.t 9)), none, .any⟩, ⟨(some 181), (.bin .lss none (.t 179) (.t 180)), none, .any⟩] false [0, 6, 7, 8, 9, 10, 14, 15, 16, 17, 181] [6, 7, 10, 178, 199]) (.cond (.t 181) (.reg [⟨(some 182), (.mv (.t 16)), none, .any⟩, ⟨(some 183), (.mv (.t 0)), none, .any⟩, ⟨(some 184), (.mv (.t 17)), none, .any⟩, ⟨(some 185), (.ia 4 (.t 183) (.t 184)), none, .any⟩, ⟨(some 186), (.fa 0 (some 3) (.t 185)), none, .any⟩, ⟨(some 187), (.fa 0 none (.t 186)), none, .any⟩, ⟨(some 188), (.ld none (.t 187)), none, .any⟩, ⟨(some 189), (.call 88 [((.t 188), none)]), none, .any⟩, ⟨(some 190), (.b2s (.t 189)), none, .any⟩, ⟨(some 191), (.bin .add none (.t 182) (.t 190)), none, .any⟩, ⟨(some 16), (.mv (.t 191)), none, .any⟩] false [0, 6, 7, 8, 9, 10, 14, 15, 16, 17] [6, 7, 10, 178, 199]) (.reg [⟨(some 192), (.mv (.t 15)), none, .any⟩, ⟨(some 193), (.mv (.t 0)), none, .any⟩, ⟨(some 194), (.mv (.t 17)), none, .any⟩, ⟨(some 195), (.ia 4 (.t 193) (.t 194)), none, .any⟩, ⟨(some 196), (.fa 0 (some 3) (.t 195)), none, .any⟩, ⟨(some 197), (.ld (some 3) (.t 196)), none, .any⟩, ⟨(some 198), (.lit false 71 3 [(.t 197)]), none, .any⟩, ⟨(some 199), (.app 71 3 16 (.t 192) (.t 198)), none, .any⟩, ⟨(some 15), (.mv (.t 199)), none, .any⟩] false [0, 6, 7, 8, 9, 10, 14, 15, 16, 17] [6, 7, 10, 178, 199])))))
def ic57_15 : IC := (.reg [⟨(some 161), (.mv (.t 17)), none, .any⟩, ⟨(some 162), (.bin .add none (.t 161) (.c (.int .i64 1))), none, .any⟩, ⟨(some 17), (.mv (.t 162)), none, .any⟩] false [0, 6, 7, 8, 9, 10, 14, 15, 16, 17] [6, 7, 10, 178, 199])
def ic57_16 : IC := (.seq (.block 10 (.seq (.seq (.reg [⟨(some 163), (.mv (.t 0)), none, .any⟩, ⟨(some 164), (.mv (.t 17)), none, .any⟩, ⟨(some 165), (.ia 4 (.t 163) (.t 164)), none, .any⟩, ⟨(some 166), (.fa 3 none (.t 165)), none, .any⟩, ⟨(some 167), (.ld none (.t 166)), none, .any⟩] false [0, 6, 7, 8, 9, 10, 14, 15, 16, 17, 167] [6, 7, 10, 178, 199]) (.cond (.t 167) (.exit 10) .skip)) ic57_14)) ic57_15)
def ic57_17 : IC := (.seq (.seq (.reg [⟨(some 157), (.mv (.t 17)), none, .any⟩, ⟨(some 158), (.mv (.t 0)), none, .any⟩, ⟨(some 159), (.len false (.t 158)), none, .any⟩, ⟨(some 160), (.bin .lss none (.t 157) (.t 159)), none, .any⟩] false [0, 6, 7, 8, 9, 10, 14, 15, 16, 17, 160] [6, 7, 10, 178, 199]) (.cond (.t 160) .skip (.exit 9))) ic57_16)
def ic57_18 : IC := (.seq (.reg [⟨(some 236), (.mv (.t 18)), none, .any⟩, ⟨(some 237), (.mv (.t 22)), none, .any⟩, ⟨(some 238), (.ld (some 20) (.t 20)), none, (.at 20 0 20)⟩, ⟨(some 239), (.mv (.t 16)), none, .any⟩, ⟨(some 240), (.len true (.t 239)), none, .ref⟩, ⟨(some 241), (.fa 0 none (.t 10)), none, .any⟩, ⟨none, (.st 1 (.t 241) (.t 236)), none, (.at 10 0 1)⟩, ⟨(some 242), (.fa 1 none (.t 10)), none, .any⟩, ⟨none, (.st 1 (.t 242) (.t 237)), none, (.at 10 1 1)⟩, ⟨(some 243), (.fa 2 (some 20) (.t 10)), none, .any⟩, ⟨none, (.st 20 (.t 243) (.t 238)), none, (.at 10 2 20)⟩, ⟨(some 244), (.fa 24 none (.t 10)), none, .any⟩, ⟨none, (.st 1 (.t 244) (.t 240)), none, .any⟩] true [6, 7, 10] [6, 7, 10]) (.seq (.reg [⟨(some 245), (.ld (some 25) (.t 10)), none, .any⟩, ⟨(some 246), (.build [(.int .i64 0), (.int .i64 0)] []), none, .any⟩, ⟨none, (.st 25 (.t 6) (.t 245)), none, .any⟩, ⟨none, (.st 2 (.t 7) (.t 246)), none, .any⟩] false [6, 7] [6, 7]) .ret))
def ic57_19 : IC := (.seq (.reg [⟨(some 227), (.mv (.t 15)), none, .any⟩, ⟨(some 228), (.call 89 [((.t 227), (some 3))]), none, .any⟩, ⟨(some 226), (.mv (.t 228)), none, .any⟩, ⟨(some 229), (.ext (.t 226) 0), none, .any⟩, ⟨(some 230), (.ext (.t 226) 1), none, .any⟩, ⟨(some 22), (.mv (.t 229)), none, .any⟩, ⟨none, (.st 2 (.t 19) (.t 230)), none, .any⟩] false [6, 7, 10, 16, 18, 19, 20, 22] [6, 7, 10, 19, 20]) (.seq (.seq (.reg [⟨(some 231), (.fa 0 none (.t 19)), none, .any⟩, ⟨(some 232), (.ld none (.t 231)), none, .any⟩, ⟨(some 233), (.bin .neq none (.t 232) (.c (.int .i64 0))), none, .any⟩] false [6, 7, 10, 16, 18, 19, 20, 22, 233] [6, 7, 10, 19, 20]) (.cond (.t 233) (.seq (.reg [⟨(some 234), (.build [(.sl 2 []), (.sl 2 []), (.sl 2 []), (.sl 2 []), (.bool false), (.sl 2 []), (.sl 2 []), (.int .i64 0), (.int .i64 0), (.int .i64 0), (.int .i64 0), (.int .i64 0), (.int .i64 0), (.int .i64 0), (.int .i64 0), (.str []), (.bool false), (.int .i64 0), (.bool false), (.int .i64 0), (.int .i32 0), (.int .i64 0), (.int .i64 0), (.int .i32 0), (.int .i64 0)] []), none, .any⟩, ⟨(some 235), (.ld (some 2) (.t 19)), none, (.at 19 0 2)⟩, ⟨none, (.st 25 (.t 6) (.t 234)), none, (.at 6 0 25)⟩, ⟨none, (.st 2 (.t 7) (.t 235)), none, .any⟩] true [6, 7] [6, 7]) .ret) .skip)) ic57_18))
def ic57_20 : IC := (.seq (.reg [⟨(some 211), (.mv (.t 16)), none, .any⟩, ⟨(some 212), (.call 90 [((.t 211), none)]), none, .any⟩, ⟨(some 210), (.mv (.t 212)), none, .any⟩, ⟨(some 213), (.ext (.t 210) 0), none, .any⟩, ⟨(some 214), (.ext (.t 210) 1), none, .any⟩, ⟨(some 20), (.alloc 26 [(.sl 2 []), (.sl 2 []), (.bool false), (.sl 2 []), (.sl 2 []), (.int .i64 0), (.int .i64 0), (.int .i64 0), (.int .i64 0), (.int .i64 0), (.int .i64 0), (.int .i64 0), (.int .i64 0), (.str []), (.bool false), (.int .i64 0), (.bool false), (.int .i64 0), (.int .i32 0), (.int .i64 0)]), none, .any⟩, ⟨none, (.st 20 (.t 20) (.t 213)), none, .any⟩, ⟨(some 21), (.mv (.t 214)), none, .any⟩] false [0, 6, 7, 8, 10, 15, 16, 18, 19, 20, 21] [6, 7, 10, 19, 20, 199]) (.seq (.seq (.reg [⟨(some 215), (.mv (.t 21)), none, .any⟩, ⟨(some 216), (.bin .neq none (.t 215) (.c (.int .i64 0))), none, .any⟩] false [0, 6, 7, 8, 10, 15, 16, 18, 19, 20, 21, 216] [6, 7, 10, 19, 20, 199]) (.cond (.t 216) (.seq (.reg [⟨(some 217), (.build [(.sl 2 []), (.sl 2 []), (.sl 2 []), (.sl 2 []), (.bool false), (.sl 2 []), (.sl 2 []), (.int .i64 0), (.int .i64 0), (.int .i64 0), (.int .i64 0), (.int .i64 0), (.int .i64 0), (.int .i64 0), (.int .i64 0), (.str []), (.bool false), (.int .i64 0), (.bool false), (.int .i64 0), (.int .i32 0), (.int .i64 0), (.int .i64 0), (.int .i32 0), (.int .i64 0)] []), none, .any⟩, ⟨(some 218), (.mv (.t 21)), none, .any⟩, ⟨(some 219), (.mv (.t 0)), none, .any⟩, ⟨(some 220), (.mv (.t 8)), none, .any⟩, ⟨(some 221), (.ia 4 (.t 219) (.t 220)), none, .ref⟩, ⟨(some 222), (.fa 0 (some 3) (.t 221)), none, .any⟩, ⟨(some 223), (.fa 2 none (.t 222)), none, .any⟩, ⟨(some 224), (.ld none (.t 223)), none, .ref⟩, ⟨(some 225), (.build [(.int .i64 0), (.int .i64 0)] [(0, (1, (.t 218))), (1, (1, (.t 224)))]), none, .any⟩, ⟨none, (.st 25 (.t 6) (.t 217)), none, (.at 6 0 25)⟩, ⟨none, (.st 2 (.t 7) (.t 225)), none, .any⟩] true [6, 7] [6, 7]) .ret) .skip)) ic57_19))
def ic57_21 : IC := (.seq (.reg [⟨(some 201), (.mv (.t 14)), none, .any⟩, ⟨(some 202), (.call 89 [((.t 201), (some 3))]), none, .any⟩, ⟨(some 200), (.mv (.t 202)), none, .any⟩, ⟨(some 203), (.ext (.t 200) 0), none, .any⟩, ⟨(some 204), (.ext (.t 200) 1), none, .any⟩, ⟨(some 19), (.alloc 52 [(.int .i64 0), (.int .i64 0)]), none, .any⟩, ⟨(some 18), (.mv (.t 203)), none, .any⟩, ⟨none, (.st 2 (.t 19) (.t 204)), none, .any⟩] false [0, 6, 7, 8, 10, 15, 16, 18, 19] [6, 7, 10, 19, 199]) (.seq (.seq (.reg [⟨(some 205), (.fa 0 none (.t 19)), none, .any⟩, ⟨(some 206), (.ld none (.t 205)), none, .any⟩, ⟨(some 207), (.bin .neq none (.t 206) (.c (.int .i64 0))), none, .any⟩] false [0, 6, 7, 8, 10, 15, 16, 18, 19, 207] [6, 7, 10, 19, 199]) (.cond (.t 207) (.seq (.reg [⟨(some 208), (.build [(.sl 2 []), (.sl 2 []), (.sl 2 []), (.sl 2 []), (.bool false), (.sl 2 []), (.sl 2 []), (.int .i64 0), (.int .i64 0), (.int .i64 0), (.int .i64 0), (.int .i64 0), (.int .i64 0), (.int .i64 0), (.int .i64 0), (.str []), (.bool false), (.int .i64 0), (.bool false), (.int .i64 0), (.int .i32 0), (.int .i64 0), (.int .i64 0), (.int .i32 0), (.int .i64 0)] []), none, .any⟩, ⟨(some 209), (.ld (some 2) (.t 19)), none, (.at 19 0 2)⟩, ⟨none, (.st 25 (.t 6) (.t 208)), none, (.at 6 0 25)⟩, ⟨none, (.st 2 (.t 7) (.t 209)), none, .any⟩] true [6, 7] [6, 7]) .ret) .skip)) ic57_20))
def ic57_22 : IC := (.seq (.reg [⟨(some 14), (.mv (.c .nil)), none, .any⟩, ⟨(some 15), (.mv (.c .nil)), none, .any⟩] false [0, 6, 7, 8, 9, 10, 14, 15] [6, 7, 10, 178, 199]) (.seq (.reg [⟨(some 16), (.mv (.c (.str []))), none, .any⟩] false [0, 6, 7, 8, 9, 10, 14, 15, 16] [6, 7, 10, 178, 199]) (.seq (.seq (.reg [⟨(some 17), (.mv (.c (.int .i64 0))), none, .any⟩] false [0, 6, 7, 8, 9, 10, 14, 15, 16, 17] [6, 7, 10, 178, 199]) (.block 9 (.loop ic57_17))) ic57_21)))
def ic57_23 : IC := (.seq (.reg [⟨(some 97), (.build [(.sl 2 []), (.sl 2 []), (.sl 2 []), (.sl 2 []), (.bool false), (.sl 2 []), (.sl 2 []), (.int .i64 0), (.int .i64 0), (.int .i64 0), (.int .i64 0), (.int .i64 0), (.int .i64 0), (.int .i64 0), (.int .i64 0), (.str []), (.bool false), (.int .i64 0), (.bool false), (.int .i64 0), (.int .i32 0), (.int .i64 0), (.int .i64 0), (.int .i32 0), (.int .i64 0)] []), none, .any⟩, ⟨(some 10), (.alloc 76 [(.sl 2 []), (.sl 2 []), (.sl 2 []), (.sl 2 []), (.bool false), (.sl 2 []), (.sl 2 []), (.int .i64 0), (.int .i64 0), (.int .i64 0), (.int .i64 0), (.int .i64 0), (.int .i64 0), (.int .i64 0), (.int .i64 0), (.str []), (.bool false), (.int .i64 0), (.bool false), (.int .i64 0), (.int .i32 0), (.int .i64 0), (.int .i64 0), (.int .i32 0), (.int .i64 0)]), none, .any⟩, ⟨none, (.st 25 (.t 10) (.t 97)), none, .any⟩] false [0, 2, 6, 7, 8, 9, 10] [6, 7, 10]) (.seq (.reg [⟨(some 11), (.mv (.c (.int .i64 0))), none, .any⟩] false [0, 2, 6, 7, 8, 9, 10, 11] [6, 7, 10]) (.seq (.seq (.reg [⟨(some 12), (.mv (.c (.int .i64 0))), none, .any⟩] false [0, 2, 6, 7, 8, 9, 10, 11, 12] [6, 7, 10]) (.block 6 (.loop ic57_13))) ic57_22)))
def ic57_24 : IC := (.seq (.seq (.reg [⟨(some 58), (.mv (.t 9)), none, .any⟩, ⟨(some 59), (.mv (.t 0)), none, .any⟩, ⟨(some 60), (.len false (.t 59)), none, .any⟩, ⟨(some 61), (.bin .lss none (.t 58) (.t 60)), none, .any⟩, ⟨(some 62), (.mv (.t 61)), none, .any⟩, ⟨(some 63), (.mv (.t 0)), (some (62, true)), .any⟩, ⟨(some 64), (.mv (.t 9)), (some (62, true)), .any⟩, ⟨(some 65), (.ia 4 (.t 63) (.t 64)), (some (62, true)), .any⟩, ⟨(some 66), (.ld (some 4) (.t 65)), (some (62, true)), .any⟩, ⟨(some 67), (.call 56 [((.t 66), none), ((.c (.int .i32 69)), none)]), (some (62, true)), .any⟩, ⟨(some 68), (.pick (.t 62) (.t 67) (.c (.bool false))), none, .any⟩] false [0, 2, 6, 7, 8, 9, 68] [6, 7]) (.cond (.t 68) (.seq (.reg [⟨(some 69), (.mv (.t 9)), none, .any⟩, ⟨(some 70), (.bin .add none (.t 69) (.c (.int .i64 1))), none, .any⟩, ⟨(some 9), (.mv (.t 70)), none, .any⟩] false [0, 2, 6, 7, 8, 9] [6, 7]) (.seq (.seq (.reg [⟨(some 71), (.mv (.t 9)), none, .any⟩, ⟨(some 72), (.mv (.t 0)), none, .any⟩, ⟨(some 73), (.len false (.t 72)), none, .any⟩, ⟨(some 74), (.bin .lss none (.t 71) (.t 73)), none, .any⟩, ⟨(some 75), (.mv (.t 74)), none, .any⟩, ⟨(some 76), (.mv (.t 0)), (some (75, true)), .any⟩, ⟨(some 77), (.mv (.t 9)), (some (75, true)), .any⟩, ⟨(some 78), (.ia 4 (.t 76) (.t 77)), (some (75, true)), .any⟩, ⟨(some 79), (.ld (some 4) (.t 78)), (some (75, true)), .any⟩, ⟨(some 80), (.call 56 [((.t 79), none), ((.c (.int .i32 43)), none)]), (some (75, true)), .any⟩, ⟨(some 81), (.pick (.t 75) (.t 80) (.c (.bool false))), none, .any⟩] false [0, 2, 6, 7, 8, 9, 81] [6, 7]) (.cond (.t 81) (.reg [⟨(some 82), (.mv (.t 9)), none, .any⟩, ⟨(some 83), (.bin .add none (.t 82) (.c (.int .i64 1))), none, .any⟩, ⟨(some 9), (.mv (.t 83)), none, .any⟩] false [0, 2, 6, 7, 8, 9] [6, 7]) .skip)) ic57_7)) .skip)) ic57_23)
def ic57_25 : IC := (.seq (.reg [⟨(some 44), (.mv (.t 8)), none, .any⟩, ⟨(some 9), (.mv (.t 44)), none, .any⟩] false [0, 2, 6, 7, 8, 9] [6, 7]) (.seq (.block 2 (.loop ic57_4)) ic57_24))
def ic57_26 : IC := (.seq (.seq (.reg [⟨(some 37), (.mv (.t 8)), none, .any⟩, ⟨(some 38), (.mv (.t 0)), none, .any⟩, ⟨(some 39), (.len false (.t 38)), none, .any⟩, ⟨(some 40), (.bin .eql none (.t 37) (.t 39)), none, .any⟩] false [0, 1, 2, 6, 7, 8, 40] [6, 7]) (.cond (.t 40) (.seq (.reg [⟨(some 41), (.build [(.sl 2 []), (.sl 2 []), (.sl 2 []), (.sl 2 []), (.bool false), (.sl 2 []), (.sl 2 []), (.int .i64 0), (.int .i64 0), (.int .i64 0), (.int .i64 0), (.int .i64 0), (.int .i64 0), (.int .i64 0), (.int .i64 0), (.str []), (.bool false), (.int .i64 0), (.bool false), (.int .i64 0), (.int .i32 0), (.int .i64 0), (.int .i64 0), (.int .i32 0), (.int .i64 0)] []), none, .any⟩, ⟨(some 42), (.mv (.t 1)), none, .any⟩, ⟨(some 43), (.build [(.int .i64 0), (.int .i64 0)] [(0, (1, (.c (.int .i64 4)))), (1, (1, (.t 42)))]), none, .any⟩, ⟨none, (.st 25 (.t 6) (.t 41)), none, .any⟩, ⟨none, (.st 2 (.t 7) (.t 43)), none, .any⟩] false [6, 7] [6, 7]) .ret) .skip)) ic57_25)
def ic57 : IC := (.seq (.reg [⟨(some 6), (.alloc 76 [(.sl 2 []), (.sl 2 []), (.sl 2 []), (.sl 2 []), (.bool false), (.sl 2 []), (.sl 2 []), (.int .i64 0), (.int .i64 0), (.int .i64 0), (.int .i64 0), (.int .i64 0), (.int .i64 0), (.int .i64 0), (.int .i64 0), (.str []), (.bool false), (.int .i64 0), (.bool false), (.int .i64 0), (.int .i32 0), (.int .i64 0), (.int .i64 0), (.int .i32 0), (.int .i64 0)]), none, .any⟩, ⟨(some 7), (.alloc 52 [(.int .i64 0), (.int .i64 0)]), none, .any⟩] false [0, 1, 2, 6, 7] [6, 7]) (.seq (.reg [⟨(some 8), (.mv (.c (.int .i64 0))), none, .any⟩] false [0, 1, 2, 6, 7, 8] [6, 7]) (.seq (.block 0 (.loop ic57_2)) ic57_26)))
def kp57 : List (Nat × Keep) := [(0, ⟨[0, 1, 2, 6, 7], [6, 7], []⟩),
  (1, ⟨[0, 1, 2, 6, 7, 8], [6, 7], []⟩),
  (2, ⟨[0, 1, 2, 6, 7, 8, 34], [6, 7], []⟩),
  (3, ⟨[0, 1, 2, 6, 7, 8], [6, 7], []⟩),
  (4, ⟨[0, 1, 2, 6, 7, 8, 40], [6, 7], []⟩),
  (5, ⟨[6, 7], [6, 7], []⟩),
  (6, ⟨[0, 2, 6, 7, 8, 9], [6, 7], []⟩),
  (7, ⟨[0, 2, 6, 7, 8, 9, 55], [6, 7], []⟩),
  (8, ⟨[0, 2, 6, 7, 8, 9], [6, 7], []⟩),
  (9, ⟨[0, 2, 6, 7, 8, 9, 68], [6, 7], []⟩),
  (10, ⟨[0, 2, 6, 7, 8, 9], [6, 7], []⟩),
  (11, ⟨[0, 2, 6, 7, 8, 9, 81], [6, 7], []⟩),
  (12, ⟨[0, 2, 6, 7, 8, 9], [6, 7], []⟩),
  (13, ⟨[0, 2, 6, 7, 8, 9, 94], [6, 7], []⟩),
  (14, ⟨[0, 2, 6, 7, 8, 9], [6, 7], []⟩),
  (15, ⟨[0, 2, 6, 7, 8, 9, 10], [6, 7, 10], []⟩),
  (16, ⟨[0, 2, 6, 7, 8, 9, 10, 11], [6, 7, 10], []⟩),
  (17, ⟨[0, 2, 6, 7, 8, 9, 10, 11, 12], [6, 7, 10], []⟩),
  (18, ⟨[0, 2, 6, 7, 8, 9, 10, 11, 12, 101], [6, 7, 10], []⟩),
  (19, ⟨[0, 2, 6, 7, 8, 9, 10, 11, 12], [6, 7, 10], []⟩),
  (20, ⟨[0, 2, 6, 7, 8, 9, 10, 11, 12, 109], [6, 7, 10], []⟩),
  (21, ⟨[0, 2, 6, 7, 8, 9, 10, 11, 12, 13], [6, 7, 10], []⟩),
  (22, ⟨[0, 2, 6, 7, 8, 9, 10, 11, 12, 13, 110], [6, 7, 10], []⟩),
  (23, ⟨[0, 2, 6, 7, 8, 9, 10, 11, 12, 13], [6, 7, 10], []⟩),
  (24, ⟨[0, 2, 6, 7, 8, 9, 10, 11, 12, 13, 113], [6, 7, 10], []⟩),
  (25, ⟨[0, 2, 6, 7, 8, 9, 10, 11, 12, 13], [6, 7, 10], []⟩),
  (26, ⟨[0, 2, 6, 7, 8, 9, 10, 11, 12, 13, 118], [6, 7, 10], []⟩),
  (27, ⟨[0, 2, 6, 7, 8, 9, 10, 11, 12, 13], [6, 7, 10], []⟩),
  (28, ⟨[0, 2, 6, 7, 8, 9, 10, 11, 12, 13, 122], [6, 7, 10], []⟩),
  (29, ⟨[0, 2, 6, 7, 8, 9, 10, 11, 12, 13], [6, 7, 10], []⟩),
  (30, ⟨[0, 2, 6, 7, 8, 9, 10, 11, 12, 13], [6, 7, 10], []⟩),
  (31, ⟨[0, 2, 6, 7, 8, 9, 10, 11, 12, 13, 139], [6, 7, 10], []⟩),
  (32, ⟨[6, 7], [6, 7], [(3, .ref), (6, .ref), (8, .at 6 0 25)]⟩),
  (33, ⟨[0, 2, 6, 7, 8, 9, 10, 11, 12], [6, 7, 10], [(3, .ref), (6, .ref), (8, .at 10 22 1)]⟩),
  (34, ⟨[0, 6, 7, 8, 9, 10, 14, 15], [6, 7, 10, 178, 199], []⟩),
  (35, ⟨[0, 6, 7, 8, 9, 10, 14, 15, 16], [6, 7, 10, 178, 199], []⟩),
  (36, ⟨[0, 6, 7, 8, 9, 10, 14, 15, 16, 17], [6, 7, 10, 178, 199], []⟩),
  (37, ⟨[0, 6, 7, 8, 9, 10, 14, 15, 16, 17, 160], [6, 7, 10, 178, 199], []⟩),
  (38, ⟨[0, 6, 7, 8, 9, 10, 14, 15, 16, 17], [6, 7, 10, 178, 199], []⟩),
  (39, ⟨[0, 6, 7, 8, 9, 10, 14, 15, 16, 17, 167], [6, 7, 10, 178, 199], []⟩),
  (40, ⟨[0, 6, 7, 8, 9, 10, 14, 15, 16, 17, 170], [6, 7, 10, 178, 199], []⟩),
  (41, ⟨[0, 6, 7, 8, 9, 10, 14, 15, 16, 17], [6, 7, 10, 178, 199], []⟩),
  (42, ⟨[0, 6, 7, 8, 9, 10, 14, 15, 16, 17, 181], [6, 7, 10, 178, 199], []⟩),
  (43, ⟨[0, 6, 7, 8, 9, 10, 14, 15, 16, 17], [6, 7, 10, 178, 199], []⟩),
  (44, ⟨[0, 6, 7, 8, 9, 10, 14, 15, 16, 17], [6, 7, 10, 178, 199], []⟩),
  (45, ⟨[0, 6, 7, 8, 10, 15, 16, 18, 19], [6, 7, 10, 19, 199], []⟩),
  (46, ⟨[0, 6, 7, 8, 10, 15, 16, 18, 19, 207], [6, 7, 10, 19, 199], []⟩),
  (47, ⟨[6, 7], [6, 7], [(1, .at 19 0 2), (2, .at 6 0 25)]⟩),
  (48, ⟨[0, 6, 7, 8, 10, 15, 16, 18, 19, 20, 21], [6, 7, 10, 19, 20, 199], []⟩),
  (49, ⟨[0, 6, 7, 8, 10, 15, 16, 18, 19, 20, 21, 216], [6, 7, 10, 19, 20, 199], []⟩),
  (50, ⟨[6, 7], [6, 7], [(4, .ref), (7, .ref), (9, .at 6 0 25)]⟩),
  (51, ⟨[6, 7, 10, 16, 18, 19, 20, 22], [6, 7, 10, 19, 20], []⟩),
  (52, ⟨[6, 7, 10, 16, 18, 19, 20, 22, 233], [6, 7, 10, 19, 20], []⟩),
  (53, ⟨[6, 7], [6, 7], [(1, .at 19 0 2), (2, .at 6 0 25)]⟩),
  (54, ⟨[6, 7, 10], [6, 7, 10], [(2, .at 20 0 20), (4, .ref), (6, .at 10 0 1), (8, .at 10 1 1), (10, .at 10 2 20)]⟩),
  (55, ⟨[6, 7], [6, 7], []⟩)]
theorem c57 : (Tryz.f57.body.bind fun c => compC Tryz.prog 247 [] kp57 c) = some ic57 := by kernel_rfl
theorem e57 {args : List AV} {r : AV} (ha : args.length ≤ 247) (h : VC e0 ic57 (retQ [(6, (some (some 25))), (7, (some (some 2)))] r) ⟨argT 0 args, []⟩) : Fn 57 args r := fn_of Tryz.func57 rfl (by kernel_rfl) c57 ha (by decide) h

def ic85_1 : IC := (.seq (.reg [⟨(some 22), (.mv (.t 4)), none, .any⟩, ⟨(some 23), (.mv (.t 6)), none, .any⟩, ⟨(some 24), (.lit false 21 1 [(.t 23)]), none, .any⟩, ⟨(some 25), (.app 21 1 4 (.t 22) (.t 24)), none, .any⟩, ⟨(some 4), (.mv (.t 25)), none, .any⟩] false [0, 4, 5, 7] [25]) (.reg [⟨(some 26), (.mv (.t 5)), none, .any⟩, ⟨(some 27), (.mv (.t 7)), none, .any⟩, ⟨(some 28), (.bin .add none (.t 26) (.t 27)), none, .any⟩, ⟨(some 5), (.mv (.t 28)), none, .any⟩] false [0, 4, 5] [25]))
def ic85_2 : IC := (.block 1 (.seq (.reg [⟨(some 13), (.mv (.t 0)), none, .any⟩, ⟨(some 14), (.mv (.t 5)), none, .any⟩, ⟨(some 15), (.ss (.t 13) (some (.t 14)) none), none, .any⟩, ⟨(some 16), (.call 86 [((.t 15), none)]), none, .any⟩, ⟨(some 12), (.mv (.t 16)), none, .any⟩, ⟨(some 17), (.ext (.t 12) 0), none, .any⟩, ⟨(some 18), (.ext (.t 12) 1), none, .any⟩, ⟨(some 6), (.mv (.t 17)), none, .any⟩, ⟨(some 7), (.mv (.t 18)), none, .any⟩] false [0, 4, 5, 6, 7] [25]) (.seq (.seq (.reg [⟨(some 19), (.mv (.t 7)), none, .any⟩, ⟨(some 20), (.bin .eql none (.t 19) (.c (.int .i64 0))), none, .any⟩] false [0, 4, 5, 6, 7, 20] [25]) (.cond (.t 20) (.seq (.reg [⟨(some 21), (.mv (.t 5)), none, .any⟩, ⟨(some 2), (.mv (.c .nil)), none, .any⟩, ⟨(some 3), (.mv (.t 21)), none, .any⟩] false [2, 3] [25]) .ret) .skip)) ic85_1)))
def ic85_3 : IC := (.seq (.seq (.reg [⟨(some 8), (.mv (.t 5)), none, .any⟩, ⟨(some 9), (.mv (.t 0)), none, .any⟩, ⟨(some 10), (.len true (.t 9)), none, .any⟩, ⟨(some 11), (.bin .lss none (.t 8) (.t 10)), none, .any⟩] false [0, 4, 5, 11] [25]) (.cond (.t 11) .skip (.exit 0))) ic85_2)
def ic85_4 : IC := (.seq (.reg [⟨(some 29), (.mv (.t 4)), none, .any⟩, ⟨(some 2), (.mv (.t 29)), none, .any⟩, ⟨(some 3), (.mv (.c (.int .i64 (-1)))), none, .any⟩] false [2, 3] [25]) .ret)
def ic85 : IC := (.seq (.reg [⟨(some 2), (.mv (.c .nil)), none, .any⟩, ⟨(some 3), (.mv (.c (.int .i64 0))), none, .any⟩] false [0] []) (.seq (.reg [⟨(some 4), (.mv (.c .nil)), none, .any⟩] false [0, 4] [25]) (.seq (.reg [⟨(some 5), (.mv (.c (.int .i64 0))), none, .any⟩] false [0, 4, 5] [25]) (.seq (.block 0 (.loop ic85_3)) ic85_4))))
def kp85 : List (Nat × Keep) := [(0, ⟨[0], [], []⟩),
  (1, ⟨[0, 4], [25], []⟩),
  (2, ⟨[0, 4, 5], [25], []⟩),
  (3, ⟨[0, 4, 5, 11], [25], []⟩),
  (4, ⟨[0, 4, 5, 6, 7], [25], []⟩),
  (5, ⟨[0, 4, 5, 6, 7, 20], [25], []⟩),
  (6, ⟨[2, 3], [25], []⟩),
  (7, ⟨[0, 4, 5, 7], [25], []⟩),
  (8, ⟨[0, 4, 5], [25], []⟩),
  (9, ⟨[2, 3], [25], []⟩)]
theorem c85 : (Tryz.f85.body.bind fun c => compC Tryz.prog 30 [] kp85 c) = some ic85 := by kernel_rfl
theorem e85 {args : List AV} {r : AV} (ha : args.length ≤ 30) (h : VC e0 ic85 (retQ [(2, none), (3, none)] r) ⟨argT 0 args, []⟩) : Fn 85 args r := fn_of Tryz.func85 rfl (by kernel_rfl) c85 ha (by decide) h

def ic86_1 : IC := (.reg [⟨(some 49), (.mv (.t 6)), none, .any⟩, ⟨(some 50), (.bin .add none (.t 49) (.c (.int .i64 1))), none, .any⟩, ⟨(some 6), (.mv (.t 50)), none, .any⟩] false [0, 4, 5, 6] [])
def ic86_2 : IC := (.seq (.block 2 (.seq (.reg [⟨(some 51), (.mv (.t 4)), none, .any⟩, ⟨(some 52), (.bin .mul none (.t 51) (.c (.int .i64 64))), none, .any⟩, ⟨(some 53), (.mv (.t 0)), none, .any⟩, ⟨(some 54), (.mv (.t 6)), none, .any⟩, ⟨(some 55), (.ix (.t 53) (.t 54)), none, .any⟩, ⟨(some 56), (.conv .i64 (.t 55)), none, .any⟩, ⟨(some 57), (.bin .add none (.t 52) (.t 56)), none, .any⟩, ⟨(some 58), (.bin .sub none (.t 57) (.c (.int .i64 128))), none, .any⟩, ⟨(some 4), (.mv (.t 58)), none, .any⟩] false [0, 4, 5, 6] []) (.seq (.reg [⟨(some 59), (.mv (.t 0)), none, .any⟩, ⟨(some 60), (.mv (.t 6)), none, .any⟩, ⟨(some 61), (.ix (.t 59) (.t 60)), none, .any⟩, ⟨(some 62), (.bin .lss none (.t 61) (.c (.int .u8 128))), none, .any⟩, ⟨(some 63), (.mv (.t 62)), none, .any⟩, ⟨(some 64), (.mv (.t 0)), (some (63, false)), .any⟩, ⟨(some 65), (.mv (.t 6)), (some (63, false)), .any⟩, ⟨(some 66), (.ix (.t 64) (.t 65)), (some (63, false)), .any⟩, ⟨(some 67), (.bin .gtr none (.t 66) (.c (.int .u8 191))), (some (63, false)), .any⟩, ⟨(some 68), (.pick (.t 63) (.c (.bool true)) (.t 67)), none, .any⟩] false [0, 4, 5, 6, 68] []) (.cond (.t 68) (.seq (.reg [⟨(some 2), (.mv (.c (.int .i32 0))), none, .any⟩, ⟨(some 3), (.mv (.c (.int .i64 0))), none, .any⟩] false [2, 3] []) .ret) .skip)))) ic86_1)
def ic86_3 : IC := (.seq (.seq (.reg [⟨(some 46), (.mv (.t 6)), none, .any⟩, ⟨(some 47), (.mv (.t 5)), none, .any⟩, ⟨(some 48), (.bin .lss none (.t 46) (.t 47)), none, .any⟩] false [0, 4, 5, 6, 48] []) (.cond (.t 48) .skip (.exit 1))) ic86_2)
def ic86_4 : IC := (.seq (.reg [⟨(some 83), (.mv (.t 4)), none, .any⟩, ⟨(some 84), (.conv .i32 (.t 83)), none, .any⟩, ⟨(some 85), (.mv (.t 5)), none, .any⟩, ⟨(some 2), (.mv (.t 84)), none, .any⟩, ⟨(some 3), (.mv (.t 85)), none, .any⟩] false [2, 3] []) .ret)
def ic86_5 : IC := (.seq (.seq (.reg [⟨(some 69), (.mv (.t 4)), none, .any⟩, ⟨(some 70), (.conv .i32 (.t 69)), none, .any⟩, ⟨(some 71), (.call 113 [((.t 70), none)]), none, .any⟩, ⟨(some 72), (.not (.t 71)), none, .any⟩, ⟨(some 73), (.mv (.t 72)), none, .any⟩, ⟨(some 74), (.mv (.t 4)), (some (73, false)), .any⟩, ⟨(some 75), (.conv .i32 (.t 74)), (some (73, false)), .any⟩, ⟨(some 76), (.call 88 [((.t 75), none)]), (some (73, false)), .any⟩, ⟨(some 77), (.b2s (.t 76)), (some (73, false)), .any⟩, ⟨(some 78), (.mv (.t 0)), (some (73, false)), .any⟩, ⟨(some 79), (.mv (.t 5)), (some (73, false)), .any⟩, ⟨(some 80), (.ss (.t 78) none (some (.t 79))), (some (73, false)), .any⟩, ⟨(some 81), (.bin .neq none (.t 77) (.t 80)), (some (73, false)), .any⟩, ⟨(some 82), (.pick (.t 73) (.c (.bool true)) (.t 81)), none, .any⟩] true [4, 5, 82] []) (.cond (.t 82) (.seq (.reg [⟨(some 2), (.mv (.c (.int .i32 0))), none, .any⟩, ⟨(some 3), (.mv (.c (.int .i64 0))), none, .any⟩] false [2, 3] []) .ret) .skip)) ic86_4)
def ic86_6 : IC := (.seq (.seq (.reg [⟨(some 6), (.mv (.c (.int .i64 1))), none, .any⟩] false [0, 4, 5, 6] []) (.block 1 (.loop ic86_3))) ic86_5)
def ic86_7 : IC := (.seq (.seq (.reg [⟨(some 42), (.mv (.t 0)), none, .any⟩, ⟨(some 43), (.len true (.t 42)), none, .any⟩, ⟨(some 44), (.mv (.t 5)), none, .any⟩, ⟨(some 45), (.bin .lss none (.t 43) (.t 44)), none, .any⟩] false [0, 4, 5, 45] []) (.cond (.t 45) (.seq (.reg [⟨(some 2), (.mv (.c (.int .i32 0))), none, .any⟩, ⟨(some 3), (.mv (.c (.int .i64 0))), none, .any⟩] false [2, 3] []) .ret) .skip)) ic86_6)
def ic86_8 : IC := (.seq (.reg [⟨(some 9), (.mv (.t 0)), none, .any⟩, ⟨(some 10), (.ix (.t 9) (.c (.int .i64 0))), none, .any⟩, ⟨(some 11), (.conv .i64 (.t 10)), none, .any⟩, ⟨(some 4), (.mv (.t 11)), none, .any⟩, ⟨(some 5), (.mv (.c (.int .i64 1))), none, .any⟩] false [0, 4, 5] []) (.seq (.block 0 (.seq (.reg [⟨(some 13), (.mv (.t 4)), none, .any⟩, ⟨(some 14), (.bin .lss none (.t 13) (.c (.int .i64 128))), none, .any⟩, ⟨(some 12), (.mv (.t 14)), none, .any⟩] false [0, 4, 5, 12] []) (.cond (.t 12) .skip (.seq (.reg [⟨(some 16), (.mv (.t 4)), none, .any⟩, ⟨(some 17), (.bin .geq none (.t 16) (.c (.int .i64 192))), none, .any⟩, ⟨(some 18), (.mv (.t 17)), none, .any⟩, ⟨(some 19), (.mv (.t 4)), (some (18, true)), .any⟩, ⟨(some 20), (.bin .lss none (.t 19) (.c (.int .i64 224))), (some (18, true)), .any⟩, ⟨(some 21), (.pick (.t 18) (.t 20) (.c (.bool false))), none, .any⟩, ⟨(some 15), (.mv (.t 21)), none, .any⟩] false [0, 4, 15] []) (.cond (.t 15) (.reg [⟨(some 22), (.mv (.t 4)), none, .any⟩, ⟨(some 23), (.bin .sub none (.t 22) (.c (.int .i64 192))), none, .any⟩, ⟨(some 4), (.mv (.t 23)), none, .any⟩, ⟨(some 5), (.mv (.c (.int .i64 2))), none, .any⟩] false [0, 4, 5] []) (.seq (.reg [⟨(some 25), (.mv (.t 4)), none, .any⟩, ⟨(some 26), (.bin .geq none (.t 25) (.c (.int .i64 224))), none, .any⟩, ⟨(some 27), (.mv (.t 26)), none, .any⟩, ⟨(some 28), (.mv (.t 4)), (some (27, true)), .any⟩, ⟨(some 29), (.bin .lss none (.t 28) (.c (.int .i64 240))), (some (27, true)), .any⟩, ⟨(some 30), (.pick (.t 27) (.t 29) (.c (.bool false))), none, .any⟩, ⟨(some 24), (.mv (.t 30)), none, .any⟩] false [0, 4, 24] []) (.cond (.t 24) (.reg [⟨(some 31), (.mv (.t 4)), none, .any⟩, ⟨(some 32), (.bin .sub none (.t 31) (.c (.int .i64 224))), none, .any⟩, ⟨(some 4), (.mv (.t 32)), none, .any⟩, ⟨(some 5), (.mv (.c (.int .i64 3))), none, .any⟩] false [0, 4, 5] []) (.seq (.reg [⟨(some 34), (.mv (.t 4)), none, .any⟩, ⟨(some 35), (.bin .geq none (.t 34) (.c (.int .i64 240))), none, .any⟩, ⟨(some 36), (.mv (.t 35)), none, .any⟩, ⟨(some 37), (.mv (.t 4)), (some (36, true)), .any⟩, ⟨(some 38), (.bin .lss none (.t 37) (.c (.int .i64 248))), (some (36, true)), .any⟩, ⟨(some 39), (.pick (.t 36) (.t 38) (.c (.bool false))), none, .any⟩, ⟨(some 33), (.mv (.t 39)), none, .any⟩] false [0, 4, 33] []) (.cond (.t 33) (.reg [⟨(some 40), (.mv (.t 4)), none, .any⟩, ⟨(some 41), (.bin .sub none (.t 40) (.c (.int .i64 240))), none, .any⟩, ⟨(some 4), (.mv (.t 41)), none, .any⟩, ⟨(some 5), (.mv (.c (.int .i64 4))), none, .any⟩] false [0, 4, 5] []) (.seq (.reg [⟨(some 2), (.mv (.c (.int .i32 0))), none, .any⟩, ⟨(some 3), (.mv (.c (.int .i64 0))), none, .any⟩] false [2, 3] []) .ret)))))))))) ic86_7))
def ic86 : IC := (.seq (.reg [⟨(some 2), (.mv (.c (.int .i32 0))), none, .any⟩, ⟨(some 3), (.mv (.c (.int .i64 0))), none, .any⟩] false [0] []) (.seq (.seq (.reg [⟨(some 7), (.mv (.t 0)), none, .any⟩, ⟨(some 8), (.bin .eql none (.t 7) (.c (.str []))), none, .any⟩] false [0, 8] []) (.cond (.t 8) (.seq (.reg [⟨(some 2), (.mv (.c (.int .i32 0))), none, .any⟩, ⟨(some 3), (.mv (.c (.int .i64 0))), none, .any⟩] false [2, 3] []) .ret) .skip)) ic86_8))
def kp86 : List (Nat × Keep) := [(0, ⟨[0], [], []⟩),
  (1, ⟨[0, 8], [], []⟩),
  (2, ⟨[2, 3], [], []⟩),
  (3, ⟨[0, 4, 5], [], []⟩),
  (4, ⟨[2, 3], [], []⟩),
  (5, ⟨[0, 4, 5, 12], [], []⟩),
  (6, ⟨[0, 4, 15], [], []⟩),
  (7, ⟨[0, 4, 5], [], []⟩),
  (8, ⟨[0, 4, 24], [], []⟩),
  (9, ⟨[0, 4, 5], [], []⟩),
  (10, ⟨[0, 4, 33], [], []⟩),
  (11, ⟨[0, 4, 5], [], []⟩),
  (12, ⟨[0, 4, 5, 45], [], []⟩),
  (13, ⟨[2, 3], [], []⟩),
  (14, ⟨[0, 4, 5, 6], [], []⟩),
  (15, ⟨[0, 4, 5, 6, 48], [], []⟩),
  (16, ⟨[0, 4, 5, 6], [], []⟩),
  (17, ⟨[0, 4, 5, 6], [], []⟩),
  (18, ⟨[0, 4, 5, 6, 68], [], []⟩),
  (19, ⟨[2, 3], [], []⟩),
  (20, ⟨[4, 5, 82], [], []⟩),
  (21, ⟨[2, 3], [], []⟩),
  (22, ⟨[2, 3], [], []⟩)]
theorem c86 : (Tryz.f86.body.bind fun c => compC Tryz.prog 86 [] kp86 c) = some ic86 := by kernel_rfl
theorem e86 {args : List AV} {r : AV} (ha : args.length ≤ 86) (h : VC e0 ic86 (retQ [(2, none), (3, none)] r) ⟨argT 0 args, []⟩) : Fn 86 args r := fn_of Tryz.func86 rfl (by kernel_rfl) c86 ha (by decide) h


def ic87 : IC := (.seq (.reg [⟨(some 1), (.box 73 (.t 0)), none, .any⟩, ⟨(some 2), (.mv (.c (.bool false))), none, .any⟩] false [1] [1]) (.seq (.reg [⟨(some 3), (.fa 3 none (.t 1)), none, .any⟩, ⟨(some 4), (.ld none (.t 3)), none, .any⟩, ⟨(some 5), (.not (.t 4)), none, .any⟩, ⟨(some 6), (.mv (.t 5)), none, .any⟩, ⟨(some 7), (.fa 0 (some 3) (.t 1)), (some (6, true)), .any⟩, ⟨(some 8), (.fa 1 none (.t 7)), (some (6, true)), .any⟩, ⟨(some 9), (.ld none (.t 8)), (some (6, true)), .any⟩, ⟨(some 10), (.not (.t 9)), (some (6, true)), .any⟩, ⟨(some 11), (.pick (.t 6) (.t 10) (.c (.bool false))), none, .any⟩, ⟨(some 12), (.mv (.t 11)), none, .any⟩, ⟨(some 13), (.fa 0 (some 3) (.t 1)), (some (12, true)), .any⟩, ⟨(some 14), (.fa 0 none (.t 13)), (some (12, true)), .any⟩, ⟨(some 15), (.ld none (.t 14)), (some (12, true)), .any⟩, ⟨(some 16), (.call 114 [((.t 15), none)]), (some (12, true)), .any⟩, ⟨(some 17), (.pick (.t 12) (.t 16) (.c (.bool false))), none, .any⟩, ⟨(some 18), (.mv (.t 17)), none, .any⟩, ⟨(some 19), (.fa 0 (some 3) (.t 1)), (some (18, true)), .any⟩, ⟨(some 20), (.fa 0 none (.t 19)), (some (18, true)), .any⟩, ⟨(some 21), (.ld none (.t 20)), (some (18, true)), .any⟩, ⟨(some 22), (.bin .neq none (.t 21) (.c (.int .i32 59))), (some (18, true)), .any⟩, ⟨(some 23), (.pick (.t 18) (.t 22) (.c (.bool false))), none, .any⟩, ⟨(some 24), (.mv (.t 23)), none, .any⟩, ⟨(some 25), (.fa 0 (some 3) (.t 1)), (some (24, true)), .any⟩, ⟨(some 26), (.fa 0 none (.t 25)), (some (24, true)), .any⟩, ⟨(some 27), (.ld none (.t 26)), (some (24, true)), .any⟩, ⟨(some 28), (.bin .neq none (.t 27) (.c (.int .i32 42))), (some (24, true)), .any⟩, ⟨(some 29), (.pick (.t 24) (.t 28) (.c (.bool false))), none, .any⟩, ⟨(some 2), (.mv (.t 29)), none, .any⟩] false [2] []) .ret))
def kp87 : List (Nat × Keep) := [(0, ⟨[1], [1], []⟩),
  (1, ⟨[2], [], []⟩)]
theorem c87 : (Tryz.f87.body.bind fun c => compC Tryz.prog 30 [] kp87 c) = some ic87 := by kernel_rfl
theorem e87 {args : List AV} {r : AV} (ha : args.length ≤ 30) (h : VC e0 ic87 (retQ [(2, none)] r) ⟨argT 0 args, []⟩) : Fn 87 args r := fn_of Tryz.func87 rfl (by kernel_rfl) c87 ha (by decide) h

def ic88_1 : IC := (.seq (.reg [⟨(some 41), (.mv (.t 3)), none, .any⟩, ⟨(some 42), (.bin .quo none (.t 41) (.c (.int .i64 262144))), none, .any⟩, ⟨(some 43), (.bin .add none (.c (.int .i64 240)) (.t 42)), none, .any⟩, ⟨(some 44), (.conv .u8 (.t 43)), none, .any⟩, ⟨(some 45), (.mv (.t 3)), none, .any⟩, ⟨(some 46), (.bin .quo none (.t 45) (.c (.int .i64 4096))), none, .any⟩, ⟨(some 47), (.bin .rem none (.t 46) (.c (.int .i64 64))), none, .any⟩, ⟨(some 48), (.bin .add none (.c (.int .i64 128)) (.t 47)), none, .any⟩, ⟨(some 49), (.conv .u8 (.t 48)), none, .any⟩, ⟨(some 50), (.mv (.t 3)), none, .any⟩, ⟨(some 51), (.bin .quo none (.t 50) (.c (.int .i64 64))), none, .any⟩, ⟨(some 52), (.bin .rem none (.t 51) (.c (.int .i64 64))), none, .any⟩, ⟨(some 53), (.bin .add none (.c (.int .i64 128)) (.t 52)), none, .any⟩, ⟨(some 54), (.conv .u8 (.t 53)), none, .any⟩, ⟨(some 55), (.mv (.t 3)), none, .any⟩, ⟨(some 56), (.bin .rem none (.t 55) (.c (.int .i64 64))), none, .any⟩, ⟨(some 57), (.bin .add none (.c (.int .i64 128)) (.t 56)), none, .any⟩, ⟨(some 58), (.conv .u8 (.t 57)), none, .any⟩, ⟨(some 59), (.lit false 5 1 [(.t 44), (.t 49), (.t 54), (.t 58)]), none, .any⟩, ⟨(some 2), (.mv (.t 59)), none, .any⟩] false [2] [11, 23, 40, 59]) .ret)
def ic88 : IC := (.seq (.reg [⟨(some 2), (.mv (.c .nil)), none, .any⟩] false [0] []) (.seq (.reg [⟨(some 4), (.mv (.t 0)), none, .any⟩, ⟨(some 5), (.conv .i64 (.t 4)), none, .any⟩, ⟨(some 3), (.mv (.t 5)), none, .any⟩] false [3] []) (.seq (.block 0 (.seq (.reg [⟨(some 7), (.mv (.t 3)), none, .any⟩, ⟨(some 8), (.bin .lss none (.t 7) (.c (.int .i64 128))), none, .any⟩, ⟨(some 6), (.mv (.t 8)), none, .any⟩] false [3, 6] []) (.cond (.t 6) (.seq (.reg [⟨(some 9), (.mv (.t 3)), none, .any⟩, ⟨(some 10), (.conv .u8 (.t 9)), none, .any⟩, ⟨(some 11), (.lit false 5 1 [(.t 10)]), none, .any⟩, ⟨(some 2), (.mv (.t 11)), none, .any⟩] false [2] [11, 23, 40, 59]) .ret) (.seq (.reg [⟨(some 13), (.mv (.t 3)), none, .any⟩, ⟨(some 14), (.bin .lss none (.t 13) (.c (.int .i64 2048))), none, .any⟩, ⟨(some 12), (.mv (.t 14)), none, .any⟩] false [3, 12] []) (.cond (.t 12) (.seq (.reg [⟨(some 15), (.mv (.t 3)), none, .any⟩, ⟨(some 16), (.bin .quo none (.t 15) (.c (.int .i64 64))), none, .any⟩, ⟨(some 17), (.bin .add none (.c (.int .i64 192)) (.t 16)), none, .any⟩, ⟨(some 18), (.conv .u8 (.t 17)), none, .any⟩, ⟨(some 19), (.mv (.t 3)), none, .any⟩, ⟨(some 20), (.bin .rem none (.t 19) (.c (.int .i64 64))), none, .any⟩, ⟨(some 21), (.bin .add none (.c (.int .i64 128)) (.t 20)), none, .any⟩, ⟨(some 22), (.conv .u8 (.t 21)), none, .any⟩, ⟨(some 23), (.lit false 5 1 [(.t 18), (.t 22)]), none, .any⟩, ⟨(some 2), (.mv (.t 23)), none, .any⟩] false [2] [11, 23, 40, 59]) .ret) (.seq (.reg [⟨(some 25), (.mv (.t 3)), none, .any⟩, ⟨(some 26), (.bin .lss none (.t 25) (.c (.int .i64 65536))), none, .any⟩, ⟨(some 24), (.mv (.t 26)), none, .any⟩] false [3, 24] []) (.cond (.t 24) (.seq (.reg [⟨(some 27), (.mv (.t 3)), none, .any⟩, ⟨(some 28), (.bin .quo none (.t 27) (.c (.int .i64 4096))), none, .any⟩, ⟨(some 29), (.bin .add none (.c (.int .i64 224)) (.t 28)), none, .any⟩, ⟨(some 30), (.conv .u8 (.t 29)), none, .any⟩, ⟨(some 31), (.mv (.t 3)), none, .any⟩, ⟨(some 32), (.bin .quo none (.t 31) (.c (.int .i64 64))), none, .any⟩, ⟨(some 33), (.bin .rem none (.t 32) (.c (.int .i64 64))), none, .any⟩, ⟨(some 34), (.bin .add none (.c (.int .i64 128)) (.t 33)), none, .any⟩, ⟨(some 35), (.conv .u8 (.t 34)), none, .any⟩, ⟨(some 36), (.mv (.t 3)), none, .any⟩, ⟨(some 37), (.bin .rem none (.t 36) (.c (.int .i64 64))), none, .any⟩, ⟨(some 38), (.bin .add none (.c (.int .i64 128)) (.t 37)), none, .any⟩, ⟨(some 39), (.conv .u8 (.t 38)), none, .any⟩, ⟨(some 40), (.lit false 5 1 [(.t 30), (.t 35), (.t 39)]), none, .any⟩, ⟨(some 2), (.mv (.t 40)), none, .any⟩] false [2] [11, 23, 40, 59]) .ret) .skip))))))) ic88_1)))
def kp88 : List (Nat × Keep) := [(0, ⟨[0], [], []⟩),
  (1, ⟨[3], [], []⟩),
  (2, ⟨[3, 6], [], []⟩),
  (3, ⟨[2], [11, 23, 40, 59], []⟩),
  (4, ⟨[3, 12], [], []⟩),
  (5, ⟨[2], [11, 23, 40, 59], []⟩),
  (6, ⟨[3, 24], [], []⟩),
  (7, ⟨[2], [11, 23, 40, 59], []⟩),
  (8, ⟨[2], [11, 23, 40, 59], []⟩)]
theorem c88 : (Tryz.f88.body.bind fun c => compC Tryz.prog 60 [] kp88 c) = some ic88 := by kernel_rfl
theorem e88 {args : List AV} {r : AV} (ha : args.length ≤ 60) (h : VC e0 ic88 (retQ [(2, none)] r) ⟨argT 0 args, []⟩) : Fn 88 args r := fn_of Tryz.func88 rfl (by kernel_rfl) c88 ha (by decide) h

def ic89_1 : IC := (.seq (.reg [⟨(some 35), (.fa 1 none (.t 6)), none, .any⟩, ⟨(some 36), (.ld none (.t 35)), none, .any⟩, ⟨(some 37), (.call 115 [((.t 36), none)]), none, .any⟩, ⟨(some 7), (.mv (.t 37)), none, .any⟩] false [0, 3, 4, 5, 6, 7] [3, 6, 45]) (.seq (.reg [⟨(some 38), (.mv (.t 7)), none, .any⟩, ⟨(some 39), (.bin .gtr none (.t 38) (.c (.int .i64 0))), none, .any⟩] false [0, 3, 4, 5, 6, 7, 39] [3, 6, 45]) (.cond (.t 39) (.reg [⟨(some 40), (.mv (.t 7)), none, .any⟩, ⟨(some 41), (.build [(.int .i64 0), (.int .i32 0)] [(0, (1, (.t 40)))]), none, .any⟩, ⟨none, (.st 2 (.t 6) (.t 41)), none, .any⟩] false [0, 3, 4, 5, 6] [3, 6, 45]) .skip)))
def ic89_2 : IC := (.reg [⟨(some 42), (.mv (.t 4)), none, .any⟩, ⟨(some 43), (.ld (some 2) (.t 6)), none, .any⟩, ⟨(some 44), (.lit false 80 2 [(.t 43)]), none, .any⟩, ⟨(some 45), (.app 80 2 16 (.t 42) (.t 44)), none, .any⟩, ⟨(some 4), (.mv (.t 45)), none, .any⟩] false [0, 3, 4, 5] [3, 45])
def ic89_3 : IC := (.reg [⟨(some 12), (.mv (.t 5)), none, .any⟩, ⟨(some 13), (.bin .add none (.t 12) (.c (.int .i64 1))), none, .any⟩, ⟨(some 5), (.mv (.t 13)), none, .any⟩] false [0, 3, 4, 5] [3, 45])
def ic89_4 : IC := (.seq (.block 1 (.seq (.reg [⟨(some 14), (.mv (.t 0)), none, .any⟩, ⟨(some 15), (.mv (.t 5)), none, .any⟩, ⟨(some 16), (.ia 3 (.t 14) (.t 15)), none, .any⟩, ⟨(some 17), (.fa 0 none (.t 16)), none, .any⟩, ⟨(some 18), (.ld none (.t 17)), none, .any⟩, ⟨(some 19), (.build [(.int .i64 0), (.int .i32 0)] [(0, (1, (.c (.int .i64 1)))), (1, (1, (.t 18)))]), none, .any⟩, ⟨(some 6), (.alloc 80 [(.int .i64 0), (.int .i32 0)]), none, .any⟩, ⟨none, (.st 2 (.t 6) (.t 19)), none, .any⟩] false [0, 3, 4, 5, 6] [3, 6, 45]) (.seq (.seq (.reg [⟨(some 20), (.mv (.t 0)), none, .any⟩, ⟨(some 21), (.mv (.t 5)), none, .any⟩, ⟨(some 22), (.ia 3 (.t 20) (.t 21)), none, .any⟩, ⟨(some 23), (.fa 1 none (.t 22)), none, .any⟩, ⟨(some 24), (.ld none (.t 23)), none, .any⟩, ⟨(some 25), (.not (.t 24)), none, .any⟩] false [0, 3, 4, 5, 6, 25] [3, 6, 45]) (.cond (.t 25) (.seq (.seq (.reg [⟨(some 26), (.fa 1 none (.t 6)), none, .any⟩, ⟨(some 27), (.ld none (.t 26)), none, .any⟩, ⟨(some 28), (.call 114 [((.t 27), none)]), none, .any⟩] false [0, 3, 4, 5, 6, 28] [3, 6, 45]) (.cond (.t 28) (.seq (.reg [⟨(some 29), (.mv (.t 0)), none, .any⟩, ⟨(some 30), (.mv (.t 5)), none, .any⟩, ⟨(some 31), (.ia 3 (.t 29) (.t 30)), none, .any⟩, ⟨(some 32), (.fa 2 none (.t 31)), none, .any⟩, ⟨(some 33), (.ld none (.t 32)), none, .any⟩, ⟨(some 34), (.build [(.int .i64 0), (.int .i64 0)] [(0, (1, (.c (.int .i64 4)))), (1, (1, (.t 33)))]), none, .any⟩, ⟨(some 2), (.mv (.c .nil)), none, .any⟩, ⟨none, (.st 2 (.t 3) (.t 34)), none, .any⟩] true [2, 3] [3, 45]) .ret) .skip)) ic89_1) .skip)) ic89_2))) ic89_3)
def ic89_5 : IC := (.seq (.seq (.reg [⟨(some 8), (.mv (.t 5)), none, .any⟩, ⟨(some 9), (.mv (.t 0)), none, .any⟩, ⟨(some 10), (.len false (.t 9)), none, .any⟩, ⟨(some 11), (.bin .lss none (.t 8) (.t 10)), none, .any⟩] false [0, 3, 4, 5, 11] [3, 45]) (.cond (.t 11) .skip (.exit 0))) ic89_4)
def ic89_6 : IC := (.seq (.reg [⟨(some 50), (.mv (.t 4)), none, .any⟩, ⟨(some 51), (.build [(.int .i64 0), (.int .i64 0)] []), none, .any⟩, ⟨(some 2), (.mv (.t 50)), none, .any⟩, ⟨none, (.st 2 (.t 3) (.t 51)), none, .any⟩] false [2, 3] [3, 45]) .ret)
def ic89_7 : IC := (.seq (.seq (.reg [⟨(some 46), (.mv (.t 4)), none, .any⟩, ⟨(some 47), (.len false (.t 46)), none, .any⟩, ⟨(some 48), (.bin .gtr none (.t 47) (.c (.int .i64 40))), none, .any⟩] false [3, 4, 48] [3, 45]) (.cond (.t 48) (.seq (.reg [⟨(some 49), (.build [(.int .i64 0), (.int .i64 0)] [(0, (1, (.c (.int .i64 8))))]), none, .any⟩, ⟨(some 2), (.mv (.c .nil)), none, .any⟩, ⟨none, (.st 2 (.t 3) (.t 49)), none, .any⟩] false [2, 3] [3, 45]) .ret) .skip)) ic89_6)
def ic89 : IC := (.seq (.reg [⟨(some 2), (.mv (.c .nil)), none, .any⟩, ⟨(some 3), (.alloc 52 [(.int .i64 0), (.int .i64 0)]), none, .any⟩] false [0, 3] [3]) (.seq (.reg [⟨(some 4), (.mv (.c .nil)), none, .any⟩] false [0, 3, 4] [3, 45]) (.seq (.seq (.reg [⟨(some 5), (.mv (.c (.int .i64 0))), none, .any⟩] false [0, 3, 4, 5] [3, 45]) (.block 0 (.loop ic89_5))) ic89_7)))
def kp89 : List (Nat × Keep) := [(0, ⟨[0, 3], [3], []⟩),
  (1, ⟨[0, 3, 4], [3, 45], []⟩),
  (2, ⟨[0, 3, 4, 5], [3, 45], []⟩),
  (3, ⟨[0, 3, 4, 5, 11], [3, 45], []⟩),
  (4, ⟨[0, 3, 4, 5], [3, 45], []⟩),
  (5, ⟨[0, 3, 4, 5, 6], [3, 6, 45], []⟩),
  (6, ⟨[0, 3, 4, 5, 6, 25], [3, 6, 45], []⟩),
  (7, ⟨[0, 3, 4, 5, 6, 28], [3, 6, 45], []⟩),
  (8, ⟨[2, 3], [3, 45], []⟩),
  (9, ⟨[0, 3, 4, 5, 6, 7], [3, 6, 45], []⟩),
  (10, ⟨[0, 3, 4, 5, 6, 7, 39], [3, 6, 45], []⟩),
  (11, ⟨[0, 3, 4, 5, 6], [3, 6, 45], []⟩),
  (12, ⟨[0, 3, 4, 5], [3, 45], []⟩),
  (13, ⟨[3, 4, 48], [3, 45], []⟩),
  (14, ⟨[2, 3], [3, 45], []⟩),
  (15, ⟨[2, 3], [3, 45], []⟩)]
theorem c89 : (Tryz.f89.body.bind fun c => compC Tryz.prog 52 [] kp89 c) = some ic89 := by kernel_rfl
theorem e89 {args : List AV} {r : AV} (ha : args.length ≤ 52) (h : VC e0 ic89 (retQ [(2, none), (3, (some (some 2)))] r) ⟨argT 0 args, []⟩) : Fn 89 args r := fn_of Tryz.func89 rfl (by kernel_rfl) c89 ha (by decide) h

def ic90_1 : IC := (.reg [⟨(some 54), (.mv (.t 6)), none, .any⟩, ⟨(some 55), (.len true (.t 54)), none, .any⟩, ⟨(some 56), (.fa 14 none (.t 4)), none, .any⟩, ⟨none, (.st 1 (.t 56) (.c (.bool true))), none, .any⟩, ⟨(some 57), (.fa 15 none (.t 4)), none, .any⟩, ⟨none, (.st 1 (.t 57) (.t 55)), none, .any⟩] false [2, 4, 5, 7] [2, 4])
def ic90_2 : IC := (.seq (.seq (.reg [⟨(some 50), (.mv (.t 6)), none, .any⟩, ⟨(some 51), (.len true (.t 50)), none, .any⟩, ⟨(some 52), (.bin .gtr none (.t 51) (.c (.int .i64 9))), none, .any⟩] false [2, 4, 5, 6, 7, 52] [2, 4]) (.cond (.t 52) (.seq (.reg [⟨(some 53), (.build [(.sl 2 []), (.sl 2 []), (.bool false), (.sl 2 []), (.sl 2 []), (.int .i64 0), (.int .i64 0), (.int .i64 0), (.int .i64 0), (.int .i64 0), (.int .i64 0), (.int .i64 0), (.int .i64 0), (.str []), (.bool false), (.int .i64 0), (.bool false), (.int .i64 0), (.int .i32 0), (.int .i64 0)] []), none, .any⟩, ⟨none, (.st 20 (.t 2) (.t 53)), none, .any⟩, ⟨(some 3), (.mv (.c (.int .i64 8))), none, .any⟩] false [2, 3] [2]) .ret) .skip)) ic90_1)
def ic90_3 : IC := (.seq (.seq (.reg [⟨(some 42), (.mv (.t 6)), none, .any⟩, ⟨(some 43), (.bin .eql none (.t 42) (.c (.str []))), none, .any⟩, ⟨(some 44), (.mv (.t 43)), none, .any⟩, ⟨(some 45), (.mv (.t 6)), (some (44, false)), .any⟩, ⟨(some 46), (.call 117 [((.t 45), none)]), (some (44, false)), .any⟩, ⟨(some 47), (.bin .neq none (.t 46) (.c (.str []))), (some (44, false)), .any⟩, ⟨(some 48), (.pick (.t 44) (.c (.bool true)) (.t 47)), none, .any⟩] false [2, 4, 5, 6, 7, 48] [2, 4]) (.cond (.t 48) (.seq (.reg [⟨(some 49), (.build [(.sl 2 []), (.sl 2 []), (.bool false), (.sl 2 []), (.sl 2 []), (.int .i64 0), (.int .i64 0), (.int .i64 0), (.int .i64 0), (.int .i64 0), (.int .i64 0), (.int .i64 0), (.int .i64 0), (.str []), (.bool false), (.int .i64 0), (.bool false), (.int .i64 0), (.int .i32 0), (.int .i64 0)] []), none, .any⟩, ⟨none, (.st 20 (.t 2) (.t 49)), none, .any⟩, ⟨(some 3), (.mv (.c (.int .i64 4))), none, .any⟩] false [2, 3] [2]) .ret) .skip)) ic90_2)
def ic90_4 : IC := (.reg [⟨(some 62), (.mv (.t 8)), none, .any⟩, ⟨(some 63), (.bin .add none (.t 62) (.c (.int .i64 1))), none, .any⟩, ⟨(some 8), (.mv (.t 63)), none, .any⟩] false [2, 4, 5, 7, 8] [2, 4])
def ic90_5 : IC := (.seq (.block 1 (.seq (.reg [⟨(some 64), (.mv (.t 5)), none, .any⟩, ⟨(some 65), (.mv (.t 8)), none, .any⟩, ⟨(some 66), (.ix (.t 64) (.t 65)), none, .any⟩, ⟨(some 9), (.mv (.t 66)), none, .any⟩] false [2, 4, 5, 7, 8, 9] [2, 4]) (.seq (.reg [⟨(some 67), (.mv (.t 9)), none, .any⟩, ⟨(some 68), (.bin .neq none (.t 67) (.c (.int .u8 35))), none, .any⟩, ⟨(some 69), (.mv (.t 68)), none, .any⟩, ⟨(some 70), (.mv (.t 9)), (some (69, true)), .any⟩, ⟨(some 71), (.bin .neq none (.t 70) (.c (.int .u8 64))), (some (69, true)), .any⟩, ⟨(some 72), (.pick (.t 69) (.t 71) (.c (.bool false))), none, .any⟩, ⟨(some 73), (.mv (.t 72)), none, .any⟩, ⟨(some 74), (.mv (.t 9)), (some (73, true)), .any⟩, ⟨(some 75), (.bin .neq none (.t 74) (.c (.int .u8 44))), (some (73, true)), .any⟩, ⟨(some 76), (.pick (.t 73) (.t 75) (.c (.bool false))), none, .any⟩, ⟨(some 77), (.mv (.t 76)), none, .any⟩, ⟨(some 78), (.mv (.t 9)), (some (77, true)), .any⟩, ⟨(some 79), (.bin .neq none (.t 78) (.c (.int .u8 46))), (some (77, true)), .any⟩, ⟨(some 80), (.pick (.t 77) (.t 79) (.c (.bool false))), none, .any⟩, ⟨(some 81), (.mv (.t 80)), none, .any⟩, ⟨(some 82), (.mv (.t 9)), (some (81, true)), .any⟩, ⟨(some 83), (.bin .lss none (.t 82) (.c (.int .u8 48))), (some (81, true)), .any⟩, ⟨(some 84), (.mv (.t 83)), (some (81, true)), .any⟩, ⟨(some 85), (.mv (.t 9)), (some (84, false)), .any⟩, ⟨(some 86), (.bin .gtr none (.t 85) (.c (.int .u8 57))), (some (84, false)), .any⟩, ⟨(some 87), (.pick (.t 84) (.c (.bool true)) (.t 86)), (some (81, true)), .any⟩, ⟨(some 88), (.pick (.t 81) (.t 87) (.c (.bool false))), none, .any⟩] false [2, 4, 5, 7, 8, 88] [2, 4]) (.cond (.t 88) (.seq (.reg [⟨(some 89), (.build [(.sl 2 []), (.sl 2 []), (.bool false), (.sl 2 []), (.sl 2 []), (.int .i64 0), (.int .i64 0), (.int .i64 0), (.int .i64 0), (.int .i64 0), (.int .i64 0), (.int .i64 0), (.int .i64 0), (.str []), (.bool false), (.int .i64 0), (.bool false), (.int .i64 0), (.int .i32 0), (.int .i64 0)] []), none, .any⟩, ⟨none, (.st 20 (.t 2) (.t 89)), none, .any⟩, ⟨(some 3), (.mv (.c (.int .i64 4))), none, .any⟩] false [2, 3] [2]) .ret) .skip)))) ic90_4)
def ic90_6 : IC := (.seq (.seq (.reg [⟨(some 58), (.mv (.t 8)), none, .any⟩, ⟨(some 59), (.mv (.t 5)), none, .any⟩, ⟨(some 60), (.len true (.t 59)), none, .any⟩, ⟨(some 61), (.bin .lss none (.t 58) (.t 60)), none, .any⟩] false [2, 4, 5, 7, 8, 61] [2, 4]) (.cond (.t 61) .skip (.exit 0))) ic90_5)
def ic90_7 : IC := (.seq (.reg [⟨(some 136), (.mv (.t 13)), none, .any⟩, ⟨(some 137), (.mv (.t 15)), none, .any⟩, ⟨(some 138), (.lit false 3 1 [(.t 137)]), none, .any⟩, ⟨(some 139), (.app 3 1 8 (.t 136) (.t 138)), none, .any⟩, ⟨(some 13), (.mv (.t 139)), none, .any⟩] false [2, 4, 7, 10, 11, 12, 13, 14, 16] [2, 4, 139]) (.reg [⟨(some 15), (.mv (.c (.int .i64 0))), none, .any⟩] false [2, 4, 7, 10, 11, 12, 13, 14, 15, 16] [2, 4, 139]))
def ic90_8 : IC := (.reg [⟨(some 115), (.mv (.t 16)), none, .any⟩, ⟨(some 116), (.bin .add none (.t 115) (.c (.int .i64 1))), none, .any⟩, ⟨(some 16), (.mv (.t 116)), none, .any⟩] false [2, 4, 7, 10, 11, 12, 13, 14, 15, 16] [2, 4, 139])
def ic90_9 : IC := (.seq (.block 3 (.seq (.seq (.reg [⟨(some 117), (.mv (.t 16)), none, .any⟩, ⟨(some 118), (.mv (.t 10)), none, .any⟩, ⟨(some 119), (.len true (.t 118)), none, .any⟩, ⟨(some 120), (.bin .lss none (.t 117) (.t 119)), none, .any⟩, ⟨(some 121), (.mv (.t 120)), none, .any⟩, ⟨(some 122), (.mv (.t 10)), (some (121, true)), .any⟩, ⟨(some 123), (.mv (.t 16)), (some (121, true)), .any⟩, ⟨(some 124), (.ix (.t 122) (.t 123)), (some (121, true)), .any⟩, ⟨(some 125), (.bin .neq none (.t 124) (.c (.int .u8 44))), (some (121, true)), .any⟩, ⟨(some 126), (.pick (.t 121) (.t 125) (.c (.bool false))), none, .any⟩] false [2, 4, 7, 10, 11, 12, 13, 14, 15, 16, 126] [2, 4, 139]) (.cond (.t 126) (.seq (.reg [⟨(some 127), (.mv (.t 14)), none, .any⟩, ⟨(some 128), (.mv (.t 10)), none, .any⟩, ⟨(some 129), (.mv (.t 16)), none, .any⟩, ⟨(some 130), (.mv (.t 16)), none, .any⟩, ⟨(some 131), (.bin .add none (.t 130) (.c (.int .i64 1))), none, .any⟩, ⟨(some 132), (.ss (.t 128) (some (.t 129)) (some (.t 131))), none, .any⟩, ⟨(some 133), (.bin .add none (.t 127) (.t 132)), none, .any⟩, ⟨(some 14), (.mv (.t 133)), none, .any⟩] false [2, 4, 7, 10, 11, 12, 13, 14, 15, 16] [2, 4, 139]) (.seq (.reg [⟨(some 134), (.mv (.t 15)), none, .any⟩, ⟨(some 135), (.bin .add none (.t 134) (.c (.int .i64 1))), none, .any⟩, ⟨(some 15), (.mv (.t 135)), none, .any⟩] false [2, 4, 7, 10, 11, 12, 13, 14, 15, 16] [2, 4, 139]) (.exit 3))) .skip)) ic90_7)) ic90_8)
def ic90_10 : IC := (.seq (.seq (.reg [⟨(some 111), (.mv (.t 16)), none, .any⟩, ⟨(some 112), (.mv (.t 10)), none, .any⟩, ⟨(some 113), (.len true (.t 112)), none, .any⟩, ⟨(some 114), (.bin .leq none (.t 111) (.t 113)), none, .any⟩] false [2, 4, 7, 10, 11, 12, 13, 14, 15, 16, 114] [2, 4, 139]) (.cond (.t 114) .skip (.exit 2))) ic90_9)
def ic90_11 : IC := (.reg [⟨(some 144), (.mv (.t 17)), none, .any⟩, ⟨(some 145), (.bin .add none (.t 144) (.c (.int .i64 1))), none, .any⟩, ⟨(some 17), (.mv (.t 145)), none, .any⟩] false [2, 4, 7, 11, 12, 13, 14, 17] [2, 4, 139])
def ic90_12 : IC := (.seq (.block 5 (.seq (.reg [⟨(some 146), (.mv (.t 13)), none, .any⟩, ⟨(some 147), (.len false (.t 146)), none, .any⟩, ⟨(some 148), (.bin .gtr none (.t 147) (.c (.int .i64 1))), none, .any⟩, ⟨(some 149), (.mv (.t 148)), none, .any⟩, ⟨(some 150), (.mv (.t 13)), (some (149, true)), .any⟩, ⟨(some 151), (.mv (.t 17)), (some (149, true)), .any⟩, ⟨(some 152), (.ia 1 (.t 150) (.t 151)), (some (149, true)), .any⟩, ⟨(some 153), (.ld none (.t 152)), (some (149, true)), .any⟩, ⟨(some 154), (.bin .eql none (.t 153) (.c (.int .i64 0))), (some (149, true)), .any⟩, ⟨(some 155), (.pick (.t 149) (.t 154) (.c (.bool false))), none, .any⟩] false [2, 4, 7, 11, 12, 13, 14, 17, 155] [2, 4, 139]) (.cond (.t 155) (.seq (.reg [⟨(some 156), (.build [(.sl 2 []), (.sl 2 []), (.bool false), (.sl 2 []), (.sl 2 []), (.int .i64 0), (.int .i64 0), (.int .i64 0), (.int .i64 0), (.int .i64 0), (.int .i64 0), (.int .i64 0), (.int .i64 0), (.str []), (.bool false), (.int .i64 0), (.bool false), (.int .i64 0), (.int .i32 0), (.int .i64 0)] []), none, .any⟩, ⟨none, (.st 20 (.t 2) (.t 156)), none, .any⟩, ⟨(some 3), (.mv (.c (.int .i64 5))), none, .any⟩] false [2, 3] [2]) .ret) .skip))) ic90_11)
def ic90_13 : IC := (.seq (.seq (.reg [⟨(some 140), (.mv (.t 17)), none, .any⟩, ⟨(some 141), (.mv (.t 13)), none, .any⟩, ⟨(some 142), (.len false (.t 141)), none, .any⟩, ⟨(some 143), (.bin .lss none (.t 140) (.t 142)), none, .any⟩] false [2, 4, 7, 11, 12, 13, 14, 17, 143] [2, 4, 139]) (.cond (.t 143) .skip (.exit 4))) ic90_12)
def ic90_14 : IC := (.block 7 (.reg [⟨(some 218), (.fa 10 none (.t 4)), none, .any⟩, ⟨(some 219), (.ld none (.t 218)), none, .any⟩, ⟨(some 220), (.bin .sub none (.t 219) (.c (.int .i64 1))), none, .any⟩, ⟨(some 221), (.fa 10 none (.t 4)), none, .any⟩, ⟨none, (.st 1 (.t 221) (.t 220)), none, .any⟩] false [2, 4, 7, 13, 14] [2, 4, 139]))
def ic90_15 : IC := (.seq (.seq (.reg [⟨(some 210), (.mv (.t 14)), none, .any⟩, ⟨(some 211), (.mv (.t 14)), none, .any⟩, ⟨(some 212), (.len true (.t 211)), none, .any⟩, ⟨(some 213), (.fa 10 none (.t 4)), none, .any⟩, ⟨(some 214), (.ld none (.t 213)), none, .any⟩, ⟨(some 215), (.bin .sub none (.t 212) (.t 214)), none, .any⟩, ⟨(some 216), (.ix (.t 210) (.t 215)), none, .any⟩, ⟨(some 217), (.bin .eql none (.t 216) (.c (.int .u8 35))), none, .any⟩] false [2, 4, 7, 13, 14, 217] [2, 4, 139]) (.cond (.t 217) .skip (.exit 6))) ic90_14)
def ic90_16 : IC := (.seq (.reg [⟨(some 204), (.mv (.t 14)), none, .any⟩, ⟨(some 205), (.call 118 [((.t 204), none), ((.c (.int .u8 64)), none)]), none, .any⟩, ⟨(some 206), (.fa 9 none (.t 4)), none, .any⟩, ⟨none, (.st 1 (.t 206) (.t 205)), none, .any⟩] false [2, 4, 7, 13, 14] [2, 4, 139]) (.seq (.reg [⟨(some 207), (.mv (.t 14)), none, .any⟩, ⟨(some 208), (.len true (.t 207)), none, .any⟩, ⟨(some 209), (.fa 10 none (.t 4)), none, .any⟩, ⟨none, (.st 1 (.t 209) (.t 208)), none, .any⟩] false [2, 4, 7, 13, 14] [2, 4, 139]) (.block 6 (.loop ic90_15))))
def ic90_17 : IC := (.seq (.seq (.reg [⟨(some 200), (.mv (.t 14)), none, .any⟩, ⟨(some 201), (.call 119 [((.t 200), none), ((.c (.int .u8 35)), none), ((.c (.int .u8 64)), none), ((.c (.int .u8 35)), none)]), none, .any⟩, ⟨(some 202), (.not (.t 201)), none, .any⟩] false [2, 4, 7, 13, 14, 202] [2, 4, 139]) (.cond (.t 202) (.seq (.reg [⟨(some 203), (.build [(.sl 2 []), (.sl 2 []), (.bool false), (.sl 2 []), (.sl 2 []), (.int .i64 0), (.int .i64 0), (.int .i64 0), (.int .i64 0), (.int .i64 0), (.int .i64 0), (.int .i64 0), (.int .i64 0), (.str []), (.bool false), (.int .i64 0), (.bool false), (.int .i64 0), (.int .i32 0), (.int .i64 0)] []), none, .any⟩, ⟨none, (.st 20 (.t 2) (.t 203)), none, .any⟩, ⟨(some 3), (.mv (.c (.int .i64 4))), none, .any⟩] false [2, 3] [2]) .ret) .skip)) ic90_16)
def ic90_18 : IC := (.reg [⟨(some 244), (.mv (.t 20)), none, .any⟩, ⟨(some 245), (.bin .add none (.t 244) (.c (.int .i64 1))), none, .any⟩, ⟨(some 20), (.mv (.t 245)), none, .any⟩] false [2, 4, 7, 13, 14, 18, 19, 20] [2, 4, 139])
def ic90_19 : IC := (.seq (.block 9 (.seq (.reg [⟨(some 246), (.mv (.t 18)), none, .any⟩, ⟨(some 247), (.mv (.t 20)), none, .any⟩, ⟨(some 248), (.ix (.t 246) (.t 247)), none, .any⟩, ⟨(some 249), (.bin .neq none (.t 248) (.c (.int .u8 35))), none, .any⟩] false [2, 4, 7, 13, 14, 18, 19, 20, 249] [2, 4, 139]) (.cond (.t 249) (.reg [⟨(some 250), (.mv (.t 19)), none, .any⟩, ⟨(some 251), (.mv (.t 18)), none, .any⟩, ⟨(some 252), (.mv (.t 20)), none, .any⟩, ⟨(some 253), (.mv (.t 20)), none, .any⟩, ⟨(some 254), (.bin .add none (.t 253) (.c (.int .i64 1))), none, .any⟩, ⟨(some 255), (.ss (.t 251) (some (.t 252)) (some (.t 254))), none, .any⟩, ⟨(some 256), (.bin .add none (.t 250) (.t 255)), none, .any⟩, ⟨(some 19), (.mv (.t 256)), none, .any⟩] false [2, 4, 7, 13, 14, 18, 19, 20] [2, 4, 139]) .skip))) ic90_18)
def ic90_20 : IC := (.seq (.seq (.reg [⟨(some 240), (.mv (.t 20)), none, .any⟩, ⟨(some 241), (.mv (.t 18)), none, .any⟩, ⟨(some 242), (.len true (.t 241)), none, .any⟩, ⟨(some 243), (.bin .lss none (.t 240) (.t 242)), none, .any⟩] false [2, 4, 7, 13, 14, 18, 19, 20, 243] [2, 4, 139]) (.cond (.t 243) .skip (.exit 8))) ic90_19)
def ic90_21 : IC := (.seq (.reg [⟨(some 274), (.mv (.t 7)), none, .any⟩] false [2, 4, 7, 13, 14, 274] [2, 4, 139]) (.cond (.t 274) (.reg [⟨(some 275), (.mv (.t 14)), none, .any⟩, ⟨(some 276), (.len true (.t 275)), none, .any⟩, ⟨(some 277), (.fa 6 none (.t 4)), none, .any⟩, ⟨none, (.st 1 (.t 277) (.t 276)), none, .any⟩] false [2, 4, 7, 13, 14] [2, 4, 139]) .skip))
def ic90_22 : IC := (.seq (.reg [⟨(some 257), (.mv (.t 19)), none, .any⟩, ⟨(some 258), (.call 117 [((.t 257), none)]), none, .any⟩, ⟨(some 259), (.fa 13 none (.t 4)), none, .any⟩, ⟨none, (.st 1 (.t 259) (.t 258)), none, .any⟩] false [2, 4, 7, 13, 14] [2, 4, 139]) (.seq (.seq (.reg [⟨(some 260), (.fa 13 none (.t 4)), none, .any⟩, ⟨(some 261), (.ld none (.t 260)), none, .any⟩, ⟨(some 262), (.bin .neq none (.t 261) (.c (.str []))), none, .any⟩, ⟨(some 263), (.mv (.t 262)), none, .any⟩, ⟨(some 264), (.fa 7 none (.t 4)), (some (263, true)), .any⟩, ⟨(some 265), (.ld none (.t 264)), (some (263, true)), .any⟩, ⟨(some 266), (.fa 8 none (.t 4)), (some (263, true)), .any⟩, ⟨(some 267), (.ld none (.t 266)), (some (263, true)), .any⟩, ⟨(some 268), (.bin .lss none (.t 265) (.t 267)), (some (263, true)), .any⟩, ⟨(some 269), (.mv (.t 268)), (some (263, true)), .any⟩, ⟨(some 270), (.mv (.t 7)), (some (269, false)), .any⟩, ⟨(some 271), (.pick (.t 269) (.c (.bool true)) (.t 270)), (some (263, true)), .any⟩, ⟨(some 272), (.pick (.t 263) (.t 271) (.c (.bool false))), none, .any⟩] false [2, 4, 7, 13, 14, 272] [2, 4, 139]) (.cond (.t 272) (.seq (.reg [⟨(some 273), (.build [(.sl 2 []), (.sl 2 []), (.bool false), (.sl 2 []), (.sl 2 []), (.int .i64 0), (.int .i64 0), (.int .i64 0), (.int .i64 0), (.int .i64 0), (.int .i64 0), (.int .i64 0), (.int .i64 0), (.str []), (.bool false), (.int .i64 0), (.bool false), (.int .i64 0), (.int .i32 0), (.int .i64 0)] []), none, .any⟩, ⟨none, (.st 20 (.t 2) (.t 273)), none, .any⟩, ⟨(some 3), (.mv (.c (.int .i64 6))), none, .any⟩] false [2, 3] [2]) .ret) .skip)) ic90_21))
def ic90_23 : IC := (.seq (.reg [⟨(some 231), (.mv (.t 14)), none, .any⟩, ⟨(some 232), (.call 118 [((.t 231), none), ((.c (.int .u8 48)), none)]), none, .any⟩, ⟨(some 233), (.mv (.t 11)), none, .any⟩, ⟨(some 234), (.call 118 [((.t 233), none), ((.c (.int .u8 48)), none)]), none, .any⟩, ⟨(some 235), (.mv (.t 11)), none, .any⟩, ⟨(some 236), (.len true (.t 235)), none, .any⟩, ⟨(some 237), (.fa 5 none (.t 4)), none, .any⟩, ⟨none, (.st 1 (.t 237) (.t 232)), none, .any⟩, ⟨(some 238), (.fa 7 none (.t 4)), none, .any⟩, ⟨none, (.st 1 (.t 238) (.t 234)), none, .any⟩, ⟨(some 239), (.fa 8 none (.t 4)), none, .any⟩, ⟨none, (.st 1 (.t 239) (.t 236)), none, .any⟩] false [2, 4, 7, 13, 14, 18] [2, 4, 139]) (.seq (.reg [⟨(some 19), (.mv (.c (.str []))), none, .any⟩] false [2, 4, 7, 13, 14, 18, 19] [2, 4, 139]) (.seq (.seq (.reg [⟨(some 20), (.mv (.c (.int .i64 0))), none, .any⟩] false [2, 4, 7, 13, 14, 18, 19, 20] [2, 4, 139]) (.block 8 (.loop ic90_20))) ic90_22)))
def ic90_24 : IC := (.reg [⟨(some 319), (.bin .add none (.t 312) (.c (.int .i64 1))), none, .any⟩, ⟨(some 312), (.mv (.t 319)), none, .any⟩] false [2, 4, 310, 311, 312] [2, 4, 310])
def ic90_25 : IC := (.seq (.block 11 (.seq (.reg [⟨(some 314), (.ia 1 (.t 310) (.t 312)), none, .any⟩, ⟨(some 315), (.ld none (.t 314)), none, .any⟩, ⟨(some 22), (.mv (.t 315)), none, .any⟩] false [2, 4, 22, 310, 311, 312] [2, 4, 310]) (.seq (.reg [⟨(some 316), (.mv (.t 22)), none, .any⟩, ⟨(some 317), (.bin .gtr none (.t 316) (.c (.int .i64 40))), none, .any⟩] false [2, 4, 310, 311, 312, 317] [2, 4, 310]) (.cond (.t 317) (.seq (.reg [⟨(some 318), (.build [(.sl 2 []), (.sl 2 []), (.bool false), (.sl 2 []), (.sl 2 []), (.int .i64 0), (.int .i64 0), (.int .i64 0), (.int .i64 0), (.int .i64 0), (.int .i64 0), (.int .i64 0), (.int .i64 0), (.str []), (.bool false), (.int .i64 0), (.bool false), (.int .i64 0), (.int .i32 0), (.int .i64 0)] []), none, .any⟩, ⟨none, (.st 20 (.t 2) (.t 318)), none, .any⟩, ⟨(some 3), (.mv (.c (.int .i64 8))), none, .any⟩] false [2, 3] [2]) .ret) .skip)))) ic90_24)
def ic90_26 : IC := (.seq (.reg [⟨(some 313), (.bin .lss none (.t 312) (.t 311)), none, .any⟩] false [2, 4, 310, 311, 312, 313] [2, 4, 310]) (.seq (.cond (.t 313) .skip (.exit 10)) ic90_25))
def ic90_27 : IC := (.seq (.reg [⟨(some 320), (.ld (some 20) (.t 4)), none, .any⟩, ⟨none, (.st 20 (.t 2) (.t 320)), none, .any⟩, ⟨(some 3), (.mv (.c (.int .i64 0))), none, .any⟩] false [2, 3] [2]) .ret)
def ic90_28 : IC := (.seq (.seq (.reg [⟨(some 295), (.fa 5 none (.t 4)), none, .any⟩, ⟨(some 296), (.ld none (.t 295)), none, .any⟩, ⟨(some 297), (.fa 6 none (.t 4)), none, .any⟩, ⟨(some 298), (.ld none (.t 297)), none, .any⟩, ⟨(some 299), (.fa 8 none (.t 4)), none, .any⟩, ⟨(some 300), (.ld none (.t 299)), none, .any⟩, ⟨(some 301), (.fa 10 none (.t 4)), none, .any⟩, ⟨(some 302), (.ld none (.t 301)), none, .any⟩, ⟨(some 303), (.fa 11 none (.t 4)), none, .any⟩, ⟨(some 304), (.ld none (.t 303)), none, .any⟩, ⟨(some 305), (.fa 12 none (.t 4)), none, .any⟩, ⟨(some 306), (.ld none (.t 305)), none, .any⟩, ⟨(some 307), (.fa 13 none (.t 4)), none, .any⟩, ⟨(some 308), (.ld none (.t 307)), none, .any⟩, ⟨(some 309), (.len true (.t 308)), none, .any⟩, ⟨(some 310), (.lit false 3 1 [(.t 296), (.t 298), (.t 300), (.t 302), (.t 304), (.t 306), (.t 309)]), none, .any⟩, ⟨(some 311), (.len false (.t 310)), none, .any⟩, ⟨(some 312), (.mv (.c (.int .i64 0))), none, .any⟩] false [2, 4, 310, 311, 312] [2, 4, 310]) (.block 10 (.loop ic90_26))) ic90_27)
def ic90_29 : IC := (.seq (.seq (.reg [⟨(some 278), (.mv (.t 7)), none, .any⟩, ⟨(some 279), (.mv (.t 278)), none, .any⟩, ⟨(some 280), (.mv (.t 13)), (some (279, true)), .any⟩, ⟨(some 281), (.len false (.t 280)), (some (279, true)), .any⟩, ⟨(some 282), (.bin .gtr none (.t 281) (.c (.int .i64 1))), (some (279, true)), .any⟩, ⟨(some 283), (.mv (.t 282)), (some (279, true)), .any⟩, ⟨(some 284), (.fa 9 none (.t 4)), (some (283, false)), .any⟩, ⟨(some 285), (.ld none (.t 284)), (some (283, false)), .any⟩, ⟨(some 286), (.bin .gtr none (.t 285) (.c (.int .i64 0))), (some (283, false)), .any⟩, ⟨(some 287), (.mv (.t 286)), (some (283, false)), .any⟩, ⟨(some 288), (.mv (.t 14)), (some (287, true)), .any⟩, ⟨(some 289), (.ix (.t 288) (.c (.int .i64 0))), (some (287, true)), .any⟩, ⟨(some 290), (.bin .eql none (.t 289) (.c (.int .u8 35))), (some (287, true)), .any⟩, ⟨(some 291), (.pick (.t 287) (.t 290) (.c (.bool false))), (some (283, false)), .any⟩, ⟨(some 292), (.pick (.t 283) (.c (.bool true)) (.t 291)), (some (279, true)), .any⟩, ⟨(some 293), (.pick (.t 279) (.t 292) (.c (.bool false))), none, .any⟩] false [2, 4, 293] [2, 4]) (.cond (.t 293) (.seq (.reg [⟨(some 294), (.build [(.sl 2 []), (.sl 2 []), (.bool false), (.sl 2 []), (.sl 2 []), (.int .i64 0), (.int .i64 0), (.int .i64 0), (.int .i64 0), (.int .i64 0), (.int .i64 0), (.int .i64 0), (.int .i64 0), (.str []), (.bool false), (.int .i64 0), (.bool false), (.int .i64 0), (.int .i32 0), (.int .i64 0)] []), none, .any⟩, ⟨none, (.st 20 (.t 2) (.t 294)), none, .any⟩, ⟨(some 3), (.mv (.c (.int .i64 6))), none, .any⟩] false [2, 3] [2]) .ret) .skip)) ic90_28)
def ic90_30 : IC := (.seq (.seq (.reg [⟨(some 190), (.mv (.t 18)), none, .any⟩, ⟨(some 191), (.call 118 [((.t 190), none), ((.c (.int .u8 64)), none)]), none, .any⟩, ⟨(some 192), (.bin .gtr none (.t 191) (.c (.int .i64 0))), none, .any⟩] false [2, 4, 7, 11, 12, 13, 14, 18, 192] [2, 4, 139]) (.cond (.t 192) (.seq (.seq (.reg [⟨(some 193), (.mv (.t 12)), none, .any⟩, ⟨(some 194), (.mv (.t 193)), none, .any⟩, ⟨(some 195), (.mv (.t 14)), (some (194, false)), .any⟩, ⟨(some 196), (.call 118 [((.t 195), none), ((.c (.int .u8 48)), none)]), (some (194, false)), .any⟩, ⟨(some 197), (.bin .gtr none (.t 196) (.c (.int .i64 0))), (some (194, false)), .any⟩, ⟨(some 198), (.pick (.t 194) (.c (.bool true)) (.t 197)), none, .any⟩] false [2, 4, 7, 13, 14, 198] [2, 4, 139]) (.cond (.t 198) (.seq (.reg [⟨(some 199), (.build [(.sl 2 []), (.sl 2 []), (.bool false), (.sl 2 []), (.sl 2 []), (.int .i64 0), (.int .i64 0), (.int .i64 0), (.int .i64 0), (.int .i64 0), (.int .i64 0), (.int .i64 0), (.int .i64 0), (.str []), (.bool false), (.int .i64 0), (.bool false), (.int .i64 0), (.int .i32 0), (.int .i64 0)] []), none, .any⟩, ⟨none, (.st 20 (.t 2) (.t 199)), none, .any⟩, ⟨(some 3), (.mv (.c (.int .i64 6))), none, .any⟩] false [2, 3] [2]) .ret) .skip)) ic90_17) (.seq (.seq (.reg [⟨(some 222), (.mv (.t 14)), none, .any⟩, ⟨(some 223), (.call 119 [((.t 222), none), ((.c (.int .u8 35)), none), ((.c (.int .u8 48)), none), ((.c (.int .u8 48)), none)]), none, .any⟩, ⟨(some 224), (.not (.t 223)), none, .any⟩, ⟨(some 225), (.mv (.t 224)), none, .any⟩, ⟨(some 226), (.mv (.t 11)), (some (225, false)), .any⟩, ⟨(some 227), (.call 119 [((.t 226), none), ((.c (.int .u8 48)), none), ((.c (.int .u8 35)), none), ((.c (.int .u8 35)), none)]), (some (225, false)), .any⟩, ⟨(some 228), (.not (.t 227)), (some (225, false)), .any⟩, ⟨(some 229), (.pick (.t 225) (.c (.bool true)) (.t 228)), none, .any⟩] false [2, 4, 7, 11, 13, 14, 18, 229] [2, 4, 139]) (.cond (.t 229) (.seq (.reg [⟨(some 230), (.build [(.sl 2 []), (.sl 2 []), (.bool false), (.sl 2 []), (.sl 2 []), (.int .i64 0), (.int .i64 0), (.int .i64 0), (.int .i64 0), (.int .i64 0), (.int .i64 0), (.int .i64 0), (.int .i64 0), (.str []), (.bool false), (.int .i64 0), (.bool false), (.int .i64 0), (.int .i32 0), (.int .i64 0)] []), none, .any⟩, ⟨none, (.st 20 (.t 2) (.t 230)), none, .any⟩, ⟨(some 3), (.mv (.c (.int .i64 4))), none, .any⟩] false [2, 3] [2]) .ret) .skip)) ic90_23))) ic90_29)
def ic90_31 : IC := (.seq (.reg [⟨(some 184), (.mv (.t 14)), none, .any⟩, ⟨(some 185), (.mv (.t 11)), none, .any⟩, ⟨(some 186), (.bin .add none (.t 184) (.t 185)), none, .any⟩, ⟨(some 18), (.mv (.t 186)), none, .any⟩] false [2, 4, 7, 11, 12, 13, 14, 18] [2, 4, 139]) (.seq (.seq (.reg [⟨(some 187), (.mv (.t 18)), none, .any⟩, ⟨(some 188), (.bin .eql none (.t 187) (.c (.str []))), none, .any⟩] false [2, 4, 7, 11, 12, 13, 14, 18, 188] [2, 4, 139]) (.cond (.t 188) (.seq (.reg [⟨(some 189), (.build [(.sl 2 []), (.sl 2 []), (.bool false), (.sl 2 []), (.sl 2 []), (.int .i64 0), (.int .i64 0), (.int .i64 0), (.int .i64 0), (.int .i64 0), (.int .i64 0), (.int .i64 0), (.int .i64 0), (.str []), (.bool false), (.int .i64 0), (.bool false), (.int .i64 0), (.int .i32 0), (.int .i64 0)] []), none, .any⟩, ⟨none, (.st 20 (.t 2) (.t 189)), none, .any⟩, ⟨(some 3), (.mv (.c (.int .i64 4))), none, .any⟩] false [2, 3] [2]) .ret) .skip)) ic90_30))
def ic90_32 : IC := (.seq (.seq (.reg [⟨(some 174), (.mv (.t 13)), none, .any⟩, ⟨(some 175), (.len false (.t 174)), none, .any⟩, ⟨(some 176), (.bin .gtr none (.t 175) (.c (.int .i64 2))), none, .any⟩] false [2, 4, 7, 11, 12, 13, 14, 176] [2, 4, 139]) (.cond (.t 176) (.reg [⟨(some 177), (.mv (.t 13)), none, .any⟩, ⟨(some 178), (.mv (.t 13)), none, .any⟩, ⟨(some 179), (.len false (.t 178)), none, .any⟩, ⟨(some 180), (.bin .sub none (.t 179) (.c (.int .i64 2))), none, .any⟩, ⟨(some 181), (.ia 1 (.t 177) (.t 180)), none, .any⟩, ⟨(some 182), (.ld none (.t 181)), none, .any⟩, ⟨(some 183), (.fa 12 none (.t 4)), none, .any⟩, ⟨none, (.st 1 (.t 183) (.t 182)), none, .any⟩] false [2, 4, 7, 11, 12, 13, 14] [2, 4, 139]) .skip)) ic90_31)
def ic90_33 : IC := (.seq (.seq (.reg [⟨(some 157), (.mv (.t 13)), none, .any⟩, ⟨(some 158), (.len false (.t 157)), none, .any⟩, ⟨(some 159), (.bin .gtr none (.t 158) (.c (.int .i64 1))), none, .any⟩] false [2, 4, 7, 11, 12, 13, 14, 159] [2, 4, 139]) (.cond (.t 159) (.reg [⟨(some 160), (.mv (.t 13)), none, .any⟩, ⟨(some 161), (.mv (.t 13)), none, .any⟩, ⟨(some 162), (.len false (.t 161)), none, .any⟩, ⟨(some 163), (.bin .sub none (.t 162) (.c (.int .i64 1))), none, .any⟩, ⟨(some 164), (.ia 1 (.t 160) (.t 163)), none, .any⟩, ⟨(some 165), (.ld none (.t 164)), none, .any⟩, ⟨(some 166), (.mv (.t 13)), none, .any⟩, ⟨(some 167), (.mv (.t 13)), none, .any⟩, ⟨(some 168), (.len false (.t 167)), none, .ref⟩, ⟨(some 169), (.bin .sub none (.t 168) (.c (.int .i64 1))), none, .any⟩, ⟨(some 170), (.ia 1 (.t 166) (.t 169)), none, .ref⟩, ⟨(some 171), (.ld none (.t 170)), none, .ref⟩, ⟨(some 172), (.fa 11 none (.t 4)), none, .any⟩, ⟨none, (.st 1 (.t 172) (.t 165)), none, (.at 4 11 1)⟩, ⟨(some 173), (.fa 12 none (.t 4)), none, .any⟩, ⟨none, (.st 1 (.t 173) (.t 171)), none, .any⟩] true [2, 4, 7, 11, 12, 13, 14] [2, 4, 139]) .skip)) ic90_32)
def ic90_34 : IC := (.seq (.seq (.reg [⟨(some 17), (.mv (.c (.int .i64 0))), none, .any⟩] false [2, 4, 7, 11, 12, 13, 14, 17] [2, 4, 139]) (.block 4 (.loop ic90_13))) ic90_33)
def ic90_35 : IC := (.seq (.reg [⟨(some 13), (.mv (.c .nil)), none, .any⟩] false [2, 4, 7, 10, 11, 12, 13] [2, 4, 139]) (.seq (.reg [⟨(some 14), (.mv (.c (.str []))), none, .any⟩] false [2, 4, 7, 10, 11, 12, 13, 14] [2, 4, 139]) (.seq (.reg [⟨(some 15), (.mv (.c (.int .i64 0))), none, .any⟩] false [2, 4, 7, 10, 11, 12, 13, 14, 15] [2, 4, 139]) (.seq (.seq (.reg [⟨(some 16), (.mv (.c (.int .i64 0))), none, .any⟩] false [2, 4, 7, 10, 11, 12, 13, 14, 15, 16] [2, 4, 139]) (.block 2 (.loop ic90_10))) ic90_34))))
def ic90_36 : IC := (.seq (.seq (.reg [⟨(some 107), (.mv (.t 11)), none, .any⟩, ⟨(some 108), (.call 118 [((.t 107), none), ((.c (.int .u8 44)), none)]), none, .any⟩, ⟨(some 109), (.bin .gtr none (.t 108) (.c (.int .i64 0))), none, .any⟩] false [2, 4, 7, 10, 11, 12, 109] [2, 4]) (.cond (.t 109) (.seq (.reg [⟨(some 110), (.build [(.sl 2 []), (.sl 2 []), (.bool false), (.sl 2 []), (.sl 2 []), (.int .i64 0), (.int .i64 0), (.int .i64 0), (.int .i64 0), (.int .i64 0), (.int .i64 0), (.int .i64 0), (.int .i64 0), (.str []), (.bool false), (.int .i64 0), (.bool false), (.int .i64 0), (.int .i32 0), (.int .i64 0)] []), none, .any⟩, ⟨none, (.st 20 (.t 2) (.t 110)), none, .any⟩, ⟨(some 3), (.mv (.c (.int .i64 5))), none, .any⟩] false [2, 3] [2]) .ret) .skip)) ic90_35)
def ic90_37 : IC := (.seq (.reg [⟨(some 91), (.mv (.t 5)), none, .any⟩, ⟨(some 92), (.call 116 [((.t 91), none), ((.c (.int .u8 46)), none)]), none, .any⟩, ⟨(some 90), (.mv (.t 92)), none, .any⟩, ⟨(some 93), (.ext (.t 90) 0), none, .any⟩, ⟨(some 94), (.ext (.t 90) 1), none, .any⟩, ⟨(some 95), (.ext (.t 90) 2), none, .any⟩, ⟨(some 10), (.mv (.t 93)), none, .any⟩, ⟨(some 11), (.mv (.t 94)), none, .any⟩, ⟨(some 12), (.mv (.t 95)), none, .any⟩] false [2, 4, 7, 10, 11, 12] [2, 4]) (.seq (.seq (.reg [⟨(some 96), (.mv (.t 11)), none, .any⟩, ⟨(some 97), (.call 118 [((.t 96), none), ((.c (.int .u8 46)), none)]), none, .any⟩, ⟨(some 98), (.bin .gtr none (.t 97) (.c (.int .i64 0))), none, .any⟩, ⟨(some 99), (.mv (.t 98)), none, .any⟩, ⟨(some 100), (.mv (.t 12)), (some (99, false)), .any⟩, ⟨(some 101), (.mv (.t 100)), (some (99, false)), .any⟩, ⟨(some 102), (.mv (.t 11)), (some (101, true)), .any⟩, ⟨(some 103), (.bin .eql none (.t 102) (.c (.str []))), (some (101, true)), .any⟩, ⟨(some 104), (.pick (.t 101) (.t 103) (.c (.bool false))), (some (99, false)), .any⟩, ⟨(some 105), (.pick (.t 99) (.c (.bool true)) (.t 104)), none, .any⟩] false [2, 4, 7, 10, 11, 12, 105] [2, 4]) (.cond (.t 105) (.seq (.reg [⟨(some 106), (.build [(.sl 2 []), (.sl 2 []), (.bool false), (.sl 2 []), (.sl 2 []), (.int .i64 0), (.int .i64 0), (.int .i64 0), (.int .i64 0), (.int .i64 0), (.int .i64 0), (.int .i64 0), (.int .i64 0), (.str []), (.bool false), (.int .i64 0), (.bool false), (.int .i64 0), (.int .i32 0), (.int .i64 0)] []), none, .any⟩, ⟨none, (.st 20 (.t 2) (.t 106)), none, .any⟩, ⟨(some 3), (.mv (.c (.int .i64 4))), none, .any⟩] false [2, 3] [2]) .ret) .skip)) ic90_36))
def ic90_38 : IC := (.seq (.seq (.reg [⟨(some 8), (.mv (.c (.int .i64 0))), none, .any⟩] false [2, 4, 5, 7, 8] [2, 4]) (.block 0 (.loop ic90_6))) ic90_37)
def ic90 : IC := (.seq (.reg [⟨(some 2), (.alloc 26 [(.sl 2 []), (.sl 2 []), (.bool false), (.sl 2 []), (.sl 2 []), (.int .i64 0), (.int .i64 0), (.int .i64 0), (.int .i64 0), (.int .i64 0), (.int .i64 0), (.int .i64 0), (.int .i64 0), (.str []), (.bool false), (.int .i64 0), (.bool false), (.int .i64 0), (.int .i32 0), (.int .i64 0)]), none, .any⟩, ⟨(some 3), (.mv (.c (.int .i64 0))), none, .any⟩] false [0, 2] [2]) (.seq (.reg [⟨(some 23), (.build [(.sl 2 []), (.sl 2 []), (.bool false), (.sl 2 []), (.sl 2 []), (.int .i64 0), (.int .i64 0), (.int .i64 0), (.int .i64 0), (.int .i64 0), (.int .i64 0), (.int .i64 0), (.int .i64 0), (.str []), (.bool false), (.int .i64 0), (.bool false), (.int .i64 0), (.int .i32 0), (.int .i64 0)] []), none, .any⟩, ⟨(some 4), (.alloc 26 [(.sl 2 []), (.sl 2 []), (.bool false), (.sl 2 []), (.sl 2 []), (.int .i64 0), (.int .i64 0), (.int .i64 0), (.int .i64 0), (.int .i64 0), (.int .i64 0), (.int .i64 0), (.int .i64 0), (.str []), (.bool false), (.int .i64 0), (.bool false), (.int .i64 0), (.int .i32 0), (.int .i64 0)]), none, .any⟩, ⟨none, (.st 20 (.t 4) (.t 23)), none, .any⟩] false [0, 2, 4] [2, 4]) (.seq (.reg [⟨(some 25), (.mv (.t 0)), none, .any⟩, ⟨(some 26), (.call 116 [((.t 25), none), ((.c (.int .u8 69)), none)]), none, .any⟩, ⟨(some 24), (.mv (.t 26)), none, .any⟩, ⟨(some 27), (.ext (.t 24) 0), none, .any⟩, ⟨(some 28), (.ext (.t 24) 1), none, .any⟩, ⟨(some 29), (.ext (.t 24) 2), none, .any⟩, ⟨(some 5), (.mv (.t 27)), none, .any⟩, ⟨(some 6), (.mv (.t 28)), none, .any⟩, ⟨(some 7), (.mv (.t 29)), none, .any⟩] false [2, 4, 5, 6, 7] [2, 4]) (.seq (.seq (.reg [⟨(some 30), (.mv (.t 7)), none, .any⟩] false [2, 4, 5, 6, 7, 30] [2, 4]) (.cond (.t 30) (.seq (.seq (.reg [⟨(some 31), (.mv (.t 6)), none, .any⟩, ⟨(some 32), (.len true (.t 31)), none, .any⟩, ⟨(some 33), (.bin .gtr none (.t 32) (.c (.int .i64 0))), none, .any⟩, ⟨(some 34), (.mv (.t 33)), none, .any⟩, ⟨(some 35), (.mv (.t 6)), (some (34, true)), .any⟩, ⟨(some 36), (.ix (.t 35) (.c (.int .i64 0))), (some (34, true)), .any⟩, ⟨(some 37), (.bin .eql none (.t 36) (.c (.int .u8 43))), (some (34, true)), .any⟩, ⟨(some 38), (.pick (.t 34) (.t 37) (.c (.bool false))), none, .any⟩] false [2, 4, 5, 6, 7, 38] [2, 4]) (.cond (.t 38) (.seq (.reg [⟨(some 39), (.fa 16 none (.t 4)), none, .any⟩, ⟨none, (.st 1 (.t 39) (.c (.bool true))), none, .any⟩] false [2, 4, 5, 6, 7] [2, 4]) (.reg [⟨(some 40), (.mv (.t 6)), none, .any⟩, ⟨(some 41), (.ss (.t 40) (some (.c (.int .i64 1))) none), none, .any⟩, ⟨(some 6), (.mv (.t 41)), none, .any⟩] false [2, 4, 5, 6, 7] [2, 4])) .skip)) ic90_3) .skip)) ic90_38))))
def kp90 : List (Nat × Keep) := [(0, ⟨[0, 2], [2], []⟩),
  (1, ⟨[0, 2, 4], [2, 4], []⟩),
  (2, ⟨[2, 4, 5, 6, 7], [2, 4], []⟩),
  (3, ⟨[2, 4, 5, 6, 7, 30], [2, 4], []⟩),
  (4, ⟨[2, 4, 5, 6, 7, 38], [2, 4], []⟩),
  (5, ⟨[2, 4, 5, 6, 7], [2, 4], []⟩),
  (6, ⟨[2, 4, 5, 6, 7], [2, 4], []⟩),
  (7, ⟨[2, 4, 5, 6, 7, 48], [2, 4], []⟩),
  (8, ⟨[2, 3], [2], []⟩),
  (9, ⟨[2, 4, 5, 6, 7, 52], [2, 4], []⟩),
  (10, ⟨[2, 3], [2], []⟩),
  (11, ⟨[2, 4, 5, 7], [2, 4], []⟩),
  (12, ⟨[2, 4, 5, 7, 8], [2, 4], []⟩),
  (13, ⟨[2, 4, 5, 7, 8, 61], [2, 4], []⟩),
  (14, ⟨[2, 4, 5, 7, 8], [2, 4], []⟩),
  (15, ⟨[2, 4, 5, 7, 8, 9], [2, 4], []⟩),
  (16, ⟨[2, 4, 5, 7, 8, 88], [2, 4], []⟩),
  (17, ⟨[2, 3], [2], []⟩),
  (18, ⟨[2, 4, 7, 10, 11, 12], [2, 4], []⟩),
  (19, ⟨[2, 4, 7, 10, 11, 12, 105], [2, 4], []⟩),
  (20, ⟨[2, 3], [2], []⟩),
  (21, ⟨[2, 4, 7, 10, 11, 12, 109], [2, 4], []⟩),
  (22, ⟨[2, 3], [2], []⟩),
  (23, ⟨[2, 4, 7, 10, 11, 12, 13], [2, 4, 139], []⟩),
  (24, ⟨[2, 4, 7, 10, 11, 12, 13, 14], [2, 4, 139], []⟩),
  (25, ⟨[2, 4, 7, 10, 11, 12, 13, 14, 15], [2, 4, 139], []⟩),
  (26, ⟨[2, 4, 7, 10, 11, 12, 13, 14, 15, 16], [2, 4, 139], []⟩),
  (27, ⟨[2, 4, 7, 10, 11, 12, 13, 14, 15, 16, 114], [2, 4, 139], []⟩),
  (28, ⟨[2, 4, 7, 10, 11, 12, 13, 14, 15, 16], [2, 4, 139], []⟩),
  (29, ⟨[2, 4, 7, 10, 11, 12, 13, 14, 15, 16, 126], [2, 4, 139], []⟩),
  (30, ⟨[2, 4, 7, 10, 11, 12, 13, 14, 15, 16], [2, 4, 139], []⟩),
  (31, ⟨[2, 4, 7, 10, 11, 12, 13, 14, 15, 16], [2, 4, 139], []⟩),
  (32, ⟨[2, 4, 7, 10, 11, 12, 13, 14, 16], [2, 4, 139], []⟩),
  (33, ⟨[2, 4, 7, 10, 11, 12, 13, 14, 15, 16], [2, 4, 139], []⟩),
  (34, ⟨[2, 4, 7, 11, 12, 13, 14, 17], [2, 4, 139], []⟩),
  (35, ⟨[2, 4, 7, 11, 12, 13, 14, 17, 143], [2, 4, 139], []⟩),
  (36, ⟨[2, 4, 7, 11, 12, 13, 14, 17], [2, 4, 139], []⟩),
  (37, ⟨[2, 4, 7, 11, 12, 13, 14, 17, 155], [2, 4, 139], []⟩),
  (38, ⟨[2, 3], [2], []⟩),
  (39, ⟨[2, 4, 7, 11, 12, 13, 14, 159], [2, 4, 139], []⟩),
  (40, ⟨[2, 4, 7, 11, 12, 13, 14], [2, 4, 139], [(8, .ref), (10, .ref), (11, .ref), (13, .at 4 11 1)]⟩),
  (41, ⟨[2, 4, 7, 11, 12, 13, 14, 176], [2, 4, 139], []⟩),
  (42, ⟨[2, 4, 7, 11, 12, 13, 14], [2, 4, 139], []⟩),
  (43, ⟨[2, 4, 7, 11, 12, 13, 14, 18], [2, 4, 139], []⟩),
  (44, ⟨[2, 4, 7, 11, 12, 13, 14, 18, 188], [2, 4, 139], []⟩),
  (45, ⟨[2, 3], [2], []⟩),
  (46, ⟨[2, 4, 7, 11, 12, 13, 14, 18, 192], [2, 4, 139], []⟩),
  (47, ⟨[2, 4, 7, 13, 14, 198], [2, 4, 139], []⟩),
  (48, ⟨[2, 3], [2], []⟩),
  (49, ⟨[2, 4, 7, 13, 14, 202], [2, 4, 139], []⟩),
  (50, ⟨[2, 3], [2], []⟩),
  (51, ⟨[2, 4, 7, 13, 14], [2, 4, 139], []⟩),
  (52, ⟨[2, 4, 7, 13, 14], [2, 4, 139], []⟩),
  (53, ⟨[2, 4, 7, 13, 14, 217], [2, 4, 139], []⟩),
  (54, ⟨[2, 4, 7, 13, 14], [2, 4, 139], []⟩),
  (55, ⟨[2, 4, 7, 11, 13, 14, 18, 229], [2, 4, 139], []⟩),
  (56, ⟨[2, 3], [2], []⟩),
  (57, ⟨[2, 4, 7, 13, 14, 18], [2, 4, 139], []⟩),
  (58, ⟨[2, 4, 7, 13, 14, 18, 19], [2, 4, 139], []⟩),
  (59, ⟨[2, 4, 7, 13, 14, 18, 19, 20], [2, 4, 139], []⟩),
  (60, ⟨[2, 4, 7, 13, 14, 18, 19, 20, 243], [2, 4, 139], []⟩),
  (61, ⟨[2, 4, 7, 13, 14, 18, 19, 20], [2, 4, 139], []⟩),
  (62, ⟨[2, 4, 7, 13, 14, 18, 19, 20, 249], [2, 4, 139], []⟩),
  (63, ⟨[2, 4, 7, 13, 14, 18, 19, 20], [2, 4, 139], []⟩),
  (64, ⟨[2, 4, 7, 13, 14], [2, 4, 139], []⟩),
  (65, ⟨[2, 4, 7, 13, 14, 272], [2, 4, 139], []⟩),
  (66, ⟨[2, 3], [2], []⟩),
  (67, ⟨[2, 4, 7, 13, 14, 274], [2, 4, 139], []⟩),
  (68, ⟨[2, 4, 7, 13, 14], [2, 4, 139], []⟩),
  (69, ⟨[2, 4, 293], [2, 4], []⟩),
  (70, ⟨[2, 3], [2], []⟩),
  (71, ⟨[2, 4, 310, 311, 312], [2, 4, 310], []⟩),
  (72, ⟨[2, 4, 310, 311, 312, 313], [2, 4, 310], []⟩),
  (73, ⟨[2, 4, 22, 310, 311, 312], [2, 4, 310], []⟩),
  (74, ⟨[2, 4, 310, 311, 312, 317], [2, 4, 310], []⟩),
  (75, ⟨[2, 3], [2], []⟩),
  (76, ⟨[2, 4, 310, 311, 312], [2, 4, 310], []⟩),
  (77, ⟨[2, 3], [2], []⟩)]
theorem c90 : (Tryz.f90.body.bind fun c => compC Tryz.prog 321 [] kp90 c) = some ic90 := by kernel_rfl
theorem e90 {args : List AV} {r : AV} (ha : args.length ≤ 321) (h : VC e0 ic90 (retQ [(2, (some (some 20))), (3, none)] r) ⟨argT 0 args, []⟩) : Fn 90 args r := fn_of Tryz.func90 rfl (by kernel_rfl) c90 ha (by decide) h


def ic113 : IC := (.seq (.reg [⟨(some 2), (.mv (.c (.bool false))), none, .any⟩] false [0] []) (.seq (.reg [⟨(some 3), (.mv (.t 0)), none, .any⟩, ⟨(some 4), (.bin .geq none (.t 3) (.c (.int .i32 0))), none, .any⟩, ⟨(some 5), (.mv (.t 4)), none, .any⟩, ⟨(some 6), (.mv (.t 0)), (some (5, true)), .any⟩, ⟨(some 7), (.bin .leq none (.t 6) (.c (.int .i32 1114111))), (some (5, true)), .any⟩, ⟨(some 8), (.pick (.t 5) (.t 7) (.c (.bool false))), none, .any⟩, ⟨(some 9), (.mv (.t 8)), none, .any⟩, ⟨(some 10), (.mv (.t 0)), (some (9, true)), .any⟩, ⟨(some 11), (.bin .lss none (.t 10) (.c (.int .i32 55296))), (some (9, true)), .any⟩, ⟨(some 12), (.mv (.t 11)), (some (9, true)), .any⟩, ⟨(some 13), (.mv (.t 0)), (some (12, false)), .any⟩, ⟨(some 14), (.bin .gtr none (.t 13) (.c (.int .i32 57343))), (some (12, false)), .any⟩, ⟨(some 15), (.pick (.t 12) (.c (.bool true)) (.t 14)), (some (9, true)), .any⟩, ⟨(some 16), (.pick (.t 9) (.t 15) (.c (.bool false))), none, .any⟩, ⟨(some 2), (.mv (.t 16)), none, .any⟩] false [2] []) .ret))
def kp113 : List (Nat × Keep) := [(0, ⟨[0], [], []⟩),
  (1, ⟨[2], [], []⟩)]
theorem c113 : (Tryz.f113.body.bind fun c => compC Tryz.prog 17 [] kp113 c) = some ic113 := by kernel_rfl
theorem e113 {args : List AV} {r : AV} (ha : args.length ≤ 17) (h : VC e0 ic113 (retQ [(2, none)] r) ⟨argT 0 args, []⟩) : Fn 113 args r := fn_of Tryz.func113 rfl (by kernel_rfl) c113 ha (by decide) h


def ic114 : IC := (.seq (.reg [⟨(some 2), (.mv (.c (.bool false))), none, .any⟩] false [0] []) (.seq (.reg [⟨(some 3), (.mv (.t 0)), none, .any⟩, ⟨(some 4), (.bin .geq none (.t 3) (.c (.int .i32 48))), none, .any⟩, ⟨(some 5), (.mv (.t 4)), none, .any⟩, ⟨(some 6), (.mv (.t 0)), (some (5, true)), .any⟩, ⟨(some 7), (.bin .leq none (.t 6) (.c (.int .i32 57))), (some (5, true)), .any⟩, ⟨(some 8), (.pick (.t 5) (.t 7) (.c (.bool false))), none, .any⟩, ⟨(some 9), (.mv (.t 8)), none, .any⟩, ⟨(some 10), (.mv (.t 0)), (some (9, false)), .any⟩, ⟨(some 11), (.bin .eql none (.t 10) (.c (.int .i32 35))), (some (9, false)), .any⟩, ⟨(some 12), (.pick (.t 9) (.c (.bool true)) (.t 11)), none, .any⟩, ⟨(some 13), (.mv (.t 12)), none, .any⟩, ⟨(some 14), (.mv (.t 0)), (some (13, false)), .any⟩, ⟨(some 15), (.bin .eql none (.t 14) (.c (.int .i32 64))), (some (13, false)), .any⟩, ⟨(some 16), (.pick (.t 13) (.c (.bool true)) (.t 15)), none, .any⟩, ⟨(some 17), (.mv (.t 16)), none, .any⟩, ⟨(some 18), (.mv (.t 0)), (some (17, false)), .any⟩, ⟨(some 19), (.bin .eql none (.t 18) (.c (.int .i32 44))), (some (17, false)), .any⟩, ⟨(some 20), (.pick (.t 17) (.c (.bool true)) (.t 19)), none, .any⟩, ⟨(some 21), (.mv (.t 20)), none, .any⟩, ⟨(some 22), (.mv (.t 0)), (some (21, false)), .any⟩, ⟨(some 23), (.bin .eql none (.t 22) (.c (.int .i32 46))), (some (21, false)), .any⟩, ⟨(some 24), (.pick (.t 21) (.c (.bool true)) (.t 23)), none, .any⟩, ⟨(some 25), (.mv (.t 24)), none, .any⟩, ⟨(some 26), (.mv (.t 0)), (some (25, false)), .any⟩, ⟨(some 27), (.bin .eql none (.t 26) (.c (.int .i32 59))), (some (25, false)), .any⟩, ⟨(some 28), (.pick (.t 25) (.c (.bool true)) (.t 27)), none, .any⟩, ⟨(some 29), (.mv (.t 28)), none, .any⟩, ⟨(some 30), (.mv (.t 0)), (some (29, false)), .any⟩, ⟨(some 31), (.bin .eql none (.t 30) (.c (.int .i32 42))), (some (29, false)), .any⟩, ⟨(some 32), (.pick (.t 29) (.c (.bool true)) (.t 31)), none, .any⟩, ⟨(some 2), (.mv (.t 32)), none, .any⟩] false [2] []) .ret))
def kp114 : List (Nat × Keep) := [(0, ⟨[0], [], []⟩),
  (1, ⟨[2], [], []⟩)]
theorem c114 : (Tryz.f114.body.bind fun c => compC Tryz.prog 33 [] kp114 c) = some ic114 := by kernel_rfl
theorem e114 {args : List AV} {r : AV} (ha : args.length ≤ 33) (h : VC e0 ic114 (retQ [(2, none)] r) ⟨argT 0 args, []⟩) : Fn 114 args r := fn_of Tryz.func114 rfl (by kernel_rfl) c114 ha (by decide) h

def ic115_1 : IC := (.seq (.reg [⟨(some 2), (.mv (.c (.int .i64 0))), none, .any⟩] false [2] []) .ret)
def ic115 : IC := (.seq (.reg [⟨(some 2), (.mv (.c (.int .i64 0))), none, .any⟩] false [0] []) (.seq (.seq (.reg [⟨(some 3), (.mv (.t 0)), none, .any⟩] false [3] []) (.block 0 (.seq (.reg [⟨(some 5), (.bin .eql none (.t 3) (.c (.int .i32 45))), none, .any⟩, ⟨(some 4), (.mv (.t 5)), none, .any⟩] false [3, 4] []) (.cond (.t 4) (.seq (.reg [⟨(some 2), (.mv (.c (.int .i64 2))), none, .any⟩] false [2] []) .ret) (.seq (.reg [⟨(some 7), (.bin .eql none (.t 3) (.c (.int .i32 43))), none, .any⟩, ⟨(some 6), (.mv (.t 7)), none, .any⟩] false [3, 6] []) (.cond (.t 6) (.seq (.reg [⟨(some 2), (.mv (.c (.int .i64 3))), none, .any⟩] false [2] []) .ret) (.seq (.reg [⟨(some 9), (.bin .eql none (.t 3) (.c (.int .i32 37))), none, .any⟩, ⟨(some 8), (.mv (.t 9)), none, .any⟩] false [3, 8] []) (.cond (.t 8) (.seq (.reg [⟨(some 2), (.mv (.c (.int .i64 4))), none, .any⟩] false [2] []) .ret) (.seq (.reg [⟨(some 11), (.bin .eql none (.t 3) (.c (.int .i32 8240))), none, .any⟩, ⟨(some 10), (.mv (.t 11)), none, .any⟩] false [3, 10] []) (.cond (.t 10) (.seq (.reg [⟨(some 2), (.mv (.c (.int .i64 5))), none, .any⟩] false [2] []) .ret) (.seq (.reg [⟨(some 13), (.bin .eql none (.t 3) (.c (.int .i32 164))), none, .any⟩, ⟨(some 12), (.mv (.t 13)), none, .any⟩] false [12] []) (.cond (.t 12) (.seq (.reg [⟨(some 2), (.mv (.c (.int .i64 6))), none, .any⟩] false [2] []) .ret) .skip)))))))))))) ic115_1))
def kp115 : List (Nat × Keep) := [(0, ⟨[0], [], []⟩),
  (1, ⟨[3], [], []⟩),
  (2, ⟨[3, 4], [], []⟩),
  (3, ⟨[2], [], []⟩),
  (4, ⟨[3, 6], [], []⟩),
  (5, ⟨[2], [], []⟩),
  (6, ⟨[3, 8], [], []⟩),
  (7, ⟨[2], [], []⟩),
  (8, ⟨[3, 10], [], []⟩),
  (9, ⟨[2], [], []⟩),
  (10, ⟨[12], [], []⟩),
  (11, ⟨[2], [], []⟩),
  (12, ⟨[2], [], []⟩)]
theorem c115 : (Tryz.f115.body.bind fun c => compC Tryz.prog 14 [] kp115 c) = some ic115 := by kernel_rfl
theorem e115 {args : List AV} {r : AV} (ha : args.length ≤ 14) (h : VC e0 ic115 (retQ [(2, none)] r) ⟨argT 0 args, []⟩) : Fn 115 args r := fn_of Tryz.func115 rfl (by kernel_rfl) c115 ha (by decide) h

def ic116_1 : IC := (.reg [⟨(some 12), (.mv (.t 7)), none, .any⟩, ⟨(some 13), (.bin .add none (.t 12) (.c (.int .i64 1))), none, .any⟩, ⟨(some 7), (.mv (.t 13)), none, .any⟩] false [0, 1, 7] [])
def ic116_2 : IC := (.seq (.block 1 (.seq (.reg [⟨(some 14), (.mv (.t 0)), none, .any⟩, ⟨(some 15), (.mv (.t 7)), none, .any⟩, ⟨(some 16), (.ix (.t 14) (.t 15)), none, .any⟩, ⟨(some 17), (.mv (.t 1)), none, .any⟩, ⟨(some 18), (.bin .eql none (.t 16) (.t 17)), none, .any⟩] false [0, 1, 7, 18] []) (.cond (.t 18) (.seq (.reg [⟨(some 19), (.mv (.t 0)), none, .any⟩, ⟨(some 20), (.mv (.t 7)), none, .any⟩, ⟨(some 21), (.ss (.t 19) none (some (.t 20))), none, .any⟩, ⟨(some 22), (.mv (.t 0)), none, .any⟩, ⟨(some 23), (.mv (.t 7)), none, .any⟩, ⟨(some 24), (.bin .add none (.t 23) (.c (.int .i64 1))), none, .any⟩, ⟨(some 25), (.ss (.t 22) (some (.t 24)) none), none, .any⟩, ⟨(some 4), (.mv (.t 21)), none, .any⟩, ⟨(some 5), (.mv (.t 25)), none, .any⟩, ⟨(some 6), (.mv (.c (.bool true))), none, .any⟩] true [4, 5, 6] []) .ret) .skip))) ic116_1)
def ic116_3 : IC := (.seq (.seq (.reg [⟨(some 8), (.mv (.t 7)), none, .any⟩, ⟨(some 9), (.mv (.t 0)), none, .any⟩, ⟨(some 10), (.len true (.t 9)), none, .any⟩, ⟨(some 11), (.bin .lss none (.t 8) (.t 10)), none, .any⟩] false [0, 1, 7, 11] []) (.cond (.t 11) .skip (.exit 0))) ic116_2)
def ic116_4 : IC := (.seq (.reg [⟨(some 26), (.mv (.t 0)), none, .any⟩, ⟨(some 4), (.mv (.t 26)), none, .any⟩, ⟨(some 5), (.mv (.c (.str []))), none, .any⟩, ⟨(some 6), (.mv (.c (.bool false))), none, .any⟩] false [4, 5, 6] []) .ret)
def ic116 : IC := (.seq (.reg [⟨(some 4), (.mv (.c (.str []))), none, .any⟩, ⟨(some 5), (.mv (.c (.str []))), none, .any⟩, ⟨(some 6), (.mv (.c (.bool false))), none, .any⟩] false [0, 1] []) (.seq (.seq (.reg [⟨(some 7), (.mv (.c (.int .i64 0))), none, .any⟩] false [0, 1, 7] []) (.block 0 (.loop ic116_3))) ic116_4))
def kp116 : List (Nat × Keep) := [(0, ⟨[0, 1], [], []⟩),
  (1, ⟨[0, 1, 7], [], []⟩),
  (2, ⟨[0, 1, 7, 11], [], []⟩),
  (3, ⟨[0, 1, 7], [], []⟩),
  (4, ⟨[0, 1, 7, 18], [], []⟩),
  (5, ⟨[4, 5, 6], [], []⟩),
  (6, ⟨[4, 5, 6], [], []⟩)]
theorem c116 : (Tryz.f116.body.bind fun c => compC Tryz.prog 27 [] kp116 c) = some ic116 := by kernel_rfl
theorem e116 {args : List AV} {r : AV} (ha : args.length ≤ 27) (h : VC e0 ic116 (retQ [(4, none), (5, none), (6, none)] r) ⟨argT 0 args, []⟩) : Fn 116 args r := fn_of Tryz.func116 rfl (by kernel_rfl) c116 ha (by decide) h

def ic117_1 : IC := (.block 1 (.reg [⟨(some 11), (.mv (.t 0)), none, .any⟩, ⟨(some 12), (.ss (.t 11) (some (.c (.int .i64 1))) none), none, .any⟩, ⟨(some 0), (.mv (.t 12)), none, .any⟩] false [0] []))
def ic117_2 : IC := (.seq (.seq (.reg [⟨(some 3), (.mv (.t 0)), none, .any⟩, ⟨(some 4), (.len true (.t 3)), none, .any⟩, ⟨(some 5), (.bin .gtr none (.t 4) (.c (.int .i64 0))), none, .any⟩, ⟨(some 6), (.mv (.t 5)), none, .any⟩, ⟨(some 7), (.mv (.t 0)), (some (6, true)), .any⟩, ⟨(some 8), (.ix (.t 7) (.c (.int .i64 0))), (some (6, true)), .any⟩, ⟨(some 9), (.bin .eql none (.t 8) (.c (.int .u8 48))), (some (6, true)), .any⟩, ⟨(some 10), (.pick (.t 6) (.t 9) (.c (.bool false))), none, .any⟩] false [0, 10] []) (.cond (.t 10) .skip (.exit 0))) ic117_1)
def ic117_3 : IC := (.seq (.reg [⟨(some 13), (.mv (.t 0)), none, .any⟩, ⟨(some 2), (.mv (.t 13)), none, .any⟩] false [2] []) .ret)
def ic117 : IC := (.seq (.reg [⟨(some 2), (.mv (.c (.str []))), none, .any⟩] false [0] []) (.seq (.block 0 (.loop ic117_2)) ic117_3))
def kp117 : List (Nat × Keep) := [(0, ⟨[0], [], []⟩),
  (1, ⟨[0, 10], [], []⟩),
  (2, ⟨[0], [], []⟩),
  (3, ⟨[2], [], []⟩)]
theorem c117 : (Tryz.f117.body.bind fun c => compC Tryz.prog 14 [] kp117 c) = some ic117 := by kernel_rfl
theorem e117 {args : List AV} {r : AV} (ha : args.length ≤ 14) (h : VC e0 ic117 (retQ [(2, none)] r) ⟨argT 0 args, []⟩) : Fn 117 args r := fn_of Tryz.func117 rfl (by kernel_rfl) c117 ha (by decide) h

def ic118_1 : IC := (.reg [⟨(some 11), (.mv (.t 6)), none, .any⟩, ⟨(some 12), (.bin .add none (.t 11) (.c (.int .i64 1))), none, .any⟩, ⟨(some 6), (.mv (.t 12)), none, .any⟩] false [0, 1, 5, 6] [])
def ic118_2 : IC := (.seq (.block 1 (.seq (.reg [⟨(some 13), (.mv (.t 0)), none, .any⟩, ⟨(some 14), (.mv (.t 6)), none, .any⟩, ⟨(some 15), (.ix (.t 13) (.t 14)), none, .any⟩, ⟨(some 16), (.mv (.t 1)), none, .any⟩, ⟨(some 17), (.bin .eql none (.t 15) (.t 16)), none, .any⟩, ⟨(some 18), (.mv (.t 17)), none, .any⟩, ⟨(some 19), (.mv (.t 1)), (some (18, false)), .any⟩, ⟨(some 20), (.bin .eql none (.t 19) (.c (.int .u8 48))), (some (18, false)), .any⟩, ⟨(some 21), (.mv (.t 20)), (some (18, false)), .any⟩, ⟨(some 22), (.mv (.t 0)), (some (21, true)), .any⟩, ⟨(some 23), (.mv (.t 6)), (some (21, true)), .any⟩, ⟨(some 24), (.ix (.t 22) (.t 23)), (some (21, true)), .any⟩, ⟨(some 25), (.bin .geq none (.t 24) (.c (.int .u8 48))), (some (21, true)), .any⟩, ⟨(some 26), (.pick (.t 21) (.t 25) (.c (.bool false))), (some (18, false)), .any⟩, ⟨(some 27), (.mv (.t 26)), (some (18, false)), .any⟩, ⟨(some 28), (.mv (.t 0)), (some (27, true)), .any⟩, ⟨(some 29), (.mv (.t 6)), (some (27, true)), .any⟩, ⟨(some 30), (.ix (.t 28) (.t 29)), (some (27, true)), .any⟩, ⟨(some 31), (.bin .leq none (.t 30) (.c (.int .u8 57))), (some (27, true)), .any⟩, ⟨(some 32), (.pick (.t 27) (.t 31) (.c (.bool false))), (some (18, false)), .any⟩, ⟨(some 33), (.pick (.t 18) (.c (.bool true)) (.t 32)), none, .any⟩] false [0, 1, 5, 6, 33] []) (.cond (.t 33) (.reg [⟨(some 34), (.mv (.t 5)), none, .any⟩, ⟨(some 35), (.bin .add none (.t 34) (.c (.int .i64 1))), none, .any⟩, ⟨(some 5), (.mv (.t 35)), none, .any⟩] false [0, 1, 5, 6] []) .skip))) ic118_1)
def ic118_3 : IC := (.seq (.seq (.reg [⟨(some 7), (.mv (.t 6)), none, .any⟩, ⟨(some 8), (.mv (.t 0)), none, .any⟩, ⟨(some 9), (.len true (.t 8)), none, .any⟩, ⟨(some 10), (.bin .lss none (.t 7) (.t 9)), none, .any⟩] false [0, 1, 5, 6, 10] []) (.cond (.t 10) .skip (.exit 0))) ic118_2)
def ic118_4 : IC := (.seq (.reg [⟨(some 36), (.mv (.t 5)), none, .any⟩, ⟨(some 4), (.mv (.t 36)), none, .any⟩] false [4] []) .ret)
def ic118 : IC := (.seq (.reg [⟨(some 4), (.mv (.c (.int .i64 0))), none, .any⟩] false [0, 1] []) (.seq (.reg [⟨(some 5), (.mv (.c (.int .i64 0))), none, .any⟩] false [0, 1, 5] []) (.seq (.seq (.reg [⟨(some 6), (.mv (.c (.int .i64 0))), none, .any⟩] false [0, 1, 5, 6] []) (.block 0 (.loop ic118_3))) ic118_4)))
def kp118 : List (Nat × Keep) := [(0, ⟨[0, 1], [], []⟩),
  (1, ⟨[0, 1, 5], [], []⟩),
  (2, ⟨[0, 1, 5, 6], [], []⟩),
  (3, ⟨[0, 1, 5, 6, 10], [], []⟩),
  (4, ⟨[0, 1, 5, 6], [], []⟩),
  (5, ⟨[0, 1, 5, 6, 33], [], []⟩),
  (6, ⟨[0, 1, 5, 6], [], []⟩),
  (7, ⟨[4], [], []⟩)]
theorem c118 : (Tryz.f118.body.bind fun c => compC Tryz.prog 37 [] kp118 c) = some ic118 := by kernel_rfl
theorem e118 {args : List AV} {r : AV} (ha : args.length ≤ 37) (h : VC e0 ic118 (retQ [(4, none)] r) ⟨argT 0 args, []⟩) : Fn 118 args r := fn_of Tryz.func118 rfl (by kernel_rfl) c118 ha (by decide) h

def ic119_1 : IC := (.block 3 (.reg [⟨(some 37), (.mv (.t 10)), none, .any⟩, ⟨(some 38), (.bin .add none (.t 37) (.c (.int .i64 1))), none, .any⟩, ⟨(some 10), (.mv (.t 38)), none, .any⟩] false [0, 9, 10, 11] [15]))
def ic119_2 : IC := (.seq (.seq (.reg [⟨(some 22), (.mv (.t 10)), none, .any⟩, ⟨(some 23), (.bin .lss none (.t 22) (.c (.int .i64 3))), none, .any⟩, ⟨(some 24), (.mv (.t 23)), none, .any⟩, ⟨(some 25), (.mv (.t 0)), (some (24, true)), .any⟩, ⟨(some 26), (.mv (.t 11)), (some (24, true)), .any⟩, ⟨(some 27), (.mv (.t 11)), (some (24, true)), .any⟩, ⟨(some 28), (.bin .add none (.t 27) (.c (.int .i64 1))), (some (24, true)), .any⟩, ⟨(some 29), (.ss (.t 25) (some (.t 26)) (some (.t 28))), (some (24, true)), .any⟩, ⟨(some 30), (.mv (.t 9)), (some (24, true)), .any⟩, ⟨(some 31), (.mv (.t 10)), (some (24, true)), .any⟩, ⟨(some 32), (.ia 1 (.t 30) (.t 31)), (some (24, true)), .any⟩, ⟨(some 33), (.ld none (.t 32)), (some (24, true)), .any⟩, ⟨(some 34), (.call 118 [((.t 29), none), ((.t 33), none)]), (some (24, true)), .any⟩, ⟨(some 35), (.bin .eql none (.t 34) (.c (.int .i64 0))), (some (24, true)), .any⟩, ⟨(some 36), (.pick (.t 24) (.t 35) (.c (.bool false))), none, .any⟩] true [0, 9, 10, 11, 36] [15]) (.cond (.t 36) .skip (.exit 2))) ic119_1)
def ic119_3 : IC := (.seq (.reg [⟨(some 39), (.mv (.t 10)), none, .any⟩, ⟨(some 40), (.bin .eql none (.t 39) (.c (.int .i64 3))), none, .any⟩] false [0, 9, 10, 11, 40] [15]) (.cond (.t 40) (.seq (.reg [⟨(some 8), (.mv (.c (.bool false))), none, .any⟩] false [8] []) .ret) .skip))
def ic119_4 : IC := (.reg [⟨(some 20), (.mv (.t 11)), none, .any⟩, ⟨(some 21), (.bin .add none (.t 20) (.c (.int .i64 1))), none, .any⟩, ⟨(some 11), (.mv (.t 21)), none, .any⟩] false [0, 9, 10, 11] [15])
def ic119_5 : IC := (.seq (.block 1 (.seq (.block 2 (.loop ic119_2)) ic119_3)) ic119_4)
def ic119_6 : IC := (.seq (.seq (.reg [⟨(some 16), (.mv (.t 11)), none, .any⟩, ⟨(some 17), (.mv (.t 0)), none, .any⟩, ⟨(some 18), (.len true (.t 17)), none, .any⟩, ⟨(some 19), (.bin .lss none (.t 16) (.t 18)), none, .any⟩] false [0, 9, 10, 11, 19] [15]) (.cond (.t 19) .skip (.exit 0))) ic119_5)
def ic119_7 : IC := (.seq (.reg [⟨(some 8), (.mv (.c (.bool true))), none, .any⟩] false [8] []) .ret)
def ic119 : IC := (.seq (.reg [⟨(some 8), (.mv (.c (.bool false))), none, .any⟩] false [0, 1, 2, 3] []) (.seq (.reg [⟨(some 12), (.mv (.t 1)), none, .any⟩, ⟨(some 13), (.mv (.t 2)), none, .any⟩, ⟨(some 14), (.mv (.t 3)), none, .any⟩, ⟨(some 15), (.lit false 5 1 [(.t 12), (.t 13), (.t 14)]), none, .any⟩, ⟨(some 9), (.mv (.t 15)), none, .any⟩] false [0, 9] [15]) (.seq (.reg [⟨(some 10), (.mv (.c (.int .i64 0))), none, .any⟩] false [0, 9, 10] [15]) (.seq (.seq (.reg [⟨(some 11), (.mv (.c (.int .i64 0))), none, .any⟩] false [0, 9, 10, 11] [15]) (.block 0 (.loop ic119_6))) ic119_7))))
def kp119 : List (Nat × Keep) := [(0, ⟨[0, 1, 2, 3], [], []⟩),
  (1, ⟨[0, 9], [15], []⟩),
  (2, ⟨[0, 9, 10], [15], []⟩),
  (3, ⟨[0, 9, 10, 11], [15], []⟩),
  (4, ⟨[0, 9, 10, 11, 19], [15], []⟩),
  (5, ⟨[0, 9, 10, 11], [15], []⟩),
  (6, ⟨[0, 9, 10, 11, 36], [15], []⟩),
  (7, ⟨[0, 9, 10, 11], [15], []⟩),
  (8, ⟨[0, 9, 10, 11, 40], [15], []⟩),
  (9, ⟨[8], [], []⟩),
  (10, ⟨[8], [], []⟩)]
theorem c119 : (Tryz.f119.body.bind fun c => compC Tryz.prog 41 [] kp119 c) = some ic119 := by kernel_rfl
theorem e119 {args : List AV} {r : AV} (ha : args.length ≤ 41) (h : VC e0 ic119 (retQ [(8, none)] r) ⟨argT 0 args, []⟩) : Fn 119 args r := fn_of Tryz.func119 rfl (by kernel_rfl) c119 ha (by decide) h


/-- A decimal as it stands. -/
def D (neg : Bool) (s : List UInt8) (e : Int) : AV := .agg [.bool neg, .str s, i64 e]
/-- A decimal as it should be. -/
def N (neg : Bool) (c : Nat) (e : Int) : AV := D neg (text (core c)) (ne c e)

theorem strBeq (a b : List UInt8) : (a == b) = decide (a = b) := by
  by_cases h : a = b
  · subst h; simp
  · simp [h]

theorem N_zero (neg : Bool) (e : Int) : N neg 0 e = D neg [48] 0 := by rw [N, core_zero]; rfl
theorem N_pos {neg : Bool} {c : Nat} {e : Int} (h : c ≠ 0) : N neg c e = D neg (digs (core c)) (e + tz c) := by rw [N, text_pos (core_ne h), ne_pos h]

theorem con65z {neg : Bool} {s : List UInt8} {e : Int} (h1 : Fn 93 [.str s, .str [48]] (.str [])) : Fn 65 [D neg s e] (D neg [48] 0) := by
  refine e65 (by simp) ?_
  simp only [ic65, wkA, Nat.reduceEqDiff, Nat.reduceAdd, Nat.reduceSub, Nat.reduceLeDiff, Nat.reduceLT, Nat.reduceBEq, Nat.reduceBNe, reduceCtorEq, D]
  refine callF h1 rfl ?_
  have h1 : (([] : List UInt8) == []) = true := rfl
  simp only [ic65_1, wkA, Nat.reduceEqDiff, Nat.reduceAdd, Nat.reduceSub, Nat.reduceLeDiff, Nat.reduceLT, Nat.reduceBEq, Nat.reduceBNe, reduceCtorEq, h1]
theorem con65p {neg : Bool} {s t u : List UInt8} {e : Int} (h1 : Fn 93 [.str s, .str [48]] (.str t)) (h2 : Fn 94 [.str t, .str [48]] (.str u)) (h0 : (t == []) = false) (hl : t.length < 1000000) (hu : u.length ≤ t.length) (he : -1000000000 < e ∧ e < 1000000000) : Fn 65 [D neg s e] (D neg u (e + t.length - u.length)) := by
  refine e65 (by simp) ?_
  simp only [ic65, wkA, Nat.reduceEqDiff, Nat.reduceAdd, Nat.reduceSub, Nat.reduceLeDiff, Nat.reduceLT, Nat.reduceBEq, Nat.reduceBNe, reduceCtorEq, D]
  refine callF h1 rfl ?_
  have e2 : IntKind.i64.wrap (e + (t.length : Int)) = e + (t.length : Int) := by rw [wrap64] <;> omega
  have e3 : IntKind.i64.wrap (e + (t.length : Int) - (u.length : Int)) = e + t.length - u.length := by rw [wrap64] <;> omega
  simp only [ic65_1, wkA, Nat.reduceEqDiff, Nat.reduceAdd, Nat.reduceSub, Nat.reduceLeDiff, Nat.reduceLT, Nat.reduceBEq, Nat.reduceBNe, reduceCtorEq, h0]
  refine callF h2 rfl ?_
  simp only [wkA, Nat.reduceEqDiff, Nat.reduceAdd, Nat.reduceSub, Nat.reduceLeDiff, Nat.reduceLT, Nat.reduceBEq, Nat.reduceBNe, reduceCtorEq, e2, e3]
theorem con65 {neg : Bool} {s : List UInt8} {e : Int} (hs : dgs s = true) (hl : s.length < 1000000) (he : -1000000000 < e ∧ e < 1000000000) : Fn 65 [D neg s e] (N neg (dv s) e) := by
  have h1 := con93 s (by omega)
  rw [← digs_dv hs] at h1
  have hn := nd_dv hs
  by_cases h0 : dv s = 0
  · rw [h0, digs_zero] at h1
    rw [h0, N_zero]
    exact con65z h1
  · have h2 := con94 (digs (dv s)) (by have : (digs (dv s)).length = nd (dv s) := rfl; omega)
    rw [rstrip_digs h0] at h2
    have e1 : (digs (dv s)).length = (digs (core (dv s))).length + tz (dv s) := nd_core h0
    have h3 := con65p (neg := neg) h1 h2 (by rw [strBeq]; exact decide_eq_false fun e => h0 (digs_nil.1 e)) (by have : (digs (dv s)).length = nd (dv s) := rfl; omega) (by omega) he
    rw [N_pos h0]
    rw [show e + ((digs (dv s)).length : Int) - ((digs (core (dv s))).length : Int) = e + tz (dv s) by omega] at h3
    exact h3

/-- What a decimal may be: digits, not too many; no exponent that is too far off. -/
def okD (s : List UInt8) (e : Int) : Prop := dgs s = true ∧ s ≠ [] ∧ s.length < 100000 ∧ -1000000 < e ∧ e < 1000000
theorem okD.norm {s : List UInt8} {e : Int} (h : okD s e) (neg : Bool) : Fn 65 [D neg s e] (N neg (dv s) e) := con65 h.1 (by have := h.2.2.1; omega) (by have := h.2.2.2; omega)

theorem con43 {neg : Bool} {s : List UInt8} {e n : Int} (h : okD s e) (hn : -1000000 < n ∧ n < 1000000) : Fn 43 [D neg s e, i64 n] (N neg (dv s) (e + n)) := by
  refine e43 (by simp) ?_
  have e1 : IntKind.i64.wrap (e + n) = e + n := by have := h.2.2.2; rw [wrap64] <;> omega
  simp only [ic43, wkA, Nat.reduceEqDiff, Nat.reduceAdd, Nat.reduceSub, Nat.reduceLeDiff, Nat.reduceLT, Nat.reduceBEq, Nat.reduceBNe, reduceCtorEq, D, e1]
  refine callF (con65 h.1 (by have := h.2.2.1; omega) (by have := h.2.2.2; omega) : Fn 65 [D neg s (e + n)] _) rfl ?_
  simp only [wkA, Nat.reduceEqDiff, Nat.reduceAdd, Nat.reduceSub, Nat.reduceLeDiff, Nat.reduceLT, Nat.reduceBEq, Nat.reduceBNe, reduceCtorEq, N, D]
theorem con62 {neg : Bool} {s : List UInt8} {e : Int} (h : okD s e) : Fn 62 [D neg s e] (N false (dv s) e) := by
  refine e62 (by simp) ?_
  simp only [ic62, wkA, Nat.reduceEqDiff, Nat.reduceAdd, Nat.reduceSub, Nat.reduceLeDiff, Nat.reduceLT, Nat.reduceBEq, Nat.reduceBNe, reduceCtorEq, D]
  refine callF (h.norm false) rfl ?_
  simp only [wkA, Nat.reduceEqDiff, Nat.reduceAdd, Nat.reduceSub, Nat.reduceLeDiff, Nat.reduceLT, Nat.reduceBEq, Nat.reduceBNe, reduceCtorEq, N, D]
theorem con66 {neg : Bool} {s : List UInt8} {e : Int} (h : okD s e) : Fn 66 [D neg s e] (i64 (top (dv s) e)) := by
  refine e66 (by simp) ?_
  have hl : nd (dv s) ≤ s.length := nd_dv h.1
  have := h.2.2
  simp only [ic66, wkA, Nat.reduceEqDiff, Nat.reduceAdd, Nat.reduceSub, Nat.reduceLeDiff, Nat.reduceLT, Nat.reduceBEq, Nat.reduceBNe, reduceCtorEq, D]
  refine callF (h.norm neg) rfl ?_
  by_cases h0 : dv s = 0
  · have h1 : ([48] == ([48] : List UInt8)) = true := rfl
    rw [h0, N_zero]
    simp only [ic66_1, wkA, Nat.reduceEqDiff, Nat.reduceAdd, Nat.reduceSub, Nat.reduceLeDiff, Nat.reduceLT, Nat.reduceBEq, Nat.reduceBNe, reduceCtorEq, D, h1, top]
  · have h1 : (digs (core (dv s)) == [48]) = false := by
      rw [strBeq]; exact decide_eq_false fun e => core_ne h0 (text_eq48.1 (by rw [text_pos (core_ne h0)]; exact e))
    rw [N_pos h0, top, if_neg h0]
    have e1 : nd (dv s) = (digs (core (dv s))).length + tz (dv s) := nd_core h0
    generalize digs (core (dv s)) = m at *
    generalize tz (dv s) = k at *
    have e2 : IntKind.i64.wrap (e + k + (m.length : Int)) = e + k + (m.length : Int) := by rw [wrap64] <;> omega
    have e3 : IntKind.i64.wrap (e + k + (m.length : Int) - 1) = e + nd (dv s) - 1 := by rw [wrap64] <;> omega
    simp only [ic66_1, wkA, Nat.reduceEqDiff, Nat.reduceAdd, Nat.reduceSub, Nat.reduceLeDiff, Nat.reduceLT, Nat.reduceBEq, Nat.reduceBNe, reduceCtorEq, D, h1, e2, e3]
theorem con81 {neg : Bool} {s : List UInt8} {e : Int} (h : okD s e) : Fn 81 [D neg s e] (.bool (decide (dv s = 0))) := by
  refine e81 (by simp) ?_
  simp only [ic81, wkA, Nat.reduceEqDiff, Nat.reduceAdd, Nat.reduceSub, Nat.reduceLeDiff, Nat.reduceLT, Nat.reduceBEq, Nat.reduceBNe, reduceCtorEq, D]
  refine callF (h.norm neg) rfl ?_
  have h1 : (text (core (dv s)) == [48]) = decide (dv s = 0) := by
    rw [strBeq, decide_eq_decide, text_eq48]
    exact ⟨fun h => Classical.not_not.1 fun hn => core_ne hn h, fun h => by rw [h, core_zero]⟩
  simp only [wkA, Nat.reduceEqDiff, Nat.reduceAdd, Nat.reduceSub, Nat.reduceLeDiff, Nat.reduceLT, Nat.reduceBEq, Nat.reduceBNe, reduceCtorEq, N, D, h1]
theorem con44 {neg : Bool} {s : List UInt8} {e : Int} (h : okD s e) : Fn 44 [D neg s e] (i64 (text (core (dv s))).length) := by
  refine e44 (by simp) ?_
  simp only [ic44, wkA, Nat.reduceEqDiff, Nat.reduceAdd, Nat.reduceSub, Nat.reduceLeDiff, Nat.reduceLT, Nat.reduceBEq, Nat.reduceBNe, reduceCtorEq, D]
  refine callF (h.norm neg) rfl ?_
  simp only [wkA, Nat.reduceEqDiff, Nat.reduceAdd, Nat.reduceSub, Nat.reduceLeDiff, Nat.reduceLT, Nat.reduceBEq, Nat.reduceBNe, reduceCtorEq, N, D]
theorem con61 {neg : Bool} {s : List UInt8} {e n : Int} (h : okD s e) (hn : -1000000 < n ∧ n < 1000000) : Fn 61 [D neg s e, i64 n] (i64 (top (dv s) e - (if n < 1 then 1 else n) + 1)) := by
  refine e61 (by simp) ?_
  simp only [ic61, wkA, Nat.reduceEqDiff, Nat.reduceAdd, Nat.reduceSub, Nat.reduceLeDiff, Nat.reduceLT, Nat.reduceBEq, Nat.reduceBNe, reduceCtorEq, D]
  refine callF (con66 h) rfl ?_
  have hl : nd (dv s) ≤ s.length := nd_dv h.1
  have h3 := h.2.2
  have h4 : -2000000 < top (dv s) e ∧ top (dv s) e < 2000000 := by unfold top; split <;> omega
  generalize top (dv s) e = t at *
  obtain ⟨m, hm⟩ : ∃ m, m = (if n < 1 then (1 : Int) else n) := ⟨_, rfl⟩
  have hm2 : -1000000 < m ∧ m < 1000000 := by rw [hm]; split <;> omega
  have e1 : IntKind.i64.wrap (t - m) = t - m := by rw [wrap64] <;> omega
  have e2 : IntKind.i64.wrap (t - m + 1) = t - m + 1 := by rw [wrap64] <;> omega
  simp only [wkA, Nat.reduceEqDiff, Nat.reduceAdd, Nat.reduceSub, Nat.reduceLeDiff, Nat.reduceLT, Nat.reduceBEq, Nat.reduceBNe, reduceCtorEq, ← hm, e1, e2]
theorem con72 {neg : Bool} {s : List UInt8} {e : Int} (h : okD s e) : Fn 72 [D neg s e] (L (limbs (dv s))) := by
  refine e72 (by simp) ?_
  simp only [ic72, wkA, Nat.reduceEqDiff, Nat.reduceAdd, Nat.reduceSub, Nat.reduceLeDiff, Nat.reduceLT, Nat.reduceBEq, Nat.reduceBNe, reduceCtorEq, D]
  refine callF (con64 (by have := h.2.2.1; omega) h.1 h.2.1) rfl ?_
  simp only [wkA, Nat.reduceEqDiff, Nat.reduceAdd, Nat.reduceSub, Nat.reduceLeDiff, Nat.reduceLT, Nat.reduceBEq, Nat.reduceBNe, reduceCtorEq, L]
/-- The digit of a place. -/
def digAt (s : List UInt8) (e p : Int) : Nat := if p < e ∨ e + s.length ≤ p then 0 else (s.getD (s.length - 1 - (p - e).toNat) 0).toNat - 48
theorem con112 {neg : Bool} {s : List UInt8} {e p : Int} (h : okD s e) (hp : -10000000 < p ∧ p < 10000000) : Fn 112 [D neg s e, i64 p] (i64 (digAt s e p)) := by
  refine e112 (by simp) ?_
  have h3 := h.2.2
  have e1 : IntKind.i64.wrap (e + (s.length : Int)) = e + (s.length : Int) := by rw [wrap64] <;> omega
  unfold digAt
  by_cases h1 : p < e
  · have h2 : decide (p < e) = true := decide_eq_true h1
    rw [if_pos (.inl h1)]
    simp only [ic112, ic112_1, wkA, Nat.reduceEqDiff, Nat.reduceAdd, Nat.reduceSub, Nat.reduceLeDiff, Nat.reduceLT, Nat.reduceBEq, Nat.reduceBNe, reduceCtorEq, D, h2]
    rfl
  · have h2 : decide (p < e) = false := decide_eq_false h1
    by_cases h4 : e + (s.length : Int) ≤ p
    · have h5 : decide (p ≥ e + (s.length : Int)) = true := decide_eq_true h4
      rw [if_pos (.inr h4)]
      simp only [ic112, ic112_1, wkA, Nat.reduceEqDiff, Nat.reduceAdd, Nat.reduceSub, Nat.reduceLeDiff, Nat.reduceLT, Nat.reduceBEq, Nat.reduceBNe, reduceCtorEq, D, h2, e1, h5]
      rfl
    · have h5 : decide (p ≥ e + (s.length : Int)) = false := decide_eq_false (by omega)
      rw [if_neg (by omega)]
      have hk : (s.length : Int) - 1 - (p - e) = ((s.length - 1 - (p - e).toNat : Nat) : Int) := by omega
      have hlt : s.length - 1 - (p - e).toNat < s.length := by omega
      have hd := isDg_iff.1 (dgs_get h.1 hlt)
      generalize s.length - 1 - (p - e).toNat = k at *
      have e2 : IntKind.i64.wrap ((s.length : Int) - 1) = (s.length : Int) - 1 := by rw [wrap64] <;> omega
      have e3 : IntKind.i64.wrap (p - e) = p - e := by rw [wrap64] <;> omega
      have e4 : IntKind.i64.wrap ((s.length : Int) - 1 - (p - e)) = (k : Int) := by rw [wrap64] <;> omega
      have e5 : IntKind.u8.wrap (((s.getD k 0).toNat : Int) - 48) = (((s.getD k 0).toNat - 48 : Nat) : Int) := by
        simp only [IntKind.wrap, IntKind.signed, IntKind.bits, Bool.false_and, Bool.false_eq_true, if_false]; omega
      have e6 : IntKind.i64.wrap (((s.getD k 0).toNat - 48 : Nat) : Int) = (((s.getD k 0).toNat - 48 : Nat) : Int) := by rw [wrap64] <;> omega
      simp only [ic112, ic112_1, wkA, Nat.reduceEqDiff, Nat.reduceAdd, Nat.reduceSub, Nat.reduceLeDiff, Nat.reduceLT, Nat.reduceBEq, Nat.reduceBNe, reduceCtorEq, D, h2, e1, h5, e2, e3, e4, e5, e6, Int.toNat_natCast]
      omega

/-- May a decimal be handed in? -/
def goodD (s : List UInt8) (e : Int) : Bool := decide (s.length ≤ 1000) && decide (-1000 ≤ e) && decide (e ≤ 1000) && (dgs s && decide (s ≠ []))
theorem goodD_ok {s : List UInt8} {e : Int} (h : goodD s e = true) : okD s e ∧ s.length ≤ 1000 ∧ -1000 ≤ e ∧ e ≤ 1000 := by
  simp only [goodD, Bool.and_eq_true, decide_eq_true_eq] at h
  exact ⟨⟨h.2.1, h.2.2, by omega, by omega, by omega⟩, by omega, by omega, by omega⟩
/-- Is it in range? -/
def rngd (c : Nat) (e : Int) : Bool := decide (c = 0) || (decide (-300 ≤ ne c e) && decide (top c e < 300))

theorem con39 {neg : Bool} {s : List UInt8} {e : Int} : Fn 39 [D neg s e] (.bool (goodD s e)) := by
  refine e39 (by simp) ?_
  by_cases h1 : 1000 < s.length
  · have h2 : decide ((s.length : Int) > 1000) = true := decide_eq_true (by omega)
    have h3 : goodD s e = false := by simp [goodD]; omega
    simp only [ic39, ic39_1, wkA, Nat.reduceEqDiff, Nat.reduceAdd, Nat.reduceSub, Nat.reduceLeDiff, Nat.reduceLT, Nat.reduceBEq, Nat.reduceBNe, reduceCtorEq, D, h2, h3]
  · have h2 : decide ((s.length : Int) > 1000) = false := decide_eq_false (by omega)
    have h2b : decide (s.length ≤ 1000) = true := decide_eq_true (by omega)
    by_cases h3 : e < -1000
    · have h4 : decide (e < -1000) = true := decide_eq_true h3
      have h5 : goodD s e = false := by simp [goodD]; omega
      simp only [ic39, ic39_1, wkA, Nat.reduceEqDiff, Nat.reduceAdd, Nat.reduceSub, Nat.reduceLeDiff, Nat.reduceLT, Nat.reduceBEq, Nat.reduceBNe, reduceCtorEq, D, h2, h4, h5]
    · have h4 : decide (e < -1000) = false := decide_eq_false h3
      by_cases h5 : 1000 < e
      · have h6 : decide (e > 1000) = true := decide_eq_true h5
        have h7 : goodD s e = false := by simp [goodD]; omega
        simp only [ic39, ic39_1, wkA, Nat.reduceEqDiff, Nat.reduceAdd, Nat.reduceSub, Nat.reduceLeDiff, Nat.reduceLT, Nat.reduceBEq, Nat.reduceBNe, reduceCtorEq, D, h2, h4, h6, h7]
      · have h6 : decide (e > 1000) = false := decide_eq_false h5
        have h7 : goodD s e = (dgs s && decide (s ≠ [])) := by
          have h8 : decide (-1000 ≤ e) = true := decide_eq_true (by omega)
          have h9 : decide (e ≤ 1000) = true := decide_eq_true (by omega)
          rw [goodD, h2b, h8, h9]; rfl
        rw [h7]
        simp only [ic39, ic39_1, wkA, Nat.reduceEqDiff, Nat.reduceAdd, Nat.reduceSub, Nat.reduceLeDiff, Nat.reduceLT, Nat.reduceBEq, Nat.reduceBNe, reduceCtorEq, D, h2, h4, h6]
        by_cases h8 : dgs s = true ∧ s ≠ []
        · have h9 : (dgs s && decide (s ≠ [])) = true := by rw [h8.1, decide_eq_true h8.2]; rfl
          refine callF (con64 (by omega) h8.1 h8.2) rfl ?_
          simp only [ic39_1, wkA, Nat.reduceEqDiff, Nat.reduceAdd, Nat.reduceSub, Nat.reduceLeDiff, Nat.reduceLT, Nat.reduceBEq, Nat.reduceBNe, reduceCtorEq, h9]
        · have h9 : (dgs s && decide (s ≠ [])) = false := by
            rw [Bool.and_eq_false_iff]
            by_cases h10 : dgs s = true
            · exact .inr (decide_eq_false fun h => h8 ⟨h10, h⟩)
            · exact .inl (by simpa using h10)
          refine callF (con64_no (by omega) (by
            by_cases h10 : dgs s = true
            · exact .inr (Classical.not_not.1 fun h => h8 ⟨h10, h⟩)
            · exact .inl (by simpa using h10))) rfl ?_
          simp only [ic39_1, wkA, Nat.reduceEqDiff, Nat.reduceAdd, Nat.reduceSub, Nat.reduceLeDiff, Nat.reduceLT, Nat.reduceBEq, Nat.reduceBNe, reduceCtorEq, h9]

theorem top_ok {s : List UInt8} {e : Int} (h : okD s e) : -2000000 < top (dv s) e ∧ top (dv s) e < 2000000 := by
  have hl : nd (dv s) ≤ s.length := nd_dv h.1
  have h3 := h.2.2
  unfold top; split <;> omega
/-- The normal form is good, too. -/
theorem ne_ok {s : List UInt8} {e : Int} (h : okD s e) : -1000000 < ne (dv s) e ∧ ne (dv s) e < 1100000 := by
  have hl : nd (dv s) ≤ s.length := nd_dv h.1
  have h3 := h.2.2
  have := tz_le (dv s)
  unfold ne; split <;> omega
theorem okN {c : Nat} {e : Int} (h : nd c < 99990) (he : -1000000 < e ∧ e + nd c < 1000000) : okD (text (core c)) (ne c e) := by
  refine ⟨dgs_text _, text_ne _, ?_, ?_⟩
  · have h1 := text_len (core c)
    have h2 : nd (core c) ≤ nd c := by
      by_cases h0 : c = 0
      · subst h0; rw [core_zero]; omega
      · rw [nd_core h0]; omega
    omega
  · have := tz_le c
    unfold ne; split <;> omega

theorem con40 {neg : Bool} {s : List UInt8} {e : Int} (h : okD s e) (h9 : s.length < 99990) (h8 : e + s.length < 1000000) : Fn 40 [D neg s e] (.bool (rngd (dv s) e)) := by
  refine e40 (by simp) ?_
  have hl : nd (dv s) ≤ s.length := nd_dv h.1
  have h3 := h.2.2
  simp only [ic40, wkA, Nat.reduceEqDiff, Nat.reduceAdd, Nat.reduceSub, Nat.reduceLeDiff, Nat.reduceLT, Nat.reduceBEq, Nat.reduceBNe, reduceCtorEq, D]
  refine callF (h.norm neg) rfl ?_
  by_cases h0 : dv s = 0
  · have h1 : ([48] == ([48] : List UInt8)) = true := rfl
    have h2 : rngd (dv s) e = true := by rw [h0]; rfl
    rw [h2, h0, N_zero]
    simp only [wkA, Nat.reduceEqDiff, Nat.reduceAdd, Nat.reduceSub, Nat.reduceLeDiff, Nat.reduceLT, Nat.reduceBEq, Nat.reduceBNe, reduceCtorEq, D, h1]
  · have h1 : (digs (core (dv s)) == [48]) = false := by
      rw [strBeq]; exact decide_eq_false fun e => core_ne h0 (text_eq48.1 (by rw [text_pos (core_ne h0)]; exact e))
    have h2 : rngd (dv s) e = (decide (-300 ≤ ne (dv s) e) && decide (top (dv s) e < 300)) := by rw [rngd, decide_eq_false h0]; rfl
    have hn := okN (c := dv s) (e := e) (by omega) (by omega)
    have hc := con66 (neg := neg) hn
    rw [dv_text, top_core, text_pos (core_ne h0), ne_pos h0] at hc
    rw [h2, N_pos h0, ne_pos h0]
    generalize digs (core (dv s)) = m at *
    generalize e + (tz (dv s) : Int) = k at *
    generalize top (dv s) e = t at *
    by_cases h4 : k ≥ -300
    · have h5 : decide (k ≥ -300) = true := decide_eq_true h4
      have h6 : decide (-300 ≤ k) = true := decide_eq_true h4
      rw [h6, Bool.true_and]
      simp only [wkA, Nat.reduceEqDiff, Nat.reduceAdd, Nat.reduceSub, Nat.reduceLeDiff, Nat.reduceLT, Nat.reduceBEq, Nat.reduceBNe, reduceCtorEq, D, h1, h5]
      refine callF hc rfl ?_
      simp only [wkA, Nat.reduceEqDiff, Nat.reduceAdd, Nat.reduceSub, Nat.reduceLeDiff, Nat.reduceLT, Nat.reduceBEq, Nat.reduceBNe, reduceCtorEq]
    · have h5 : decide (k ≥ -300) = false := decide_eq_false h4
      have h6 : decide (-300 ≤ k) = false := decide_eq_false h4
      rw [h6, Bool.false_and]
      simp only [wkA, Nat.reduceEqDiff, Nat.reduceAdd, Nat.reduceSub, Nat.reduceLeDiff, Nat.reduceLT, Nat.reduceBEq, Nat.reduceBNe, reduceCtorEq, D, h1, h5]


def ic174 : IC := (.seq (.reg [⟨(some 6), (.mv (.c (.bool false))), none, .any⟩] false [0] []) (.seq (.reg [⟨(some 7), (.mv (.t 0)), none, .any⟩, ⟨(some 8), (.not (.t 7)), none, .any⟩, ⟨(some 6), (.mv (.t 8)), none, .any⟩] false [6] []) .ret))
def kp174 : List (Nat × Keep) := [(0, ⟨[0], [], []⟩),
  (1, ⟨[6], [], []⟩)]
theorem c174 : (Tryz.f174.body.bind fun c => compC Tryz.prog 9 [] kp174 c) = some ic174 := by kernel_rfl
theorem e174 {args : List AV} {r : AV} (ha : args.length ≤ 9) (h : VC e0 ic174 (retQ [(6, none)] r) ⟨argT 0 args, []⟩) : Fn 174 args r := fn_of Tryz.func174 rfl (by kernel_rfl) c174 ha (by decide) h


def ic175 : IC := (.seq (.reg [⟨(some 6), (.mv (.c (.bool false))), none, .any⟩] false [0] []) (.seq (.reg [⟨(some 7), (.mv (.t 0)), none, .any⟩, ⟨(some 6), (.mv (.t 7)), none, .any⟩] false [6] []) .ret))
def kp175 : List (Nat × Keep) := [(0, ⟨[0], [], []⟩),
  (1, ⟨[6], [], []⟩)]
theorem c175 : (Tryz.f175.body.bind fun c => compC Tryz.prog 8 [] kp175 c) = some ic175 := by kernel_rfl
theorem e175 {args : List AV} {r : AV} (ha : args.length ≤ 8) (h : VC e0 ic175 (retQ [(6, none)] r) ⟨argT 0 args, []⟩) : Fn 175 args r := fn_of Tryz.func175 rfl (by kernel_rfl) c175 ha (by decide) h


def ic176 : IC := (.seq (.reg [⟨(some 6), (.mv (.c (.bool false))), none, .any⟩] false [] []) (.seq (.reg [⟨(some 6), (.mv (.c (.bool true))), none, .any⟩] false [6] []) .ret))
def kp176 : List (Nat × Keep) := [(0, ⟨[], [], []⟩),
  (1, ⟨[6], [], []⟩)]
theorem c176 : (Tryz.f176.body.bind fun c => compC Tryz.prog 7 [] kp176 c) = some ic176 := by kernel_rfl
theorem e176 {args : List AV} {r : AV} (ha : args.length ≤ 7) (h : VC e0 ic176 (retQ [(6, none)] r) ⟨argT 0 args, []⟩) : Fn 176 args r := fn_of Tryz.func176 rfl (by kernel_rfl) c176 ha (by decide) h


def ic177 : IC := (.seq (.reg [⟨(some 6), (.mv (.c (.bool false))), none, .any⟩] false [] []) (.seq (.reg [⟨(some 6), (.mv (.c (.bool false))), none, .any⟩] false [6] []) .ret))
def kp177 : List (Nat × Keep) := [(0, ⟨[], [], []⟩),
  (1, ⟨[6], [], []⟩)]
theorem c177 : (Tryz.f177.body.bind fun c => compC Tryz.prog 7 [] kp177 c) = some ic177 := by kernel_rfl
theorem e177 {args : List AV} {r : AV} (ha : args.length ≤ 7) (h : VC e0 ic177 (retQ [(6, none)] r) ⟨argT 0 args, []⟩) : Fn 177 args r := fn_of Tryz.func177 rfl (by kernel_rfl) c177 ha (by decide) h


def ic178 : IC := (.seq (.reg [⟨(some 6), (.mv (.c (.bool false))), none, .any⟩] false [1, 2] []) (.seq (.reg [⟨(some 7), (.mv (.t 2)), none, .any⟩, ⟨(some 8), (.bin .gtr none (.t 7) (.c (.int .i64 0))), none, .any⟩, ⟨(some 9), (.mv (.t 8)), none, .any⟩, ⟨(some 10), (.mv (.t 2)), (some (9, false)), .any⟩, ⟨(some 11), (.bin .eql none (.t 10) (.c (.int .i64 0))), (some (9, false)), .any⟩, ⟨(some 12), (.mv (.t 11)), (some (9, false)), .any⟩, ⟨(some 13), (.mv (.t 1)), (some (12, true)), .any⟩, ⟨(some 14), (.pick (.t 12) (.t 13) (.c (.bool false))), (some (9, false)), .any⟩, ⟨(some 15), (.pick (.t 9) (.c (.bool true)) (.t 14)), none, .any⟩, ⟨(some 6), (.mv (.t 15)), none, .any⟩] false [6] []) .ret))
def kp178 : List (Nat × Keep) := [(0, ⟨[1, 2], [], []⟩),
  (1, ⟨[6], [], []⟩)]
theorem c178 : (Tryz.f178.body.bind fun c => compC Tryz.prog 16 [] kp178 c) = some ic178 := by kernel_rfl
theorem e178 {args : List AV} {r : AV} (ha : args.length ≤ 16) (h : VC e0 ic178 (retQ [(6, none)] r) ⟨argT 0 args, []⟩) : Fn 178 args r := fn_of Tryz.func178 rfl (by kernel_rfl) c178 ha (by decide) h


def ic179 : IC := (.seq (.reg [⟨(some 6), (.mv (.c (.bool false))), none, .any⟩] false [2] []) (.seq (.reg [⟨(some 7), (.mv (.t 2)), none, .any⟩, ⟨(some 8), (.bin .geq none (.t 7) (.c (.int .i64 0))), none, .any⟩, ⟨(some 6), (.mv (.t 8)), none, .any⟩] false [6] []) .ret))
def kp179 : List (Nat × Keep) := [(0, ⟨[2], [], []⟩),
  (1, ⟨[6], [], []⟩)]
theorem c179 : (Tryz.f179.body.bind fun c => compC Tryz.prog 9 [] kp179 c) = some ic179 := by kernel_rfl
theorem e179 {args : List AV} {r : AV} (ha : args.length ≤ 9) (h : VC e0 ic179 (retQ [(6, none)] r) ⟨argT 0 args, []⟩) : Fn 179 args r := fn_of Tryz.func179 rfl (by kernel_rfl) c179 ha (by decide) h


def ic180 : IC := (.seq (.reg [⟨(some 6), (.mv (.c (.bool false))), none, .any⟩] false [2] []) (.seq (.reg [⟨(some 7), (.mv (.t 2)), none, .any⟩, ⟨(some 8), (.bin .gtr none (.t 7) (.c (.int .i64 0))), none, .any⟩, ⟨(some 6), (.mv (.t 8)), none, .any⟩] false [6] []) .ret))
def kp180 : List (Nat × Keep) := [(0, ⟨[2], [], []⟩),
  (1, ⟨[6], [], []⟩)]
theorem c180 : (Tryz.f180.body.bind fun c => compC Tryz.prog 9 [] kp180 c) = some ic180 := by kernel_rfl
theorem e180 {args : List AV} {r : AV} (ha : args.length ≤ 9) (h : VC e0 ic180 (retQ [(6, none)] r) ⟨argT 0 args, []⟩) : Fn 180 args r := fn_of Tryz.func180 rfl (by kernel_rfl) c180 ha (by decide) h


def ic181 : IC := (.seq (.reg [⟨(some 6), (.mv (.c (.bool false))), none, .any⟩] false [] []) (.seq (.reg [⟨(some 6), (.mv (.c (.bool false))), none, .any⟩] false [6] []) .ret))
def kp181 : List (Nat × Keep) := [(0, ⟨[], [], []⟩),
  (1, ⟨[6], [], []⟩)]
theorem c181 : (Tryz.f181.body.bind fun c => compC Tryz.prog 7 [] kp181 c) = some ic181 := by kernel_rfl
theorem e181 {args : List AV} {r : AV} (ha : args.length ≤ 7) (h : VC e0 ic181 (retQ [(6, none)] r) ⟨argT 0 args, []⟩) : Fn 181 args r := fn_of Tryz.func181 rfl (by kernel_rfl) c181 ha (by decide) h


theorem limbs_len10 {n k : Nat} (h : n < 10 ^ k) : (limbs n).length ≤ k := by
  refine limbs_len (Nat.lt_of_lt_of_le h ?_)
  exact Nat.pow_le_pow_left (by decide) k
theorem limbs_nd (n : Nat) : (limbs n).length ≤ nd n := limbs_len10 (lt_nd n)
theorem limbs_eq_nil {n : Nat} : (limbs n).length = 0 ↔ n = 0 := by
  constructor
  · intro h
    have := lv_limbs n
    rw [List.eq_nil_of_length_eq_zero h] at this
    exact this.symm
  · rintro rfl; rw [limbs_zero]; simp
theorem limbs_head {n : Nat} (h : n ≠ 0) : (limbs n).getD 0 0 % 2 = n % 2 ∧ 0 < (limbs n).length := by
  rw [limbs, dif_neg h]
  refine ⟨?_, by simp⟩
  simp only [List.getD_cons_zero]
  omega
/-- The sign of a coefficient that may be 0. -/
def sgn (neg : Bool) (c : Nat) : Bool := neg && decide (c ≠ 0)
theorem con120 {neg : Bool} {c : Nat} {e : Int} (hc : nd c < 100000) (he : -1000000 < e ∧ e < 1000000) : Fn 120 [.bool neg, L (limbs c), i64 e] (N (sgn neg c) c e) := by
  refine e120 (by simp) ?_
  have hl : (limbs c).length < 100000 := by have := limbs_nd c; omega
  have hc76 := con76 hl (ok_limbs c)
  rw [lv_limbs] at hc76
  have h1 := con65 (neg := neg) (s := text c) (e := e) (dgs_text c) (by have := text_len c; omega) (by omega)
  rw [dv_text] at h1
  simp only [ic120, wkA, Nat.reduceEqDiff, Nat.reduceAdd, Nat.reduceSub, Nat.reduceLeDiff, Nat.reduceLT, Nat.reduceBEq, Nat.reduceBNe, reduceCtorEq, L, lenL, mapTake, mapDrop, List.drop_zero, Int.toNat_natCast, Int.toNat_zero, Nat.sub_zero, List.length_map, D, N] at h1 ⊢
  refine callF hc76 rfl ?_
  simp only [wkA, Nat.reduceEqDiff, Nat.reduceAdd, Nat.reduceSub, Nat.reduceLeDiff, Nat.reduceLT, Nat.reduceBEq, Nat.reduceBNe, reduceCtorEq, L, lenL, mapTake, mapDrop, List.drop_zero, Int.toNat_natCast, Int.toNat_zero, Nat.sub_zero, List.length_map]
  refine callF h1 rfl ?_
  cases neg
  · simp only [wkA, Nat.reduceEqDiff, Nat.reduceAdd, Nat.reduceSub, Nat.reduceLeDiff, Nat.reduceLT, Nat.reduceBEq, Nat.reduceBNe, reduceCtorEq, L, lenL, mapTake, mapDrop, List.drop_zero, Int.toNat_natCast, Int.toNat_zero, Nat.sub_zero, List.length_map, sgn, Bool.false_and]
  · simp only [wkA, Nat.reduceEqDiff, Nat.reduceAdd, Nat.reduceSub, Nat.reduceLeDiff, Nat.reduceLT, Nat.reduceBEq, Nat.reduceBNe, reduceCtorEq, L, lenL, mapTake, mapDrop, List.drop_zero, Int.toNat_natCast, Int.toNat_zero, Nat.sub_zero, List.length_map, sgn, Bool.true_and]
    have h3 : decide (((limbs c).length : Int) > 0) = decide (c ≠ 0) := by
      rw [decide_eq_decide]
      have := limbs_eq_nil (n := c)
      omega
    simp only [wkA, Nat.reduceEqDiff, Nat.reduceAdd, Nat.reduceSub, Nat.reduceLeDiff, Nat.reduceLT, Nat.reduceBEq, Nat.reduceBNe, reduceCtorEq, L, lenL, mapTake, mapDrop, List.drop_zero, Int.toNat_natCast, Int.toNat_zero, Nat.sub_zero, List.length_map, h3]

theorem con63 {n1 n2 : Bool} {s1 s2 : List UInt8} {e1 e2 : Int} {r : AV} (h : Fn 91 [D n1 s1 e1, D (!n2) s2 e2] r) (h2 : ∃ a b c, r = .agg [a, b, c]) : Fn 63 [D n1 s1 e1, D n2 s2 e2] r := by
  refine e63 (by simp) ?_
  obtain ⟨a, b, c, rfl⟩ := h2
  simp only [ic63, wkA, Nat.reduceEqDiff, Nat.reduceAdd, Nat.reduceSub, Nat.reduceLeDiff, Nat.reduceLT, Nat.reduceBEq, Nat.reduceBNe, reduceCtorEq, D] at h ⊢
  refine callF h rfl ?_
  simp only [wkA, Nat.reduceEqDiff, Nat.reduceAdd, Nat.reduceSub, Nat.reduceLeDiff, Nat.reduceLT, Nat.reduceBEq, Nat.reduceBNe, reduceCtorEq]

theorem con38 (m : Int) : Fn 38 [i64 m] (.bool (decide (0 ≤ m) && decide (m < 8))) := by
  refine e38 (by simp) ?_
  by_cases h : 0 ≤ m
  · have h1 : decide (m ≥ 0) = true := decide_eq_true h
    have h2 : decide (0 ≤ m) = true := decide_eq_true h
    rw [h2]
    simp only [ic38, wkA, Nat.reduceEqDiff, Nat.reduceAdd, Nat.reduceSub, Nat.reduceLeDiff, Nat.reduceLT, Nat.reduceBEq, Nat.reduceBNe, reduceCtorEq, h1]
  · have h1 : decide (m ≥ 0) = false := decide_eq_false h
    have h2 : decide (0 ≤ m) = false := decide_eq_false h
    rw [h2]
    simp only [ic38, wkA, Nat.reduceEqDiff, Nat.reduceAdd, Nat.reduceSub, Nat.reduceLeDiff, Nat.reduceLT, Nat.reduceBEq, Nat.reduceBNe, reduceCtorEq, h1, Bool.false_and]

/-- Is the answer the neighbour that is farther from 0? -/
def awayB (m : Int) (neg odd : Bool) (half : Int) : Bool :=
  if m = 0 then !neg else if m = 1 then neg else if m = 2 then true else if m = 4 then decide (half > 0) || (decide (half = 0) && odd) else if m = 5 then decide (half ≥ 0) else if m = 6 then decide (half > 0) else false
theorem con174 (neg odd : Bool) (half : Int) : Fn 174 [.bool neg, .bool odd, i64 half] (.bool (!neg)) := by
  refine e174 (by simp) ?_
  simp only [ic174, wkA, Nat.reduceEqDiff, Nat.reduceAdd, Nat.reduceSub, Nat.reduceLeDiff, Nat.reduceLT, Nat.reduceBEq, Nat.reduceBNe, reduceCtorEq]
theorem con175 (neg odd : Bool) (half : Int) : Fn 175 [.bool neg, .bool odd, i64 half] (.bool neg) := by
  refine e175 (by simp) ?_
  simp only [ic175, wkA, Nat.reduceEqDiff, Nat.reduceAdd, Nat.reduceSub, Nat.reduceLeDiff, Nat.reduceLT, Nat.reduceBEq, Nat.reduceBNe, reduceCtorEq]
theorem con176 (neg odd : Bool) (half : Int) : Fn 176 [.bool neg, .bool odd, i64 half] (.bool true) := by
  refine e176 (by simp) ?_
  simp only [ic176, wkA, Nat.reduceEqDiff, Nat.reduceAdd, Nat.reduceSub, Nat.reduceLeDiff, Nat.reduceLT, Nat.reduceBEq, Nat.reduceBNe, reduceCtorEq]
theorem con177 (neg odd : Bool) (half : Int) : Fn 177 [.bool neg, .bool odd, i64 half] (.bool false) := by
  refine e177 (by simp) ?_
  simp only [ic177, wkA, Nat.reduceEqDiff, Nat.reduceAdd, Nat.reduceSub, Nat.reduceLeDiff, Nat.reduceLT, Nat.reduceBEq, Nat.reduceBNe, reduceCtorEq]
theorem con178 (neg odd : Bool) (half : Int) : Fn 178 [.bool neg, .bool odd, i64 half] (.bool (decide (half > 0) || (decide (half = 0) && odd))) := by
  refine e178 (by simp) ?_
  by_cases h : half > 0
  · have h1 : decide (half > 0) = true := decide_eq_true h
    rw [h1]
    simp only [ic178, wkA, Nat.reduceEqDiff, Nat.reduceAdd, Nat.reduceSub, Nat.reduceLeDiff, Nat.reduceLT, Nat.reduceBEq, Nat.reduceBNe, reduceCtorEq, h1, Bool.true_or]
  · have h1 : decide (half > 0) = false := decide_eq_false h
    by_cases h2 : half = 0
    · have h3 : (half == 0) = true := beq_iff_eq.2 h2
      rw [h1, decide_eq_true h2]
      simp only [ic178, wkA, Nat.reduceEqDiff, Nat.reduceAdd, Nat.reduceSub, Nat.reduceLeDiff, Nat.reduceLT, Nat.reduceBEq, Nat.reduceBNe, reduceCtorEq, h1, h3, Bool.false_or]
    · have h3 : (half == 0) = false := beq_eq_false_iff_ne.2 h2
      rw [h1, decide_eq_false h2]
      simp only [ic178, wkA, Nat.reduceEqDiff, Nat.reduceAdd, Nat.reduceSub, Nat.reduceLeDiff, Nat.reduceLT, Nat.reduceBEq, Nat.reduceBNe, reduceCtorEq, h1, h3, Bool.false_or, Bool.false_and]
theorem con179 (neg odd : Bool) (half : Int) : Fn 179 [.bool neg, .bool odd, i64 half] (.bool (decide (half ≥ 0))) := by
  refine e179 (by simp) ?_
  simp only [ic179, wkA, Nat.reduceEqDiff, Nat.reduceAdd, Nat.reduceSub, Nat.reduceLeDiff, Nat.reduceLT, Nat.reduceBEq, Nat.reduceBNe, reduceCtorEq]
theorem con180 (neg odd : Bool) (half : Int) : Fn 180 [.bool neg, .bool odd, i64 half] (.bool (decide (half > 0))) := by
  refine e180 (by simp) ?_
  simp only [ic180, wkA, Nat.reduceEqDiff, Nat.reduceAdd, Nat.reduceSub, Nat.reduceLeDiff, Nat.reduceLT, Nat.reduceBEq, Nat.reduceBNe, reduceCtorEq]
theorem con181 (neg odd : Bool) (half : Int) : Fn 181 [.bool neg, .bool odd, i64 half] (.bool false) := by
  refine e181 (by simp) ?_
  simp only [ic181, wkA, Nat.reduceEqDiff, Nat.reduceAdd, Nat.reduceSub, Nat.reduceLeDiff, Nat.reduceLT, Nat.reduceBEq, Nat.reduceBNe, reduceCtorEq]
theorem waysAt {n : Nat} (h : n < 8) : [AV.fn 174, AV.fn 175, AV.fn 176, AV.fn 177, AV.fn 178, AV.fn 179, AV.fn 180, AV.fn 181].getD n .top = .fn (174 + n) := by
  match n, h with
  | 0, _ | 1, _ | 2, _ | 3, _ | 4, _ | 5, _ | 6, _ | 7, _ => rfl
theorem conWay {n : Nat} (h : n < 8) (neg odd : Bool) (half : Int) : okF Tryz.prog (174 + n) = true ∧ Fn (174 + n) [.bool neg, .bool odd, i64 half] (.bool (awayB n neg odd half)) := by
  match n, h with
  | 0, _ => exact ⟨by kernel_rfl, con174 neg odd half⟩
  | 1, _ => exact ⟨by kernel_rfl, con175 neg odd half⟩
  | 2, _ => exact ⟨by kernel_rfl, con176 neg odd half⟩
  | 3, _ => exact ⟨by kernel_rfl, con177 neg odd half⟩
  | 4, _ => exact ⟨by kernel_rfl, con178 neg odd half⟩
  | 5, _ => exact ⟨by kernel_rfl, con179 neg odd half⟩
  | 6, _ => exact ⟨by kernel_rfl, con180 neg odd half⟩
  | 7, _ => exact ⟨by kernel_rfl, con181 neg odd half⟩
theorem con73 (m : Int) (neg odd : Bool) (half : Int) : Fn 73 [i64 m, .bool neg, .bool odd, i64 half] (.bool (awayB m neg odd half)) := by
  refine e73 (by simp) ?_
  simp only [ic73, wkA, Nat.reduceEqDiff, Nat.reduceAdd, Nat.reduceSub, Nat.reduceLeDiff, Nat.reduceLT, Nat.reduceBEq, Nat.reduceBNe, reduceCtorEq]
  refine callF (con38 m) rfl ?_
  by_cases h : 0 ≤ m ∧ m < 8
  · have h1 : (decide (0 ≤ m) && decide (m < 8)) = true := by rw [decide_eq_true h.1, decide_eq_true h.2]; rfl
    obtain ⟨n, rfl⟩ : ∃ n : Nat, m = n := ⟨m.toNat, by omega⟩
    have hn : n < 8 := by omega
    obtain ⟨hok, hw⟩ := conWay hn neg odd half
    simp only [wkA, Nat.reduceEqDiff, Nat.reduceAdd, Nat.reduceSub, Nat.reduceLeDiff, Nat.reduceLT, Nat.reduceBEq, Nat.reduceBNe, reduceCtorEq, h1, Int.toNat_natCast, waysAt hn]
    refine ⟨⟨by omega, by omega⟩, hok, callF hw rfl ?_⟩
    simp only [wkA, Nat.reduceEqDiff, Nat.reduceAdd, Nat.reduceSub, Nat.reduceLeDiff, Nat.reduceLT, Nat.reduceBEq, Nat.reduceBNe, reduceCtorEq]
  · have h1 : (decide (0 ≤ m) && decide (m < 8)) = false := by
      rw [Bool.and_eq_false_iff]
      by_cases h2 : 0 ≤ m
      · exact .inr (decide_eq_false fun h3 => h ⟨h2, h3⟩)
      · exact .inl (decide_eq_false h2)
    have h2 : awayB m neg odd half = false := by
      unfold awayB
      rw [if_neg (by omega), if_neg (by omega), if_neg (by omega), if_neg (by omega), if_neg (by omega), if_neg (by omega)]
    rw [h2]
    simp only [wkA, Nat.reduceEqDiff, Nat.reduceAdd, Nat.reduceSub, Nat.reduceLeDiff, Nat.reduceLT, Nat.reduceBEq, Nat.reduceBNe, reduceCtorEq, h1]

theorem nd_mul_le {c k : Nat} : nd (c * 10 ^ k) ≤ nd c + k := by
  by_cases h : c = 0
  · subst h; simp [nd_zero]
  · rw [nd_mul h]; exact Nat.le_refl _

/-- A sum of two with unlike signs, of which the second one is more. -/
theorem con91_lt {n1 n2 : Bool} {s1 s2 : List UInt8} {e1 e2 E : Int} {x y : Nat} (hn : (n1 == n2) = false) (h1 : okD s1 e1) (h2 : okD s2 e2) (hE : E = if e2 < e1 then e2 else e1) (hd1 : e1 - E < 10000) (hd2 : e2 - E < 10000)
    (hx : x = dv s1 * 10 ^ (e1 - E).toNat) (hy : y = dv s2 * 10 ^ (e2 - E).toNat) (hl1 : s1.length < 10000) (hl2 : s2.length < 10000) (hlt : x < y) : Fn 91 [D n1 s1 e1, D n2 s2 e2] (N (sgn n2 (y - x)) (y - x) E) := by
  have hb1 := h1.2.2.2
  have hb2 := h2.2.2.2
  have hE1 : E ≤ e1 ∧ E ≤ e2 ∧ -1000000 < E ∧ E < 1000000 := by rw [hE]; split <;> omega
  have hv1 : nd x ≤ s1.length + (e1 - E).toNat := by rw [hx]; exact Nat.le_trans nd_mul_le (by have := nd_dv h1.1; omega)
  have hv2 : nd y ≤ s2.length + (e2 - E).toNat := by rw [hy]; exact Nat.le_trans nd_mul_le (by have := nd_dv h2.1; omega)
  have hq1 := limbs_nd (dv s1)
  have hq2 := limbs_nd (dv s2)
  have hr1 := nd_dv h1.1
  have hr2 := nd_dv h2.1
  have hq3 := limbs_nd x
  have hq4 := limbs_nd y
  have w1 : IntKind.i64.wrap (e1 - E) = e1 - E := by rw [wrap64] <;> omega
  have w2 : IntKind.i64.wrap (e2 - E) = e2 - E := by rw [wrap64] <;> omega
  have c1 := con72 (neg := n1) h1
  have c2 := con72 (neg := n2) h2
  have c3 := con70 (xs := limbs (dv s1)) (n := e1 - E) (by omega) (by omega) (ok_limbs _)
  have c4 := con70 (xs := limbs (dv s2)) (n := e2 - E) (by omega) (by omega) (ok_limbs _)
  rw [lv_limbs, ← hx] at c3
  rw [lv_limbs, ← hy] at c4
  have c5 := con121_no (xs := limbs x) (ys := limbs y) (by omega) (by omega) (ok_limbs _) (ok_limbs _) (by rw [lv_limbs, lv_limbs]; exact hlt)
  have c6 := con121 (xs := limbs y) (ys := limbs x) (by omega) (by omega) (ok_limbs _) (ok_limbs _) (by rw [lv_limbs, lv_limbs]; omega)
  rw [lv_limbs, lv_limbs] at c6
  have c7 := con120 (neg := n2) (c := y - x) (e := E) (by have := nd_mono (show y - x ≤ y by omega); omega) (by omega)
  refine e91 (by simp) ?_
  generalize limbs (y - x) = zs at *
  generalize limbs x = xs at *
  generalize limbs y = ys at *
  generalize limbs (dv s1) = us1 at *
  generalize limbs (dv s2) = us2 at *
  generalize sgn n2 (y - x) = sg at *
  generalize y - x = z at *
  simp only [ic91, wkA, Nat.reduceEqDiff, Nat.reduceAdd, Nat.reduceSub, Nat.reduceLeDiff, Nat.reduceLT, Nat.reduceBEq, Nat.reduceBNe, reduceCtorEq, L, lenL, mapTake, mapDrop, List.drop_zero, Int.toNat_natCast, Int.toNat_zero, Nat.sub_zero, List.length_map, D, ← hE] at c1 c2 c3 c4 c5 c6 c7 ⊢
  refine callFD c1 rfl ?_
  simp only [wkA, Nat.reduceEqDiff, Nat.reduceAdd, Nat.reduceSub, Nat.reduceLeDiff, Nat.reduceLT, Nat.reduceBEq, Nat.reduceBNe, reduceCtorEq, L, lenL, mapTake, mapDrop, List.drop_zero, Int.toNat_natCast, Int.toNat_zero, Nat.sub_zero, List.length_map, w1, w2]
  refine callFD c3 rfl ?_
  simp only [wkA, Nat.reduceEqDiff, Nat.reduceAdd, Nat.reduceSub, Nat.reduceLeDiff, Nat.reduceLT, Nat.reduceBEq, Nat.reduceBNe, reduceCtorEq, L, lenL, mapTake, mapDrop, List.drop_zero, Int.toNat_natCast, Int.toNat_zero, Nat.sub_zero, List.length_map, w1, w2]
  refine callFD c2 rfl ?_
  simp only [wkA, Nat.reduceEqDiff, Nat.reduceAdd, Nat.reduceSub, Nat.reduceLeDiff, Nat.reduceLT, Nat.reduceBEq, Nat.reduceBNe, reduceCtorEq, L, lenL, mapTake, mapDrop, List.drop_zero, Int.toNat_natCast, Int.toNat_zero, Nat.sub_zero, List.length_map, w1, w2]
  refine callFD c4 rfl ?_
  simp only [wkA, Nat.reduceEqDiff, Nat.reduceAdd, Nat.reduceSub, Nat.reduceLeDiff, Nat.reduceLT, Nat.reduceBEq, Nat.reduceBNe, reduceCtorEq, L, lenL, mapTake, mapDrop, List.drop_zero, Int.toNat_natCast, Int.toNat_zero, Nat.sub_zero, List.length_map, hn]
  simp only [ic91_2, wkA, Nat.reduceEqDiff, Nat.reduceAdd, Nat.reduceSub, Nat.reduceLeDiff, Nat.reduceLT, Nat.reduceBEq, Nat.reduceBNe, reduceCtorEq, L, lenL, mapTake, mapDrop, List.drop_zero, Int.toNat_natCast, Int.toNat_zero, Nat.sub_zero, List.length_map]
  refine callF c5 rfl ?_
  simp only [ic91_1, wkA, Nat.reduceEqDiff, Nat.reduceAdd, Nat.reduceSub, Nat.reduceLeDiff, Nat.reduceLT, Nat.reduceBEq, Nat.reduceBNe, reduceCtorEq, L, lenL, mapTake, mapDrop, List.drop_zero, Int.toNat_natCast, Int.toNat_zero, Nat.sub_zero, List.length_map]
  refine callF c6 rfl ?_
  simp only [wkA, Nat.reduceEqDiff, Nat.reduceAdd, Nat.reduceSub, Nat.reduceLeDiff, Nat.reduceLT, Nat.reduceBEq, Nat.reduceBNe, reduceCtorEq, L, lenL, mapTake, mapDrop, List.drop_zero, Int.toNat_natCast, Int.toNat_zero, Nat.sub_zero, List.length_map]
  refine callF c7 rfl ?_
  simp only [wkA, Nat.reduceEqDiff, Nat.reduceAdd, Nat.reduceSub, Nat.reduceLeDiff, Nat.reduceLT, Nat.reduceBEq, Nat.reduceBNe, reduceCtorEq, L, lenL, mapTake, mapDrop, List.drop_zero, Int.toNat_natCast, Int.toNat_zero, Nat.sub_zero, List.length_map, N, D]

/-- A value's size in steps, and what is left. -/
theorem con78 {neg : Bool} {s : List UInt8} {e p : Int} (h : okD s e) (hp : e ≤ p) (hp2 : p - e < 100000) : Fn 78 [D neg s e, i64 p] (.tup [L (limbs (dv s / 10 ^ (p - e).toNat)), L (limbs (dv s % 10 ^ (p - e).toNat))]) := by
  have c1 := con72 (neg := neg) h
  have hb := h.2.2
  have hq := limbs_nd (dv s)
  have hr := nd_dv h.1
  have c2 := con106 (xs := limbs (dv s)) (n := (p - e).toNat) (by omega) (by omega) (ok_limbs _)
  rw [lv_limbs, show (((p - e).toNat : Nat) : Int) = p - e by omega] at c2
  have w1 : IntKind.i64.wrap (p - e) = p - e := by rw [wrap64] <;> omega
  refine e78 (by simp) ?_
  generalize limbs (dv s / 10 ^ (p - e).toNat) = qs at *
  generalize limbs (dv s % 10 ^ (p - e).toNat) = rs at *
  simp only [ic78, wkA, Nat.reduceEqDiff, Nat.reduceAdd, Nat.reduceSub, Nat.reduceLeDiff, Nat.reduceLT, Nat.reduceBEq, Nat.reduceBNe, reduceCtorEq, L, lenL, mapTake, mapDrop, List.drop_zero, Int.toNat_natCast, Int.toNat_zero, Nat.sub_zero, List.length_map, D] at c1 c2 ⊢
  refine callFD c1 rfl ?_
  simp only [wkA, Nat.reduceEqDiff, Nat.reduceAdd, Nat.reduceSub, Nat.reduceLeDiff, Nat.reduceLT, Nat.reduceBEq, Nat.reduceBNe, reduceCtorEq, L, lenL, mapTake, mapDrop, List.drop_zero, Int.toNat_natCast, Int.toNat_zero, Nat.sub_zero, List.length_map, w1]
  refine callFD c2 rfl ?_
  simp only [wkA, Nat.reduceEqDiff, Nat.reduceAdd, Nat.reduceSub, Nat.reduceLeDiff, Nat.reduceLT, Nat.reduceBEq, Nat.reduceBNe, reduceCtorEq, L, lenL, mapTake, mapDrop, List.drop_zero, Int.toNat_natCast, Int.toNat_zero, Nat.sub_zero, List.length_map]
/-- Is it a multiple of ten's power? -/
def fits (c : Nat) (e p : Int) : Bool := decide (p ≤ e) || decide (c % 10 ^ (p - e).toNat = 0)
theorem con46 {neg : Bool} {s : List UInt8} {e p : Int} (h : okD s e) (hp2 : p - e < 100000) : Fn 46 [D neg s e, i64 p] (.bool (fits (dv s) e p)) := by
  refine e46 (by simp) ?_
  by_cases hle : p ≤ e
  · have h1 : decide (p ≤ e) = true := decide_eq_true hle
    rw [fits, h1]
    simp only [ic46, wkA, Nat.reduceEqDiff, Nat.reduceAdd, Nat.reduceSub, Nat.reduceLeDiff, Nat.reduceLT, Nat.reduceBEq, Nat.reduceBNe, reduceCtorEq, L, lenL, mapTake, mapDrop, List.drop_zero, Int.toNat_natCast, Int.toNat_zero, Nat.sub_zero, List.length_map, D, h1, Bool.true_or]
  · have h1 : decide (p ≤ e) = false := decide_eq_false hle
    have c1 := con78 (neg := neg) h (show e ≤ p by omega) hp2
    rw [fits, h1]
    have h2 : decide (dv s % 10 ^ (p - e).toNat = 0) = (((limbs (dv s % 10 ^ (p - e).toNat)).length : Int) == 0) := by
      have := limbs_eq_nil (n := dv s % 10 ^ (p - e).toNat)
      rw [Bool.eq_iff_iff, decide_eq_true_eq, beq_iff_eq]
      omega
    rw [h2]
    generalize limbs (dv s / 10 ^ (p - e).toNat) = qs at *
    generalize limbs (dv s % 10 ^ (p - e).toNat) = rs at *
    simp only [ic46, wkA, Nat.reduceEqDiff, Nat.reduceAdd, Nat.reduceSub, Nat.reduceLeDiff, Nat.reduceLT, Nat.reduceBEq, Nat.reduceBNe, reduceCtorEq, L, lenL, mapTake, mapDrop, List.drop_zero, Int.toNat_natCast, Int.toNat_zero, Nat.sub_zero, List.length_map, D, h1] at c1 ⊢
    simp only [ic46_1, wkA, Nat.reduceEqDiff, Nat.reduceAdd, Nat.reduceSub, Nat.reduceLeDiff, Nat.reduceLT, Nat.reduceBEq, Nat.reduceBNe, reduceCtorEq, L, lenL, mapTake, mapDrop, List.drop_zero, Int.toNat_natCast, Int.toNat_zero, Nat.sub_zero, List.length_map]
    refine callF c1 rfl ?_
    simp only [wkA, Nat.reduceEqDiff, Nat.reduceAdd, Nat.reduceSub, Nat.reduceLeDiff, Nat.reduceLT, Nat.reduceBEq, Nat.reduceBNe, reduceCtorEq, L, lenL, mapTake, mapDrop, List.drop_zero, Int.toNat_natCast, Int.toNat_zero, Nat.sub_zero, List.length_map, Bool.false_or]

/-- No decimal: the zero value. -/
def zD : AV := D false [] 0
def good8 (m : Int) : Bool := decide (0 ≤ m) && decide (m < 8)
/-- How often a width goes into a value that is rounded by a way. -/
def rq (m : Int) (neg : Bool) (c w : Nat) : Nat := c / w + if awayB m neg (decide (c / w % 2 = 1)) (cmpI ((2 * (c % w) : Nat) : Int) (w : Nat)) = true then 1 else 0
theorem rq_le (m : Int) (neg : Bool) (c w : Nat) : rq m neg c w ≤ c / w + 1 := by unfold rq; split <;> omega
/-- What place.Round answers. -/
def plR (m : Int) (neg : Bool) (c : Nat) (e p : Int) : AV :=
  if good8 m = false then .tup [zD, i64 1]
  else if fits c e p = true then .tup [N neg c e, i64 0]
  else if m = 7 then .tup [zD, i64 11]
  else .tup [N neg (rq m neg c (10 ^ (p - e).toNat)) p, i64 0]

theorem oddL {n : Nat} : (if decide (((limbs n).length : Int) > 0) = true then decide ((limbs n).getD 0 0 % 2 = 1) else false) = decide (n % 2 = 1) := by
  by_cases h : n = 0
  · subst h; rw [limbs_zero]; simp
  · obtain ⟨h1, h2⟩ := limbs_head h
    rw [if_pos (decide_eq_true (by omega)), h1]

theorem con69 {m : Int} {neg : Bool} {s : List UInt8} {e p : Int} (h : okD s e) (hp : -100000 < p ∧ p < 100000) (he : -50000 < e ∧ e < 50000) (hl : s.length < 10000) (hp2 : p - e < 50000) : Fn 69 [i64 m, D neg s e, i64 p] (plR m neg (dv s) e p) := by
  refine e69 (by simp) ?_
  have hr := nd_dv h.1
  cases hg : good8 m with
  | false =>
    have hg' : (decide (0 ≤ m) && decide (m < 8)) = false := hg
    rw [plR, if_pos hg]
    simp only [ic69, wkA, Nat.reduceEqDiff, Nat.reduceAdd, Nat.reduceSub, Nat.reduceLeDiff, Nat.reduceLT, Nat.reduceBEq, Nat.reduceBNe, reduceCtorEq, L, lenL, mapTake, mapDrop, List.drop_zero, Int.toNat_natCast, Int.toNat_zero, Nat.sub_zero, List.length_map, D]
    refine callF (con38 m) rfl ?_
    simp only [wkA, Nat.reduceEqDiff, Nat.reduceAdd, Nat.reduceSub, Nat.reduceLeDiff, Nat.reduceLT, Nat.reduceBEq, Nat.reduceBNe, reduceCtorEq, L, lenL, mapTake, mapDrop, List.drop_zero, Int.toNat_natCast, Int.toNat_zero, Nat.sub_zero, List.length_map, hg', Bool.not_false]
    simp only [wkA, Nat.reduceEqDiff, Nat.reduceAdd, Nat.reduceSub, Nat.reduceLeDiff, Nat.reduceLT, Nat.reduceBEq, Nat.reduceBNe, reduceCtorEq, L, lenL, mapTake, mapDrop, List.drop_zero, Int.toNat_natCast, Int.toNat_zero, Nat.sub_zero, List.length_map, zD, D]
  | true =>
    have hg' : (decide (0 ≤ m) && decide (m < 8)) = true := hg
    rw [plR, if_neg (by rw [hg]; simp)]
    have c46 := con46 (neg := neg) h (show p - e < 100000 by omega)
    cases hf : fits (dv s) e p with
    | true =>
      rw [if_pos rfl]
      rw [hf] at c46
      have c65 := h.norm neg
      simp only [ic69, wkA, Nat.reduceEqDiff, Nat.reduceAdd, Nat.reduceSub, Nat.reduceLeDiff, Nat.reduceLT, Nat.reduceBEq, Nat.reduceBNe, reduceCtorEq, L, lenL, mapTake, mapDrop, List.drop_zero, Int.toNat_natCast, Int.toNat_zero, Nat.sub_zero, List.length_map, D] at c46 c65 ⊢
      refine callF (con38 m) rfl ?_
      simp only [wkA, Nat.reduceEqDiff, Nat.reduceAdd, Nat.reduceSub, Nat.reduceLeDiff, Nat.reduceLT, Nat.reduceBEq, Nat.reduceBNe, reduceCtorEq, L, lenL, mapTake, mapDrop, List.drop_zero, Int.toNat_natCast, Int.toNat_zero, Nat.sub_zero, List.length_map, hg', Bool.not_true]
      refine callF c46 rfl ?_
      simp only [wkA, Nat.reduceEqDiff, Nat.reduceAdd, Nat.reduceSub, Nat.reduceLeDiff, Nat.reduceLT, Nat.reduceBEq, Nat.reduceBNe, reduceCtorEq, L, lenL, mapTake, mapDrop, List.drop_zero, Int.toNat_natCast, Int.toNat_zero, Nat.sub_zero, List.length_map]
      refine callF c65 rfl ?_
      simp only [wkA, Nat.reduceEqDiff, Nat.reduceAdd, Nat.reduceSub, Nat.reduceLeDiff, Nat.reduceLT, Nat.reduceBEq, Nat.reduceBNe, reduceCtorEq, L, lenL, mapTake, mapDrop, List.drop_zero, Int.toNat_natCast, Int.toNat_zero, Nat.sub_zero, List.length_map, N, D]
    | false =>
      rw [if_neg (by simp)]
      rw [hf] at c46
      have hple : ¬ p ≤ e := by
        intro hle
        rw [fits, decide_eq_true hle] at hf
        simp at hf
      by_cases h7 : m = 7
      · rw [if_pos h7]
        have h7' : (m == 7) = true := beq_iff_eq.2 h7
        simp only [ic69, wkA, Nat.reduceEqDiff, Nat.reduceAdd, Nat.reduceSub, Nat.reduceLeDiff, Nat.reduceLT, Nat.reduceBEq, Nat.reduceBNe, reduceCtorEq, L, lenL, mapTake, mapDrop, List.drop_zero, Int.toNat_natCast, Int.toNat_zero, Nat.sub_zero, List.length_map, D] at c46 ⊢
        refine callF (con38 m) rfl ?_
        simp only [wkA, Nat.reduceEqDiff, Nat.reduceAdd, Nat.reduceSub, Nat.reduceLeDiff, Nat.reduceLT, Nat.reduceBEq, Nat.reduceBNe, reduceCtorEq, L, lenL, mapTake, mapDrop, List.drop_zero, Int.toNat_natCast, Int.toNat_zero, Nat.sub_zero, List.length_map, hg', Bool.not_true]
        refine callF c46 rfl ?_
        simp only [wkA, Nat.reduceEqDiff, Nat.reduceAdd, Nat.reduceSub, Nat.reduceLeDiff, Nat.reduceLT, Nat.reduceBEq, Nat.reduceBNe, reduceCtorEq, L, lenL, mapTake, mapDrop, List.drop_zero, Int.toNat_natCast, Int.toNat_zero, Nat.sub_zero, List.length_map, h7']
        simp only [wkA, Nat.reduceEqDiff, Nat.reduceAdd, Nat.reduceSub, Nat.reduceLeDiff, Nat.reduceLT, Nat.reduceBEq, Nat.reduceBNe, reduceCtorEq, L, lenL, mapTake, mapDrop, List.drop_zero, Int.toNat_natCast, Int.toNat_zero, Nat.sub_zero, List.length_map, zD, D]
      · rw [if_neg h7]
        have h7' : (m == 7) = false := beq_eq_false_iff_ne.2 h7
        have c78 := con78 (neg := neg) h (show e ≤ p by omega) (by omega)
        have w1 : IntKind.i64.wrap (p - e) = p - e := by rw [wrap64] <;> omega
        obtain ⟨k, hk⟩ : ∃ k, k = (p - e).toNat := ⟨_, rfl⟩
        have c70 := con70 (xs := [1]) (n := p - e) (by simp) (by omega) (ok_one.2 (by decide))
        rw [lv_one, Nat.one_mul] at c70
        rw [← hk] at c78 c70 ⊢
        have hw : 0 < 10 ^ k := Nat.pow_pos (by decide)
        have hk2 : nd (10 ^ k) = k + 1 := by
          have := nd_mul (n := 1) (by decide) k
          rw [Nat.one_mul] at this
          rw [this, nd_pos (by decide), nd_zero]; omega
        obtain ⟨q, hq⟩ : ∃ q, q = dv s / 10 ^ k := ⟨_, rfl⟩
        obtain ⟨r, hrr⟩ : ∃ r, r = dv s % 10 ^ k := ⟨_, rfl⟩
        obtain ⟨w, hww⟩ : ∃ w, w = 10 ^ k := ⟨_, rfl⟩
        have hrw : r < w := by rw [hrr, hww]; exact Nat.mod_lt _ hw
        rw [rq, ← hq, ← hrr, ← hww]
        rw [← hq, ← hrr] at c78
        rw [← hww] at c70 hk2
        have l1 := limbs_nd r
        have l2 := limbs_nd w
        have l3 := limbs_nd q
        have l4 := nd_mono (show r ≤ w by omega)
        have l5 : nd q ≤ nd (dv s) := nd_mono (by rw [hq]; exact Nat.div_le_self _ _)
        have l6 := limbs_nd (r + r)
        have l7 : nd (r + r) ≤ nd (w * 10 ^ 1) := nd_mono (by omega)
        have l8 : nd (w * 10 ^ 1) ≤ nd w + 1 := nd_mul_le
        have c75 := con75 (xs := limbs r) (ys := limbs r) (by omega) (by omega) (ok_limbs _) (ok_limbs _)
        rw [lv_limbs] at c75
        have c74 := con74 (xs := limbs (r + r)) (ys := limbs w) (by omega) (by omega) (ok_limbs _) (ok_limbs _)
        rw [lv_limbs, lv_limbs] at c74
        have hodd := oddL (n := q)
        have c75q := con75 (xs := limbs q) (ys := [1]) (by omega) (by simp) (ok_limbs _) (ok_one.2 (by decide))
        rw [lv_limbs, lv_one] at c75q
        have hnq : nd (q + 1) ≤ nd q + 1 := by
          by_cases h0 : q = 0
          · rw [h0, nd_zero, nd_pos (by decide), nd_zero]; omega
          · have := nd_mul h0 1
            have := nd_mono (show q + 1 ≤ q * 10 ^ 1 by omega)
            omega
        have c76 : ∀ x, nd x ≤ nd q + 1 → Fn 76 [L (limbs x)] (.str (text x)) := fun x hx => by
          have l9 := limbs_nd x
          have := con76 (xs := limbs x) (by omega) (ok_limbs x)
          rwa [lv_limbs] at this
        have c65 : ∀ x, nd x ≤ nd q + 1 → Fn 65 [D neg (text x) p] (N neg x p) := fun x hx => by
          have := con65 (neg := neg) (s := text x) (e := p) (dgs_text x) (by have := text_len x; omega) (by omega)
          rwa [dv_text] at this
        have c73 := con73 m neg (decide (q % 2 = 1)) (cmpI ((r + r : Nat) : Int) (w : Nat))
        rw [show (2 * r : Nat) = r + r by omega]
        generalize awayB m neg (decide (q % 2 = 1)) (cmpI ((r + r : Nat) : Int) (w : Nat)) = aw at *
        simp only [ic69, wkA, Nat.reduceEqDiff, Nat.reduceAdd, Nat.reduceSub, Nat.reduceLeDiff, Nat.reduceLT, Nat.reduceBEq, Nat.reduceBNe, reduceCtorEq, L, lenL, mapTake, mapDrop, List.drop_zero, Int.toNat_natCast, Int.toNat_zero, Nat.sub_zero, List.length_map, D] at c46 c78 c70 c75 c74 c75q ⊢
        refine callF (con38 m) rfl ?_
        simp only [wkA, Nat.reduceEqDiff, Nat.reduceAdd, Nat.reduceSub, Nat.reduceLeDiff, Nat.reduceLT, Nat.reduceBEq, Nat.reduceBNe, reduceCtorEq, L, lenL, mapTake, mapDrop, List.drop_zero, Int.toNat_natCast, Int.toNat_zero, Nat.sub_zero, List.length_map, hg', Bool.not_true]
        refine callF c46 rfl ?_
        simp only [wkA, Nat.reduceEqDiff, Nat.reduceAdd, Nat.reduceSub, Nat.reduceLeDiff, Nat.reduceLT, Nat.reduceBEq, Nat.reduceBNe, reduceCtorEq, L, lenL, mapTake, mapDrop, List.drop_zero, Int.toNat_natCast, Int.toNat_zero, Nat.sub_zero, List.length_map, h7']
        simp only [ic69_2, wkA, Nat.reduceEqDiff, Nat.reduceAdd, Nat.reduceSub, Nat.reduceLeDiff, Nat.reduceLT, Nat.reduceBEq, Nat.reduceBNe, reduceCtorEq, L, lenL, mapTake, mapDrop, List.drop_zero, Int.toNat_natCast, Int.toNat_zero, Nat.sub_zero, List.length_map]
        refine callF c78 rfl ?_
        simp only [wkA, Nat.reduceEqDiff, Nat.reduceAdd, Nat.reduceSub, Nat.reduceLeDiff, Nat.reduceLT, Nat.reduceBEq, Nat.reduceBNe, reduceCtorEq, L, lenL, mapTake, mapDrop, List.drop_zero, Int.toNat_natCast, Int.toNat_zero, Nat.sub_zero, List.length_map]
        refine callFD c75 rfl ?_
        simp only [wkA, Nat.reduceEqDiff, Nat.reduceAdd, Nat.reduceSub, Nat.reduceLeDiff, Nat.reduceLT, Nat.reduceBEq, Nat.reduceBNe, reduceCtorEq, L, lenL, mapTake, mapDrop, List.drop_zero, Int.toNat_natCast, Int.toNat_zero, Nat.sub_zero, List.length_map, w1]
        refine callFD c70 rfl ?_
        simp only [wkA, Nat.reduceEqDiff, Nat.reduceAdd, Nat.reduceSub, Nat.reduceLeDiff, Nat.reduceLT, Nat.reduceBEq, Nat.reduceBNe, reduceCtorEq, L, lenL, mapTake, mapDrop, List.drop_zero, Int.toNat_natCast, Int.toNat_zero, Nat.sub_zero, List.length_map, w1]
        refine callFD c74 rfl ?_
        simp only [wkA, Nat.reduceEqDiff, Nat.reduceAdd, Nat.reduceSub, Nat.reduceLeDiff, Nat.reduceLT, Nat.reduceBEq, Nat.reduceBNe, reduceCtorEq, L, lenL, mapTake, mapDrop, List.drop_zero, Int.toNat_natCast, Int.toNat_zero, Nat.sub_zero, List.length_map]
        have fin : ∀ (x : Nat) (ex : List (Nat × AV)), nd x ≤ nd q + 1 → VC e0 ic69_1 (retQ [(6, some (some 3)), (7, none)] (.tup [N neg x p, i64 0])) ⟨(2, i64 p) :: (4, .box 4 0) :: (6, .box 6 0) :: (8, .sl 1 ((limbs x).map u32)) :: ex, [(4, .box 23 [.bool neg, .str s, i64 e]), (6, .box 23 [.bool false, .str [], i64 0])]⟩ := by
          intro x ex hx
          have d76 := c76 x hx
          have d65 := c65 x hx
          simp only [L, D] at d76 d65
          simp only [ic69_1, wkA, Nat.reduceEqDiff, Nat.reduceAdd, Nat.reduceSub, Nat.reduceLeDiff, Nat.reduceLT, Nat.reduceBEq, Nat.reduceBNe, reduceCtorEq, L, lenL, mapTake, mapDrop, List.drop_zero, Int.toNat_natCast, Int.toNat_zero, Nat.sub_zero, List.length_map]
          refine callFD d76 rfl ?_
          simp only [wkA, Nat.reduceEqDiff, Nat.reduceAdd, Nat.reduceSub, Nat.reduceLeDiff, Nat.reduceLT, Nat.reduceBEq, Nat.reduceBNe, reduceCtorEq, L, lenL, mapTake, mapDrop, List.drop_zero, Int.toNat_natCast, Int.toNat_zero, Nat.sub_zero, List.length_map]
          refine callFD d65 rfl ?_
          simp only [wkA, Nat.reduceEqDiff, Nat.reduceAdd, Nat.reduceSub, Nat.reduceLeDiff, Nat.reduceLT, Nat.reduceBEq, Nat.reduceBNe, reduceCtorEq, L, lenL, mapTake, mapDrop, List.drop_zero, Int.toNat_natCast, Int.toNat_zero, Nat.sub_zero, List.length_map, N, D]
        by_cases h0 : q = 0
        · have e1 : decide (((limbs q).length : Int) > 0) = false := by rw [h0, limbs_zero]; rfl
          have e2 : decide (q % 2 = 1) = false := by rw [h0]; rfl
          rw [e2] at c73
          simp only [wkA, Nat.reduceEqDiff, Nat.reduceAdd, Nat.reduceSub, Nat.reduceLeDiff, Nat.reduceLT, Nat.reduceBEq, Nat.reduceBNe, reduceCtorEq, L, lenL, mapTake, mapDrop, List.drop_zero, Int.toNat_natCast, Int.toNat_zero, Nat.sub_zero, List.length_map, e1]
          refine callFD c73 rfl ?_
          cases aw with
          | true =>
            simp only [wkA, Nat.reduceEqDiff, Nat.reduceAdd, Nat.reduceSub, Nat.reduceLeDiff, Nat.reduceLT, Nat.reduceBEq, Nat.reduceBNe, reduceCtorEq, L, lenL, mapTake, mapDrop, List.drop_zero, Int.toNat_natCast, Int.toNat_zero, Nat.sub_zero, List.length_map]
            refine callF c75q rfl ?_
            simp only [wkA, Nat.reduceEqDiff, Nat.reduceAdd, Nat.reduceSub, Nat.reduceLeDiff, Nat.reduceLT, Nat.reduceBEq, Nat.reduceBNe, reduceCtorEq, L, lenL, mapTake, mapDrop, List.drop_zero, Int.toNat_natCast, Int.toNat_zero, Nat.sub_zero, List.length_map]
            exact fin (q + 1) [] hnq
          | false =>
            simp only [wkA, Nat.reduceEqDiff, Nat.reduceAdd, Nat.reduceSub, Nat.reduceLeDiff, Nat.reduceLT, Nat.reduceBEq, Nat.reduceBNe, reduceCtorEq, L, lenL, mapTake, mapDrop, List.drop_zero, Int.toNat_natCast, Int.toNat_zero, Nat.sub_zero, List.length_map]
            exact fin (q + 0) _ (by simp)
        · obtain ⟨q1, q2⟩ := limbs_head h0
          have e1 : decide (((limbs q).length : Int) > 0) = true := decide_eq_true (by omega)
          have e2 : (((((limbs q).getD 0 0 : Nat) : Int).tmod 2) == 1) = decide (q % 2 = 1) := by
            rw [show (((limbs q).getD 0 0 : Nat) : Int).tmod 2 = (((limbs q).getD 0 0 % 2 : Nat) : Int) from rfl, q1, Bool.eq_iff_iff, beq_iff_eq, decide_eq_true_eq]
            omega
          simp only [wkA, Nat.reduceEqDiff, Nat.reduceAdd, Nat.reduceSub, Nat.reduceLeDiff, Nat.reduceLT, Nat.reduceBEq, Nat.reduceBNe, reduceCtorEq, L, lenL, mapTake, mapDrop, List.drop_zero, Int.toNat_natCast, Int.toNat_zero, Nat.sub_zero, List.length_map, e1, getL q2, e2]
          refine ⟨⟨by omega, by omega⟩, by omega, callFD c73 rfl ?_⟩
          cases aw with
          | true =>
            simp only [wkA, Nat.reduceEqDiff, Nat.reduceAdd, Nat.reduceSub, Nat.reduceLeDiff, Nat.reduceLT, Nat.reduceBEq, Nat.reduceBNe, reduceCtorEq, L, lenL, mapTake, mapDrop, List.drop_zero, Int.toNat_natCast, Int.toNat_zero, Nat.sub_zero, List.length_map]
            refine callF c75q rfl ?_
            simp only [wkA, Nat.reduceEqDiff, Nat.reduceAdd, Nat.reduceSub, Nat.reduceLeDiff, Nat.reduceLT, Nat.reduceBEq, Nat.reduceBNe, reduceCtorEq, L, lenL, mapTake, mapDrop, List.drop_zero, Int.toNat_natCast, Int.toNat_zero, Nat.sub_zero, List.length_map]
            exact fin (q + 1) [] hnq
          | false =>
            simp only [wkA, Nat.reduceEqDiff, Nat.reduceAdd, Nat.reduceSub, Nat.reduceLeDiff, Nat.reduceLT, Nat.reduceBEq, Nat.reduceBNe, reduceCtorEq, L, lenL, mapTake, mapDrop, List.drop_zero, Int.toNat_natCast, Int.toNat_zero, Nat.sub_zero, List.length_map]
            exact fin (q + 0) _ (by simp)

/-- What sig.Round answers. -/
def sgR (m : Int) (neg : Bool) (c : Nat) (e n : Int) : AV := if n < 1 then .tup [zD, i64 1] else plR m neg c e (top c e - n + 1)
theorem plR_bad {m : Int} (h : good8 m = false) (neg : Bool) (c : Nat) (e p : Int) : plR m neg c e p = .tup [zD, i64 1] := by rw [plR, if_pos h]
theorem plR_two (m : Int) (neg : Bool) (c : Nat) (e p : Int) : ∃ a b d k, plR m neg c e p = .tup [.agg [a, b, d], i64 k] := by
  unfold plR
  split
  · exact ⟨_, _, _, _, rfl⟩
  · split
    · exact ⟨_, _, _, _, rfl⟩
    · split
      · exact ⟨_, _, _, _, rfl⟩
      · exact ⟨_, _, _, _, rfl⟩
theorem con68 {m n : Int} {neg : Bool} {s : List UInt8} {e : Int} (h : okD s e) (hn : -10000 < n ∧ n < 10000) (he : -10000 < e ∧ e < 10000) (hl : s.length < 10000) : Fn 68 [i64 m, D neg s e, i64 n] (sgR m neg (dv s) e n) := by
  refine e68 (by simp) ?_
  have hr := nd_dv h.1
  cases hg : good8 m with
  | false =>
    have hg' : (decide (0 ≤ m) && decide (m < 8)) = false := hg
    have : sgR m neg (dv s) e n = .tup [zD, i64 1] := by unfold sgR; split; · rfl
                                                         · exact plR_bad hg _ _ _ _
    rw [this]
    simp only [ic68, wkA, Nat.reduceEqDiff, Nat.reduceAdd, Nat.reduceSub, Nat.reduceLeDiff, Nat.reduceLT, Nat.reduceBEq, Nat.reduceBNe, reduceCtorEq, L, lenL, mapTake, mapDrop, List.drop_zero, Int.toNat_natCast, Int.toNat_zero, Nat.sub_zero, List.length_map, D]
    refine callF (con38 m) rfl ?_
    simp only [wkA, Nat.reduceEqDiff, Nat.reduceAdd, Nat.reduceSub, Nat.reduceLeDiff, Nat.reduceLT, Nat.reduceBEq, Nat.reduceBNe, reduceCtorEq, L, lenL, mapTake, mapDrop, List.drop_zero, Int.toNat_natCast, Int.toNat_zero, Nat.sub_zero, List.length_map, hg', Bool.not_false]
    simp only [wkA, Nat.reduceEqDiff, Nat.reduceAdd, Nat.reduceSub, Nat.reduceLeDiff, Nat.reduceLT, Nat.reduceBEq, Nat.reduceBNe, reduceCtorEq, L, lenL, mapTake, mapDrop, List.drop_zero, Int.toNat_natCast, Int.toNat_zero, Nat.sub_zero, List.length_map, zD, D]
  | true =>
    have hg' : (decide (0 ≤ m) && decide (m < 8)) = true := hg
    by_cases h1 : n < 1
    · have h1' : decide (n < 1) = true := decide_eq_true h1
      rw [sgR, if_pos h1]
      simp only [ic68, wkA, Nat.reduceEqDiff, Nat.reduceAdd, Nat.reduceSub, Nat.reduceLeDiff, Nat.reduceLT, Nat.reduceBEq, Nat.reduceBNe, reduceCtorEq, L, lenL, mapTake, mapDrop, List.drop_zero, Int.toNat_natCast, Int.toNat_zero, Nat.sub_zero, List.length_map, D]
      refine callF (con38 m) rfl ?_
      simp only [wkA, Nat.reduceEqDiff, Nat.reduceAdd, Nat.reduceSub, Nat.reduceLeDiff, Nat.reduceLT, Nat.reduceBEq, Nat.reduceBNe, reduceCtorEq, L, lenL, mapTake, mapDrop, List.drop_zero, Int.toNat_natCast, Int.toNat_zero, Nat.sub_zero, List.length_map, hg', Bool.not_true, h1']
      simp only [wkA, Nat.reduceEqDiff, Nat.reduceAdd, Nat.reduceSub, Nat.reduceLeDiff, Nat.reduceLT, Nat.reduceBEq, Nat.reduceBNe, reduceCtorEq, L, lenL, mapTake, mapDrop, List.drop_zero, Int.toNat_natCast, Int.toNat_zero, Nat.sub_zero, List.length_map, zD, D]
    · have h1' : decide (n < 1) = false := decide_eq_false h1
      rw [sgR, if_neg h1]
      have c61 := con61 (neg := neg) h (show -1000000 < n ∧ n < 1000000 by omega)
      rw [if_neg h1] at c61
      have ht : -20000 < top (dv s) e ∧ top (dv s) e < 20000 ∧ top (dv s) e - e < 20000 := by unfold top; split <;> omega
      have c69 := con69 (m := m) (neg := neg) (p := top (dv s) e - n + 1) h (by omega) (by omega) hl (by omega)
      obtain ⟨a, b, d, k, hab⟩ := plR_two m neg (dv s) e (top (dv s) e - n + 1)
      rw [hab] at c69 ⊢
      generalize top (dv s) e - n + 1 = p at *
      simp only [ic68, wkA, Nat.reduceEqDiff, Nat.reduceAdd, Nat.reduceSub, Nat.reduceLeDiff, Nat.reduceLT, Nat.reduceBEq, Nat.reduceBNe, reduceCtorEq, L, lenL, mapTake, mapDrop, List.drop_zero, Int.toNat_natCast, Int.toNat_zero, Nat.sub_zero, List.length_map, D] at c61 c69 ⊢
      refine callF (con38 m) rfl ?_
      simp only [wkA, Nat.reduceEqDiff, Nat.reduceAdd, Nat.reduceSub, Nat.reduceLeDiff, Nat.reduceLT, Nat.reduceBEq, Nat.reduceBNe, reduceCtorEq, L, lenL, mapTake, mapDrop, List.drop_zero, Int.toNat_natCast, Int.toNat_zero, Nat.sub_zero, List.length_map, hg', Bool.not_true, h1']
      simp only [ic68_1, wkA, Nat.reduceEqDiff, Nat.reduceAdd, Nat.reduceSub, Nat.reduceLeDiff, Nat.reduceLT, Nat.reduceBEq, Nat.reduceBNe, reduceCtorEq, L, lenL, mapTake, mapDrop, List.drop_zero, Int.toNat_natCast, Int.toNat_zero, Nat.sub_zero, List.length_map]
      refine callFD c61 rfl ?_
      simp only [wkA, Nat.reduceEqDiff, Nat.reduceAdd, Nat.reduceSub, Nat.reduceLeDiff, Nat.reduceLT, Nat.reduceBEq, Nat.reduceBNe, reduceCtorEq, L, lenL, mapTake, mapDrop, List.drop_zero, Int.toNat_natCast, Int.toNat_zero, Nat.sub_zero, List.length_map]
      refine callFD c69 rfl ?_
      simp only [wkA, Nat.reduceEqDiff, Nat.reduceAdd, Nat.reduceSub, Nat.reduceLeDiff, Nat.reduceLT, Nat.reduceBEq, Nat.reduceBNe, reduceCtorEq, L, lenL, mapTake, mapDrop, List.drop_zero, Int.toNat_natCast, Int.toNat_zero, Nat.sub_zero, List.length_map]

/-- What inc.Round answers, of a step b. -/
def inR (m : Int) (neg : Bool) (c : Nat) (e : Int) (b : Nat) (p : Int) : AV :=
  let E := if p < e then p else e
  let a := c * 10 ^ (e - E).toNat
  let w := b * 10 ^ (p - E).toNat
  if good8 m = false then .tup [zD, i64 1]
  else if a % w = 0 then .tup [N neg c e, i64 0]
  else if m = 7 then .tup [zD, i64 11]
  else .tup [N neg (rq m neg a w * w) E, i64 0]

theorem con45 {m : Int} {neg : Bool} {s st : List UInt8} {e p : Int} (h : okD s e) (hst : dgs st = true) (hst2 : st.length ≤ 40) (hst3 : dv st ≠ 0) (hp : -4000 < p ∧ p < 4000) (he : -4000 < e ∧ e < 4000) (hl : s.length < 10000) : Fn 45 [i64 m, D neg s e, .str st, i64 p] (inR m neg (dv s) e (dv st) p) := by
  have hr := nd_dv h.1
  have hrb := nd_dv hst
  have hst0 : st ≠ [] := by rintro rfl; exact hst3 rfl
  have c64 := con64 (by omega) hst hst0
  refine e45 (by simp) ?_
  unfold inR
  simp only
  cases hg : good8 m with
  | false =>
    have hg' : (decide (0 ≤ m) && decide (m < 8)) = false := hg
    rw [if_pos rfl]
    simp only [ic45, wkA, Nat.reduceEqDiff, Nat.reduceAdd, Nat.reduceSub, Nat.reduceLeDiff, Nat.reduceLT, Nat.reduceBEq, Nat.reduceBNe, reduceCtorEq, L, lenL, mapTake, mapDrop, List.drop_zero, Int.toNat_natCast, Int.toNat_zero, Nat.sub_zero, List.length_map, D]
    refine callF c64 rfl ?_
    simp only [wkA, Nat.reduceEqDiff, Nat.reduceAdd, Nat.reduceSub, Nat.reduceLeDiff, Nat.reduceLT, Nat.reduceBEq, Nat.reduceBNe, reduceCtorEq, L, lenL, mapTake, mapDrop, List.drop_zero, Int.toNat_natCast, Int.toNat_zero, Nat.sub_zero, List.length_map]
    refine callF (con38 m) rfl ?_
    simp only [wkA, Nat.reduceEqDiff, Nat.reduceAdd, Nat.reduceSub, Nat.reduceLeDiff, Nat.reduceLT, Nat.reduceBEq, Nat.reduceBNe, reduceCtorEq, L, lenL, mapTake, mapDrop, List.drop_zero, Int.toNat_natCast, Int.toNat_zero, Nat.sub_zero, List.length_map, hg', Bool.not_false]
    simp only [wkA, Nat.reduceEqDiff, Nat.reduceAdd, Nat.reduceSub, Nat.reduceLeDiff, Nat.reduceLT, Nat.reduceBEq, Nat.reduceBNe, reduceCtorEq, L, lenL, mapTake, mapDrop, List.drop_zero, Int.toNat_natCast, Int.toNat_zero, Nat.sub_zero, List.length_map, zD, D]
  | true =>
    have hg' : (decide (0 ≤ m) && decide (m < 8)) = true := hg
    rw [if_neg (by simp)]
    have h40 : decide ((st.length : Int) > 40) = false := decide_eq_false (by omega)
    have hb0 : (((limbs (dv st)).length : Int) == 0) = false := by
      rw [beq_eq_false_iff_ne]
      have := limbs_eq_nil (n := dv st)
      omega
    obtain ⟨E, hE⟩ : ∃ E, E = (if p < e then p else e) := ⟨_, rfl⟩
    have hE2 : E ≤ e ∧ E ≤ p ∧ -10000 < E := by rw [hE]; split <;> omega
    rw [← hE]
    have w1 : IntKind.i64.wrap (p - E) = p - E := by rw [wrap64] <;> omega
    have w2 : IntKind.i64.wrap (e - E) = e - E := by rw [wrap64] <;> omega
    have lb := limbs_nd (dv st)
    have lc := limbs_nd (dv s)
    have c70 := con70 (xs := limbs (dv st)) (n := p - E) (by omega) (by omega) (ok_limbs _)
    have c72 := con72 (neg := neg) h
    have c70a := con70 (xs := limbs (dv s)) (n := e - E) (by omega) (by omega) (ok_limbs _)
    rw [lv_limbs] at c70 c70a
    have hwp : 0 < dv st * 10 ^ (p - E).toNat := Nat.mul_pos (by omega) (Nat.pow_pos (by decide))
    have hna : nd (dv s * 10 ^ (e - E).toNat) ≤ nd (dv s) + (e - E).toNat := nd_mul_le
    have hnw : nd (dv st * 10 ^ (p - E).toNat) ≤ nd (dv st) + (p - E).toNat := nd_mul_le
    generalize dv s * 10 ^ (e - E).toNat = a at *
    generalize dv st * 10 ^ (p - E).toNat = w at *
    have l1 := limbs_nd a
    have l2 := limbs_nd w
    have c71 := con71 (xs := limbs a) (bs := limbs w) (by omega) (by omega) (ok_limbs _) (ok_limbs _) (by rw [lv_limbs]; exact hwp)
    rw [lv_limbs, lv_limbs] at c71
    have hrw := Nat.mod_lt a hwp
    have hqa : a / w ≤ a := Nat.div_le_self _ _
    have c65 := h.norm neg
    have hwm : ∀ n, rq m neg a w = a / w + n → n ≤ 1 → (a / w + n) * w ≤ a + w := by
      intro n _ hn
      rw [Nat.add_mul]
      have h1 := Nat.div_mul_le_self a w
      have h2 : n * w ≤ 1 * w := Nat.mul_le_mul_right _ hn
      omega
    rw [rq]
    obtain ⟨q, hq⟩ : ∃ q, q = a / w := ⟨_, rfl⟩
    obtain ⟨r, hrr⟩ : ∃ r, r = a % w := ⟨_, rfl⟩
    rw [rq] at hwm
    rw [← hq, ← hrr] at c71 ⊢
    rw [← hq, ← hrr] at hwm
    rw [← hrr] at hrw
    rw [← hq] at hqa
    have hr0 : (((limbs r).length : Int) == 0) = decide (r = 0) := by
      have := limbs_eq_nil (n := r)
      rw [Bool.eq_iff_iff, decide_eq_true_eq, beq_iff_eq]
      omega
    by_cases h0 : r = 0
    · have hr0 : (((limbs r).length : Int) == 0) = true := by rw [hr0]; exact decide_eq_true h0
      rw [if_pos h0]
      simp only [ic45, wkA, Nat.reduceEqDiff, Nat.reduceAdd, Nat.reduceSub, Nat.reduceLeDiff, Nat.reduceLT, Nat.reduceBEq, Nat.reduceBNe, reduceCtorEq, L, lenL, mapTake, mapDrop, List.drop_zero, Int.toNat_natCast, Int.toNat_zero, Nat.sub_zero, List.length_map, D] at c64 c65 c70 c72 c70a c71 ⊢
      refine callF c64 rfl ?_
      simp only [wkA, Nat.reduceEqDiff, Nat.reduceAdd, Nat.reduceSub, Nat.reduceLeDiff, Nat.reduceLT, Nat.reduceBEq, Nat.reduceBNe, reduceCtorEq, L, lenL, mapTake, mapDrop, List.drop_zero, Int.toNat_natCast, Int.toNat_zero, Nat.sub_zero, List.length_map]
      refine callF (con38 m) rfl ?_
      simp only [wkA, Nat.reduceEqDiff, Nat.reduceAdd, Nat.reduceSub, Nat.reduceLeDiff, Nat.reduceLT, Nat.reduceBEq, Nat.reduceBNe, reduceCtorEq, L, lenL, mapTake, mapDrop, List.drop_zero, Int.toNat_natCast, Int.toNat_zero, Nat.sub_zero, List.length_map, hg', Bool.not_true, h40, hb0]
      simp only [ic45_3, wkA, Nat.reduceEqDiff, Nat.reduceAdd, Nat.reduceSub, Nat.reduceLeDiff, Nat.reduceLT, Nat.reduceBEq, Nat.reduceBNe, reduceCtorEq, L, lenL, mapTake, mapDrop, List.drop_zero, Int.toNat_natCast, Int.toNat_zero, Nat.sub_zero, List.length_map, ← hE, w1, w2]
      refine callF c70 rfl ?_
      simp only [wkA, Nat.reduceEqDiff, Nat.reduceAdd, Nat.reduceSub, Nat.reduceLeDiff, Nat.reduceLT, Nat.reduceBEq, Nat.reduceBNe, reduceCtorEq, L, lenL, mapTake, mapDrop, List.drop_zero, Int.toNat_natCast, Int.toNat_zero, Nat.sub_zero, List.length_map, w1, w2]
      refine callFD c72 rfl ?_
      simp only [wkA, Nat.reduceEqDiff, Nat.reduceAdd, Nat.reduceSub, Nat.reduceLeDiff, Nat.reduceLT, Nat.reduceBEq, Nat.reduceBNe, reduceCtorEq, L, lenL, mapTake, mapDrop, List.drop_zero, Int.toNat_natCast, Int.toNat_zero, Nat.sub_zero, List.length_map, w1, w2]
      refine callFD c70a rfl ?_
      simp only [wkA, Nat.reduceEqDiff, Nat.reduceAdd, Nat.reduceSub, Nat.reduceLeDiff, Nat.reduceLT, Nat.reduceBEq, Nat.reduceBNe, reduceCtorEq, L, lenL, mapTake, mapDrop, List.drop_zero, Int.toNat_natCast, Int.toNat_zero, Nat.sub_zero, List.length_map, w1, w2]
      refine callFD c71 rfl ?_
      simp only [wkA, Nat.reduceEqDiff, Nat.reduceAdd, Nat.reduceSub, Nat.reduceLeDiff, Nat.reduceLT, Nat.reduceBEq, Nat.reduceBNe, reduceCtorEq, L, lenL, mapTake, mapDrop, List.drop_zero, Int.toNat_natCast, Int.toNat_zero, Nat.sub_zero, List.length_map, hr0]
      refine callF c65 rfl ?_
      simp only [wkA, Nat.reduceEqDiff, Nat.reduceAdd, Nat.reduceSub, Nat.reduceLeDiff, Nat.reduceLT, Nat.reduceBEq, Nat.reduceBNe, reduceCtorEq, L, lenL, mapTake, mapDrop, List.drop_zero, Int.toNat_natCast, Int.toNat_zero, Nat.sub_zero, List.length_map, N, D]
    · have hr0 : (((limbs r).length : Int) == 0) = false := by rw [hr0]; exact decide_eq_false h0
      rw [if_neg h0]
      by_cases h7 : m = 7
      · rw [if_pos h7]
        have h7' : (m == 7) = true := beq_iff_eq.2 h7
        simp only [ic45, wkA, Nat.reduceEqDiff, Nat.reduceAdd, Nat.reduceSub, Nat.reduceLeDiff, Nat.reduceLT, Nat.reduceBEq, Nat.reduceBNe, reduceCtorEq, L, lenL, mapTake, mapDrop, List.drop_zero, Int.toNat_natCast, Int.toNat_zero, Nat.sub_zero, List.length_map, D] at c64 c70 c72 c70a c71 ⊢
        refine callF c64 rfl ?_
        simp only [wkA, Nat.reduceEqDiff, Nat.reduceAdd, Nat.reduceSub, Nat.reduceLeDiff, Nat.reduceLT, Nat.reduceBEq, Nat.reduceBNe, reduceCtorEq, L, lenL, mapTake, mapDrop, List.drop_zero, Int.toNat_natCast, Int.toNat_zero, Nat.sub_zero, List.length_map]
        refine callF (con38 m) rfl ?_
        simp only [wkA, Nat.reduceEqDiff, Nat.reduceAdd, Nat.reduceSub, Nat.reduceLeDiff, Nat.reduceLT, Nat.reduceBEq, Nat.reduceBNe, reduceCtorEq, L, lenL, mapTake, mapDrop, List.drop_zero, Int.toNat_natCast, Int.toNat_zero, Nat.sub_zero, List.length_map, hg', Bool.not_true, h40, hb0]
        simp only [ic45_3, wkA, Nat.reduceEqDiff, Nat.reduceAdd, Nat.reduceSub, Nat.reduceLeDiff, Nat.reduceLT, Nat.reduceBEq, Nat.reduceBNe, reduceCtorEq, L, lenL, mapTake, mapDrop, List.drop_zero, Int.toNat_natCast, Int.toNat_zero, Nat.sub_zero, List.length_map, ← hE, w1, w2]
        refine callF c70 rfl ?_
        simp only [wkA, Nat.reduceEqDiff, Nat.reduceAdd, Nat.reduceSub, Nat.reduceLeDiff, Nat.reduceLT, Nat.reduceBEq, Nat.reduceBNe, reduceCtorEq, L, lenL, mapTake, mapDrop, List.drop_zero, Int.toNat_natCast, Int.toNat_zero, Nat.sub_zero, List.length_map, w1, w2]
        refine callFD c72 rfl ?_
        simp only [wkA, Nat.reduceEqDiff, Nat.reduceAdd, Nat.reduceSub, Nat.reduceLeDiff, Nat.reduceLT, Nat.reduceBEq, Nat.reduceBNe, reduceCtorEq, L, lenL, mapTake, mapDrop, List.drop_zero, Int.toNat_natCast, Int.toNat_zero, Nat.sub_zero, List.length_map, w1, w2]
        refine callFD c70a rfl ?_
        simp only [wkA, Nat.reduceEqDiff, Nat.reduceAdd, Nat.reduceSub, Nat.reduceLeDiff, Nat.reduceLT, Nat.reduceBEq, Nat.reduceBNe, reduceCtorEq, L, lenL, mapTake, mapDrop, List.drop_zero, Int.toNat_natCast, Int.toNat_zero, Nat.sub_zero, List.length_map, w1, w2]
        refine callFD c71 rfl ?_
        simp only [wkA, Nat.reduceEqDiff, Nat.reduceAdd, Nat.reduceSub, Nat.reduceLeDiff, Nat.reduceLT, Nat.reduceBEq, Nat.reduceBNe, reduceCtorEq, L, lenL, mapTake, mapDrop, List.drop_zero, Int.toNat_natCast, Int.toNat_zero, Nat.sub_zero, List.length_map, hr0, h7']
        simp only [wkA, Nat.reduceEqDiff, Nat.reduceAdd, Nat.reduceSub, Nat.reduceLeDiff, Nat.reduceLT, Nat.reduceBEq, Nat.reduceBNe, reduceCtorEq, L, lenL, mapTake, mapDrop, List.drop_zero, Int.toNat_natCast, Int.toNat_zero, Nat.sub_zero, List.length_map, zD, D]
      · rw [if_neg h7]
        have h7' : (m == 7) = false := beq_eq_false_iff_ne.2 h7
        have l3 := limbs_nd q
        have l4 := limbs_nd r
        have l5 : nd q ≤ nd a := nd_mono hqa
        have l6 : nd r ≤ nd w := nd_mono (by omega)
        have l7 := limbs_nd (r + r)
        have l8 : nd (r + r) ≤ nd (w * 10 ^ 1) := nd_mono (by omega)
        have l9 : nd (w * 10 ^ 1) ≤ nd w + 1 := nd_mul_le
        have c75 := con75 (xs := limbs r) (ys := limbs r) (by omega) (by omega) (ok_limbs _) (ok_limbs _)
        rw [lv_limbs] at c75
        have c74 := con74 (xs := limbs (r + r)) (ys := limbs w) (by omega) (by omega) (ok_limbs _) (ok_limbs _)
        rw [lv_limbs, lv_limbs] at c74
        have hodd := oddL (n := q)
        have c75q := con75 (xs := limbs q) (ys := [1]) (by omega) (by simp) (ok_limbs _) (ok_one.2 (by decide))
        rw [lv_limbs, lv_one] at c75q
        have c73 := con73 m neg (decide (q % 2 = 1)) (cmpI ((r + r : Nat) : Int) (w : Nat))
        rw [show (2 * r : Nat) = r + r by omega] at hwm ⊢
        generalize awayB m neg (decide (q % 2 = 1)) (cmpI ((r + r : Nat) : Int) (w : Nat)) = aw at *
        have fin : ∀ (x : Nat) (ex : List (Nat × AV)), x * w ≤ a + w → (limbs x).length < 100000 → VC e0 ic45_1 (retQ [(8, some (some 3)), (9, none)] (.tup [N neg (x * w) E, i64 0])) ⟨(5, .box 5 0) :: (8, .box 8 0) :: (10, .sl 1 ((limbs w).map u32)) :: (12, i64 E) :: (13, .sl 1 ((limbs x).map u32)) :: ex, [(5, .box 23 [.bool neg, .str s, i64 e]), (8, .box 23 [.bool false, .str [], i64 0])]⟩ := by
          intro x ex hx hx2
          have d77 := con77 (xs := limbs x) (ys := limbs w) hx2 (by omega) (ok_limbs _) (ok_limbs _)
          rw [lv_limbs, lv_limbs] at d77
          have d0 : nd (x * w) ≤ nd a + nd w + 1 := by
            have e1 : a + w < 10 ^ (nd a + nd w + 1) := by
              have g1 := lt_nd a
              have g2 := lt_nd w
              have g3 : 10 ^ nd a ≤ 10 ^ (nd a + nd w) := Nat.pow_le_pow_right (by decide) (by omega)
              have g4 : 10 ^ nd w ≤ 10 ^ (nd a + nd w) := Nat.pow_le_pow_right (by decide) (by omega)
              rw [Nat.pow_succ]; omega
            exact nd_le (by omega)
          have l10 := limbs_nd (x * w)
          have d76 := con76 (xs := limbs (x * w)) (by omega) (ok_limbs _)
          rw [lv_limbs] at d76
          have d65 := con65 (neg := neg) (s := text (x * w)) (e := E) (dgs_text _) (by have := text_len (x * w); omega) (by omega)
          rw [dv_text] at d65
          generalize x * w = y at *
          simp only [L, D] at d77 d76 d65
          simp only [ic45_1, wkA, Nat.reduceEqDiff, Nat.reduceAdd, Nat.reduceSub, Nat.reduceLeDiff, Nat.reduceLT, Nat.reduceBEq, Nat.reduceBNe, reduceCtorEq, L, lenL, mapTake, mapDrop, List.drop_zero, Int.toNat_natCast, Int.toNat_zero, Nat.sub_zero, List.length_map]
          refine callFD d77 rfl ?_
          simp only [wkA, Nat.reduceEqDiff, Nat.reduceAdd, Nat.reduceSub, Nat.reduceLeDiff, Nat.reduceLT, Nat.reduceBEq, Nat.reduceBNe, reduceCtorEq, L, lenL, mapTake, mapDrop, List.drop_zero, Int.toNat_natCast, Int.toNat_zero, Nat.sub_zero, List.length_map]
          refine callFD d76 rfl ?_
          simp only [wkA, Nat.reduceEqDiff, Nat.reduceAdd, Nat.reduceSub, Nat.reduceLeDiff, Nat.reduceLT, Nat.reduceBEq, Nat.reduceBNe, reduceCtorEq, L, lenL, mapTake, mapDrop, List.drop_zero, Int.toNat_natCast, Int.toNat_zero, Nat.sub_zero, List.length_map]
          refine callFD d65 rfl ?_
          simp only [wkA, Nat.reduceEqDiff, Nat.reduceAdd, Nat.reduceSub, Nat.reduceLeDiff, Nat.reduceLT, Nat.reduceBEq, Nat.reduceBNe, reduceCtorEq, L, lenL, mapTake, mapDrop, List.drop_zero, Int.toNat_natCast, Int.toNat_zero, Nat.sub_zero, List.length_map, N, D]
        have hnq : nd (q + 1) ≤ nd q + 1 := by
          by_cases h0 : q = 0
          · rw [h0, nd_zero, nd_pos (by decide), nd_zero]; omega
          · have := nd_mul h0 1
            have := nd_mono (show q + 1 ≤ q * 10 ^ 1 by omega)
            omega
        have l11 := limbs_nd (q + 1)
        simp only [ic45, wkA, Nat.reduceEqDiff, Nat.reduceAdd, Nat.reduceSub, Nat.reduceLeDiff, Nat.reduceLT, Nat.reduceBEq, Nat.reduceBNe, reduceCtorEq, L, lenL, mapTake, mapDrop, List.drop_zero, Int.toNat_natCast, Int.toNat_zero, Nat.sub_zero, List.length_map, D] at c64 c70 c72 c70a c71 c75 c74 c75q ⊢
        refine callF c64 rfl ?_
        simp only [wkA, Nat.reduceEqDiff, Nat.reduceAdd, Nat.reduceSub, Nat.reduceLeDiff, Nat.reduceLT, Nat.reduceBEq, Nat.reduceBNe, reduceCtorEq, L, lenL, mapTake, mapDrop, List.drop_zero, Int.toNat_natCast, Int.toNat_zero, Nat.sub_zero, List.length_map]
        refine callF (con38 m) rfl ?_
        simp only [wkA, Nat.reduceEqDiff, Nat.reduceAdd, Nat.reduceSub, Nat.reduceLeDiff, Nat.reduceLT, Nat.reduceBEq, Nat.reduceBNe, reduceCtorEq, L, lenL, mapTake, mapDrop, List.drop_zero, Int.toNat_natCast, Int.toNat_zero, Nat.sub_zero, List.length_map, hg', Bool.not_true, h40, hb0]
        simp only [ic45_3, wkA, Nat.reduceEqDiff, Nat.reduceAdd, Nat.reduceSub, Nat.reduceLeDiff, Nat.reduceLT, Nat.reduceBEq, Nat.reduceBNe, reduceCtorEq, L, lenL, mapTake, mapDrop, List.drop_zero, Int.toNat_natCast, Int.toNat_zero, Nat.sub_zero, List.length_map, ← hE, w1, w2]
        refine callF c70 rfl ?_
        simp only [wkA, Nat.reduceEqDiff, Nat.reduceAdd, Nat.reduceSub, Nat.reduceLeDiff, Nat.reduceLT, Nat.reduceBEq, Nat.reduceBNe, reduceCtorEq, L, lenL, mapTake, mapDrop, List.drop_zero, Int.toNat_natCast, Int.toNat_zero, Nat.sub_zero, List.length_map, w1, w2]
        refine callFD c72 rfl ?_
        simp only [wkA, Nat.reduceEqDiff, Nat.reduceAdd, Nat.reduceSub, Nat.reduceLeDiff, Nat.reduceLT, Nat.reduceBEq, Nat.reduceBNe, reduceCtorEq, L, lenL, mapTake, mapDrop, List.drop_zero, Int.toNat_natCast, Int.toNat_zero, Nat.sub_zero, List.length_map, w1, w2]
        refine callFD c70a rfl ?_
        simp only [wkA, Nat.reduceEqDiff, Nat.reduceAdd, Nat.reduceSub, Nat.reduceLeDiff, Nat.reduceLT, Nat.reduceBEq, Nat.reduceBNe, reduceCtorEq, L, lenL, mapTake, mapDrop, List.drop_zero, Int.toNat_natCast, Int.toNat_zero, Nat.sub_zero, List.length_map, w1, w2]
        refine callFD c71 rfl ?_
        simp only [wkA, Nat.reduceEqDiff, Nat.reduceAdd, Nat.reduceSub, Nat.reduceLeDiff, Nat.reduceLT, Nat.reduceBEq, Nat.reduceBNe, reduceCtorEq, L, lenL, mapTake, mapDrop, List.drop_zero, Int.toNat_natCast, Int.toNat_zero, Nat.sub_zero, List.length_map, hr0, h7']
        by_cases h0 : q = 0
        · have e1 : decide (((limbs q).length : Int) > 0) = false := by rw [h0, limbs_zero]; rfl
          have e2 : decide (q % 2 = 1) = false := by rw [h0]; rfl
          rw [e2] at c73
          simp only [ic45_2, wkA, Nat.reduceEqDiff, Nat.reduceAdd, Nat.reduceSub, Nat.reduceLeDiff, Nat.reduceLT, Nat.reduceBEq, Nat.reduceBNe, reduceCtorEq, L, lenL, mapTake, mapDrop, List.drop_zero, Int.toNat_natCast, Int.toNat_zero, Nat.sub_zero, List.length_map, e1]
          refine callFD c75 rfl ?_
          simp only [wkA, Nat.reduceEqDiff, Nat.reduceAdd, Nat.reduceSub, Nat.reduceLeDiff, Nat.reduceLT, Nat.reduceBEq, Nat.reduceBNe, reduceCtorEq, L, lenL, mapTake, mapDrop, List.drop_zero, Int.toNat_natCast, Int.toNat_zero, Nat.sub_zero, List.length_map, e1]
          refine callFD c74 rfl ?_
          simp only [wkA, Nat.reduceEqDiff, Nat.reduceAdd, Nat.reduceSub, Nat.reduceLeDiff, Nat.reduceLT, Nat.reduceBEq, Nat.reduceBNe, reduceCtorEq, L, lenL, mapTake, mapDrop, List.drop_zero, Int.toNat_natCast, Int.toNat_zero, Nat.sub_zero, List.length_map, e1]
          refine callFD c73 rfl ?_
          cases aw with
          | true =>
            simp only [wkA, Nat.reduceEqDiff, Nat.reduceAdd, Nat.reduceSub, Nat.reduceLeDiff, Nat.reduceLT, Nat.reduceBEq, Nat.reduceBNe, reduceCtorEq, L, lenL, mapTake, mapDrop, List.drop_zero, Int.toNat_natCast, Int.toNat_zero, Nat.sub_zero, List.length_map]
            refine callF c75q rfl ?_
            simp only [wkA, Nat.reduceEqDiff, Nat.reduceAdd, Nat.reduceSub, Nat.reduceLeDiff, Nat.reduceLT, Nat.reduceBEq, Nat.reduceBNe, reduceCtorEq, L, lenL, mapTake, mapDrop, List.drop_zero, Int.toNat_natCast, Int.toNat_zero, Nat.sub_zero, List.length_map]
            exact fin (q + 1) [] (hwm 1 rfl (by omega)) (by omega)
          | false =>
            simp only [wkA, Nat.reduceEqDiff, Nat.reduceAdd, Nat.reduceSub, Nat.reduceLeDiff, Nat.reduceLT, Nat.reduceBEq, Nat.reduceBNe, reduceCtorEq, L, lenL, mapTake, mapDrop, List.drop_zero, Int.toNat_natCast, Int.toNat_zero, Nat.sub_zero, List.length_map]
            exact fin (q + 0) _ (hwm 0 rfl (by omega)) (by simp only [Nat.add_zero]; omega)
        · obtain ⟨q1, q2⟩ := limbs_head h0
          have e1 : decide (((limbs q).length : Int) > 0) = true := decide_eq_true (by omega)
          have e2 : (((((limbs q).getD 0 0 : Nat) : Int).tmod 2) == 1) = decide (q % 2 = 1) := by
            rw [show (((limbs q).getD 0 0 : Nat) : Int).tmod 2 = (((limbs q).getD 0 0 % 2 : Nat) : Int) from rfl, q1, Bool.eq_iff_iff, beq_iff_eq, decide_eq_true_eq]
            omega
          simp only [ic45_2, wkA, Nat.reduceEqDiff, Nat.reduceAdd, Nat.reduceSub, Nat.reduceLeDiff, Nat.reduceLT, Nat.reduceBEq, Nat.reduceBNe, reduceCtorEq, L, lenL, mapTake, mapDrop, List.drop_zero, Int.toNat_natCast, Int.toNat_zero, Nat.sub_zero, List.length_map, e1, getL q2, e2]
          refine ⟨⟨by omega, by omega⟩, by omega, callFD c75 rfl ?_⟩
          simp only [wkA, Nat.reduceEqDiff, Nat.reduceAdd, Nat.reduceSub, Nat.reduceLeDiff, Nat.reduceLT, Nat.reduceBEq, Nat.reduceBNe, reduceCtorEq, L, lenL, mapTake, mapDrop, List.drop_zero, Int.toNat_natCast, Int.toNat_zero, Nat.sub_zero, List.length_map, e1]
          refine callFD c74 rfl ?_
          simp only [wkA, Nat.reduceEqDiff, Nat.reduceAdd, Nat.reduceSub, Nat.reduceLeDiff, Nat.reduceLT, Nat.reduceBEq, Nat.reduceBNe, reduceCtorEq, L, lenL, mapTake, mapDrop, List.drop_zero, Int.toNat_natCast, Int.toNat_zero, Nat.sub_zero, List.length_map, e1]
          refine callFD c73 rfl ?_
          cases aw with
          | true =>
            simp only [wkA, Nat.reduceEqDiff, Nat.reduceAdd, Nat.reduceSub, Nat.reduceLeDiff, Nat.reduceLT, Nat.reduceBEq, Nat.reduceBNe, reduceCtorEq, L, lenL, mapTake, mapDrop, List.drop_zero, Int.toNat_natCast, Int.toNat_zero, Nat.sub_zero, List.length_map]
            refine callF c75q rfl ?_
            simp only [wkA, Nat.reduceEqDiff, Nat.reduceAdd, Nat.reduceSub, Nat.reduceLeDiff, Nat.reduceLT, Nat.reduceBEq, Nat.reduceBNe, reduceCtorEq, L, lenL, mapTake, mapDrop, List.drop_zero, Int.toNat_natCast, Int.toNat_zero, Nat.sub_zero, List.length_map]
            exact fin (q + 1) [] (hwm 1 rfl (by omega)) (by omega)
          | false =>
            simp only [wkA, Nat.reduceEqDiff, Nat.reduceAdd, Nat.reduceSub, Nat.reduceLeDiff, Nat.reduceLT, Nat.reduceBEq, Nat.reduceBNe, reduceCtorEq, L, lenL, mapTake, mapDrop, List.drop_zero, Int.toNat_natCast, Int.toNat_zero, Nat.sub_zero, List.length_map]
            exact fin (q + 0) _ (hwm 0 rfl (by omega)) (by simp only [Nat.add_zero]; omega)
end Go.Proofs.YtgehlcgjchfibaaGreatDoor.F
