import Derived.Test.YtjpejkfhkbaakaaViewE
namespace Go.Ev
open Go
set_option linter.unnecessarySimpa false
set_option linter.unusedSimpArgs false
set_option linter.unusedVariables false
noncomputable def apiarylaw22_ViewTiles_pc : PC :=
  (.seq (.reg [⟨(some 10), none, 0, .see (.mov (.c (.r (.v (.bool false)))))⟩])
  (.seq (.reg [⟨(some 32), none, 0, .see (.mov (.t 0))⟩,
    ⟨(some 33), none, 0, .see (.mov (.t 1))⟩,
    ⟨(some 34), none, 0, .see (.mov (.t 2))⟩,
    ⟨(some 35), none, 0, .see (.mov (.t 3))⟩,
    ⟨(some 36), none, 1, .call 5 [(.t 32), (.t 33), (.t 34), (.t 35)]⟩,
    ⟨(some 11), none, 0, .act (.new [(.r (.v (.int .i64 0))), (.r (.v (.int .i64 0))), (.r (.v (.int .i64 0))), (.r (.v (.int .i64 0)))])⟩,
    ⟨none, none, 0, .act (.st 4 (.t 11) (.t 36))⟩])
  (.seq (.reg [⟨(some 37), none, 0, .see (.mov (.t 0))⟩,
    ⟨(some 38), none, 0, .see (.bin .and (.t 37) (.c (.r (.v (.int .i64 1073741823)))))⟩,
    ⟨(some 39), none, 0, .see (.mov (.t 1))⟩,
    ⟨(some 40), none, 0, .see (.bin .and (.t 39) (.c (.r (.v (.int .i64 1073741823)))))⟩,
    ⟨(some 0), none, 0, .see (.mov (.t 38))⟩,
    ⟨(some 1), none, 0, .see (.mov (.t 40))⟩])
  (.seq (.reg [⟨(some 41), none, 0, .see (.mov (.t 0))⟩,
    ⟨(some 42), none, 0, .see (.mov (.t 1))⟩,
    ⟨(some 43), none, 0, .see (.fa 0 (.t 11))⟩,
    ⟨(some 44), none, 0, .see (.ld none (.t 43))⟩,
    ⟨(some 45), none, 0, .see (.fa 3 (.t 11))⟩,
    ⟨(some 46), none, 0, .see (.ld none (.t 45))⟩,
    ⟨(some 47), none, 2, .call 9 [(.t 41), (.t 42), (.t 44), (.t 46)]⟩,
    ⟨(some 12), none, 0, .see (.mov (.t 47))⟩])
  (.seq (.seq (.reg [⟨(some 48), none, 0, .see (.ld (some 4) (.t 11))⟩,
    ⟨(some 49), none, 3, .call 10 [(.t 48)]⟩])
  (.cond (.t 49)
    (.seq (.reg [⟨(some 50), none, 0, .see (.mov (.t 12))⟩,
    ⟨(some 51), none, 0, .see (.len false (.t 50))⟩,
    ⟨(some 52), none, 0, .see (.bin .eql (.t 51) (.c (.r (.v (.int .i64 0)))))⟩,
    ⟨(some 53), none, 0, .see (.mov (.t 52))⟩,
    ⟨(some 54), (some (53, true)), 4, .call 8 []⟩,
    ⟨(some 55), none, 0, .see (.pick (.t 53) (.t 54) (.c (.r (.v (.bool false)))))⟩,
    ⟨(some 10), none, 0, .see (.mov (.t 55))⟩])
    .ret)
    .skip))
  (.seq (.reg [⟨(some 56), none, 0, .see (.mov (.t 0))⟩,
    ⟨(some 57), none, 0, .see (.mov (.t 1))⟩,
    ⟨(some 58), none, 0, .see (.fa 3 (.t 11))⟩,
    ⟨(some 59), none, 0, .see (.ld none (.t 58))⟩,
    ⟨(some 60), none, 5, .call 11 [(.t 56), (.t 57), (.t 59)]⟩,
    ⟨(some 13), none, 0, .see (.mov (.t 60))⟩])
  (.seq (.reg [⟨(some 62), none, 0, .see (.mov (.t 13))⟩,
    ⟨(some 63), none, 6, .call 12 [(.t 62)]⟩,
    ⟨(some 61), none, 0, .see (.mov (.t 63))⟩,
    ⟨(some 64), none, 0, .see (.ext (.t 61) 0)⟩,
    ⟨(some 65), none, 0, .see (.ext (.t 61) 1)⟩,
    ⟨(some 14), none, 0, .act (.new [(.r (.v (.int .i64 0))), (.r (.v (.int .i64 0))), (.r (.v (.int .i64 0)))])⟩,
    ⟨none, none, 0, .act (.st 3 (.t 14) (.t 64))⟩,
    ⟨(some 15), none, 0, .see (.mov (.t 65))⟩])
  (.seq (.reg [⟨(some 66), none, 0, .see (.fa 1 (.t 14))⟩,
    ⟨(some 67), none, 0, .see (.ld (some 2) (.t 66))⟩,
    ⟨(some 68), none, 0, .see (.fa 0 (.t 14))⟩,
    ⟨(some 69), none, 0, .see (.ld none (.t 68))⟩,
    ⟨(some 70), none, 7, .call 13 [(.t 67), (.t 69)]⟩,
    ⟨(some 16), none, 0, .see (.mov (.t 70))⟩])
  (.seq (.drw [⟨(some 71), none, 0, .see (.mov (.t 16))⟩,
    ⟨(some 72), none, 0, .see (.ia 2 (.agg [(.v (.int .i64 0)), (.v (.int .i64 0))]) (.t 71) (.c (.r (.v (.int .i64 0)))))⟩,
    ⟨(some 73), none, 0, .see (.ld (some 2) (.t 72))⟩,
    ⟨(some 74), none, 0, .see (.mov (.t 16))⟩,
    ⟨(some 75), none, 0, .see (.ia 2 (.agg [(.v (.int .i64 0)), (.v (.int .i64 0))]) (.t 74) (.c (.r (.v (.int .i64 0)))))⟩,
    ⟨(some 76), none, 0, .see (.ld (some 2) (.t 75))⟩,
    ⟨(some 17), none, 0, .act (.new [(.r (.v (.int .i64 0))), (.r (.v (.int .i64 0)))])⟩,
    ⟨(some 18), none, 0, .act (.new [(.r (.v (.int .i64 0))), (.r (.v (.int .i64 0)))])⟩,
    ⟨none, none, 0, .act (.st 2 (.t 17) (.t 73))⟩,
    ⟨none, none, 0, .act (.st 2 (.t 18) (.t 76))⟩]
    [[], [0], [0, 1], [], [3], [3, 4], [], [], [0, 1, 2, 6, 7], [0, 1, 2, 3, 4, 5, 6, 7, 8]])
  (.seq (.seq (.reg [⟨(some 19), none, 0, .see (.mov (.c (.r (.v (.int .i64 0)))))⟩])
  (.block 0 (.loop (.seq (.seq (.reg [⟨(some 77), none, 0, .see (.mov (.t 19))⟩,
    ⟨(some 78), none, 0, .see (.bin .lss (.t 77) (.c (.r (.v (.int .i64 6)))))⟩])
  (.cond (.t 78)
    .skip
    (.exit 0)))
  (.seq (.block 1 (.seq (.reg [⟨(some 20), none, 0, .see (.mov (.c (.r (.v (.int .i64 0)))))⟩])
  (.block 2 (.loop (.seq (.seq (.reg [⟨(some 81), none, 0, .see (.mov (.t 20))⟩,
    ⟨(some 82), none, 0, .see (.bin .lss (.t 81) (.c (.r (.v (.int .i64 2)))))⟩])
  (.cond (.t 82)
    .skip
    (.exit 2)))
  (.seq (.block 3 (.drw [⟨(some 85), none, 0, .see (.mov (.t 20))⟩,
    ⟨(some 86), none, 0, .see (.mov (.t 20))⟩,
    ⟨(some 87), none, 0, .see (.mov (.t 20))⟩,
    ⟨(some 88), none, 0, .see (.iaa 2 1 (.t 17) (.t 87))⟩,
    ⟨(some 89), none, 0, .see (.ld none (.t 88))⟩,
    ⟨(some 90), none, 0, .see (.mov (.t 16))⟩,
    ⟨(some 91), none, 0, .see (.mov (.t 19))⟩,
    ⟨(some 92), none, 0, .see (.mov (.t 20))⟩,
    ⟨(some 93), none, 0, .see (.ia 2 (.agg [(.v (.int .i64 0)), (.v (.int .i64 0))]) (.t 90) (.t 91))⟩,
    ⟨(some 94), none, 0, .see (.iaa 2 1 (.t 93) (.t 92))⟩,
    ⟨(some 95), none, 0, .see (.ld none (.t 94))⟩,
    ⟨(some 96), none, 0, .see (.mm false (.t 89) [(.t 95)])⟩,
    ⟨(some 97), none, 0, .see (.mov (.t 20))⟩,
    ⟨(some 98), none, 0, .see (.iaa 2 1 (.t 18) (.t 97))⟩,
    ⟨(some 99), none, 0, .see (.ld none (.t 98))⟩,
    ⟨(some 100), none, 0, .see (.mov (.t 16))⟩,
    ⟨(some 101), none, 0, .see (.mov (.t 19))⟩,
    ⟨(some 102), none, 0, .see (.mov (.t 20))⟩,
    ⟨(some 103), none, 0, .see (.ia 2 (.agg [(.v (.int .i64 0)), (.v (.int .i64 0))]) (.t 100) (.t 101))⟩,
    ⟨(some 104), none, 0, .see (.iaa 2 1 (.t 103) (.t 102))⟩,
    ⟨(some 105), none, 0, .see (.ld none (.t 104))⟩,
    ⟨(some 106), none, 0, .see (.mm true (.t 99) [(.t 105)])⟩,
    ⟨(some 107), none, 0, .see (.iaa 2 1 (.t 17) (.t 85))⟩,
    ⟨none, none, 0, .act (.st 1 (.t 107) (.t 96))⟩,
    ⟨(some 108), none, 0, .see (.iaa 2 1 (.t 18) (.t 86))⟩,
    ⟨none, none, 0, .act (.st 1 (.t 108) (.t 106))⟩]
    [[], [], [], [2], [2, 3], [], [], [], [5, 6], [5, 6, 7, 8], [5, 6, 7, 8, 9], [2, 3, 4, 5, 6, 7, 8, 9, 10], [], [12], [12, 13], [], [], [], [15, 16], [15, 16, 17, 18], [15, 16, 17, 18, 19], [12, 13, 14, 15, 16, 17, 18, 19, 20], [0, 2, 3, 4, 5, 6, 7, 8, 9, 10, 11], [0, 2, 3, 4, 5, 6, 7, 8, 9, 10, 11, 22], [0, 1, 2, 3, 4, 5, 6, 7, 8, 9, 10, 11, 12, 13, 14, 15, 16, 17, 18, 19, 20, 21, 22, 23], [0, 1, 2, 3, 4, 5, 6, 7, 8, 9, 10, 11, 12, 13, 14, 15, 16, 17, 18, 19, 20, 21, 22, 23, 24]]))
  (.reg [⟨(some 83), none, 0, .see (.mov (.t 20))⟩,
    ⟨(some 84), none, 0, .see (.bin .add (.t 83) (.c (.r (.v (.int .i64 1)))))⟩,
    ⟨(some 20), none, 0, .see (.mov (.t 84))⟩])))))))
  (.reg [⟨(some 79), none, 0, .see (.mov (.t 19))⟩,
    ⟨(some 80), none, 0, .see (.bin .add (.t 79) (.c (.r (.v (.int .i64 1)))))⟩,
    ⟨(some 19), none, 0, .see (.mov (.t 80))⟩]))))))
  (.seq (.reg [⟨(some 109), none, 0, .see (.fa 0 (.t 11))⟩,
    ⟨(some 110), none, 0, .see (.ld none (.t 109))⟩,
    ⟨(some 111), none, 0, .see (.bin .sub (.c (.r (.v (.int .i64 30)))) (.t 110))⟩,
    ⟨(some 112), none, 0, .see (.bin .shl (.c (.r (.v (.int .i64 1)))) (.t 111))⟩,
    ⟨(some 21), none, 0, .see (.mov (.t 112))⟩])
  (.seq (.drw [⟨(some 113), none, 0, .see (.iaa 2 1 (.t 17) (.c (.r (.v (.int .i64 0)))))⟩,
    ⟨(some 114), none, 0, .see (.ld none (.t 113))⟩,
    ⟨(some 115), none, 0, .see (.bin .quo (.t 114) (.c (.r (.v (.int .i64 3)))))⟩,
    ⟨(some 116), none, 0, .see (.mov (.t 21))⟩,
    ⟨(some 117), none, 0, .see (.bin .quo (.t 115) (.t 116))⟩,
    ⟨(some 118), none, 0, .see (.bin .sub (.t 117) (.c (.r (.v (.int .i64 2)))))⟩,
    ⟨(some 119), none, 0, .see (.mm true (.t 118) [(.c (.r (.v (.int .i64 0))))])⟩,
    ⟨(some 120), none, 0, .see (.iaa 2 1 (.t 17) (.c (.r (.v (.int .i64 1)))))⟩,
    ⟨(some 121), none, 0, .see (.ld none (.t 120))⟩,
    ⟨(some 122), none, 0, .see (.bin .quo (.t 121) (.c (.r (.v (.int .i64 3)))))⟩,
    ⟨(some 123), none, 0, .see (.mov (.t 21))⟩,
    ⟨(some 124), none, 0, .see (.bin .quo (.t 122) (.t 123))⟩,
    ⟨(some 125), none, 0, .see (.bin .sub (.t 124) (.c (.r (.v (.int .i64 2)))))⟩,
    ⟨(some 126), none, 0, .see (.mm true (.t 125) [(.c (.r (.v (.int .i64 0))))])⟩,
    ⟨(some 22), none, 0, .see (.mov (.t 119))⟩,
    ⟨(some 23), none, 0, .see (.mov (.t 126))⟩]
    [[], [0], [0, 1], [], [0, 1, 2, 3], [0, 1, 2, 3, 4], [0, 1, 2, 3, 4, 5], [], [7], [7, 8], [], [7, 8, 9, 10], [7, 8, 9, 10, 11], [7, 8, 9, 10, 11, 12], [0, 1, 2, 3, 4, 5, 6], [0, 1, 2, 3, 4, 5, 6, 7, 8, 9, 10, 11, 12, 13, 14]])
  (.seq (.drw [⟨(some 127), none, 0, .see (.iaa 2 1 (.t 18) (.c (.r (.v (.int .i64 0)))))⟩,
    ⟨(some 128), none, 0, .see (.ld none (.t 127))⟩,
    ⟨(some 129), none, 0, .see (.bin .quo (.t 128) (.c (.r (.v (.int .i64 3)))))⟩,
    ⟨(some 130), none, 0, .see (.mov (.t 21))⟩,
    ⟨(some 131), none, 0, .see (.bin .quo (.t 129) (.t 130))⟩,
    ⟨(some 132), none, 0, .see (.bin .add (.t 131) (.c (.r (.v (.int .i64 2)))))⟩,
    ⟨(some 133), none, 0, .see (.fa 0 (.t 11))⟩,
    ⟨(some 134), none, 0, .see (.ld none (.t 133))⟩,
    ⟨(some 135), none, 0, .see (.bin .shl (.c (.r (.v (.int .i64 1)))) (.t 134))⟩,
    ⟨(some 136), none, 0, .see (.bin .sub (.t 135) (.c (.r (.v (.int .i64 1)))))⟩,
    ⟨(some 137), none, 0, .see (.mm false (.t 132) [(.t 136)])⟩,
    ⟨(some 138), none, 0, .see (.iaa 2 1 (.t 18) (.c (.r (.v (.int .i64 1)))))⟩,
    ⟨(some 139), none, 0, .see (.ld none (.t 138))⟩,
    ⟨(some 140), none, 0, .see (.bin .quo (.t 139) (.c (.r (.v (.int .i64 3)))))⟩,
    ⟨(some 141), none, 0, .see (.mov (.t 21))⟩,
    ⟨(some 142), none, 0, .see (.bin .quo (.t 140) (.t 141))⟩,
    ⟨(some 143), none, 0, .see (.bin .add (.t 142) (.c (.r (.v (.int .i64 2)))))⟩,
    ⟨(some 144), none, 0, .see (.fa 0 (.t 11))⟩,
    ⟨(some 145), none, 0, .see (.ld none (.t 144))⟩,
    ⟨(some 146), none, 0, .see (.bin .shl (.c (.r (.v (.int .i64 1)))) (.t 145))⟩,
    ⟨(some 147), none, 0, .see (.bin .sub (.t 146) (.c (.r (.v (.int .i64 1)))))⟩,
    ⟨(some 148), none, 0, .see (.mm false (.t 143) [(.t 147)])⟩,
    ⟨(some 24), none, 0, .see (.mov (.t 137))⟩,
    ⟨(some 25), none, 0, .see (.mov (.t 148))⟩]
    [[], [0], [0, 1], [], [0, 1, 2, 3], [0, 1, 2, 3, 4], [], [6], [6, 7], [6, 7, 8], [0, 1, 2, 3, 4, 5, 6, 7, 8, 9], [], [11], [11, 12], [], [11, 12, 13, 14], [11, 12, 13, 14, 15], [], [17], [17, 18], [17, 18, 19], [11, 12, 13, 14, 15, 16, 17, 18, 19, 20], [0, 1, 2, 3, 4, 5, 6, 7, 8, 9, 10], [0, 1, 2, 3, 4, 5, 6, 7, 8, 9, 10, 11, 12, 13, 14, 15, 16, 17, 18, 19, 20, 21, 22]])
  (.seq (.seq (.reg [⟨(some 149), none, 0, .see (.mov (.t 24))⟩,
    ⟨(some 150), none, 0, .see (.mov (.t 22))⟩,
    ⟨(some 151), none, 0, .see (.bin .sub (.t 149) (.t 150))⟩,
    ⟨(some 152), none, 0, .see (.bin .add (.t 151) (.c (.r (.v (.int .i64 1)))))⟩,
    ⟨(some 153), none, 0, .see (.mov (.t 25))⟩,
    ⟨(some 154), none, 0, .see (.mov (.t 23))⟩,
    ⟨(some 155), none, 0, .see (.bin .sub (.t 153) (.t 154))⟩,
    ⟨(some 156), none, 0, .see (.bin .add (.t 155) (.c (.r (.v (.int .i64 1)))))⟩,
    ⟨(some 157), none, 0, .see (.bin .mul (.t 152) (.t 156))⟩,
    ⟨(some 158), none, 0, .see (.bin .gtr (.t 157) (.c (.r (.v (.int .i64 900)))))⟩])
  (.cond (.t 158)
    (.seq (.reg [⟨(some 159), none, 0, .see (.mov (.t 12))⟩,
    ⟨(some 160), none, 0, .see (.len false (.t 159))⟩,
    ⟨(some 161), none, 0, .see (.bin .eql (.t 160) (.c (.r (.v (.int .i64 0)))))⟩,
    ⟨(some 162), none, 0, .see (.mov (.t 161))⟩,
    ⟨(some 163), (some (162, false)), 0, .see (.mov (.t 12))⟩,
    ⟨(some 164), (some (162, false)), 0, .see (.len false (.t 163))⟩,
    ⟨(some 165), (some (162, false)), 0, .see (.bin .leq (.t 164) (.c (.r (.v (.int .i64 10000)))))⟩,
    ⟨(some 166), none, 0, .see (.pick (.t 162) (.c (.r (.v (.bool true)))) (.t 165))⟩,
    ⟨(some 167), none, 0, .see (.mov (.t 166))⟩,
    ⟨(some 168), (some (167, true)), 8, .call 8 []⟩,
    ⟨(some 169), none, 0, .see (.pick (.t 167) (.t 168) (.c (.r (.v (.bool false)))))⟩,
    ⟨(some 10), none, 0, .see (.mov (.t 169))⟩])
    .ret)
    .skip))
  (.seq (.reg [⟨(some 26), none, 0, .see (.mov (.c (.nils 4 (.agg [(.v (.int .i64 0)), (.v (.int .i64 0)), (.v (.int .i64 0)), (.v (.int .i64 0))]))))⟩])
  (.seq (.seq (.reg [⟨(some 170), none, 0, .see (.mov (.t 23))⟩,
    ⟨(some 27), none, 0, .see (.mov (.t 170))⟩])
  (.block 4 (.loop (.seq (.seq (.reg [⟨(some 171), none, 0, .see (.mov (.t 27))⟩,
    ⟨(some 172), none, 0, .see (.mov (.t 25))⟩,
    ⟨(some 173), none, 0, .see (.bin .leq (.t 171) (.t 172))⟩])
  (.cond (.t 173)
    .skip
    (.exit 4)))
  (.seq (.block 5 (.seq (.reg [⟨(some 176), none, 0, .see (.mov (.t 22))⟩,
    ⟨(some 28), none, 0, .see (.mov (.t 176))⟩])
  (.block 6 (.loop (.seq (.seq (.reg [⟨(some 177), none, 0, .see (.mov (.t 28))⟩,
    ⟨(some 178), none, 0, .see (.mov (.t 24))⟩,
    ⟨(some 179), none, 0, .see (.bin .leq (.t 177) (.t 178))⟩])
  (.cond (.t 179)
    .skip
    (.exit 6)))
  (.seq (.block 7 (.seq (.reg [⟨(some 182), none, 0, .see (.fa 0 (.t 11))⟩,
    ⟨(some 183), none, 0, .see (.ld none (.t 182))⟩,
    ⟨(some 184), none, 0, .see (.mov (.t 28))⟩,
    ⟨(some 185), none, 0, .see (.mov (.t 27))⟩,
    ⟨(some 186), none, 0, .see (.fa 3 (.t 11))⟩,
    ⟨(some 187), none, 0, .see (.ld none (.t 186))⟩,
    ⟨(some 188), none, 0, .see (.build [(.r (.v (.int .i64 0))), (.r (.v (.int .i64 0))), (.r (.v (.int .i64 0))), (.r (.v (.int .i64 0)))] [(0, 1, (.t 183)), (1, 1, (.t 184)), (2, 1, (.t 185)), (3, 1, (.t 187))])⟩,
    ⟨(some 29), none, 0, .act (.new [(.r (.v (.int .i64 0))), (.r (.v (.int .i64 0))), (.r (.v (.int .i64 0))), (.r (.v (.int .i64 0)))])⟩,
    ⟨none, none, 0, .act (.st 4 (.t 29) (.t 188))⟩])
  (.seq (.reg [⟨(some 189), none, 0, .see (.ld (some 4) (.t 29))⟩,
    ⟨(some 190), none, 0, .see (.mov (.t 13))⟩,
    ⟨(some 191), none, 9, .call 14 [(.t 189), (.t 190)]⟩])
  (.cond (.t 191)
    (.reg [⟨(some 192), none, 0, .see (.mov (.t 26))⟩,
    ⟨(some 193), none, 0, .see (.ld (some 4) (.t 29))⟩,
    ⟨(some 194), none, 0, .act (.bsl 4 (.agg [(.v (.int .i64 0)), (.v (.int .i64 0)), (.v (.int .i64 0)), (.v (.int .i64 0))]) [(.t 193)])⟩,
    ⟨(some 195), none, 0, .act (.app 4 (.agg [(.v (.int .i64 0)), (.v (.int .i64 0)), (.v (.int .i64 0)), (.v (.int .i64 0))]) 32 (.t 192) (.t 194))⟩,
    ⟨(some 26), none, 0, .see (.mov (.t 195))⟩])
    .skip))))
  (.reg [⟨(some 180), none, 0, .see (.mov (.t 28))⟩,
    ⟨(some 181), none, 0, .see (.bin .add (.t 180) (.c (.r (.v (.int .i64 1)))))⟩,
    ⟨(some 28), none, 0, .see (.mov (.t 181))⟩])))))))
  (.reg [⟨(some 174), none, 0, .see (.mov (.t 27))⟩,
    ⟨(some 175), none, 0, .see (.bin .add (.t 174) (.c (.r (.v (.int .i64 1)))))⟩,
    ⟨(some 27), none, 0, .see (.mov (.t 175))⟩]))))))
  (.seq (.reg [⟨(some 30), none, 0, .see (.mov (.c (.r (.v (.bool false)))))⟩])
  (.seq (.seq (.reg [⟨(some 31), none, 0, .see (.mov (.c (.r (.v (.int .i64 0)))))⟩])
  (.block 8 (.loop (.seq (.seq (.reg [⟨(some 196), none, 0, .see (.mov (.t 31))⟩,
    ⟨(some 197), none, 0, .see (.mov (.t 12))⟩,
    ⟨(some 198), none, 0, .see (.len false (.t 197))⟩,
    ⟨(some 199), none, 0, .see (.bin .lss (.t 196) (.t 198))⟩])
  (.cond (.t 199)
    .skip
    (.exit 8)))
  (.seq (.block 9 (.seq (.seq (.drw [⟨(some 202), none, 0, .see (.mov (.t 31))⟩,
    ⟨(some 203), none, 0, .see (.mov (.t 26))⟩,
    ⟨(some 204), none, 0, .see (.len false (.t 203))⟩,
    ⟨(some 205), none, 0, .see (.bin .geq (.t 202) (.t 204))⟩,
    ⟨(some 206), none, 0, .see (.mov (.t 205))⟩,
    ⟨(some 207), (some (206, false)), 0, .see (.mov (.t 12))⟩,
    ⟨(some 208), (some (206, false)), 0, .see (.mov (.t 31))⟩,
    ⟨(some 209), (some (206, false)), 0, .see (.ia 4 (.agg [(.v (.int .i64 0)), (.v (.int .i64 0)), (.v (.int .i64 0)), (.v (.int .i64 0))]) (.t 207) (.t 208))⟩,
    ⟨(some 210), (some (206, false)), 0, .see (.ld (some 4) (.t 209))⟩,
    ⟨(some 211), (some (206, false)), 0, .see (.mov (.t 26))⟩,
    ⟨(some 212), (some (206, false)), 0, .see (.mov (.t 31))⟩,
    ⟨(some 213), (some (206, false)), 0, .see (.ia 4 (.agg [(.v (.int .i64 0)), (.v (.int .i64 0)), (.v (.int .i64 0)), (.v (.int .i64 0))]) (.t 211) (.t 212))⟩,
    ⟨(some 214), (some (206, false)), 0, .see (.ld (some 4) (.t 213))⟩,
    ⟨(some 215), (some (206, false)), 0, .see (.eqa true [0, 0, 0, 0] (.t 210) (.t 214))⟩,
    ⟨(some 216), none, 0, .see (.pick (.t 206) (.c (.r (.v (.bool true)))) (.t 215))⟩]
    [[], [], [1], [0, 1, 2], [0, 1, 2, 3], [0, 1, 2, 3, 4], [0, 1, 2, 3, 4], [0, 1, 2, 3, 4, 5, 6], [0, 1, 2, 3, 4, 5, 6, 7], [0, 1, 2, 3, 4], [0, 1, 2, 3, 4], [0, 1, 2, 3, 4, 9, 10], [0, 1, 2, 3, 4, 9, 10, 11], [0, 1, 2, 3, 4, 5, 6, 7, 8, 9, 10, 11, 12], [0, 1, 2, 3, 4, 5, 6, 7, 8, 9, 10, 11, 12, 13]])
  (.cond (.t 216)
    (.seq (.reg [⟨(some 10), none, 0, .see (.mov (.c (.r (.v (.bool false)))))⟩])
    .ret)
    .skip))
  (.drw [⟨(some 217), none, 0, .see (.mov (.t 30))⟩,
    ⟨(some 218), none, 0, .see (.mov (.t 217))⟩,
    ⟨(some 219), (some (218, false)), 0, .see (.mov (.t 12))⟩,
    ⟨(some 220), (some (218, false)), 0, .see (.mov (.t 31))⟩,
    ⟨(some 221), (some (218, false)), 0, .see (.ia 4 (.agg [(.v (.int .i64 0)), (.v (.int .i64 0)), (.v (.int .i64 0)), (.v (.int .i64 0))]) (.t 219) (.t 220))⟩,
    ⟨(some 222), (some (218, false)), 0, .see (.ld (some 4) (.t 221))⟩,
    ⟨(some 223), (some (218, false)), 0, .see (.ld (some 4) (.t 11))⟩,
    ⟨(some 224), (some (218, false)), 0, .see (.eqa false [0, 0, 0, 0] (.t 222) (.t 223))⟩,
    ⟨(some 225), none, 0, .see (.pick (.t 218) (.c (.r (.v (.bool true)))) (.t 224))⟩,
    ⟨(some 30), none, 0, .see (.mov (.t 225))⟩]
    [[], [0], [0, 1], [0, 1], [0, 1, 2, 3], [0, 1, 2, 3, 4], [0, 1], [0, 1, 2, 3, 4, 5, 6], [0, 1, 2, 3, 4, 5, 6, 7], [0, 1, 2, 3, 4, 5, 6, 7, 8]])))
  (.reg [⟨(some 200), none, 0, .see (.mov (.t 31))⟩,
    ⟨(some 201), none, 0, .see (.bin .add (.t 200) (.c (.r (.v (.int .i64 1)))))⟩,
    ⟨(some 31), none, 0, .see (.mov (.t 201))⟩]))))))
  (.seq (.reg [⟨(some 226), none, 0, .see (.mov (.t 12))⟩,
    ⟨(some 227), none, 0, .see (.len false (.t 226))⟩,
    ⟨(some 228), none, 0, .see (.mov (.t 26))⟩,
    ⟨(some 229), none, 0, .see (.len false (.t 228))⟩,
    ⟨(some 230), none, 0, .see (.bin .eql (.t 227) (.t 229))⟩,
    ⟨(some 231), none, 0, .see (.mov (.t 230))⟩,
    ⟨(some 232), (some (231, true)), 0, .see (.mov (.t 30))⟩,
    ⟨(some 233), none, 0, .see (.pick (.t 231) (.t 232) (.c (.r (.v (.bool false)))))⟩,
    ⟨(some 234), none, 0, .see (.mov (.t 233))⟩,
    ⟨(some 235), (some (234, true)), 0, .see (.mov (.t 0))⟩,
    ⟨(some 236), (some (234, true)), 0, .see (.mov (.t 1))⟩,
    ⟨(some 237), (some (234, true)), 0, .see (.fa 3 (.t 11))⟩,
    ⟨(some 238), (some (234, true)), 0, .see (.ld none (.t 237))⟩,
    ⟨(some 239), (some (234, true)), 10, .call 9 [(.t 235), (.t 236), (.c (.r (.v (.int .i64 19)))), (.t 238)]⟩,
    ⟨(some 240), (some (234, true)), 0, .see (.len false (.t 239))⟩,
    ⟨(some 241), (some (234, true)), 0, .see (.bin .eql (.t 240) (.c (.r (.v (.int .i64 0)))))⟩,
    ⟨(some 242), none, 0, .see (.pick (.t 234) (.t 241) (.c (.r (.v (.bool false)))))⟩,
    ⟨(some 243), none, 0, .see (.mov (.t 242))⟩,
    ⟨(some 244), (some (243, true)), 0, .see (.mov (.t 1))⟩,
    ⟨(some 245), (some (243, true)), 0, .see (.fa 0 (.t 11))⟩,
    ⟨(some 246), (some (243, true)), 0, .see (.ld none (.t 245))⟩,
    ⟨(some 247), (some (243, true)), 0, .see (.fa 3 (.t 11))⟩,
    ⟨(some 248), (some (243, true)), 0, .see (.ld none (.t 247))⟩,
    ⟨(some 249), (some (243, true)), 11, .call 9 [(.c (.r (.v (.int .i64 (-1))))), (.t 244), (.t 246), (.t 248)]⟩,
    ⟨(some 250), (some (243, true)), 0, .see (.len false (.t 249))⟩,
    ⟨(some 251), (some (243, true)), 0, .see (.bin .eql (.t 250) (.c (.r (.v (.int .i64 0)))))⟩,
    ⟨(some 252), none, 0, .see (.pick (.t 243) (.t 251) (.c (.r (.v (.bool false)))))⟩,
    ⟨(some 253), none, 0, .see (.mov (.t 252))⟩,
    ⟨(some 254), (some (253, true)), 12, .call 8 []⟩,
    ⟨(some 255), none, 0, .see (.pick (.t 253) (.t 254) (.c (.r (.v (.bool false)))))⟩,
    ⟨(some 10), none, 0, .see (.mov (.t 255))⟩])
  .ret)))))))))))))))))))
noncomputable abbrev apiarylaw22_ViewTiles_code : Code := (Go.Proofs.Try.f4.body).getD .skip
theorem apiarylaw22_ViewTiles_chk : chkC Go.Proofs.Try.prog 256 apiarylaw22_ViewTiles_code apiarylaw22_ViewTiles_pc = true := by kernel_rfl
theorem apiarylaw22_ViewTiles_triple {args : List AV} {po ro : List Ob} {res : AV} (hal : args.length = 5) (hpo : po.length ≤ 1000)
    (h : run Go.Proofs.Try.prog po.length (RetP po.length [(10, false, none)] fun v os => v = res ∧ os = ro) [.c apiarylaw22_ViewTiles_pc] ⟨argE 0 args, ob0 po⟩) : Triple Go.Proofs.Try.prog 4 args po res ro :=
  triple_of_W (fn := Go.Proofs.Try.f4) (c := apiarylaw22_ViewTiles_code) (pc := apiarylaw22_ViewTiles_pc) (rs := [(10, false, none)]) Go.Proofs.Try.func4 rfl (by decide) (by have := apiarylaw22_ViewTiles_chk; exact this) (by rw [hal]; decide) rfl (by kernel_rfl) (by kernel_rfl) (by decide) hpo (W_of_run h)

theorem tdiv_tdiv (m s : Int) (hs : 0 < s) : (m.tdiv 3).tdiv s = m.tdiv (3 * s) := by
  rcases Int.le_total 0 m with h | h
  · rw [Int.tdiv_eq_ediv_of_nonneg h, Int.tdiv_eq_ediv_of_nonneg h, Int.tdiv_eq_ediv_of_nonneg (by omega), Int.ediv_ediv_of_nonneg (by decide)]
  · obtain ⟨n, rfl⟩ : ∃ n, m = -n := ⟨-m, by omega⟩
    have hn : 0 ≤ n := by omega
    rw [Int.neg_tdiv, Int.neg_tdiv, Int.neg_tdiv, Int.tdiv_eq_ediv_of_nonneg hn, Int.tdiv_eq_ediv_of_nonneg hn, Int.tdiv_eq_ediv_of_nonneg (by omega), Int.ediv_ediv_of_nonneg (by decide)]
theorem wr01 : IntKind.i64.wrap (0 + 1) = 1 := by decide
theorem wr11 : IntKind.i64.wrap (1 + 1) = 2 := by decide
theorem wd3 {m : Int} (h : -4294967296 ≤ m ∧ m ≤ 4294967296) : IntKind.i64.wrap (m.tdiv 3) = m.tdiv 3 := wrap_id (by have := div_in' h (show (1 : Int) ≤ 3 by decide); omega)
theorem wdd {m s : Int} (h : -4294967296 ≤ m ∧ m ≤ 4294967296) (hs : 4096 ≤ s ∧ s ≤ 1073741824) : IntKind.i64.wrap ((m.tdiv 3).tdiv s) = m.tdiv (3 * s) := by
  rw [tdiv_tdiv m s (by omega)]
  exact wrap_id (by have := div_in' h (show 1 ≤ 3 * s by omega); omega)
theorem wd_sub {m s : Int} (h : -4294967296 ≤ m ∧ m ≤ 4294967296) (hs : 4096 ≤ s ∧ s ≤ 1073741824) : IntKind.i64.wrap (m.tdiv (3 * s) - 2) = m.tdiv (3 * s) - 2 := wrap_id (by have := div_in' h (show 1 ≤ 3 * s by omega); omega)
theorem wd_add {m s : Int} (h : -4294967296 ≤ m ∧ m ≤ 4294967296) (hs : 4096 ≤ s ∧ s ≤ 1073741824) : IntKind.i64.wrap (m.tdiv (3 * s) + 2) = m.tdiv (3 * s) + 2 := wrap_id (by have := div_in' h (show 1 ≤ 3 * s by omega); omega)
/-- The least of the corners so far: behind i, and of the first a axes one more. -/
def mm2 (z : Ei) (r i : Nat) (a : Int) : List AV := [int .i64 (mnN (Go.Ev.hx z r) (if 0 < a then i + 1 else i)), int .i64 (mnN (Go.Ev.hy z r) (if 1 < a then i + 1 else i))]
def mx2 (z : Ei) (r i : Nat) (a : Int) : List AV := [int .i64 (mxN (Go.Ev.hx z r) (if 0 < a then i + 1 else i)), int .i64 (mxN (Go.Ev.hy z r) (if 1 < a then i + 1 else i))]
theorem mm2_0 (z : Ei) (r i : Nat) : mm2 z r i 0 = [int .i64 (mnN (Go.Ev.hx z r) i), int .i64 (mnN (Go.Ev.hy z r) i)] := rfl
theorem mx2_0 (z : Ei) (r i : Nat) : mx2 z r i 0 = [int .i64 (mxN (Go.Ev.hx z r) i), int .i64 (mxN (Go.Ev.hy z r) i)] := rfl
theorem mm2_1 (z : Ei) (r i : Nat) : mm2 z r i 1 = [int .i64 (mnN (Go.Ev.hx z r) (i + 1)), int .i64 (mnN (Go.Ev.hy z r) i)] := rfl
theorem mx2_1 (z : Ei) (r i : Nat) : mx2 z r i 1 = [int .i64 (mxN (Go.Ev.hx z r) (i + 1)), int .i64 (mxN (Go.Ev.hy z r) i)] := rfl
theorem mm2_2 (z : Ei) (r i : Nat) : mm2 z r i 2 = [int .i64 (mnN (Go.Ev.hx z r) (i + 1)), int .i64 (mnN (Go.Ev.hy z r) (i + 1))] := rfl
theorem mx2_2 (z : Ei) (r i : Nat) : mx2 z r i 2 = [int .i64 (mxN (Go.Ev.hx z r) (i + 1)), int .i64 (mxN (Go.Ev.hy z r) (i + 1))] := rfl
/-- Is the own tile among the first? -/
def ownB (l : List (Int × Int)) (t : Til) (i : Nat) : Bool := (l.take i).any fun p => (p.1 == t.x) && (p.2 == t.y)
theorem ownB_succ (l : List (Int × Int)) (t : Til) (i : Nat) {p : Int × Int} (h : l[i]? = some p) : ownB l t (i + 1) = (ownB l t i || ((p.1 == t.x) && (p.2 == t.y))) := by
  unfold ownB
  rw [List.take_add_one, h]
  simp
theorem ownB_all {l : List (Int × Int)} {t : Til} (h : (t.x, t.y) ∈ l) : ownB l t l.length = true := by
  unfold ownB
  rw [List.take_length, List.any_eq_true]
  exact ⟨_, h, by simp⟩
theorem tils_at {z r : Int} {l : List (Int × Int)} {i : Nat} {p : Int × Int} (h : l[i]? = some p) (d : RV) : (l.map (tilR z r)).getD i d = .agg [.v (.int .i64 z), .v (.int .i64 p.1), .v (.int .i64 p.2), .v (.int .i64 r)] := by
  rw [List.getD_eq_getElem?_getD]
  simp [h, tilR]
set_option maxHeartbeats 1000000 in
set_option maxRecDepth 100000 in
theorem viewTiles_t (x y z r far : Int) (hx : in64 x) (hy : in64 y) (hz : in64 z) (hr : in64 r) (hfar : in64 far) : Triple Go.Proofs.Try.prog 4 [int .i64 x, int .i64 y, int .i64 z, int .i64 r, int .i64 far] [] (bl true) [] := by
  refine apiarylaw22_ViewTiles_triple rfl (by decide) ?_
  simp only [apiarylaw22_ViewTiles_pc, List.length_nil, push_cast, ↓reduceIte, reduceCtorEq, Nat.reduceBEq, Nat.reduceEqDiff, Nat.reduceAdd, Nat.reduceSub, Nat.reduceLT, Nat.reduceLeDiff, Nat.reduceMul]
  refine call_mk (tile_t x y z r hx hy hz hr) rfl trivial ?_
  have hti := tis_of x y z r
  have hfi := fine_of x y z r
  obtain ⟨Z, hZ⟩ : ∃ Z, near (x % 1073741824) (y % 1073741824) (tileOf x y z r).r.toNat = Z := ⟨_, rfl⟩
  have hF := tilF x y z r Z hZ
  have ax := and30 x hx
  have ay := and30 y hy
  generalize tileOf x y z r = t at hti hfi hZ hF ⊢
  generalize x % 1073741824 = X at hZ hF ax
  generalize y % 1073741824 = Y at hZ hF ay
  obtain ⟨S, hS⟩ : ∃ S, (2 : Int) ^ (30 - t.z).toNat = S := ⟨_, rfl⟩
  obtain ⟨L, hL⟩ : ∃ L, (2 : Int) ^ t.z.toNat - 1 = L := ⟨_, rfl⟩
  rw [hS, hL] at hF
  obtain ⟨hb, hw, hk, hl, hh, hs, hl1, hsame, hown⟩ := hF
  have ho := til_ok hti
  have hpos := mem_pos hown
  have htz : tis ⟨t.z, 0, 0, t.r⟩ = true := by
    have hp := p2 t.z.toNat (by omega)
    simp only [tis, decide_eq_true_eq]
    omega
  have hfz : fine ⟨t.z, 0, 0, t.r⟩ = false := by rw [← hfi]; exact fine_xy rfl rfl htz hti
  have hxi := fun j hj => (hh j hj).1
  have hyi := fun j hj => (hh j hj).2
  have bx1 := mnN_in hxi 6 (by decide)
  have bx2 := mxN_in hxi 6 (by decide)
  have by1 := mnN_in hyi 6 (by decide)
  have by2 := mxN_in hyi 6 (by decide)
  have hmem := hown
  simp only [progT, rowsT, List.mem_flatMap, rowT, List.mem_map, List.mem_filter, mem_rng] at hmem
  obtain ⟨k, ⟨k1, k2⟩, i, ⟨⟨i1, i2⟩, _⟩, _⟩ := hmem
  have hT := tiles_t X Y t.z t.r htz hw hfz Z hZ hl hh S L _ _ _ _ hS.symm hL.symm rfl rfl rfl rfl (Int.le_trans i1 i2) (Int.le_trans k1 k2)
  have hdl := rowsT_len (tch Z t.r.toNat S) (dlo (mnN (Go.Ev.hx Z t.r.toNat) 6) S) (dhi (mxN (Go.Ev.hx Z t.r.toNat) 6) S L) (dlo (mnN (Go.Ev.hy Z t.r.toNat) 6) S) (dhi (mxN (Go.Ev.hy Z t.r.toNat) 6) S L)
  have hdoc : rowsT (tch Z t.r.toNat S) (dlo (mnN (Go.Ev.hx Z t.r.toNat) 6) S) (dhi (mxN (Go.Ev.hx Z t.r.toNat) 6) S L) (dlo (mnN (Go.Ev.hy Z t.r.toNat) 6) S) (dhi (mxN (Go.Ev.hy Z t.r.toNat) 6) S L) = progT Z t.r.toNat S L := hsame
  rw [hdoc] at hdl
  generalize progT Z t.r.toNat S L = PT at *
  simp only [Til.v, ax, ay, push_cast, ↓reduceIte, reduceCtorEq, Nat.reduceBEq, Nat.reduceEqDiff, Nat.reduceAdd, Nat.reduceSub, Nat.reduceLT, Nat.reduceLeDiff, Nat.reduceMul]
  have hPT : PT ≠ [] := fun e => by rw [e] at hpos; simp at hpos
  obtain ⟨a, ha⟩ : ∃ a, max ((mnN (Go.Ev.hx Z t.r.toNat) 6).tdiv (3 * S) - 2) 0 = a := ⟨_, rfl⟩
  obtain ⟨b, hb'⟩ : ∃ b, max ((mnN (Go.Ev.hy Z t.r.toNat) 6).tdiv (3 * S) - 2) 0 = b := ⟨_, rfl⟩
  obtain ⟨u, hu⟩ : ∃ u, min ((mxN (Go.Ev.hx Z t.r.toNat) 6).tdiv (3 * S) + 2) L = u := ⟨_, rfl⟩
  obtain ⟨v, hv⟩ : ∃ v, min ((mxN (Go.Ev.hy Z t.r.toNat) 6).tdiv (3 * S) + 2) L = v := ⟨_, rfl⟩
  simp only [dlo, dhi, ha, hb', hu, hv] at hdl hdoc
  have ha0 : 0 ≤ a ∧ 0 ≤ b ∧ u ≤ L ∧ v ≤ L := by omega
  have hin : a ≤ u ∧ b ≤ v := by
    have hm := hown
    rw [← hdoc] at hm
    simp only [rowsT, List.mem_flatMap, rowT, List.mem_map, List.mem_filter, mem_rng] at hm
    obtain ⟨k', hk', i', ⟨hi', _⟩, _⟩ := hm
    omega
  have htis : ∀ i k : Int, a ≤ i → i ≤ u → b ≤ k → k ≤ v → tis ⟨t.z, i, k, t.r⟩ = true := fun i k h1 h2 h3 h4 => by
    simp only [tis, decide_eq_true_eq]
    omega
  have hpr := mul_in (n := 262144) (m := 262144) (x := u - a + 1) (y := v - b + 1) (by omega) (by omega)
  have hmul : (u - a + 1) * (v - b + 1) ≤ 900 → PT.length ≤ 900 := fun h => by
    have e : (((u + 1 - a).toNat * (v + 1 - b).toNat : Nat) : Int) = (u - a + 1) * (v - b + 1) := by
      rw [Int.natCast_mul, Int.toNat_of_nonneg (by omega), Int.toNat_of_nonneg (by omega), show u + 1 - a = u - a + 1 by omega, show v + 1 - b = v - b + 1 by omega]
    omega
  have hmax := maxLen_big
  by_cases hbig : 10000 < PT.length
  · rw [tilsA, tilsO, if_pos (.inr hbig), if_pos (.inr hbig)] at hT
    refine call_mk hT rfl trivial ?_
    simp only [push_cast, ↓reduceIte, reduceCtorEq, Nat.reduceBEq, Nat.reduceEqDiff, Nat.reduceAdd, Nat.reduceSub, Nat.reduceLT, Nat.reduceLeDiff, Nat.reduceMul]
    refine call_as (as' := [t.v]) rfl ?_
    refine call_mk (rfine_t t ho) rfl trivial ?_
    rw [hfi]
    simp only [uw, push_cast, ↓reduceIte, reduceCtorEq, Nat.reduceBEq, Nat.reduceEqDiff, Nat.reduceAdd, Nat.reduceSub, Nat.reduceLT, Nat.reduceLeDiff, Nat.reduceMul]
    refine call_mk (rwordOf_t X Y t.r hw ⟨hb.2.2.1, hb.2.2.2⟩) rfl trivial ?_
    rw [wordOf, hZ]
    simp only [uw, push_cast, ↓reduceIte, reduceCtorEq, Nat.reduceBEq, Nat.reduceEqDiff, Nat.reduceAdd, Nat.reduceSub, Nat.reduceLT, Nat.reduceLeDiff, Nat.reduceMul]
    refine call_as (as' := [uw (word t.r.toNat Z)]) rfl ?_
    refine call_mk (rcellW_t t.r Z hb.2.2.1 hk) rfl trivial ?_
    simp only [cel, push_cast, ↓reduceIte, reduceCtorEq, Nat.reduceBEq, Nat.reduceEqDiff, Nat.reduceAdd, Nat.reduceSub, Nat.reduceLT, Nat.reduceLeDiff, Nat.reduceMul]
    refine call_as (as' := [Z.v, int .i64 t.r]) rfl ?_
    refine call_mk (rhex_t Z t.r hk.2.1 ⟨hb.2.2.1, hb.2.2.2⟩) rfl trivial ?_
    simp only [pnt, hexL_at Z t.r.toNat 6 0 (by decide), Int.reduceToNat, push_cast, ↓reduceIte, reduceCtorEq, Nat.reduceBEq, Nat.reduceEqDiff, Nat.reduceAdd, Nat.reduceSub, Nat.reduceLT, Nat.reduceLeDiff, Nat.reduceMul]
    repeat refine And.intro (by first | decide | omega | exact fun _ => by decide | (simp +contextual; done) | kernel_rfl) ?_
    refine run_loop [(19, false), (16, false), (17, false), (18, false), (11, false), (0, false), (1, false), (13, false), (12, false)] (fun vs pos los => ∃ i : Nat, i ≤ 6 ∧ vs = [int .i64 i, .own 2000000 0 0 6, .ptr 2000001 0 0, .ptr 2000002 0 0, .ptr 2000003 0 0, int .i64 X, int .i64 Y, uw (word t.r.toNat Z), .nils 4 tilZ] ∧ pos = [] ∧ los = [.row 2 (pnt 0 0) true true (hexL Z t.r.toNat 6), .box (mm2 Z t.r.toNat i 0), .box (mx2 Z t.r.toNat i 0), .box [int .i64 t.z, int .i64 t.x, int .i64 t.y, int .i64 t.r]])
      (fun vs _ _ => match vs with | .r (.v (.int _ j)) :: _ => (6 - j).toNat | _ => 0) rfl ?_ ?_
    · simp only [uw, push_cast, ↓reduceIte, reduceCtorEq, Nat.reduceBEq, Nat.reduceEqDiff, Nat.reduceAdd, Nat.reduceSub, Nat.reduceLT, Nat.reduceLeDiff, Nat.reduceMul]
      exact ⟨0, by omega, rfl, rfl⟩
    · rintro vs pos los ⟨i, i6, rfl, rfl, rfl⟩
      simp only [uw, push_cast, ↓reduceIte, reduceCtorEq, Nat.reduceBEq, Nat.reduceEqDiff, Nat.reduceAdd, Nat.reduceSub, Nat.reduceLT, Nat.reduceLeDiff, Nat.reduceMul]
      refine cnd_mk (fun h => ?_) (fun h => ?_)
      · have hi : i < 6 := by simp at h; omega
        simp only [uw, push_cast, ↓reduceIte, reduceCtorEq, Nat.reduceBEq, Nat.reduceEqDiff, Nat.reduceAdd, Nat.reduceSub, Nat.reduceLT, Nat.reduceLeDiff, Nat.reduceMul]
        refine run_loop [(20, false), (19, false), (16, false), (17, false), (18, false), (11, false), (0, false), (1, false), (13, false), (12, false)] (fun vs pos los => ∃ a : Int, (a = 0 ∨ a = 1 ∨ a = 2) ∧ vs = [int .i64 a, int .i64 i, .own 2000000 0 0 6, .ptr 2000001 0 0, .ptr 2000002 0 0, .ptr 2000003 0 0, int .i64 X, int .i64 Y, uw (word t.r.toNat Z), .nils 4 tilZ] ∧ pos = [] ∧ los = [.row 2 (pnt 0 0) true true (hexL Z t.r.toNat 6), .box (mm2 Z t.r.toNat i a), .box (mx2 Z t.r.toNat i a), .box [int .i64 t.z, int .i64 t.x, int .i64 t.y, int .i64 t.r]])
          (fun vs _ _ => match vs with | .r (.v (.int _ j)) :: _ => (2 - j).toNat | _ => 0) rfl ?_ ?_
        · simp only [mm2_0, mx2_0, push_cast, ↓reduceIte, reduceCtorEq, Nat.reduceBEq, Nat.reduceEqDiff, Nat.reduceAdd, Nat.reduceSub, Nat.reduceLT, Nat.reduceLeDiff, Nat.reduceMul]
          exact ⟨0, by omega, rfl, rfl⟩
        · rintro vs pos los ⟨a, rfl | rfl | rfl, rfl, rfl, rfl⟩
          · simp only [Int.toNat_natCast, Nat.zero_add, Int.reduceToNat, mm2_0, mx2_0, hexL_at Z t.r.toNat 6 i hi, uw, wr01, wr11, show decide ((0 : Int) < 2) = true from rfl, push_cast, ↓reduceIte, reduceCtorEq, Nat.reduceBEq, Nat.reduceEqDiff, Nat.reduceAdd, Nat.reduceSub, Nat.reduceLT, Nat.reduceLeDiff, Nat.reduceMul]
            repeat refine And.intro (by first | decide | omega | exact fun _ => by decide | (simp +contextual; done) | kernel_rfl) ?_
            exact ⟨⟨1, by omega, rfl, rfl⟩, by decide⟩
          · simp only [Int.toNat_natCast, Nat.zero_add, Int.reduceToNat, mm2_1, mx2_1, hexL_at Z t.r.toNat 6 i hi, uw, wr01, wr11, show decide ((1 : Int) < 2) = true from rfl, push_cast, ↓reduceIte, reduceCtorEq, Nat.reduceBEq, Nat.reduceEqDiff, Nat.reduceAdd, Nat.reduceSub, Nat.reduceLT, Nat.reduceLeDiff, Nat.reduceMul]
            repeat refine And.intro (by first | decide | omega | exact fun _ => by decide | (simp +contextual; done) | kernel_rfl) ?_
            exact ⟨⟨2, by omega, rfl, rfl⟩, by decide⟩
          · simp only [Int.reduceToNat, mm2_2, mx2_2, uw, show decide ((2 : Int) < 2) = false from rfl, push_cast, ↓reduceIte, reduceCtorEq, Nat.reduceBEq, Nat.reduceEqDiff, Nat.reduceAdd, Nat.reduceSub, Nat.reduceLT, Nat.reduceLeDiff, Nat.reduceMul]
            rw [show IntKind.i64.wrap ((i : Int) + 1) = ((i + 1 : Nat) : Int) by rw [wrap_id (by omega)]; omega]
            exact ⟨⟨i + 1, by omega, rfl, rfl⟩, by omega⟩
      · have hi : i = 6 := by simp at h; omega
        subst hi
        simp only [mm2_0, mx2_0, Int.reduceToNat, push_cast, ↓reduceIte, reduceCtorEq, Nat.reduceBEq, Nat.reduceEqDiff, Nat.reduceAdd, Nat.reduceSub, Nat.reduceLT, Nat.reduceLeDiff, Nat.reduceMul]
        rw [show IntKind.i64.wrap (30 - t.z) = 30 - t.z from wrap_id (by omega), shl2 _ (by omega) (by omega), hS, shl2 _ (by omega) (by omega)]
        rw [wd3 bx1, wd3 by1, wd3 bx2, wd3 by2, wdd bx1 hs, wdd by1 hs, wdd bx2 hs, wdd by2 hs]
        rw [wd_sub bx1 hs, wd_sub by1 hs, wd_add bx2 hs, wd_add by2 hs, show IntKind.i64.wrap (2 ^ t.z.toNat - 1) = L by rw [hL]; exact wrap_id (by omega)]
        repeat refine And.intro (by first | decide | omega | exact fun _ => by decide | (simp +contextual; done) | kernel_rfl) ?_
        simp only [ha, hb', hu, hv, push_cast, ↓reduceIte, reduceCtorEq, Nat.reduceBEq, Nat.reduceEqDiff, Nat.reduceAdd, Nat.reduceSub, Nat.reduceLT, Nat.reduceLeDiff, Nat.reduceMul]
        rw [show IntKind.i64.wrap (u - a) = u - a from wrap_id (by omega), show IntKind.i64.wrap (u - a + 1) = u - a + 1 from wrap_id (by omega), show IntKind.i64.wrap (v - b) = v - b from wrap_id (by omega), show IntKind.i64.wrap (v - b + 1) = v - b + 1 from wrap_id (by omega), show IntKind.i64.wrap ((u - a + 1) * (v - b + 1)) = (u - a + 1) * (v - b + 1) from wrap_id (by omega)]
        refine cnd_mk (fun h => ?_) (fun h => ?_)
        · simp only [uw, push_cast, ↓reduceIte, reduceCtorEq, Nat.reduceBEq, Nat.reduceEqDiff, Nat.reduceAdd, Nat.reduceSub, Nat.reduceLT, Nat.reduceLeDiff, Nat.reduceMul]
          repeat refine And.intro (by first | decide | omega | exact fun _ => by decide | (simp +contextual; done) | kernel_rfl) ?_
          refine call_mk awake22_t rfl trivial ?_
          simp only [uw, push_cast, ↓reduceIte, reduceCtorEq, Nat.reduceBEq, Nat.reduceEqDiff, Nat.reduceAdd, Nat.reduceSub, Nat.reduceLT, Nat.reduceLeDiff, Nat.reduceMul]
          try (repeat refine And.intro (by first | decide | omega | exact fun _ => by decide | (simp +contextual; done) | kernel_rfl) ?_)
          try rfl
        · exact absurd (hmul (by simpa using h)) (by omega)
  · rw [tilsA, tilsO, if_neg (by omega), if_neg (by omega)] at hT
    refine call_mk hT rfl trivial ?_
    simp only [push_cast, ↓reduceIte, reduceCtorEq, Nat.reduceBEq, Nat.reduceEqDiff, Nat.reduceAdd, Nat.reduceSub, Nat.reduceLT, Nat.reduceLeDiff, Nat.reduceMul]
    refine call_as (as' := [t.v]) rfl ?_
    refine call_mk (rfine_t t ho) rfl trivial ?_
    rw [hfi]
    simp only [uw, push_cast, ↓reduceIte, reduceCtorEq, Nat.reduceBEq, Nat.reduceEqDiff, Nat.reduceAdd, Nat.reduceSub, Nat.reduceLT, Nat.reduceLeDiff, Nat.reduceMul]
    refine call_mk (rwordOf_t X Y t.r hw ⟨hb.2.2.1, hb.2.2.2⟩) rfl trivial ?_
    rw [wordOf, hZ]
    simp only [uw, push_cast, ↓reduceIte, reduceCtorEq, Nat.reduceBEq, Nat.reduceEqDiff, Nat.reduceAdd, Nat.reduceSub, Nat.reduceLT, Nat.reduceLeDiff, Nat.reduceMul]
    refine call_as (as' := [uw (word t.r.toNat Z)]) rfl ?_
    refine call_mk (rcellW_t t.r Z hb.2.2.1 hk) rfl trivial ?_
    simp only [cel, push_cast, ↓reduceIte, reduceCtorEq, Nat.reduceBEq, Nat.reduceEqDiff, Nat.reduceAdd, Nat.reduceSub, Nat.reduceLT, Nat.reduceLeDiff, Nat.reduceMul]
    refine call_as (as' := [Z.v, int .i64 t.r]) rfl ?_
    refine call_mk (rhex_t Z t.r hk.2.1 ⟨hb.2.2.1, hb.2.2.2⟩) rfl trivial ?_
    simp only [pnt, hexL_at Z t.r.toNat 6 0 (by decide), Int.reduceToNat, push_cast, ↓reduceIte, reduceCtorEq, Nat.reduceBEq, Nat.reduceEqDiff, Nat.reduceAdd, Nat.reduceSub, Nat.reduceLT, Nat.reduceLeDiff, Nat.reduceMul]
    repeat refine And.intro (by first | decide | omega | exact fun _ => by decide | (simp +contextual; done) | kernel_rfl) ?_
    refine run_loop [(19, false), (16, false), (17, false), (18, false), (11, false), (0, false), (1, false), (13, false), (12, false)] (fun vs pos los => ∃ i : Nat, i ≤ 6 ∧ vs = [int .i64 i, .own 2000000 0 0 6, .ptr 2000001 0 0, .ptr 2000002 0 0, .ptr 2000003 0 0, int .i64 X, int .i64 Y, uw (word t.r.toNat Z), .own 2000004 0 0 PT.length] ∧ pos = [] ∧ los = [.row 2 (pnt 0 0) true true (hexL Z t.r.toNat 6), .box (mm2 Z t.r.toNat i 0), .box (mx2 Z t.r.toNat i 0), .box [int .i64 t.z, int .i64 t.x, int .i64 t.y, int .i64 t.r], .row 4 tilZ true true (PT.map (tilR t.z t.r))])
      (fun vs _ _ => match vs with | .r (.v (.int _ j)) :: _ => (6 - j).toNat | _ => 0) rfl ?_ ?_
    · simp only [uw, push_cast, ↓reduceIte, reduceCtorEq, Nat.reduceBEq, Nat.reduceEqDiff, Nat.reduceAdd, Nat.reduceSub, Nat.reduceLT, Nat.reduceLeDiff, Nat.reduceMul]
      exact ⟨0, by omega, rfl, rfl⟩
    · rintro vs pos los ⟨i, i6, rfl, rfl, rfl⟩
      simp only [uw, push_cast, ↓reduceIte, reduceCtorEq, Nat.reduceBEq, Nat.reduceEqDiff, Nat.reduceAdd, Nat.reduceSub, Nat.reduceLT, Nat.reduceLeDiff, Nat.reduceMul]
      refine cnd_mk (fun h => ?_) (fun h => ?_)
      · have hi : i < 6 := by simp at h; omega
        simp only [uw, push_cast, ↓reduceIte, reduceCtorEq, Nat.reduceBEq, Nat.reduceEqDiff, Nat.reduceAdd, Nat.reduceSub, Nat.reduceLT, Nat.reduceLeDiff, Nat.reduceMul]
        refine run_loop [(20, false), (19, false), (16, false), (17, false), (18, false), (11, false), (0, false), (1, false), (13, false), (12, false)] (fun vs pos los => ∃ a : Int, (a = 0 ∨ a = 1 ∨ a = 2) ∧ vs = [int .i64 a, int .i64 i, .own 2000000 0 0 6, .ptr 2000001 0 0, .ptr 2000002 0 0, .ptr 2000003 0 0, int .i64 X, int .i64 Y, uw (word t.r.toNat Z), .own 2000004 0 0 PT.length] ∧ pos = [] ∧ los = [.row 2 (pnt 0 0) true true (hexL Z t.r.toNat 6), .box (mm2 Z t.r.toNat i a), .box (mx2 Z t.r.toNat i a), .box [int .i64 t.z, int .i64 t.x, int .i64 t.y, int .i64 t.r], .row 4 tilZ true true (PT.map (tilR t.z t.r))])
          (fun vs _ _ => match vs with | .r (.v (.int _ j)) :: _ => (2 - j).toNat | _ => 0) rfl ?_ ?_
        · simp only [mm2_0, mx2_0, push_cast, ↓reduceIte, reduceCtorEq, Nat.reduceBEq, Nat.reduceEqDiff, Nat.reduceAdd, Nat.reduceSub, Nat.reduceLT, Nat.reduceLeDiff, Nat.reduceMul]
          exact ⟨0, by omega, rfl, rfl⟩
        · rintro vs pos los ⟨a, rfl | rfl | rfl, rfl, rfl, rfl⟩
          · simp only [Int.toNat_natCast, Nat.zero_add, Int.reduceToNat, mm2_0, mx2_0, hexL_at Z t.r.toNat 6 i hi, uw, wr01, wr11, show decide ((0 : Int) < 2) = true from rfl, push_cast, ↓reduceIte, reduceCtorEq, Nat.reduceBEq, Nat.reduceEqDiff, Nat.reduceAdd, Nat.reduceSub, Nat.reduceLT, Nat.reduceLeDiff, Nat.reduceMul]
            repeat refine And.intro (by first | decide | omega | exact fun _ => by decide | (simp +contextual; done) | kernel_rfl) ?_
            exact ⟨⟨1, by omega, rfl, rfl⟩, by decide⟩
          · simp only [Int.toNat_natCast, Nat.zero_add, Int.reduceToNat, mm2_1, mx2_1, hexL_at Z t.r.toNat 6 i hi, uw, wr01, wr11, show decide ((1 : Int) < 2) = true from rfl, push_cast, ↓reduceIte, reduceCtorEq, Nat.reduceBEq, Nat.reduceEqDiff, Nat.reduceAdd, Nat.reduceSub, Nat.reduceLT, Nat.reduceLeDiff, Nat.reduceMul]
            repeat refine And.intro (by first | decide | omega | exact fun _ => by decide | (simp +contextual; done) | kernel_rfl) ?_
            exact ⟨⟨2, by omega, rfl, rfl⟩, by decide⟩
          · simp only [Int.reduceToNat, mm2_2, mx2_2, uw, show decide ((2 : Int) < 2) = false from rfl, push_cast, ↓reduceIte, reduceCtorEq, Nat.reduceBEq, Nat.reduceEqDiff, Nat.reduceAdd, Nat.reduceSub, Nat.reduceLT, Nat.reduceLeDiff, Nat.reduceMul]
            rw [show IntKind.i64.wrap ((i : Int) + 1) = ((i + 1 : Nat) : Int) by rw [wrap_id (by omega)]; omega]
            exact ⟨⟨i + 1, by omega, rfl, rfl⟩, by omega⟩
      · have hi : i = 6 := by simp at h; omega
        subst hi
        simp only [mm2_0, mx2_0, Int.reduceToNat, push_cast, ↓reduceIte, reduceCtorEq, Nat.reduceBEq, Nat.reduceEqDiff, Nat.reduceAdd, Nat.reduceSub, Nat.reduceLT, Nat.reduceLeDiff, Nat.reduceMul]
        rw [show IntKind.i64.wrap (30 - t.z) = 30 - t.z from wrap_id (by omega), shl2 _ (by omega) (by omega), hS, shl2 _ (by omega) (by omega)]
        rw [wd3 bx1, wd3 by1, wd3 bx2, wd3 by2, wdd bx1 hs, wdd by1 hs, wdd bx2 hs, wdd by2 hs]
        rw [wd_sub bx1 hs, wd_sub by1 hs, wd_add bx2 hs, wd_add by2 hs, show IntKind.i64.wrap (2 ^ t.z.toNat - 1) = L by rw [hL]; exact wrap_id (by omega)]
        repeat refine And.intro (by first | decide | omega | exact fun _ => by decide | (simp +contextual; done) | kernel_rfl) ?_
        simp only [ha, hb', hu, hv, push_cast, ↓reduceIte, reduceCtorEq, Nat.reduceBEq, Nat.reduceEqDiff, Nat.reduceAdd, Nat.reduceSub, Nat.reduceLT, Nat.reduceLeDiff, Nat.reduceMul]
        rw [show IntKind.i64.wrap (u - a) = u - a from wrap_id (by omega), show IntKind.i64.wrap (u - a + 1) = u - a + 1 from wrap_id (by omega), show IntKind.i64.wrap (v - b) = v - b from wrap_id (by omega), show IntKind.i64.wrap (v - b + 1) = v - b + 1 from wrap_id (by omega), show IntKind.i64.wrap ((u - a + 1) * (v - b + 1)) = (u - a + 1) * (v - b + 1) from wrap_id (by omega)]
        refine cnd_mk (fun h => ?_) (fun h => ?_)
        · have g0 : ((PT.length : Int) == 0) = false := by simp; omega
          have g1 : decide ((PT.length : Int) ≤ 10000) = true := by simp; omega
          simp only [g0, g1, push_cast, ↓reduceIte, reduceCtorEq, Nat.reduceBEq, Nat.reduceEqDiff, Nat.reduceAdd, Nat.reduceSub, Nat.reduceLT, Nat.reduceLeDiff, Nat.reduceMul]
          repeat refine And.intro (by first | decide | omega | exact fun _ => by decide | (simp +contextual; done) | kernel_rfl) ?_
          refine call_mk awake22_t rfl trivial ?_
          simp only [uw, push_cast, ↓reduceIte, reduceCtorEq, Nat.reduceBEq, Nat.reduceEqDiff, Nat.reduceAdd, Nat.reduceSub, Nat.reduceLT, Nat.reduceLeDiff, Nat.reduceMul]
          try (repeat refine And.intro (by first | decide | omega | exact fun _ => by decide | (simp +contextual; done) | kernel_rfl) ?_)
          try rfl
        · simp only [uw, push_cast, ↓reduceIte, reduceCtorEq, Nat.reduceBEq, Nat.reduceEqDiff, Nat.reduceAdd, Nat.reduceSub, Nat.reduceLT, Nat.reduceLeDiff, Nat.reduceMul]
          refine run_loop [(27, false), (11, false), (13, false), (0, false), (1, false), (12, false), (22, false), (23, false), (24, false), (25, false), (26, false)] (fun vs pos los => ∃ (W : List (Int × Int)) (k : Int), ((b ≤ k ∧ k ≤ v + 1) ∧ W = rowsT (tch Z t.r.toNat S) a u b (k - 1)) ∧ W.length ≤ PT.length ∧ pos = [] ∧ ((W = [] ∧ vs = [int .i64 k, .ptr 2000000 0 0, uw (word t.r.toNat Z), int .i64 X, int .i64 Y, .own 2000001 0 0 PT.length, int .i64 a, int .i64 b, int .i64 u, int .i64 v, .nils 4 tilZ] ∧ los = [.box [int .i64 t.z, int .i64 t.x, int .i64 t.y, int .i64 t.r], .row 4 tilZ true true (PT.map (tilR t.z t.r))]) ∨ (W ≠ [] ∧ vs = [int .i64 k, .ptr 2000000 0 0, uw (word t.r.toNat Z), int .i64 X, int .i64 Y, .own 2000001 0 0 PT.length, int .i64 a, int .i64 b, int .i64 u, int .i64 v, .own 2000002 0 0 W.length] ∧ los = [.box [int .i64 t.z, int .i64 t.x, int .i64 t.y, int .i64 t.r], .row 4 tilZ true true (PT.map (tilR t.z t.r)), .row 4 tilZ true true (W.map (tilR t.z t.r))])))
            (fun vs _ _ => match vs with | .r (.v (.int _ j)) :: _ => (v + 1 - j).toNat | _ => 0) rfl ?_ ?_
          · simp only [uw, push_cast, ↓reduceIte, reduceCtorEq, Nat.reduceBEq, Nat.reduceEqDiff, Nat.reduceAdd, Nat.reduceSub, Nat.reduceLT, Nat.reduceLeDiff, Nat.reduceMul]
            exact ⟨[], b, ⟨by omega, (rowsT_nil _ (by omega)).symm⟩, by simp, .inl (by first | exact ⟨rfl, rfl, rfl⟩ | exact ⟨rfl, rfl⟩)⟩
          · rintro vs pos los ⟨W, k, ⟨hk', hWe⟩, hWl, rfl, ⟨hW0, rfl, rfl⟩ | ⟨hW0, rfl, rfl⟩⟩
            · simp only [Int.reduceToNat, uw, push_cast, ↓reduceIte, reduceCtorEq, Nat.reduceBEq, Nat.reduceEqDiff, Nat.reduceAdd, Nat.reduceSub, Nat.reduceLT, Nat.reduceLeDiff, Nat.reduceMul]
              refine cnd_mk (fun hc => ?_) (fun hc => ?_)
              · have hkv : k ≤ v := by simpa using hc
                simp only [Int.reduceToNat, uw, push_cast, ↓reduceIte, reduceCtorEq, Nat.reduceBEq, Nat.reduceEqDiff, Nat.reduceAdd, Nat.reduceSub, Nat.reduceLT, Nat.reduceLeDiff, Nat.reduceMul]
                refine run_loop [(28, false), (27, false), (11, false), (13, false), (0, false), (1, false), (12, false), (22, false), (23, false), (24, false), (25, false), (26, false)] (fun vs pos los => ∃ (W : List (Int × Int)) (i : Int), ((a ≤ i ∧ i ≤ u + 1) ∧ W = rowsT (tch Z t.r.toNat S) a u b (k - 1) ++ rowT (tch Z t.r.toNat S) a (i - 1) k) ∧ W.length ≤ PT.length ∧ pos = [] ∧ ((W = [] ∧ vs = [int .i64 i, int .i64 k, .ptr 2000000 0 0, uw (word t.r.toNat Z), int .i64 X, int .i64 Y, .own 2000001 0 0 PT.length, int .i64 a, int .i64 b, int .i64 u, int .i64 v, .nils 4 tilZ] ∧ los = [.box [int .i64 t.z, int .i64 t.x, int .i64 t.y, int .i64 t.r], .row 4 tilZ true true (PT.map (tilR t.z t.r))]) ∨ (W ≠ [] ∧ vs = [int .i64 i, int .i64 k, .ptr 2000000 0 0, uw (word t.r.toNat Z), int .i64 X, int .i64 Y, .own 2000001 0 0 PT.length, int .i64 a, int .i64 b, int .i64 u, int .i64 v, .own 2000002 0 0 W.length] ∧ los = [.box [int .i64 t.z, int .i64 t.x, int .i64 t.y, int .i64 t.r], .row 4 tilZ true true (PT.map (tilR t.z t.r)), .row 4 tilZ true true (W.map (tilR t.z t.r))])))
                  (fun vs _ _ => match vs with | .r (.v (.int _ j)) :: _ => (u + 1 - j).toNat | _ => 0) rfl ?_ ?_
                · simp only [uw, push_cast, ↓reduceIte, reduceCtorEq, Nat.reduceBEq, Nat.reduceEqDiff, Nat.reduceAdd, Nat.reduceSub, Nat.reduceLT, Nat.reduceLeDiff, Nat.reduceMul]
                  exact ⟨W, a, ⟨by omega, by rw [rowT_nil _ (by omega), List.append_nil, ← hWe]⟩, hWl, .inl (by first | exact ⟨hW0, rfl, rfl⟩ | exact ⟨hW0, rfl⟩)⟩
                · rintro vs pos los ⟨W, i, ⟨hi, hWe⟩, hWl, rfl, ⟨hW0, rfl, rfl⟩ | ⟨hW0, rfl, rfl⟩⟩
                  · simp only [Int.reduceToNat, uw, push_cast, ↓reduceIte, reduceCtorEq, Nat.reduceBEq, Nat.reduceEqDiff, Nat.reduceAdd, Nat.reduceSub, Nat.reduceLT, Nat.reduceLeDiff, Nat.reduceMul]
                    refine cnd_mk (fun hc => ?_) (fun hc => ?_)
                    · have hiu : i ≤ u := by simpa using hc
                      have hti' := htis i k (by omega) (by omega) (by omega) (by omega)
                      have hfi' : fine ⟨t.z, i, k, t.r⟩ = false := by rw [← hfi]; exact fine_xy rfl rfl hti' hti
                      have hsn := rowT_snoc (tch Z t.r.toNat S) (k := k) (show a ≤ i by omega)
                      have hbig := rows_big (tch Z t.r.toNat S) (a := a) (show b ≤ k by omega) hkv hiu
                      rw [hdoc] at hbig
                      simp only [Int.reduceToNat, uw, push_cast, ↓reduceIte, reduceCtorEq, Nat.reduceBEq, Nat.reduceEqDiff, Nat.reduceAdd, Nat.reduceSub, Nat.reduceLT, Nat.reduceLeDiff, Nat.reduceMul]
                      repeat refine And.intro (by first | decide | omega | exact fun _ => by decide | (simp +contextual; done) | kernel_rfl) ?_
                      refine call_as (as' := [Til.v ⟨t.z, i, k, t.r⟩, uw (word t.r.toNat Z)]) rfl ?_
                      refine call_mk (on1_t ⟨t.z, i, k, t.r⟩ hti' hfi' Z hk hh) rfl trivial ?_
                      dsimp only
                      rw [hS]
                      simp only [uw, push_cast, ↓reduceIte, reduceCtorEq, Nat.reduceBEq, Nat.reduceEqDiff, Nat.reduceAdd, Nat.reduceSub, Nat.reduceLT, Nat.reduceLeDiff, Nat.reduceMul]
                      refine cnd_mk (fun ht => ?_) (fun ht => ?_)
                      · have ht' : tch Z t.r.toNat S i k = true := by simpa using ht
                        have hWb : W.length + 1 ≤ PT.length := by
                          rw [hsn, ht', ← List.append_assoc, ← hWe] at hbig
                          simp only [if_true, List.length_append, List.length_singleton] at hbig
                          exact hbig
                        simp only [Int.reduceToNat, uw, push_cast, ↓reduceIte, reduceCtorEq, Nat.reduceBEq, Nat.reduceEqDiff, Nat.reduceAdd, Nat.reduceSub, Nat.reduceLT, Nat.reduceLeDiff, Nat.reduceMul]
                        repeat refine And.intro (by first | decide | omega | exact fun _ => by decide | (simp +contextual; done) | kernel_rfl) ?_
                        rw [wrap_id (by omega)]
                        refine ⟨⟨[(i, k)], i + 1, ⟨by omega, by rw [show i + 1 - 1 = i by omega, hsn, ht', ← List.append_assoc, ← hWe, hW0]; rfl⟩, by simpa [hW0] using hWb, .inr ⟨by simp, rfl, rfl⟩⟩, by omega⟩
                      · have ht' : tch Z t.r.toNat S i k = false := by simpa using ht
                        simp only [uw, push_cast, ↓reduceIte, reduceCtorEq, Nat.reduceBEq, Nat.reduceEqDiff, Nat.reduceAdd, Nat.reduceSub, Nat.reduceLT, Nat.reduceLeDiff, Nat.reduceMul]
                        rw [wrap_id (by omega)]
                        refine ⟨⟨W, i + 1, ⟨by omega, by rw [show i + 1 - 1 = i by omega, hsn, ht']; simpa using hWe⟩, hWl, .inl (by first | exact ⟨hW0, rfl, rfl⟩ | exact ⟨hW0, rfl⟩)⟩, by omega⟩
                    · have hiu : i = u + 1 := by simp at hc; omega
                      simp only [uw, push_cast, ↓reduceIte, reduceCtorEq, Nat.reduceBEq, Nat.reduceEqDiff, Nat.reduceAdd, Nat.reduceSub, Nat.reduceLT, Nat.reduceLeDiff, Nat.reduceMul]
                      rw [show IntKind.i64.wrap (k + 1) = k + 1 from wrap_id (by omega)]
                      refine ⟨⟨W, k + 1, ⟨by omega, by rw [show k + 1 - 1 = k by omega, rowsT_snoc _ (show b ≤ k by omega), hWe, show i - 1 = u by omega]⟩, hWl, .inl (by first | exact ⟨hW0, rfl, rfl⟩ | exact ⟨hW0, rfl⟩)⟩, by omega⟩
                  · simp only [Int.reduceToNat, uw, push_cast, ↓reduceIte, reduceCtorEq, Nat.reduceBEq, Nat.reduceEqDiff, Nat.reduceAdd, Nat.reduceSub, Nat.reduceLT, Nat.reduceLeDiff, Nat.reduceMul]
                    refine cnd_mk (fun hc => ?_) (fun hc => ?_)
                    · have hiu : i ≤ u := by simpa using hc
                      have hti' := htis i k (by omega) (by omega) (by omega) (by omega)
                      have hfi' : fine ⟨t.z, i, k, t.r⟩ = false := by rw [← hfi]; exact fine_xy rfl rfl hti' hti
                      have hsn := rowT_snoc (tch Z t.r.toNat S) (k := k) (show a ≤ i by omega)
                      have hbig := rows_big (tch Z t.r.toNat S) (a := a) (show b ≤ k by omega) hkv hiu
                      rw [hdoc] at hbig
                      simp only [Int.reduceToNat, uw, push_cast, ↓reduceIte, reduceCtorEq, Nat.reduceBEq, Nat.reduceEqDiff, Nat.reduceAdd, Nat.reduceSub, Nat.reduceLT, Nat.reduceLeDiff, Nat.reduceMul]
                      repeat refine And.intro (by first | decide | omega | exact fun _ => by decide | (simp +contextual; done) | kernel_rfl) ?_
                      refine call_as (as' := [Til.v ⟨t.z, i, k, t.r⟩, uw (word t.r.toNat Z)]) rfl ?_
                      refine call_mk (on1_t ⟨t.z, i, k, t.r⟩ hti' hfi' Z hk hh) rfl trivial ?_
                      dsimp only
                      rw [hS]
                      simp only [uw, push_cast, ↓reduceIte, reduceCtorEq, Nat.reduceBEq, Nat.reduceEqDiff, Nat.reduceAdd, Nat.reduceSub, Nat.reduceLT, Nat.reduceLeDiff, Nat.reduceMul]
                      refine cnd_mk (fun ht => ?_) (fun ht => ?_)
                      · have ht' : tch Z t.r.toNat S i k = true := by simpa using ht
                        have hWb : W.length + 1 ≤ PT.length := by
                          rw [hsn, ht', ← List.append_assoc, ← hWe] at hbig
                          simp only [if_true, List.length_append, List.length_singleton] at hbig
                          exact hbig
                        simp only [Int.reduceToNat, uw, push_cast, ↓reduceIte, reduceCtorEq, Nat.reduceBEq, Nat.reduceEqDiff, Nat.reduceAdd, Nat.reduceSub, Nat.reduceLT, Nat.reduceLeDiff, Nat.reduceMul]
                        repeat refine And.intro (by first | decide | omega | exact fun _ => by decide | (simp +contextual; done) | kernel_rfl) ?_
                        rw [wrap_id (by omega), tils_snoc]
                        refine ⟨⟨W ++ [(i, k)], i + 1, ⟨by omega, by rw [show i + 1 - 1 = i by omega, hsn, ht', ← List.append_assoc, ← hWe]; rfl⟩, by simpa using hWb, .inr ⟨by simp, by simp, rfl⟩⟩, by omega⟩
                      · have ht' : tch Z t.r.toNat S i k = false := by simpa using ht
                        simp only [uw, push_cast, ↓reduceIte, reduceCtorEq, Nat.reduceBEq, Nat.reduceEqDiff, Nat.reduceAdd, Nat.reduceSub, Nat.reduceLT, Nat.reduceLeDiff, Nat.reduceMul]
                        rw [wrap_id (by omega)]
                        refine ⟨⟨W, i + 1, ⟨by omega, by rw [show i + 1 - 1 = i by omega, hsn, ht']; simpa using hWe⟩, hWl, .inr (by first | exact ⟨hW0, rfl, rfl⟩ | exact ⟨hW0, rfl⟩)⟩, by omega⟩
                    · have hiu : i = u + 1 := by simp at hc; omega
                      simp only [uw, push_cast, ↓reduceIte, reduceCtorEq, Nat.reduceBEq, Nat.reduceEqDiff, Nat.reduceAdd, Nat.reduceSub, Nat.reduceLT, Nat.reduceLeDiff, Nat.reduceMul]
                      rw [show IntKind.i64.wrap (k + 1) = k + 1 from wrap_id (by omega)]
                      refine ⟨⟨W, k + 1, ⟨by omega, by rw [show k + 1 - 1 = k by omega, rowsT_snoc _ (show b ≤ k by omega), hWe, show i - 1 = u by omega]⟩, hWl, .inr (by first | exact ⟨hW0, rfl, rfl⟩ | exact ⟨hW0, rfl⟩)⟩, by omega⟩
              · have hkv : k = v + 1 := by simp at hc; omega
                have hWP : W = PT := by rw [hWe, show k - 1 = v by omega, hdoc]
                simp only [uw, push_cast, ↓reduceIte, reduceCtorEq, Nat.reduceBEq, Nat.reduceEqDiff, Nat.reduceAdd, Nat.reduceSub, Nat.reduceLT, Nat.reduceLeDiff, Nat.reduceMul]
                exact absurd (hWP ▸ hW0) hPT
            · simp only [Int.reduceToNat, uw, push_cast, ↓reduceIte, reduceCtorEq, Nat.reduceBEq, Nat.reduceEqDiff, Nat.reduceAdd, Nat.reduceSub, Nat.reduceLT, Nat.reduceLeDiff, Nat.reduceMul]
              refine cnd_mk (fun hc => ?_) (fun hc => ?_)
              · have hkv : k ≤ v := by simpa using hc
                simp only [Int.reduceToNat, uw, push_cast, ↓reduceIte, reduceCtorEq, Nat.reduceBEq, Nat.reduceEqDiff, Nat.reduceAdd, Nat.reduceSub, Nat.reduceLT, Nat.reduceLeDiff, Nat.reduceMul]
                refine run_loop [(28, false), (27, false), (11, false), (13, false), (0, false), (1, false), (12, false), (22, false), (23, false), (24, false), (25, false), (26, false)] (fun vs pos los => ∃ (W : List (Int × Int)) (i : Int), ((a ≤ i ∧ i ≤ u + 1) ∧ W = rowsT (tch Z t.r.toNat S) a u b (k - 1) ++ rowT (tch Z t.r.toNat S) a (i - 1) k) ∧ W.length ≤ PT.length ∧ pos = [] ∧ ((W = [] ∧ vs = [int .i64 i, int .i64 k, .ptr 2000000 0 0, uw (word t.r.toNat Z), int .i64 X, int .i64 Y, .own 2000001 0 0 PT.length, int .i64 a, int .i64 b, int .i64 u, int .i64 v, .nils 4 tilZ] ∧ los = [.box [int .i64 t.z, int .i64 t.x, int .i64 t.y, int .i64 t.r], .row 4 tilZ true true (PT.map (tilR t.z t.r))]) ∨ (W ≠ [] ∧ vs = [int .i64 i, int .i64 k, .ptr 2000000 0 0, uw (word t.r.toNat Z), int .i64 X, int .i64 Y, .own 2000001 0 0 PT.length, int .i64 a, int .i64 b, int .i64 u, int .i64 v, .own 2000002 0 0 W.length] ∧ los = [.box [int .i64 t.z, int .i64 t.x, int .i64 t.y, int .i64 t.r], .row 4 tilZ true true (PT.map (tilR t.z t.r)), .row 4 tilZ true true (W.map (tilR t.z t.r))])))
                  (fun vs _ _ => match vs with | .r (.v (.int _ j)) :: _ => (u + 1 - j).toNat | _ => 0) rfl ?_ ?_
                · simp only [uw, push_cast, ↓reduceIte, reduceCtorEq, Nat.reduceBEq, Nat.reduceEqDiff, Nat.reduceAdd, Nat.reduceSub, Nat.reduceLT, Nat.reduceLeDiff, Nat.reduceMul]
                  exact ⟨W, a, ⟨by omega, by rw [rowT_nil _ (by omega), List.append_nil, ← hWe]⟩, hWl, .inr (by first | exact ⟨hW0, rfl, rfl⟩ | exact ⟨hW0, rfl⟩)⟩
                · rintro vs pos los ⟨W, i, ⟨hi, hWe⟩, hWl, rfl, ⟨hW0, rfl, rfl⟩ | ⟨hW0, rfl, rfl⟩⟩
                  · simp only [Int.reduceToNat, uw, push_cast, ↓reduceIte, reduceCtorEq, Nat.reduceBEq, Nat.reduceEqDiff, Nat.reduceAdd, Nat.reduceSub, Nat.reduceLT, Nat.reduceLeDiff, Nat.reduceMul]
                    refine cnd_mk (fun hc => ?_) (fun hc => ?_)
                    · have hiu : i ≤ u := by simpa using hc
                      have hti' := htis i k (by omega) (by omega) (by omega) (by omega)
                      have hfi' : fine ⟨t.z, i, k, t.r⟩ = false := by rw [← hfi]; exact fine_xy rfl rfl hti' hti
                      have hsn := rowT_snoc (tch Z t.r.toNat S) (k := k) (show a ≤ i by omega)
                      have hbig := rows_big (tch Z t.r.toNat S) (a := a) (show b ≤ k by omega) hkv hiu
                      rw [hdoc] at hbig
                      simp only [Int.reduceToNat, uw, push_cast, ↓reduceIte, reduceCtorEq, Nat.reduceBEq, Nat.reduceEqDiff, Nat.reduceAdd, Nat.reduceSub, Nat.reduceLT, Nat.reduceLeDiff, Nat.reduceMul]
                      repeat refine And.intro (by first | decide | omega | exact fun _ => by decide | (simp +contextual; done) | kernel_rfl) ?_
                      refine call_as (as' := [Til.v ⟨t.z, i, k, t.r⟩, uw (word t.r.toNat Z)]) rfl ?_
                      refine call_mk (on1_t ⟨t.z, i, k, t.r⟩ hti' hfi' Z hk hh) rfl trivial ?_
                      dsimp only
                      rw [hS]
                      simp only [uw, push_cast, ↓reduceIte, reduceCtorEq, Nat.reduceBEq, Nat.reduceEqDiff, Nat.reduceAdd, Nat.reduceSub, Nat.reduceLT, Nat.reduceLeDiff, Nat.reduceMul]
                      refine cnd_mk (fun ht => ?_) (fun ht => ?_)
                      · have ht' : tch Z t.r.toNat S i k = true := by simpa using ht
                        have hWb : W.length + 1 ≤ PT.length := by
                          rw [hsn, ht', ← List.append_assoc, ← hWe] at hbig
                          simp only [if_true, List.length_append, List.length_singleton] at hbig
                          exact hbig
                        simp only [Int.reduceToNat, uw, push_cast, ↓reduceIte, reduceCtorEq, Nat.reduceBEq, Nat.reduceEqDiff, Nat.reduceAdd, Nat.reduceSub, Nat.reduceLT, Nat.reduceLeDiff, Nat.reduceMul]
                        repeat refine And.intro (by first | decide | omega | exact fun _ => by decide | (simp +contextual; done) | kernel_rfl) ?_
                        rw [wrap_id (by omega)]
                        refine ⟨⟨[(i, k)], i + 1, ⟨by omega, by rw [show i + 1 - 1 = i by omega, hsn, ht', ← List.append_assoc, ← hWe, hW0]; rfl⟩, by simpa [hW0] using hWb, .inr ⟨by simp, rfl, rfl⟩⟩, by omega⟩
                      · have ht' : tch Z t.r.toNat S i k = false := by simpa using ht
                        simp only [uw, push_cast, ↓reduceIte, reduceCtorEq, Nat.reduceBEq, Nat.reduceEqDiff, Nat.reduceAdd, Nat.reduceSub, Nat.reduceLT, Nat.reduceLeDiff, Nat.reduceMul]
                        rw [wrap_id (by omega)]
                        refine ⟨⟨W, i + 1, ⟨by omega, by rw [show i + 1 - 1 = i by omega, hsn, ht']; simpa using hWe⟩, hWl, .inl (by first | exact ⟨hW0, rfl, rfl⟩ | exact ⟨hW0, rfl⟩)⟩, by omega⟩
                    · have hiu : i = u + 1 := by simp at hc; omega
                      simp only [uw, push_cast, ↓reduceIte, reduceCtorEq, Nat.reduceBEq, Nat.reduceEqDiff, Nat.reduceAdd, Nat.reduceSub, Nat.reduceLT, Nat.reduceLeDiff, Nat.reduceMul]
                      rw [show IntKind.i64.wrap (k + 1) = k + 1 from wrap_id (by omega)]
                      refine ⟨⟨W, k + 1, ⟨by omega, by rw [show k + 1 - 1 = k by omega, rowsT_snoc _ (show b ≤ k by omega), hWe, show i - 1 = u by omega]⟩, hWl, .inl (by first | exact ⟨hW0, rfl, rfl⟩ | exact ⟨hW0, rfl⟩)⟩, by omega⟩
                  · simp only [Int.reduceToNat, uw, push_cast, ↓reduceIte, reduceCtorEq, Nat.reduceBEq, Nat.reduceEqDiff, Nat.reduceAdd, Nat.reduceSub, Nat.reduceLT, Nat.reduceLeDiff, Nat.reduceMul]
                    refine cnd_mk (fun hc => ?_) (fun hc => ?_)
                    · have hiu : i ≤ u := by simpa using hc
                      have hti' := htis i k (by omega) (by omega) (by omega) (by omega)
                      have hfi' : fine ⟨t.z, i, k, t.r⟩ = false := by rw [← hfi]; exact fine_xy rfl rfl hti' hti
                      have hsn := rowT_snoc (tch Z t.r.toNat S) (k := k) (show a ≤ i by omega)
                      have hbig := rows_big (tch Z t.r.toNat S) (a := a) (show b ≤ k by omega) hkv hiu
                      rw [hdoc] at hbig
                      simp only [Int.reduceToNat, uw, push_cast, ↓reduceIte, reduceCtorEq, Nat.reduceBEq, Nat.reduceEqDiff, Nat.reduceAdd, Nat.reduceSub, Nat.reduceLT, Nat.reduceLeDiff, Nat.reduceMul]
                      repeat refine And.intro (by first | decide | omega | exact fun _ => by decide | (simp +contextual; done) | kernel_rfl) ?_
                      refine call_as (as' := [Til.v ⟨t.z, i, k, t.r⟩, uw (word t.r.toNat Z)]) rfl ?_
                      refine call_mk (on1_t ⟨t.z, i, k, t.r⟩ hti' hfi' Z hk hh) rfl trivial ?_
                      dsimp only
                      rw [hS]
                      simp only [uw, push_cast, ↓reduceIte, reduceCtorEq, Nat.reduceBEq, Nat.reduceEqDiff, Nat.reduceAdd, Nat.reduceSub, Nat.reduceLT, Nat.reduceLeDiff, Nat.reduceMul]
                      refine cnd_mk (fun ht => ?_) (fun ht => ?_)
                      · have ht' : tch Z t.r.toNat S i k = true := by simpa using ht
                        have hWb : W.length + 1 ≤ PT.length := by
                          rw [hsn, ht', ← List.append_assoc, ← hWe] at hbig
                          simp only [if_true, List.length_append, List.length_singleton] at hbig
                          exact hbig
                        simp only [Int.reduceToNat, uw, push_cast, ↓reduceIte, reduceCtorEq, Nat.reduceBEq, Nat.reduceEqDiff, Nat.reduceAdd, Nat.reduceSub, Nat.reduceLT, Nat.reduceLeDiff, Nat.reduceMul]
                        repeat refine And.intro (by first | decide | omega | exact fun _ => by decide | (simp +contextual; done) | kernel_rfl) ?_
                        rw [wrap_id (by omega), tils_snoc]
                        refine ⟨⟨W ++ [(i, k)], i + 1, ⟨by omega, by rw [show i + 1 - 1 = i by omega, hsn, ht', ← List.append_assoc, ← hWe]; rfl⟩, by simpa using hWb, .inr ⟨by simp, by simp, rfl⟩⟩, by omega⟩
                      · have ht' : tch Z t.r.toNat S i k = false := by simpa using ht
                        simp only [uw, push_cast, ↓reduceIte, reduceCtorEq, Nat.reduceBEq, Nat.reduceEqDiff, Nat.reduceAdd, Nat.reduceSub, Nat.reduceLT, Nat.reduceLeDiff, Nat.reduceMul]
                        rw [wrap_id (by omega)]
                        refine ⟨⟨W, i + 1, ⟨by omega, by rw [show i + 1 - 1 = i by omega, hsn, ht']; simpa using hWe⟩, hWl, .inr (by first | exact ⟨hW0, rfl, rfl⟩ | exact ⟨hW0, rfl⟩)⟩, by omega⟩
                    · have hiu : i = u + 1 := by simp at hc; omega
                      simp only [uw, push_cast, ↓reduceIte, reduceCtorEq, Nat.reduceBEq, Nat.reduceEqDiff, Nat.reduceAdd, Nat.reduceSub, Nat.reduceLT, Nat.reduceLeDiff, Nat.reduceMul]
                      rw [show IntKind.i64.wrap (k + 1) = k + 1 from wrap_id (by omega)]
                      refine ⟨⟨W, k + 1, ⟨by omega, by rw [show k + 1 - 1 = k by omega, rowsT_snoc _ (show b ≤ k by omega), hWe, show i - 1 = u by omega]⟩, hWl, .inr (by first | exact ⟨hW0, rfl, rfl⟩ | exact ⟨hW0, rfl⟩)⟩, by omega⟩
              · have hkv : k = v + 1 := by simp at hc; omega
                have hWP : W = PT := by rw [hWe, show k - 1 = v by omega, hdoc]
                simp only [uw, push_cast, ↓reduceIte, reduceCtorEq, Nat.reduceBEq, Nat.reduceEqDiff, Nat.reduceAdd, Nat.reduceSub, Nat.reduceLT, Nat.reduceLeDiff, Nat.reduceMul]
                subst hWP
                refine run_loop [(31, false), (30, false), (12, false), (26, false), (11, false), (0, false), (1, false)] (fun vs pos los => ∃ i : Nat, i ≤ W.length ∧ vs = [int .i64 i, bl (ownB W t i), .own 2000000 0 0 W.length, .own 2000001 0 0 W.length, .ptr 2000002 0 0, int .i64 X, int .i64 Y] ∧ pos = [] ∧
                  los = [.row 4 tilZ true true (W.map (tilR t.z t.r)), .row 4 tilZ true true (W.map (tilR t.z t.r)), .box [int .i64 t.z, int .i64 t.x, int .i64 t.y, int .i64 t.r]])
                  (fun vs _ _ => match vs with | .r (.v (.int _ j)) :: _ => (W.length - j).toNat | _ => 0) rfl ?_ ?_
                · simp only [uw, push_cast, ↓reduceIte, reduceCtorEq, Nat.reduceBEq, Nat.reduceEqDiff, Nat.reduceAdd, Nat.reduceSub, Nat.reduceLT, Nat.reduceLeDiff, Nat.reduceMul]
                  refine ⟨0, by omega, ?_⟩
                  first | exact rfl | exact ⟨rfl, rfl⟩
                · rintro vs pos los ⟨i, hi, rfl, rfl, rfl⟩
                  simp only [uw, push_cast, ↓reduceIte, reduceCtorEq, Nat.reduceBEq, Nat.reduceEqDiff, Nat.reduceAdd, Nat.reduceSub, Nat.reduceLT, Nat.reduceLeDiff, Nat.reduceMul]
                  refine cnd_mk (fun h => ?_) (fun h => ?_)
                  · have hi : i < W.length := by simp at h; omega
                    obtain ⟨p, hp⟩ : ∃ p, W[i]? = some p := ⟨_, List.getElem?_eq_getElem hi⟩
                    have g1 : decide ((i : Int) ≥ W.length) = false := by simp; omega
                    simp only [g1, Int.toNat_natCast, Nat.zero_add, tils_at hp, push_cast, ↓reduceIte, reduceCtorEq, Nat.reduceBEq, Nat.reduceEqDiff, Nat.reduceAdd, Nat.reduceSub, Nat.reduceLT, Nat.reduceLeDiff, Nat.reduceMul]
                    repeat refine And.intro (by first | decide | omega | exact fun _ => by decide | (simp +contextual; done) | kernel_rfl) ?_
                    try simp only [beq_self_eq_true, push_cast, ↓reduceIte, reduceCtorEq, Nat.reduceBEq, Nat.reduceEqDiff, Nat.reduceAdd, Nat.reduceSub, Nat.reduceLT, Nat.reduceLeDiff, Nat.reduceMul]
                    have ob := ownB_succ W t i hp
                    cases hob : ownB W t i with
                    | true =>
                      simp only [hob, push_cast, ↓reduceIte, reduceCtorEq, Nat.reduceBEq, Nat.reduceEqDiff, Nat.reduceAdd, Nat.reduceSub, Nat.reduceLT, Nat.reduceLeDiff, Nat.reduceMul]
                      repeat refine And.intro (by first | decide | omega | exact fun _ => by decide | (simp +contextual; done) | kernel_rfl) ?_
                      rw [show IntKind.i64.wrap ((i : Int) + 1) = ((i + 1 : Nat) : Int) by rw [wrap_id (by omega)]; omega]
                      exact ⟨⟨i + 1, by omega, by rw [ob, hob]; rfl⟩, by omega⟩
                    | false =>
                      simp only [hob, Int.toNat_natCast, Nat.zero_add, tils_at hp, push_cast, ↓reduceIte, reduceCtorEq, Nat.reduceBEq, Nat.reduceEqDiff, Nat.reduceAdd, Nat.reduceSub, Nat.reduceLT, Nat.reduceLeDiff, Nat.reduceMul]
                      repeat refine And.intro (by first | decide | omega | exact fun _ => by decide | (simp +contextual; done) | kernel_rfl) ?_
                      try simp only [beq_self_eq_true, push_cast, ↓reduceIte, reduceCtorEq, Nat.reduceBEq, Nat.reduceEqDiff, Nat.reduceAdd, Nat.reduceSub, Nat.reduceLT, Nat.reduceLeDiff, Nat.reduceMul]
                      rw [show IntKind.i64.wrap ((i : Int) + 1) = ((i + 1 : Nat) : Int) by rw [wrap_id (by omega)]; omega]
                      exact ⟨⟨i + 1, by omega, by rw [ob, hob]; rfl⟩, by omega⟩
                  · have hi : i = W.length := by simp at h; omega
                    subst hi
                    have hob : ownB W t W.length = true := ownB_all hown
                    have tno : tis ⟨19, 0, 0, t.r⟩ = false := by simp [tis]
                    simp only [hob, push_cast, ↓reduceIte, reduceCtorEq, Nat.reduceBEq, Nat.reduceEqDiff, Nat.reduceAdd, Nat.reduceSub, Nat.reduceLT, Nat.reduceLeDiff, Nat.reduceMul]
                    repeat refine And.intro (by first | decide | omega | exact fun _ => by decide | (simp +contextual; done) | kernel_rfl) ?_
                    refine call_mk (tiles_no X Y 19 t.r (by decide) ho.2.2.2 (.inl tno)) rfl trivial ?_
                    simp only [uw, push_cast, ↓reduceIte, reduceCtorEq, Nat.reduceBEq, Nat.reduceEqDiff, Nat.reduceAdd, Nat.reduceSub, Nat.reduceLT, Nat.reduceLeDiff, Nat.reduceMul]
                    repeat refine And.intro (by first | decide | omega | exact fun _ => by decide | (simp +contextual; done) | kernel_rfl) ?_
                    refine call_mk (tiles_no (-1) Y t.z t.r ho.1 ho.2.2.2 (.inr (by unfold inW; omega))) rfl trivial ?_
                    simp only [uw, push_cast, ↓reduceIte, reduceCtorEq, Nat.reduceBEq, Nat.reduceEqDiff, Nat.reduceAdd, Nat.reduceSub, Nat.reduceLT, Nat.reduceLeDiff, Nat.reduceMul]
                    repeat refine And.intro (by first | decide | omega | exact fun _ => by decide | (simp +contextual; done) | kernel_rfl) ?_
                    refine call_mk awake22_t rfl trivial ?_
                    simp only [uw, push_cast, ↓reduceIte, reduceCtorEq, Nat.reduceBEq, Nat.reduceEqDiff, Nat.reduceAdd, Nat.reduceSub, Nat.reduceLT, Nat.reduceLeDiff, Nat.reduceMul]
                    try (repeat refine And.intro (by first | decide | omega | exact fun _ => by decide | (simp +contextual; done) | kernel_rfl) ?_)
                    try rfl
end Go.Ev
