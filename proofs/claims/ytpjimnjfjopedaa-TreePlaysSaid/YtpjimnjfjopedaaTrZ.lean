import Derived.Test.YtpjimnjfjopedaaTrX
namespace Go.Ev
open Go
set_option linter.unnecessarySimpa false
set_option linter.unusedSimpArgs false
set_option linter.unusedVariables false
open Go.ChangeShapes Go.WideShapes Go.RowKit
noncomputable def apiarylaw17_TreePlays_pc : PC :=
  (.seq (.reg [⟨(some 4), none, 0, .see (.mov (.c (.r (.v (.bool false)))))⟩])
  (.seq (.reg [⟨(some 26), none, 1, .call 11 []⟩,
    ⟨(some 5), none, 0, .see (.mov (.t 26))⟩])
  (.seq (.seq (.reg [⟨(some 27), none, 0, .see (.mov (.t 5))⟩,
    ⟨(some 28), none, 0, .see (.eqn false (.t 27))⟩,
    ⟨(some 29), none, 0, .see (.mov (.t 28))⟩,
    ⟨(some 30), (some (29, false)), 2, .call 10 []⟩,
    ⟨(some 31), (some (29, false)), 0, .see (.un .not (.t 30))⟩,
    ⟨(some 32), none, 0, .see (.pick (.t 29) (.c (.r (.v (.bool true)))) (.t 31))⟩])
  (.cond (.t 32)
    (.seq (.reg [⟨(some 4), none, 0, .see (.mov (.c (.r (.v (.bool false)))))⟩])
    .ret)
    .skip))
  (.seq (.reg [⟨(some 6), none, 0, .see (.mov (.c (.nils 3 (.agg [(.v (.int .u64 0)), (.v (.int .i64 0)), (.v (.int .i64 0))]))))⟩])
  (.seq (.seq (.reg [⟨(some 7), none, 0, .see (.mov (.c (.r (.v (.int .i64 0)))))⟩])
  (.block 0 (.loop (.seq (.seq (.reg [⟨(some 33), none, 0, .see (.mov (.t 7))⟩,
    ⟨(some 34), none, 0, .see (.mov (.t 0))⟩,
    ⟨(some 35), none, 0, .see (.len false (.t 34))⟩,
    ⟨(some 36), none, 0, .see (.bin .lss (.t 33) (.t 35))⟩,
    ⟨(some 37), none, 0, .see (.mov (.t 36))⟩,
    ⟨(some 38), (some (37, true)), 0, .see (.mov (.t 7))⟩,
    ⟨(some 39), (some (37, true)), 0, .see (.bin .lss (.t 38) (.c (.r (.v (.int .i64 150)))))⟩,
    ⟨(some 40), none, 0, .see (.pick (.t 37) (.t 39) (.c (.r (.v (.bool false)))))⟩])
  (.cond (.t 40)
    .skip
    (.exit 0)))
  (.seq (.block 1 (.seq (.reg [⟨(some 44), none, 0, .see (.mov (.t 6))⟩,
    ⟨(some 45), none, 0, .see (.mov (.t 0))⟩,
    ⟨(some 46), none, 0, .see (.mov (.t 7))⟩,
    ⟨(some 47), none, 0, .see (.ia 4 (.agg [(.v (.int .i64 0)), (.v (.int .u64 0)), (.v (.int .i64 0)), (.v (.int .i64 0))]) (.t 45) (.t 46))⟩,
    ⟨(some 48), none, 0, .see (.fa 1 (.t 47))⟩,
    ⟨(some 49), none, 0, .see (.ld (some 3) (.t 48))⟩,
    ⟨(some 50), none, 3, .call 20 [(.t 44), (.t 49)]⟩,
    ⟨(some 43), none, 0, .see (.mov (.t 50))⟩,
    ⟨(some 51), none, 0, .see (.ext (.t 43) 0)⟩,
    ⟨(some 52), none, 0, .see (.ext (.t 43) 1)⟩,
    ⟨(some 8), none, 0, .see (.mov (.t 51))⟩,
    ⟨(some 9), none, 0, .see (.mov (.t 52))⟩])
  (.seq (.seq (.reg [⟨(some 53), none, 0, .see (.mov (.t 0))⟩,
    ⟨(some 54), none, 0, .see (.mov (.t 7))⟩,
    ⟨(some 55), none, 0, .see (.ia 4 (.agg [(.v (.int .i64 0)), (.v (.int .u64 0)), (.v (.int .i64 0)), (.v (.int .i64 0))]) (.t 53) (.t 54))⟩,
    ⟨(some 56), none, 0, .see (.fa 0 (.t 55))⟩,
    ⟨(some 57), none, 0, .see (.ld none (.t 56))⟩,
    ⟨(some 58), none, 0, .see (.bin .eql (.t 57) (.c (.r (.v (.int .i64 0)))))⟩])
  (.cond (.t 58)
    (.seq (.seq (.reg [⟨(some 59), none, 0, .see (.mov (.t 5))⟩,
    ⟨(some 60), none, 0, .see (.mov (.t 0))⟩,
    ⟨(some 61), none, 0, .see (.mov (.t 7))⟩,
    ⟨(some 62), none, 0, .see (.ia 4 (.agg [(.v (.int .i64 0)), (.v (.int .u64 0)), (.v (.int .i64 0)), (.v (.int .i64 0))]) (.t 60) (.t 61))⟩,
    ⟨(some 63), none, 0, .see (.fa 1 (.t 62))⟩,
    ⟨(some 64), none, 0, .see (.ld (some 3) (.t 63))⟩,
    ⟨(some 65), none, 4, .call 12 [(.t 59), (.t 64)]⟩,
    ⟨(some 66), none, 0, .see (.mov (.t 9))⟩,
    ⟨(some 67), none, 0, .see (.beq false (.t 65) (.t 66))⟩])
    (.cond (.t 67)
      (.seq (.reg [⟨(some 4), none, 0, .see (.mov (.c (.r (.v (.bool false)))))⟩])
      .ret)
      .skip))
    (.seq (.seq (.reg [⟨(some 68), none, 0, .see (.mov (.t 9))⟩,
    ⟨(some 69), none, 0, .see (.un .not (.t 68))⟩])
    (.cond (.t 69)
      (.seq (.reg [⟨(some 70), none, 0, .see (.mov (.t 6))⟩,
    ⟨(some 71), none, 0, .see (.build [(.r (.v (.int .u64 0))), (.r (.v (.int .i64 0))), (.r (.v (.int .i64 0)))] [])⟩,
    ⟨(some 72), none, 0, .act (.bsl 3 (.agg [(.v (.int .u64 0)), (.v (.int .i64 0)), (.v (.int .i64 0))]) [(.t 71)])⟩,
    ⟨(some 73), none, 0, .act (.app 3 (.agg [(.v (.int .u64 0)), (.v (.int .i64 0)), (.v (.int .i64 0))]) 24 (.t 70) (.t 72))⟩,
    ⟨(some 6), none, 0, .see (.mov (.t 73))⟩])
      (.seq (.drw [⟨(some 74), none, 0, .see (.mov (.t 6))⟩,
    ⟨(some 75), none, 0, .see (.mov (.t 8))⟩,
    ⟨(some 76), none, 0, .see (.bin .add (.t 75) (.c (.r (.v (.int .i64 1)))))⟩,
    ⟨(some 77), none, 0, .see (.sll 3 (.t 74) (some (.t 76)) none none)⟩,
    ⟨(some 78), none, 0, .see (.mov (.t 6))⟩,
    ⟨(some 79), none, 0, .see (.mov (.t 8))⟩,
    ⟨(some 80), none, 0, .see (.sll 3 (.t 78) (some (.t 79)) none none)⟩,
    ⟨(some 81), none, 0, .act (.cpy 3 (.t 77) (.t 80))⟩]
    [[], [], [1], [0, 1, 2], [], [], [4, 5], [0, 1, 2, 3, 4, 5, 6]])
      (.reg [⟨(some 82), none, 0, .see (.mov (.t 6))⟩,
    ⟨(some 83), none, 0, .see (.mov (.t 8))⟩,
    ⟨(some 84), none, 0, .see (.mov (.t 0))⟩,
    ⟨(some 85), none, 0, .see (.mov (.t 7))⟩,
    ⟨(some 86), none, 0, .see (.ia 4 (.agg [(.v (.int .i64 0)), (.v (.int .u64 0)), (.v (.int .i64 0)), (.v (.int .i64 0))]) (.t 84) (.t 85))⟩,
    ⟨(some 87), none, 0, .see (.fa 1 (.t 86))⟩,
    ⟨(some 88), none, 0, .see (.ld (some 3) (.t 87))⟩,
    ⟨(some 89), none, 0, .see (.ia 3 (.agg [(.v (.int .u64 0)), (.v (.int .i64 0)), (.v (.int .i64 0))]) (.t 82) (.t 83))⟩,
    ⟨none, none, 0, .act (.st 3 (.t 89) (.t 88))⟩])))
      .skip))
    (.exit 1)))
    .skip))
  (.seq (.seq (.reg [⟨(some 90), none, 0, .see (.mov (.t 5))⟩,
    ⟨(some 91), none, 0, .see (.mov (.t 0))⟩,
    ⟨(some 92), none, 0, .see (.mov (.t 7))⟩,
    ⟨(some 93), none, 0, .see (.ia 4 (.agg [(.v (.int .i64 0)), (.v (.int .u64 0)), (.v (.int .i64 0)), (.v (.int .i64 0))]) (.t 91) (.t 92))⟩,
    ⟨(some 94), none, 0, .see (.fa 1 (.t 93))⟩,
    ⟨(some 95), none, 0, .see (.ld (some 3) (.t 94))⟩,
    ⟨(some 96), none, 5, .call 15 [(.t 90), (.t 95)]⟩,
    ⟨(some 97), none, 0, .see (.mov (.t 9))⟩,
    ⟨(some 98), none, 0, .see (.beq true (.t 96) (.t 97))⟩])
  (.cond (.t 98)
    (.seq (.reg [⟨(some 4), none, 0, .see (.mov (.c (.r (.v (.bool false)))))⟩])
    .ret)
    .skip))
  (.seq (.reg [⟨(some 99), none, 0, .see (.mov (.t 9))⟩])
  (.cond (.t 99)
    (.drw [⟨(some 100), none, 0, .see (.mov (.t 6))⟩,
    ⟨(some 101), none, 0, .see (.mov (.t 8))⟩,
    ⟨(some 102), none, 0, .see (.sll 3 (.t 100) none (some (.t 101)) none)⟩,
    ⟨(some 103), none, 0, .see (.mov (.t 6))⟩,
    ⟨(some 104), none, 0, .see (.mov (.t 8))⟩,
    ⟨(some 105), none, 0, .see (.bin .add (.t 104) (.c (.r (.v (.int .i64 1)))))⟩,
    ⟨(some 106), none, 0, .see (.sll 3 (.t 103) (some (.t 105)) none none)⟩,
    ⟨(some 107), none, 0, .act (.app 3 (.agg [(.v (.int .u64 0)), (.v (.int .i64 0)), (.v (.int .i64 0))]) 24 (.t 102) (.t 106))⟩,
    ⟨(some 6), none, 0, .see (.mov (.t 107))⟩]
    [[], [], [0, 1], [], [], [4], [3, 4, 5], [0, 1, 2, 3, 4, 5, 6], [0, 1, 2, 3, 4, 5, 6, 7]])
    .skip))))))
  (.reg [⟨(some 41), none, 0, .see (.mov (.t 7))⟩,
    ⟨(some 42), none, 0, .see (.bin .add (.t 41) (.c (.r (.v (.int .i64 1)))))⟩,
    ⟨(some 7), none, 0, .see (.mov (.t 42))⟩]))))))
  (.seq (.seq (.reg [⟨(some 108), none, 0, .see (.mov (.t 5))⟩,
    ⟨(some 109), none, 6, .call 13 [(.t 108)]⟩,
    ⟨(some 110), none, 0, .see (.mov (.t 6))⟩,
    ⟨(some 111), none, 0, .see (.len false (.t 110))⟩,
    ⟨(some 112), none, 0, .see (.bin .neq (.t 109) (.t 111))⟩])
  (.cond (.t 112)
    (.seq (.reg [⟨(some 4), none, 0, .see (.mov (.c (.r (.v (.bool false)))))⟩])
    .ret)
    .skip))
  (.seq (.seq (.reg [⟨(some 10), none, 0, .see (.mov (.c (.r (.v (.int .i64 0)))))⟩])
  (.block 2 (.loop (.seq (.seq (.reg [⟨(some 113), none, 0, .see (.mov (.t 10))⟩,
    ⟨(some 114), none, 0, .see (.mov (.t 1))⟩,
    ⟨(some 115), none, 0, .see (.len false (.t 114))⟩,
    ⟨(some 116), none, 0, .see (.bin .lss (.t 113) (.t 115))⟩,
    ⟨(some 117), none, 0, .see (.mov (.t 116))⟩,
    ⟨(some 118), (some (117, true)), 0, .see (.mov (.t 10))⟩,
    ⟨(some 119), (some (117, true)), 0, .see (.bin .lss (.t 118) (.c (.r (.v (.int .i64 30)))))⟩,
    ⟨(some 120), none, 0, .see (.pick (.t 117) (.t 119) (.c (.r (.v (.bool false)))))⟩])
  (.cond (.t 120)
    .skip
    (.exit 2)))
  (.seq (.block 3 (.seq (.drw [⟨(some 123), none, 0, .see (.mov (.t 1))⟩,
    ⟨(some 124), none, 0, .see (.mov (.t 10))⟩,
    ⟨(some 125), none, 0, .see (.ia 3 (.agg [(.v (.int .u64 0)), (.v (.int .i64 0)), (.v (.int .i64 0))]) (.t 123) (.t 124))⟩,
    ⟨(some 126), none, 0, .see (.ld (some 3) (.t 125))⟩,
    ⟨(some 127), none, 0, .see (.mov (.t 1))⟩,
    ⟨(some 128), none, 0, .see (.mov (.t 10))⟩,
    ⟨(some 129), none, 0, .see (.bin .add (.t 128) (.c (.r (.v (.int .i64 1)))))⟩,
    ⟨(some 130), none, 0, .see (.mov (.t 1))⟩,
    ⟨(some 131), none, 0, .see (.len false (.t 130))⟩,
    ⟨(some 132), none, 0, .see (.bin .rem (.t 129) (.t 131))⟩,
    ⟨(some 133), none, 0, .see (.ia 3 (.agg [(.v (.int .u64 0)), (.v (.int .i64 0)), (.v (.int .i64 0))]) (.t 127) (.t 132))⟩,
    ⟨(some 134), none, 0, .see (.ld (some 3) (.t 133))⟩,
    ⟨(some 11), none, 0, .act (.new [(.r (.v (.int .u64 0))), (.r (.v (.int .i64 0))), (.r (.v (.int .i64 0)))])⟩,
    ⟨(some 12), none, 0, .act (.new [(.r (.v (.int .u64 0))), (.r (.v (.int .i64 0))), (.r (.v (.int .i64 0)))])⟩,
    ⟨none, none, 0, .act (.st 3 (.t 11) (.t 126))⟩,
    ⟨none, none, 0, .act (.st 3 (.t 12) (.t 134))⟩]
    [[], [], [0, 1], [0, 1, 2], [], [], [5], [], [7], [5, 6, 7, 8], [4, 5, 6, 7, 8, 9], [4, 5, 6, 7, 8, 9, 10], [], [], [0, 1, 2, 3, 12, 13], [0, 1, 2, 3, 4, 5, 6, 7, 8, 9, 10, 11, 12, 13, 14]])
  (.seq (.reg [⟨(some 136), none, 0, .see (.mov (.t 6))⟩,
    ⟨(some 137), none, 0, .see (.ld (some 3) (.t 11))⟩,
    ⟨(some 138), none, 7, .call 20 [(.t 136), (.t 137)]⟩,
    ⟨(some 135), none, 0, .see (.mov (.t 138))⟩,
    ⟨(some 139), none, 0, .see (.ext (.t 135) 0)⟩,
    ⟨(some 140), none, 0, .see (.ext (.t 135) 1)⟩,
    ⟨(some 13), none, 0, .see (.mov (.t 139))⟩,
    ⟨(some 14), none, 0, .see (.mov (.t 140))⟩])
  (.seq (.seq (.reg [⟨(some 141), none, 0, .see (.mov (.t 5))⟩,
    ⟨(some 142), none, 0, .see (.ld (some 3) (.t 11))⟩,
    ⟨(some 143), none, 8, .call 14 [(.t 141), (.t 142)]⟩,
    ⟨(some 144), none, 0, .see (.mov (.t 14))⟩,
    ⟨(some 145), none, 0, .see (.beq true (.t 143) (.t 144))⟩,
    ⟨(some 146), none, 0, .see (.mov (.t 145))⟩,
    ⟨(some 147), (some (146, false)), 0, .see (.mov (.t 5))⟩,
    ⟨(some 148), (some (146, false)), 0, .see (.ld (some 3) (.t 11))⟩,
    ⟨(some 149), (some (146, false)), 9, .call 17 [(.t 147), (.t 148)]⟩,
    ⟨(some 150), (some (146, false)), 0, .see (.mov (.t 13))⟩,
    ⟨(some 151), (some (146, false)), 0, .see (.bin .neq (.t 149) (.t 150))⟩,
    ⟨(some 152), none, 0, .see (.pick (.t 146) (.c (.r (.v (.bool true)))) (.t 151))⟩])
  (.cond (.t 152)
    (.seq (.reg [⟨(some 4), none, 0, .see (.mov (.c (.r (.v (.bool false)))))⟩])
    .ret)
    .skip))
  (.seq (.reg [⟨(some 15), none, 0, .see (.mov (.c (.nils 3 (.agg [(.v (.int .u64 0)), (.v (.int .i64 0)), (.v (.int .i64 0))]))))⟩])
  (.seq (.reg [⟨(some 153), none, 0, .see (.build [(.r (.v (.int .u64 0))), (.r (.v (.int .i64 0))), (.r (.v (.int .i64 0)))] [])⟩,
    ⟨(some 154), none, 0, .see (.build [(.r (.v (.int .u64 0))), (.r (.v (.int .i64 0))), (.r (.v (.int .i64 0)))] [])⟩,
    ⟨(some 16), none, 0, .act (.new [(.r (.v (.int .u64 0))), (.r (.v (.int .i64 0))), (.r (.v (.int .i64 0)))])⟩,
    ⟨(some 17), none, 0, .act (.new [(.r (.v (.int .u64 0))), (.r (.v (.int .i64 0))), (.r (.v (.int .i64 0)))])⟩,
    ⟨none, none, 0, .act (.st 3 (.t 16) (.t 153))⟩,
    ⟨none, none, 0, .act (.st 3 (.t 17) (.t 154))⟩,
    ⟨(some 18), none, 0, .see (.mov (.c (.r (.v (.bool false)))))⟩])
  (.seq (.seq (.reg [⟨(some 19), none, 0, .see (.mov (.c (.r (.v (.int .i64 0)))))⟩])
  (.block 4 (.loop (.seq (.seq (.reg [⟨(some 155), none, 0, .see (.mov (.t 19))⟩,
    ⟨(some 156), none, 0, .see (.mov (.t 6))⟩,
    ⟨(some 157), none, 0, .see (.len false (.t 156))⟩,
    ⟨(some 158), none, 0, .see (.bin .lss (.t 155) (.t 157))⟩])
  (.cond (.t 158)
    .skip
    (.exit 4)))
  (.seq (.block 5 (.seq (.seq (.drw [⟨(some 161), none, 0, .see (.mov (.t 6))⟩,
    ⟨(some 162), none, 0, .see (.mov (.t 19))⟩,
    ⟨(some 163), none, 0, .see (.ia 3 (.agg [(.v (.int .u64 0)), (.v (.int .i64 0)), (.v (.int .i64 0))]) (.t 161) (.t 162))⟩,
    ⟨(some 164), none, 0, .see (.ld (some 3) (.t 163))⟩,
    ⟨(some 165), none, 0, .see (.ld (some 3) (.t 11))⟩,
    ⟨(some 166), none, 10, .call 9 [(.t 164), (.t 165)]⟩,
    ⟨(some 167), none, 0, .see (.un .not (.t 166))⟩,
    ⟨(some 168), none, 0, .see (.mov (.t 167))⟩,
    ⟨(some 169), (some (168, true)), 0, .see (.ld (some 3) (.t 12))⟩,
    ⟨(some 170), (some (168, true)), 0, .see (.mov (.t 6))⟩,
    ⟨(some 171), (some (168, true)), 0, .see (.mov (.t 19))⟩,
    ⟨(some 172), (some (168, true)), 0, .see (.ia 3 (.agg [(.v (.int .u64 0)), (.v (.int .i64 0)), (.v (.int .i64 0))]) (.t 170) (.t 171))⟩,
    ⟨(some 173), (some (168, true)), 0, .see (.ld (some 3) (.t 172))⟩,
    ⟨(some 174), (some (168, true)), 11, .call 9 [(.t 169), (.t 173)]⟩,
    ⟨(some 175), (some (168, true)), 0, .see (.un .not (.t 174))⟩,
    ⟨(some 176), none, 0, .see (.pick (.t 168) (.t 175) (.c (.r (.v (.bool false)))))⟩]
    [[], [], [0, 1], [0, 1, 2], [], [0, 1, 2, 3, 4], [0, 1, 2, 3, 4, 5], [0, 1, 2, 3, 4, 5, 6], [0, 1, 2, 3, 4, 5, 6, 7], [0, 1, 2, 3, 4, 5, 6, 7], [0, 1, 2, 3, 4, 5, 6, 7], [0, 1, 2, 3, 4, 5, 6, 7, 9, 10], [0, 1, 2, 3, 4, 5, 6, 7, 9, 10, 11], [0, 1, 2, 3, 4, 5, 6, 7, 8, 9, 10, 11, 12], [0, 1, 2, 3, 4, 5, 6, 7, 8, 9, 10, 11, 12, 13], [0, 1, 2, 3, 4, 5, 6, 7, 8, 9, 10, 11, 12, 13, 14]])
  (.cond (.t 176)
    (.reg [⟨(some 177), none, 0, .see (.mov (.t 15))⟩,
    ⟨(some 178), none, 0, .see (.mov (.t 6))⟩,
    ⟨(some 179), none, 0, .see (.mov (.t 19))⟩,
    ⟨(some 180), none, 0, .see (.ia 3 (.agg [(.v (.int .u64 0)), (.v (.int .i64 0)), (.v (.int .i64 0))]) (.t 178) (.t 179))⟩,
    ⟨(some 181), none, 0, .see (.ld (some 3) (.t 180))⟩,
    ⟨(some 182), none, 0, .act (.bsl 3 (.agg [(.v (.int .u64 0)), (.v (.int .i64 0)), (.v (.int .i64 0))]) [(.t 181)])⟩,
    ⟨(some 183), none, 0, .act (.app 3 (.agg [(.v (.int .u64 0)), (.v (.int .i64 0)), (.v (.int .i64 0))]) 24 (.t 177) (.t 182))⟩,
    ⟨(some 15), none, 0, .see (.mov (.t 183))⟩])
    .skip))
  (.seq (.drw [⟨(some 184), none, 0, .see (.mov (.t 6))⟩,
    ⟨(some 185), none, 0, .see (.mov (.t 19))⟩,
    ⟨(some 186), none, 0, .see (.ia 3 (.agg [(.v (.int .u64 0)), (.v (.int .i64 0)), (.v (.int .i64 0))]) (.t 184) (.t 185))⟩,
    ⟨(some 187), none, 0, .see (.fa 0 (.t 186))⟩,
    ⟨(some 188), none, 0, .see (.ld none (.t 187))⟩,
    ⟨(some 189), none, 0, .see (.fa 0 (.t 11))⟩,
    ⟨(some 190), none, 0, .see (.ld none (.t 189))⟩,
    ⟨(some 191), none, 0, .see (.bin .eql (.t 188) (.t 190))⟩]
    [[], [], [0, 1], [0, 1, 2], [0, 1, 2, 3], [], [5], [0, 1, 2, 3, 4, 5, 6]])
  (.cond (.t 191)
    (.seq (.seq (.reg [⟨(some 192), none, 0, .see (.mov (.t 18))⟩,
    ⟨(some 193), none, 0, .see (.un .not (.t 192))⟩])
    (.cond (.t 193)
      (.reg [⟨(some 194), none, 0, .see (.mov (.t 6))⟩,
    ⟨(some 195), none, 0, .see (.mov (.t 19))⟩,
    ⟨(some 196), none, 0, .see (.ia 3 (.agg [(.v (.int .u64 0)), (.v (.int .i64 0)), (.v (.int .i64 0))]) (.t 194) (.t 195))⟩,
    ⟨(some 197), none, 0, .see (.ld (some 3) (.t 196))⟩,
    ⟨none, none, 0, .act (.st 3 (.t 16) (.t 197))⟩])
      .skip))
    (.reg [⟨(some 198), none, 0, .see (.mov (.t 6))⟩,
    ⟨(some 199), none, 0, .see (.mov (.t 19))⟩,
    ⟨(some 200), none, 0, .see (.ia 3 (.agg [(.v (.int .u64 0)), (.v (.int .i64 0)), (.v (.int .i64 0))]) (.t 198) (.t 199))⟩,
    ⟨(some 201), none, 0, .see (.ld (some 3) (.t 200))⟩,
    ⟨none, none, 0, .act (.st 3 (.t 17) (.t 201))⟩,
    ⟨(some 18), none, 0, .see (.mov (.c (.r (.v (.bool true)))))⟩]))
    .skip))))
  (.reg [⟨(some 159), none, 0, .see (.mov (.t 19))⟩,
    ⟨(some 160), none, 0, .see (.bin .add (.t 159) (.c (.r (.v (.int .i64 1)))))⟩,
    ⟨(some 19), none, 0, .see (.mov (.t 160))⟩]))))))
  (.seq (.reg [⟨(some 203), none, 0, .see (.mov (.t 5))⟩,
    ⟨(some 204), none, 0, .see (.fa 0 (.t 11))⟩,
    ⟨(some 205), none, 0, .see (.ld none (.t 204))⟩,
    ⟨(some 206), none, 12, .call 19 [(.t 203), (.t 205)]⟩,
    ⟨(some 202), none, 0, .see (.mov (.t 206))⟩,
    ⟨(some 207), none, 0, .see (.ext (.t 202) 0)⟩,
    ⟨(some 208), none, 0, .see (.ext (.t 202) 1)⟩,
    ⟨(some 20), none, 0, .act (.new [(.r (.v (.int .u64 0))), (.r (.v (.int .i64 0))), (.r (.v (.int .i64 0)))])⟩,
    ⟨none, none, 0, .act (.st 3 (.t 20) (.t 207))⟩,
    ⟨(some 21), none, 0, .see (.mov (.t 208))⟩])
  (.seq (.reg [⟨(some 210), none, 0, .see (.mov (.t 5))⟩,
    ⟨(some 211), none, 0, .see (.fa 0 (.t 11))⟩,
    ⟨(some 212), none, 0, .see (.ld none (.t 211))⟩,
    ⟨(some 213), none, 13, .call 21 [(.t 210), (.t 212)]⟩,
    ⟨(some 209), none, 0, .see (.mov (.t 213))⟩,
    ⟨(some 214), none, 0, .see (.ext (.t 209) 0)⟩,
    ⟨(some 215), none, 0, .see (.ext (.t 209) 1)⟩,
    ⟨(some 22), none, 0, .act (.new [(.r (.v (.int .u64 0))), (.r (.v (.int .i64 0))), (.r (.v (.int .i64 0)))])⟩,
    ⟨none, none, 0, .act (.st 3 (.t 22) (.t 214))⟩,
    ⟨(some 23), none, 0, .see (.mov (.t 215))⟩])
  (.seq (.reg [⟨(some 216), none, 0, .see (.mov (.t 5))⟩,
    ⟨(some 217), none, 0, .see (.ld (some 3) (.t 11))⟩,
    ⟨(some 218), none, 0, .see (.ld (some 3) (.t 12))⟩,
    ⟨(some 219), none, 14, .call 16 [(.t 216), (.t 217), (.t 218)]⟩,
    ⟨(some 24), none, 0, .see (.mov (.t 219))⟩])
  (.seq (.seq (.reg [⟨(some 220), none, 0, .see (.mov (.t 21))⟩,
    ⟨(some 221), none, 0, .see (.mov (.t 18))⟩,
    ⟨(some 222), none, 0, .see (.beq true (.t 220) (.t 221))⟩,
    ⟨(some 223), none, 0, .see (.mov (.t 222))⟩,
    ⟨(some 224), (some (223, false)), 0, .see (.mov (.t 23))⟩,
    ⟨(some 225), (some (223, false)), 0, .see (.mov (.t 18))⟩,
    ⟨(some 226), (some (223, false)), 0, .see (.beq true (.t 224) (.t 225))⟩,
    ⟨(some 227), none, 0, .see (.pick (.t 223) (.c (.r (.v (.bool true)))) (.t 226))⟩,
    ⟨(some 228), none, 0, .see (.mov (.t 227))⟩,
    ⟨(some 229), (some (228, false)), 0, .see (.ld (some 3) (.t 20))⟩,
    ⟨(some 230), (some (228, false)), 0, .see (.ld (some 3) (.t 16))⟩,
    ⟨(some 231), (some (228, false)), 0, .see (.eqa true [0, 0, 0] (.t 229) (.t 230))⟩,
    ⟨(some 232), none, 0, .see (.pick (.t 228) (.c (.r (.v (.bool true)))) (.t 231))⟩,
    ⟨(some 233), none, 0, .see (.mov (.t 232))⟩,
    ⟨(some 234), (some (233, false)), 0, .see (.ld (some 3) (.t 22))⟩,
    ⟨(some 235), (some (233, false)), 0, .see (.ld (some 3) (.t 17))⟩,
    ⟨(some 236), (some (233, false)), 0, .see (.eqa true [0, 0, 0] (.t 234) (.t 235))⟩,
    ⟨(some 237), none, 0, .see (.pick (.t 233) (.c (.r (.v (.bool true)))) (.t 236))⟩,
    ⟨(some 238), none, 0, .see (.mov (.t 237))⟩,
    ⟨(some 239), (some (238, false)), 0, .see (.mov (.t 24))⟩,
    ⟨(some 240), (some (238, false)), 0, .see (.len false (.t 239))⟩,
    ⟨(some 241), (some (238, false)), 0, .see (.mov (.t 15))⟩,
    ⟨(some 242), (some (238, false)), 0, .see (.len false (.t 241))⟩,
    ⟨(some 243), (some (238, false)), 0, .see (.bin .neq (.t 240) (.t 242))⟩,
    ⟨(some 244), none, 0, .see (.pick (.t 238) (.c (.r (.v (.bool true)))) (.t 243))⟩])
  (.cond (.t 244)
    (.seq (.reg [⟨(some 4), none, 0, .see (.mov (.c (.r (.v (.bool false)))))⟩])
    .ret)
    .skip))
  (.seq (.reg [⟨(some 25), none, 0, .see (.mov (.c (.r (.v (.int .i64 0)))))⟩])
  (.block 6 (.loop (.seq (.seq (.reg [⟨(some 245), none, 0, .see (.mov (.t 25))⟩,
    ⟨(some 246), none, 0, .see (.mov (.t 15))⟩,
    ⟨(some 247), none, 0, .see (.len false (.t 246))⟩,
    ⟨(some 248), none, 0, .see (.bin .lss (.t 245) (.t 247))⟩])
  (.cond (.t 248)
    .skip
    (.exit 6)))
  (.seq (.block 7 (.seq (.drw [⟨(some 251), none, 0, .see (.mov (.t 24))⟩,
    ⟨(some 252), none, 0, .see (.mov (.t 25))⟩,
    ⟨(some 253), none, 0, .see (.ia 3 (.agg [(.v (.int .u64 0)), (.v (.int .i64 0)), (.v (.int .i64 0))]) (.t 251) (.t 252))⟩,
    ⟨(some 254), none, 0, .see (.ld (some 3) (.t 253))⟩,
    ⟨(some 255), none, 0, .see (.mov (.t 15))⟩,
    ⟨(some 256), none, 0, .see (.mov (.t 25))⟩,
    ⟨(some 257), none, 0, .see (.ia 3 (.agg [(.v (.int .u64 0)), (.v (.int .i64 0)), (.v (.int .i64 0))]) (.t 255) (.t 256))⟩,
    ⟨(some 258), none, 0, .see (.ld (some 3) (.t 257))⟩,
    ⟨(some 259), none, 0, .see (.eqa true [0, 0, 0] (.t 254) (.t 258))⟩]
    [[], [], [0, 1], [0, 1, 2], [], [], [4, 5], [4, 5, 6], [0, 1, 2, 3, 4, 5, 6, 7]])
  (.cond (.t 259)
    (.seq (.reg [⟨(some 4), none, 0, .see (.mov (.c (.r (.v (.bool false)))))⟩])
    .ret)
    .skip)))
  (.reg [⟨(some 249), none, 0, .see (.mov (.t 25))⟩,
    ⟨(some 250), none, 0, .see (.bin .add (.t 249) (.c (.r (.v (.int .i64 1)))))⟩,
    ⟨(some 25), none, 0, .see (.mov (.t 250))⟩])))))))))))))))))
  (.reg [⟨(some 121), none, 0, .see (.mov (.t 10))⟩,
    ⟨(some 122), none, 0, .see (.bin .add (.t 121) (.c (.r (.v (.int .i64 1)))))⟩,
    ⟨(some 10), none, 0, .see (.mov (.t 122))⟩]))))))
  (.seq (.reg [⟨(some 4), none, 0, .see (.mov (.c (.r (.v (.bool true)))))⟩])
  .ret))))))))
noncomputable abbrev apiarylaw17_TreePlays_code : Code := (Go.Proofs.Try.f7.body).getD .skip
theorem apiarylaw17_TreePlays_chk : chkC Go.Proofs.Try.prog 260 apiarylaw17_TreePlays_code apiarylaw17_TreePlays_pc = true := by kernel_rfl
theorem apiarylaw17_TreePlays_triple {args : List AV} {po ro : List Ob} {res : AV} (hal : args.length = 2) (hpo : po.length ≤ 1000)
    (h : run Go.Proofs.Try.prog po.length (RetP po.length [(4, false, none)] fun v os => v = res ∧ os = ro) [.c apiarylaw17_TreePlays_pc] ⟨argE 0 args, ob0 po⟩) : Triple Go.Proofs.Try.prog 7 args po res ro :=
  triple_of_W (fn := Go.Proofs.Try.f7) (c := apiarylaw17_TreePlays_code) (pc := apiarylaw17_TreePlays_pc) (rs := [(4, false, none)]) Go.Proofs.Try.func7 rfl (by decide) (by have := apiarylaw17_TreePlays_chk; exact this) (by rw [hal]; decide) rfl (by kernel_rfl) (by kernel_rfl) (by decide) hpo (W_of_run h)

section
variable {H : Type} {enc : TypeId × Value → H} {w : World} {base : Nat} {spare : Nat → Bool} {held : Bool}
def oc (o : Opk) : List Value := .int .i64 o.kind :: kc o.key
theorem op_cells {n : Nat} {cs : List Value} {x : DataW H × List MemPlace} (h : DataW.trod enc Go.Proofs.Try.prog w base spare held n 45 cs = some x) : ∃ o : Opk, cs = oc o ∧ o.key.Wf := by
  obtain ⟨xs, n', _, _, hl, hxl, hf⟩ := DataW.trod_struct Go.Proofs.Try.underlying45 h
  have hc : Go.Proofs.Try.prog.cellsOf 45 = 4 := by kernel_rfl
  have h1 : Go.Proofs.Try.prog.cellsOf 3 = 1 := by kernel_rfl
  have h2 : Go.Proofs.Try.prog.cellsOf 24 = 3 := by kernel_rfl
  rw [hc] at hl
  match cs, hl with
  | [a, b, c, d], _ =>
    have hxs : ∀ i, i < 2 → ∃ y, xs[i]? = some y := fun i hi => ⟨xs[i]'(by rw [hxl]; exact hi), by simp [show i < xs.length by rw [hxl]; exact hi]⟩
    obtain ⟨y0, e0⟩ := hxs 0 (by omega)
    obtain ⟨y1, e1⟩ := hxs 1 (by omega)
    have g0 : DataW.trod enc Go.Proofs.Try.prog w base spare held n' 3 (([a, b, c, d].drop 0).take (Go.Proofs.Try.prog.cellsOf 3)) = xs[0]? := hf 0 _ rfl
    have g1 : DataW.trod enc Go.Proofs.Try.prog w base spare held n' 24 (([a, b, c, d].drop 1).take (Go.Proofs.Try.prog.cellsOf 24)) = xs[1]? := hf 1 _ rfl
    rw [e0, h1] at g0
    rw [e1, h2] at g1
    obtain ⟨z0, q0, _, w0⟩ := DataW.trod_int Go.Proofs.Try.underlying3 g0
    obtain ⟨k, q1, hk⟩ := key_cells g1
    simp at q0 q1
    subst q0
    refine ⟨⟨z0, k⟩, ?_, hk⟩
    rw [oc, ← q1]
theorem open_ops {r : Reach} {b0 : Nat} {v : Value} {d : DataW H} {p : List MemPlace} (hv : Value.okWide Go.Proofs.Try.prog w r b0 41 v) (h : DataW.Trod enc Go.Proofs.Try.prog w base spare held 41 v d p) : ∃ l : List Opk, Rel0 w (.r (ops l)) v ∧ ∀ o ∈ l, o.key.Wf :=
  open_rows 4 Opk.rv oc (fun o => o.key.Wf) Go.Proofs.Try.underlying41 (by kernel_rfl) (by omega) (fun _ _ _ h => op_cells h) (fun _ => rfl) (fun k j y hj => by
    match j, hj with
    | 0, hj => simp [Opk.rv, RV.cells] at hj; exact ⟨_, hj.symm, rfl, rfl⟩
    | 1, hj => simp [Opk.rv, RV.cells] at hj; exact ⟨_, hj.symm, rfl, rfl⟩
    | 2, hj => simp [Opk.rv, RV.cells] at hj; exact ⟨_, hj.symm, rfl, rfl⟩
    | 3, hj => simp [Opk.rv, RV.cells] at hj; exact ⟨_, hj.symm, rfl, rfl⟩
    | j + 4, hj => simp [Opk.rv, RV.cells] at hj) (okWide_slice Go.Proofs.Try.underlying41 hv) h
end
set_option maxRecDepth 100000 in
set_option maxHeartbeats 2000000 in
theorem treePlays_t (l : List Opk) (asks : List Ky) (hw : ∀ o ∈ l, o.key.Wf) : Triple Go.Proofs.Try.prog 7 [.r (ops l), .r (keys asks)] [] (bl true) [] := by
  refine apiarylaw17_TreePlays_triple rfl (by decide) ?_
  simp only [apiarylaw17_TreePlays_pc, ops, keys, List.length_nil, List.length_map, push_cast, ↓reduceIte, reduceCtorEq, Nat.reduceBEq, Nat.reduceEqDiff, Nat.reduceAdd, Nat.reduceSub, Nat.reduceLT, Nat.reduceLeDiff, Nat.reduceMul]
  refine call_mk new_t rfl trivial ?_
  simp only [List.length_map, push_cast, ↓reduceIte, reduceCtorEq, Nat.reduceBEq, Nat.reduceEqDiff, Nat.reduceAdd, Nat.reduceSub, Nat.reduceLT, Nat.reduceLeDiff, Nat.reduceMul]
  refine call_mk awake_t rfl trivial ?_
  simp only [List.length_map, push_cast, ↓reduceIte, reduceCtorEq, Nat.reduceBEq, Nat.reduceEqDiff, Nat.reduceAdd, Nat.reduceSub, Nat.reduceLT, Nat.reduceLeDiff, Nat.reduceMul]
  refine run_loop [(0, false), (1, false), (5, false), (6, true), (7, false)] (fun vs pos los => ∃ (i : Nat) (N : List (List Ky)), i ≤ l.length ∧ i ≤ 150 ∧ Good N ∧ N.flatten.length ≤ i ∧ (∀ x ∈ N.flatten, x.Wf) ∧
      vs = [.r (ops l), .r (keys asks), .ptr 2000000 0 0, .own 2000001 0 0 N.flatten.length, int .i64 i] ∧ pos = [] ∧ los = [.abs (tr N), .row 3 kz true true (N.flatten.map Ky.rv)])
      (fun vs _ _ => match vs with | [_, _, _, _, .r (.v (.int _ a))] => (l.length - a).toNat | _ => 0) rfl ?_ ?_
  · simp only [ops, keys, kz, push_cast, ↓reduceIte, reduceCtorEq, Nat.reduceBEq, Nat.reduceEqDiff, Nat.reduceAdd, Nat.reduceSub, Nat.reduceLT, Nat.reduceLeDiff, Nat.reduceMul]
    exact ⟨0, [], by omega, by omega, good0, by simp, by simp, by simp⟩
  · have b1 : (false == true) = false := rfl
    have b2 : (true == false) = false := rfl
    have b3 : (true != true) = false := rfl
    have b4 : (false != false) = false := rfl
    rintro vs pos los ⟨i, N, hi, hi2, hG, hN, hwN, rfl, rfl, rfl⟩
    simp only [ops, keys, kz, List.length_map, push_cast, ↓reduceIte, reduceCtorEq, Nat.reduceBEq, Nat.reduceEqDiff, Nat.reduceAdd, Nat.reduceSub, Nat.reduceLT, Nat.reduceLeDiff, Nat.reduceMul]
    refine cnd_mk (fun h1 => ?_) (fun h1 => ?_)
    · have h1' : i < l.length ∧ i < 150 := by simp at h1; omega
      obtain ⟨o, ho⟩ : ∃ o, l[i]? = some o := ⟨l[i]'h1'.1, by simp [h1'.1]⟩
      simp only [ops, keys, kz, List.length_map, ops_get ho, push_cast, ↓reduceIte, reduceCtorEq, Nat.reduceBEq, Nat.reduceEqDiff, Nat.reduceAdd, Nat.reduceSub, Nat.reduceLT, Nat.reduceLeDiff, Nat.reduceMul]
      obtain ⟨r, hr⟩ : ∃ r, plc N.flatten o.key = r := ⟨_, rfl⟩
      have hP : Plc N.flatten o.key r := by rw [← hr]; exact plc_ok hG.so o.key
      have hrl := hP.le
      have hmem := plc_mem hG.so hP
      have hKA := keyAt_t N.flatten o.key r hP (by omega)
      have hi1 : IntKind.i64.wrap ((i : Int) + 1) = (i : Int) + 1 := wrap_id ⟨by omega, by omega⟩
      have hr1 : IntKind.i64.wrap ((r : Int) + 1) = (r : Int) + 1 := wrap_id ⟨by omega, by omega⟩
      have hwo : o.key.Wf := hw o (List.mem_of_getElem? ho)
      refine And.intro ⟨by omega, by omega⟩ (callA_lend ?_)
      simp only [push_cast, ↓reduceIte, reduceCtorEq, Nat.reduceBEq, Nat.reduceEqDiff, Nat.reduceAdd, Nat.reduceSub, Nat.reduceLT, Nat.reduceLeDiff, Nat.reduceMul]
      refine call_lend hKA rfl trivial (by simp [Flat, Flats, FlatR]) (by simp) ?_
      simp only [ops, keys, kz, List.length_map, ops_get ho, push_cast, ↓reduceIte, reduceCtorEq, Nat.reduceBEq, Nat.reduceEqDiff, Nat.reduceAdd, Nat.reduceSub, Nat.reduceLT, Nat.reduceLeDiff, Nat.reduceMul]
      refine And.intro ⟨by omega, by omega⟩ ?_
      refine cnd_mk (fun h2 => ?_) (fun h2 => ?_)
      · have hL := put_law hG (by omega) o.key
        have hf := hL.flag
        have hp := put_t hG (by omega) o.key
        simp only [ops, keys, kz, List.length_map, ops_get ho, push_cast, ↓reduceIte, reduceCtorEq, Nat.reduceBEq, Nat.reduceEqDiff, Nat.reduceAdd, Nat.reduceSub, Nat.reduceLT, Nat.reduceLeDiff, Nat.reduceMul]
        refine And.intro ⟨by omega, by omega⟩ ?_
        by_cases hin : o.key ∈ N.flatten
        · rw [decide_eq_true hin, Bool.not_true] at hf
          rw [hf] at hp
          have hd : decide (N.flatten[r]? = some o.key) = true := decide_eq_true (hmem.2 hin)
          refine call_mk hp rfl ⟨rfl, trivial⟩ ?_
          simp only [hd, hi1, b1, b2, b3, b4, Bool.not_true, Bool.not_false, push_cast, ↓reduceIte, reduceCtorEq, Nat.reduceBEq, Nat.reduceEqDiff, Nat.reduceAdd, Nat.reduceSub, Nat.reduceLT, Nat.reduceLeDiff, Nat.reduceMul]
          have hNe : (putN N o.key).1.flatten = N.flatten := srt_ext hL.good.so hG.so fun x => by
            rw [hL.mem]
            constructor
            · rintro (rfl | q)
              · exact hin
              · exact q
            · exact .inr
          exact ⟨⟨i + 1, (putN N o.key).1, by omega, by omega, hL.good, by rw [hNe]; omega, by rw [hNe]; exact hwN, by rw [hNe]; simp⟩, by omega⟩
        · rw [decide_eq_false hin, Bool.not_false] at hf
          rw [hf] at hp
          have hd : decide (N.flatten[r]? = some o.key) = false := decide_eq_false fun q => hin (hmem.1 q)
          refine call_mk hp rfl ⟨rfl, trivial⟩ ?_
          obtain ⟨W, g, hW, hgd, hset⟩ := row_ins3 N.flatten hrl
          have hNe : N.flatten.take r ++ o.key :: N.flatten.drop r = (putN N o.key).1.flatten := ins_eq hG.so hL.good.so hP hin hL.mem
          simp only [hd, hi1, hr1, b1, b2, b3, b4, hW, hgd, hset, Bool.not_true, Bool.not_false, ops, keys, kz, List.length_map, ops_get ho, push_cast, ↓reduceIte, reduceCtorEq, Nat.reduceBEq, Nat.reduceEqDiff, Nat.reduceAdd, Nat.reduceSub, Nat.reduceLT, Nat.reduceLeDiff, Nat.reduceMul]
          have hlen := hL.len
          rw [hf, Bool.toNat_true] at hlen
          repeat refine And.intro (by first | omega | (simp only [maxLen]; omega) | (simp; done) | (show _ = true; kernel_rfl)) ?_
          refine ⟨⟨i + 1, (putN N o.key).1, by omega, by omega, hL.good, by omega, fun x hx => ?_, by rw [hNe, hlen]; simp⟩, by omega⟩
          rcases (hL.mem x).1 hx with rfl | q
          · exact hwo
          · exact hwN x q
      · have hL := del_law hG (by omega) o.key
        have hf := hL.flag
        have hp := del_t hG (by omega) o.key
        simp only [ops, keys, kz, List.length_map, ops_get ho, push_cast, ↓reduceIte, reduceCtorEq, Nat.reduceBEq, Nat.reduceEqDiff, Nat.reduceAdd, Nat.reduceSub, Nat.reduceLT, Nat.reduceLeDiff, Nat.reduceMul]
        refine And.intro ⟨by omega, by omega⟩ ?_
        by_cases hin : o.key ∈ N.flatten
        · rw [decide_eq_true hin] at hf
          rw [hf] at hp
          have hd : decide (N.flatten[r]? = some o.key) = true := decide_eq_true (hmem.2 hin)
          refine call_mk hp rfl ⟨rfl, trivial⟩ ?_
          have z0 : 0 + Int.toNat 0 = 0 := rfl
          have z1 : ((r : Int) - 0).toNat = r := by omega
          have z2 : 0 + ((r : Int) + 1).toNat = r + 1 := by omega
          have z3 : ((N.flatten.length : Int) - ((r : Int) + 1)).toNat = N.flatten.length - (r + 1) := by omega
          simp only [hd, hi1, hr1, b1, b2, b3, b4, z0, z1, z2, z3, kz, List.length_map, Bool.not_true, Bool.not_false, push_cast, ↓reduceIte, reduceCtorEq, Nat.reduceBEq, Nat.reduceEqDiff, Nat.reduceAdd, Nat.reduceSub, Nat.reduceLT, Nat.reduceLeDiff, Nat.reduceMul]
          have hNe : N.flatten.take r ++ N.flatten.drop (r + 1) = (delN N o.key).1.flatten := del_eq hG.so hL.good.so (hmem.2 hin) hL.mem
          have hlen := hL.len
          rw [hf, Bool.toNat_true] at hlen
          have hrlt := (List.getElem?_eq_some_iff.1 (hmem.2 hin)).1
          have hdr : List.take (N.flatten.length - (r + 1)) (List.drop (r + 1) (List.map Ky.rv N.flatten)) = (N.flatten.drop (r + 1)).map Ky.rv := by
            rw [List.take_of_length_le (by rw [List.length_drop, List.length_map]; exact Nat.le_refl _), List.map_drop]
          have hdl : (N.flatten.drop (r + 1)).length = N.flatten.length - (r + 1) := List.length_drop
          rw [hdr, List.length_map, hdl]
          repeat refine And.intro (by first | omega | (simp only [maxLen]; omega) | (simp; done) | (show _ = true; kernel_rfl)) ?_
          refine ⟨⟨i + 1, (delN N o.key).1, by omega, by omega, hL.good, by omega, fun x hx => hwN x ((hL.mem x).1 hx).2, ?_⟩, by omega⟩
          rw [← hNe, List.map_append, List.map_take, List.length_append, hdl, List.length_take, Nat.min_eq_left (by omega)]
          simp
        · rw [decide_eq_false hin] at hf
          rw [hf] at hp
          have hd : decide (N.flatten[r]? = some o.key) = false := decide_eq_false fun q => hin (hmem.1 q)
          refine call_mk hp rfl ⟨rfl, trivial⟩ ?_
          simp only [hd, hi1, hr1, b1, b2, b3, b4, Bool.not_true, Bool.not_false, push_cast, ↓reduceIte, reduceCtorEq, Nat.reduceBEq, Nat.reduceEqDiff, Nat.reduceAdd, Nat.reduceSub, Nat.reduceLT, Nat.reduceLeDiff, Nat.reduceMul]
          have hNe : (delN N o.key).1.flatten = N.flatten := srt_ext hL.good.so hG.so fun x => by
            rw [hL.mem]
            exact ⟨fun q => q.2, fun q => ⟨fun e => hin (e ▸ q), q⟩⟩
          exact ⟨⟨i + 1, (delN N o.key).1, by omega, by omega, hL.good, by rw [hNe]; omega, by rw [hNe]; exact hwN, by rw [hNe]; simp⟩, by omega⟩
    · obtain ⟨L, hL⟩ : ∃ L, N.flatten = L := ⟨_, rfl⟩
      have hLs : Srt L := by rw [← hL]; exact hG.so
      have hL150 : L.length ≤ 150 := by rw [← hL]; omega
      clear hi hi2
      have rL := lenP N
      rw [hL] at rL
      simp only [ops, keys, kz, List.length_map, hL, push_cast, ↓reduceIte, reduceCtorEq, Nat.reduceBEq, Nat.reduceEqDiff, Nat.reduceAdd, Nat.reduceSub, Nat.reduceLT, Nat.reduceLeDiff, Nat.reduceMul]
      refine call_mk rL rfl ⟨rfl, trivial⟩ ?_
      simp only [ops, keys, kz, List.length_map, bne_self_eq_false, push_cast, ↓reduceIte, reduceCtorEq, Nat.reduceBEq, Nat.reduceEqDiff, Nat.reduceAdd, Nat.reduceSub, Nat.reduceLT, Nat.reduceLeDiff, Nat.reduceMul]
      refine run_loop [(1, false), (5, false), (6, false), (10, false)] (fun vs pos los => ∃ (i : Nat), i ≤ asks.length ∧ i ≤ 30 ∧
        vs = [.r (keys asks), .ptr 2000000 0 0, .own 2000001 0 0 L.length, int .i64 i] ∧ pos = [] ∧ los = [.abs (tr N), .row 3 kz true true (L.map Ky.rv)])
        (fun vs _ _ => match vs with | [_, _, _, .r (.v (.int _ a))] => (asks.length - a).toNat | _ => 0) rfl ?_ ?_
      · simp only [keys, kz, push_cast, ↓reduceIte, reduceCtorEq, Nat.reduceBEq, Nat.reduceEqDiff, Nat.reduceAdd, Nat.reduceSub, Nat.reduceLT, Nat.reduceLeDiff, Nat.reduceMul]
        exact ⟨0, by omega, by omega, by simp⟩
      · clear hN h1 i
        rintro vs pos los ⟨i, hi, hi2, rfl, rfl, rfl⟩
        simp only [keys, kz, List.length_map, push_cast, ↓reduceIte, reduceCtorEq, Nat.reduceBEq, Nat.reduceEqDiff, Nat.reduceAdd, Nat.reduceSub, Nat.reduceLT, Nat.reduceLeDiff, Nat.reduceMul]
        refine cnd_mk (fun h1 => ?_) (fun h1 => ?_)
        · have h1' : i < asks.length ∧ i < 30 := by simp at h1; omega
          obtain ⟨a, ha⟩ : ∃ a, asks[i]? = some a := ⟨asks[i]'h1'.1, by simp [h1'.1]⟩
          obtain ⟨m, hm⟩ : ∃ m, (i + 1) % asks.length = m := ⟨_, rfl⟩
          have hml : m < asks.length := by rw [← hm]; exact Nat.mod_lt _ (by omega)
          obtain ⟨b, hb⟩ : ∃ b, asks[m]? = some b := ⟨asks[m]'hml, by simp [hml]⟩
          have e1 : IntKind.i64.wrap ((i : Int) + 1) = (i : Int) + 1 := wrap_id ⟨by omega, by omega⟩
          have e2 : ((i : Int) + 1).tmod (asks.length : Int) = (m : Int) := by
            rw [show (i : Int) + 1 = ((i + 1 : Nat) : Int) by omega, ← Int.ofNat_tmod, hm]
          obtain ⟨r, hr⟩ : ∃ r, plc L a = r := ⟨_, rfl⟩
          have hP : Plc L a r := by rw [← hr]; exact plc_ok hLs a
          have hmem := plc_mem hLs hP
          have hKA := keyAt_t L a r hP (by omega)
          have hH := hasP hG (by rw [hL]; omega) a
          have hK := rankP hG (by rw [hL]; omega) a
          have hF := firstP hG (by rw [hL]; omega) a.c
          have hLa := lastP hG (by rw [hL]; omega) a.c
          have hR := rangeP hG (by rw [hL]; omega) a b
          rw [firstS_eq hG hwN] at hF
          rw [hL] at hH hK hF hLa hR
          rw [rk_plc hP] at hK
          rw [decide_eq_decide.2 hmem.symm] at hH
          generalize decide (L[r]? = some a) = there at hKA hH
          simp only [keys, kz, List.length_map, keys_get ha, keys_get hb, e1, e2, push_cast, ↓reduceIte, reduceCtorEq, Nat.reduceBEq, Nat.reduceEqDiff, Nat.reduceAdd, Nat.reduceSub, Nat.reduceLT, Nat.reduceLeDiff, Nat.reduceMul]
          repeat refine And.intro (by first | omega | (simp only [maxLen]; omega) | (simp; done) | (show _ = true; kernel_rfl)) ?_
          refine callA_lend ?_
          simp only [push_cast, ↓reduceIte, reduceCtorEq, Nat.reduceBEq, Nat.reduceEqDiff, Nat.reduceAdd, Nat.reduceSub, Nat.reduceLT, Nat.reduceLeDiff, Nat.reduceMul]
          refine call_lend hKA rfl trivial (by simp [Flat, Flats, FlatR]) (by simp) ?_
          simp only [kz, List.length_map, push_cast, ↓reduceIte, reduceCtorEq, Nat.reduceBEq, Nat.reduceEqDiff, Nat.reduceAdd, Nat.reduceSub, Nat.reduceLT, Nat.reduceLeDiff, Nat.reduceMul]
          refine call_mk hH rfl ⟨rfl, trivial⟩ ?_
          simp only [kz, List.length_map, bne_self_eq_false, push_cast, ↓reduceIte, reduceCtorEq, Nat.reduceBEq, Nat.reduceEqDiff, Nat.reduceAdd, Nat.reduceSub, Nat.reduceLT, Nat.reduceLeDiff, Nat.reduceMul]
          refine call_mk hK rfl ⟨rfl, trivial⟩ ?_
          simp only [kz, List.length_map, bne_self_eq_false, push_cast, ↓reduceIte, reduceCtorEq, Nat.reduceBEq, Nat.reduceEqDiff, Nat.reduceAdd, Nat.reduceSub, Nat.reduceLT, Nat.reduceLeDiff, Nat.reduceMul]
          refine run_loop [(1, false), (5, false), (6, false), (10, false), (11, false), (12, false), (15, true), (16, false), (17, false), (18, false), (19, false)] (fun vs pos los => ∃ (j : Nat) (I F : List Ky), j ≤ L.length ∧ I = rng (L.take j) a b ∧ F = cel (L.take j) a.c ∧
            vs = [.r (keys asks), .ptr 2000000 0 0, .own 2000001 0 0 L.length, int .i64 i, .ptr 2000002 0 0, .ptr 2000003 0 0, .own 2000004 0 0 I.length, .ptr 2000005 0 0, .ptr 2000006 0 0, bl (!F.isEmpty), int .i64 j] ∧ pos = [] ∧
            los = [.abs (tr N), .row 3 kz true true (L.map Ky.rv), .box a.cs, .box b.cs, .row 3 kz true true (I.map Ky.rv), .box (lastO F.head?).1.cs, .box (lastO F.getLast?).1.cs])
            (fun vs _ _ => match vs with | [_, _, _, _, _, _, _, _, _, _, .r (.v (.int _ a))] => (L.length - a).toNat | _ => 0) rfl ?_ ?_
          · simp only [keys, kz, Ky.cs, push_cast, ↓reduceIte, reduceCtorEq, Nat.reduceBEq, Nat.reduceEqDiff, Nat.reduceAdd, Nat.reduceSub, Nat.reduceLT, Nat.reduceLeDiff, Nat.reduceMul]
            exact ⟨0, [], [], by omega, by simp [rng], by simp [cel], by simp [lastO]⟩
          · rintro vs pos los ⟨j, I, F, hj, hI, hFl, rfl, rfl, rfl⟩
            simp only [keys, kz, Ky.cs, List.length_map, push_cast, ↓reduceIte, reduceCtorEq, Nat.reduceBEq, Nat.reduceEqDiff, Nat.reduceAdd, Nat.reduceSub, Nat.reduceLT, Nat.reduceLeDiff, Nat.reduceMul]
            refine cnd_mk (fun h2 => ?_) (fun h2 => ?_)
            · have h2' : j < L.length := by simpa using h2
              obtain ⟨x, hx⟩ : ∃ x, L[j]? = some x := ⟨L[j], by simp [h2']⟩
              have ej : IntKind.i64.wrap ((j : Int) + 1) = (j : Int) + 1 := wrap_id ⟨by omega, by omega⟩
              have hIl : I.length ≤ 150 := by
                rw [hI]
                have h5 : (rng (L.take j) a b).length ≤ (L.take j).length := (List.filter_sublist).length_le
                rw [List.length_take] at h5
                omega
              have k1 := keyLess_t x a
              have k2 := keyLess_t b x
              simp only [keys, kz, List.length_map, keys_get0 hx, push_cast, ↓reduceIte, reduceCtorEq, Nat.reduceBEq, Nat.reduceEqDiff, Nat.reduceAdd, Nat.reduceSub, Nat.reduceLT, Nat.reduceLeDiff, Nat.reduceMul]
              refine And.intro ⟨by omega, by omega⟩ ?_
              rcases hxa : kl x a with _ | _
              · rw [hxa] at k1
                refine dcall_mk k1 rfl trivial ?_
                rcases hbx : kl b x with _ | _
                · rw [hbx] at k2
                  simp only [keys, kz, Ky.cs, List.length_map, keys_get0 hx, Bool.not_false, Bool.not_true, push_cast, ↓reduceIte, reduceCtorEq, Nat.reduceBEq, Nat.reduceEqDiff, Nat.reduceAdd, Nat.reduceSub, Nat.reduceLT, Nat.reduceLeDiff, Nat.reduceMul]
                  repeat refine And.intro (by first | omega | (simp only [maxLen]; omega) | (simp; done) | (show _ = true; kernel_rfl)) ?_
                  refine dcall_mk k2 rfl trivial ?_
                  simp only [keys, kz, Ky.cs, List.length_map, keys_get0 hx, Bool.not_false, Bool.not_true, push_cast, ↓reduceIte, reduceCtorEq, Nat.reduceBEq, Nat.reduceEqDiff, Nat.reduceAdd, Nat.reduceSub, Nat.reduceLT, Nat.reduceLeDiff, Nat.reduceMul]
                  repeat refine And.intro (by first | omega | (simp only [maxLen]; omega) | (simp; done) | (show _ = true; kernel_rfl)) ?_
                  refine cnd_mk (fun h6 => ?_) (fun h6 => ?_)
                  · have hc : x.c = a.c := by simpa using h6
                    have hF2 := cel_yes hx hc
                    rw [← hFl] at hF2
                    rcases F with _ | ⟨y, ys⟩
                    · simp only [keys, kz, Ky.cs, List.isEmpty_nil, List.isEmpty_cons, List.length_map, keys_get0 hx, ej, Bool.not_true, Bool.not_false, push_cast, ↓reduceIte, reduceCtorEq, Nat.reduceBEq, Nat.reduceEqDiff, Nat.reduceAdd, Nat.reduceSub, Nat.reduceLT, Nat.reduceLeDiff, Nat.reduceMul]
                      repeat refine And.intro (by first | omega | (simp only [maxLen]; omega) | (simp; done) | (show _ = true; kernel_rfl)) ?_
                      refine ⟨⟨j + 1, I ++ [x], [x], by omega, by rw [rng_yes hx hxa hbx, ← hI], by simpa using hF2.symm, by simp [lastO, Ky.rv]⟩, by omega⟩
                    · simp only [keys, kz, Ky.cs, List.isEmpty_nil, List.isEmpty_cons, List.length_map, keys_get0 hx, ej, Bool.not_true, Bool.not_false, push_cast, ↓reduceIte, reduceCtorEq, Nat.reduceBEq, Nat.reduceEqDiff, Nat.reduceAdd, Nat.reduceSub, Nat.reduceLT, Nat.reduceLeDiff, Nat.reduceMul]
                      repeat refine And.intro (by first | omega | (simp only [maxLen]; omega) | (simp; done) | (show _ = true; kernel_rfl)) ?_
                      refine ⟨⟨j + 1, I ++ [x], (y :: ys) ++ [x], by omega, by rw [rng_yes hx hxa hbx, ← hI], hF2.symm, ?_⟩, by omega⟩
                      rw [List.getLast?_concat]
                      simp [lastO, Ky.rv]
                  · have hc : ¬ x.c = a.c := by simpa using h6
                    have hF2 := cel_no hx hc
                    rw [← hFl] at hF2
                    simp only [keys, kz, Ky.cs, List.length_map, ej, push_cast, ↓reduceIte, reduceCtorEq, Nat.reduceBEq, Nat.reduceEqDiff, Nat.reduceAdd, Nat.reduceSub, Nat.reduceLT, Nat.reduceLeDiff, Nat.reduceMul]
                    repeat refine And.intro (by first | omega | (simp only [maxLen]; omega) | (simp; done) | (show _ = true; kernel_rfl)) ?_
                    refine ⟨⟨j + 1, I ++ [x], F, by omega, by rw [rng_yes hx hxa hbx, ← hI], hF2.symm, by simp [Ky.rv]⟩, by omega⟩
                · rw [hbx] at k2
                  simp only [keys, kz, Ky.cs, List.length_map, keys_get0 hx, Bool.not_false, Bool.not_true, push_cast, ↓reduceIte, reduceCtorEq, Nat.reduceBEq, Nat.reduceEqDiff, Nat.reduceAdd, Nat.reduceSub, Nat.reduceLT, Nat.reduceLeDiff, Nat.reduceMul]
                  repeat refine And.intro (by first | omega | (simp only [maxLen]; omega) | (simp; done) | (show _ = true; kernel_rfl)) ?_
                  refine dcall_mk k2 rfl trivial ?_
                  simp only [keys, kz, Ky.cs, List.length_map, keys_get0 hx, Bool.not_false, Bool.not_true, push_cast, ↓reduceIte, reduceCtorEq, Nat.reduceBEq, Nat.reduceEqDiff, Nat.reduceAdd, Nat.reduceSub, Nat.reduceLT, Nat.reduceLeDiff, Nat.reduceMul]
                  repeat refine And.intro (by first | omega | (simp only [maxLen]; omega) | (simp; done) | (show _ = true; kernel_rfl)) ?_
                  refine cnd_mk (fun h6 => ?_) (fun h6 => ?_)
                  · have hc : x.c = a.c := by simpa using h6
                    have hF2 := cel_yes hx hc
                    rw [← hFl] at hF2
                    rcases F with _ | ⟨y, ys⟩
                    · simp only [keys, kz, Ky.cs, List.isEmpty_nil, List.isEmpty_cons, List.length_map, keys_get0 hx, ej, Bool.not_true, Bool.not_false, push_cast, ↓reduceIte, reduceCtorEq, Nat.reduceBEq, Nat.reduceEqDiff, Nat.reduceAdd, Nat.reduceSub, Nat.reduceLT, Nat.reduceLeDiff, Nat.reduceMul]
                      repeat refine And.intro (by first | omega | (simp only [maxLen]; omega) | (simp; done) | (show _ = true; kernel_rfl)) ?_
                      refine ⟨⟨j + 1, I, [x], by omega, by rw [rng_no2 hx hbx, ← hI], by simpa using hF2.symm, by simp [lastO, Ky.rv]⟩, by omega⟩
                    · simp only [keys, kz, Ky.cs, List.isEmpty_nil, List.isEmpty_cons, List.length_map, keys_get0 hx, ej, Bool.not_true, Bool.not_false, push_cast, ↓reduceIte, reduceCtorEq, Nat.reduceBEq, Nat.reduceEqDiff, Nat.reduceAdd, Nat.reduceSub, Nat.reduceLT, Nat.reduceLeDiff, Nat.reduceMul]
                      repeat refine And.intro (by first | omega | (simp only [maxLen]; omega) | (simp; done) | (show _ = true; kernel_rfl)) ?_
                      refine ⟨⟨j + 1, I, (y :: ys) ++ [x], by omega, by rw [rng_no2 hx hbx, ← hI], hF2.symm, ?_⟩, by omega⟩
                      rw [List.getLast?_concat]
                      simp [lastO, Ky.rv]
                  · have hc : ¬ x.c = a.c := by simpa using h6
                    have hF2 := cel_no hx hc
                    rw [← hFl] at hF2
                    simp only [keys, kz, Ky.cs, List.length_map, ej, push_cast, ↓reduceIte, reduceCtorEq, Nat.reduceBEq, Nat.reduceEqDiff, Nat.reduceAdd, Nat.reduceSub, Nat.reduceLT, Nat.reduceLeDiff, Nat.reduceMul]
                    repeat refine And.intro (by first | omega | (simp only [maxLen]; omega) | (simp; done) | (show _ = true; kernel_rfl)) ?_
                    refine ⟨⟨j + 1, I, F, by omega, by rw [rng_no2 hx hbx, ← hI], hF2.symm, by simp [Ky.rv]⟩, by omega⟩
              · rw [hxa] at k1
                refine dcall_mk k1 rfl trivial ?_
                simp only [keys, kz, Ky.cs, List.length_map, keys_get0 hx, Bool.not_false, Bool.not_true, push_cast, ↓reduceIte, reduceCtorEq, Nat.reduceBEq, Nat.reduceEqDiff, Nat.reduceAdd, Nat.reduceSub, Nat.reduceLT, Nat.reduceLeDiff, Nat.reduceMul]
                repeat refine And.intro (by first | omega | (simp only [maxLen]; omega) | (simp; done) | (show _ = true; kernel_rfl)) ?_
                refine cnd_mk (fun h6 => ?_) (fun h6 => ?_)
                · have hc : x.c = a.c := by simpa using h6
                  have hF2 := cel_yes hx hc
                  rw [← hFl] at hF2
                  rcases F with _ | ⟨y, ys⟩
                  · simp only [keys, kz, Ky.cs, List.isEmpty_nil, List.isEmpty_cons, List.length_map, keys_get0 hx, ej, Bool.not_true, Bool.not_false, push_cast, ↓reduceIte, reduceCtorEq, Nat.reduceBEq, Nat.reduceEqDiff, Nat.reduceAdd, Nat.reduceSub, Nat.reduceLT, Nat.reduceLeDiff, Nat.reduceMul]
                    repeat refine And.intro (by first | omega | (simp only [maxLen]; omega) | (simp; done) | (show _ = true; kernel_rfl)) ?_
                    refine ⟨⟨j + 1, I, [x], by omega, by rw [rng_no1 hx hxa, ← hI], by simpa using hF2.symm, by simp [lastO, Ky.rv]⟩, by omega⟩
                  · simp only [keys, kz, Ky.cs, List.isEmpty_nil, List.isEmpty_cons, List.length_map, keys_get0 hx, ej, Bool.not_true, Bool.not_false, push_cast, ↓reduceIte, reduceCtorEq, Nat.reduceBEq, Nat.reduceEqDiff, Nat.reduceAdd, Nat.reduceSub, Nat.reduceLT, Nat.reduceLeDiff, Nat.reduceMul]
                    repeat refine And.intro (by first | omega | (simp only [maxLen]; omega) | (simp; done) | (show _ = true; kernel_rfl)) ?_
                    refine ⟨⟨j + 1, I, (y :: ys) ++ [x], by omega, by rw [rng_no1 hx hxa, ← hI], hF2.symm, ?_⟩, by omega⟩
                    rw [List.getLast?_concat]
                    simp [lastO, Ky.rv]
                · have hc : ¬ x.c = a.c := by simpa using h6
                  have hF2 := cel_no hx hc
                  rw [← hFl] at hF2
                  simp only [keys, kz, Ky.cs, List.length_map, ej, push_cast, ↓reduceIte, reduceCtorEq, Nat.reduceBEq, Nat.reduceEqDiff, Nat.reduceAdd, Nat.reduceSub, Nat.reduceLT, Nat.reduceLeDiff, Nat.reduceMul]
                  repeat refine And.intro (by first | omega | (simp only [maxLen]; omega) | (simp; done) | (show _ = true; kernel_rfl)) ?_
                  refine ⟨⟨j + 1, I, F, by omega, by rw [rng_no1 hx hxa, ← hI], hF2.symm, by simp [Ky.rv]⟩, by omega⟩
            · have h2' : j = L.length := by simp at h2; omega
              subst h2'
              rw [List.take_of_length_le (Nat.le_refl _)] at hI hFl
              rw [← hI] at hR
              change Triple _ _ _ _ (.tup [(lastO (cel L a.c).head?).1.av, bl (lastO (cel L a.c).head?).2]) _ at hF
              change Triple _ _ _ _ (.tup [(lastO (cel L a.c).getLast?).1.av, bl (lastO (cel L a.c).getLast?).2]) _ at hLa
              rw [← hFl] at hF hLa
              have hIl : I.length ≤ 150 := by
                rw [hI]
                have h5 : (rng L a b).length ≤ L.length := (List.filter_sublist).length_le
                omega
              have hany : (lastO F.head?).2 = !F.isEmpty := by cases F <;> rfl
              have hany2 : (lastO F.getLast?).2 = !F.isEmpty := by
                rcases List.eq_nil_or_concat F with rfl | ⟨F', y, rfl⟩
                · rfl
                · rw [List.concat_eq_append, List.getLast?_concat]
                  cases F' <;> rfl
              rw [hany] at hF
              rw [hany2] at hLa
              generalize (!F.isEmpty) = any at *
              generalize (lastO F.head?).1 = f at *
              generalize (lastO F.getLast?).1 = g at *
              simp only [keys, kz, Ky.cs, List.length_map, push_cast, ↓reduceIte, reduceCtorEq, Nat.reduceBEq, Nat.reduceEqDiff, Nat.reduceAdd, Nat.reduceSub, Nat.reduceLT, Nat.reduceLeDiff, Nat.reduceMul]
              refine call_mk hF rfl ⟨rfl, trivial⟩ ?_
              simp only [keys, kz, Ky.cs, Ky.av, Ky.rv, List.length_map, push_cast, ↓reduceIte, reduceCtorEq, Nat.reduceBEq, Nat.reduceEqDiff, Nat.reduceAdd, Nat.reduceSub, Nat.reduceLT, Nat.reduceLeDiff, Nat.reduceMul]
              refine call_mk hLa rfl ⟨rfl, trivial⟩ ?_
              simp only [keys, kz, Ky.cs, Ky.av, Ky.rv, List.length_map, push_cast, ↓reduceIte, reduceCtorEq, Nat.reduceBEq, Nat.reduceEqDiff, Nat.reduceAdd, Nat.reduceSub, Nat.reduceLT, Nat.reduceLeDiff, Nat.reduceMul]
              refine call_mk hR rfl ⟨rfl, trivial⟩ ?_
              simp only [keys, kz, Ky.cs, Ky.av, Ky.rv, List.length_map, bne_self_eq_false, beq_self_eq_true, Bool.and_self, Bool.not_true, push_cast, ↓reduceIte, reduceCtorEq, Nat.reduceBEq, Nat.reduceEqDiff, Nat.reduceAdd, Nat.reduceSub, Nat.reduceLT, Nat.reduceLeDiff, Nat.reduceMul]
              refine run_loop [(1, false), (5, false), (6, false), (10, false), (15, false), (24, false), (25, false)] (fun vs pos los => ∃ (j : Nat), j ≤ I.length ∧
                vs = [.r (keys asks), .ptr 2000000 0 0, .own 2000001 0 0 L.length, int .i64 i, .own 2000002 0 0 I.length, .own 2000003 0 0 I.length, int .i64 j] ∧ pos = [] ∧
                los = [.abs (tr N), .row 3 kz true true (L.map Ky.rv), .row 3 kz true true (I.map Ky.rv), .row 3 kz true true (I.map Ky.rv)])
                (fun vs _ _ => match vs with | [_, _, _, _, _, _, .r (.v (.int _ a))] => (I.length - a).toNat | _ => 0) rfl ?_ ?_
              · simp only [keys, kz, Ky.cs, push_cast, ↓reduceIte, reduceCtorEq, Nat.reduceBEq, Nat.reduceEqDiff, Nat.reduceAdd, Nat.reduceSub, Nat.reduceLT, Nat.reduceLeDiff, Nat.reduceMul]
                exact ⟨0, by omega, by simp⟩
              · rintro vs pos los ⟨j, hj, rfl, rfl, rfl⟩
                simp only [keys, kz, Ky.cs, List.length_map, push_cast, ↓reduceIte, reduceCtorEq, Nat.reduceBEq, Nat.reduceEqDiff, Nat.reduceAdd, Nat.reduceSub, Nat.reduceLT, Nat.reduceLeDiff, Nat.reduceMul]
                refine cnd_mk (fun h3 => ?_) (fun h3 => ?_)
                · have h3' : j < I.length := by simpa using h3
                  obtain ⟨x, hx⟩ : ∃ x, I[j]? = some x := ⟨I[j], by simp [h3']⟩
                  have ej : IntKind.i64.wrap ((j : Int) + 1) = (j : Int) + 1 := wrap_id ⟨by omega, by omega⟩
                  simp only [keys, kz, Ky.cs, List.length_map, keys_get0 hx, ej, bne_self_eq_false, beq_self_eq_true, Bool.and_self, Bool.not_true, push_cast, ↓reduceIte, reduceCtorEq, Nat.reduceBEq, Nat.reduceEqDiff, Nat.reduceAdd, Nat.reduceSub, Nat.reduceLT, Nat.reduceLeDiff, Nat.reduceMul]
                  repeat refine And.intro (by first | omega | (simp only [maxLen]; omega) | (simp; done) | (show _ = true; kernel_rfl)) ?_
                  exact ⟨⟨j + 1, by omega, by simp⟩, by omega⟩
                · simp only [keys, kz, Ky.cs, List.length_map, e1, push_cast, ↓reduceIte, reduceCtorEq, Nat.reduceBEq, Nat.reduceEqDiff, Nat.reduceAdd, Nat.reduceSub, Nat.reduceLT, Nat.reduceLeDiff, Nat.reduceMul]
                  exact ⟨⟨i + 1, by omega, by omega, by simp⟩, by omega⟩
        · simp only [push_cast, ↓reduceIte, reduceCtorEq, Nat.reduceBEq, Nat.reduceEqDiff, Nat.reduceAdd, Nat.reduceSub, Nat.reduceLT, Nat.reduceLeDiff, Nat.reduceMul]
end Go.Ev
