import Derived.Test.YtjpejkfhkbaakaaViewC
namespace Go.Ev
open Go
set_option linter.unnecessarySimpa false
set_option linter.unusedSimpArgs false
set_option linter.unusedVariables false
noncomputable def apiaryref9_Touches_pc : PC :=
  (.seq (.reg [⟨(some 3), none, 0, .act (.box (.t 0))⟩,
    ⟨(some 4), none, 0, .act (.box (.t 1))⟩,
    ⟨(some 5), none, 0, .act (.box (.t 2))⟩,
    ⟨(some 6), none, 0, .see (.mov (.c (.r (.v (.bool false)))))⟩])
  (.seq (.seq (.reg [⟨(some 20), none, 0, .see (.ld (some 3) (.t 3))⟩,
    ⟨(some 21), none, 1, .call 47 [(.t 20)]⟩,
    ⟨(some 22), none, 0, .see (.un .not (.t 21))⟩,
    ⟨(some 23), none, 0, .see (.mov (.t 22))⟩,
    ⟨(some 24), (some (23, false)), 0, .see (.iaa 2 1 (.t 4) (.c (.r (.v (.int .i64 0)))))⟩,
    ⟨(some 25), (some (23, false)), 0, .see (.ld none (.t 24))⟩,
    ⟨(some 26), (some (23, false)), 0, .see (.iaa 2 1 (.t 4) (.c (.r (.v (.int .i64 1)))))⟩,
    ⟨(some 27), (some (23, false)), 0, .see (.ld none (.t 26))⟩,
    ⟨(some 28), (some (23, false)), 2, .call 53 [(.t 25), (.t 27)]⟩,
    ⟨(some 29), none, 0, .see (.pick (.t 23) (.c (.r (.v (.bool true)))) (.t 28))⟩,
    ⟨(some 30), none, 0, .see (.mov (.t 29))⟩,
    ⟨(some 31), (some (30, false)), 0, .see (.iaa 2 1 (.t 5) (.c (.r (.v (.int .i64 0)))))⟩,
    ⟨(some 32), (some (30, false)), 0, .see (.ld none (.t 31))⟩,
    ⟨(some 33), (some (30, false)), 0, .see (.iaa 2 1 (.t 5) (.c (.r (.v (.int .i64 1)))))⟩,
    ⟨(some 34), (some (30, false)), 0, .see (.ld none (.t 33))⟩,
    ⟨(some 35), (some (30, false)), 3, .call 53 [(.t 32), (.t 34)]⟩,
    ⟨(some 36), none, 0, .see (.pick (.t 30) (.c (.r (.v (.bool true)))) (.t 35))⟩,
    ⟨(some 37), none, 0, .see (.mov (.t 36))⟩,
    ⟨(some 38), (some (37, false)), 0, .see (.iaa 2 1 (.t 5) (.c (.r (.v (.int .i64 0)))))⟩,
    ⟨(some 39), (some (37, false)), 0, .see (.ld none (.t 38))⟩,
    ⟨(some 40), (some (37, false)), 0, .see (.iaa 2 1 (.t 4) (.c (.r (.v (.int .i64 0)))))⟩,
    ⟨(some 41), (some (37, false)), 0, .see (.ld none (.t 40))⟩,
    ⟨(some 42), (some (37, false)), 0, .see (.bin .lss (.t 39) (.t 41))⟩,
    ⟨(some 43), none, 0, .see (.pick (.t 37) (.c (.r (.v (.bool true)))) (.t 42))⟩,
    ⟨(some 44), none, 0, .see (.mov (.t 43))⟩,
    ⟨(some 45), (some (44, false)), 0, .see (.iaa 2 1 (.t 5) (.c (.r (.v (.int .i64 1)))))⟩,
    ⟨(some 46), (some (44, false)), 0, .see (.ld none (.t 45))⟩,
    ⟨(some 47), (some (44, false)), 0, .see (.iaa 2 1 (.t 4) (.c (.r (.v (.int .i64 1)))))⟩,
    ⟨(some 48), (some (44, false)), 0, .see (.ld none (.t 47))⟩,
    ⟨(some 49), (some (44, false)), 0, .see (.bin .lss (.t 46) (.t 48))⟩,
    ⟨(some 50), none, 0, .see (.pick (.t 44) (.c (.r (.v (.bool true)))) (.t 49))⟩])
  (.cond (.t 50)
    (.seq (.reg [⟨(some 6), none, 0, .see (.mov (.c (.r (.v (.bool false)))))⟩])
    .ret)
    .skip))
  (.seq (.reg [⟨(some 51), none, 0, .see (.fa 1 (.t 3))⟩,
    ⟨(some 52), none, 0, .see (.ld (some 2) (.t 51))⟩,
    ⟨(some 53), none, 0, .see (.fa 0 (.t 3))⟩,
    ⟨(some 54), none, 0, .see (.ld none (.t 53))⟩,
    ⟨(some 55), none, 4, .call 13 [(.t 52), (.t 54)]⟩,
    ⟨(some 7), none, 0, .see (.mov (.t 55))⟩])
  (.seq (.reg [⟨(some 56), none, 0, .see (.iaa 2 1 (.t 4) (.c (.r (.v (.int .i64 0)))))⟩,
    ⟨(some 57), none, 0, .see (.ld none (.t 56))⟩,
    ⟨(some 58), none, 0, .see (.bin .mul (.c (.r (.v (.int .i64 3)))) (.t 57))⟩,
    ⟨(some 59), none, 0, .see (.iaa 2 1 (.t 4) (.c (.r (.v (.int .i64 1)))))⟩,
    ⟨(some 60), none, 0, .see (.ld none (.t 59))⟩,
    ⟨(some 61), none, 0, .see (.bin .mul (.c (.r (.v (.int .i64 3)))) (.t 60))⟩,
    ⟨(some 62), none, 0, .see (.build [(.r (.v (.int .i64 0))), (.r (.v (.int .i64 0)))] [(0, 1, (.t 58)), (1, 1, (.t 61))])⟩,
    ⟨(some 63), none, 0, .see (.iaa 2 1 (.t 5) (.c (.r (.v (.int .i64 0)))))⟩,
    ⟨(some 64), none, 0, .see (.ld none (.t 63))⟩,
    ⟨(some 65), none, 0, .see (.bin .mul (.c (.r (.v (.int .i64 3)))) (.t 64))⟩,
    ⟨(some 66), none, 0, .see (.iaa 2 1 (.t 4) (.c (.r (.v (.int .i64 1)))))⟩,
    ⟨(some 67), none, 0, .see (.ld none (.t 66))⟩,
    ⟨(some 68), none, 0, .see (.bin .mul (.c (.r (.v (.int .i64 3)))) (.t 67))⟩,
    ⟨(some 69), none, 0, .see (.build [(.r (.v (.int .i64 0))), (.r (.v (.int .i64 0)))] [(0, 1, (.t 65)), (1, 1, (.t 68))])⟩,
    ⟨(some 70), none, 0, .see (.iaa 2 1 (.t 5) (.c (.r (.v (.int .i64 0)))))⟩,
    ⟨(some 71), none, 0, .see (.ld none (.t 70))⟩,
    ⟨(some 72), none, 0, .see (.bin .mul (.c (.r (.v (.int .i64 3)))) (.t 71))⟩,
    ⟨(some 73), none, 0, .see (.iaa 2 1 (.t 5) (.c (.r (.v (.int .i64 1)))))⟩,
    ⟨(some 74), none, 0, .see (.ld none (.t 73))⟩,
    ⟨(some 75), none, 0, .see (.bin .mul (.c (.r (.v (.int .i64 3)))) (.t 74))⟩,
    ⟨(some 76), none, 0, .see (.build [(.r (.v (.int .i64 0))), (.r (.v (.int .i64 0)))] [(0, 1, (.t 72)), (1, 1, (.t 75))])⟩,
    ⟨(some 77), none, 0, .see (.iaa 2 1 (.t 4) (.c (.r (.v (.int .i64 0)))))⟩,
    ⟨(some 78), none, 0, .see (.ld none (.t 77))⟩,
    ⟨(some 79), none, 0, .see (.bin .mul (.c (.r (.v (.int .i64 3)))) (.t 78))⟩,
    ⟨(some 80), none, 0, .see (.iaa 2 1 (.t 5) (.c (.r (.v (.int .i64 1)))))⟩,
    ⟨(some 81), none, 0, .see (.ld none (.t 80))⟩,
    ⟨(some 82), none, 0, .see (.bin .mul (.c (.r (.v (.int .i64 3)))) (.t 81))⟩,
    ⟨(some 83), none, 0, .see (.build [(.r (.v (.int .i64 0))), (.r (.v (.int .i64 0)))] [(0, 1, (.t 79)), (1, 1, (.t 82))])⟩,
    ⟨(some 84), none, 0, .see (.build [(.r (.v (.int .i64 0))), (.r (.v (.int .i64 0))), (.r (.v (.int .i64 0))), (.r (.v (.int .i64 0))), (.r (.v (.int .i64 0))), (.r (.v (.int .i64 0))), (.r (.v (.int .i64 0))), (.r (.v (.int .i64 0)))] [(0, 2, (.t 62)), (2, 2, (.t 69)), (4, 2, (.t 76)), (6, 2, (.t 83))])⟩,
    ⟨(some 8), none, 0, .act (.new [(.r (.v (.int .i64 0))), (.r (.v (.int .i64 0))), (.r (.v (.int .i64 0))), (.r (.v (.int .i64 0))), (.r (.v (.int .i64 0))), (.r (.v (.int .i64 0))), (.r (.v (.int .i64 0))), (.r (.v (.int .i64 0)))])⟩,
    ⟨none, none, 0, .act (.st 8 (.t 8) (.t 84))⟩])
  (.seq (.seq (.reg [⟨(some 9), none, 0, .see (.mov (.c (.r (.v (.int .i64 0)))))⟩])
  (.block 0 (.loop (.seq (.seq (.reg [⟨(some 85), none, 0, .see (.mov (.t 9))⟩,
    ⟨(some 86), none, 0, .see (.bin .lss (.t 85) (.c (.r (.v (.int .i64 2)))))⟩])
  (.cond (.t 86)
    .skip
    (.exit 0)))
  (.seq (.block 1 (.seq (.drw [⟨(some 89), none, 0, .see (.mov (.t 7))⟩,
    ⟨(some 90), none, 0, .see (.mov (.t 9))⟩,
    ⟨(some 91), none, 0, .see (.ia 2 (.agg [(.v (.int .i64 0)), (.v (.int .i64 0))]) (.t 89) (.c (.r (.v (.int .i64 0)))))⟩,
    ⟨(some 92), none, 0, .see (.iaa 2 1 (.t 91) (.t 90))⟩,
    ⟨(some 93), none, 0, .see (.ld none (.t 92))⟩,
    ⟨(some 94), none, 0, .see (.mov (.t 7))⟩,
    ⟨(some 95), none, 0, .see (.mov (.t 9))⟩,
    ⟨(some 96), none, 0, .see (.ia 2 (.agg [(.v (.int .i64 0)), (.v (.int .i64 0))]) (.t 94) (.c (.r (.v (.int .i64 0)))))⟩,
    ⟨(some 97), none, 0, .see (.iaa 2 1 (.t 96) (.t 95))⟩,
    ⟨(some 98), none, 0, .see (.ld none (.t 97))⟩,
    ⟨(some 10), none, 0, .see (.mov (.t 93))⟩,
    ⟨(some 11), none, 0, .see (.mov (.t 98))⟩]
    [[], [], [0], [0, 1, 2], [0, 1, 2, 3], [], [], [5], [5, 6, 7], [5, 6, 7, 8], [0, 1, 2, 3, 4], [0, 1, 2, 3, 4, 5, 6, 7, 8, 9, 10]])
  (.seq (.seq (.reg [⟨(some 12), none, 0, .see (.mov (.c (.r (.v (.int .i64 0)))))⟩])
  (.block 2 (.loop (.seq (.seq (.reg [⟨(some 99), none, 0, .see (.mov (.t 12))⟩,
    ⟨(some 100), none, 0, .see (.bin .lss (.t 99) (.c (.r (.v (.int .i64 6)))))⟩])
  (.cond (.t 100)
    .skip
    (.exit 2)))
  (.seq (.block 3 (.drw [⟨(some 103), none, 0, .see (.mov (.t 10))⟩,
    ⟨(some 104), none, 0, .see (.mov (.t 7))⟩,
    ⟨(some 105), none, 0, .see (.mov (.t 12))⟩,
    ⟨(some 106), none, 0, .see (.mov (.t 9))⟩,
    ⟨(some 107), none, 0, .see (.ia 2 (.agg [(.v (.int .i64 0)), (.v (.int .i64 0))]) (.t 104) (.t 105))⟩,
    ⟨(some 108), none, 0, .see (.iaa 2 1 (.t 107) (.t 106))⟩,
    ⟨(some 109), none, 0, .see (.ld none (.t 108))⟩,
    ⟨(some 110), none, 0, .see (.mm false (.t 103) [(.t 109)])⟩,
    ⟨(some 111), none, 0, .see (.mov (.t 11))⟩,
    ⟨(some 112), none, 0, .see (.mov (.t 7))⟩,
    ⟨(some 113), none, 0, .see (.mov (.t 12))⟩,
    ⟨(some 114), none, 0, .see (.mov (.t 9))⟩,
    ⟨(some 115), none, 0, .see (.ia 2 (.agg [(.v (.int .i64 0)), (.v (.int .i64 0))]) (.t 112) (.t 113))⟩,
    ⟨(some 116), none, 0, .see (.iaa 2 1 (.t 115) (.t 114))⟩,
    ⟨(some 117), none, 0, .see (.ld none (.t 116))⟩,
    ⟨(some 118), none, 0, .see (.mm true (.t 111) [(.t 117)])⟩,
    ⟨(some 10), none, 0, .see (.mov (.t 110))⟩,
    ⟨(some 11), none, 0, .see (.mov (.t 118))⟩]
    [[], [], [], [], [1, 2], [1, 2, 3, 4], [1, 2, 3, 4, 5], [0, 1, 2, 3, 4, 5, 6], [], [], [], [], [9, 10], [9, 10, 11, 12], [9, 10, 11, 12, 13], [8, 9, 10, 11, 12, 13, 14], [0, 1, 2, 3, 4, 5, 6, 7], [0, 1, 2, 3, 4, 5, 6, 7, 8, 9, 10, 11, 12, 13, 14, 15, 16]]))
  (.reg [⟨(some 101), none, 0, .see (.mov (.t 12))⟩,
    ⟨(some 102), none, 0, .see (.bin .add (.t 101) (.c (.r (.v (.int .i64 1)))))⟩,
    ⟨(some 12), none, 0, .see (.mov (.t 102))⟩]))))))
  (.seq (.reg [⟨(some 119), none, 0, .see (.mov (.t 11))⟩,
    ⟨(some 120), none, 0, .see (.mov (.t 9))⟩,
    ⟨(some 121), none, 0, .see (.iaa 2 1 (.t 4) (.t 120))⟩,
    ⟨(some 122), none, 0, .see (.ld none (.t 121))⟩,
    ⟨(some 123), none, 0, .see (.bin .mul (.c (.r (.v (.int .i64 3)))) (.t 122))⟩,
    ⟨(some 124), none, 0, .see (.bin .lss (.t 119) (.t 123))⟩,
    ⟨(some 125), none, 0, .see (.mov (.t 124))⟩,
    ⟨(some 126), (some (125, false)), 0, .see (.mov (.t 10))⟩,
    ⟨(some 127), (some (125, false)), 0, .see (.mov (.t 9))⟩,
    ⟨(some 128), (some (125, false)), 0, .see (.iaa 2 1 (.t 5) (.t 127))⟩,
    ⟨(some 129), (some (125, false)), 0, .see (.ld none (.t 128))⟩,
    ⟨(some 130), (some (125, false)), 0, .see (.bin .mul (.c (.r (.v (.int .i64 3)))) (.t 129))⟩,
    ⟨(some 131), (some (125, false)), 0, .see (.bin .gtr (.t 126) (.t 130))⟩,
    ⟨(some 132), none, 0, .see (.pick (.t 125) (.c (.r (.v (.bool true)))) (.t 131))⟩])
  (.cond (.t 132)
    (.seq (.reg [⟨(some 6), none, 0, .see (.mov (.c (.r (.v (.bool false)))))⟩])
    .ret)
    .skip)))))
  (.reg [⟨(some 87), none, 0, .see (.mov (.t 9))⟩,
    ⟨(some 88), none, 0, .see (.bin .add (.t 87) (.c (.r (.v (.int .i64 1)))))⟩,
    ⟨(some 9), none, 0, .see (.mov (.t 88))⟩]))))))
  (.seq (.seq (.reg [⟨(some 13), none, 0, .see (.mov (.c (.r (.v (.int .i64 0)))))⟩])
  (.block 4 (.loop (.seq (.seq (.reg [⟨(some 133), none, 0, .see (.mov (.t 13))⟩,
    ⟨(some 134), none, 0, .see (.bin .lss (.t 133) (.c (.r (.v (.int .i64 6)))))⟩])
  (.cond (.t 134)
    .skip
    (.exit 4)))
  (.seq (.block 5 (.seq (.drw [⟨(some 137), none, 0, .see (.mov (.t 7))⟩,
    ⟨(some 138), none, 0, .see (.mov (.t 13))⟩,
    ⟨(some 139), none, 0, .see (.ia 2 (.agg [(.v (.int .i64 0)), (.v (.int .i64 0))]) (.t 137) (.t 138))⟩,
    ⟨(some 140), none, 0, .see (.ld (some 2) (.t 139))⟩,
    ⟨(some 141), none, 0, .see (.mov (.t 7))⟩,
    ⟨(some 142), none, 0, .see (.mov (.t 13))⟩,
    ⟨(some 143), none, 0, .see (.bin .add (.t 142) (.c (.r (.v (.int .i64 1)))))⟩,
    ⟨(some 144), none, 0, .see (.bin .rem (.t 143) (.c (.r (.v (.int .i64 6)))))⟩,
    ⟨(some 145), none, 0, .see (.ia 2 (.agg [(.v (.int .i64 0)), (.v (.int .i64 0))]) (.t 141) (.t 144))⟩,
    ⟨(some 146), none, 0, .see (.ld (some 2) (.t 145))⟩,
    ⟨(some 14), none, 0, .act (.new [(.r (.v (.int .i64 0))), (.r (.v (.int .i64 0)))])⟩,
    ⟨(some 15), none, 0, .act (.new [(.r (.v (.int .i64 0))), (.r (.v (.int .i64 0)))])⟩,
    ⟨none, none, 0, .act (.st 2 (.t 14) (.t 140))⟩,
    ⟨none, none, 0, .act (.st 2 (.t 15) (.t 146))⟩]
    [[], [], [0, 1], [0, 1, 2], [], [], [5], [5, 6], [4, 5, 6, 7], [4, 5, 6, 7, 8], [], [], [0, 1, 2, 3, 10, 11], [0, 1, 2, 3, 4, 5, 6, 7, 8, 9, 10, 11, 12]])
  (.seq (.drw [⟨(some 147), none, 0, .see (.ld (some 2) (.t 14))⟩,
    ⟨(some 148), none, 0, .see (.ld (some 2) (.t 15))⟩,
    ⟨(some 149), none, 0, .see (.mov (.t 7))⟩,
    ⟨(some 150), none, 0, .see (.mov (.t 13))⟩,
    ⟨(some 151), none, 0, .see (.bin .add (.t 150) (.c (.r (.v (.int .i64 3)))))⟩,
    ⟨(some 152), none, 0, .see (.bin .rem (.t 151) (.c (.r (.v (.int .i64 6)))))⟩,
    ⟨(some 153), none, 0, .see (.ia 2 (.agg [(.v (.int .i64 0)), (.v (.int .i64 0))]) (.t 149) (.t 152))⟩,
    ⟨(some 154), none, 0, .see (.iaa 2 1 (.t 153) (.c (.r (.v (.int .i64 0)))))⟩,
    ⟨(some 155), none, 0, .see (.ld none (.t 154))⟩,
    ⟨(some 156), none, 0, .see (.mov (.t 7))⟩,
    ⟨(some 157), none, 0, .see (.mov (.t 13))⟩,
    ⟨(some 158), none, 0, .see (.bin .add (.t 157) (.c (.r (.v (.int .i64 3)))))⟩,
    ⟨(some 159), none, 0, .see (.bin .rem (.t 158) (.c (.r (.v (.int .i64 6)))))⟩,
    ⟨(some 160), none, 0, .see (.ia 2 (.agg [(.v (.int .i64 0)), (.v (.int .i64 0))]) (.t 156) (.t 159))⟩,
    ⟨(some 161), none, 0, .see (.iaa 2 1 (.t 160) (.c (.r (.v (.int .i64 1)))))⟩,
    ⟨(some 162), none, 0, .see (.ld none (.t 161))⟩,
    ⟨(some 163), none, 5, .call 54 [(.t 147), (.t 148), (.t 155), (.t 162)]⟩,
    ⟨(some 16), none, 0, .see (.mov (.t 163))⟩]
    [[], [], [], [], [3], [3, 4], [2, 3, 4, 5], [2, 3, 4, 5, 6], [2, 3, 4, 5, 6, 7], [], [], [10], [10, 11], [9, 10, 11, 12], [9, 10, 11, 12, 13], [9, 10, 11, 12, 13, 14], [0, 1, 2, 3, 4, 5, 6, 7, 8, 9, 10, 11, 12, 13, 14, 15], [0, 1, 2, 3, 4, 5, 6, 7, 8, 9, 10, 11, 12, 13, 14, 15, 16]])
  (.seq (.reg [⟨(some 17), none, 0, .see (.mov (.c (.r (.v (.bool true)))))⟩])
  (.seq (.seq (.reg [⟨(some 18), none, 0, .see (.mov (.c (.r (.v (.int .i64 0)))))⟩])
  (.block 6 (.loop (.seq (.seq (.reg [⟨(some 164), none, 0, .see (.mov (.t 18))⟩,
    ⟨(some 165), none, 0, .see (.bin .lss (.t 164) (.c (.r (.v (.int .i64 4)))))⟩])
  (.cond (.t 165)
    .skip
    (.exit 6)))
  (.seq (.block 7 (.seq (.drw [⟨(some 168), none, 0, .see (.ld (some 2) (.t 14))⟩,
    ⟨(some 169), none, 0, .see (.ld (some 2) (.t 15))⟩,
    ⟨(some 170), none, 0, .see (.mov (.t 18))⟩,
    ⟨(some 171), none, 0, .see (.iaa 4 2 (.t 8) (.t 170))⟩,
    ⟨(some 172), none, 0, .see (.iaa 2 1 (.t 171) (.c (.r (.v (.int .i64 0)))))⟩,
    ⟨(some 173), none, 0, .see (.ld none (.t 172))⟩,
    ⟨(some 174), none, 0, .see (.mov (.t 18))⟩,
    ⟨(some 175), none, 0, .see (.iaa 4 2 (.t 8) (.t 174))⟩,
    ⟨(some 176), none, 0, .see (.iaa 2 1 (.t 175) (.c (.r (.v (.int .i64 1)))))⟩,
    ⟨(some 177), none, 0, .see (.ld none (.t 176))⟩,
    ⟨(some 178), none, 6, .call 54 [(.t 168), (.t 169), (.t 173), (.t 177)]⟩,
    ⟨(some 19), none, 0, .see (.mov (.t 178))⟩]
    [[], [], [], [2], [2, 3], [2, 3, 4], [], [6], [6, 7], [6, 7, 8], [0, 1, 2, 3, 4, 5, 6, 7, 8, 9], [0, 1, 2, 3, 4, 5, 6, 7, 8, 9, 10]])
  (.reg [⟨(some 179), none, 0, .see (.mov (.t 17))⟩,
    ⟨(some 180), none, 0, .see (.mov (.t 179))⟩,
    ⟨(some 181), (some (180, true)), 0, .see (.mov (.t 19))⟩,
    ⟨(some 182), (some (180, true)), 0, .see (.bin .neq (.t 181) (.c (.r (.v (.int .i64 0)))))⟩,
    ⟨(some 183), none, 0, .see (.pick (.t 180) (.t 182) (.c (.r (.v (.bool false)))))⟩,
    ⟨(some 184), none, 0, .see (.mov (.t 183))⟩,
    ⟨(some 185), (some (184, true)), 0, .see (.mov (.t 19))⟩,
    ⟨(some 186), (some (184, true)), 0, .see (.mov (.t 16))⟩,
    ⟨(some 187), (some (184, true)), 0, .see (.bin .neq (.t 185) (.t 186))⟩,
    ⟨(some 188), none, 0, .see (.pick (.t 184) (.t 187) (.c (.r (.v (.bool false)))))⟩,
    ⟨(some 17), none, 0, .see (.mov (.t 188))⟩])))
  (.reg [⟨(some 166), none, 0, .see (.mov (.t 18))⟩,
    ⟨(some 167), none, 0, .see (.bin .add (.t 166) (.c (.r (.v (.int .i64 1)))))⟩,
    ⟨(some 18), none, 0, .see (.mov (.t 167))⟩]))))))
  (.seq (.reg [⟨(some 189), none, 0, .see (.mov (.t 17))⟩])
  (.cond (.t 189)
    (.seq (.reg [⟨(some 6), none, 0, .see (.mov (.c (.r (.v (.bool false)))))⟩])
    .ret)
    .skip)))))))
  (.reg [⟨(some 135), none, 0, .see (.mov (.t 13))⟩,
    ⟨(some 136), none, 0, .see (.bin .add (.t 135) (.c (.r (.v (.int .i64 1)))))⟩,
    ⟨(some 13), none, 0, .see (.mov (.t 136))⟩]))))))
  (.seq (.reg [⟨(some 6), none, 0, .see (.mov (.c (.r (.v (.bool true)))))⟩])
  .ret)))))))
noncomputable abbrev apiaryref9_Touches_code : Code := (Go.Proofs.Try.f34.body).getD .skip
theorem apiaryref9_Touches_chk : chkC Go.Proofs.Try.prog 190 apiaryref9_Touches_code apiaryref9_Touches_pc = true := by kernel_rfl
theorem apiaryref9_Touches_triple {args : List AV} {po ro : List Ob} {res : AV} (hal : args.length = 3) (hpo : po.length ≤ 1000)
    (h : run Go.Proofs.Try.prog po.length (RetP po.length [(6, false, none)] fun v os => v = res ∧ os = ro) [.c apiaryref9_Touches_pc] ⟨argE 0 args, ob0 po⟩) : Triple Go.Proofs.Try.prog 34 args po res ro :=
  triple_of_W (fn := Go.Proofs.Try.f34) (c := apiaryref9_Touches_code) (pc := apiaryref9_Touches_pc) (rs := [(6, false, none)]) Go.Proofs.Try.func34 rfl (by decide) (by have := apiaryref9_Touches_chk; exact this) (by rw [hal]; decide) rfl (by kernel_rfl) (by kernel_rfl) (by decide) hpo (W_of_run h)

noncomputable def apiaryref9_On1_pc : PC :=
  (.seq (.reg [⟨(some 2), none, 0, .act (.box (.t 0))⟩,
    ⟨(some 4), none, 0, .see (.mov (.c (.r (.v (.bool false)))))⟩])
  (.seq (.reg [⟨(some 11), none, 0, .see (.mov (.t 1))⟩,
    ⟨(some 12), none, 1, .call 12 [(.t 11)]⟩,
    ⟨(some 10), none, 0, .see (.mov (.t 12))⟩,
    ⟨(some 13), none, 0, .see (.ext (.t 10) 0)⟩,
    ⟨(some 14), none, 0, .see (.ext (.t 10) 1)⟩,
    ⟨(some 5), none, 0, .act (.new [(.r (.v (.int .i64 0))), (.r (.v (.int .i64 0))), (.r (.v (.int .i64 0)))])⟩,
    ⟨none, none, 0, .act (.st 3 (.t 5) (.t 13))⟩,
    ⟨(some 6), none, 0, .see (.mov (.t 14))⟩])
  (.seq (.reg [⟨(some 16), none, 0, .see (.ld (some 4) (.t 2))⟩,
    ⟨(some 17), none, 2, .call 32 [(.t 16)]⟩,
    ⟨(some 15), none, 0, .see (.mov (.t 17))⟩,
    ⟨(some 18), none, 0, .see (.ext (.t 15) 0)⟩,
    ⟨(some 19), none, 0, .see (.ext (.t 15) 1)⟩,
    ⟨(some 20), none, 0, .see (.ext (.t 15) 2)⟩,
    ⟨(some 7), none, 0, .see (.mov (.t 18))⟩,
    ⟨(some 8), none, 0, .see (.mov (.t 19))⟩,
    ⟨(some 9), none, 0, .see (.mov (.t 20))⟩])
  (.seq (.reg [⟨(some 21), none, 0, .see (.ld (some 4) (.t 2))⟩,
    ⟨(some 22), none, 3, .call 33 [(.t 21)]⟩,
    ⟨(some 23), none, 0, .see (.bin .eql (.t 22) (.c (.r (.v (.int .i64 0)))))⟩,
    ⟨(some 24), none, 0, .see (.mov (.t 23))⟩,
    ⟨(some 25), (some (24, true)), 0, .see (.mov (.t 6))⟩,
    ⟨(some 26), (some (24, true)), 0, .see (.bin .eql (.t 25) (.c (.r (.v (.int .i64 0)))))⟩,
    ⟨(some 27), none, 0, .see (.pick (.t 24) (.t 26) (.c (.r (.v (.bool false)))))⟩,
    ⟨(some 28), none, 0, .see (.mov (.t 27))⟩,
    ⟨(some 29), (some (28, true)), 0, .see (.fa 0 (.t 5))⟩,
    ⟨(some 30), (some (28, true)), 0, .see (.ld none (.t 29))⟩,
    ⟨(some 31), (some (28, true)), 0, .see (.fa 3 (.t 2))⟩,
    ⟨(some 32), (some (28, true)), 0, .see (.ld none (.t 31))⟩,
    ⟨(some 33), (some (28, true)), 0, .see (.bin .eql (.t 30) (.t 32))⟩,
    ⟨(some 34), none, 0, .see (.pick (.t 28) (.t 33) (.c (.r (.v (.bool false)))))⟩,
    ⟨(some 35), none, 0, .see (.mov (.t 34))⟩,
    ⟨(some 36), (some (35, true)), 0, .see (.ld (some 3) (.t 5))⟩,
    ⟨(some 37), (some (35, true)), 0, .see (.mov (.t 7))⟩,
    ⟨(some 38), (some (35, true)), 0, .see (.mov (.t 8))⟩,
    ⟨(some 39), (some (35, true)), 0, .see (.build [(.r (.v (.int .i64 0))), (.r (.v (.int .i64 0)))] [(0, 1, (.t 37)), (1, 1, (.t 38))])⟩,
    ⟨(some 40), (some (35, true)), 0, .see (.mov (.t 7))⟩,
    ⟨(some 41), (some (35, true)), 0, .see (.mov (.t 9))⟩,
    ⟨(some 42), (some (35, true)), 0, .see (.bin .add (.t 40) (.t 41))⟩,
    ⟨(some 43), (some (35, true)), 0, .see (.mov (.t 8))⟩,
    ⟨(some 44), (some (35, true)), 0, .see (.mov (.t 9))⟩,
    ⟨(some 45), (some (35, true)), 0, .see (.bin .add (.t 43) (.t 44))⟩,
    ⟨(some 46), (some (35, true)), 0, .see (.build [(.r (.v (.int .i64 0))), (.r (.v (.int .i64 0)))] [(0, 1, (.t 42)), (1, 1, (.t 45))])⟩,
    ⟨(some 47), (some (35, true)), 4, .call 34 [(.t 36), (.t 39), (.t 46)]⟩,
    ⟨(some 48), none, 0, .see (.pick (.t 35) (.t 47) (.c (.r (.v (.bool false)))))⟩,
    ⟨(some 4), none, 0, .see (.mov (.t 48))⟩])
  .ret))))
noncomputable abbrev apiaryref9_On1_code : Code := (Go.Proofs.Try.f14.body).getD .skip
theorem apiaryref9_On1_chk : chkC Go.Proofs.Try.prog 49 apiaryref9_On1_code apiaryref9_On1_pc = true := by kernel_rfl
theorem apiaryref9_On1_triple {args : List AV} {po ro : List Ob} {res : AV} (hal : args.length = 2) (hpo : po.length ≤ 1000)
    (h : run Go.Proofs.Try.prog po.length (RetP po.length [(4, false, none)] fun v os => v = res ∧ os = ro) [.c apiaryref9_On1_pc] ⟨argE 0 args, ob0 po⟩) : Triple Go.Proofs.Try.prog 14 args po res ro :=
  triple_of_W (fn := Go.Proofs.Try.f14) (c := apiaryref9_On1_code) (pc := apiaryref9_On1_pc) (rs := [(4, false, none)]) Go.Proofs.Try.func14 rfl (by decide) (by have := apiaryref9_On1_chk; exact this) (by rw [hal]; decide) rfl (by kernel_rfl) (by kernel_rfl) (by decide) hpo (W_of_run h)

/-- The four corners of a box in thirds, in memory. -/
def bxC (lx ly ux uy : Int) : List AV := [int .i64 (3 * lx), int .i64 (3 * ly), int .i64 (3 * ux), int .i64 (3 * ly), int .i64 (3 * ux), int .i64 (3 * uy), int .i64 (3 * lx), int .i64 (3 * uy)]
theorem hidL_bxC (lx ly ux uy : Int) : hidL (bxC lx ly ux uy) = [] := rfl
theorem imL_bxC (F : Ren) (lx ly ux uy : Int) : imL F (bxC lx ly ux uy) = bxC lx ly ux uy := rfl
theorem bxC_len (lx ly ux uy : Int) : (bxC lx ly ux uy).length = 8 := rfl
theorem bxC_x (lx ly ux uy : Int) (k : Nat) (h : k < 4) : (bxC lx ly ux uy).getD (k * 2) AV.undef = int .i64 (cnx (3 * lx) (3 * ux) k) := by
  rcases (show k = 0 ∨ k = 1 ∨ k = 2 ∨ k = 3 by omega) with rfl | rfl | rfl | rfl <;> rfl
theorem bxC_y (lx ly ux uy : Int) (k : Nat) (h : k < 4) : (bxC lx ly ux uy).getD (k * 2 + 1) AV.undef = int .i64 (cny (3 * ly) (3 * uy) k) := by
  rcases (show k = 0 ∨ k = 1 ∨ k = 2 ∨ k = 3 by omega) with rfl | rfl | rfl | rfl <;> rfl
theorem bxC_eq (lx ly ux uy : Int) : [int .i64 (3 * lx), int .i64 (3 * ly), int .i64 (3 * ux), int .i64 (3 * ly), int .i64 (3 * ux), int .i64 (3 * uy), int .i64 (3 * lx), int .i64 (3 * uy)] = bxC lx ly ux uy := rfl
theorem side_one (z : Ei) (r i j l : Nat) (hr : r ≤ 12) (hi : i < 6) (hj : j = (i + 1) % 6) (hl : l = (i + 3) % 6) : sg (crP (hx z r i) (hy z r i) (hx z r j) (hy z r j) (hx z r l) (hy z r l)) = 1 := by
  have h := k_opp r i hr hi
  have e : ∀ a b, hx z r a - hx z r b = kx r a - kx r b := fun a b => by rw [hx_eq, hx_eq]; omega
  have e' : ∀ a b, hy z r a - hy z r b = ky r a - ky r b := fun a b => by rw [hy_eq, hy_eq]; omega
  rw [← hj, ← hl] at h
  rw [crP, e, e, e', e', sg, if_neg (by omega), if_pos h]
theorem sg_lt (c : Int) : ((sg c != 0) && (sg c != 1)) = decide (c < 0) := by
  unfold sg
  by_cases h1 : c < 0
  · rw [if_pos h1, decide_eq_true h1]; rfl
  · rw [if_neg h1, decide_eq_false h1]
    by_cases h2 : 0 < c
    · rw [if_pos h2]; rfl
    · rw [if_neg h2]; rfl
theorem apart_bif (D : Bool) (c : Int) : (bif (bif D then sg c != 0 else false) then sg c != 1 else false) = (D && decide (c < 0)) := by
  rw [← sg_lt]
  cases D <;> cases (sg c != 0) <;> rfl
theorem all_succ (p : Nat → Int) (k : Nat) : decide (∀ j, j < k + 1 → p j < 0) = (decide (∀ j, j < k → p j < 0) && decide (p k < 0)) := by
  rw [Bool.eq_iff_iff]
  simp only [decide_eq_true_eq, Bool.and_eq_true]
  constructor
  · intro h; exact ⟨fun j hj => h j (by omega), h k (by omega)⟩
  · rintro ⟨h1, h2⟩ j hj
    by_cases hjk : j = k
    · subst hjk; exact h2
    · exact h1 j (by omega)
set_option maxRecDepth 100000 in
theorem rtouches_t (z : Ei) (r : Int) (h0 : 0 ≤ r) (hk : okc r.toNat z) (lx ly ux uy : Int) (hb : hexIn z r.toNat) (h1 : 0 ≤ lx ∧ lx ≤ ux ∧ ux ≤ 1073741824) (h2 : 0 ≤ ly ∧ ly ≤ uy ∧ uy ≤ 1073741824) :
    Triple Go.Proofs.Try.prog 34 [cel r z, pv lx ly, pv ux uy] [] (bl (touch z r.toNat (3 * lx) (3 * ly) (3 * ux) (3 * uy))) [] := by
  refine apiaryref9_Touches_triple rfl (by decide) ?_
  have hr : r.toNat ≤ 12 := hk.1
  simp only [apiaryref9_Touches_pc, cel, pv, pnt, List.length_nil, push_cast, ↓reduceIte, reduceCtorEq, Nat.reduceBEq, Nat.reduceEqDiff, Nat.reduceAdd, Nat.reduceSub, Nat.reduceLT, Nat.reduceLeDiff, Nat.reduceMul]
  refine call_as (as' := [cel r z]) rfl ?_
  refine call_mk (rokc_t r z h0 hk) rfl trivial ?_
  simp only [Int.reduceToNat, push_cast, ↓reduceIte, reduceCtorEq, Nat.reduceBEq, Nat.reduceEqDiff, Nat.reduceAdd, Nat.reduceSub, Nat.reduceLT, Nat.reduceLeDiff, Nat.reduceMul]
  repeat refine And.intro (by first | decide | exact fun _ => by decide | (simp +contextual; done) | kernel_rfl) ?_
  refine call_mk (rfar_t lx ly (by unfold in31; omega) (by unfold in31; omega)) rfl trivial ?_
  simp only [Int.reduceToNat, push_cast, ↓reduceIte, reduceCtorEq, Nat.reduceBEq, Nat.reduceEqDiff, Nat.reduceAdd, Nat.reduceSub, Nat.reduceLT, Nat.reduceLeDiff, Nat.reduceMul]
  repeat refine And.intro (by first | decide | exact fun _ => by decide | (simp +contextual; done) | kernel_rfl) ?_
  refine call_mk (rfar_t ux uy (by unfold in31; omega) (by unfold in31; omega)) rfl trivial ?_
  have c1 : decide (ux < lx) = false := by simp; omega
  have c2 : decide (uy < ly) = false := by simp; omega
  simp only [Int.reduceToNat, c1, c2, push_cast, ↓reduceIte, reduceCtorEq, Nat.reduceBEq, Nat.reduceEqDiff, Nat.reduceAdd, Nat.reduceSub, Nat.reduceLT, Nat.reduceLeDiff, Nat.reduceMul]
  repeat refine And.intro (by first | decide | exact fun _ => by decide | (simp +contextual; done) | kernel_rfl) ?_
  refine call_as (as' := [z.v, int .i64 r]) rfl ?_
  refine call_mk (rhex_t z r hk.2.1 ⟨h0, by omega⟩) rfl trivial ?_
  simp only [pnt, Int.reduceToNat, push_cast, ↓reduceIte, reduceCtorEq, Nat.reduceBEq, Nat.reduceEqDiff, Nat.reduceAdd, Nat.reduceSub, Nat.reduceLT, Nat.reduceLeDiff, Nat.reduceMul]
  repeat refine And.intro (by first | decide | exact fun _ => by decide | (simp +contextual; done) | kernel_rfl) ?_
  rw [show IntKind.i64.wrap (3 * lx) = 3 * lx from wrap_id (by omega), show IntKind.i64.wrap (3 * ly) = 3 * ly from wrap_id (by omega), show IntKind.i64.wrap (3 * ux) = 3 * ux from wrap_id (by omega), show IntKind.i64.wrap (3 * uy) = 3 * uy from wrap_id (by omega)]
  generalize r.toNat = R at *
  refine run_loop [(9, false), (7, false), (4, false), (5, false), (8, false)] (fun vs pos los => ∃ i : Int, (i = 0 ∨ (i = 1 ∧ ¬ (mxN (hx z R) 6 < 3 * lx ∨ 3 * ux < mnN (hx z R) 6)) ∨ (i = 2 ∧ ¬ beside z R (3 * lx) (3 * ly) (3 * ux) (3 * uy))) ∧ vs = [int .i64 i, .own 2000000 0 0 6, .ptr 2000001 0 0, .ptr 2000002 0 0, .ptr 2000003 0 0] ∧ pos = [] ∧
    los = [.row 2 (.agg [.v (.int .i64 0), .v (.int .i64 0)]) true true (hexL z R 6), .box [int .i64 lx, int .i64 ly], .box [int .i64 ux, int .i64 uy], .box (bxC lx ly ux uy)])
    (fun vs _ _ => match vs with | .r (.v (.int _ j)) :: _ => (2 - j).toNat | _ => 0) rfl ?_ ?_
  · simp only [push_cast, ↓reduceIte, reduceCtorEq, Nat.reduceBEq, Nat.reduceEqDiff, Nat.reduceAdd, Nat.reduceSub, Nat.reduceLT, Nat.reduceLeDiff, Nat.reduceMul]
    exact ⟨0, by omega, rfl, rfl⟩
  · rintro vs pos los ⟨i, hi | hi | hi, rfl, rfl, rfl⟩
    · obtain rfl := hi
      have g0 : decide ((0 : Int) < 2) = true := rfl
      simp only [g0, hexL_at z R 6 0 (by decide), Int.reduceToNat, push_cast, ↓reduceIte, reduceCtorEq, Nat.reduceBEq, Nat.reduceEqDiff, Nat.reduceAdd, Nat.reduceSub, Nat.reduceLT, Nat.reduceLeDiff, Nat.reduceMul]
      repeat refine And.intro (by first | decide | kernel_rfl) ?_
      refine run_loop [(12, false), (10, false), (11, false), (9, false), (7, false), (4, false), (5, false), (8, false)] (fun vs pos los => ∃ k : Nat, k ≤ 6 ∧ vs = [int .i64 k, int .i64 (mnN (hx z R) k), int .i64 (mxN (hx z R) k), int .i64 0, .own 2000000 0 0 6, .ptr 2000001 0 0, .ptr 2000002 0 0, .ptr 2000003 0 0] ∧ pos = [] ∧
        los = [.row 2 (.agg [.v (.int .i64 0), .v (.int .i64 0)]) true true (hexL z R 6), .box [int .i64 lx, int .i64 ly], .box [int .i64 ux, int .i64 uy], .box (bxC lx ly ux uy)])
        (fun vs _ _ => match vs with | .r (.v (.int _ j)) :: _ => (6 - j).toNat | _ => 0) rfl ?_ ?_
      · simp only [hidL_bxC, imL_bxC, push_cast, ↓reduceIte, reduceCtorEq, Nat.reduceBEq, Nat.reduceEqDiff, Nat.reduceAdd, Nat.reduceSub, Nat.reduceLT, Nat.reduceLeDiff, Nat.reduceMul]
        exact ⟨0, by omega, rfl⟩
      · rintro vs pos los ⟨k, hk, rfl, rfl, rfl⟩
        simp only [push_cast, ↓reduceIte, reduceCtorEq, Nat.reduceBEq, Nat.reduceEqDiff, Nat.reduceAdd, Nat.reduceSub, Nat.reduceLT, Nat.reduceLeDiff, Nat.reduceMul]
        refine cnd_mk (fun h => ?_) (fun h => ?_)
        · have hi : k < 6 := by simp at h; omega
          simp only [Int.toNat_natCast, Nat.zero_add, hexL_at z R 6 k hi, hidL_bxC, imL_bxC, Int.reduceToNat, push_cast, ↓reduceIte, reduceCtorEq, Nat.reduceBEq, Nat.reduceEqDiff, Nat.reduceAdd, Nat.reduceSub, Nat.reduceLT, Nat.reduceLeDiff, Nat.reduceMul]
          rw [show IntKind.i64.wrap ((k : Int) + 1) = ((k + 1 : Nat) : Int) by rw [wrap_id (by omega)]; omega]
          repeat refine And.intro (by first | decide | omega | kernel_rfl) ?_
          exact ⟨⟨k + 1, by omega, rfl⟩, by omega⟩
        · have hi : k = 6 := by simp at h; omega
          subst hi
          simp only [Int.reduceToNat, push_cast, ↓reduceIte, reduceCtorEq, Nat.reduceBEq, Nat.reduceEqDiff, Nat.reduceAdd, Nat.reduceSub, Nat.reduceLT, Nat.reduceLeDiff, Nat.reduceMul]
          rw [show IntKind.i64.wrap (3 * lx) = 3 * lx from wrap_id (by omega), show IntKind.i64.wrap (3 * ux) = 3 * ux from wrap_id (by omega)]
          repeat refine And.intro (by first | decide | exact fun _ => by decide | (simp +contextual; done) | kernel_rfl) ?_
          refine cnd_mk (fun h => ?_) (fun h => ?_)
          · have hbe : mxN (hx z R) 6 < 3 * lx ∨ 3 * ux < mnN (hx z R) 6 := by simpa using h
            simp only [push_cast, ↓reduceIte, reduceCtorEq, Nat.reduceBEq, Nat.reduceEqDiff, Nat.reduceAdd, Nat.reduceSub, Nat.reduceLT, Nat.reduceLeDiff, Nat.reduceMul]
            rw [beside_no (show beside z R (3 * lx) (3 * ly) (3 * ux) (3 * uy) from .inl hbe)]
          · have hne : ¬ (mxN (hx z R) 6 < 3 * lx ∨ 3 * ux < mnN (hx z R) 6) := by
              have := h
              simp at this
              omega
            simp only [hidL_bxC, imL_bxC, push_cast, ↓reduceIte, reduceCtorEq, Nat.reduceBEq, Nat.reduceEqDiff, Nat.reduceAdd, Nat.reduceSub, Nat.reduceLT, Nat.reduceLeDiff, Nat.reduceMul]
            exact ⟨⟨1, .inr (.inl ⟨rfl, hne⟩), rfl⟩, by decide⟩
    · obtain ⟨rfl, hn⟩ := hi
      have g0 : decide ((1 : Int) < 2) = true := rfl
      simp only [g0, hexL_at z R 6 0 (by decide), Int.reduceToNat, push_cast, ↓reduceIte, reduceCtorEq, Nat.reduceBEq, Nat.reduceEqDiff, Nat.reduceAdd, Nat.reduceSub, Nat.reduceLT, Nat.reduceLeDiff, Nat.reduceMul]
      repeat refine And.intro (by first | decide | kernel_rfl) ?_
      refine run_loop [(12, false), (10, false), (11, false), (9, false), (7, false), (4, false), (5, false), (8, false)] (fun vs pos los => ∃ k : Nat, k ≤ 6 ∧ vs = [int .i64 k, int .i64 (mnN (hy z R) k), int .i64 (mxN (hy z R) k), int .i64 1, .own 2000000 0 0 6, .ptr 2000001 0 0, .ptr 2000002 0 0, .ptr 2000003 0 0] ∧ pos = [] ∧
        los = [.row 2 (.agg [.v (.int .i64 0), .v (.int .i64 0)]) true true (hexL z R 6), .box [int .i64 lx, int .i64 ly], .box [int .i64 ux, int .i64 uy], .box (bxC lx ly ux uy)])
        (fun vs _ _ => match vs with | .r (.v (.int _ j)) :: _ => (6 - j).toNat | _ => 0) rfl ?_ ?_
      · simp only [hidL_bxC, imL_bxC, push_cast, ↓reduceIte, reduceCtorEq, Nat.reduceBEq, Nat.reduceEqDiff, Nat.reduceAdd, Nat.reduceSub, Nat.reduceLT, Nat.reduceLeDiff, Nat.reduceMul]
        exact ⟨0, by omega, rfl⟩
      · rintro vs pos los ⟨k, hk, rfl, rfl, rfl⟩
        simp only [push_cast, ↓reduceIte, reduceCtorEq, Nat.reduceBEq, Nat.reduceEqDiff, Nat.reduceAdd, Nat.reduceSub, Nat.reduceLT, Nat.reduceLeDiff, Nat.reduceMul]
        refine cnd_mk (fun h => ?_) (fun h => ?_)
        · have hi : k < 6 := by simp at h; omega
          simp only [Int.toNat_natCast, Nat.zero_add, hexL_at z R 6 k hi, hidL_bxC, imL_bxC, Int.reduceToNat, push_cast, ↓reduceIte, reduceCtorEq, Nat.reduceBEq, Nat.reduceEqDiff, Nat.reduceAdd, Nat.reduceSub, Nat.reduceLT, Nat.reduceLeDiff, Nat.reduceMul]
          rw [show IntKind.i64.wrap ((k : Int) + 1) = ((k + 1 : Nat) : Int) by rw [wrap_id (by omega)]; omega]
          repeat refine And.intro (by first | decide | omega | kernel_rfl) ?_
          exact ⟨⟨k + 1, by omega, rfl⟩, by omega⟩
        · have hi : k = 6 := by simp at h; omega
          subst hi
          simp only [Int.reduceToNat, push_cast, ↓reduceIte, reduceCtorEq, Nat.reduceBEq, Nat.reduceEqDiff, Nat.reduceAdd, Nat.reduceSub, Nat.reduceLT, Nat.reduceLeDiff, Nat.reduceMul]
          rw [show IntKind.i64.wrap (3 * ly) = 3 * ly from wrap_id (by omega), show IntKind.i64.wrap (3 * uy) = 3 * uy from wrap_id (by omega)]
          repeat refine And.intro (by first | decide | exact fun _ => by decide | (simp +contextual; done) | kernel_rfl) ?_
          refine cnd_mk (fun h => ?_) (fun h => ?_)
          · have hbe : mxN (hy z R) 6 < 3 * ly ∨ 3 * uy < mnN (hy z R) 6 := by simpa using h
            simp only [push_cast, ↓reduceIte, reduceCtorEq, Nat.reduceBEq, Nat.reduceEqDiff, Nat.reduceAdd, Nat.reduceSub, Nat.reduceLT, Nat.reduceLeDiff, Nat.reduceMul]
            rw [beside_no (show beside z R (3 * lx) (3 * ly) (3 * ux) (3 * uy) from .inr hbe)]
          · have hne : ¬ (mxN (hy z R) 6 < 3 * ly ∨ 3 * uy < mnN (hy z R) 6) := by
              have := h
              simp at this
              omega
            simp only [hidL_bxC, imL_bxC, push_cast, ↓reduceIte, reduceCtorEq, Nat.reduceBEq, Nat.reduceEqDiff, Nat.reduceAdd, Nat.reduceSub, Nat.reduceLT, Nat.reduceLeDiff, Nat.reduceMul]
            exact ⟨⟨2, .inr (.inr ⟨rfl, fun hc => hc.elim hn hne⟩), rfl⟩, by decide⟩
    · obtain ⟨rfl, hn⟩ := hi
      have g0 : decide ((2 : Int) < 2) = false := rfl
      simp only [g0, push_cast, ↓reduceIte, reduceCtorEq, Nat.reduceBEq, Nat.reduceEqDiff, Nat.reduceAdd, Nat.reduceSub, Nat.reduceLT, Nat.reduceLeDiff, Nat.reduceMul]
      refine run_loop [(13, false), (7, false), (8, false)] (fun vs pos los => ∃ i : Nat, i ≤ 6 ∧ (∀ j, j < i → ¬ outs z R (3 * lx) (3 * ly) (3 * ux) (3 * uy) j) ∧ vs = [int .i64 i, .own 2000000 0 0 6, .ptr 2000001 0 0] ∧ pos = [] ∧
        los = [.row 2 (.agg [.v (.int .i64 0), .v (.int .i64 0)]) true true (hexL z R 6), .box (bxC lx ly ux uy)])
        (fun vs _ _ => match vs with | .r (.v (.int _ j)) :: _ => (6 - j).toNat | _ => 0) rfl ?_ ?_
      · simp only [hidL_bxC, imL_bxC, push_cast, ↓reduceIte, reduceCtorEq, Nat.reduceBEq, Nat.reduceEqDiff, Nat.reduceAdd, Nat.reduceSub, Nat.reduceLT, Nat.reduceLeDiff, Nat.reduceMul]
        exact ⟨0, by omega, fun j hj => by omega, rfl⟩
      · rintro vs pos los ⟨i, i6, hj, rfl, rfl, rfl⟩
        simp only [push_cast, ↓reduceIte, reduceCtorEq, Nat.reduceBEq, Nat.reduceEqDiff, Nat.reduceAdd, Nat.reduceSub, Nat.reduceLT, Nat.reduceLeDiff, Nat.reduceMul]
        refine cnd_mk (fun h => ?_) (fun h => ?_)
        · have hi : i < 6 := by simp at h; omega
          obtain ⟨J, hJ⟩ : ∃ J, J = (i + 1) % 6 := ⟨_, rfl⟩
          have hJ6 : J < 6 := by omega
          obtain ⟨L, hL⟩ : ∃ L, L = (i + 3) % 6 := ⟨_, rfl⟩
          have hL6 : L < 6 := by omega
          have hm : (IntKind.i64.wrap ((i : Int) + 1)).tmod 6 = (J : Int) := by
            rw [wrap_id (by omega), Int.tmod_eq_emod_of_nonneg (by omega)]; omega
          have hm3 : (IntKind.i64.wrap ((i : Int) + 3)).tmod 6 = (L : Int) := by
            rw [wrap_id (by omega), Int.tmod_eq_emod_of_nonneg (by omega)]; omega
          simp only [hm, hm3, Int.toNat_natCast, Nat.zero_add, hexL_at z R 6 i hi, hexL_at z R 6 J hJ6, hexL_at z R 6 L hL6, hidL_bxC, imL_bxC, Int.reduceToNat, push_cast, ↓reduceIte, reduceCtorEq, Nat.reduceBEq, Nat.reduceEqDiff, Nat.reduceAdd, Nat.reduceSub, Nat.reduceLT, Nat.reduceLeDiff, Nat.reduceMul]
          repeat refine And.intro (by first | decide | omega | kernel_rfl) ?_
          refine dcall_as (as' := [pv (hx z R i) (hy z R i), pv (hx z R J) (hy z R J), int .i64 (hx z R L), int .i64 (hy z R L)]) rfl ?_
          refine dcall_mk (rcross_t _ _ _ _ _ _ (hb i hi).1 (hb i hi).2 (hb J hJ6).1 (hb J hJ6).2 (hb L hL6).1 (hb L hL6).2) rfl trivial ?_
          rw [show sg (crP (hx z R i) (hy z R i) (hx z R J) (hy z R J) (hx z R L) (hy z R L)) = 1 from side_one z R i J L hr hi hJ hL]
          simp only [hidL_bxC, imL_bxC, push_cast, ↓reduceIte, reduceCtorEq, Nat.reduceBEq, Nat.reduceEqDiff, Nat.reduceAdd, Nat.reduceSub, Nat.reduceLT, Nat.reduceLeDiff, Nat.reduceMul]
          repeat refine And.intro (by first | decide | omega | kernel_rfl) ?_
          refine run_loop [(18, false), (17, false), (16, false), (13, false), (7, false), (8, false), (14, false), (15, false)] (fun vs pos los => ∃ k : Nat, k ≤ 4 ∧ vs = [int .i64 k, bl (decide (∀ j, j < k → crP (hx z R i) (hy z R i) (hx z R J) (hy z R J) (cnx (3 * lx) (3 * ux) j) (cny (3 * ly) (3 * uy) j) < 0)), int .i64 1, int .i64 i, .own 2000000 0 0 6, .ptr 2000001 0 0, .ptr 2000002 0 0, .ptr 2000003 0 0] ∧ pos = [] ∧
            los = [.row 2 (.agg [.v (.int .i64 0), .v (.int .i64 0)]) true true (hexL z R 6), .box (bxC lx ly ux uy), .box [int .i64 (hx z R i), int .i64 (hy z R i)], .box [int .i64 (hx z R J), int .i64 (hy z R J)]])
            (fun vs _ _ => match vs with | .r (.v (.int _ j)) :: _ => (4 - j).toNat | _ => 0) rfl ?_ ?_
          · simp only [hidL_bxC, imL_bxC, push_cast, ↓reduceIte, reduceCtorEq, Nat.reduceBEq, Nat.reduceEqDiff, Nat.reduceAdd, Nat.reduceSub, Nat.reduceLT, Nat.reduceLeDiff, Nat.reduceMul]
            refine ⟨0, by omega, ?_⟩
            rw [decide_eq_true (show ∀ j, j < 0 → crP (hx z R i) (hy z R i) (hx z R J) (hy z R J) (cnx (3 * lx) (3 * ux) j) (cny (3 * ly) (3 * uy) j) < 0 from fun j hj => by omega)]
            rfl
          · rintro vs pos los ⟨k, hk4, rfl, rfl, rfl⟩
            simp only [push_cast, ↓reduceIte, reduceCtorEq, Nat.reduceBEq, Nat.reduceEqDiff, Nat.reduceAdd, Nat.reduceSub, Nat.reduceLT, Nat.reduceLeDiff, Nat.reduceMul]
            refine cnd_mk (fun h => ?_) (fun h => ?_)
            · have hk : k < 4 := by simp at h; omega
              simp only [Int.toNat_natCast, Nat.zero_add, Nat.add_zero, bxC_len, bxC_x _ _ _ _ k hk, bxC_y _ _ _ _ k hk, hidL_bxC, imL_bxC, Int.reduceToNat, push_cast, ↓reduceIte, reduceCtorEq, Nat.reduceBEq, Nat.reduceEqDiff, Nat.reduceAdd, Nat.reduceSub, Nat.reduceLT, Nat.reduceLeDiff, Nat.reduceMul]
              repeat refine And.intro (by first | decide | omega | kernel_rfl) ?_
              have hcx : in32 (cnx (3 * lx) (3 * ux) k) := by unfold cnx in32; split <;> omega
              have hcy : in32 (cny (3 * ly) (3 * uy) k) := by unfold cny in32; split <;> omega
              refine dcall_as (as' := [pv (hx z R i) (hy z R i), pv (hx z R J) (hy z R J), int .i64 (cnx (3 * lx) (3 * ux) k), int .i64 (cny (3 * ly) (3 * uy) k)]) rfl ?_
              refine dcall_mk (rcross_t _ _ _ _ _ _ (hb i hi).1 (hb i hi).2 (hb J hJ6).1 (hb J hJ6).2 hcx hcy) rfl trivial ?_
              simp only [hidL_bxC, imL_bxC, push_cast, ↓reduceIte, reduceCtorEq, Nat.reduceBEq, Nat.reduceEqDiff, Nat.reduceAdd, Nat.reduceSub, Nat.reduceLT, Nat.reduceLeDiff, Nat.reduceMul]
              repeat refine And.intro (by first | decide | omega | kernel_rfl) ?_
              rw [show IntKind.i64.wrap ((k : Int) + 1) = ((k + 1 : Nat) : Int) by rw [wrap_id (by omega)]; omega]
              repeat refine And.intro (by first | decide | exact fun _ => by decide | (simp +contextual; done) | kernel_rfl) ?_
              refine ⟨⟨k + 1, by omega, ?_⟩, by omega⟩
              rw [apart_bif, all_succ (fun j => crP (hx z R i) (hy z R i) (hx z R J) (hy z R J) (cnx (3 * lx) (3 * ux) j) (cny (3 * ly) (3 * uy) j)) k]
            · have hk : k = 4 := by simp at h; omega
              subst hk
              simp only [push_cast, ↓reduceIte, reduceCtorEq, Nat.reduceBEq, Nat.reduceEqDiff, Nat.reduceAdd, Nat.reduceSub, Nat.reduceLT, Nat.reduceLeDiff, Nat.reduceMul]
              have hio := outP_iff z R i J (3 * lx) (3 * ly) (3 * ux) (3 * uy) hJ
              refine cnd_mk (fun h' => ?_) (fun h' => ?_)
              · have ho : outs z R (3 * lx) (3 * ly) (3 * ux) (3 * uy) i := hio.1 (of_decide_eq_true h')
                simp only [push_cast, ↓reduceIte, reduceCtorEq, Nat.reduceBEq, Nat.reduceEqDiff, Nat.reduceAdd, Nat.reduceSub, Nat.reduceLT, Nat.reduceLeDiff, Nat.reduceMul]
                have : touch z R (3 * lx) (3 * ly) (3 * ux) (3 * uy) = false := by
                  simp only [touch, hn, decide_false, Bool.not_false, Bool.true_and]
                  rw [List.all_eq_false]
                  exact ⟨i, List.mem_range.2 hi, by simp [ho]⟩
                rw [this]
              · have ho : ¬ outs z R (3 * lx) (3 * ly) (3 * ux) (3 * uy) i := fun c => by
                  have := hio.2 c
                  unfold outP at this
                  rw [decide_eq_true this] at h'
                  cases h'
                simp only [hidL_bxC, imL_bxC, push_cast, ↓reduceIte, reduceCtorEq, Nat.reduceBEq, Nat.reduceEqDiff, Nat.reduceAdd, Nat.reduceSub, Nat.reduceLT, Nat.reduceLeDiff, Nat.reduceMul]
                rw [show IntKind.i64.wrap ((i : Int) + 1) = ((i + 1 : Nat) : Int) by rw [wrap_id (by omega)]; omega]
                refine ⟨⟨i + 1, by omega, fun j hj' => ?_, rfl⟩, by omega⟩
                by_cases hji : j = i
                · subst hji; exact ho
                · exact hj j (by omega)
        · have hi : i = 6 := by simp at h; omega
          subst hi
          simp only [push_cast, ↓reduceIte, reduceCtorEq, Nat.reduceBEq, Nat.reduceEqDiff, Nat.reduceAdd, Nat.reduceSub, Nat.reduceLT, Nat.reduceLeDiff, Nat.reduceMul]
          have : touch z R (3 * lx) (3 * ly) (3 * ux) (3 * uy) = true := by
            simp only [touch, hn, decide_false, Bool.not_false, Bool.true_and, List.all_eq_true, List.mem_range, Bool.not_eq_true', decide_eq_false_iff_not]
            exact hj
          rw [this]
end Go.Ev
