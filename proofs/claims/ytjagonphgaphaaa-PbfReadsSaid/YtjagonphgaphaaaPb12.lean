import Derived.Test.YtjagonphgaphaaaPb11
namespace Go.Ev
open Go Go.RowKit
set_option linter.unnecessarySimpa false
set_option linter.unusedSimpArgs false
set_option linter.unusedVariables false
noncomputable def apiarylaw21_PbfReads_pc : PC :=
  (.seq (.reg [⟨(some 14), none, 0, .see (.mov (.c (.r (.v (.bool false)))))⟩])
  (.seq (.seq (.reg [⟨(some 30), none, 0, .see (.mov (.t 0))⟩,
    ⟨(some 31), none, 0, .see (.len false (.t 30))⟩,
    ⟨(some 32), none, 0, .see (.bin .gtr (.t 31) (.c (.r (.v (.int .i64 2000)))))⟩,
    ⟨(some 33), none, 0, .see (.mov (.t 32))⟩,
    ⟨(some 34), (some (33, false)), 0, .see (.mov (.t 1))⟩,
    ⟨(some 35), (some (33, false)), 0, .see (.len false (.t 34))⟩,
    ⟨(some 36), (some (33, false)), 0, .see (.bin .gtr (.t 35) (.c (.r (.v (.int .i64 30)))))⟩,
    ⟨(some 37), none, 0, .see (.pick (.t 33) (.c (.r (.v (.bool true)))) (.t 36))⟩,
    ⟨(some 38), none, 0, .see (.mov (.t 37))⟩,
    ⟨(some 39), (some (38, false)), 0, .see (.mov (.t 3))⟩,
    ⟨(some 40), (some (38, false)), 0, .see (.len false (.t 39))⟩,
    ⟨(some 41), (some (38, false)), 0, .see (.bin .gtr (.t 40) (.c (.r (.v (.int .i64 200)))))⟩,
    ⟨(some 42), none, 0, .see (.pick (.t 38) (.c (.r (.v (.bool true)))) (.t 41))⟩,
    ⟨(some 43), none, 0, .see (.mov (.t 42))⟩,
    ⟨(some 44), (some (43, false)), 0, .see (.mov (.t 2))⟩,
    ⟨(some 45), (some (43, false)), 0, .see (.len false (.t 44))⟩,
    ⟨(some 46), (some (43, false)), 0, .see (.bin .gtr (.t 45) (.c (.r (.v (.int .i64 100)))))⟩,
    ⟨(some 47), none, 0, .see (.pick (.t 43) (.c (.r (.v (.bool true)))) (.t 46))⟩])
  (.cond (.t 47)
    (.seq (.reg [⟨(some 48), none, 1, .call 10 []⟩,
    ⟨(some 14), none, 0, .see (.mov (.t 48))⟩])
    .ret)
    .skip))
  (.seq (.reg [⟨(some 15), none, 0, .see (.mov (.c (.r (.v (.string ⟨#[]⟩)))))⟩])
  (.seq (.seq (.reg [⟨(some 16), none, 0, .see (.mov (.c (.r (.v (.int .i64 0)))))⟩])
  (.block 0 (.loop (.seq (.seq (.reg [⟨(some 49), none, 0, .see (.mov (.t 16))⟩,
    ⟨(some 50), none, 0, .see (.mov (.t 1))⟩,
    ⟨(some 51), none, 0, .see (.len false (.t 50))⟩,
    ⟨(some 52), none, 0, .see (.bin .lss (.t 49) (.t 51))⟩])
  (.cond (.t 52)
    .skip
    (.exit 0)))
  (.seq (.block 1 (.seq (.reg [⟨(some 55), none, 0, .see (.mov (.t 1))⟩,
    ⟨(some 56), none, 0, .see (.mov (.t 16))⟩,
    ⟨(some 57), none, 0, .see (.ia 1 (.v (.int .i64 0)) (.t 55) (.t 56))⟩,
    ⟨(some 58), none, 0, .see (.ld none (.t 57))⟩,
    ⟨(some 59), none, 0, .see (.bin .and (.t 58) (.c (.r (.v (.int .i64 511)))))⟩,
    ⟨(some 60), none, 0, .see (.bin .add (.t 59) (.c (.r (.v (.int .i64 1)))))⟩,
    ⟨(some 17), none, 0, .see (.mov (.t 60))⟩])
  (.block 2 (.seq (.reg [⟨(some 62), none, 0, .see (.mov (.t 16))⟩,
    ⟨(some 63), none, 0, .see (.bin .rem (.t 62) (.c (.r (.v (.int .i64 3)))))⟩,
    ⟨(some 64), none, 0, .see (.bin .eql (.t 63) (.c (.r (.v (.int .i64 2)))))⟩,
    ⟨(some 61), none, 0, .see (.mov (.t 64))⟩])
  (.cond (.t 61)
    (.reg [⟨(some 65), none, 0, .see (.mov (.t 15))⟩,
    ⟨(some 66), none, 0, .see (.mov (.t 17))⟩,
    ⟨(some 67), none, 0, .see (.mov (.t 2))⟩,
    ⟨(some 68), none, 2, .call 11 [(.t 66), (.t 67)]⟩,
    ⟨(some 69), none, 0, .see (.bin .add (.t 65) (.t 68))⟩,
    ⟨(some 15), none, 0, .see (.mov (.t 69))⟩])
    (.seq (.reg [⟨(some 71), none, 0, .see (.mov (.t 16))⟩,
    ⟨(some 72), none, 0, .see (.bin .rem (.t 71) (.c (.r (.v (.int .i64 3)))))⟩,
    ⟨(some 73), none, 0, .see (.bin .eql (.t 72) (.c (.r (.v (.int .i64 1)))))⟩,
    ⟨(some 70), none, 0, .see (.mov (.t 73))⟩])
    (.cond (.t 70)
      (.reg [⟨(some 74), none, 0, .see (.mov (.t 15))⟩,
    ⟨(some 75), none, 0, .see (.mov (.t 17))⟩,
    ⟨(some 76), none, 0, .see (.mov (.t 3))⟩,
    ⟨(some 77), none, 0, .see (.toStr (.t 76))⟩,
    ⟨(some 78), none, 3, .call 12 [(.t 75), (.t 77)]⟩,
    ⟨(some 79), none, 0, .see (.bin .add (.t 74) (.t 78))⟩,
    ⟨(some 15), none, 0, .see (.mov (.t 79))⟩])
      (.seq (.reg [⟨(some 81), none, 0, .see (.mov (.t 16))⟩,
    ⟨(some 82), none, 0, .see (.mov (.t 2))⟩,
    ⟨(some 83), none, 0, .see (.len false (.t 82))⟩,
    ⟨(some 84), none, 0, .see (.bin .lss (.t 81) (.t 83))⟩,
    ⟨(some 80), none, 0, .see (.mov (.t 84))⟩])
      (.cond (.t 80)
        (.reg [⟨(some 85), none, 0, .see (.mov (.t 15))⟩,
    ⟨(some 86), none, 0, .see (.mov (.t 17))⟩,
    ⟨(some 87), none, 0, .see (.mov (.t 2))⟩,
    ⟨(some 88), none, 0, .see (.mov (.t 16))⟩,
    ⟨(some 89), none, 0, .see (.ia 1 (.v (.int .u64 0)) (.t 87) (.t 88))⟩,
    ⟨(some 90), none, 0, .see (.ld none (.t 89))⟩,
    ⟨(some 91), none, 4, .call 13 [(.t 86), (.t 90)]⟩,
    ⟨(some 92), none, 0, .see (.bin .add (.t 85) (.t 91))⟩,
    ⟨(some 15), none, 0, .see (.mov (.t 92))⟩])
        .skip)))))))))
  (.reg [⟨(some 53), none, 0, .see (.mov (.t 16))⟩,
    ⟨(some 54), none, 0, .see (.bin .add (.t 53) (.c (.r (.v (.int .i64 1)))))⟩,
    ⟨(some 16), none, 0, .see (.mov (.t 54))⟩]))))))
  (.seq (.reg [⟨(some 93), none, 0, .see (.mov (.t 15))⟩,
    ⟨(some 94), none, 0, .act (.toBytes (.v (.int .u8 0)) (.t 93))⟩,
    ⟨(some 18), none, 0, .see (.mov (.t 94))⟩])
  (.seq (.seq (.reg [⟨(some 95), none, 0, .see (.mov (.t 18))⟩,
    ⟨(some 96), none, 0, .see (.len false (.t 95))⟩,
    ⟨(some 97), none, 0, .see (.bin .gtr (.t 96) (.c (.r (.v (.int .i64 0)))))⟩])
  (.cond (.t 97)
    (.reg [⟨(some 98), none, 0, .see (.mov (.t 18))⟩,
    ⟨(some 99), none, 0, .see (.mov (.t 4))⟩,
    ⟨(some 100), none, 0, .see (.bin .and (.t 99) (.c (.r (.v (.int .i64 65535)))))⟩,
    ⟨(some 101), none, 0, .see (.mov (.t 18))⟩,
    ⟨(some 102), none, 0, .see (.len false (.t 101))⟩,
    ⟨(some 103), none, 0, .see (.bin .rem (.t 100) (.t 102))⟩,
    ⟨(some 104), none, 0, .see (.ia 1 (.v (.int .u8 0)) (.t 98) (.t 103))⟩,
    ⟨(some 105), none, 0, .see (.ld none (.t 104))⟩,
    ⟨(some 106), none, 0, .see (.mov (.t 5))⟩,
    ⟨(some 107), none, 0, .see (.bin .xor (.t 105) (.t 106))⟩,
    ⟨(some 108), none, 0, .see (.ia 1 (.v (.int .u8 0)) (.t 98) (.t 103))⟩,
    ⟨none, none, 0, .act (.st 1 (.t 108) (.t 107))⟩])
    .skip))
  (.seq (.reg [⟨(some 109), none, 0, .see (.mov (.t 18))⟩,
    ⟨(some 110), none, 0, .see (.mov (.t 18))⟩,
    ⟨(some 111), none, 0, .see (.len false (.t 110))⟩,
    ⟨(some 112), none, 0, .see (.mov (.t 6))⟩,
    ⟨(some 113), none, 0, .see (.bin .and (.t 112) (.c (.r (.v (.int .i64 255)))))⟩,
    ⟨(some 114), none, 0, .see (.mov (.t 18))⟩,
    ⟨(some 115), none, 0, .see (.len false (.t 114))⟩,
    ⟨(some 116), none, 0, .see (.bin .add (.t 115) (.c (.r (.v (.int .i64 1)))))⟩,
    ⟨(some 117), none, 0, .see (.bin .rem (.t 113) (.t 116))⟩,
    ⟨(some 118), none, 0, .see (.bin .sub (.t 111) (.t 117))⟩,
    ⟨(some 119), none, 0, .see (.sll 1 (.t 109) none (some (.t 118)) none)⟩,
    ⟨(some 18), none, 0, .see (.mov (.t 119))⟩])
  (.seq (.seq (.reg [⟨(some 19), none, 0, .see (.mov (.c (.r (.v (.int .i64 0)))))⟩])
  (.block 3 (.loop (.seq (.seq (.reg [⟨(some 120), none, 0, .see (.mov (.t 19))⟩,
    ⟨(some 121), none, 0, .see (.bin .lss (.t 120) (.c (.r (.v (.int .i64 3)))))⟩])
  (.cond (.t 121)
    .skip
    (.exit 3)))
  (.seq (.block 4 (.seq (.reg [⟨(some 124), none, 0, .see (.mov (.t 0))⟩,
    ⟨(some 125), none, 0, .see (.mov (.t 18))⟩,
    ⟨(some 126), none, 0, .see (.mov (.t 15))⟩,
    ⟨(some 127), none, 0, .act (.toBytes (.v (.int .u8 0)) (.t 126))⟩,
    ⟨(some 128), none, 0, .act (.bsl 1 (.sl 1 []) [(.t 124), (.t 125), (.t 127)])⟩,
    ⟨(some 129), none, 0, .see (.mov (.t 19))⟩,
    ⟨(some 130), none, 0, .see (.ia 1 (.sl 1 []) (.t 128) (.t 129))⟩,
    ⟨(some 131), none, 0, .see (.ld none (.t 130))⟩,
    ⟨(some 20), none, 0, .see (.mov (.t 131))⟩])
  (.seq (.reg [⟨(some 133), none, 0, .see (.mov (.t 20))⟩,
    ⟨(some 134), none, 5, .call 14 [(.t 133)]⟩,
    ⟨(some 132), none, 0, .see (.mov (.t 134))⟩,
    ⟨(some 135), none, 0, .see (.ext (.t 132) 0)⟩,
    ⟨(some 136), none, 0, .see (.ext (.t 132) 1)⟩,
    ⟨(some 21), none, 0, .see (.mov (.t 135))⟩,
    ⟨(some 22), none, 0, .see (.mov (.t 136))⟩])
  (.seq (.reg [⟨(some 138), none, 0, .see (.mov (.t 20))⟩,
    ⟨(some 139), none, 0, .see (.toStr (.t 138))⟩,
    ⟨(some 140), none, 6, .call 15 [(.t 139)]⟩,
    ⟨(some 137), none, 0, .see (.mov (.t 140))⟩,
    ⟨(some 141), none, 0, .see (.ext (.t 137) 0)⟩,
    ⟨(some 142), none, 0, .see (.ext (.t 137) 1)⟩,
    ⟨(some 23), none, 0, .see (.mov (.t 141))⟩,
    ⟨(some 24), none, 0, .see (.mov (.t 142))⟩])
  (.seq (.reg [⟨(some 144), none, 0, .see (.mov (.t 20))⟩,
    ⟨(some 145), none, 7, .call 16 [(.t 144)]⟩,
    ⟨(some 143), none, 0, .see (.mov (.t 145))⟩,
    ⟨(some 146), none, 0, .see (.ext (.t 143) 0)⟩,
    ⟨(some 147), none, 0, .see (.ext (.t 143) 1)⟩,
    ⟨(some 25), none, 0, .see (.mov (.t 146))⟩,
    ⟨(some 26), none, 0, .see (.mov (.t 147))⟩])
  (.seq (.reg [⟨(some 149), none, 0, .see (.mov (.t 20))⟩,
    ⟨(some 150), none, 0, .see (.toStr (.t 149))⟩,
    ⟨(some 151), none, 8, .call 17 [(.t 150)]⟩,
    ⟨(some 148), none, 0, .see (.mov (.t 151))⟩,
    ⟨(some 152), none, 0, .see (.ext (.t 148) 0)⟩,
    ⟨(some 153), none, 0, .see (.ext (.t 148) 1)⟩,
    ⟨(some 27), none, 0, .see (.mov (.t 152))⟩,
    ⟨(some 28), none, 0, .see (.mov (.t 153))⟩])
  (.seq (.seq (.reg [⟨(some 154), none, 0, .see (.mov (.t 22))⟩,
    ⟨(some 155), none, 0, .see (.mov (.t 24))⟩,
    ⟨(some 156), none, 0, .see (.bin .neq (.t 154) (.t 155))⟩,
    ⟨(some 157), none, 0, .see (.mov (.t 156))⟩,
    ⟨(some 158), (some (157, false)), 0, .see (.mov (.t 21))⟩,
    ⟨(some 159), (some (157, false)), 0, .see (.len false (.t 158))⟩,
    ⟨(some 160), (some (157, false)), 0, .see (.mov (.t 23))⟩,
    ⟨(some 161), (some (157, false)), 0, .see (.len false (.t 160))⟩,
    ⟨(some 162), (some (157, false)), 0, .see (.bin .neq (.t 159) (.t 161))⟩,
    ⟨(some 163), none, 0, .see (.pick (.t 157) (.c (.r (.v (.bool true)))) (.t 162))⟩,
    ⟨(some 164), none, 0, .see (.mov (.t 163))⟩,
    ⟨(some 165), (some (164, false)), 0, .see (.mov (.t 26))⟩,
    ⟨(some 166), (some (164, false)), 0, .see (.mov (.t 28))⟩,
    ⟨(some 167), (some (164, false)), 0, .see (.bin .neq (.t 165) (.t 166))⟩,
    ⟨(some 168), none, 0, .see (.pick (.t 164) (.c (.r (.v (.bool true)))) (.t 167))⟩,
    ⟨(some 169), none, 0, .see (.mov (.t 168))⟩,
    ⟨(some 170), (some (169, false)), 0, .see (.mov (.t 25))⟩,
    ⟨(some 171), (some (169, false)), 0, .see (.mov (.t 27))⟩,
    ⟨(some 172), (some (169, false)), 9, .call 18 [(.t 170), (.t 171)]⟩,
    ⟨(some 173), (some (169, false)), 0, .see (.un .not (.t 172))⟩,
    ⟨(some 174), none, 0, .see (.pick (.t 169) (.c (.r (.v (.bool true)))) (.t 173))⟩])
  (.cond (.t 174)
    (.seq (.reg [⟨(some 14), none, 0, .see (.mov (.c (.r (.v (.bool false)))))⟩])
    .ret)
    .skip))
  (.seq (.reg [⟨(some 29), none, 0, .see (.mov (.c (.r (.v (.int .i64 0)))))⟩])
  (.block 5 (.loop (.seq (.seq (.reg [⟨(some 175), none, 0, .see (.mov (.t 29))⟩,
    ⟨(some 176), none, 0, .see (.mov (.t 23))⟩,
    ⟨(some 177), none, 0, .see (.len false (.t 176))⟩,
    ⟨(some 178), none, 0, .see (.bin .lss (.t 175) (.t 177))⟩])
  (.cond (.t 178)
    .skip
    (.exit 5)))
  (.seq (.block 6 (.seq (.drw [⟨(some 181), none, 0, .see (.mov (.t 21))⟩,
    ⟨(some 182), none, 0, .see (.mov (.t 29))⟩,
    ⟨(some 183), none, 0, .see (.ia 4 (.agg [(.v (.int .i64 0)), (.v (.int .i64 0)), (.v (.int .u64 0)), (.sl 1 [])]) (.t 181) (.t 182))⟩,
    ⟨(some 184), none, 0, .see (.fa 0 (.t 183))⟩,
    ⟨(some 185), none, 0, .see (.ld none (.t 184))⟩,
    ⟨(some 186), none, 0, .see (.mov (.t 23))⟩,
    ⟨(some 187), none, 0, .see (.mov (.t 29))⟩,
    ⟨(some 188), none, 0, .see (.ia 4 (.agg [(.v (.int .i64 0)), (.v (.int .i64 0)), (.v (.int .u64 0)), (.sl 1 [])]) (.t 186) (.t 187))⟩,
    ⟨(some 189), none, 0, .see (.fa 0 (.t 188))⟩,
    ⟨(some 190), none, 0, .see (.ld none (.t 189))⟩,
    ⟨(some 191), none, 0, .see (.bin .neq (.t 185) (.t 190))⟩,
    ⟨(some 192), none, 0, .see (.mov (.t 191))⟩,
    ⟨(some 193), (some (192, false)), 0, .see (.mov (.t 21))⟩,
    ⟨(some 194), (some (192, false)), 0, .see (.mov (.t 29))⟩,
    ⟨(some 195), (some (192, false)), 0, .see (.ia 4 (.agg [(.v (.int .i64 0)), (.v (.int .i64 0)), (.v (.int .u64 0)), (.sl 1 [])]) (.t 193) (.t 194))⟩,
    ⟨(some 196), (some (192, false)), 0, .see (.fa 1 (.t 195))⟩,
    ⟨(some 197), (some (192, false)), 0, .see (.ld none (.t 196))⟩,
    ⟨(some 198), (some (192, false)), 0, .see (.mov (.t 23))⟩,
    ⟨(some 199), (some (192, false)), 0, .see (.mov (.t 29))⟩,
    ⟨(some 200), (some (192, false)), 0, .see (.ia 4 (.agg [(.v (.int .i64 0)), (.v (.int .i64 0)), (.v (.int .u64 0)), (.sl 1 [])]) (.t 198) (.t 199))⟩,
    ⟨(some 201), (some (192, false)), 0, .see (.fa 1 (.t 200))⟩,
    ⟨(some 202), (some (192, false)), 0, .see (.ld none (.t 201))⟩,
    ⟨(some 203), (some (192, false)), 0, .see (.bin .neq (.t 197) (.t 202))⟩,
    ⟨(some 204), none, 0, .see (.pick (.t 192) (.c (.r (.v (.bool true)))) (.t 203))⟩,
    ⟨(some 205), none, 0, .see (.mov (.t 204))⟩,
    ⟨(some 206), (some (205, false)), 0, .see (.mov (.t 21))⟩,
    ⟨(some 207), (some (205, false)), 0, .see (.mov (.t 29))⟩,
    ⟨(some 208), (some (205, false)), 0, .see (.ia 4 (.agg [(.v (.int .i64 0)), (.v (.int .i64 0)), (.v (.int .u64 0)), (.sl 1 [])]) (.t 206) (.t 207))⟩,
    ⟨(some 209), (some (205, false)), 0, .see (.fa 2 (.t 208))⟩,
    ⟨(some 210), (some (205, false)), 0, .see (.ld none (.t 209))⟩,
    ⟨(some 211), (some (205, false)), 0, .see (.mov (.t 23))⟩,
    ⟨(some 212), (some (205, false)), 0, .see (.mov (.t 29))⟩,
    ⟨(some 213), (some (205, false)), 0, .see (.ia 4 (.agg [(.v (.int .i64 0)), (.v (.int .i64 0)), (.v (.int .u64 0)), (.sl 1 [])]) (.t 211) (.t 212))⟩,
    ⟨(some 214), (some (205, false)), 0, .see (.fa 2 (.t 213))⟩,
    ⟨(some 215), (some (205, false)), 0, .see (.ld none (.t 214))⟩,
    ⟨(some 216), (some (205, false)), 0, .see (.bin .neq (.t 210) (.t 215))⟩,
    ⟨(some 217), none, 0, .see (.pick (.t 205) (.c (.r (.v (.bool true)))) (.t 216))⟩,
    ⟨(some 218), none, 0, .see (.mov (.t 217))⟩,
    ⟨(some 219), (some (218, false)), 0, .see (.mov (.t 21))⟩,
    ⟨(some 220), (some (218, false)), 0, .see (.mov (.t 29))⟩,
    ⟨(some 221), (some (218, false)), 0, .see (.ia 4 (.agg [(.v (.int .i64 0)), (.v (.int .i64 0)), (.v (.int .u64 0)), (.sl 1 [])]) (.t 219) (.t 220))⟩,
    ⟨(some 222), (some (218, false)), 0, .see (.fa 3 (.t 221))⟩,
    ⟨(some 223), (some (218, false)), 0, .see (.ld none (.t 222))⟩,
    ⟨(some 224), (some (218, false)), 0, .see (.toStr (.t 223))⟩,
    ⟨(some 225), (some (218, false)), 0, .see (.mov (.t 23))⟩,
    ⟨(some 226), (some (218, false)), 0, .see (.mov (.t 29))⟩,
    ⟨(some 227), (some (218, false)), 0, .see (.ia 4 (.agg [(.v (.int .i64 0)), (.v (.int .i64 0)), (.v (.int .u64 0)), (.sl 1 [])]) (.t 225) (.t 226))⟩,
    ⟨(some 228), (some (218, false)), 0, .see (.fa 3 (.t 227))⟩,
    ⟨(some 229), (some (218, false)), 0, .see (.ld none (.t 228))⟩,
    ⟨(some 230), (some (218, false)), 0, .see (.toStr (.t 229))⟩,
    ⟨(some 231), (some (218, false)), 0, .see (.bin .neq (.t 224) (.t 230))⟩,
    ⟨(some 232), none, 0, .see (.pick (.t 218) (.c (.r (.v (.bool true)))) (.t 231))⟩]
    [[], [], [0, 1], [0, 1, 2], [0, 1, 2, 3], [], [], [5, 6], [5, 6, 7], [5, 6, 7, 8], [0, 1, 2, 3, 4, 5, 6, 7, 8, 9], [0, 1, 2, 3, 4, 5, 6, 7, 8, 9, 10], [0, 1, 2, 3, 4, 5, 6, 7, 8, 9, 10, 11], [0, 1, 2, 3, 4, 5, 6, 7, 8, 9, 10, 11], [0, 1, 2, 3, 4, 5, 6, 7, 8, 9, 10, 11, 12, 13], [0, 1, 2, 3, 4, 5, 6, 7, 8, 9, 10, 11, 12, 13, 14], [0, 1, 2, 3, 4, 5, 6, 7, 8, 9, 10, 11, 12, 13, 14, 15], [0, 1, 2, 3, 4, 5, 6, 7, 8, 9, 10, 11], [0, 1, 2, 3, 4, 5, 6, 7, 8, 9, 10, 11], [0, 1, 2, 3, 4, 5, 6, 7, 8, 9, 10, 11, 17, 18], [0, 1, 2, 3, 4, 5, 6, 7, 8, 9, 10, 11, 17, 18, 19], [0, 1, 2, 3, 4, 5, 6, 7, 8, 9, 10, 11, 17, 18, 19, 20], [0, 1, 2, 3, 4, 5, 6, 7, 8, 9, 10, 11, 12, 13, 14, 15, 16, 17, 18, 19, 20, 21], [0, 1, 2, 3, 4, 5, 6, 7, 8, 9, 10, 11, 12, 13, 14, 15, 16, 17, 18, 19, 20, 21, 22], [0, 1, 2, 3, 4, 5, 6, 7, 8, 9, 10, 11, 12, 13, 14, 15, 16, 17, 18, 19, 20, 21, 22, 23], [0, 1, 2, 3, 4, 5, 6, 7, 8, 9, 10, 11, 12, 13, 14, 15, 16, 17, 18, 19, 20, 21, 22, 23, 24], [0, 1, 2, 3, 4, 5, 6, 7, 8, 9, 10, 11, 12, 13, 14, 15, 16, 17, 18, 19, 20, 21, 22, 23, 24], [0, 1, 2, 3, 4, 5, 6, 7, 8, 9, 10, 11, 12, 13, 14, 15, 16, 17, 18, 19, 20, 21, 22, 23, 24, 25, 26], [0, 1, 2, 3, 4, 5, 6, 7, 8, 9, 10, 11, 12, 13, 14, 15, 16, 17, 18, 19, 20, 21, 22, 23, 24, 25, 26, 27], [0, 1, 2, 3, 4, 5, 6, 7, 8, 9, 10, 11, 12, 13, 14, 15, 16, 17, 18, 19, 20, 21, 22, 23, 24, 25, 26, 27, 28], [0, 1, 2, 3, 4, 5, 6, 7, 8, 9, 10, 11, 12, 13, 14, 15, 16, 17, 18, 19, 20, 21, 22, 23, 24], [0, 1, 2, 3, 4, 5, 6, 7, 8, 9, 10, 11, 12, 13, 14, 15, 16, 17, 18, 19, 20, 21, 22, 23, 24], [0, 1, 2, 3, 4, 5, 6, 7, 8, 9, 10, 11, 12, 13, 14, 15, 16, 17, 18, 19, 20, 21, 22, 23, 24, 30, 31], [0, 1, 2, 3, 4, 5, 6, 7, 8, 9, 10, 11, 12, 13, 14, 15, 16, 17, 18, 19, 20, 21, 22, 23, 24, 30, 31, 32], [0, 1, 2, 3, 4, 5, 6, 7, 8, 9, 10, 11, 12, 13, 14, 15, 16, 17, 18, 19, 20, 21, 22, 23, 24, 30, 31, 32, 33], [0, 1, 2, 3, 4, 5, 6, 7, 8, 9, 10, 11, 12, 13, 14, 15, 16, 17, 18, 19, 20, 21, 22, 23, 24, 25, 26, 27, 28, 29, 30, 31, 32, 33, 34], [0, 1, 2, 3, 4, 5, 6, 7, 8, 9, 10, 11, 12, 13, 14, 15, 16, 17, 18, 19, 20, 21, 22, 23, 24, 25, 26, 27, 28, 29, 30, 31, 32, 33, 34, 35], [0, 1, 2, 3, 4, 5, 6, 7, 8, 9, 10, 11, 12, 13, 14, 15, 16, 17, 18, 19, 20, 21, 22, 23, 24, 25, 26, 27, 28, 29, 30, 31, 32, 33, 34, 35, 36], [0, 1, 2, 3, 4, 5, 6, 7, 8, 9, 10, 11, 12, 13, 14, 15, 16, 17, 18, 19, 20, 21, 22, 23, 24, 25, 26, 27, 28, 29, 30, 31, 32, 33, 34, 35, 36, 37], [0, 1, 2, 3, 4, 5, 6, 7, 8, 9, 10, 11, 12, 13, 14, 15, 16, 17, 18, 19, 20, 21, 22, 23, 24, 25, 26, 27, 28, 29, 30, 31, 32, 33, 34, 35, 36, 37], [0, 1, 2, 3, 4, 5, 6, 7, 8, 9, 10, 11, 12, 13, 14, 15, 16, 17, 18, 19, 20, 21, 22, 23, 24, 25, 26, 27, 28, 29, 30, 31, 32, 33, 34, 35, 36, 37, 38, 39], [0, 1, 2, 3, 4, 5, 6, 7, 8, 9, 10, 11, 12, 13, 14, 15, 16, 17, 18, 19, 20, 21, 22, 23, 24, 25, 26, 27, 28, 29, 30, 31, 32, 33, 34, 35, 36, 37, 38, 39, 40], [0, 1, 2, 3, 4, 5, 6, 7, 8, 9, 10, 11, 12, 13, 14, 15, 16, 17, 18, 19, 20, 21, 22, 23, 24, 25, 26, 27, 28, 29, 30, 31, 32, 33, 34, 35, 36, 37, 38, 39, 40, 41], [0, 1, 2, 3, 4, 5, 6, 7, 8, 9, 10, 11, 12, 13, 14, 15, 16, 17, 18, 19, 20, 21, 22, 23, 24, 25, 26, 27, 28, 29, 30, 31, 32, 33, 34, 35, 36, 37, 38, 39, 40, 41, 42], [0, 1, 2, 3, 4, 5, 6, 7, 8, 9, 10, 11, 12, 13, 14, 15, 16, 17, 18, 19, 20, 21, 22, 23, 24, 25, 26, 27, 28, 29, 30, 31, 32, 33, 34, 35, 36, 37], [0, 1, 2, 3, 4, 5, 6, 7, 8, 9, 10, 11, 12, 13, 14, 15, 16, 17, 18, 19, 20, 21, 22, 23, 24, 25, 26, 27, 28, 29, 30, 31, 32, 33, 34, 35, 36, 37], [0, 1, 2, 3, 4, 5, 6, 7, 8, 9, 10, 11, 12, 13, 14, 15, 16, 17, 18, 19, 20, 21, 22, 23, 24, 25, 26, 27, 28, 29, 30, 31, 32, 33, 34, 35, 36, 37, 44, 45], [0, 1, 2, 3, 4, 5, 6, 7, 8, 9, 10, 11, 12, 13, 14, 15, 16, 17, 18, 19, 20, 21, 22, 23, 24, 25, 26, 27, 28, 29, 30, 31, 32, 33, 34, 35, 36, 37, 44, 45, 46], [0, 1, 2, 3, 4, 5, 6, 7, 8, 9, 10, 11, 12, 13, 14, 15, 16, 17, 18, 19, 20, 21, 22, 23, 24, 25, 26, 27, 28, 29, 30, 31, 32, 33, 34, 35, 36, 37, 44, 45, 46, 47], [0, 1, 2, 3, 4, 5, 6, 7, 8, 9, 10, 11, 12, 13, 14, 15, 16, 17, 18, 19, 20, 21, 22, 23, 24, 25, 26, 27, 28, 29, 30, 31, 32, 33, 34, 35, 36, 37, 44, 45, 46, 47, 48], [0, 1, 2, 3, 4, 5, 6, 7, 8, 9, 10, 11, 12, 13, 14, 15, 16, 17, 18, 19, 20, 21, 22, 23, 24, 25, 26, 27, 28, 29, 30, 31, 32, 33, 34, 35, 36, 37, 38, 39, 40, 41, 42, 43, 44, 45, 46, 47, 48, 49], [0, 1, 2, 3, 4, 5, 6, 7, 8, 9, 10, 11, 12, 13, 14, 15, 16, 17, 18, 19, 20, 21, 22, 23, 24, 25, 26, 27, 28, 29, 30, 31, 32, 33, 34, 35, 36, 37, 38, 39, 40, 41, 42, 43, 44, 45, 46, 47, 48, 49, 50]])
  (.cond (.t 232)
    (.seq (.reg [⟨(some 14), none, 0, .see (.mov (.c (.r (.v (.bool false)))))⟩])
    .ret)
    .skip)))
  (.reg [⟨(some 179), none, 0, .see (.mov (.t 29))⟩,
    ⟨(some 180), none, 0, .see (.bin .add (.t 179) (.c (.r (.v (.int .i64 1)))))⟩,
    ⟨(some 29), none, 0, .see (.mov (.t 180))⟩])))))))))))))
  (.reg [⟨(some 122), none, 0, .see (.mov (.t 19))⟩,
    ⟨(some 123), none, 0, .see (.bin .add (.t 122) (.c (.r (.v (.int .i64 1)))))⟩,
    ⟨(some 19), none, 0, .see (.mov (.t 123))⟩]))))))
  (.seq (.reg [⟨(some 233), none, 10, .call 10 []⟩,
    ⟨(some 14), none, 0, .see (.mov (.t 233))⟩])
  .ret)))))))))
noncomputable abbrev apiarylaw21_PbfReads_code : Code := (Go.Proofs.Try.f4.body).getD .skip
theorem apiarylaw21_PbfReads_chk : chkC Go.Proofs.Try.prog 234 apiarylaw21_PbfReads_code apiarylaw21_PbfReads_pc = true := by kernel_rfl
theorem apiarylaw21_PbfReads_triple {args : List AV} {po ro : List Ob} {res : AV} (hal : args.length = 7) (hpo : po.length ≤ 1000)
    (h : run Go.Proofs.Try.prog po.length (RetP po.length [(14, false, none)] fun v os => v = res ∧ os = ro) [.c apiarylaw21_PbfReads_pc] ⟨argE 0 args, ob0 po⟩) : Triple Go.Proofs.Try.prog 4 args po res ro :=
  triple_of_W (fn := Go.Proofs.Try.f4) (c := apiarylaw21_PbfReads_code) (pc := apiarylaw21_PbfReads_pc) (rs := [(14, false, none)]) Go.Proofs.Try.func4 rfl (by decide) (by have := apiarylaw21_PbfReads_chk; exact this) (by rw [hal]; decide) rfl (by kernel_rfl) (by kernel_rfl) (by decide) hpo (W_of_run h)

theorem numL_len (G n : Int) : (numL G n).length ≤ 20 := by
  unfold numL; split
  · have := varL_len (G * 8).toNat; have := varL_len n.toNat; rw [List.length_append]; omega
  · simp
theorem bytesL_len (G : Int) (y : List UInt8) : (bytesL G y).length ≤ 20 + y.length := by
  unfold bytesL; split
  · have := varL_len (G * 8 + 2).toNat; have := varL_len y.length; rw [List.length_append, List.length_append]; omega
  · simp
theorem flatv_len (ns : List Int) : (ns.flatMap fun n => varL n.toNat).length ≤ 10 * ns.length := by
  induction ns with
  | nil => simp
  | cons m ns ih =>
    have := varL_len m.toNat
    rw [List.flatMap_cons, List.length_append, List.length_cons]; omega
theorem varsF_len : ∀ (f : Nat) (l : List UInt8) (m : List Nat), l.length ≤ f → varsF f l = some m → m.length ≤ l.length
  | f, [], m, _, h => by
    rw [varsF_nil] at h
    cases h; simp
  | 0, _ :: _, m, hf, h => by simp at hf
  | f + 1, c :: l, m, hf, h => by
    have hb := take_bound (c :: l)
    by_cases h0 : (take (c :: l)).2 = 0
    · rw [varsF_no (by simp) h0] at h; cases h
    · obtain ⟨f', hf', hv⟩ := varsF_on (f := f + 1) (n := (take (c :: l)).1) (k := (take (c :: l)).2) (l := c :: l) (by simp) hf rfl h0
      rw [hv] at h
      obtain ⟨m', hm', rfl⟩ := Option.map_eq_some_iff.1 h
      have hd : ((c :: l).drop (take (c :: l)).2).length = (c :: l).length - (take (c :: l)).2 := List.length_drop
      have e : f' = f := by omega
      subst e
      have := varsF_len f' ((c :: l).drop (take (c :: l)).2) m' (by omega) hm'
      simp only [List.length_cons] at *
      omega
theorem varsL_len {l : List UInt8} {m : List Nat} (h : varsL l = some m) : m.length ≤ l.length := varsF_len _ l m (Nat.le_refl _) h
theorem readF_len : ∀ (f : Nat) (l : List UInt8) (m : List Fld), l.length ≤ f → readF f l = some m → m.length ≤ l.length
  | f, [], m, _, h => by
    rw [readF_nil] at h
    cases h; simp
  | 0, _ :: _, m, hf, h => by simp at hf
  | f + 1, c :: l, m, hf, h => by
    cases ho : oneL (c :: l) with
    | none => rw [readF_no (by simp) ho] at h; cases h
    | some p =>
      obtain ⟨x, k⟩ := p
      have hb := oneL_bound ho
      obtain ⟨f', hf', hv⟩ := readF_on (f := f + 1) (by simp) hf ho
      rw [hv] at h
      obtain ⟨m', hm', rfl⟩ := Option.map_eq_some_iff.1 h
      have hd : ((c :: l).drop k).length = (c :: l).length - k := List.length_drop
      have e : f' = f := by omega
      subst e
      have := readF_len f' ((c :: l).drop k) m' (by omega) hm'
      simp only [List.length_cons] at *
      omega
theorem readL_len {l : List UInt8} {m : List Fld} (h : readL l = some m) : m.length ≤ l.length := readF_len _ l m (Nat.le_refl _) h
set_option maxHeartbeats 1000000 in
set_option maxRecDepth 100000 in
theorem reads_t (b : List UInt8) (fs ns : List Int) (x : List UInt8) (at' by' cut : Int) (hfs : ∀ n ∈ fs, in64 n) (hns : ∀ n ∈ ns, 0 ≤ n ∧ n < 18446744073709551616) (ha : in64 at') (hb0 : 0 ≤ by') (hb1 : by' ≤ 255) (hc : in64 cut) :
    Triple Go.Proofs.Try.prog 4 [sb b, .r (.sl 1 (fs.map fun n => .v (.int .i64 n))), .r (.sl 1 (ns.map fun n => .v (.int .u64 n))), sb x, int .i64 at', int .u8 by', int .i64 cut] [] (bl true) [] := by
  refine apiarylaw21_PbfReads_triple rfl (by decide) ?_
  have hmax := maxLen_big
  obtain ⟨B, hB, B0⟩ : ∃ N : Int, N = b.length ∧ 0 ≤ N := ⟨_, rfl, by omega⟩
  obtain ⟨X, hX, X0⟩ : ∃ N : Int, N = x.length ∧ 0 ≤ N := ⟨_, rfl, by omega⟩
  obtain ⟨N, hN, N0⟩ : ∃ N : Int, N = ns.length ∧ 0 ≤ N := ⟨_, rfl, by omega⟩
  obtain ⟨F, hF, F0⟩ : ∃ N : Int, N = fs.length ∧ 0 ≤ N := ⟨_, rfl, by omega⟩
  simp only [apiarylaw21_PbfReads_pc, List.length_nil, ← hB, ← hX, ← hN, ← hF, push_cast, ↓reduceIte, reduceCtorEq, Nat.reduceBEq, Nat.reduceEqDiff, Nat.reduceAdd, Nat.reduceSub, Nat.reduceLT, Nat.reduceLeDiff, Nat.reduceMul]
  repeat refine And.intro (by simp +contextual) ?_
  refine cnd_mk (fun h => ?_) (fun h => ?_)
  · simp only [push_cast, ↓reduceIte, reduceCtorEq, Nat.reduceBEq, Nat.reduceEqDiff, Nat.reduceAdd, Nat.reduceSub, Nat.reduceLT, Nat.reduceLeDiff, Nat.reduceMul]
    refine call_mk awake21_t rfl trivial ?_
    simp only [push_cast, ↓reduceIte, reduceCtorEq, Nat.reduceBEq, Nat.reduceEqDiff, Nat.reduceAdd, Nat.reduceSub, Nat.reduceLT, Nat.reduceLeDiff, Nat.reduceMul]
  have hs : B ≤ 2000 ∧ F ≤ 30 ∧ X ≤ 200 ∧ N ≤ 100 := by
    by_cases c1 : B > 2000 <;> by_cases c2 : F > 30 <;> by_cases c3 : X > 200 <;> by_cases c4 : N > 100 <;> simp [c1, c2, c3, c4] at h <;> omega
  clear h
  simp only [push_cast, ↓reduceIte, reduceCtorEq, Nat.reduceBEq, Nat.reduceEqDiff, Nat.reduceAdd, Nat.reduceSub, Nat.reduceLT, Nat.reduceLeDiff, Nat.reduceMul]
  refine run_loop [(0, false), (1, false), (2, false), (3, false), (4, false), (5, false), (6, false), (15, false), (16, false)] (fun vs pos los => ∃ (s : List UInt8) (i : Int), 0 ≤ i ∧ i ≤ F ∧ s.length ≤ 2000 * i.toNat ∧
      vs = [sb b, .r (.sl 1 (fs.map fun n => .v (.int .i64 n))), .r (.sl 1 (ns.map fun n => .v (.int .u64 n))), sb x, int .i64 at', int .u8 by', int .i64 cut, strv (bstr s), int .i64 i] ∧ pos = [] ∧ los = [])
      (fun vs _ _ => match vs with | [_, _, _, _, _, _, _, _, .r (.v (.int _ j))] => (F - j).toNat | _ => 0) rfl ?_ ?_
  · simp only [push_cast, ↓reduceIte, reduceCtorEq, Nat.reduceBEq, Nat.reduceEqDiff, Nat.reduceAdd, Nat.reduceSub, Nat.reduceLT, Nat.reduceLeDiff, Nat.reduceMul]
    exact ⟨[], 0, by omega, by omega, by simp, rfl⟩
  rintro vs pos los ⟨s, i, i0, i1, hsl, rfl, rfl, rfl⟩
  simp only [← hF, push_cast, ↓reduceIte, reduceCtorEq, Nat.reduceBEq, Nat.reduceEqDiff, Nat.reduceAdd, Nat.reduceSub, Nat.reduceLT, Nat.reduceLeDiff, Nat.reduceMul]
  refine cnd_mk (fun h => ?_) (fun h => ?_)
  · have hi : i < F := by simpa using h
    have hin : i.toNat < fs.length := by omega
    have hg : (List.map (fun n => RV.v (.int .i64 n)) fs).getD i.toNat (.v (.int .i64 0)) = .v (.int .i64 fs[i.toNat]) := by simp [List.getD, hin]
    have w4 : IntKind.i64.wrap (i + 1) = i + 1 := wrap_id (by omega)
    generalize fs[i.toNat] = q at hg
    have q0 : 0 ≤ q % 2 ^ 9 := Int.emod_nonneg q (by decide)
    have q1 : q % 2 ^ 9 < 2 ^ 9 := Int.emod_lt_of_pos q (by decide)
    have wq0 : IntKind.i64.wrap (q % 2 ^ 9 + 1) = q % 2 ^ 9 + 1 := wrap_id (by omega)
    obtain ⟨g, hgq⟩ : ∃ g, g = q % 2 ^ 9 := ⟨_, rfl⟩
    have wq : q % 2 ^ 9 + 1 = g + 1 := by rw [hgq]
    rw [← hgq] at q0 q1
    have pl := bytesL_len (g + 1) (ns.flatMap fun n => varL n.toNat)
    have pl2 := flatv_len ns
    have bl2 := bytesL_len (g + 1) x
    have hst : (i + 1).toNat = i.toNat + 1 := by omega
    have gi : in64 (g + 1) := by unfold in64; omega
    simp only [hg, and_mask q 511 9 (by decide) (by decide), wq0, w4, ← hF, push_cast, ↓reduceIte, reduceCtorEq, Nat.reduceBEq, Nat.reduceEqDiff, Nat.reduceAdd, Nat.reduceSub, Nat.reduceLT, Nat.reduceLeDiff, Nat.reduceMul]
    refine ⟨⟨i0, hi⟩, by decide, ?_⟩
    refine cnd_mk (fun h2 => ?_) (fun h2 => ?_)
    · simp only [wq, push_cast, ↓reduceIte, reduceCtorEq, Nat.reduceBEq, Nat.reduceEqDiff, Nat.reduceAdd, Nat.reduceSub, Nat.reduceLT, Nat.reduceLeDiff, Nat.reduceMul]
      refine call_mk (rpack_t (g + 1) ns gi hns (by omega)) rfl trivial ?_
      simp only [bstr_size, bstr_app, w4, push_cast, ↓reduceIte, reduceCtorEq, Nat.reduceBEq, Nat.reduceEqDiff, Nat.reduceAdd, Nat.reduceSub, Nat.reduceLT, Nat.reduceLeDiff, Nat.reduceMul]
      refine ⟨by omega, ⟨s ++ bytesL (g + 1) (ns.flatMap fun n => varL n.toNat), i + 1, by omega, by omega, by rw [List.length_append, hst]; omega, rfl⟩, by omega⟩
    · simp only [wq, push_cast, ↓reduceIte, reduceCtorEq, Nat.reduceBEq, Nat.reduceEqDiff, Nat.reduceAdd, Nat.reduceSub, Nat.reduceLT, Nat.reduceLeDiff, Nat.reduceMul]
      refine ⟨by decide, ?_⟩
      refine cnd_mk (fun h3 => ?_) (fun h3 => ?_)
      · simp only [bys_isByte, bstr_of_bys, push_cast, ↓reduceIte, reduceCtorEq, Nat.reduceBEq, Nat.reduceEqDiff, Nat.reduceAdd, Nat.reduceSub, Nat.reduceLT, Nat.reduceLeDiff, Nat.reduceMul]
        refine call_mk (rbytes_t (g + 1) x gi (by omega)) rfl trivial ?_
        simp only [bstr_size, bstr_app, w4, push_cast, ↓reduceIte, reduceCtorEq, Nat.reduceBEq, Nat.reduceEqDiff, Nat.reduceAdd, Nat.reduceSub, Nat.reduceLT, Nat.reduceLeDiff, Nat.reduceMul]
        refine ⟨by omega, ⟨s ++ bytesL (g + 1) x, i + 1, by omega, by omega, by rw [List.length_append, hst]; omega, rfl⟩, by omega⟩
      · simp only [← hN, push_cast, ↓reduceIte, reduceCtorEq, Nat.reduceBEq, Nat.reduceEqDiff, Nat.reduceAdd, Nat.reduceSub, Nat.reduceLT, Nat.reduceLeDiff, Nat.reduceMul]
        refine cnd_mk (fun h4 => ?_) (fun h4 => ?_)
        · have h4 : i < N := by simpa using h4
          have hin2 : i.toNat < ns.length := by omega
          have hb := hns _ (List.getElem_mem hin2)
          have hg2 : (List.map (fun n => RV.v (.int .u64 n)) ns).getD i.toNat (.v (.int .u64 0)) = .v (.int .u64 ns[i.toNat]) := by simp [List.getD, hin2]
          have nl2 := numL_len (g + 1) ns[i.toNat]
          simp only [hg2, ← hN, push_cast, ↓reduceIte, reduceCtorEq, Nat.reduceBEq, Nat.reduceEqDiff, Nat.reduceAdd, Nat.reduceSub, Nat.reduceLT, Nat.reduceLeDiff, Nat.reduceMul]
          refine ⟨⟨i0, h4⟩, ?_⟩
          refine call_mk (rnum_t (g + 1) _ gi hb.1 hb.2) rfl trivial ?_
          simp only [bstr_size, bstr_app, w4, push_cast, ↓reduceIte, reduceCtorEq, Nat.reduceBEq, Nat.reduceEqDiff, Nat.reduceAdd, Nat.reduceSub, Nat.reduceLT, Nat.reduceLeDiff, Nat.reduceMul]
          refine ⟨by omega, ⟨s ++ numL (g + 1) ns[i.toNat], i + 1, by omega, by omega, by rw [List.length_append, hst]; omega, rfl⟩, by omega⟩
        · simp only [w4, push_cast, ↓reduceIte, reduceCtorEq, Nat.reduceBEq, Nat.reduceEqDiff, Nat.reduceAdd, Nat.reduceSub, Nat.reduceLT, Nat.reduceLeDiff, Nat.reduceMul]
          exact ⟨⟨s, i + 1, by omega, by omega, by rw [hst]; omega, rfl⟩, by omega⟩
  have h : i = F := by have : ¬ i < F := by simpa using h
                       omega
  obtain ⟨S, hS, S0, S1⟩ : ∃ S : Int, S = s.length ∧ 0 ≤ S ∧ S ≤ 60000 := ⟨_, rfl, by omega, by omega⟩
  simp only [bstr_size, bstr_data, ← hS, push_cast, ↓reduceIte, reduceCtorEq, Nat.reduceBEq, Nat.reduceEqDiff, Nat.reduceAdd, Nat.reduceSub, Nat.reduceLT, Nat.reduceLeDiff, Nat.reduceMul]
  refine ⟨by omega, ?_⟩
  refine cnd_join (fun e ob => ∃ c : List UInt8, c.length = s.length ∧ e 0 = sb b ∧ e 6 = int .i64 cut ∧ e 15 = strv (bstr s) ∧ e 18 = .own 94 0 0 s.length ∧ ob = upd 94 (0, .row 1 (.v (.int .u8 0)) false true (bys c)) fun _ => none) ?_ (fun h2 => ?_) (fun h2 => ?_)
  · rintro e ob ⟨c, hcl, e0, e6, e15, e18, rfl⟩
    have ws1 : IntKind.i64.wrap (S + 1) = S + 1 := wrap_id (by omega)
    have m0 : 0 ≤ cut % 2 ^ 8 := Int.emod_nonneg _ (by decide)
    obtain ⟨M, hM, M0, M1⟩ : ∃ M, (cut % 2 ^ 8).tmod (S + 1) = M ∧ 0 ≤ M ∧ M ≤ S := by
      refine ⟨_, rfl, ?_, ?_⟩
      · rw [Int.tmod_eq_emod_of_nonneg m0]; exact Int.emod_nonneg _ (by omega)
      · rw [Int.tmod_eq_emod_of_nonneg m0]; have := Int.emod_lt_of_pos (cut % 2 ^ 8) (show 0 < S + 1 by omega); omega
    have wd : IntKind.i64.wrap (S - M) = S - M := wrap_id (by omega)
    have z0 : Int.toNat 0 = 0 := rfl
    obtain ⟨D, hD⟩ : ∃ D, D = (S - M).toNat := ⟨_, rfl⟩
    have DS : D ≤ c.length := by omega
    simp only [e0, e6, e15, e18, ← hS, and_mask cut 255 8 (by decide) (by decide), ws1, hM, wd, z0, Nat.zero_add, Int.sub_zero, ← hD, push_cast, ↓reduceIte, reduceCtorEq, Nat.reduceBEq, Nat.reduceEqDiff, Nat.reduceAdd, Nat.reduceSub, Nat.reduceLT, Nat.reduceLeDiff, Nat.reduceMul]
    refine ⟨by omega, ⟨by omega, by omega, by omega, by omega⟩, ?_⟩
    refine run_loop [(0, false), (15, false), (18, false), (19, false)] (fun vs pos los => ∃ (i : Int) (wr : Bool), 0 ≤ i ∧ i ≤ 3 ∧ vs = [sb b, strv (bstr s), .own 2000000 0 0 D, int .i64 i] ∧ pos = [] ∧ los = [.row 1 (.v (.int .u8 0)) false wr (bys c)])
      (fun vs _ _ => match vs with | [_, _, _, .r (.v (.int _ j))] => (3 - j).toNat | _ => 0) rfl ?_ ?_
    · simp only [e0, e15, push_cast, ↓reduceIte, reduceCtorEq, Nat.reduceBEq, Nat.reduceEqDiff, Nat.reduceAdd, Nat.reduceSub, Nat.reduceLT, Nat.reduceLeDiff, Nat.reduceMul]
      exact ⟨0, true, by omega, by omega, rfl, rfl⟩
    rintro vs pos los ⟨i, wr, i0, i1, rfl, rfl, rfl⟩
    simp only [push_cast, ↓reduceIte, reduceCtorEq, Nat.reduceBEq, Nat.reduceEqDiff, Nat.reduceAdd, Nat.reduceSub, Nat.reduceLT, Nat.reduceLeDiff, Nat.reduceMul]
    refine cnd_mk (fun h => ?_) (fun h => ?_)
    · have hi : i < 3 := by simpa using h
      have hcd : (c.take D).length = D := by rw [List.length_take]; omega
      have hmap : (List.map (fun b : UInt8 => RV.v (.int .u8 b.toNat)) s) = List.map by8 s := rfl
      obtain ⟨y, hy, hyl⟩ : ∃ y : List UInt8, [RV.sl 1 (bys b), RV.sl 1 (List.take D (bys c)), RV.sl 1 (List.map by8 s)].getD i.toNat (.sl 1 []) = .sl 1 (bys y) ∧ y.length ≤ 60000 := by
        rcases (show i = 0 ∨ i = 1 ∨ i = 2 by omega) with h | h | h
        · exact ⟨b, by rw [h]; rfl, by omega⟩
        · exact ⟨c.take D, by rw [h]; show RV.sl 1 (List.take D (List.map by8 c)) = RV.sl 1 (List.map by8 (c.take D)); rw [List.map_take], by omega⟩
        · exact ⟨s, by rw [h]; rfl, by omega⟩
      have w4 : IntKind.i64.wrap (i + 1) = i + 1 := wrap_id (by omega)
      have t1 := read_t y (by omega)
      have t2 := rfields_t y (by omega)
      have t3 := vars_t y (by omega)
      have t4 := rvars_t y (by omega)
      simp only [bstr_size, bstr_data, Nat.zero_add, hmap, hy, push_cast, ↓reduceIte, reduceCtorEq, Nat.reduceBEq, Nat.reduceEqDiff, Nat.reduceAdd, Nat.reduceSub, Nat.reduceLT, Nat.reduceLeDiff, Nat.reduceMul]
      refine ⟨by omega, by simp, ⟨by omega, by omega⟩, ?_⟩
      have hml : ∀ m, readL y = some m → m.length ≤ 60000 := fun m h => by have := readL_len h; omega
      have hvl : ∀ m, varsL y = some m → m.length ≤ 60000 := fun m h => by have := varsL_len h; omega
      rcases hr : readL y with _ | m
      · rw [hr] at t1 t2
        simp only [readR, readO] at t1 t2
        rcases hv : varsL y with _ | n2
        · rw [hv] at t3 t4
          simp only [varsR, varsO] at t3 t4
          refine call_as (as' := [sb y]) rfl ?_
          refine call_mk t1 rfl trivial ?_
          simp only [bys_isByte, bstr_of_bys, push_cast, ↓reduceIte, reduceCtorEq, Nat.reduceBEq, Nat.reduceEqDiff, Nat.reduceAdd, Nat.reduceSub, Nat.reduceLT, Nat.reduceLeDiff, Nat.reduceMul]
          refine call_mk t2 rfl trivial ?_
          simp only [push_cast, ↓reduceIte, reduceCtorEq, Nat.reduceBEq, Nat.reduceEqDiff, Nat.reduceAdd, Nat.reduceSub, Nat.reduceLT, Nat.reduceLeDiff, Nat.reduceMul]
          refine call_as (as' := [sb y]) rfl ?_
          refine call_mk t3 rfl trivial ?_
          simp only [bys_isByte, bstr_of_bys, push_cast, ↓reduceIte, reduceCtorEq, Nat.reduceBEq, Nat.reduceEqDiff, Nat.reduceAdd, Nat.reduceSub, Nat.reduceLT, Nat.reduceLeDiff, Nat.reduceMul]
          refine call_mk t4 rfl trivial ?_
          simp only [bne_self_eq_false, push_cast, ↓reduceIte, reduceCtorEq, Nat.reduceBEq, Nat.reduceEqDiff, Nat.reduceAdd, Nat.reduceSub, Nat.reduceLT, Nat.reduceLeDiff, Nat.reduceMul]
          refine call_mk (same_t [] (by simp)) rfl trivial ?_
          simp only [bne_self_eq_false, push_cast, ↓reduceIte, reduceCtorEq, Nat.reduceBEq, Nat.reduceEqDiff, Nat.reduceAdd, Nat.reduceSub, Nat.reduceLT, Nat.reduceLeDiff, Nat.reduceMul]
          refine run_loop [(0, false), (15, false), (18, false), (19, false), (21, false), (23, false), (29, false)] (fun vs pos los => vs = [sb b, strv (bstr s), .own 2000000 0 0 D, int .i64 i, nilF, nilF, int .i64 0] ∧ pos = [] ∧ los = [.row 1 (.v (.int .u8 0)) false false (bys c)])
            (fun _ _ _ => 0) rfl ?_ ?_
          · simp only [push_cast, ↓reduceIte, reduceCtorEq, Nat.reduceBEq, Nat.reduceEqDiff, Nat.reduceAdd, Nat.reduceSub, Nat.reduceLT, Nat.reduceLeDiff, Nat.reduceMul]
          · rintro vs pos los ⟨rfl, rfl, rfl⟩
            simp only [push_cast, ↓reduceIte, reduceCtorEq, Nat.reduceBEq, Nat.reduceEqDiff, Nat.reduceAdd, Nat.reduceSub, Nat.reduceLT, Nat.reduceLeDiff, Nat.reduceMul]
            refine cnd_mk (fun h => absurd h (by simp)) (fun h => ?_)
            simp only [w4, push_cast, ↓reduceIte, reduceCtorEq, Nat.reduceBEq, Nat.reduceEqDiff, Nat.reduceAdd, Nat.reduceSub, Nat.reduceLT, Nat.reduceLeDiff, Nat.reduceMul]
            exact ⟨⟨i + 1, false, by omega, by omega, rfl, rfl⟩, by omega⟩
        by_cases hn0 : n2 = []
        · rw [hv, hn0] at t3 t4
          simp only [varsR, varsO] at t3 t4
          refine call_as (as' := [sb y]) rfl ?_
          refine call_mk t1 rfl trivial ?_
          simp only [bys_isByte, bstr_of_bys, push_cast, ↓reduceIte, reduceCtorEq, Nat.reduceBEq, Nat.reduceEqDiff, Nat.reduceAdd, Nat.reduceSub, Nat.reduceLT, Nat.reduceLeDiff, Nat.reduceMul]
          refine call_mk t2 rfl trivial ?_
          simp only [push_cast, ↓reduceIte, reduceCtorEq, Nat.reduceBEq, Nat.reduceEqDiff, Nat.reduceAdd, Nat.reduceSub, Nat.reduceLT, Nat.reduceLeDiff, Nat.reduceMul]
          refine call_as (as' := [sb y]) rfl ?_
          refine call_mk t3 rfl trivial ?_
          simp only [bys_isByte, bstr_of_bys, push_cast, ↓reduceIte, reduceCtorEq, Nat.reduceBEq, Nat.reduceEqDiff, Nat.reduceAdd, Nat.reduceSub, Nat.reduceLT, Nat.reduceLeDiff, Nat.reduceMul]
          refine call_mk t4 rfl trivial ?_
          simp only [bne_self_eq_false, push_cast, ↓reduceIte, reduceCtorEq, Nat.reduceBEq, Nat.reduceEqDiff, Nat.reduceAdd, Nat.reduceSub, Nat.reduceLT, Nat.reduceLeDiff, Nat.reduceMul]
          refine call_mk (same_t [] (by simp)) rfl trivial ?_
          simp only [bne_self_eq_false, push_cast, ↓reduceIte, reduceCtorEq, Nat.reduceBEq, Nat.reduceEqDiff, Nat.reduceAdd, Nat.reduceSub, Nat.reduceLT, Nat.reduceLeDiff, Nat.reduceMul]
          refine run_loop [(0, false), (15, false), (18, false), (19, false), (21, false), (23, false), (29, false)] (fun vs pos los => vs = [sb b, strv (bstr s), .own 2000000 0 0 D, int .i64 i, nilF, nilF, int .i64 0] ∧ pos = [] ∧ los = [.row 1 (.v (.int .u8 0)) false false (bys c)])
            (fun _ _ _ => 0) rfl ?_ ?_
          · simp only [push_cast, ↓reduceIte, reduceCtorEq, Nat.reduceBEq, Nat.reduceEqDiff, Nat.reduceAdd, Nat.reduceSub, Nat.reduceLT, Nat.reduceLeDiff, Nat.reduceMul]
          · rintro vs pos los ⟨rfl, rfl, rfl⟩
            simp only [push_cast, ↓reduceIte, reduceCtorEq, Nat.reduceBEq, Nat.reduceEqDiff, Nat.reduceAdd, Nat.reduceSub, Nat.reduceLT, Nat.reduceLeDiff, Nat.reduceMul]
            refine cnd_mk (fun h => absurd h (by simp)) (fun h => ?_)
            simp only [w4, push_cast, ↓reduceIte, reduceCtorEq, Nat.reduceBEq, Nat.reduceEqDiff, Nat.reduceAdd, Nat.reduceSub, Nat.reduceLT, Nat.reduceLeDiff, Nat.reduceMul]
            exact ⟨⟨i + 1, false, by omega, by omega, rfl, rfl⟩, by omega⟩
        · rw [hv, (varsR_some hn0).1, (varsR_some hn0).2] at t3 t4
          have hnl : n2.length ≤ 60000 := hvl n2 hv
          refine call_as (as' := [sb y]) rfl ?_
          refine call_mk t1 rfl trivial ?_
          simp only [bys_isByte, bstr_of_bys, push_cast, ↓reduceIte, reduceCtorEq, Nat.reduceBEq, Nat.reduceEqDiff, Nat.reduceAdd, Nat.reduceSub, Nat.reduceLT, Nat.reduceLeDiff, Nat.reduceMul]
          refine call_mk t2 rfl trivial ?_
          simp only [push_cast, ↓reduceIte, reduceCtorEq, Nat.reduceBEq, Nat.reduceEqDiff, Nat.reduceAdd, Nat.reduceSub, Nat.reduceLT, Nat.reduceLeDiff, Nat.reduceMul]
          refine call_as (as' := [sb y]) rfl ?_
          refine call_mk t3 rfl trivial ?_
          simp only [bys_isByte, bstr_of_bys, push_cast, ↓reduceIte, reduceCtorEq, Nat.reduceBEq, Nat.reduceEqDiff, Nat.reduceAdd, Nat.reduceSub, Nat.reduceLT, Nat.reduceLeDiff, Nat.reduceMul]
          refine call_mk t4 rfl trivial ?_
          simp only [bne_self_eq_false, push_cast, ↓reduceIte, reduceCtorEq, Nat.reduceBEq, Nat.reduceEqDiff, Nat.reduceAdd, Nat.reduceSub, Nat.reduceLT, Nat.reduceLeDiff, Nat.reduceMul]
          refine callA_give ?_
          simp only [take_nums, push_cast, ↓reduceIte, reduceCtorEq, Nat.reduceBEq, Nat.reduceEqDiff, Nat.reduceAdd, Nat.reduceSub, Nat.reduceLT, Nat.reduceLeDiff, Nat.reduceMul]
          refine call_mk (same_t n2 (by omega)) rfl trivial ?_
          simp only [bne_self_eq_false, push_cast, ↓reduceIte, reduceCtorEq, Nat.reduceBEq, Nat.reduceEqDiff, Nat.reduceAdd, Nat.reduceSub, Nat.reduceLT, Nat.reduceLeDiff, Nat.reduceMul]
          refine run_loop [(0, false), (15, false), (18, false), (19, false), (21, false), (23, false), (29, false)] (fun vs pos los => vs = [sb b, strv (bstr s), .own 2000000 0 0 D, int .i64 i, nilF, nilF, int .i64 0] ∧ pos = [] ∧ los = [.row 1 (.v (.int .u8 0)) false false (bys c)])
            (fun _ _ _ => 0) rfl ?_ ?_
          · simp only [push_cast, ↓reduceIte, reduceCtorEq, Nat.reduceBEq, Nat.reduceEqDiff, Nat.reduceAdd, Nat.reduceSub, Nat.reduceLT, Nat.reduceLeDiff, Nat.reduceMul]
          · rintro vs pos los ⟨rfl, rfl, rfl⟩
            simp only [push_cast, ↓reduceIte, reduceCtorEq, Nat.reduceBEq, Nat.reduceEqDiff, Nat.reduceAdd, Nat.reduceSub, Nat.reduceLT, Nat.reduceLeDiff, Nat.reduceMul]
            refine cnd_mk (fun h => absurd h (by simp)) (fun h => ?_)
            simp only [w4, push_cast, ↓reduceIte, reduceCtorEq, Nat.reduceBEq, Nat.reduceEqDiff, Nat.reduceAdd, Nat.reduceSub, Nat.reduceLT, Nat.reduceLeDiff, Nat.reduceMul]
            exact ⟨⟨i + 1, false, by omega, by omega, rfl, rfl⟩, by omega⟩
      by_cases hm0 : m = []
      · rw [hr, hm0] at t1 t2
        simp only [readR, readO] at t1 t2
        rcases hv : varsL y with _ | n2
        · rw [hv] at t3 t4
          simp only [varsR, varsO] at t3 t4
          refine call_as (as' := [sb y]) rfl ?_
          refine call_mk t1 rfl trivial ?_
          simp only [bys_isByte, bstr_of_bys, push_cast, ↓reduceIte, reduceCtorEq, Nat.reduceBEq, Nat.reduceEqDiff, Nat.reduceAdd, Nat.reduceSub, Nat.reduceLT, Nat.reduceLeDiff, Nat.reduceMul]
          refine call_mk t2 rfl trivial ?_
          simp only [push_cast, ↓reduceIte, reduceCtorEq, Nat.reduceBEq, Nat.reduceEqDiff, Nat.reduceAdd, Nat.reduceSub, Nat.reduceLT, Nat.reduceLeDiff, Nat.reduceMul]
          refine call_as (as' := [sb y]) rfl ?_
          refine call_mk t3 rfl trivial ?_
          simp only [bys_isByte, bstr_of_bys, push_cast, ↓reduceIte, reduceCtorEq, Nat.reduceBEq, Nat.reduceEqDiff, Nat.reduceAdd, Nat.reduceSub, Nat.reduceLT, Nat.reduceLeDiff, Nat.reduceMul]
          refine call_mk t4 rfl trivial ?_
          simp only [bne_self_eq_false, push_cast, ↓reduceIte, reduceCtorEq, Nat.reduceBEq, Nat.reduceEqDiff, Nat.reduceAdd, Nat.reduceSub, Nat.reduceLT, Nat.reduceLeDiff, Nat.reduceMul]
          refine call_mk (same_t [] (by simp)) rfl trivial ?_
          simp only [bne_self_eq_false, push_cast, ↓reduceIte, reduceCtorEq, Nat.reduceBEq, Nat.reduceEqDiff, Nat.reduceAdd, Nat.reduceSub, Nat.reduceLT, Nat.reduceLeDiff, Nat.reduceMul]
          refine run_loop [(0, false), (15, false), (18, false), (19, false), (21, false), (23, false), (29, false)] (fun vs pos los => vs = [sb b, strv (bstr s), .own 2000000 0 0 D, int .i64 i, nilF, nilF, int .i64 0] ∧ pos = [] ∧ los = [.row 1 (.v (.int .u8 0)) false false (bys c)])
            (fun _ _ _ => 0) rfl ?_ ?_
          · simp only [push_cast, ↓reduceIte, reduceCtorEq, Nat.reduceBEq, Nat.reduceEqDiff, Nat.reduceAdd, Nat.reduceSub, Nat.reduceLT, Nat.reduceLeDiff, Nat.reduceMul]
          · rintro vs pos los ⟨rfl, rfl, rfl⟩
            simp only [push_cast, ↓reduceIte, reduceCtorEq, Nat.reduceBEq, Nat.reduceEqDiff, Nat.reduceAdd, Nat.reduceSub, Nat.reduceLT, Nat.reduceLeDiff, Nat.reduceMul]
            refine cnd_mk (fun h => absurd h (by simp)) (fun h => ?_)
            simp only [w4, push_cast, ↓reduceIte, reduceCtorEq, Nat.reduceBEq, Nat.reduceEqDiff, Nat.reduceAdd, Nat.reduceSub, Nat.reduceLT, Nat.reduceLeDiff, Nat.reduceMul]
            exact ⟨⟨i + 1, false, by omega, by omega, rfl, rfl⟩, by omega⟩
        by_cases hn0 : n2 = []
        · rw [hv, hn0] at t3 t4
          simp only [varsR, varsO] at t3 t4
          refine call_as (as' := [sb y]) rfl ?_
          refine call_mk t1 rfl trivial ?_
          simp only [bys_isByte, bstr_of_bys, push_cast, ↓reduceIte, reduceCtorEq, Nat.reduceBEq, Nat.reduceEqDiff, Nat.reduceAdd, Nat.reduceSub, Nat.reduceLT, Nat.reduceLeDiff, Nat.reduceMul]
          refine call_mk t2 rfl trivial ?_
          simp only [push_cast, ↓reduceIte, reduceCtorEq, Nat.reduceBEq, Nat.reduceEqDiff, Nat.reduceAdd, Nat.reduceSub, Nat.reduceLT, Nat.reduceLeDiff, Nat.reduceMul]
          refine call_as (as' := [sb y]) rfl ?_
          refine call_mk t3 rfl trivial ?_
          simp only [bys_isByte, bstr_of_bys, push_cast, ↓reduceIte, reduceCtorEq, Nat.reduceBEq, Nat.reduceEqDiff, Nat.reduceAdd, Nat.reduceSub, Nat.reduceLT, Nat.reduceLeDiff, Nat.reduceMul]
          refine call_mk t4 rfl trivial ?_
          simp only [bne_self_eq_false, push_cast, ↓reduceIte, reduceCtorEq, Nat.reduceBEq, Nat.reduceEqDiff, Nat.reduceAdd, Nat.reduceSub, Nat.reduceLT, Nat.reduceLeDiff, Nat.reduceMul]
          refine call_mk (same_t [] (by simp)) rfl trivial ?_
          simp only [bne_self_eq_false, push_cast, ↓reduceIte, reduceCtorEq, Nat.reduceBEq, Nat.reduceEqDiff, Nat.reduceAdd, Nat.reduceSub, Nat.reduceLT, Nat.reduceLeDiff, Nat.reduceMul]
          refine run_loop [(0, false), (15, false), (18, false), (19, false), (21, false), (23, false), (29, false)] (fun vs pos los => vs = [sb b, strv (bstr s), .own 2000000 0 0 D, int .i64 i, nilF, nilF, int .i64 0] ∧ pos = [] ∧ los = [.row 1 (.v (.int .u8 0)) false false (bys c)])
            (fun _ _ _ => 0) rfl ?_ ?_
          · simp only [push_cast, ↓reduceIte, reduceCtorEq, Nat.reduceBEq, Nat.reduceEqDiff, Nat.reduceAdd, Nat.reduceSub, Nat.reduceLT, Nat.reduceLeDiff, Nat.reduceMul]
          · rintro vs pos los ⟨rfl, rfl, rfl⟩
            simp only [push_cast, ↓reduceIte, reduceCtorEq, Nat.reduceBEq, Nat.reduceEqDiff, Nat.reduceAdd, Nat.reduceSub, Nat.reduceLT, Nat.reduceLeDiff, Nat.reduceMul]
            refine cnd_mk (fun h => absurd h (by simp)) (fun h => ?_)
            simp only [w4, push_cast, ↓reduceIte, reduceCtorEq, Nat.reduceBEq, Nat.reduceEqDiff, Nat.reduceAdd, Nat.reduceSub, Nat.reduceLT, Nat.reduceLeDiff, Nat.reduceMul]
            exact ⟨⟨i + 1, false, by omega, by omega, rfl, rfl⟩, by omega⟩
        · rw [hv, (varsR_some hn0).1, (varsR_some hn0).2] at t3 t4
          have hnl : n2.length ≤ 60000 := hvl n2 hv
          refine call_as (as' := [sb y]) rfl ?_
          refine call_mk t1 rfl trivial ?_
          simp only [bys_isByte, bstr_of_bys, push_cast, ↓reduceIte, reduceCtorEq, Nat.reduceBEq, Nat.reduceEqDiff, Nat.reduceAdd, Nat.reduceSub, Nat.reduceLT, Nat.reduceLeDiff, Nat.reduceMul]
          refine call_mk t2 rfl trivial ?_
          simp only [push_cast, ↓reduceIte, reduceCtorEq, Nat.reduceBEq, Nat.reduceEqDiff, Nat.reduceAdd, Nat.reduceSub, Nat.reduceLT, Nat.reduceLeDiff, Nat.reduceMul]
          refine call_as (as' := [sb y]) rfl ?_
          refine call_mk t3 rfl trivial ?_
          simp only [bys_isByte, bstr_of_bys, push_cast, ↓reduceIte, reduceCtorEq, Nat.reduceBEq, Nat.reduceEqDiff, Nat.reduceAdd, Nat.reduceSub, Nat.reduceLT, Nat.reduceLeDiff, Nat.reduceMul]
          refine call_mk t4 rfl trivial ?_
          simp only [bne_self_eq_false, push_cast, ↓reduceIte, reduceCtorEq, Nat.reduceBEq, Nat.reduceEqDiff, Nat.reduceAdd, Nat.reduceSub, Nat.reduceLT, Nat.reduceLeDiff, Nat.reduceMul]
          refine callA_give ?_
          simp only [take_nums, push_cast, ↓reduceIte, reduceCtorEq, Nat.reduceBEq, Nat.reduceEqDiff, Nat.reduceAdd, Nat.reduceSub, Nat.reduceLT, Nat.reduceLeDiff, Nat.reduceMul]
          refine call_mk (same_t n2 (by omega)) rfl trivial ?_
          simp only [bne_self_eq_false, push_cast, ↓reduceIte, reduceCtorEq, Nat.reduceBEq, Nat.reduceEqDiff, Nat.reduceAdd, Nat.reduceSub, Nat.reduceLT, Nat.reduceLeDiff, Nat.reduceMul]
          refine run_loop [(0, false), (15, false), (18, false), (19, false), (21, false), (23, false), (29, false)] (fun vs pos los => vs = [sb b, strv (bstr s), .own 2000000 0 0 D, int .i64 i, nilF, nilF, int .i64 0] ∧ pos = [] ∧ los = [.row 1 (.v (.int .u8 0)) false false (bys c)])
            (fun _ _ _ => 0) rfl ?_ ?_
          · simp only [push_cast, ↓reduceIte, reduceCtorEq, Nat.reduceBEq, Nat.reduceEqDiff, Nat.reduceAdd, Nat.reduceSub, Nat.reduceLT, Nat.reduceLeDiff, Nat.reduceMul]
          · rintro vs pos los ⟨rfl, rfl, rfl⟩
            simp only [push_cast, ↓reduceIte, reduceCtorEq, Nat.reduceBEq, Nat.reduceEqDiff, Nat.reduceAdd, Nat.reduceSub, Nat.reduceLT, Nat.reduceLeDiff, Nat.reduceMul]
            refine cnd_mk (fun h => absurd h (by simp)) (fun h => ?_)
            simp only [w4, push_cast, ↓reduceIte, reduceCtorEq, Nat.reduceBEq, Nat.reduceEqDiff, Nat.reduceAdd, Nat.reduceSub, Nat.reduceLT, Nat.reduceLeDiff, Nat.reduceMul]
            exact ⟨⟨i + 1, false, by omega, by omega, rfl, rfl⟩, by omega⟩
      · rw [hr, (readR_some hm0).1, (readR_some hm0).2] at t1 t2
        obtain ⟨G, hG, G0⟩ : ∃ G : Int, G = m.length ∧ 0 ≤ G := ⟨_, rfl, by omega⟩
        have hGl : m.length ≤ 60000 := hml m hr
        rcases hv : varsL y with _ | n2
        · rw [hv] at t3 t4
          simp only [varsR, varsO] at t3 t4
          refine call_as (as' := [sb y]) rfl ?_
          refine call_mk t1 rfl trivial ?_
          simp only [bys_isByte, bstr_of_bys, push_cast, ↓reduceIte, reduceCtorEq, Nat.reduceBEq, Nat.reduceEqDiff, Nat.reduceAdd, Nat.reduceSub, Nat.reduceLT, Nat.reduceLeDiff, Nat.reduceMul]
          refine call_mk t2 rfl trivial ?_
          simp only [push_cast, ↓reduceIte, reduceCtorEq, Nat.reduceBEq, Nat.reduceEqDiff, Nat.reduceAdd, Nat.reduceSub, Nat.reduceLT, Nat.reduceLeDiff, Nat.reduceMul]
          refine call_as (as' := [sb y]) rfl ?_
          refine call_mk t3 rfl trivial ?_
          simp only [bys_isByte, bstr_of_bys, push_cast, ↓reduceIte, reduceCtorEq, Nat.reduceBEq, Nat.reduceEqDiff, Nat.reduceAdd, Nat.reduceSub, Nat.reduceLT, Nat.reduceLeDiff, Nat.reduceMul]
          refine call_mk t4 rfl trivial ?_
          simp only [bne_self_eq_false, push_cast, ↓reduceIte, reduceCtorEq, Nat.reduceBEq, Nat.reduceEqDiff, Nat.reduceAdd, Nat.reduceSub, Nat.reduceLT, Nat.reduceLeDiff, Nat.reduceMul]
          refine call_mk (same_t [] (by simp)) rfl trivial ?_
          simp only [bne_self_eq_false, push_cast, ↓reduceIte, reduceCtorEq, Nat.reduceBEq, Nat.reduceEqDiff, Nat.reduceAdd, Nat.reduceSub, Nat.reduceLT, Nat.reduceLeDiff, Nat.reduceMul]
          refine run_loop [(0, false), (15, false), (18, false), (19, false), (21, false), (23, false), (29, false)] (fun vs pos los => ∃ q : Int, 0 ≤ q ∧ q ≤ G ∧ vs = [sb b, strv (bstr s), .own 2000000 0 0 D, int .i64 i, .own 2000001 0 0 m.length, .own 2000002 0 0 m.length, int .i64 q] ∧ pos = [] ∧ los = [.row 1 (.v (.int .u8 0)) false false (bys c), rowF m, rowF m])
            (fun vs _ _ => match vs with | [_, _, _, _, _, _, .r (.v (.int _ j))] => (G - j).toNat | _ => 0) rfl ?_ ?_
          · simp only [push_cast, ↓reduceIte, reduceCtorEq, Nat.reduceBEq, Nat.reduceEqDiff, Nat.reduceAdd, Nat.reduceSub, Nat.reduceLT, Nat.reduceLeDiff, Nat.reduceMul]
            exact ⟨0, by omega, by omega, rfl⟩
          · rintro vs pos los ⟨q, q0, q1, rfl, rfl, rfl⟩
            simp only [← hG, push_cast, ↓reduceIte, reduceCtorEq, Nat.reduceBEq, Nat.reduceEqDiff, Nat.reduceAdd, Nat.reduceSub, Nat.reduceLT, Nat.reduceLeDiff, Nat.reduceMul]
            refine cnd_mk (fun h => ?_) (fun h => ?_)
            · have hq : q < G := by simpa using h
              have hqn : q.toNat < m.length := by omega
              have hgq : (List.map fldV m).getD q.toNat (.agg [.v (.int .i64 0), .v (.int .i64 0), .v (.int .u64 0), .sl 1 []]) = .agg [.v (.int .i64 (m[q.toNat].1 : Nat)), .v (.int .i64 (m[q.toNat].2.1 : Nat)), .v (.int .u64 (m[q.toNat].2.2.1 : Nat)), .sl 1 (bys m[q.toNat].2.2.2)] := by
                simp [List.getD, hqn, fldV]
              have wq : IntKind.i64.wrap (q + 1) = q + 1 := wrap_id (by omega)
              simp only [← hG, Nat.zero_add, hgq, bne_self_eq_false, bys_isByte, bstr_of_bys, beq_self_eq_true, wq, push_cast, ↓reduceIte, reduceCtorEq, Nat.reduceBEq, Nat.reduceEqDiff, Nat.reduceAdd, Nat.reduceSub, Nat.reduceLT, Nat.reduceLeDiff, Nat.reduceMul]
              repeat refine And.intro ⟨q0, hq⟩ ?_
              exact ⟨(by kernel_rfl), ⟨q + 1, by omega, by omega, rfl⟩, by omega⟩
            · simp only [w4, push_cast, ↓reduceIte, reduceCtorEq, Nat.reduceBEq, Nat.reduceEqDiff, Nat.reduceAdd, Nat.reduceSub, Nat.reduceLT, Nat.reduceLeDiff, Nat.reduceMul]
              exact ⟨⟨i + 1, false, by omega, by omega, rfl, rfl⟩, by omega⟩
        by_cases hn0 : n2 = []
        · rw [hv, hn0] at t3 t4
          simp only [varsR, varsO] at t3 t4
          refine call_as (as' := [sb y]) rfl ?_
          refine call_mk t1 rfl trivial ?_
          simp only [bys_isByte, bstr_of_bys, push_cast, ↓reduceIte, reduceCtorEq, Nat.reduceBEq, Nat.reduceEqDiff, Nat.reduceAdd, Nat.reduceSub, Nat.reduceLT, Nat.reduceLeDiff, Nat.reduceMul]
          refine call_mk t2 rfl trivial ?_
          simp only [push_cast, ↓reduceIte, reduceCtorEq, Nat.reduceBEq, Nat.reduceEqDiff, Nat.reduceAdd, Nat.reduceSub, Nat.reduceLT, Nat.reduceLeDiff, Nat.reduceMul]
          refine call_as (as' := [sb y]) rfl ?_
          refine call_mk t3 rfl trivial ?_
          simp only [bys_isByte, bstr_of_bys, push_cast, ↓reduceIte, reduceCtorEq, Nat.reduceBEq, Nat.reduceEqDiff, Nat.reduceAdd, Nat.reduceSub, Nat.reduceLT, Nat.reduceLeDiff, Nat.reduceMul]
          refine call_mk t4 rfl trivial ?_
          simp only [bne_self_eq_false, push_cast, ↓reduceIte, reduceCtorEq, Nat.reduceBEq, Nat.reduceEqDiff, Nat.reduceAdd, Nat.reduceSub, Nat.reduceLT, Nat.reduceLeDiff, Nat.reduceMul]
          refine call_mk (same_t [] (by simp)) rfl trivial ?_
          simp only [bne_self_eq_false, push_cast, ↓reduceIte, reduceCtorEq, Nat.reduceBEq, Nat.reduceEqDiff, Nat.reduceAdd, Nat.reduceSub, Nat.reduceLT, Nat.reduceLeDiff, Nat.reduceMul]
          refine run_loop [(0, false), (15, false), (18, false), (19, false), (21, false), (23, false), (29, false)] (fun vs pos los => ∃ q : Int, 0 ≤ q ∧ q ≤ G ∧ vs = [sb b, strv (bstr s), .own 2000000 0 0 D, int .i64 i, .own 2000001 0 0 m.length, .own 2000002 0 0 m.length, int .i64 q] ∧ pos = [] ∧ los = [.row 1 (.v (.int .u8 0)) false false (bys c), rowF m, rowF m])
            (fun vs _ _ => match vs with | [_, _, _, _, _, _, .r (.v (.int _ j))] => (G - j).toNat | _ => 0) rfl ?_ ?_
          · simp only [push_cast, ↓reduceIte, reduceCtorEq, Nat.reduceBEq, Nat.reduceEqDiff, Nat.reduceAdd, Nat.reduceSub, Nat.reduceLT, Nat.reduceLeDiff, Nat.reduceMul]
            exact ⟨0, by omega, by omega, rfl⟩
          · rintro vs pos los ⟨q, q0, q1, rfl, rfl, rfl⟩
            simp only [← hG, push_cast, ↓reduceIte, reduceCtorEq, Nat.reduceBEq, Nat.reduceEqDiff, Nat.reduceAdd, Nat.reduceSub, Nat.reduceLT, Nat.reduceLeDiff, Nat.reduceMul]
            refine cnd_mk (fun h => ?_) (fun h => ?_)
            · have hq : q < G := by simpa using h
              have hqn : q.toNat < m.length := by omega
              have hgq : (List.map fldV m).getD q.toNat (.agg [.v (.int .i64 0), .v (.int .i64 0), .v (.int .u64 0), .sl 1 []]) = .agg [.v (.int .i64 (m[q.toNat].1 : Nat)), .v (.int .i64 (m[q.toNat].2.1 : Nat)), .v (.int .u64 (m[q.toNat].2.2.1 : Nat)), .sl 1 (bys m[q.toNat].2.2.2)] := by
                simp [List.getD, hqn, fldV]
              have wq : IntKind.i64.wrap (q + 1) = q + 1 := wrap_id (by omega)
              simp only [← hG, Nat.zero_add, hgq, bne_self_eq_false, bys_isByte, bstr_of_bys, beq_self_eq_true, wq, push_cast, ↓reduceIte, reduceCtorEq, Nat.reduceBEq, Nat.reduceEqDiff, Nat.reduceAdd, Nat.reduceSub, Nat.reduceLT, Nat.reduceLeDiff, Nat.reduceMul]
              repeat refine And.intro ⟨q0, hq⟩ ?_
              exact ⟨(by kernel_rfl), ⟨q + 1, by omega, by omega, rfl⟩, by omega⟩
            · simp only [w4, push_cast, ↓reduceIte, reduceCtorEq, Nat.reduceBEq, Nat.reduceEqDiff, Nat.reduceAdd, Nat.reduceSub, Nat.reduceLT, Nat.reduceLeDiff, Nat.reduceMul]
              exact ⟨⟨i + 1, false, by omega, by omega, rfl, rfl⟩, by omega⟩
        · rw [hv, (varsR_some hn0).1, (varsR_some hn0).2] at t3 t4
          have hnl : n2.length ≤ 60000 := hvl n2 hv
          refine call_as (as' := [sb y]) rfl ?_
          refine call_mk t1 rfl trivial ?_
          simp only [bys_isByte, bstr_of_bys, push_cast, ↓reduceIte, reduceCtorEq, Nat.reduceBEq, Nat.reduceEqDiff, Nat.reduceAdd, Nat.reduceSub, Nat.reduceLT, Nat.reduceLeDiff, Nat.reduceMul]
          refine call_mk t2 rfl trivial ?_
          simp only [push_cast, ↓reduceIte, reduceCtorEq, Nat.reduceBEq, Nat.reduceEqDiff, Nat.reduceAdd, Nat.reduceSub, Nat.reduceLT, Nat.reduceLeDiff, Nat.reduceMul]
          refine call_as (as' := [sb y]) rfl ?_
          refine call_mk t3 rfl trivial ?_
          simp only [bys_isByte, bstr_of_bys, push_cast, ↓reduceIte, reduceCtorEq, Nat.reduceBEq, Nat.reduceEqDiff, Nat.reduceAdd, Nat.reduceSub, Nat.reduceLT, Nat.reduceLeDiff, Nat.reduceMul]
          refine call_mk t4 rfl trivial ?_
          simp only [bne_self_eq_false, push_cast, ↓reduceIte, reduceCtorEq, Nat.reduceBEq, Nat.reduceEqDiff, Nat.reduceAdd, Nat.reduceSub, Nat.reduceLT, Nat.reduceLeDiff, Nat.reduceMul]
          refine callA_give ?_
          simp only [take_nums, push_cast, ↓reduceIte, reduceCtorEq, Nat.reduceBEq, Nat.reduceEqDiff, Nat.reduceAdd, Nat.reduceSub, Nat.reduceLT, Nat.reduceLeDiff, Nat.reduceMul]
          refine call_mk (same_t n2 (by omega)) rfl trivial ?_
          simp only [bne_self_eq_false, push_cast, ↓reduceIte, reduceCtorEq, Nat.reduceBEq, Nat.reduceEqDiff, Nat.reduceAdd, Nat.reduceSub, Nat.reduceLT, Nat.reduceLeDiff, Nat.reduceMul]
          refine run_loop [(0, false), (15, false), (18, false), (19, false), (21, false), (23, false), (29, false)] (fun vs pos los => ∃ q : Int, 0 ≤ q ∧ q ≤ G ∧ vs = [sb b, strv (bstr s), .own 2000000 0 0 D, int .i64 i, .own 2000001 0 0 m.length, .own 2000002 0 0 m.length, int .i64 q] ∧ pos = [] ∧ los = [.row 1 (.v (.int .u8 0)) false false (bys c), rowF m, rowF m])
            (fun vs _ _ => match vs with | [_, _, _, _, _, _, .r (.v (.int _ j))] => (G - j).toNat | _ => 0) rfl ?_ ?_
          · simp only [push_cast, ↓reduceIte, reduceCtorEq, Nat.reduceBEq, Nat.reduceEqDiff, Nat.reduceAdd, Nat.reduceSub, Nat.reduceLT, Nat.reduceLeDiff, Nat.reduceMul]
            exact ⟨0, by omega, by omega, rfl⟩
          · rintro vs pos los ⟨q, q0, q1, rfl, rfl, rfl⟩
            simp only [← hG, push_cast, ↓reduceIte, reduceCtorEq, Nat.reduceBEq, Nat.reduceEqDiff, Nat.reduceAdd, Nat.reduceSub, Nat.reduceLT, Nat.reduceLeDiff, Nat.reduceMul]
            refine cnd_mk (fun h => ?_) (fun h => ?_)
            · have hq : q < G := by simpa using h
              have hqn : q.toNat < m.length := by omega
              have hgq : (List.map fldV m).getD q.toNat (.agg [.v (.int .i64 0), .v (.int .i64 0), .v (.int .u64 0), .sl 1 []]) = .agg [.v (.int .i64 (m[q.toNat].1 : Nat)), .v (.int .i64 (m[q.toNat].2.1 : Nat)), .v (.int .u64 (m[q.toNat].2.2.1 : Nat)), .sl 1 (bys m[q.toNat].2.2.2)] := by
                simp [List.getD, hqn, fldV]
              have wq : IntKind.i64.wrap (q + 1) = q + 1 := wrap_id (by omega)
              simp only [← hG, Nat.zero_add, hgq, bne_self_eq_false, bys_isByte, bstr_of_bys, beq_self_eq_true, wq, push_cast, ↓reduceIte, reduceCtorEq, Nat.reduceBEq, Nat.reduceEqDiff, Nat.reduceAdd, Nat.reduceSub, Nat.reduceLT, Nat.reduceLeDiff, Nat.reduceMul]
              repeat refine And.intro ⟨q0, hq⟩ ?_
              exact ⟨(by kernel_rfl), ⟨q + 1, by omega, by omega, rfl⟩, by omega⟩
            · simp only [w4, push_cast, ↓reduceIte, reduceCtorEq, Nat.reduceBEq, Nat.reduceEqDiff, Nat.reduceAdd, Nat.reduceSub, Nat.reduceLT, Nat.reduceLeDiff, Nat.reduceMul]
              exact ⟨⟨i + 1, false, by omega, by omega, rfl, rfl⟩, by omega⟩
    · simp only [push_cast, ↓reduceIte, reduceCtorEq, Nat.reduceBEq, Nat.reduceEqDiff, Nat.reduceAdd, Nat.reduceSub, Nat.reduceLT, Nat.reduceLeDiff, Nat.reduceMul]
      refine call_mk awake21_t rfl trivial ?_
      simp only [push_cast, ↓reduceIte, reduceCtorEq, Nat.reduceBEq, Nat.reduceEqDiff, Nat.reduceAdd, Nat.reduceSub, Nat.reduceLT, Nat.reduceLeDiff, Nat.reduceMul]
  · have h2 : S > 0 := by simpa using h2
    have a0 : 0 ≤ at' % 2 ^ 16 := Int.emod_nonneg _ (by decide)
    obtain ⟨Q, hQ, Q0, Q1⟩ : ∃ M, (at' % 2 ^ 16).tmod S = M ∧ 0 ≤ M ∧ M < S := by
      refine ⟨_, rfl, ?_, ?_⟩
      · rw [Int.tmod_eq_emod_of_nonneg a0]; exact Int.emod_nonneg _ (by omega)
      · rw [Int.tmod_eq_emod_of_nonneg a0]; exact Int.emod_lt_of_pos _ h2
    have hQn : Q.toNat < s.length := by omega
    have hg : (List.map by8 s).getD Q.toNat (.v (.int .u8 0)) = .v (.int .u8 (s[Q.toNat].toNat : Int)) := getD_by8 s _ _ hQn
    obtain ⟨C, hC⟩ : ∃ C : Int, C = s[Q.toNat].toNat := ⟨_, rfl⟩
    rw [← hC] at hg
    have hmap : (List.map (fun b : UInt8 => RV.v (.int .u8 b.toNat)) s) = List.map by8 s := rfl
    simp only [bstr_size, bstr_data, ← hS, and_mask at' 65535 16 (by decide) (by decide), hQ, Nat.zero_add, hmap, hg, push_cast, ↓reduceIte, reduceCtorEq, Nat.reduceBEq, Nat.reduceEqDiff, Nat.reduceAdd, Nat.reduceSub, Nat.reduceLT, Nat.reduceLeDiff, Nat.reduceMul]
    obtain ⟨V, hV, V0, V1⟩ : ∃ V, IntKind.u8.wrap ((BitVec.ofInt IntKind.u8.bits C ^^^ BitVec.ofInt IntKind.u8.bits by').toNat) = V ∧ 0 ≤ V ∧ V < 256 := ⟨_, rfl, by rw [IntKind.wrap_u8]; omega, by rw [IntKind.wrap_u8]; omega⟩
    rw [hV]
    have hv8 : RV.v (.int .u8 V) = by8 (UInt8.ofNat V.toNat) := by
      simp only [by8]
      congr 2
      rw [UInt8.toNat_ofNat']
      omega
    refine ⟨by omega, ⟨Q0, Q1⟩, ⟨Q0, Q1⟩, s.set Q.toNat (UInt8.ofNat V.toNat), by simp, ?_⟩
    rw [hv8, ← List.map_set]
    funext n
    simp only [upd]
    split <;> rfl
  · simp only [push_cast, ↓reduceIte, reduceCtorEq, Nat.reduceBEq, Nat.reduceEqDiff, Nat.reduceAdd, Nat.reduceSub, Nat.reduceLT, Nat.reduceLeDiff, Nat.reduceMul]
    exact ⟨s, rfl, rfl⟩
end Go.Ev
