import Derived.Test.YtjcpepjhjencaaaDoorNum8
namespace Go.Ev
open Go
set_option linter.unnecessarySimpa false
set_option linter.unusedSimpArgs false
set_option linter.unusedVariables false
noncomputable def apiarylaw1_NumEnds_pc : PC :=
  (.seq (.reg [⟨(some 2), none, 0, .see (.mov (.c (.r (.v (.bool false)))))⟩])
  (.seq (.reg [⟨(some 25), none, 0, .see (.mov (.t 0))⟩,
    ⟨(some 26), none, 0, .see (.bin .and (.t 25) (.c (.r (.v (.int .i64 65535)))))⟩,
    ⟨(some 27), none, 0, .see (.bin .add (.t 26) (.c (.r (.v (.int .i64 1)))))⟩,
    ⟨(some 0), none, 0, .see (.mov (.t 27))⟩])
  (.seq (.reg [⟨(some 3), none, 0, .see (.mov (.c (.r (.v (.int .i64 9223372036854775807)))))⟩,
    ⟨(some 4), none, 0, .see (.mov (.c (.r (.v (.int .i64 (-9223372036854775808))))))⟩])
  (.seq (.reg [⟨(some 29), none, 0, .see (.mov (.t 3))⟩,
    ⟨(some 30), none, 0, .see (.mov (.t 0))⟩,
    ⟨(some 31), none, 0, .see (.bin .sub (.t 29) (.t 30))⟩,
    ⟨(some 32), none, 0, .see (.mov (.t 0))⟩,
    ⟨(some 33), none, 1, .call 10 [(.t 31), (.t 32)]⟩,
    ⟨(some 28), none, 0, .see (.mov (.t 33))⟩,
    ⟨(some 34), none, 0, .see (.ext (.t 28) 0)⟩,
    ⟨(some 35), none, 0, .see (.ext (.t 28) 1)⟩,
    ⟨(some 5), none, 0, .see (.mov (.t 34))⟩,
    ⟨(some 6), none, 0, .see (.mov (.t 35))⟩])
  (.seq (.reg [⟨(some 37), none, 0, .see (.mov (.t 3))⟩,
    ⟨(some 38), none, 0, .see (.mov (.t 0))⟩,
    ⟨(some 39), none, 0, .see (.bin .sub (.t 37) (.t 38))⟩,
    ⟨(some 40), none, 0, .see (.mov (.t 0))⟩,
    ⟨(some 41), none, 0, .see (.bin .add (.t 40) (.c (.r (.v (.int .i64 1)))))⟩,
    ⟨(some 42), none, 2, .call 10 [(.t 39), (.t 41)]⟩,
    ⟨(some 36), none, 0, .see (.mov (.t 42))⟩,
    ⟨(some 43), none, 0, .see (.ext (.t 36) 0)⟩,
    ⟨(some 44), none, 0, .see (.ext (.t 36) 1)⟩,
    ⟨(some 7), none, 0, .see (.mov (.t 43))⟩,
    ⟨(some 8), none, 0, .see (.mov (.t 44))⟩])
  (.seq (.reg [⟨(some 46), none, 0, .see (.mov (.t 4))⟩,
    ⟨(some 47), none, 0, .see (.mov (.t 0))⟩,
    ⟨(some 48), none, 0, .see (.bin .add (.t 46) (.t 47))⟩,
    ⟨(some 49), none, 0, .see (.mov (.t 0))⟩,
    ⟨(some 50), none, 3, .call 13 [(.t 48), (.t 49)]⟩,
    ⟨(some 45), none, 0, .see (.mov (.t 50))⟩,
    ⟨(some 51), none, 0, .see (.ext (.t 45) 0)⟩,
    ⟨(some 52), none, 0, .see (.ext (.t 45) 1)⟩,
    ⟨(some 9), none, 0, .see (.mov (.t 51))⟩,
    ⟨(some 10), none, 0, .see (.mov (.t 52))⟩])
  (.seq (.reg [⟨(some 54), none, 0, .see (.mov (.t 4))⟩,
    ⟨(some 55), none, 0, .see (.mov (.t 0))⟩,
    ⟨(some 56), none, 0, .see (.bin .add (.t 54) (.t 55))⟩,
    ⟨(some 57), none, 0, .see (.mov (.t 0))⟩,
    ⟨(some 58), none, 0, .see (.bin .add (.t 57) (.c (.r (.v (.int .i64 1)))))⟩,
    ⟨(some 59), none, 4, .call 13 [(.t 56), (.t 58)]⟩,
    ⟨(some 53), none, 0, .see (.mov (.t 59))⟩,
    ⟨(some 60), none, 0, .see (.ext (.t 53) 0)⟩,
    ⟨(some 61), none, 0, .see (.ext (.t 53) 1)⟩,
    ⟨(some 11), none, 0, .see (.mov (.t 60))⟩,
    ⟨(some 12), none, 0, .see (.mov (.t 61))⟩])
  (.seq (.reg [⟨(some 63), none, 0, .see (.mov (.t 4))⟩,
    ⟨(some 64), none, 5, .call 12 [(.t 63)]⟩,
    ⟨(some 62), none, 0, .see (.mov (.t 64))⟩,
    ⟨(some 65), none, 0, .see (.ext (.t 62) 0)⟩,
    ⟨(some 66), none, 0, .see (.ext (.t 62) 1)⟩,
    ⟨(some 13), none, 0, .see (.mov (.t 65))⟩,
    ⟨(some 14), none, 0, .see (.mov (.t 66))⟩])
  (.seq (.reg [⟨(some 68), none, 0, .see (.mov (.t 4))⟩,
    ⟨(some 69), none, 0, .see (.mov (.t 0))⟩,
    ⟨(some 70), none, 0, .see (.bin .add (.t 68) (.t 69))⟩,
    ⟨(some 71), none, 6, .call 12 [(.t 70)]⟩,
    ⟨(some 67), none, 0, .see (.mov (.t 71))⟩,
    ⟨(some 72), none, 0, .see (.ext (.t 67) 0)⟩,
    ⟨(some 73), none, 0, .see (.ext (.t 67) 1)⟩,
    ⟨(some 15), none, 0, .see (.mov (.t 72))⟩,
    ⟨(some 16), none, 0, .see (.mov (.t 73))⟩])
  (.seq (.reg [⟨(some 75), none, 0, .see (.mov (.t 4))⟩,
    ⟨(some 76), none, 7, .call 11 [(.t 75), (.c (.r (.v (.int .i64 (-1)))))]⟩,
    ⟨(some 74), none, 0, .see (.mov (.t 76))⟩,
    ⟨(some 77), none, 0, .see (.ext (.t 74) 0)⟩,
    ⟨(some 78), none, 0, .see (.ext (.t 74) 1)⟩,
    ⟨(some 17), none, 0, .see (.mov (.t 77))⟩,
    ⟨(some 18), none, 0, .see (.mov (.t 78))⟩])
  (.seq (.reg [⟨(some 80), none, 0, .see (.mov (.t 4))⟩,
    ⟨(some 81), none, 8, .call 11 [(.t 80), (.c (.r (.v (.int .i64 1))))]⟩,
    ⟨(some 79), none, 0, .see (.mov (.t 81))⟩,
    ⟨(some 82), none, 0, .see (.ext (.t 79) 0)⟩,
    ⟨(some 83), none, 0, .see (.ext (.t 79) 1)⟩,
    ⟨(some 19), none, 0, .see (.mov (.t 82))⟩,
    ⟨(some 20), none, 0, .see (.mov (.t 83))⟩])
  (.seq (.reg [⟨(some 85), none, 9, .call 21 [(.c (.r (.v (.int .i64 1)))), (.c (.r (.v (.int .i64 63))))]⟩,
    ⟨(some 84), none, 0, .see (.mov (.t 85))⟩,
    ⟨(some 86), none, 0, .see (.ext (.t 84) 0)⟩,
    ⟨(some 87), none, 0, .see (.ext (.t 84) 1)⟩,
    ⟨(some 21), none, 0, .see (.mov (.t 86))⟩,
    ⟨(some 22), none, 0, .see (.mov (.t 87))⟩])
  (.seq (.reg [⟨(some 89), none, 10, .call 21 [(.c (.r (.v (.int .i64 (-1))))), (.c (.r (.v (.int .i64 63))))]⟩,
    ⟨(some 88), none, 0, .see (.mov (.t 89))⟩,
    ⟨(some 90), none, 0, .see (.ext (.t 88) 0)⟩,
    ⟨(some 91), none, 0, .see (.ext (.t 88) 1)⟩,
    ⟨(some 23), none, 0, .see (.mov (.t 90))⟩,
    ⟨(some 24), none, 0, .see (.mov (.t 91))⟩])
  (.seq (.reg [⟨(some 92), none, 0, .see (.mov (.t 5))⟩,
    ⟨(some 93), none, 0, .see (.mov (.t 3))⟩,
    ⟨(some 94), none, 0, .see (.bin .eql (.t 92) (.t 93))⟩,
    ⟨(some 95), none, 0, .see (.mov (.t 94))⟩,
    ⟨(some 96), (some (95, true)), 0, .see (.mov (.t 6))⟩,
    ⟨(some 97), none, 0, .see (.pick (.t 95) (.t 96) (.c (.r (.v (.bool false)))))⟩,
    ⟨(some 98), none, 0, .see (.mov (.t 97))⟩,
    ⟨(some 99), (some (98, true)), 0, .see (.mov (.t 8))⟩,
    ⟨(some 100), (some (98, true)), 0, .see (.un .not (.t 99))⟩,
    ⟨(some 101), none, 0, .see (.pick (.t 98) (.t 100) (.c (.r (.v (.bool false)))))⟩,
    ⟨(some 102), none, 0, .see (.mov (.t 101))⟩,
    ⟨(some 103), (some (102, true)), 0, .see (.mov (.t 9))⟩,
    ⟨(some 104), (some (102, true)), 0, .see (.mov (.t 4))⟩,
    ⟨(some 105), (some (102, true)), 0, .see (.bin .eql (.t 103) (.t 104))⟩,
    ⟨(some 106), none, 0, .see (.pick (.t 102) (.t 105) (.c (.r (.v (.bool false)))))⟩,
    ⟨(some 107), none, 0, .see (.mov (.t 106))⟩,
    ⟨(some 108), (some (107, true)), 0, .see (.mov (.t 10))⟩,
    ⟨(some 109), none, 0, .see (.pick (.t 107) (.t 108) (.c (.r (.v (.bool false)))))⟩,
    ⟨(some 110), none, 0, .see (.mov (.t 109))⟩,
    ⟨(some 111), (some (110, true)), 0, .see (.mov (.t 12))⟩,
    ⟨(some 112), (some (110, true)), 0, .see (.un .not (.t 111))⟩,
    ⟨(some 113), none, 0, .see (.pick (.t 110) (.t 112) (.c (.r (.v (.bool false)))))⟩,
    ⟨(some 114), none, 0, .see (.mov (.t 113))⟩,
    ⟨(some 115), (some (114, true)), 0, .see (.mov (.t 14))⟩,
    ⟨(some 116), (some (114, true)), 0, .see (.un .not (.t 115))⟩,
    ⟨(some 117), none, 0, .see (.pick (.t 114) (.t 116) (.c (.r (.v (.bool false)))))⟩,
    ⟨(some 118), none, 0, .see (.mov (.t 117))⟩,
    ⟨(some 119), (some (118, true)), 0, .see (.mov (.t 15))⟩,
    ⟨(some 120), (some (118, true)), 0, .see (.mov (.t 3))⟩,
    ⟨(some 121), (some (118, true)), 0, .see (.mov (.t 0))⟩,
    ⟨(some 122), (some (118, true)), 0, .see (.bin .sub (.t 120) (.t 121))⟩,
    ⟨(some 123), (some (118, true)), 0, .see (.bin .add (.t 122) (.c (.r (.v (.int .i64 1)))))⟩,
    ⟨(some 124), (some (118, true)), 0, .see (.bin .eql (.t 119) (.t 123))⟩,
    ⟨(some 125), none, 0, .see (.pick (.t 118) (.t 124) (.c (.r (.v (.bool false)))))⟩,
    ⟨(some 126), none, 0, .see (.mov (.t 125))⟩,
    ⟨(some 127), (some (126, true)), 0, .see (.mov (.t 16))⟩,
    ⟨(some 128), none, 0, .see (.pick (.t 126) (.t 127) (.c (.r (.v (.bool false)))))⟩,
    ⟨(some 129), none, 0, .see (.mov (.t 128))⟩,
    ⟨(some 130), (some (129, true)), 0, .see (.mov (.t 18))⟩,
    ⟨(some 131), (some (129, true)), 0, .see (.un .not (.t 130))⟩,
    ⟨(some 132), none, 0, .see (.pick (.t 129) (.t 131) (.c (.r (.v (.bool false)))))⟩,
    ⟨(some 133), none, 0, .see (.mov (.t 132))⟩,
    ⟨(some 134), (some (133, true)), 0, .see (.mov (.t 19))⟩,
    ⟨(some 135), (some (133, true)), 0, .see (.mov (.t 4))⟩,
    ⟨(some 136), (some (133, true)), 0, .see (.bin .eql (.t 134) (.t 135))⟩,
    ⟨(some 137), none, 0, .see (.pick (.t 133) (.t 136) (.c (.r (.v (.bool false)))))⟩,
    ⟨(some 138), none, 0, .see (.mov (.t 137))⟩,
    ⟨(some 139), (some (138, true)), 0, .see (.mov (.t 20))⟩,
    ⟨(some 140), none, 0, .see (.pick (.t 138) (.t 139) (.c (.r (.v (.bool false)))))⟩,
    ⟨(some 141), none, 0, .see (.mov (.t 140))⟩,
    ⟨(some 142), (some (141, true)), 0, .see (.mov (.t 22))⟩,
    ⟨(some 143), (some (141, true)), 0, .see (.un .not (.t 142))⟩,
    ⟨(some 144), none, 0, .see (.pick (.t 141) (.t 143) (.c (.r (.v (.bool false)))))⟩,
    ⟨(some 145), none, 0, .see (.mov (.t 144))⟩,
    ⟨(some 146), (some (145, true)), 0, .see (.mov (.t 23))⟩,
    ⟨(some 147), (some (145, true)), 0, .see (.mov (.t 4))⟩,
    ⟨(some 148), (some (145, true)), 0, .see (.bin .eql (.t 146) (.t 147))⟩,
    ⟨(some 149), none, 0, .see (.pick (.t 145) (.t 148) (.c (.r (.v (.bool false)))))⟩,
    ⟨(some 150), none, 0, .see (.mov (.t 149))⟩,
    ⟨(some 151), (some (150, true)), 0, .see (.mov (.t 24))⟩,
    ⟨(some 152), none, 0, .see (.pick (.t 150) (.t 151) (.c (.r (.v (.bool false)))))⟩,
    ⟨(some 153), none, 0, .see (.mov (.t 152))⟩,
    ⟨(some 154), (some (153, true)), 11, .call 14 []⟩,
    ⟨(some 155), none, 0, .see (.pick (.t 153) (.t 154) (.c (.r (.v (.bool false)))))⟩,
    ⟨(some 2), none, 0, .see (.mov (.t 155))⟩])
  .ret))))))))))))))
noncomputable abbrev apiarylaw1_NumEnds_code : Code := (Go.Proofs.Tryd.f6.body).getD .skip
theorem apiarylaw1_NumEnds_chk : chkC Go.Proofs.Tryd.prog 156 apiarylaw1_NumEnds_code apiarylaw1_NumEnds_pc = true := by kernel_rfl
theorem apiarylaw1_NumEnds_triple {args : List AV} {po ro : List Ob} {res : AV} (hal : args.length = 1) (hpo : po.length ≤ 1000)
    (h : run Go.Proofs.Tryd.prog po.length (RetP po.length [(2, false, none)] fun v os => v = res ∧ os = ro) [.c apiarylaw1_NumEnds_pc] ⟨argE 0 args, ob0 po⟩) : Triple Go.Proofs.Tryd.prog 6 args po res ro :=
  triple_of_W (fn := Go.Proofs.Tryd.f6) (c := apiarylaw1_NumEnds_code) (pc := apiarylaw1_NumEnds_pc) (rs := [(2, false, none)]) Go.Proofs.Tryd.func6 rfl (by decide) (by have := apiarylaw1_NumEnds_chk; exact this) (by rw [hal]; decide) rfl (by kernel_rfl) (by kernel_rfl) (by decide) hpo (W_of_run h)

noncomputable def apiarylaw1_NumFloors_pc : PC :=
  (.seq (.reg [⟨(some 6), none, 0, .see (.mov (.c (.r (.v (.bool false)))))⟩])
  (.seq (.reg [⟨(some 22), none, 0, .see (.mov (.t 0))⟩,
    ⟨(some 23), none, 0, .see (.mov (.t 1))⟩,
    ⟨(some 24), none, 1, .call 22 [(.t 22), (.t 23)]⟩,
    ⟨(some 21), none, 0, .see (.mov (.t 24))⟩,
    ⟨(some 25), none, 0, .see (.ext (.t 21) 0)⟩,
    ⟨(some 26), none, 0, .see (.ext (.t 21) 1)⟩,
    ⟨(some 27), none, 0, .see (.ext (.t 21) 2)⟩,
    ⟨(some 7), none, 0, .see (.mov (.t 25))⟩,
    ⟨(some 8), none, 0, .see (.mov (.t 26))⟩,
    ⟨(some 9), none, 0, .see (.mov (.t 27))⟩])
  (.seq (.reg [⟨(some 29), none, 0, .see (.mov (.t 0))⟩,
    ⟨(some 30), none, 0, .see (.mov (.t 1))⟩,
    ⟨(some 31), none, 2, .call 23 [(.t 29), (.t 30)]⟩,
    ⟨(some 28), none, 0, .see (.mov (.t 31))⟩,
    ⟨(some 32), none, 0, .see (.ext (.t 28) 0)⟩,
    ⟨(some 33), none, 0, .see (.ext (.t 28) 1)⟩,
    ⟨(some 34), none, 0, .see (.ext (.t 28) 2)⟩,
    ⟨(some 10), none, 0, .see (.mov (.t 32))⟩,
    ⟨(some 11), none, 0, .see (.mov (.t 33))⟩,
    ⟨(some 12), none, 0, .see (.mov (.t 34))⟩])
  (.seq (.reg [⟨(some 36), none, 0, .see (.mov (.t 0))⟩,
    ⟨(some 37), none, 0, .see (.mov (.t 2))⟩,
    ⟨(some 38), none, 3, .call 21 [(.t 36), (.t 37)]⟩,
    ⟨(some 35), none, 0, .see (.mov (.t 38))⟩,
    ⟨(some 39), none, 0, .see (.ext (.t 35) 0)⟩,
    ⟨(some 40), none, 0, .see (.ext (.t 35) 1)⟩,
    ⟨(some 13), none, 0, .see (.mov (.t 39))⟩,
    ⟨(some 14), none, 0, .see (.mov (.t 40))⟩])
  (.seq (.reg [⟨(some 42), none, 0, .see (.mov (.t 0))⟩,
    ⟨(some 43), none, 0, .see (.mov (.t 2))⟩,
    ⟨(some 44), none, 4, .call 24 [(.t 42), (.t 43)]⟩,
    ⟨(some 41), none, 0, .see (.mov (.t 44))⟩,
    ⟨(some 45), none, 0, .see (.ext (.t 41) 0)⟩,
    ⟨(some 46), none, 0, .see (.ext (.t 41) 1)⟩,
    ⟨(some 15), none, 0, .see (.mov (.t 45))⟩,
    ⟨(some 16), none, 0, .see (.mov (.t 46))⟩])
  (.seq (.reg [⟨(some 48), none, 0, .see (.mov (.t 0))⟩,
    ⟨(some 49), none, 0, .see (.mov (.t 2))⟩,
    ⟨(some 50), none, 5, .call 15 [(.t 48), (.t 49)]⟩,
    ⟨(some 47), none, 0, .see (.mov (.t 50))⟩,
    ⟨(some 51), none, 0, .see (.ext (.t 47) 0)⟩,
    ⟨(some 52), none, 0, .see (.ext (.t 47) 1)⟩,
    ⟨(some 17), none, 0, .see (.mov (.t 51))⟩,
    ⟨(some 18), none, 0, .see (.mov (.t 52))⟩])
  (.seq (.reg [⟨(some 54), none, 0, .see (.mov (.t 0))⟩,
    ⟨(some 55), none, 0, .see (.mov (.t 2))⟩,
    ⟨(some 56), none, 6, .call 25 [(.t 54), (.t 55)]⟩,
    ⟨(some 53), none, 0, .see (.mov (.t 56))⟩,
    ⟨(some 57), none, 0, .see (.ext (.t 53) 0)⟩,
    ⟨(some 58), none, 0, .see (.ext (.t 53) 1)⟩,
    ⟨(some 19), none, 0, .see (.mov (.t 57))⟩,
    ⟨(some 20), none, 0, .see (.mov (.t 58))⟩])
  (.seq (.reg [⟨(some 59), none, 0, .see (.mov (.t 7))⟩,
    ⟨(some 60), none, 0, .see (.mov (.t 10))⟩,
    ⟨(some 61), none, 0, .see (.bin .eql (.t 59) (.t 60))⟩,
    ⟨(some 62), none, 0, .see (.mov (.t 61))⟩,
    ⟨(some 63), (some (62, true)), 0, .see (.mov (.t 8))⟩,
    ⟨(some 64), (some (62, true)), 0, .see (.mov (.t 11))⟩,
    ⟨(some 65), (some (62, true)), 0, .see (.bin .eql (.t 63) (.t 64))⟩,
    ⟨(some 66), none, 0, .see (.pick (.t 62) (.t 65) (.c (.r (.v (.bool false)))))⟩,
    ⟨(some 67), none, 0, .see (.mov (.t 66))⟩,
    ⟨(some 68), (some (67, true)), 0, .see (.mov (.t 9))⟩,
    ⟨(some 69), (some (67, true)), 0, .see (.mov (.t 12))⟩,
    ⟨(some 70), (some (67, true)), 0, .see (.beq false (.t 68) (.t 69))⟩,
    ⟨(some 71), none, 0, .see (.pick (.t 67) (.t 70) (.c (.r (.v (.bool false)))))⟩,
    ⟨(some 72), none, 0, .see (.mov (.t 71))⟩,
    ⟨(some 73), (some (72, true)), 0, .see (.mov (.t 13))⟩,
    ⟨(some 74), (some (72, true)), 0, .see (.mov (.t 15))⟩,
    ⟨(some 75), (some (72, true)), 0, .see (.bin .eql (.t 73) (.t 74))⟩,
    ⟨(some 76), none, 0, .see (.pick (.t 72) (.t 75) (.c (.r (.v (.bool false)))))⟩,
    ⟨(some 77), none, 0, .see (.mov (.t 76))⟩,
    ⟨(some 78), (some (77, true)), 0, .see (.mov (.t 14))⟩,
    ⟨(some 79), (some (77, true)), 0, .see (.mov (.t 16))⟩,
    ⟨(some 80), (some (77, true)), 0, .see (.beq false (.t 78) (.t 79))⟩,
    ⟨(some 81), none, 0, .see (.pick (.t 77) (.t 80) (.c (.r (.v (.bool false)))))⟩,
    ⟨(some 82), none, 0, .see (.mov (.t 81))⟩,
    ⟨(some 83), (some (82, true)), 0, .see (.mov (.t 17))⟩,
    ⟨(some 84), (some (82, true)), 0, .see (.mov (.t 19))⟩,
    ⟨(some 85), (some (82, true)), 0, .see (.bin .eql (.t 83) (.t 84))⟩,
    ⟨(some 86), none, 0, .see (.pick (.t 82) (.t 85) (.c (.r (.v (.bool false)))))⟩,
    ⟨(some 87), none, 0, .see (.mov (.t 86))⟩,
    ⟨(some 88), (some (87, true)), 0, .see (.mov (.t 18))⟩,
    ⟨(some 89), (some (87, true)), 0, .see (.mov (.t 20))⟩,
    ⟨(some 90), (some (87, true)), 0, .see (.beq false (.t 88) (.t 89))⟩,
    ⟨(some 91), none, 0, .see (.pick (.t 87) (.t 90) (.c (.r (.v (.bool false)))))⟩,
    ⟨(some 92), none, 0, .see (.mov (.t 91))⟩,
    ⟨(some 93), (some (92, true)), 7, .call 14 []⟩,
    ⟨(some 94), none, 0, .see (.pick (.t 92) (.t 93) (.c (.r (.v (.bool false)))))⟩,
    ⟨(some 6), none, 0, .see (.mov (.t 94))⟩])
  .ret))))))))
noncomputable abbrev apiarylaw1_NumFloors_code : Code := (Go.Proofs.Tryd.f8.body).getD .skip
theorem apiarylaw1_NumFloors_chk : chkC Go.Proofs.Tryd.prog 95 apiarylaw1_NumFloors_code apiarylaw1_NumFloors_pc = true := by kernel_rfl
theorem apiarylaw1_NumFloors_triple {args : List AV} {po ro : List Ob} {res : AV} (hal : args.length = 3) (hpo : po.length ≤ 1000)
    (h : run Go.Proofs.Tryd.prog po.length (RetP po.length [(6, false, none)] fun v os => v = res ∧ os = ro) [.c apiarylaw1_NumFloors_pc] ⟨argE 0 args, ob0 po⟩) : Triple Go.Proofs.Tryd.prog 8 args po res ro :=
  triple_of_W (fn := Go.Proofs.Tryd.f8) (c := apiarylaw1_NumFloors_code) (pc := apiarylaw1_NumFloors_pc) (rs := [(6, false, none)]) Go.Proofs.Tryd.func8 rfl (by decide) (by have := apiarylaw1_NumFloors_chk; exact this) (by rw [hal]; decide) rfl (by kernel_rfl) (by kernel_rfl) (by decide) hpo (W_of_run h)

noncomputable def apiarylaw1_NumBack_pc : PC :=
  (.seq (.reg [⟨(some 6), none, 0, .see (.mov (.c (.r (.v (.bool false)))))⟩])
  (.seq (.reg [⟨(some 24), none, 0, .see (.mov (.t 2))⟩,
    ⟨(some 25), none, 0, .see (.bin .and (.t 24) (.c (.r (.v (.int .i64 31)))))⟩,
    ⟨(some 2), none, 0, .see (.mov (.t 25))⟩])
  (.seq (.seq (.reg [⟨(some 27), none, 0, .see (.mov (.t 0))⟩,
    ⟨(some 28), none, 0, .see (.mov (.t 1))⟩,
    ⟨(some 29), none, 1, .call 10 [(.t 27), (.t 28)]⟩,
    ⟨(some 26), none, 0, .see (.mov (.t 29))⟩,
    ⟨(some 30), none, 0, .see (.ext (.t 26) 0)⟩,
    ⟨(some 31), none, 0, .see (.ext (.t 26) 1)⟩,
    ⟨(some 7), none, 0, .see (.mov (.t 30))⟩,
    ⟨(some 8), none, 0, .see (.mov (.t 31))⟩])
  (.seq (.reg [⟨(some 32), none, 0, .see (.mov (.t 8))⟩])
  (.cond (.t 32)
    (.seq (.reg [⟨(some 34), none, 0, .see (.mov (.t 7))⟩,
    ⟨(some 35), none, 0, .see (.mov (.t 1))⟩,
    ⟨(some 36), none, 2, .call 13 [(.t 34), (.t 35)]⟩,
    ⟨(some 33), none, 0, .see (.mov (.t 36))⟩,
    ⟨(some 37), none, 0, .see (.ext (.t 33) 0)⟩,
    ⟨(some 38), none, 0, .see (.ext (.t 33) 1)⟩,
    ⟨(some 9), none, 0, .see (.mov (.t 37))⟩,
    ⟨(some 10), none, 0, .see (.mov (.t 38))⟩])
    (.seq (.reg [⟨(some 39), none, 0, .see (.mov (.t 10))⟩,
    ⟨(some 40), none, 0, .see (.un .not (.t 39))⟩,
    ⟨(some 41), none, 0, .see (.mov (.t 40))⟩,
    ⟨(some 42), (some (41, false)), 0, .see (.mov (.t 9))⟩,
    ⟨(some 43), (some (41, false)), 0, .see (.mov (.t 0))⟩,
    ⟨(some 44), (some (41, false)), 0, .see (.bin .neq (.t 42) (.t 43))⟩,
    ⟨(some 45), none, 0, .see (.pick (.t 41) (.c (.r (.v (.bool true)))) (.t 44))⟩])
    (.cond (.t 45)
      (.seq (.reg [⟨(some 6), none, 0, .see (.mov (.c (.r (.v (.bool false)))))⟩])
      .ret)
      .skip)))
    .skip)))
  (.seq (.seq (.reg [⟨(some 47), none, 0, .see (.mov (.t 0))⟩,
    ⟨(some 48), none, 0, .see (.mov (.t 1))⟩,
    ⟨(some 49), none, 3, .call 22 [(.t 47), (.t 48)]⟩,
    ⟨(some 46), none, 0, .see (.mov (.t 49))⟩,
    ⟨(some 50), none, 0, .see (.ext (.t 46) 0)⟩,
    ⟨(some 51), none, 0, .see (.ext (.t 46) 1)⟩,
    ⟨(some 52), none, 0, .see (.ext (.t 46) 2)⟩,
    ⟨(some 11), none, 0, .see (.mov (.t 50))⟩,
    ⟨(some 12), none, 0, .see (.mov (.t 51))⟩,
    ⟨(some 13), none, 0, .see (.mov (.t 52))⟩])
  (.seq (.reg [⟨(some 53), none, 0, .see (.mov (.t 13))⟩])
  (.cond (.t 53)
    (.seq (.reg [⟨(some 55), none, 0, .see (.mov (.t 11))⟩,
    ⟨(some 56), none, 0, .see (.mov (.t 1))⟩,
    ⟨(some 57), none, 4, .call 11 [(.t 55), (.t 56)]⟩,
    ⟨(some 54), none, 0, .see (.mov (.t 57))⟩,
    ⟨(some 58), none, 0, .see (.ext (.t 54) 0)⟩,
    ⟨(some 59), none, 0, .see (.ext (.t 54) 1)⟩,
    ⟨(some 14), none, 0, .see (.mov (.t 58))⟩,
    ⟨(some 15), none, 0, .see (.mov (.t 59))⟩])
    (.seq (.seq (.reg [⟨(some 60), none, 0, .see (.mov (.t 15))⟩])
    (.cond (.t 60)
      (.seq (.reg [⟨(some 62), none, 0, .see (.mov (.t 14))⟩,
    ⟨(some 63), none, 0, .see (.mov (.t 12))⟩,
    ⟨(some 64), none, 5, .call 10 [(.t 62), (.t 63)]⟩,
    ⟨(some 61), none, 0, .see (.mov (.t 64))⟩,
    ⟨(some 65), none, 0, .see (.ext (.t 61) 0)⟩,
    ⟨(some 66), none, 0, .see (.ext (.t 61) 1)⟩,
    ⟨(some 16), none, 0, .see (.mov (.t 65))⟩,
    ⟨(some 17), none, 0, .see (.mov (.t 66))⟩])
      (.seq (.reg [⟨(some 67), none, 0, .see (.mov (.t 17))⟩,
    ⟨(some 68), none, 0, .see (.un .not (.t 67))⟩,
    ⟨(some 69), none, 0, .see (.mov (.t 68))⟩,
    ⟨(some 70), (some (69, false)), 0, .see (.mov (.t 16))⟩,
    ⟨(some 71), (some (69, false)), 0, .see (.mov (.t 0))⟩,
    ⟨(some 72), (some (69, false)), 0, .see (.bin .neq (.t 70) (.t 71))⟩,
    ⟨(some 73), none, 0, .see (.pick (.t 69) (.c (.r (.v (.bool true)))) (.t 72))⟩])
      (.cond (.t 73)
        (.seq (.reg [⟨(some 6), none, 0, .see (.mov (.c (.r (.v (.bool false)))))⟩])
        .ret)
        .skip)))
      .skip))
    (.seq (.reg [⟨(some 74), none, 0, .see (.mov (.t 12))⟩,
    ⟨(some 75), none, 0, .see (.bin .lss (.t 74) (.c (.r (.v (.int .i64 0)))))⟩,
    ⟨(some 76), none, 0, .see (.mov (.t 75))⟩,
    ⟨(some 77), (some (76, false)), 0, .see (.mov (.t 12))⟩,
    ⟨(some 78), (some (76, false)), 0, .see (.mov (.t 1))⟩,
    ⟨(some 79), (some (76, false)), 0, .see (.bin .geq (.t 77) (.t 78))⟩,
    ⟨(some 80), none, 0, .see (.pick (.t 76) (.c (.r (.v (.bool true)))) (.t 79))⟩])
    (.cond (.t 80)
      (.seq (.reg [⟨(some 6), none, 0, .see (.mov (.c (.r (.v (.bool false)))))⟩])
      .ret)
      .skip))))
    (.seq (.reg [⟨(some 81), none, 0, .see (.mov (.t 1))⟩,
    ⟨(some 82), none, 0, .see (.bin .gtr (.t 81) (.c (.r (.v (.int .i64 0)))))⟩])
    (.cond (.t 82)
      (.seq (.reg [⟨(some 6), none, 0, .see (.mov (.c (.r (.v (.bool false)))))⟩])
      .ret)
      .skip)))))
  (.seq (.reg [⟨(some 84), none, 0, .see (.mov (.t 2))⟩,
    ⟨(some 85), none, 6, .call 15 [(.c (.r (.v (.int .i64 2)))), (.t 84)]⟩,
    ⟨(some 83), none, 0, .see (.mov (.t 85))⟩,
    ⟨(some 86), none, 0, .see (.ext (.t 83) 0)⟩,
    ⟨(some 87), none, 0, .see (.ext (.t 83) 1)⟩,
    ⟨(some 18), none, 0, .see (.mov (.t 86))⟩,
    ⟨(some 19), none, 0, .see (.mov (.t 87))⟩])
  (.seq (.reg [⟨(some 89), none, 0, .see (.mov (.t 0))⟩,
    ⟨(some 90), none, 0, .see (.mov (.t 2))⟩,
    ⟨(some 91), none, 7, .call 21 [(.t 89), (.t 90)]⟩,
    ⟨(some 88), none, 0, .see (.mov (.t 91))⟩,
    ⟨(some 92), none, 0, .see (.ext (.t 88) 0)⟩,
    ⟨(some 93), none, 0, .see (.ext (.t 88) 1)⟩,
    ⟨(some 20), none, 0, .see (.mov (.t 92))⟩,
    ⟨(some 21), none, 0, .see (.mov (.t 93))⟩])
  (.seq (.reg [⟨(some 95), none, 0, .see (.mov (.t 0))⟩,
    ⟨(some 96), none, 0, .see (.mov (.t 18))⟩,
    ⟨(some 97), none, 8, .call 11 [(.t 95), (.t 96)]⟩,
    ⟨(some 94), none, 0, .see (.mov (.t 97))⟩,
    ⟨(some 98), none, 0, .see (.ext (.t 94) 0)⟩,
    ⟨(some 99), none, 0, .see (.ext (.t 94) 1)⟩,
    ⟨(some 22), none, 0, .see (.mov (.t 98))⟩,
    ⟨(some 23), none, 0, .see (.mov (.t 99))⟩])
  (.seq (.reg [⟨(some 100), none, 0, .see (.mov (.t 19))⟩,
    ⟨(some 101), none, 0, .see (.mov (.t 100))⟩,
    ⟨(some 102), (some (101, true)), 0, .see (.mov (.t 20))⟩,
    ⟨(some 103), (some (101, true)), 0, .see (.mov (.t 22))⟩,
    ⟨(some 104), (some (101, true)), 0, .see (.bin .eql (.t 102) (.t 103))⟩,
    ⟨(some 105), none, 0, .see (.pick (.t 101) (.t 104) (.c (.r (.v (.bool false)))))⟩,
    ⟨(some 106), none, 0, .see (.mov (.t 105))⟩,
    ⟨(some 107), (some (106, true)), 0, .see (.mov (.t 21))⟩,
    ⟨(some 108), (some (106, true)), 0, .see (.mov (.t 23))⟩,
    ⟨(some 109), (some (106, true)), 0, .see (.beq false (.t 107) (.t 108))⟩,
    ⟨(some 110), none, 0, .see (.pick (.t 106) (.t 109) (.c (.r (.v (.bool false)))))⟩,
    ⟨(some 111), none, 0, .see (.mov (.t 110))⟩,
    ⟨(some 112), (some (111, true)), 9, .call 14 []⟩,
    ⟨(some 113), none, 0, .see (.pick (.t 111) (.t 112) (.c (.r (.v (.bool false)))))⟩,
    ⟨(some 6), none, 0, .see (.mov (.t 113))⟩])
  .ret))))))))
noncomputable abbrev apiarylaw1_NumBack_code : Code := (Go.Proofs.Tryd.f7.body).getD .skip
theorem apiarylaw1_NumBack_chk : chkC Go.Proofs.Tryd.prog 114 apiarylaw1_NumBack_code apiarylaw1_NumBack_pc = true := by kernel_rfl
theorem apiarylaw1_NumBack_triple {args : List AV} {po ro : List Ob} {res : AV} (hal : args.length = 3) (hpo : po.length ≤ 1000)
    (h : run Go.Proofs.Tryd.prog po.length (RetP po.length [(6, false, none)] fun v os => v = res ∧ os = ro) [.c apiarylaw1_NumBack_pc] ⟨argE 0 args, ob0 po⟩) : Triple Go.Proofs.Tryd.prog 7 args po res ro :=
  triple_of_W (fn := Go.Proofs.Tryd.f7) (c := apiarylaw1_NumBack_code) (pc := apiarylaw1_NumBack_pc) (rs := [(6, false, none)]) Go.Proofs.Tryd.func7 rfl (by decide) (by have := apiarylaw1_NumBack_chk; exact this) (by rw [hal]; decide) rfl (by kernel_rfl) (by kernel_rfl) (by decide) hpo (W_of_run h)

noncomputable def apiarylaw1_NumPowers_pc : PC :=
  (.seq (.reg [⟨(some 6), none, 0, .see (.mov (.c (.r (.v (.bool false)))))⟩])
  (.seq (.reg [⟨(some 23), none, 0, .see (.mov (.t 1))⟩,
    ⟨(some 24), none, 0, .see (.bin .and (.t 23) (.c (.r (.v (.int .i64 31)))))⟩,
    ⟨(some 25), none, 0, .see (.mov (.t 2))⟩,
    ⟨(some 26), none, 0, .see (.bin .and (.t 25) (.c (.r (.v (.int .i64 31)))))⟩,
    ⟨(some 1), none, 0, .see (.mov (.t 24))⟩,
    ⟨(some 2), none, 0, .see (.mov (.t 26))⟩])
  (.seq (.reg [⟨(some 28), none, 0, .see (.mov (.t 0))⟩,
    ⟨(some 29), none, 0, .see (.mov (.t 1))⟩,
    ⟨(some 30), none, 1, .call 15 [(.t 28), (.t 29)]⟩,
    ⟨(some 27), none, 0, .see (.mov (.t 30))⟩,
    ⟨(some 31), none, 0, .see (.ext (.t 27) 0)⟩,
    ⟨(some 32), none, 0, .see (.ext (.t 27) 1)⟩,
    ⟨(some 7), none, 0, .see (.mov (.t 31))⟩,
    ⟨(some 8), none, 0, .see (.mov (.t 32))⟩])
  (.seq (.reg [⟨(some 34), none, 0, .see (.mov (.t 0))⟩,
    ⟨(some 35), none, 0, .see (.mov (.t 2))⟩,
    ⟨(some 36), none, 2, .call 15 [(.t 34), (.t 35)]⟩,
    ⟨(some 33), none, 0, .see (.mov (.t 36))⟩,
    ⟨(some 37), none, 0, .see (.ext (.t 33) 0)⟩,
    ⟨(some 38), none, 0, .see (.ext (.t 33) 1)⟩,
    ⟨(some 9), none, 0, .see (.mov (.t 37))⟩,
    ⟨(some 10), none, 0, .see (.mov (.t 38))⟩])
  (.seq (.reg [⟨(some 40), none, 0, .see (.mov (.t 0))⟩,
    ⟨(some 41), none, 0, .see (.mov (.t 1))⟩,
    ⟨(some 42), none, 0, .see (.mov (.t 2))⟩,
    ⟨(some 43), none, 0, .see (.bin .add (.t 41) (.t 42))⟩,
    ⟨(some 44), none, 3, .call 15 [(.t 40), (.t 43)]⟩,
    ⟨(some 39), none, 0, .see (.mov (.t 44))⟩,
    ⟨(some 45), none, 0, .see (.ext (.t 39) 0)⟩,
    ⟨(some 46), none, 0, .see (.ext (.t 39) 1)⟩,
    ⟨(some 11), none, 0, .see (.mov (.t 45))⟩,
    ⟨(some 12), none, 0, .see (.mov (.t 46))⟩])
  (.seq (.seq (.reg [⟨(some 47), none, 0, .see (.mov (.t 8))⟩,
    ⟨(some 48), none, 0, .see (.mov (.t 47))⟩,
    ⟨(some 49), (some (48, true)), 0, .see (.mov (.t 10))⟩,
    ⟨(some 50), none, 0, .see (.pick (.t 48) (.t 49) (.c (.r (.v (.bool false)))))⟩])
  (.cond (.t 50)
    (.seq (.reg [⟨(some 52), none, 0, .see (.mov (.t 7))⟩,
    ⟨(some 53), none, 0, .see (.mov (.t 9))⟩,
    ⟨(some 54), none, 4, .call 11 [(.t 52), (.t 53)]⟩,
    ⟨(some 51), none, 0, .see (.mov (.t 54))⟩,
    ⟨(some 55), none, 0, .see (.ext (.t 51) 0)⟩,
    ⟨(some 56), none, 0, .see (.ext (.t 51) 1)⟩,
    ⟨(some 13), none, 0, .see (.mov (.t 55))⟩,
    ⟨(some 14), none, 0, .see (.mov (.t 56))⟩])
    (.seq (.reg [⟨(some 57), none, 0, .see (.mov (.t 13))⟩,
    ⟨(some 58), none, 0, .see (.mov (.t 11))⟩,
    ⟨(some 59), none, 0, .see (.bin .neq (.t 57) (.t 58))⟩,
    ⟨(some 60), none, 0, .see (.mov (.t 59))⟩,
    ⟨(some 61), (some (60, false)), 0, .see (.mov (.t 14))⟩,
    ⟨(some 62), (some (60, false)), 0, .see (.mov (.t 12))⟩,
    ⟨(some 63), (some (60, false)), 0, .see (.beq true (.t 61) (.t 62))⟩,
    ⟨(some 64), none, 0, .see (.pick (.t 60) (.c (.r (.v (.bool true)))) (.t 63))⟩])
    (.cond (.t 64)
      (.seq (.reg [⟨(some 6), none, 0, .see (.mov (.c (.r (.v (.bool false)))))⟩])
      .ret)
      .skip)))
    (.seq (.reg [⟨(some 65), none, 0, .see (.mov (.t 12))⟩,
    ⟨(some 66), none, 0, .see (.mov (.t 65))⟩,
    ⟨(some 67), (some (66, true)), 0, .see (.mov (.t 0))⟩,
    ⟨(some 68), (some (66, true)), 0, .see (.bin .neq (.t 67) (.c (.r (.v (.int .i64 0)))))⟩,
    ⟨(some 69), none, 0, .see (.pick (.t 66) (.t 68) (.c (.r (.v (.bool false)))))⟩])
    (.cond (.t 69)
      (.seq (.reg [⟨(some 6), none, 0, .see (.mov (.c (.r (.v (.bool false)))))⟩])
      .ret)
      .skip))))
  (.seq (.reg [⟨(some 71), none, 5, .call 15 [(.c (.r (.v (.int .i64 1)))), (.c (.r (.v (.int .i64 1048576))))]⟩,
    ⟨(some 70), none, 0, .see (.mov (.t 71))⟩,
    ⟨(some 72), none, 0, .see (.ext (.t 70) 0)⟩,
    ⟨(some 73), none, 0, .see (.ext (.t 70) 1)⟩,
    ⟨(some 15), none, 0, .see (.mov (.t 72))⟩,
    ⟨(some 16), none, 0, .see (.mov (.t 73))⟩])
  (.seq (.reg [⟨(some 75), none, 0, .see (.mov (.t 1))⟩,
    ⟨(some 76), none, 0, .see (.bin .mul (.c (.r (.v (.int .i64 2)))) (.t 75))⟩,
    ⟨(some 77), none, 0, .see (.bin .add (.t 76) (.c (.r (.v (.int .i64 1)))))⟩,
    ⟨(some 78), none, 6, .call 15 [(.c (.r (.v (.int .i64 (-1))))), (.t 77)]⟩,
    ⟨(some 74), none, 0, .see (.mov (.t 78))⟩,
    ⟨(some 79), none, 0, .see (.ext (.t 74) 0)⟩,
    ⟨(some 80), none, 0, .see (.ext (.t 74) 1)⟩,
    ⟨(some 17), none, 0, .see (.mov (.t 79))⟩,
    ⟨(some 18), none, 0, .see (.mov (.t 80))⟩])
  (.seq (.reg [⟨(some 82), none, 0, .see (.mov (.t 1))⟩,
    ⟨(some 83), none, 0, .see (.bin .add (.t 82) (.c (.r (.v (.int .i64 1)))))⟩,
    ⟨(some 84), none, 7, .call 15 [(.c (.r (.v (.int .i64 0)))), (.t 83)]⟩,
    ⟨(some 81), none, 0, .see (.mov (.t 84))⟩,
    ⟨(some 85), none, 0, .see (.ext (.t 81) 0)⟩,
    ⟨(some 86), none, 0, .see (.ext (.t 81) 1)⟩,
    ⟨(some 19), none, 0, .see (.mov (.t 85))⟩,
    ⟨(some 20), none, 0, .see (.mov (.t 86))⟩])
  (.seq (.reg [⟨(some 88), none, 0, .see (.mov (.t 0))⟩,
    ⟨(some 89), none, 8, .call 15 [(.t 88), (.c (.r (.v (.int .i64 (-1)))))]⟩,
    ⟨(some 87), none, 0, .see (.mov (.t 89))⟩,
    ⟨(some 90), none, 0, .see (.ext (.t 87) 0)⟩,
    ⟨(some 91), none, 0, .see (.ext (.t 87) 1)⟩,
    ⟨(some 21), none, 0, .see (.mov (.t 90))⟩,
    ⟨(some 22), none, 0, .see (.mov (.t 91))⟩])
  (.seq (.reg [⟨(some 92), none, 0, .see (.mov (.t 15))⟩,
    ⟨(some 93), none, 0, .see (.bin .eql (.t 92) (.c (.r (.v (.int .i64 1)))))⟩,
    ⟨(some 94), none, 0, .see (.mov (.t 93))⟩,
    ⟨(some 95), (some (94, true)), 0, .see (.mov (.t 17))⟩,
    ⟨(some 96), (some (94, true)), 0, .see (.bin .eql (.t 95) (.c (.r (.v (.int .i64 (-1))))))⟩,
    ⟨(some 97), none, 0, .see (.pick (.t 94) (.t 96) (.c (.r (.v (.bool false)))))⟩,
    ⟨(some 98), none, 0, .see (.mov (.t 97))⟩,
    ⟨(some 99), (some (98, true)), 0, .see (.mov (.t 19))⟩,
    ⟨(some 100), (some (98, true)), 0, .see (.bin .eql (.t 99) (.c (.r (.v (.int .i64 0)))))⟩,
    ⟨(some 101), none, 0, .see (.pick (.t 98) (.t 100) (.c (.r (.v (.bool false)))))⟩,
    ⟨(some 102), none, 0, .see (.mov (.t 101))⟩,
    ⟨(some 103), (some (102, true)), 0, .see (.mov (.t 22))⟩,
    ⟨(some 104), (some (102, true)), 0, .see (.un .not (.t 103))⟩,
    ⟨(some 105), none, 0, .see (.pick (.t 102) (.t 104) (.c (.r (.v (.bool false)))))⟩,
    ⟨(some 106), none, 0, .see (.mov (.t 105))⟩,
    ⟨(some 107), (some (106, true)), 9, .call 14 []⟩,
    ⟨(some 108), none, 0, .see (.pick (.t 106) (.t 107) (.c (.r (.v (.bool false)))))⟩,
    ⟨(some 6), none, 0, .see (.mov (.t 108))⟩])
  .ret)))))))))))
noncomputable abbrev apiarylaw1_NumPowers_code : Code := (Go.Proofs.Tryd.f4.body).getD .skip
theorem apiarylaw1_NumPowers_chk : chkC Go.Proofs.Tryd.prog 109 apiarylaw1_NumPowers_code apiarylaw1_NumPowers_pc = true := by kernel_rfl
theorem apiarylaw1_NumPowers_triple {args : List AV} {po ro : List Ob} {res : AV} (hal : args.length = 3) (hpo : po.length ≤ 1000)
    (h : run Go.Proofs.Tryd.prog po.length (RetP po.length [(6, false, none)] fun v os => v = res ∧ os = ro) [.c apiarylaw1_NumPowers_pc] ⟨argE 0 args, ob0 po⟩) : Triple Go.Proofs.Tryd.prog 4 args po res ro :=
  triple_of_W (fn := Go.Proofs.Tryd.f4) (c := apiarylaw1_NumPowers_code) (pc := apiarylaw1_NumPowers_pc) (rs := [(6, false, none)]) Go.Proofs.Tryd.func4 rfl (by decide) (by have := apiarylaw1_NumPowers_chk; exact this) (by rw [hal]; decide) rfl (by kernel_rfl) (by kernel_rfl) (by decide) hpo (W_of_run h)

theorem and_mask (x m : Int) (n : Nat) (hn : n ≤ 62) (hm : m = 2 ^ n - 1) : IntKind.i64.wrap ((BitVec.ofInt IntKind.i64.bits x &&& BitVec.ofInt IntKind.i64.bits m).toNat) = x % 2 ^ n := by
  have hp : 2 ^ n ≤ 2 ^ 62 := Nat.pow_le_pow_right (by decide) hn
  have hq : 1 ≤ 2 ^ n := Nat.one_le_two_pow
  have e3 : ((2 ^ n : Nat) : Int) = (2 : Int) ^ n := by simp
  have e : (BitVec.ofInt 64 m).toNat = 2 ^ n - 1 := by
    rw [BitVec.toNat_ofInt, hm, ← e3]
    omega
  have hd : ((2 ^ 64 : Nat) : Int) % (2 : Int) ^ n = 0 := by
    rw [show (64 : Nat) = (64 - n) + n by omega, Nat.pow_add]
    simp
  have hmod : (x % ((2 ^ 64 : Nat) : Int)).toNat % 2 ^ n = (x % (2 : Int) ^ n).toNat := by
    have h1 : 0 ≤ x % ((2 ^ 64 : Nat) : Int) := Int.emod_nonneg _ (by decide)
    have h2 : 0 ≤ x % (2 : Int) ^ n := Int.emod_nonneg _ (by omega)
    apply Int.ofNat.inj
    show (((x % ((2 ^ 64 : Nat) : Int)).toNat % 2 ^ n : Nat) : Int) = ((x % (2 : Int) ^ n).toNat : Int)
    rw [Int.natCast_emod, Int.toNat_of_nonneg h1, Int.toNat_of_nonneg h2, e3, Int.emod_emod_of_dvd _ (Int.dvd_of_emod_eq_zero hd)]
  have h2 : 0 ≤ x % (2 : Int) ^ n := Int.emod_nonneg _ (by omega)
  have h3 : x % (2 : Int) ^ n < 2 ^ n := Int.emod_lt_of_pos _ (by omega)
  rw [show IntKind.i64.bits = 64 from rfl, BitVec.toNat_and, e, Nat.and_two_pow_sub_one_eq_mod, BitVec.toNat_ofInt, hmod, Int.toNat_of_nonneg h2]
  exact wrap_id (by omega)
set_option maxRecDepth 100000 in
theorem numEnds_t (k : Int) (hk : in64 k) : Triple Go.Proofs.Tryd.prog 6 [int .i64 k] [] (bl true) [] := by
  refine apiarylaw1_NumEnds_triple rfl (by decide) ?_
  obtain ⟨K, hK, K1, K2⟩ : ∃ K, IntKind.i64.wrap (k % 2 ^ 16 + 1) = K ∧ 1 ≤ K ∧ K ≤ 65536 := by
    have h1 : 0 ≤ k % 2 ^ 16 := Int.emod_nonneg _ (by decide)
    have h2 : k % 2 ^ 16 < 2 ^ 16 := Int.emod_lt_of_pos _ (by decide)
    refine ⟨k % 2 ^ 16 + 1, wrap_id (by omega), by omega, by omega⟩
  have w1 : IntKind.i64.wrap (9223372036854775807 - K) = 9223372036854775807 - K := wrap_id (by omega)
  have w2 : IntKind.i64.wrap (K + 1) = K + 1 := wrap_id (by omega)
  have w3 : IntKind.i64.wrap (-9223372036854775808 + K) = -9223372036854775808 + K := wrap_id (by omega)
  have w4 : IntKind.i64.wrap (9223372036854775807 - K + 1) = 9223372036854775807 - K + 1 := wrap_id (by omega)
  have i0 : ∀ x : Int, -9223372036854775808 ≤ x ∧ x ≤ 9223372036854775807 → in64 x := fun x h => h
  have a1 : sm (9223372036854775807 - K + K) = .tup [int .i64 9223372036854775807, bl true] := (sm_yes (by omega) (by unfold in64; omega)).symm
  have a2 : sm (9223372036854775807 - K + (K + 1)) = .tup [int .i64 0, bl false] := (sm_no (by unfold in64; omega)).symm
  have a3 : sm (-9223372036854775808 + K - K) = .tup [int .i64 (-9223372036854775808), bl true] := (sm_yes (by omega) (by unfold in64; omega)).symm
  have a4 : sm (-9223372036854775808 + K - (K + 1)) = .tup [int .i64 0, bl false] := (sm_no (by unfold in64; omega)).symm
  have a5 : sm (- -9223372036854775808) = .tup [int .i64 0, bl false] := (sm_no (by decide)).symm
  have a6 : sm (-(-9223372036854775808 + K)) = .tup [int .i64 (9223372036854775807 - K + 1), bl true] := (sm_yes (by omega) (by unfold in64; omega)).symm
  have a7 : sm (-9223372036854775808 * -1) = .tup [int .i64 0, bl false] := (sm_no (by decide)).symm
  have a8 : sm (-9223372036854775808 * 1) = .tup [int .i64 (-9223372036854775808), bl true] := (sm_yes (by decide) (by decide)).symm
  have a9 : (if (63 : Int) < 0 then AV.tup [int .i64 0, bl false] else sm (1 * 2 ^ (63 : Int).toNat)) = .tup [int .i64 0, bl false] := (sm_no (by decide)).symm
  have a10 : (if (63 : Int) < 0 then AV.tup [int .i64 0, bl false] else sm (-1 * 2 ^ (63 : Int).toNat)) = .tup [int .i64 (-9223372036854775808), bl true] := (sm_yes (by decide) (by decide)).symm
  simp only [apiarylaw1_NumEnds_pc, and_mask k 65535 16 (by decide) (by decide), hK, w1, w2, w3, w4, List.length_nil, push_cast, ↓reduceIte, reduceCtorEq, Nat.reduceBEq, Nat.reduceEqDiff, Nat.reduceAdd, Nat.reduceSub, Nat.reduceLT, Nat.reduceLeDiff, Nat.reduceMul]
  refine call_mk (add_t _ _ (i0 _ (by omega)) (i0 _ (by omega))) rfl trivial ?_
  simp only [a1, w1, w2, w3, w4, push_cast, ↓reduceIte, reduceCtorEq, Nat.reduceBEq, Nat.reduceEqDiff, Nat.reduceAdd, Nat.reduceSub, Nat.reduceLT, Nat.reduceLeDiff, Nat.reduceMul]
  refine call_mk (add_t _ _ (i0 _ (by omega)) (i0 _ (by omega))) rfl trivial ?_
  simp only [a2, w1, w2, w3, w4, push_cast, ↓reduceIte, reduceCtorEq, Nat.reduceBEq, Nat.reduceEqDiff, Nat.reduceAdd, Nat.reduceSub, Nat.reduceLT, Nat.reduceLeDiff, Nat.reduceMul]
  refine call_mk (sub_t _ _ (i0 _ (by omega)) (i0 _ (by omega))) rfl trivial ?_
  simp only [a3, w1, w2, w3, w4, push_cast, ↓reduceIte, reduceCtorEq, Nat.reduceBEq, Nat.reduceEqDiff, Nat.reduceAdd, Nat.reduceSub, Nat.reduceLT, Nat.reduceLeDiff, Nat.reduceMul]
  refine call_mk (sub_t _ _ (i0 _ (by omega)) (i0 _ (by omega))) rfl trivial ?_
  simp only [a4, w1, w2, w3, w4, push_cast, ↓reduceIte, reduceCtorEq, Nat.reduceBEq, Nat.reduceEqDiff, Nat.reduceAdd, Nat.reduceSub, Nat.reduceLT, Nat.reduceLeDiff, Nat.reduceMul]
  refine call_mk (neg_t _ (i0 _ (by omega))) rfl trivial ?_
  simp only [a5, w1, w2, w3, w4, push_cast, ↓reduceIte, reduceCtorEq, Nat.reduceBEq, Nat.reduceEqDiff, Nat.reduceAdd, Nat.reduceSub, Nat.reduceLT, Nat.reduceLeDiff, Nat.reduceMul]
  refine call_mk (neg_t _ (i0 _ (by omega))) rfl trivial ?_
  simp only [a6, w1, w2, w3, w4, push_cast, ↓reduceIte, reduceCtorEq, Nat.reduceBEq, Nat.reduceEqDiff, Nat.reduceAdd, Nat.reduceSub, Nat.reduceLT, Nat.reduceLeDiff, Nat.reduceMul]
  refine call_mk (mul_t _ _ (i0 _ (by omega)) (i0 _ (by omega))) rfl trivial ?_
  simp only [a7, w1, w2, w3, w4, push_cast, ↓reduceIte, reduceCtorEq, Nat.reduceBEq, Nat.reduceEqDiff, Nat.reduceAdd, Nat.reduceSub, Nat.reduceLT, Nat.reduceLeDiff, Nat.reduceMul]
  refine call_mk (mul_t _ _ (i0 _ (by omega)) (i0 _ (by omega))) rfl trivial ?_
  simp only [a8, w1, w2, w3, w4, push_cast, ↓reduceIte, reduceCtorEq, Nat.reduceBEq, Nat.reduceEqDiff, Nat.reduceAdd, Nat.reduceSub, Nat.reduceLT, Nat.reduceLeDiff, Nat.reduceMul]
  refine call_mk (shl_t 1 63 (by decide) (by decide)) rfl trivial ?_
  simp only [a9, w1, w2, w3, w4, push_cast, ↓reduceIte, reduceCtorEq, Nat.reduceBEq, Nat.reduceEqDiff, Nat.reduceAdd, Nat.reduceSub, Nat.reduceLT, Nat.reduceLeDiff, Nat.reduceMul]
  refine call_mk (shl_t (-1) 63 (by decide) (by decide)) rfl trivial ?_
  simp only [a10, w1, w2, w3, w4, push_cast, ↓reduceIte, reduceCtorEq, Nat.reduceBEq, Nat.reduceEqDiff, Nat.reduceAdd, Nat.reduceSub, Nat.reduceLT, Nat.reduceLeDiff, Nat.reduceMul]
  refine call_mk awake1_t rfl trivial ?_
  simp only [push_cast, ↓reduceIte, reduceCtorEq, Nat.reduceBEq, Nat.reduceEqDiff, Nat.reduceAdd, Nat.reduceSub, Nat.reduceLT, Nat.reduceLeDiff, Nat.reduceMul]
set_option maxRecDepth 100000 in
theorem numFloors_t (a b k : Int) (ha : in64 a) (hb : in64 b) (hk : in64 k) : Triple Go.Proofs.Tryd.prog 8 [int .i64 a, int .i64 b, int .i64 k] [] (bl true) [] := by
  refine apiarylaw1_NumFloors_triple rfl (by decide) ?_
  simp only [apiarylaw1_NumFloors_pc, List.length_nil, push_cast, ↓reduceIte, reduceCtorEq, Nat.reduceBEq, Nat.reduceEqDiff, Nat.reduceAdd, Nat.reduceSub, Nat.reduceLT, Nat.reduceLeDiff, Nat.reduceMul]
  refine call_mk (floor_t a b ha hb) rfl trivial ?_
  simp only [push_cast, ↓reduceIte, reduceCtorEq, Nat.reduceBEq, Nat.reduceEqDiff, Nat.reduceAdd, Nat.reduceSub, Nat.reduceLT, Nat.reduceLeDiff, Nat.reduceMul]
  refine call_mk (rfloor_t a b ha hb) rfl trivial ?_
  simp only [push_cast, ↓reduceIte, reduceCtorEq, Nat.reduceBEq, Nat.reduceEqDiff, Nat.reduceAdd, Nat.reduceSub, Nat.reduceLT, Nat.reduceLeDiff, Nat.reduceMul]
  refine call_mk (shl_t a k ha hk) rfl trivial ?_
  have hs : ∀ y : Int, (if k < 0 then AV.tup [int .i64 0, bl false] else sm y) = .tup [int .i64 (if k < 0 then 0 else vl y), bl (if k < 0 then false else okl y)] := fun y => by split <;> rfl
  simp only [hs, push_cast, ↓reduceIte, reduceCtorEq, Nat.reduceBEq, Nat.reduceEqDiff, Nat.reduceAdd, Nat.reduceSub, Nat.reduceLT, Nat.reduceLeDiff, Nat.reduceMul]
  refine call_mk (rshl_t a k ha hk) rfl trivial ?_
  simp only [hs, push_cast, ↓reduceIte, reduceCtorEq, Nat.reduceBEq, Nat.reduceEqDiff, Nat.reduceAdd, Nat.reduceSub, Nat.reduceLT, Nat.reduceLeDiff, Nat.reduceMul]
  refine call_mk (pow_t a k ha hk) rfl trivial ?_
  simp only [hs, push_cast, ↓reduceIte, reduceCtorEq, Nat.reduceBEq, Nat.reduceEqDiff, Nat.reduceAdd, Nat.reduceSub, Nat.reduceLT, Nat.reduceLeDiff, Nat.reduceMul]
  refine call_mk (rpow_t a k ha hk) rfl trivial ?_
  simp only [hs, push_cast, ↓reduceIte, reduceCtorEq, Nat.reduceBEq, Nat.reduceEqDiff, Nat.reduceAdd, Nat.reduceSub, Nat.reduceLT, Nat.reduceLeDiff, Nat.reduceMul]
  refine call_mk awake1_t rfl trivial ?_
  simp only [push_cast, ↓reduceIte, reduceCtorEq, Nat.reduceBEq, Nat.reduceEqDiff, Nat.reduceAdd, Nat.reduceSub, Nat.reduceLT, Nat.reduceLeDiff, Nat.reduceMul]
end Go.Ev
