import Derived.Test.YtpjimnjfjopedaaTrU
namespace Go.Ev
open Go
set_option linter.unnecessarySimpa false
set_option linter.unusedSimpArgs false
set_option linter.unusedVariables false
noncomputable def apiarylaw17_gcd_pc : PC :=
  (.seq (.reg [⟨(some 4), none, 0, .see (.mov (.c (.r (.v (.int .i64 0)))))⟩])
  (.seq (.block 0 (.loop (.seq (.seq (.reg [⟨(some 5), none, 0, .see (.mov (.t 1))⟩,
    ⟨(some 6), none, 0, .see (.bin .neq (.t 5) (.c (.r (.v (.int .i64 0)))))⟩])
  (.cond (.t 6)
    .skip
    (.exit 0)))
  (.block 1 (.drw [⟨(some 7), none, 0, .see (.mov (.t 1))⟩,
    ⟨(some 8), none, 0, .see (.mov (.t 0))⟩,
    ⟨(some 9), none, 0, .see (.mov (.t 1))⟩,
    ⟨(some 10), none, 0, .see (.bin .rem (.t 8) (.t 9))⟩,
    ⟨(some 0), none, 0, .see (.mov (.t 7))⟩,
    ⟨(some 1), none, 0, .see (.mov (.t 10))⟩]
    [[], [], [], [1, 2], [0, 1], [0, 1, 2, 3, 4]])))))
  (.seq (.reg [⟨(some 11), none, 0, .see (.mov (.t 0))⟩,
    ⟨(some 4), none, 0, .see (.mov (.t 11))⟩])
  .ret)))
noncomputable abbrev apiarylaw17_gcd_code : Code := (Go.Proofs.Try.f18.body).getD .skip
theorem apiarylaw17_gcd_chk : chkC Go.Proofs.Try.prog 12 apiarylaw17_gcd_code apiarylaw17_gcd_pc = true := by kernel_rfl
theorem apiarylaw17_gcd_triple {args : List AV} {po ro : List Ob} {res : AV} (hal : args.length = 2) (hpo : po.length ≤ 1000)
    (h : run Go.Proofs.Try.prog po.length (RetP po.length [(4, false, none)] fun v os => v = res ∧ os = ro) [.c apiarylaw17_gcd_pc] ⟨argE 0 args, ob0 po⟩) : Triple Go.Proofs.Try.prog 18 args po res ro :=
  triple_of_W (fn := Go.Proofs.Try.f18) (c := apiarylaw17_gcd_code) (pc := apiarylaw17_gcd_pc) (rs := [(4, false, none)]) Go.Proofs.Try.func18 rfl (by decide) (by have := apiarylaw17_gcd_chk; exact this) (by rw [hal]; decide) rfl (by kernel_rfl) (by kernel_rfl) (by decide) hpo (W_of_run h)

noncomputable def apiarylaw17_TreeMany_pc : PC :=
  (.seq (.reg [⟨(some 6), none, 0, .see (.mov (.c (.r (.v (.bool false)))))⟩])
  (.seq (.reg [⟨(some 16), none, 1, .call 11 []⟩,
    ⟨(some 7), none, 0, .see (.mov (.t 16))⟩])
  (.seq (.seq (.reg [⟨(some 17), none, 0, .see (.mov (.t 7))⟩,
    ⟨(some 18), none, 0, .see (.eqn false (.t 17))⟩])
  (.cond (.t 18)
    (.seq (.reg [⟨(some 6), none, 0, .see (.mov (.c (.r (.v (.bool false)))))⟩])
    .ret)
    .skip))
  (.seq (.reg [⟨(some 19), none, 0, .see (.mov (.t 0))⟩,
    ⟨(some 20), none, 0, .see (.bin .and (.t 19) (.c (.r (.v (.int .i64 511)))))⟩,
    ⟨(some 21), none, 0, .see (.bin .rem (.t 20) (.c (.r (.v (.int .i64 400)))))⟩,
    ⟨(some 22), none, 0, .see (.bin .add (.t 21) (.c (.r (.v (.int .i64 1)))))⟩,
    ⟨(some 0), none, 0, .see (.mov (.t 22))⟩])
  (.seq (.reg [⟨(some 23), none, 0, .see (.mov (.t 1))⟩,
    ⟨(some 24), none, 0, .see (.bin .and (.t 23) (.c (.r (.v (.int .i64 255)))))⟩,
    ⟨(some 25), none, 0, .see (.bin .mul (.t 24) (.c (.r (.v (.int .i64 2)))))⟩,
    ⟨(some 26), none, 0, .see (.bin .add (.t 25) (.c (.r (.v (.int .i64 1)))))⟩,
    ⟨(some 1), none, 0, .see (.mov (.t 26))⟩])
  (.seq (.block 0 (.loop (.seq (.seq (.reg [⟨(some 27), none, 0, .see (.mov (.t 0))⟩,
    ⟨(some 28), none, 0, .see (.bin .rem (.t 27) (.c (.r (.v (.int .i64 2)))))⟩,
    ⟨(some 29), none, 0, .see (.bin .eql (.t 28) (.c (.r (.v (.int .i64 0)))))⟩,
    ⟨(some 30), none, 0, .see (.mov (.t 29))⟩,
    ⟨(some 31), (some (30, true)), 0, .see (.mov (.t 1))⟩,
    ⟨(some 32), (some (30, true)), 0, .see (.bin .rem (.t 31) (.c (.r (.v (.int .i64 2)))))⟩,
    ⟨(some 33), (some (30, true)), 0, .see (.bin .eql (.t 32) (.c (.r (.v (.int .i64 0)))))⟩,
    ⟨(some 34), none, 0, .see (.pick (.t 30) (.t 33) (.c (.r (.v (.bool false)))))⟩,
    ⟨(some 35), none, 0, .see (.mov (.t 34))⟩,
    ⟨(some 36), (some (35, false)), 0, .see (.mov (.t 0))⟩,
    ⟨(some 37), (some (35, false)), 0, .see (.mov (.t 1))⟩,
    ⟨(some 38), (some (35, false)), 2, .call 18 [(.t 36), (.t 37)]⟩,
    ⟨(some 39), (some (35, false)), 0, .see (.bin .neq (.t 38) (.c (.r (.v (.int .i64 1)))))⟩,
    ⟨(some 40), none, 0, .see (.pick (.t 35) (.c (.r (.v (.bool true)))) (.t 39))⟩])
  (.cond (.t 40)
    .skip
    (.exit 0)))
  (.block 1 (.reg [⟨(some 41), none, 0, .see (.mov (.t 1))⟩,
    ⟨(some 42), none, 0, .see (.bin .add (.t 41) (.c (.r (.v (.int .i64 1)))))⟩,
    ⟨(some 1), none, 0, .see (.mov (.t 42))⟩])))))
  (.seq (.seq (.reg [⟨(some 8), none, 0, .see (.mov (.c (.r (.v (.int .i64 0)))))⟩])
  (.block 2 (.loop (.seq (.seq (.reg [⟨(some 43), none, 0, .see (.mov (.t 8))⟩,
    ⟨(some 44), none, 0, .see (.mov (.t 0))⟩,
    ⟨(some 45), none, 0, .see (.bin .lss (.t 43) (.t 44))⟩])
  (.cond (.t 45)
    .skip
    (.exit 2)))
  (.seq (.block 3 (.seq (.drw [⟨(some 48), none, 0, .see (.mov (.t 7))⟩,
    ⟨(some 49), none, 0, .see (.mov (.t 8))⟩,
    ⟨(some 50), none, 0, .see (.mov (.t 1))⟩,
    ⟨(some 51), none, 0, .see (.bin .mul (.t 49) (.t 50))⟩,
    ⟨(some 52), none, 0, .see (.mov (.t 0))⟩,
    ⟨(some 53), none, 0, .see (.bin .rem (.t 51) (.t 52))⟩,
    ⟨(some 54), none, 0, .see (.bin .quo (.t 53) (.c (.r (.v (.int .i64 7)))))⟩,
    ⟨(some 55), none, 0, .see (.conv .u64 (.t 54))⟩,
    ⟨(some 56), none, 0, .see (.mov (.t 8))⟩,
    ⟨(some 57), none, 0, .see (.mov (.t 1))⟩,
    ⟨(some 58), none, 0, .see (.bin .mul (.t 56) (.t 57))⟩,
    ⟨(some 59), none, 0, .see (.mov (.t 0))⟩,
    ⟨(some 60), none, 0, .see (.bin .rem (.t 58) (.t 59))⟩,
    ⟨(some 61), none, 0, .see (.bin .rem (.t 60) (.c (.r (.v (.int .i64 7)))))⟩,
    ⟨(some 62), none, 0, .see (.bin .sub (.t 61) (.c (.r (.v (.int .i64 3)))))⟩,
    ⟨(some 63), none, 0, .see (.build [(.r (.v (.int .u64 0))), (.r (.v (.int .i64 0))), (.r (.v (.int .i64 0)))] [(0, 1, (.t 55)), (1, 1, (.t 62)), (2, 1, (.c (.r (.v (.int .i64 1)))))])⟩,
    ⟨(some 64), none, 3, .call 12 [(.t 48), (.t 63)]⟩,
    ⟨(some 65), none, 0, .see (.un .not (.t 64))⟩]
    [[], [], [], [1, 2], [], [1, 2, 3, 4], [1, 2, 3, 4, 5], [1, 2, 3, 4, 5, 6], [], [], [8, 9], [], [8, 9, 10, 11], [8, 9, 10, 11, 12], [8, 9, 10, 11, 12, 13], [1, 2, 3, 4, 5, 6, 7, 8, 9, 10, 11, 12, 13, 14], [0, 1, 2, 3, 4, 5, 6, 7, 8, 9, 10, 11, 12, 13, 14, 15], [0, 1, 2, 3, 4, 5, 6, 7, 8, 9, 10, 11, 12, 13, 14, 15, 16]])
  (.cond (.t 65)
    (.seq (.reg [⟨(some 6), none, 0, .see (.mov (.c (.r (.v (.bool false)))))⟩])
    .ret)
    .skip)))
  (.reg [⟨(some 46), none, 0, .see (.mov (.t 8))⟩,
    ⟨(some 47), none, 0, .see (.bin .add (.t 46) (.c (.r (.v (.int .i64 1)))))⟩,
    ⟨(some 8), none, 0, .see (.mov (.t 47))⟩]))))))
  (.seq (.reg [⟨(some 9), none, 0, .see (.mov (.c (.r (.v (.int .i64 0)))))⟩])
  (.seq (.seq (.reg [⟨(some 10), none, 0, .see (.mov (.c (.r (.v (.int .i64 0)))))⟩])
  (.block 4 (.loop (.seq (.seq (.reg [⟨(some 66), none, 0, .see (.mov (.t 10))⟩,
    ⟨(some 67), none, 0, .see (.mov (.t 0))⟩,
    ⟨(some 68), none, 0, .see (.bin .lss (.t 66) (.t 67))⟩])
  (.cond (.t 68)
    .skip
    (.exit 4)))
  (.seq (.block 5 (.seq (.reg [⟨(some 71), none, 0, .see (.mov (.t 10))⟩,
    ⟨(some 72), none, 0, .see (.bin .quo (.t 71) (.c (.r (.v (.int .i64 7)))))⟩,
    ⟨(some 73), none, 0, .see (.conv .u64 (.t 72))⟩,
    ⟨(some 74), none, 0, .see (.mov (.t 10))⟩,
    ⟨(some 75), none, 0, .see (.bin .rem (.t 74) (.c (.r (.v (.int .i64 7)))))⟩,
    ⟨(some 76), none, 0, .see (.bin .sub (.t 75) (.c (.r (.v (.int .i64 3)))))⟩,
    ⟨(some 77), none, 0, .see (.build [(.r (.v (.int .u64 0))), (.r (.v (.int .i64 0))), (.r (.v (.int .i64 0)))] [(0, 1, (.t 73)), (1, 1, (.t 76)), (2, 1, (.c (.r (.v (.int .i64 1)))))])⟩,
    ⟨(some 11), none, 0, .act (.new [(.r (.v (.int .u64 0))), (.r (.v (.int .i64 0))), (.r (.v (.int .i64 0)))])⟩,
    ⟨none, none, 0, .act (.st 3 (.t 11) (.t 77))⟩])
  (.seq (.seq (.reg [⟨(some 78), none, 0, .see (.mov (.t 7))⟩,
    ⟨(some 79), none, 0, .see (.ld (some 3) (.t 11))⟩,
    ⟨(some 80), none, 4, .call 17 [(.t 78), (.t 79)]⟩,
    ⟨(some 81), none, 0, .see (.mov (.t 9))⟩,
    ⟨(some 82), none, 0, .see (.bin .neq (.t 80) (.t 81))⟩])
  (.cond (.t 82)
    (.seq (.reg [⟨(some 6), none, 0, .see (.mov (.c (.r (.v (.bool false)))))⟩])
    .ret)
    .skip))
  (.seq (.seq (.reg [⟨(some 83), none, 0, .see (.mov (.t 2))⟩,
    ⟨(some 84), none, 0, .see (.mov (.t 10))⟩,
    ⟨(some 85), none, 0, .see (.bin .and (.t 84) (.c (.r (.v (.int .i64 63)))))⟩,
    ⟨(some 86), none, 0, .see (.bin .shr (.t 83) (.t 85))⟩,
    ⟨(some 87), none, 0, .see (.bin .and (.t 86) (.c (.r (.v (.int .u64 1)))))⟩,
    ⟨(some 88), none, 0, .see (.bin .eql (.t 87) (.c (.r (.v (.int .u64 1)))))⟩])
  (.cond (.t 88)
    (.seq (.seq (.reg [⟨(some 89), none, 0, .see (.mov (.t 7))⟩,
    ⟨(some 90), none, 0, .see (.ld (some 3) (.t 11))⟩,
    ⟨(some 91), none, 5, .call 15 [(.t 89), (.t 90)]⟩,
    ⟨(some 92), none, 0, .see (.un .not (.t 91))⟩,
    ⟨(some 93), none, 0, .see (.mov (.t 92))⟩,
    ⟨(some 94), (some (93, false)), 0, .see (.mov (.t 7))⟩,
    ⟨(some 95), (some (93, false)), 0, .see (.ld (some 3) (.t 11))⟩,
    ⟨(some 96), (some (93, false)), 6, .call 14 [(.t 94), (.t 95)]⟩,
    ⟨(some 97), none, 0, .see (.pick (.t 93) (.c (.r (.v (.bool true)))) (.t 96))⟩])
    (.cond (.t 97)
      (.seq (.reg [⟨(some 6), none, 0, .see (.mov (.c (.r (.v (.bool false)))))⟩])
      .ret)
      .skip))
    (.exit 5))
    .skip))
  (.reg [⟨(some 98), none, 0, .see (.mov (.t 9))⟩,
    ⟨(some 99), none, 0, .see (.bin .add (.t 98) (.c (.r (.v (.int .i64 1)))))⟩,
    ⟨(some 9), none, 0, .see (.mov (.t 99))⟩])))))
  (.reg [⟨(some 69), none, 0, .see (.mov (.t 10))⟩,
    ⟨(some 70), none, 0, .see (.bin .add (.t 69) (.c (.r (.v (.int .i64 1)))))⟩,
    ⟨(some 10), none, 0, .see (.mov (.t 70))⟩]))))))
  (.seq (.reg [⟨(some 100), none, 0, .see (.mov (.t 7))⟩,
    ⟨(some 101), none, 0, .see (.build [(.r (.v (.int .u64 0))), (.r (.v (.int .i64 0))), (.r (.v (.int .i64 0)))] [])⟩,
    ⟨(some 102), none, 0, .see (.build [(.r (.v (.int .u64 0))), (.r (.v (.int .i64 0))), (.r (.v (.int .i64 0)))] [(0, 1, (.c (.r (.v (.int .u64 1152921504606846976)))))])⟩,
    ⟨(some 103), none, 7, .call 16 [(.t 100), (.t 101), (.t 102)]⟩,
    ⟨(some 12), none, 0, .see (.mov (.t 103))⟩])
  (.seq (.seq (.reg [⟨(some 13), none, 0, .see (.mov (.c (.r (.v (.int .i64 1)))))⟩])
  (.block 6 (.loop (.seq (.seq (.reg [⟨(some 104), none, 0, .see (.mov (.t 13))⟩,
    ⟨(some 105), none, 0, .see (.mov (.t 12))⟩,
    ⟨(some 106), none, 0, .see (.len false (.t 105))⟩,
    ⟨(some 107), none, 0, .see (.bin .lss (.t 104) (.t 106))⟩])
  (.cond (.t 107)
    .skip
    (.exit 6)))
  (.seq (.block 7 (.seq (.drw [⟨(some 110), none, 0, .see (.mov (.t 12))⟩,
    ⟨(some 111), none, 0, .see (.mov (.t 13))⟩,
    ⟨(some 112), none, 0, .see (.bin .sub (.t 111) (.c (.r (.v (.int .i64 1)))))⟩,
    ⟨(some 113), none, 0, .see (.ia 3 (.agg [(.v (.int .u64 0)), (.v (.int .i64 0)), (.v (.int .i64 0))]) (.t 110) (.t 112))⟩,
    ⟨(some 114), none, 0, .see (.ld (some 3) (.t 113))⟩,
    ⟨(some 115), none, 0, .see (.mov (.t 12))⟩,
    ⟨(some 116), none, 0, .see (.mov (.t 13))⟩,
    ⟨(some 117), none, 0, .see (.ia 3 (.agg [(.v (.int .u64 0)), (.v (.int .i64 0)), (.v (.int .i64 0))]) (.t 115) (.t 116))⟩,
    ⟨(some 118), none, 0, .see (.ld (some 3) (.t 117))⟩,
    ⟨(some 119), none, 8, .call 8 [(.t 114), (.t 118)]⟩,
    ⟨(some 120), none, 0, .see (.un .not (.t 119))⟩]
    [[], [], [1], [0, 1, 2], [0, 1, 2, 3], [], [], [5, 6], [5, 6, 7], [0, 1, 2, 3, 4, 5, 6, 7, 8], [0, 1, 2, 3, 4, 5, 6, 7, 8, 9]])
  (.cond (.t 120)
    (.seq (.reg [⟨(some 6), none, 0, .see (.mov (.c (.r (.v (.bool false)))))⟩])
    .ret)
    .skip)))
  (.reg [⟨(some 108), none, 0, .see (.mov (.t 13))⟩,
    ⟨(some 109), none, 0, .see (.bin .add (.t 108) (.c (.r (.v (.int .i64 1)))))⟩,
    ⟨(some 13), none, 0, .see (.mov (.t 109))⟩]))))))
  (.seq (.reg [⟨(some 122), none, 0, .see (.mov (.t 7))⟩,
    ⟨(some 123), none, 9, .call 19 [(.t 122), (.c (.r (.v (.int .u64 0))))]⟩,
    ⟨(some 121), none, 0, .see (.mov (.t 123))⟩,
    ⟨(some 124), none, 0, .see (.ext (.t 121) 0)⟩,
    ⟨(some 125), none, 0, .see (.ext (.t 121) 1)⟩,
    ⟨(some 14), none, 0, .act (.new [(.r (.v (.int .u64 0))), (.r (.v (.int .i64 0))), (.r (.v (.int .i64 0)))])⟩,
    ⟨none, none, 0, .act (.st 3 (.t 14) (.t 124))⟩,
    ⟨(some 15), none, 0, .see (.mov (.t 125))⟩])
  (.seq (.drw [⟨(some 126), none, 0, .see (.mov (.t 7))⟩,
    ⟨(some 127), none, 10, .call 13 [(.t 126)]⟩,
    ⟨(some 128), none, 0, .see (.mov (.t 9))⟩,
    ⟨(some 129), none, 0, .see (.bin .eql (.t 127) (.t 128))⟩,
    ⟨(some 130), none, 0, .see (.mov (.t 129))⟩,
    ⟨(some 131), (some (130, true)), 0, .see (.mov (.t 12))⟩,
    ⟨(some 132), (some (130, true)), 0, .see (.len false (.t 131))⟩,
    ⟨(some 133), (some (130, true)), 0, .see (.mov (.t 9))⟩,
    ⟨(some 134), (some (130, true)), 0, .see (.bin .leq (.t 132) (.t 133))⟩,
    ⟨(some 135), none, 0, .see (.pick (.t 130) (.t 134) (.c (.r (.v (.bool false)))))⟩,
    ⟨(some 136), none, 0, .see (.mov (.t 135))⟩,
    ⟨(some 137), (some (136, true)), 0, .see (.mov (.t 12))⟩,
    ⟨(some 138), (some (136, true)), 0, .see (.len false (.t 137))⟩,
    ⟨(some 139), (some (136, true)), 0, .see (.bin .eql (.t 138) (.c (.r (.v (.int .i64 0)))))⟩,
    ⟨(some 140), (some (136, true)), 0, .see (.mov (.t 139))⟩,
    ⟨(some 141), (some (140, false)), 0, .see (.mov (.t 12))⟩,
    ⟨(some 142), (some (140, false)), 0, .see (.ia 3 (.agg [(.v (.int .u64 0)), (.v (.int .i64 0)), (.v (.int .i64 0))]) (.t 141) (.c (.r (.v (.int .i64 0)))))⟩,
    ⟨(some 143), (some (140, false)), 0, .see (.ld (some 3) (.t 142))⟩,
    ⟨(some 144), (some (140, false)), 0, .see (.ld (some 3) (.t 14))⟩,
    ⟨(some 145), (some (140, false)), 11, .call 8 [(.t 143), (.t 144)]⟩,
    ⟨(some 146), (some (140, false)), 0, .see (.un .not (.t 145))⟩,
    ⟨(some 147), (some (136, true)), 0, .see (.pick (.t 140) (.c (.r (.v (.bool true)))) (.t 146))⟩,
    ⟨(some 148), none, 0, .see (.pick (.t 136) (.t 147) (.c (.r (.v (.bool false)))))⟩,
    ⟨(some 149), none, 0, .see (.mov (.t 148))⟩,
    ⟨(some 150), (some (149, true)), 12, .call 10 []⟩,
    ⟨(some 151), none, 0, .see (.pick (.t 149) (.t 150) (.c (.r (.v (.bool false)))))⟩,
    ⟨(some 6), none, 0, .see (.mov (.t 151))⟩]
    [[], [0], [], [0, 1, 2], [0, 1, 2, 3], [0, 1, 2, 3, 4], [0, 1, 2, 3, 4, 5], [0, 1, 2, 3, 4], [0, 1, 2, 3, 4, 5, 6, 7], [0, 1, 2, 3, 4, 5, 6, 7, 8], [0, 1, 2, 3, 4, 5, 6, 7, 8, 9], [0, 1, 2, 3, 4, 5, 6, 7, 8, 9, 10], [0, 1, 2, 3, 4, 5, 6, 7, 8, 9, 10, 11], [0, 1, 2, 3, 4, 5, 6, 7, 8, 9, 10, 11, 12], [0, 1, 2, 3, 4, 5, 6, 7, 8, 9, 10, 11, 12, 13], [0, 1, 2, 3, 4, 5, 6, 7, 8, 9, 10, 11, 12, 13, 14], [0, 1, 2, 3, 4, 5, 6, 7, 8, 9, 10, 11, 12, 13, 14, 15], [0, 1, 2, 3, 4, 5, 6, 7, 8, 9, 10, 11, 12, 13, 14, 15, 16], [0, 1, 2, 3, 4, 5, 6, 7, 8, 9, 10, 11, 12, 13, 14], [0, 1, 2, 3, 4, 5, 6, 7, 8, 9, 10, 11, 12, 13, 14, 15, 16, 17, 18], [0, 1, 2, 3, 4, 5, 6, 7, 8, 9, 10, 11, 12, 13, 14, 15, 16, 17, 18, 19], [0, 1, 2, 3, 4, 5, 6, 7, 8, 9, 10, 11, 12, 13, 14, 15, 16, 17, 18, 19, 20], [0, 1, 2, 3, 4, 5, 6, 7, 8, 9, 10, 11, 12, 13, 14, 15, 16, 17, 18, 19, 20, 21], [0, 1, 2, 3, 4, 5, 6, 7, 8, 9, 10, 11, 12, 13, 14, 15, 16, 17, 18, 19, 20, 21, 22], [0, 1, 2, 3, 4, 5, 6, 7, 8, 9, 10, 11, 12, 13, 14, 15, 16, 17, 18, 19, 20, 21, 22, 23], [0, 1, 2, 3, 4, 5, 6, 7, 8, 9, 10, 11, 12, 13, 14, 15, 16, 17, 18, 19, 20, 21, 22, 23, 24], [0, 1, 2, 3, 4, 5, 6, 7, 8, 9, 10, 11, 12, 13, 14, 15, 16, 17, 18, 19, 20, 21, 22, 23, 24, 25]])
  .ret)))))))))))))
noncomputable abbrev apiarylaw17_TreeMany_code : Code := (Go.Proofs.Try.f6.body).getD .skip
theorem apiarylaw17_TreeMany_chk : chkC Go.Proofs.Try.prog 152 apiarylaw17_TreeMany_code apiarylaw17_TreeMany_pc = true := by kernel_rfl
theorem apiarylaw17_TreeMany_triple {args : List AV} {po ro : List Ob} {res : AV} (hal : args.length = 3) (hpo : po.length ≤ 1000)
    (h : run Go.Proofs.Try.prog po.length (RetP po.length [(6, false, none)] fun v os => v = res ∧ os = ro) [.c apiarylaw17_TreeMany_pc] ⟨argE 0 args, ob0 po⟩) : Triple Go.Proofs.Try.prog 6 args po res ro :=
  triple_of_W (fn := Go.Proofs.Try.f6) (c := apiarylaw17_TreeMany_code) (pc := apiarylaw17_TreeMany_pc) (rs := [(6, false, none)]) Go.Proofs.Try.func6 rfl (by decide) (by have := apiarylaw17_TreeMany_chk; exact this) (by rw [hal]; decide) rfl (by kernel_rfl) (by kernel_rfl) (by decide) hpo (W_of_run h)

set_option maxRecDepth 100000 in
theorem gcd_t (a b : Nat) (ha : a ≤ 1000000) (hb : b ≤ 1000000) : Triple Go.Proofs.Try.prog 18 [int .i64 a, int .i64 b] [] (int .i64 (Nat.gcd a b)) [] := by
  refine apiarylaw17_gcd_triple rfl (by decide) ?_
  simp only [apiarylaw17_gcd_pc, List.length_nil, push_cast, ↓reduceIte, reduceCtorEq, Nat.reduceBEq, Nat.reduceEqDiff, Nat.reduceAdd, Nat.reduceSub, Nat.reduceLT, Nat.reduceLeDiff, Nat.reduceMul]
  refine run_loop [(0, false), (1, false)] (fun vs pos los => ∃ (x y : Nat), x ≤ 1000000 ∧ y ≤ 1000000 ∧ Nat.gcd x y = Nat.gcd a b ∧ vs = [int .i64 x, int .i64 y] ∧ pos = [] ∧ los = [])
      (fun vs _ _ => match vs with | [_, .r (.v (.int _ a))] => a.toNat | _ => 0) rfl ?_ ?_
  · simp only [push_cast, ↓reduceIte, reduceCtorEq, Nat.reduceBEq, Nat.reduceEqDiff, Nat.reduceAdd, Nat.reduceSub, Nat.reduceLT, Nat.reduceLeDiff, Nat.reduceMul]
    exact ⟨a, b, ha, hb, rfl, by simp⟩
  · rintro vs pos los ⟨x, y, hx, hy, hg, rfl, rfl, rfl⟩
    simp only [push_cast, ↓reduceIte, reduceCtorEq, Nat.reduceBEq, Nat.reduceEqDiff, Nat.reduceAdd, Nat.reduceSub, Nat.reduceLT, Nat.reduceLeDiff, Nat.reduceMul]
    refine cnd_mk (fun h => ?_) (fun h => ?_)
    · have h' : 0 < y := by simp at h; omega
      simp only [push_cast, ↓reduceIte, reduceCtorEq, Nat.reduceBEq, Nat.reduceEqDiff, Nat.reduceAdd, Nat.reduceSub, Nat.reduceLT, Nat.reduceLeDiff, Nat.reduceMul]
      have hm : ((x : Int)).tmod (y : Int) = ((x % y : Nat) : Int) := (Int.ofNat_tmod x y).symm
      have hlt := Nat.mod_lt x h'
      rw [hm]
      refine ⟨by omega, by kernel_rfl, ⟨y, x % y, hy, by omega, ?_, rfl⟩, by omega⟩
      rw [Nat.gcd_comm y, ← Nat.gcd_rec, Nat.gcd_comm]
      exact hg
    · have h' : y = 0 := by simp at h; omega
      subst h'
      simp only [push_cast, ↓reduceIte, reduceCtorEq, Nat.reduceBEq, Nat.reduceEqDiff, Nat.reduceAdd, Nat.reduceSub, Nat.reduceLT, Nat.reduceLeDiff, Nat.reduceMul]
      rw [← hg, Nat.gcd_zero_right]
set_option maxRecDepth 100000 in
set_option maxHeartbeats 1000000 in
theorem treeMany_t (n0 st0 tk : Int) : Triple Go.Proofs.Try.prog 6 [int .i64 n0, int .i64 st0, int .u64 tk] [] (bl true) [] := by
  refine apiarylaw17_TreeMany_triple rfl (by decide) ?_
  have hm1 := and_mask n0 511 9 (by decide) (by decide)
  have hm2 := and_mask st0 255 8 (by decide) (by decide)
  obtain ⟨n, hn⟩ : ∃ n : Nat, ((n0 % 2 ^ 9).tmod 400 + 1 : Int) = n := ⟨((n0 % 2 ^ 9).tmod 400 + 1).toNat, by rw [Int.tmod_eq_emod_of_nonneg (by omega)]; omega⟩
  have hn1 : 1 ≤ n ∧ n ≤ 400 := by rw [Int.tmod_eq_emod_of_nonneg (by omega)] at hn; omega
  obtain ⟨s0, hs0⟩ : ∃ s : Nat, (st0 % 2 ^ 8 * 2 + 1 : Int) = s := ⟨(st0 % 2 ^ 8 * 2 + 1).toNat, by omega⟩
  have hs1 : s0 ≤ 511 := by omega
  have hw1 : IntKind.i64.wrap ((n0 % 2 ^ 9).tmod 400 + 1) = (n : Int) := by rw [hn, wrap_id ⟨by omega, by omega⟩]
  have hw2 : IntKind.i64.wrap (st0 % 2 ^ 8 * 2) = st0 % 2 ^ 8 * 2 := wrap_id ⟨by omega, by omega⟩
  have hw3 : IntKind.i64.wrap (st0 % 2 ^ 8 * 2 + 1) = (s0 : Int) := by rw [hs0, wrap_id ⟨by omega, by omega⟩]
  simp only [apiarylaw17_TreeMany_pc, List.length_nil, push_cast, ↓reduceIte, reduceCtorEq, Nat.reduceBEq, Nat.reduceEqDiff, Nat.reduceAdd, Nat.reduceSub, Nat.reduceLT, Nat.reduceLeDiff, Nat.reduceMul]
  refine call_mk new_t rfl trivial ?_
  simp only [hm1, hm2, hw1, hw2, hw3, push_cast, ↓reduceIte, reduceCtorEq, Nat.reduceBEq, Nat.reduceEqDiff, Nat.reduceAdd, Nat.reduceSub, Nat.reduceLT, Nat.reduceLeDiff, Nat.reduceMul]
  refine And.intro (by decide) ?_
  obtain ⟨T, hT1, hT2, hT3⟩ := next_step n s0 (by omega)
  refine run_loop [(0, false), (1, false), (2, false), (7, false)] (fun vs pos los => ∃ (s : Nat), s ≤ T ∧
      vs = [int .i64 n, int .i64 s, int .u64 tk, .ptr 2000000 0 0] ∧ pos = [] ∧ los = [.abs (tr [])])
      (fun vs _ _ => match vs with | [_, .r (.v (.int _ a)), _, _] => (T - a).toNat | _ => 0) rfl ?_ ?_
  · simp only [push_cast, ↓reduceIte, reduceCtorEq, Nat.reduceBEq, Nat.reduceEqDiff, Nat.reduceAdd, Nat.reduceSub, Nat.reduceLT, Nat.reduceLeDiff, Nat.reduceMul]
    exact ⟨s0, by omega, by simp⟩
  · rintro vs pos los ⟨s, hs, rfl, rfl, rfl⟩
    have hg := gcd_t n s (by omega) (by omega)
    have hs1' : IntKind.i64.wrap ((s : Int) + 1) = (s : Int) + 1 := wrap_id ⟨by omega, by omega⟩
    obtain ⟨D, hD⟩ : ∃ D, (bif ((n : Int)).tmod 2 == 0 then ((s : Int)).tmod 2 == 0 else false) = D := ⟨_, rfl⟩
    rcases D with _ | _
    · simp only [hD, Bool.not_false, push_cast, ↓reduceIte, reduceCtorEq, Nat.reduceBEq, Nat.reduceEqDiff, Nat.reduceAdd, Nat.reduceSub, Nat.reduceLT, Nat.reduceLeDiff, Nat.reduceMul]
      refine And.intro (by decide) (And.intro (by intro; decide) ?_)
      refine call_mk hg rfl trivial ?_
      simp only [hs1', push_cast, ↓reduceIte, reduceCtorEq, Nat.reduceBEq, Nat.reduceEqDiff, Nat.reduceAdd, Nat.reduceSub, Nat.reduceLT, Nat.reduceLeDiff, Nat.reduceMul]
      refine cnd_mk (fun h3 => ?_) (fun h3 => ?_)
      · have hsT : s ≠ T := fun e => by subst e; rw [hT3] at h3; simp at h3
        simp only [hs1', push_cast, ↓reduceIte, reduceCtorEq, Nat.reduceBEq, Nat.reduceEqDiff, Nat.reduceAdd, Nat.reduceSub, Nat.reduceLT, Nat.reduceLeDiff, Nat.reduceMul]
        exact ⟨⟨s + 1, by omega, by simp⟩, by omega⟩
      · have hc : Nat.Coprime n s := by simp at h3; omega
        have hsl : s ≤ 1000 := by omega
        clear hg hD hT1 hT2 hT3 hs
        simp only [push_cast, ↓reduceIte, reduceCtorEq, Nat.reduceBEq, Nat.reduceEqDiff, Nat.reduceAdd, Nat.reduceSub, Nat.reduceLT, Nat.reduceLeDiff, Nat.reduceMul]
        refine run_loop [(0, false), (2, false), (7, false), (1, false), (8, false)] (fun vs pos los => ∃ (i : Nat) (N : List (List Ky)), i ≤ n ∧ Good N ∧ N.flatten.length = i ∧ (∀ x, x ∈ N.flatten ↔ ∃ j, j < i ∧ x = kf (j * s % n)) ∧
          vs = [int .i64 n, int .u64 tk, .ptr 2000000 0 0, int .i64 s, int .i64 i] ∧ pos = [] ∧ los = [.abs (tr N)])
          (fun vs _ _ => match vs with | [_, _, _, _, .r (.v (.int _ a))] => (n - a).toNat | _ => 0) rfl ?_ ?_
        · simp only [push_cast, ↓reduceIte, reduceCtorEq, Nat.reduceBEq, Nat.reduceEqDiff, Nat.reduceAdd, Nat.reduceSub, Nat.reduceLT, Nat.reduceLeDiff, Nat.reduceMul]
          exact ⟨0, [], by omega, good0, by simp, by simp, by simp⟩
        · rintro vs pos los ⟨i, N, hi, hG, hN, hmem, rfl, rfl, rfl⟩
          simp only [push_cast, ↓reduceIte, reduceCtorEq, Nat.reduceBEq, Nat.reduceEqDiff, Nat.reduceAdd, Nat.reduceSub, Nat.reduceLT, Nat.reduceLeDiff, Nat.reduceMul]
          refine cnd_mk (fun h5 => ?_) (fun h5 => ?_)
          · have h5' : i < n := by simpa using h5
            obtain ⟨r, hr⟩ : ∃ r, i * s % n = r := ⟨_, rfl⟩
            obtain ⟨q, hq⟩ : ∃ q, r / 7 = q := ⟨_, rfl⟩
            obtain ⟨t, ht⟩ : ∃ t, r % 7 = t := ⟨_, rfl⟩
            have hrn : r < n := by rw [← hr]; exact Nat.mod_lt _ (by omega)
            have his : i * s ≤ 400000 := Nat.le_trans (Nat.mul_le_mul (show i ≤ 400 by omega) hsl) (by decide)
            have e1 : IntKind.i64.wrap ((i : Int) * (s : Int)) = (i : Int) * (s : Int) := wrap_id ⟨by rw [← Int.natCast_mul]; omega, by rw [← Int.natCast_mul]; omega⟩
            have e2 : ((i : Int) * (s : Int)).tmod (n : Int) = (r : Int) := by rw [← Int.natCast_mul, ← Int.ofNat_tmod, hr]
            have e3 : ((r : Int)).tdiv 7 = (q : Int) := by rw [Int.tdiv_eq_ediv_of_nonneg (by omega)]; omega
            have e4 : IntKind.u64.wrap (q : Int) = (q : Int) := by rw [IntKind.wrap_u64]; omega
            have e5 : ((r : Int)).tmod 7 = (t : Int) := by rw [Int.tmod_eq_emod_of_nonneg (by omega)]; omega
            have e6 : IntKind.i64.wrap ((t : Int) - 3) = (t : Int) - 3 := wrap_id ⟨by omega, by omega⟩
            have e7 : IntKind.i64.wrap ((i : Int) + 1) = (i : Int) + 1 := wrap_id ⟨by omega, by omega⟩
            have e8 : IntKind.i64.wrap (q : Int) = (q : Int) := wrap_id ⟨by omega, by omega⟩
            have hkf : kf r = ⟨(q : Int), (t : Int) - 3, 1⟩ := by subst hq; subst ht; rfl
            have hnot : kf r ∉ N.flatten := fun hm => by
              obtain ⟨j, hj, he⟩ := (hmem _).1 hm
              have := kf_inj he
              exact turn_inj hc h5' hj (by omega)
            have hL := put_law hG (by omega) (kf r)
            have hf := hL.flag
            rw [decide_eq_false hnot, Bool.not_false] at hf
            have hp := put_t hG (by omega) (kf r)
            rw [hf] at hp
            have hl := hL.len
            rw [hf, Bool.toNat_true] at hl
            have hmm := hL.mem
            have hgg := hL.good
            generalize (putN N (kf r)).1 = M at *
            rw [hkf] at hp
            simp only [e1, e2, e3, e4, e5, e6, e7, e8, push_cast, ↓reduceIte, reduceCtorEq, Nat.reduceBEq, Nat.reduceEqDiff, Nat.reduceAdd, Nat.reduceSub, Nat.reduceLT, Nat.reduceLeDiff, Nat.reduceMul]
            repeat refine And.intro (by omega) ?_
            refine dcall_mk hp rfl ⟨rfl, trivial⟩ ?_
            simp only [e7, push_cast, ↓reduceIte, reduceCtorEq, Nat.reduceBEq, Nat.reduceEqDiff, Nat.reduceAdd, Nat.reduceSub, Nat.reduceLT, Nat.reduceLeDiff, Nat.reduceMul]
            refine ⟨by kernel_rfl, ⟨i + 1, M, by omega, hgg, by omega, fun x => ?_, by simp⟩, by omega⟩
            rw [hmm, hmem]
            constructor
            · rintro (rfl | ⟨j, h1, h2⟩)
              · exact ⟨i, by omega, by rw [hr]⟩
              · exact ⟨j, by omega, h2⟩
            · rintro ⟨j, h1, rfl⟩
              by_cases hji : j = i
              · subst hji; exact .inl (by rw [hr])
              · exact .inr ⟨j, by omega, rfl⟩
          · have h5' : i = n := by simp at h5; omega
            subst h5'
            have hall := all_come hG.so hN (fun x hx => by
              obtain ⟨j, hj, rfl⟩ := (hmem x).1 hx
              exact ⟨_, Nat.mod_lt _ (by omega), rfl⟩)
            simp only [push_cast, ↓reduceIte, reduceCtorEq, Nat.reduceBEq, Nat.reduceEqDiff, Nat.reduceAdd, Nat.reduceSub, Nat.reduceLT, Nat.reduceLeDiff, Nat.reduceMul]
            refine run_loop [(0, false), (2, false), (7, false), (9, false), (10, false)] (fun vs pos los => ∃ (a : Nat) (N : List (List Ky)) (kept : List Nat), a ≤ i ∧ Good N ∧ kept.Pairwise (· < ·) ∧ (∀ x ∈ kept, x < a) ∧ kept.length ≤ a ∧ N.flatten = (kept ++ List.range' a (i - a)).map kf ∧
              vs = [int .i64 i, int .u64 tk, .ptr 2000000 0 0, int .i64 kept.length, int .i64 a] ∧ pos = [] ∧ los = [.abs (tr N)])
              (fun vs _ _ => match vs with | [_, _, _, _, .r (.v (.int _ a))] => (i - a).toNat | _ => 0) rfl ?_ ?_
            · simp only [push_cast, ↓reduceIte, reduceCtorEq, Nat.reduceBEq, Nat.reduceEqDiff, Nat.reduceAdd, Nat.reduceSub, Nat.reduceLT, Nat.reduceLeDiff, Nat.reduceMul]
              exact ⟨0, N, [], by omega, hG, List.Pairwise.nil, by simp, by simp, by rw [hall, List.range_eq_range']; rfl, by simp⟩
            · clear hall hmem hN hG hi N
              rintro vs pos los ⟨a, N, kept, ha, hG, hpw, hkl, hka, hfl, rfl, rfl, rfl⟩
              simp only [push_cast, ↓reduceIte, reduceCtorEq, Nat.reduceBEq, Nat.reduceEqDiff, Nat.reduceAdd, Nat.reduceSub, Nat.reduceLT, Nat.reduceLeDiff, Nat.reduceMul]
              have hlen : N.flatten.length = kept.length + (i - a) := by rw [hfl]; simp
              refine cnd_mk (fun h6 => ?_) (fun h6 => ?_)
              · have h6' : a < i := by simpa using h6
                have hrg : List.range' a (i - a) = a :: List.range' (a + 1) (i - (a + 1)) := by
                  rw [show i - a = (i - (a + 1)) + 1 by omega, List.range'_succ]
                rw [hrg] at hfl
                obtain ⟨q, hq⟩ : ∃ q, a / 7 = q := ⟨_, rfl⟩
                obtain ⟨t, ht⟩ : ∃ t, a % 7 = t := ⟨_, rfl⟩
                have e3 : ((a : Int)).tdiv 7 = (q : Int) := by rw [Int.tdiv_eq_ediv_of_nonneg (by omega)]; omega
                have e4 : IntKind.u64.wrap (q : Int) = (q : Int) := by rw [IntKind.wrap_u64]; omega
                have e5 : ((a : Int)).tmod 7 = (t : Int) := by rw [Int.tmod_eq_emod_of_nonneg (by omega)]; omega
                have e6 : IntKind.i64.wrap ((t : Int) - 3) = (t : Int) - 3 := wrap_id ⟨by omega, by omega⟩
                have e7 : IntKind.i64.wrap ((a : Int) + 1) = (a : Int) + 1 := wrap_id ⟨by omega, by omega⟩
                have e8 : IntKind.i64.wrap (q : Int) = (q : Int) := wrap_id ⟨by omega, by omega⟩
                have e9 : IntKind.i64.wrap ((kept.length : Int) + 1) = (kept.length : Int) + 1 := wrap_id ⟨by omega, by omega⟩
                have hkf : kf a = ⟨(q : Int), (t : Int) - 3, 1⟩ := by subst hq; subst ht; rfl
                have hat : N.flatten[kept.length]? = some (kf a) := by
                  rw [hfl, List.map_append, List.getElem?_append_right (by simp)]
                  simp
                have rK := rankP hG (by omega) (kf a)
                rw [rk_get hG.so hat] at rK
                have hin : kf a ∈ N.flatten := List.mem_of_getElem? hat
                have hD := del_law hG (by omega) (kf a)
                have hf := hD.flag
                rw [decide_eq_true hin] at hf
                have hp := del_t hG (by omega) (kf a)
                rw [hf] at hp
                have hout : kf a ∉ (delN N (kf a)).1.flatten := fun q => ((hD.mem _).1 q).1 rfl
                have hdl := hD.len
                have hH := hasP hD.good (by omega) (kf a)
                rw [decide_eq_false hout] at hH
                have hgg := hD.good
                have hdf : (delN N (kf a)).1.flatten = (kept ++ List.range' (a + 1) (i - (a + 1))).map kf := by
                  refine srt_ext hgg.so (kf_srt ?_) fun x => ?_
                  · rw [List.pairwise_append]
                    refine ⟨hpw, List.pairwise_lt_range', fun x hx y hy => ?_⟩
                    have := hkl x hx
                    have := List.mem_range'_1.1 hy
                    omega
                  · rw [hD.mem, hfl]
                    simp only [List.map_append, List.map_cons, List.mem_append, List.mem_cons, List.mem_map]
                    constructor
                    · rintro ⟨n1, q | q | q⟩
                      · exact .inl q
                      · exact absurd q n1
                      · exact .inr q
                    · rintro (⟨y, hy, rfl⟩ | ⟨y, hy, rfl⟩)
                      · exact ⟨fun e => by have := kf_inj e; have := hkl y hy; omega, .inl ⟨y, hy, rfl⟩⟩
                      · exact ⟨fun e => by have := kf_inj e; have := List.mem_range'_1.1 hy; omega, .inr (.inr ⟨y, hy, rfl⟩)⟩
                generalize (delN N (kf a)).1 = M at *
                rw [hkf] at rK hp hH
                simp only [e3, e4, e5, e6, e7, e8, push_cast, ↓reduceIte, reduceCtorEq, Nat.reduceBEq, Nat.reduceEqDiff, Nat.reduceAdd, Nat.reduceSub, Nat.reduceLT, Nat.reduceLeDiff, Nat.reduceMul]
                repeat refine And.intro (by omega) ?_
                refine call_mk rK rfl ⟨rfl, trivial⟩ ?_
                simp only [e3, e4, e5, e6, e7, e8, bne_self_eq_false, push_cast, ↓reduceIte, reduceCtorEq, Nat.reduceBEq, Nat.reduceEqDiff, Nat.reduceAdd, Nat.reduceSub, Nat.reduceLT, Nat.reduceLeDiff, Nat.reduceMul]
                refine And.intro (by rw [and_mask _ 63 6 (by decide) (by decide)]; omega) ?_
                refine cnd_mk (fun h7 => ?_) (fun h7 => ?_)
                · simp only [push_cast, ↓reduceIte, reduceCtorEq, Nat.reduceBEq, Nat.reduceEqDiff, Nat.reduceAdd, Nat.reduceSub, Nat.reduceLT, Nat.reduceLeDiff, Nat.reduceMul]
                  refine call_mk hp rfl ⟨rfl, trivial⟩ ?_
                  simp only [push_cast, ↓reduceIte, reduceCtorEq, Nat.reduceBEq, Nat.reduceEqDiff, Nat.reduceAdd, Nat.reduceSub, Nat.reduceLT, Nat.reduceLeDiff, Nat.reduceMul]
                  refine call_mk hH rfl ⟨rfl, trivial⟩ ?_
                  simp only [e7, push_cast, ↓reduceIte, reduceCtorEq, Nat.reduceBEq, Nat.reduceEqDiff, Nat.reduceAdd, Nat.reduceSub, Nat.reduceLT, Nat.reduceLeDiff, Nat.reduceMul]
                  exact ⟨⟨a + 1, M, kept, by omega, hgg, hpw, fun x hx => by have := hkl x hx; omega, by omega, hdf, by simp⟩, by omega⟩
                · simp only [e7, e9, push_cast, ↓reduceIte, reduceCtorEq, Nat.reduceBEq, Nat.reduceEqDiff, Nat.reduceAdd, Nat.reduceSub, Nat.reduceLT, Nat.reduceLeDiff, Nat.reduceMul]
                  refine ⟨⟨a + 1, N, kept ++ [a], by omega, hG, ?_, fun x hx => ?_, by simp; omega, by rw [hfl]; simp, by simp⟩, by omega⟩
                  · rw [List.pairwise_append]
                    exact ⟨hpw, by simp, fun x hx y hy => by simp at hy; subst hy; exact hkl x hx⟩
                  · rcases List.mem_append.1 hx with q | q
                    · have := hkl x q; omega
                    · simp at q; omega
              · have h6' : a = i := by simp at h6; omega
                subst h6'
                have hlen2 : N.flatten.length = kept.length := by omega
                have rR := rangeP hG (by omega) ⟨0, 0, 0⟩ ⟨1152921504606846976, 0, 0⟩
                have rF := firstP hG (by omega) 0
                have hRs : Srt (rng N.flatten ⟨0, 0, 0⟩ ⟨1152921504606846976, 0, 0⟩) := hG.so.sublist List.filter_sublist
                have hRl : (rng N.flatten ⟨0, 0, 0⟩ ⟨1152921504606846976, 0, 0⟩).length ≤ kept.length := by rw [← hlen2]; exact (List.filter_sublist).length_le
                have hRm : ∀ x ∈ rng N.flatten ⟨0, 0, 0⟩ ⟨1152921504606846976, 0, 0⟩, kl x (firstS N 0).1 = false := fun x hx => by
                  obtain ⟨h8, h9⟩ := List.mem_filter.1 hx
                  simp only [Bool.and_eq_true, Bool.not_eq_true'] at h9
                  exact firstS_le hG h8 h9.1
                generalize rng N.flatten ⟨0, 0, 0⟩ ⟨1152921504606846976, 0, 0⟩ = R at *
                simp only [push_cast, ↓reduceIte, reduceCtorEq, Nat.reduceBEq, Nat.reduceEqDiff, Nat.reduceAdd, Nat.reduceSub, Nat.reduceLT, Nat.reduceLeDiff, Nat.reduceMul]
                refine call_mk rR rfl ⟨rfl, trivial⟩ ?_
                simp only [kz, push_cast, ↓reduceIte, reduceCtorEq, Nat.reduceBEq, Nat.reduceEqDiff, Nat.reduceAdd, Nat.reduceSub, Nat.reduceLT, Nat.reduceLeDiff, Nat.reduceMul]
                refine run_loop [(7, false), (9, false), (12, false), (13, false)] (fun vs pos los => ∃ (j : Nat), 1 ≤ j ∧
                  vs = [.ptr 2000000 0 0, int .i64 kept.length, .own 2000001 0 0 R.length, int .i64 j] ∧ pos = [] ∧ los = [.abs (tr N), .row 3 kz true true (R.map Ky.rv)])
                  (fun vs _ _ => match vs with | [_, _, _, .r (.v (.int _ a))] => (R.length - a).toNat | _ => 0) rfl ?_ ?_
                · simp only [kz, push_cast, ↓reduceIte, reduceCtorEq, Nat.reduceBEq, Nat.reduceEqDiff, Nat.reduceAdd, Nat.reduceSub, Nat.reduceLT, Nat.reduceLeDiff, Nat.reduceMul]
                  exact ⟨1, by omega, by simp⟩
                · rintro vs pos los ⟨j, hj, rfl, rfl, rfl⟩
                  simp only [kz, push_cast, ↓reduceIte, reduceCtorEq, Nat.reduceBEq, Nat.reduceEqDiff, Nat.reduceAdd, Nat.reduceSub, Nat.reduceLT, Nat.reduceLeDiff, Nat.reduceMul]
                  refine cnd_mk (fun h8 => ?_) (fun h8 => ?_)
                  · have h8' : j < R.length := by simpa using h8
                    obtain ⟨j', rfl⟩ : ∃ j', j = j' + 1 := ⟨j - 1, by omega⟩
                    obtain ⟨x, hx⟩ : ∃ x, R[j']? = some x := ⟨R[j'], by simp [show j' < R.length by omega]⟩
                    obtain ⟨y, hy⟩ : ∃ y, R[j' + 1]? = some y := ⟨R[j' + 1], by simp [h8']⟩
                    have hxy := srt_lt hRs (show j' < j' + 1 by omega) hx hy
                    have e1 : IntKind.i64.wrap (((j' + 1 : Nat) : Int) - 1) = (j' : Int) := by rw [wrap_id ⟨by omega, by omega⟩]; omega
                    have e2 : IntKind.i64.wrap (((j' + 1 : Nat) : Int) + 1) = ((j' + 2 : Nat) : Int) := by rw [wrap_id ⟨by omega, by omega⟩]; omega
                    have hlx := less_t x y
                    rw [hxy] at hlx
                    obtain ⟨J, hJ⟩ : ∃ J : Nat, J = j' + 1 := ⟨_, rfl⟩
                    rw [← hJ] at e1 e2 hy
                    simp only [← hJ, kz, List.length_map, e1, e2, keys_get0 hx, keys_get0 hy, push_cast, ↓reduceIte, reduceCtorEq, Nat.reduceBEq, Nat.reduceEqDiff, Nat.reduceAdd, Nat.reduceSub, Nat.reduceLT, Nat.reduceLeDiff, Nat.reduceMul]
                    repeat refine And.intro (by first | omega | (simp only [maxLen]; omega) | (simp; done) | (simp; omega)) ?_
                    refine dcall_mk hlx rfl trivial ?_
                    simp only [kz, List.length_map, e2, push_cast, ↓reduceIte, reduceCtorEq, Nat.reduceBEq, Nat.reduceEqDiff, Nat.reduceAdd, Nat.reduceSub, Nat.reduceLT, Nat.reduceLeDiff, Nat.reduceMul]
                    refine ⟨by kernel_rfl, ⟨j' + 2, by omega, by simp; omega⟩, by omega⟩
                  · have hdec : decide ((R.length : Int) ≤ (kept.length : Int)) = true := by simp; exact hRl
                    have rL := lenP N
                    rw [hlen2] at rL
                    obtain ⟨m, hm⟩ : ∃ m, (firstS N 0).1 = m := ⟨_, rfl⟩
                    rw [hm] at rF hRm
                    simp only [kz, List.length_map, push_cast, ↓reduceIte, reduceCtorEq, Nat.reduceBEq, Nat.reduceEqDiff, Nat.reduceAdd, Nat.reduceSub, Nat.reduceLT, Nat.reduceLeDiff, Nat.reduceMul]
                    refine call_mk rF rfl ⟨rfl, trivial⟩ ?_
                    simp only [kz, Ky.av, Ky.rv, List.length_map, push_cast, ↓reduceIte, reduceCtorEq, Nat.reduceBEq, Nat.reduceEqDiff, Nat.reduceAdd, Nat.reduceSub, Nat.reduceLT, Nat.reduceLeDiff, Nat.reduceMul]
                    refine dcall_mk rL rfl ⟨rfl, trivial⟩ ?_
                    have hd0 : decide ((0 : Int) ≤ (kept.length : Int)) = true := by simp
                    by_cases hRe : R = []
                    · subst hRe
                      simp only [kz, Ky.rv, List.length_nil, List.map_nil, beq_self_eq_true, hd0, Int.ofNat_zero, Int.natCast_zero, Bool.and_self, Bool.and_true, Bool.true_and, Bool.not_true, Bool.and_false, push_cast, ↓reduceIte, reduceCtorEq, Nat.reduceBEq, Nat.reduceEqDiff, Nat.reduceAdd, Nat.reduceSub, Nat.reduceLT, Nat.reduceLeDiff, Nat.reduceMul]
                      refine dcall_mk awake_t rfl trivial ?_
                      simp only [push_cast, ↓reduceIte, reduceCtorEq, Nat.reduceBEq, Nat.reduceEqDiff, Nat.reduceAdd, Nat.reduceSub, Nat.reduceLT, Nat.reduceLeDiff, Nat.reduceMul]
                      show _ = true
                      kernel_rfl
                    · obtain ⟨x, hx⟩ : ∃ x, R[0]? = some x := by cases R; exact absurd rfl hRe; exact ⟨_, rfl⟩
                      have hRz : ((R.length : Int) == 0) = false := by simp; exact hRe
                      have hgx : (R.map Ky.rv).getD (0 + Int.toNat 0) (.agg [.v (.int .u64 0), .v (.int .i64 0), .v (.int .i64 0)]) = .agg [.v (.int .u64 x.c), .v (.int .i64 x.v), .v (.int .i64 x.d)] := keys_get0 (i := 0) hx
                      have hlx := less_t x m
                      rw [hRm x (List.mem_of_getElem? hx)] at hlx
                      have hRp : 0 < R.length := List.length_pos_iff.2 hRe
                      simp only [kz, List.length_map, beq_self_eq_true, hdec, hRz, hgx, Bool.and_self, Bool.and_true, Bool.true_and, Bool.not_true, Bool.not_false, Bool.and_false, push_cast, ↓reduceIte, reduceCtorEq, Nat.reduceBEq, Nat.reduceEqDiff, Nat.reduceAdd, Nat.reduceSub, Nat.reduceLT, Nat.reduceLeDiff, Nat.reduceMul]
                      repeat refine And.intro (by first | omega | (intro; omega) | (simp only [maxLen]; omega) | (simp; done) | (simp; omega)) ?_
                      refine dcall_mk hlx rfl trivial ?_
                      simp only [Bool.not_false, Bool.and_self, Bool.and_true, Bool.true_and, push_cast, ↓reduceIte, reduceCtorEq, Nat.reduceBEq, Nat.reduceEqDiff, Nat.reduceAdd, Nat.reduceSub, Nat.reduceLT, Nat.reduceLeDiff, Nat.reduceMul]
                      refine dcall_mk awake_t rfl trivial ?_
                      simp only [push_cast, ↓reduceIte, reduceCtorEq, Nat.reduceBEq, Nat.reduceEqDiff, Nat.reduceAdd, Nat.reduceSub, Nat.reduceLT, Nat.reduceLeDiff, Nat.reduceMul]
                      show _ = true
                      kernel_rfl
    · have hsT : s ≠ T := fun e => by
        subst e
        have h1 : n % 2 = 0 ∧ s % 2 = 0 := by
          have h2 : ((n : Int).tmod 2 == 0) = true := by
            cases hq : ((n : Int).tmod 2 == 0)
            · rw [hq] at hD; cases hD
            · rfl
          rw [h2] at hD
          simp only [cond_true] at hD
          rw [beq_iff_eq, Int.tmod_eq_emod_of_nonneg (by omega)] at h2 hD
          omega
        have h3 := Nat.dvd_gcd (Nat.dvd_of_mod_eq_zero h1.1) (Nat.dvd_of_mod_eq_zero h1.2)
        rw [hT3] at h3
        exact absurd (Nat.le_of_dvd (by omega) h3) (by omega)
      simp only [hD, Bool.not_true, hs1', push_cast, ↓reduceIte, reduceCtorEq, Nat.reduceBEq, Nat.reduceEqDiff, Nat.reduceAdd, Nat.reduceSub, Nat.reduceLT, Nat.reduceLeDiff, Nat.reduceMul]
      refine And.intro (by decide) (And.intro (by intro; decide) ?_)
      exact ⟨⟨s + 1, by omega, by simp⟩, by omega⟩
end Go.Ev
