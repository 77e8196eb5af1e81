import Derived.Test.YtjpejkfhkbaakaaViewA
import Derived.Test.YtjpejkfhkbaakaaView4
namespace Go.Ev
open Go
set_option linter.unnecessarySimpa false
set_option linter.unusedSimpArgs false
set_option linter.unusedVariables false
noncomputable def view_framed_pc : PC :=
  (.seq (.reg [⟨(some 1), none, 0, .act (.box (.t 0))⟩,
    ⟨(some 2), none, 0, .act (.new [(.r (.v (.int .i64 0))), (.r (.v (.int .i64 0))), (.r (.v (.int .i64 0))), (.r (.v (.int .i64 0)))])⟩])
  (.seq (.reg [⟨(some 7), none, 0, .see (.ld (some 4) (.t 1))⟩,
    ⟨(some 8), none, 1, .call 18 [(.t 7)]⟩,
    ⟨(some 6), none, 0, .see (.mov (.t 8))⟩,
    ⟨(some 9), none, 0, .see (.ext (.t 6) 0)⟩,
    ⟨(some 10), none, 0, .see (.ext (.t 6) 1)⟩,
    ⟨(some 11), none, 0, .see (.ext (.t 6) 2)⟩,
    ⟨(some 3), none, 0, .see (.mov (.t 9))⟩,
    ⟨(some 4), none, 0, .see (.mov (.t 10))⟩,
    ⟨(some 5), none, 0, .see (.mov (.t 11))⟩])
  (.seq (.reg [⟨(some 12), none, 0, .see (.mov (.t 3))⟩,
    ⟨(some 13), none, 0, .see (.mov (.t 4))⟩,
    ⟨(some 14), none, 0, .see (.build [(.r (.v (.int .i64 0))), (.r (.v (.int .i64 0)))] [(0, 1, (.t 12)), (1, 1, (.t 13))])⟩,
    ⟨(some 15), none, 0, .see (.mov (.t 3))⟩,
    ⟨(some 16), none, 0, .see (.mov (.t 5))⟩,
    ⟨(some 17), none, 0, .see (.bin .add (.t 15) (.t 16))⟩,
    ⟨(some 18), none, 0, .see (.mov (.t 4))⟩,
    ⟨(some 19), none, 0, .see (.mov (.t 5))⟩,
    ⟨(some 20), none, 0, .see (.bin .add (.t 18) (.t 19))⟩,
    ⟨(some 21), none, 0, .see (.build [(.r (.v (.int .i64 0))), (.r (.v (.int .i64 0)))] [(0, 1, (.t 17)), (1, 1, (.t 20))])⟩,
    ⟨(some 22), none, 0, .see (.build [(.r (.v (.int .i64 0))), (.r (.v (.int .i64 0))), (.r (.v (.int .i64 0))), (.r (.v (.int .i64 0)))] [(0, 2, (.t 14)), (2, 2, (.t 21))])⟩,
    ⟨none, none, 0, .act (.st 4 (.t 2) (.t 22))⟩])
  .ret)))
noncomputable abbrev view_framed_code : Code := (Go.Proofs.Try.f41.body).getD .skip
theorem view_framed_chk : chkC Go.Proofs.Try.prog 23 view_framed_code view_framed_pc = true := by kernel_rfl
theorem view_framed_triple {args : List AV} {po ro : List Ob} {res : AV} (hal : args.length = 1) (hpo : po.length ≤ 1000)
    (h : run Go.Proofs.Try.prog po.length (RetP po.length [(2, false, some (78, (some 4)))] fun v os => v = res ∧ os = ro) [.c view_framed_pc] ⟨argE 0 args, ob0 po⟩) : Triple Go.Proofs.Try.prog 41 args po res ro :=
  triple_of_W (fn := Go.Proofs.Try.f41) (c := view_framed_code) (pc := view_framed_pc) (rs := [(2, false, some (78, (some 4)))]) Go.Proofs.Try.func41 rfl (by decide) (by have := view_framed_chk; exact this) (by rw [hal]; decide) rfl (by kernel_rfl) (by kernel_rfl) (by decide) hpo (W_of_run h)

noncomputable def view_frame_touches_pc : PC :=
  (.seq (.reg [⟨(some 2), none, 0, .act (.box (.t 0))⟩,
    ⟨(some 3), none, 0, .act (.box (.t 1))⟩,
    ⟨(some 4), none, 0, .see (.mov (.c (.r (.v (.bool false)))))⟩])
  (.seq (.reg [⟨(some 5), none, 0, .see (.ld (some 3) (.t 3))⟩,
    ⟨(some 6), none, 0, .see (.fa 0 (.t 2))⟩,
    ⟨(some 7), none, 0, .see (.ld (some 2) (.t 6))⟩,
    ⟨(some 8), none, 0, .see (.fa 2 (.t 2))⟩,
    ⟨(some 9), none, 0, .see (.ld (some 2) (.t 8))⟩,
    ⟨(some 10), none, 1, .call 64 [(.t 5), (.t 7), (.t 9)]⟩,
    ⟨(some 4), none, 0, .see (.mov (.t 10))⟩])
  .ret))
noncomputable abbrev view_frame_touches_code : Code := (Go.Proofs.Try.f42.body).getD .skip
theorem view_frame_touches_chk : chkC Go.Proofs.Try.prog 11 view_frame_touches_code view_frame_touches_pc = true := by kernel_rfl
theorem view_frame_touches_triple {args : List AV} {po ro : List Ob} {res : AV} (hal : args.length = 2) (hpo : po.length ≤ 1000)
    (h : run Go.Proofs.Try.prog po.length (RetP po.length [(4, false, none)] fun v os => v = res ∧ os = ro) [.c view_frame_touches_pc] ⟨argE 0 args, ob0 po⟩) : Triple Go.Proofs.Try.prog 42 args po res ro :=
  triple_of_W (fn := Go.Proofs.Try.f42) (c := view_frame_touches_code) (pc := view_frame_touches_pc) (rs := [(4, false, none)]) Go.Proofs.Try.func42 rfl (by decide) (by have := view_frame_touches_chk; exact this) (by rw [hal]; decide) rfl (by kernel_rfl) (by kernel_rfl) (by decide) hpo (W_of_run h)

noncomputable def view_Touches_pc : PC :=
  (.seq (.reg [⟨(some 2), none, 0, .act (.box (.t 0))⟩,
    ⟨(some 3), none, 0, .act (.box (.t 1))⟩,
    ⟨(some 4), none, 0, .see (.mov (.c (.r (.v (.bool false)))))⟩])
  (.seq (.drw [⟨(some 5), none, 0, .see (.ld (some 4) (.t 2))⟩,
    ⟨(some 6), none, 1, .call 16 [(.t 5)]⟩,
    ⟨(some 7), none, 0, .see (.mov (.t 6))⟩,
    ⟨(some 8), (some (7, true)), 0, .see (.ld (some 4) (.t 2))⟩,
    ⟨(some 9), (some (7, true)), 2, .call 41 [(.t 8)]⟩,
    ⟨(some 10), (some (7, true)), 0, .see (.ld (some 3) (.t 3))⟩,
    ⟨(some 11), (some (7, true)), 3, .call 42 [(.t 9), (.t 10)]⟩,
    ⟨(some 12), none, 0, .see (.pick (.t 7) (.t 11) (.c (.r (.v (.bool false)))))⟩,
    ⟨(some 4), none, 0, .see (.mov (.t 12))⟩]
    [[], [0], [0, 1], [0, 1, 2], [0, 1, 2, 3], [0, 1, 2], [0, 1, 2, 3, 4, 5], [0, 1, 2, 3, 4, 5, 6], [0, 1, 2, 3, 4, 5, 6, 7]])
  .ret))
noncomputable abbrev view_Touches_code : Code := (Go.Proofs.Try.f22.body).getD .skip
theorem view_Touches_chk : chkC Go.Proofs.Try.prog 13 view_Touches_code view_Touches_pc = true := by kernel_rfl
theorem view_Touches_triple {args : List AV} {po ro : List Ob} {res : AV} (hal : args.length = 2) (hpo : po.length ≤ 1000)
    (h : run Go.Proofs.Try.prog po.length (RetP po.length [(4, false, none)] fun v os => v = res ∧ os = ro) [.c view_Touches_pc] ⟨argE 0 args, ob0 po⟩) : Triple Go.Proofs.Try.prog 22 args po res ro :=
  triple_of_W (fn := Go.Proofs.Try.f22) (c := view_Touches_code) (pc := view_Touches_pc) (rs := [(4, false, none)]) Go.Proofs.Try.func22 rfl (by decide) (by have := view_Touches_chk; exact this) (by rw [hal]; decide) rfl (by kernel_rfl) (by kernel_rfl) (by decide) hpo (W_of_run h)

noncomputable def view_Tiles_pc : PC :=
  (.seq (.reg [⟨(some 8), none, 0, .see (.mov (.c (.nils 4 (.agg [(.v (.int .i64 0)), (.v (.int .i64 0)), (.v (.int .i64 0)), (.v (.int .i64 0))]))))⟩])
  (.seq (.reg [⟨(some 28), none, 0, .see (.mov (.t 2))⟩,
    ⟨(some 29), none, 0, .see (.mov (.t 3))⟩,
    ⟨(some 30), none, 0, .see (.build [(.r (.v (.int .i64 0))), (.r (.v (.int .i64 0))), (.r (.v (.int .i64 0))), (.r (.v (.int .i64 0)))] [(0, 1, (.t 28)), (3, 1, (.t 29))])⟩,
    ⟨(some 9), none, 0, .act (.new [(.r (.v (.int .i64 0))), (.r (.v (.int .i64 0))), (.r (.v (.int .i64 0))), (.r (.v (.int .i64 0)))])⟩,
    ⟨none, none, 0, .act (.st 4 (.t 9) (.t 30))⟩])
  (.seq (.seq (.reg [⟨(some 31), none, 0, .see (.ld (some 4) (.t 9))⟩,
    ⟨(some 32), none, 1, .call 16 [(.t 31)]⟩,
    ⟨(some 33), none, 0, .see (.un .not (.t 32))⟩,
    ⟨(some 34), none, 0, .see (.mov (.t 33))⟩,
    ⟨(some 35), (some (34, false)), 0, .see (.mov (.t 0))⟩,
    ⟨(some 36), (some (34, false)), 0, .see (.mov (.t 1))⟩,
    ⟨(some 37), (some (34, false)), 2, .call 19 [(.t 35), (.t 36)]⟩,
    ⟨(some 38), (some (34, false)), 0, .see (.un .not (.t 37))⟩,
    ⟨(some 39), none, 0, .see (.pick (.t 34) (.c (.r (.v (.bool true)))) (.t 38))⟩,
    ⟨(some 40), none, 0, .see (.mov (.t 39))⟩,
    ⟨(some 41), (some (40, false)), 0, .see (.ld (some 4) (.t 9))⟩,
    ⟨(some 42), (some (40, false)), 3, .call 6 [(.t 41)]⟩,
    ⟨(some 43), none, 0, .see (.pick (.t 40) (.c (.r (.v (.bool true)))) (.t 42))⟩])
  (.cond (.t 43)
    (.seq (.reg [⟨(some 8), none, 0, .see (.mov (.c (.nils 4 (.agg [(.v (.int .i64 0)), (.v (.int .i64 0)), (.v (.int .i64 0)), (.v (.int .i64 0))]))))⟩])
    .ret)
    .skip))
  (.seq (.reg [⟨(some 45), none, 0, .see (.mov (.t 0))⟩,
    ⟨(some 46), none, 0, .see (.mov (.t 1))⟩,
    ⟨(some 47), none, 0, .see (.mov (.t 3))⟩,
    ⟨(some 48), none, 4, .call 20 [(.t 45), (.t 46), (.t 47)]⟩,
    ⟨(some 44), none, 0, .see (.mov (.t 48))⟩,
    ⟨(some 49), none, 0, .see (.ext (.t 44) 0)⟩,
    ⟨(some 50), none, 0, .see (.ext (.t 44) 1)⟩,
    ⟨(some 10), none, 0, .act (.new [(.r (.v (.int .i64 0))), (.r (.v (.int .i64 0))), (.r (.v (.int .i64 0)))])⟩,
    ⟨none, none, 0, .act (.st 3 (.t 10) (.t 49))⟩,
    ⟨(some 11), none, 0, .see (.mov (.t 50))⟩])
  (.seq (.reg [⟨(some 52), none, 0, .see (.fa 1 (.t 10))⟩,
    ⟨(some 53), none, 0, .see (.ld (some 2) (.t 52))⟩,
    ⟨(some 54), none, 0, .see (.fa 0 (.t 10))⟩,
    ⟨(some 55), none, 0, .see (.ld none (.t 54))⟩,
    ⟨(some 56), none, 5, .call 21 [(.t 53), (.t 55)]⟩,
    ⟨(some 51), none, 0, .see (.mov (.t 56))⟩,
    ⟨(some 57), none, 0, .see (.ext (.t 51) 0)⟩,
    ⟨(some 58), none, 0, .see (.ext (.t 51) 1)⟩,
    ⟨(some 12), none, 0, .see (.mov (.t 57))⟩,
    ⟨(some 13), none, 0, .see (.mov (.t 58))⟩])
  (.seq (.reg [⟨(some 60), none, 0, .see (.ld (some 4) (.t 9))⟩,
    ⟨(some 61), none, 6, .call 18 [(.t 60)]⟩,
    ⟨(some 59), none, 0, .see (.mov (.t 61))⟩,
    ⟨(some 62), none, 0, .see (.ext (.t 59) 0)⟩,
    ⟨(some 63), none, 0, .see (.ext (.t 59) 1)⟩,
    ⟨(some 64), none, 0, .see (.ext (.t 59) 2)⟩,
    ⟨(some 14), none, 0, .see (.mov (.t 62))⟩,
    ⟨(some 15), none, 0, .see (.mov (.t 63))⟩,
    ⟨(some 16), none, 0, .see (.mov (.t 64))⟩])
  (.seq (.reg [⟨(some 17), none, 0, .act (.new [(.r (.v (.int .i64 0))), (.r (.v (.int .i64 0)))])⟩,
    ⟨(some 18), none, 0, .act (.new [(.r (.v (.int .i64 0))), (.r (.v (.int .i64 0)))])⟩])
  (.seq (.seq (.reg [⟨(some 65), none, 0, .see (.mov (.c (.r (.v (.int .i64 0)))))⟩])
  (.block 0 (.loop (.seq (.reg [⟨(some 66), none, 0, .see (.bin .lss (.t 65) (.c (.r (.v (.int .i64 2)))))⟩])
  (.seq (.cond (.t 66)
    .skip
    (.exit 0))
  (.seq (.block 1 (.seq (.reg [⟨(some 67), none, 0, .see (.mov (.t 65))⟩,
    ⟨(some 19), none, 0, .see (.mov (.t 67))⟩])
  (.seq (.drw [⟨(some 68), none, 0, .see (.mov (.t 12))⟩,
    ⟨(some 69), none, 0, .see (.mov (.t 19))⟩,
    ⟨(some 70), none, 0, .see (.ia 2 (.agg [(.v (.int .i64 0)), (.v (.int .i64 0))]) (.t 68) (.c (.r (.v (.int .i64 0)))))⟩,
    ⟨(some 71), none, 0, .see (.iaa 2 1 (.t 70) (.t 69))⟩,
    ⟨(some 72), none, 0, .see (.ld none (.t 71))⟩,
    ⟨(some 73), none, 0, .see (.mov (.t 12))⟩,
    ⟨(some 74), none, 0, .see (.mov (.t 19))⟩,
    ⟨(some 75), none, 0, .see (.ia 2 (.agg [(.v (.int .i64 0)), (.v (.int .i64 0))]) (.t 73) (.c (.r (.v (.int .i64 0)))))⟩,
    ⟨(some 76), none, 0, .see (.iaa 2 1 (.t 75) (.t 74))⟩,
    ⟨(some 77), none, 0, .see (.ld none (.t 76))⟩,
    ⟨(some 20), none, 0, .see (.mov (.t 72))⟩,
    ⟨(some 21), none, 0, .see (.mov (.t 77))⟩]
    [[], [], [0], [0, 1, 2], [0, 1, 2, 3], [], [], [5], [5, 6, 7], [5, 6, 7, 8], [0, 1, 2, 3, 4], [0, 1, 2, 3, 4, 5, 6, 7, 8, 9, 10]])
  (.seq (.seq (.reg [⟨(some 78), none, 0, .see (.mov (.t 12))⟩,
    ⟨(some 79), none, 0, .see (.len false (.t 78))⟩,
    ⟨(some 80), none, 0, .see (.mov (.c (.r (.v (.int .i64 0)))))⟩])
  (.block 2 (.loop (.seq (.reg [⟨(some 81), none, 0, .see (.bin .lss (.t 80) (.t 79))⟩])
  (.seq (.cond (.t 81)
    .skip
    (.exit 2))
  (.seq (.block 3 (.seq (.reg [⟨(some 82), none, 0, .see (.ia 2 (.agg [(.v (.int .i64 0)), (.v (.int .i64 0))]) (.t 78) (.t 80))⟩,
    ⟨(some 83), none, 0, .see (.ld (some 2) (.t 82))⟩,
    ⟨(some 23), none, 0, .act (.new [(.r (.v (.int .i64 0))), (.r (.v (.int .i64 0)))])⟩,
    ⟨none, none, 0, .act (.st 2 (.t 23) (.t 83))⟩])
  (.drw [⟨(some 84), none, 0, .see (.mov (.t 20))⟩,
    ⟨(some 85), none, 0, .see (.mov (.t 19))⟩,
    ⟨(some 86), none, 0, .see (.iaa 2 1 (.t 23) (.t 85))⟩,
    ⟨(some 87), none, 0, .see (.ld none (.t 86))⟩,
    ⟨(some 88), none, 0, .see (.mm false (.t 84) [(.t 87)])⟩,
    ⟨(some 89), none, 0, .see (.mov (.t 21))⟩,
    ⟨(some 90), none, 0, .see (.mov (.t 19))⟩,
    ⟨(some 91), none, 0, .see (.iaa 2 1 (.t 23) (.t 90))⟩,
    ⟨(some 92), none, 0, .see (.ld none (.t 91))⟩,
    ⟨(some 93), none, 0, .see (.mm true (.t 89) [(.t 92)])⟩,
    ⟨(some 20), none, 0, .see (.mov (.t 88))⟩,
    ⟨(some 21), none, 0, .see (.mov (.t 93))⟩]
    [[], [], [1], [1, 2], [0, 1, 2, 3], [], [], [6], [6, 7], [5, 6, 7, 8], [0, 1, 2, 3, 4], [0, 1, 2, 3, 4, 5, 6, 7, 8, 9, 10]])))
  (.reg [⟨(some 94), none, 0, .see (.bin .add (.t 80) (.c (.r (.v (.int .i64 1)))))⟩,
    ⟨(some 80), none, 0, .see (.mov (.t 94))⟩])))))))
  (.seq (.reg [⟨(some 95), none, 0, .see (.mov (.t 2))⟩,
    ⟨(some 96), none, 0, .see (.conv .u64 (.t 95))⟩,
    ⟨(some 97), none, 0, .see (.bin .shl (.c (.r (.v (.int .i64 1)))) (.t 96))⟩,
    ⟨(some 98), none, 0, .see (.bin .sub (.t 97) (.c (.r (.v (.int .i64 1)))))⟩,
    ⟨(some 24), none, 0, .see (.mov (.t 98))⟩])
  (.drw [⟨(some 99), none, 0, .see (.mov (.t 19))⟩,
    ⟨(some 100), none, 0, .see (.mov (.t 19))⟩,
    ⟨(some 101), none, 0, .see (.mov (.t 20))⟩,
    ⟨(some 102), none, 0, .see (.mov (.t 16))⟩,
    ⟨(some 103), none, 0, .see (.bin .mul (.c (.r (.v (.int .i64 3)))) (.t 102))⟩,
    ⟨(some 104), none, 0, .see (.bin .quo (.t 101) (.t 103))⟩,
    ⟨(some 105), none, 0, .see (.bin .sub (.t 104) (.c (.r (.v (.int .i64 1)))))⟩,
    ⟨(some 106), none, 0, .see (.mm true (.t 105) [(.c (.r (.v (.int .i64 0))))])⟩,
    ⟨(some 107), none, 0, .see (.mov (.t 24))⟩,
    ⟨(some 108), none, 0, .see (.mm false (.t 106) [(.t 107)])⟩,
    ⟨(some 109), none, 0, .see (.mov (.t 21))⟩,
    ⟨(some 110), none, 0, .see (.mov (.t 16))⟩,
    ⟨(some 111), none, 0, .see (.bin .mul (.c (.r (.v (.int .i64 3)))) (.t 110))⟩,
    ⟨(some 112), none, 0, .see (.bin .quo (.t 109) (.t 111))⟩,
    ⟨(some 113), none, 0, .see (.bin .add (.t 112) (.c (.r (.v (.int .i64 1)))))⟩,
    ⟨(some 114), none, 0, .see (.mm true (.t 113) [(.c (.r (.v (.int .i64 0))))])⟩,
    ⟨(some 115), none, 0, .see (.mov (.t 24))⟩,
    ⟨(some 116), none, 0, .see (.mm false (.t 114) [(.t 115)])⟩,
    ⟨(some 117), none, 0, .see (.iaa 2 1 (.t 17) (.t 99))⟩,
    ⟨none, none, 0, .act (.st 1 (.t 117) (.t 108))⟩,
    ⟨(some 118), none, 0, .see (.iaa 2 1 (.t 18) (.t 100))⟩,
    ⟨none, none, 0, .act (.st 1 (.t 118) (.t 116))⟩]
    [[], [], [], [], [3], [2, 3, 4], [2, 3, 4, 5], [2, 3, 4, 5, 6], [], [2, 3, 4, 5, 6, 7, 8], [], [], [11], [10, 11, 12], [10, 11, 12, 13], [10, 11, 12, 13, 14], [], [10, 11, 12, 13, 14, 15, 16], [0, 2, 3, 4, 5, 6, 7, 8, 9], [0, 2, 3, 4, 5, 6, 7, 8, 9, 18], [0, 1, 2, 3, 4, 5, 6, 7, 8, 9, 10, 11, 12, 13, 14, 15, 16, 17, 18, 19], [0, 1, 2, 3, 4, 5, 6, 7, 8, 9, 10, 11, 12, 13, 14, 15, 16, 17, 18, 19, 20]]))))))
  (.reg [⟨(some 119), none, 0, .see (.bin .add (.t 65) (.c (.r (.v (.int .i64 1)))))⟩,
    ⟨(some 65), none, 0, .see (.mov (.t 119))⟩])))))))
  (.seq (.reg [⟨(some 25), none, 0, .see (.mov (.c (.nils 4 (.agg [(.v (.int .i64 0)), (.v (.int .i64 0)), (.v (.int .i64 0)), (.v (.int .i64 0))]))))⟩])
  (.seq (.seq (.reg [⟨(some 120), none, 0, .see (.iaa 2 1 (.t 17) (.c (.r (.v (.int .i64 1)))))⟩,
    ⟨(some 121), none, 0, .see (.ld none (.t 120))⟩,
    ⟨(some 26), none, 0, .see (.mov (.t 121))⟩])
  (.block 4 (.loop (.seq (.seq (.reg [⟨(some 122), none, 0, .see (.mov (.t 26))⟩,
    ⟨(some 123), none, 0, .see (.iaa 2 1 (.t 18) (.c (.r (.v (.int .i64 1)))))⟩,
    ⟨(some 124), none, 0, .see (.ld none (.t 123))⟩,
    ⟨(some 125), none, 0, .see (.bin .leq (.t 122) (.t 124))⟩])
  (.cond (.t 125)
    .skip
    (.exit 4)))
  (.seq (.block 5 (.seq (.reg [⟨(some 128), none, 0, .see (.iaa 2 1 (.t 17) (.c (.r (.v (.int .i64 0)))))⟩,
    ⟨(some 129), none, 0, .see (.ld none (.t 128))⟩,
    ⟨(some 27), none, 0, .see (.mov (.t 129))⟩])
  (.block 6 (.loop (.seq (.seq (.reg [⟨(some 130), none, 0, .see (.mov (.t 27))⟩,
    ⟨(some 131), none, 0, .see (.iaa 2 1 (.t 18) (.c (.r (.v (.int .i64 0)))))⟩,
    ⟨(some 132), none, 0, .see (.ld none (.t 131))⟩,
    ⟨(some 133), none, 0, .see (.bin .leq (.t 130) (.t 132))⟩])
  (.cond (.t 133)
    .skip
    (.exit 6)))
  (.seq (.block 7 (.seq (.reg [⟨(some 136), none, 0, .see (.mov (.t 27))⟩,
    ⟨(some 137), none, 0, .see (.mov (.t 26))⟩,
    ⟨(some 138), none, 0, .see (.fa 1 (.t 9))⟩,
    ⟨none, none, 0, .act (.st 1 (.t 138) (.t 136))⟩,
    ⟨(some 139), none, 0, .see (.fa 2 (.t 9))⟩,
    ⟨none, none, 0, .act (.st 1 (.t 139) (.t 137))⟩])
  (.seq (.seq (.reg [⟨(some 140), none, 0, .see (.ld (some 4) (.t 9))⟩,
    ⟨(some 141), none, 0, .see (.ld (some 3) (.t 10))⟩,
    ⟨(some 142), none, 7, .call 22 [(.t 140), (.t 141)]⟩,
    ⟨(some 143), none, 0, .see (.un .not (.t 142))⟩])
  (.cond (.t 143)
    (.exit 7)
    .skip))
  (.seq (.reg [⟨(some 144), none, 0, .see (.mov (.t 25))⟩,
    ⟨(some 145), none, 0, .see (.ld (some 4) (.t 9))⟩,
    ⟨(some 146), none, 0, .act (.bsl 4 (.agg [(.v (.int .i64 0)), (.v (.int .i64 0)), (.v (.int .i64 0)), (.v (.int .i64 0))]) [(.t 145)])⟩,
    ⟨(some 147), none, 0, .act (.app 4 (.agg [(.v (.int .i64 0)), (.v (.int .i64 0)), (.v (.int .i64 0)), (.v (.int .i64 0))]) 32 (.t 144) (.t 146))⟩,
    ⟨(some 25), none, 0, .see (.mov (.t 147))⟩])
  (.seq (.reg [⟨(some 148), none, 0, .see (.mov (.t 25))⟩,
    ⟨(some 149), none, 0, .see (.len false (.t 148))⟩,
    ⟨(some 150), none, 0, .see (.bin .gtr (.t 149) (.c (.r (.v (.int .i64 10000)))))⟩])
  (.cond (.t 150)
    (.seq (.reg [⟨(some 8), none, 0, .see (.mov (.c (.nils 4 (.agg [(.v (.int .i64 0)), (.v (.int .i64 0)), (.v (.int .i64 0)), (.v (.int .i64 0))]))))⟩])
    .ret)
    .skip))))))
  (.reg [⟨(some 134), none, 0, .see (.mov (.t 27))⟩,
    ⟨(some 135), none, 0, .see (.bin .add (.t 134) (.c (.r (.v (.int .i64 1)))))⟩,
    ⟨(some 27), none, 0, .see (.mov (.t 135))⟩])))))))
  (.reg [⟨(some 126), none, 0, .see (.mov (.t 26))⟩,
    ⟨(some 127), none, 0, .see (.bin .add (.t 126) (.c (.r (.v (.int .i64 1)))))⟩,
    ⟨(some 26), none, 0, .see (.mov (.t 127))⟩]))))))
  (.seq (.reg [⟨(some 151), none, 0, .see (.mov (.t 25))⟩,
    ⟨(some 8), none, 0, .see (.mov (.t 151))⟩])
  .ret)))))))))))
noncomputable abbrev view_Tiles_code : Code := (Go.Proofs.Try.f9.body).getD .skip
theorem view_Tiles_chk : chkC Go.Proofs.Try.prog 152 view_Tiles_code view_Tiles_pc = true := by kernel_rfl
theorem view_Tiles_triple {args : List AV} {po ro : List Ob} {res : AV} (hal : args.length = 4) (hpo : po.length ≤ 1000)
    (h : run Go.Proofs.Try.prog po.length (RetP po.length [(8, false, none)] fun v os => v = res ∧ os = ro) [.c view_Tiles_pc] ⟨argE 0 args, ob0 po⟩) : Triple Go.Proofs.Try.prog 9 args po res ro :=
  triple_of_W (fn := Go.Proofs.Try.f9) (c := view_Tiles_code) (pc := view_Tiles_pc) (rs := [(8, false, none)]) Go.Proofs.Try.func9 rfl (by decide) (by have := view_Tiles_chk; exact this) (by rw [hal]; decide) rfl (by kernel_rfl) (by kernel_rfl) (by decide) hpo (W_of_run h)

theorem side_in {z : Int} (h : 0 ≤ z ∧ z ≤ 18) : 4096 ≤ (2 : Int) ^ (30 - z).toNat ∧ (2 : Int) ^ (30 - z).toNat ≤ 1073741824 := by
  have h1 : 2 ^ (30 - z).toNat ≤ 2 ^ 30 := Nat.pow_le_pow_right (by decide) (by omega)
  have h2 : 2 ^ 12 ≤ 2 ^ (30 - z).toNat := Nat.pow_le_pow_right (by decide) (by omega)
  have h3 : ((2 ^ (30 - z).toNat : Nat) : Int) = (2 : Int) ^ (30 - z).toNat := by simp
  omega
theorem tile_in {t : Til} (h : tis t = true) : (0 ≤ t.x * 2 ^ (30 - t.z).toNat ∧ (t.x + 1) * 2 ^ (30 - t.z).toNat ≤ 1073741824) ∧ (0 ≤ t.y * 2 ^ (30 - t.z).toNat ∧ (t.y + 1) * 2 ^ (30 - t.z).toNat ≤ 1073741824) := by
  simp only [tis, decide_eq_true_eq] at h
  obtain ⟨z0, z1, r0, r1, x0, x1, y0, y1⟩ := h
  have hs := side_in ⟨z0, z1⟩
  have hpq : (2 : Int) ^ t.z.toNat * 2 ^ (30 - t.z).toNat = 1073741824 := by
    rw [← Int.pow_add, show t.z.toNat + (30 - t.z).toNat = 30 by omega]; rfl
  have hx : (t.x + 1) * 2 ^ (30 - t.z).toNat ≤ 1073741824 := by rw [← hpq]; exact Int.mul_le_mul_of_nonneg_right (by omega) (by omega)
  have hy : (t.y + 1) * 2 ^ (30 - t.z).toNat ≤ 1073741824 := by rw [← hpq]; exact Int.mul_le_mul_of_nonneg_right (by omega) (by omega)
  exact ⟨⟨Int.mul_nonneg x0 (by omega), hx⟩, Int.mul_nonneg y0 (by omega), hy⟩
set_option maxRecDepth 100000 in
theorem framed_t (t : Til) (h : tis t = true) : Triple Go.Proofs.Try.prog 41 [t.v] [] (bxv (t.x * 2 ^ (30 - t.z).toNat) (t.y * 2 ^ (30 - t.z).toNat) ((t.x + 1) * 2 ^ (30 - t.z).toNat) ((t.y + 1) * 2 ^ (30 - t.z).toNat)) [] := by
  refine view_framed_triple rfl (by decide) ?_
  have hi := tile_in h
  have hs := side_in (show 0 ≤ t.z ∧ t.z ≤ 18 by simp only [tis, decide_eq_true_eq] at h; omega)
  simp only [view_framed_pc, Til.v, bxv, List.length_nil, push_cast, ↓reduceIte, reduceCtorEq, Nat.reduceBEq, Nat.reduceEqDiff, Nat.reduceAdd, Nat.reduceSub, Nat.reduceLT, Nat.reduceLeDiff, Nat.reduceMul]
  refine call_as (as' := [t.v]) rfl ?_
  refine call_mk (origin_t t h) rfl trivial ?_
  simp only [push_cast, ↓reduceIte, reduceCtorEq, Nat.reduceBEq, Nat.reduceEqDiff, Nat.reduceAdd, Nat.reduceSub, Nat.reduceLT, Nat.reduceLeDiff, Nat.reduceMul]
  rw [Int.add_mul, Int.one_mul, Int.add_mul, Int.one_mul] at *
  rw [wrap_id (by omega), wrap_id (by omega)]
set_option maxRecDepth 100000 in
theorem ftouches_t (z : Ei) (r : Int) (h0 : 0 ≤ r) (hk : okc r.toNat z) (lx ly ux uy : Int) (hb : hexIn z r.toNat) (h1 : 0 ≤ lx ∧ lx ≤ ux ∧ ux ≤ 1073741824) (h2 : 0 ≤ ly ∧ ly ≤ uy ∧ uy ≤ 1073741824) :
    Triple Go.Proofs.Try.prog 42 [bxv lx ly ux uy, cel r z] [] (bl (touch z r.toNat (3 * lx) (3 * ly) (3 * ux) (3 * uy))) [] := by
  refine view_frame_touches_triple rfl (by decide) ?_
  simp only [view_frame_touches_pc, cel, bxv, List.length_nil, push_cast, ↓reduceIte, reduceCtorEq, Nat.reduceBEq, Nat.reduceEqDiff, Nat.reduceAdd, Nat.reduceSub, Nat.reduceLT, Nat.reduceLeDiff, Nat.reduceMul]
  refine call_as (as' := [cel r z, pv lx ly, pv ux uy]) rfl ?_
  refine call_mk (ctouches_t z r h0 hk lx ly ux uy hb h1 h2) rfl trivial ?_
  simp only [push_cast, ↓reduceIte, reduceCtorEq, Nat.reduceBEq, Nat.reduceEqDiff, Nat.reduceAdd, Nat.reduceSub, Nat.reduceLT, Nat.reduceLeDiff, Nat.reduceMul]
set_option maxRecDepth 100000 in
theorem vtouches_t (t : Til) (h : tis t = true) (z : Ei) (r : Int) (h0 : 0 ≤ r) (hk : okc r.toNat z) (hb : hexIn z r.toNat) :
    Triple Go.Proofs.Try.prog 22 [t.v, cel r z] [] (bl (tch z r.toNat (2 ^ (30 - t.z).toNat) t.x t.y)) [] := by
  refine view_Touches_triple rfl (by decide) ?_
  have hi := tile_in h
  have hz : 0 ≤ t.z ∧ t.z ≤ 18 := by simp only [tis, decide_eq_true_eq] at h; omega
  have hs := side_in hz
  simp only [view_Touches_pc, Til.v, cel, List.length_nil, push_cast, ↓reduceIte, reduceCtorEq, Nat.reduceBEq, Nat.reduceEqDiff, Nat.reduceAdd, Nat.reduceSub, Nat.reduceLT, Nat.reduceLeDiff, Nat.reduceMul]
  refine dcall_as (as' := [t.v]) rfl ?_
  refine dcall_mk (is_t t) rfl trivial ?_
  rw [h]
  simp only [push_cast, ↓reduceIte, reduceCtorEq, Nat.reduceBEq, Nat.reduceEqDiff, Nat.reduceAdd, Nat.reduceSub, Nat.reduceLT, Nat.reduceLeDiff, Nat.reduceMul]
  refine dcall_as (as' := [t.v]) rfl ?_
  refine dcall_mk (framed_t t h) rfl trivial ?_
  simp only [bxv, push_cast, ↓reduceIte, reduceCtorEq, Nat.reduceBEq, Nat.reduceEqDiff, Nat.reduceAdd, Nat.reduceSub, Nat.reduceLT, Nat.reduceLeDiff, Nat.reduceMul]
  refine dcall_as (as' := [bxv (t.x * 2 ^ (30 - t.z).toNat) (t.y * 2 ^ (30 - t.z).toNat) ((t.x + 1) * 2 ^ (30 - t.z).toNat) ((t.y + 1) * 2 ^ (30 - t.z).toNat), cel r z]) rfl ?_
  refine dcall_mk (ftouches_t z r h0 hk _ _ _ _ hb ⟨hi.1.1, by rw [Int.add_mul]; omega, hi.1.2⟩ ⟨hi.2.1, by rw [Int.add_mul]; omega, hi.2.2⟩) rfl trivial ?_
  simp only [push_cast, ↓reduceIte, reduceCtorEq, Nat.reduceBEq, Nat.reduceEqDiff, Nat.reduceAdd, Nat.reduceSub, Nat.reduceLT, Nat.reduceLeDiff, Nat.reduceMul]
  exact ⟨by kernel_rfl, rfl⟩
/-- A tile of a row. -/
def tilR (z r : Int) (p : Int × Int) : RV := .agg [.v (.int .i64 z), .v (.int .i64 p.1), .v (.int .i64 p.2), .v (.int .i64 r)]
abbrev tilZ : RV := .agg [.v (.int .i64 0), .v (.int .i64 0), .v (.int .i64 0), .v (.int .i64 0)]
def tilsA (n : Nat) : AV := if n = 0 ∨ 10000 < n then .nils 4 tilZ else .own 1000000 0 0 n
def tilsO (z r : Int) (l : List (Int × Int)) : List Ob := if l.length = 0 ∨ 10000 < l.length then [] else [.row 4 tilZ true true (l.map (tilR z r))]
set_option maxRecDepth 100000 in
theorem tiles_no (x y z r : Int) (hz : in64 z) (hr : in64 r) (h : tis ⟨z, 0, 0, r⟩ = false ∨ ¬ inW x y) : Triple Go.Proofs.Try.prog 9 [int .i64 x, int .i64 y, int .i64 z, int .i64 r] [] (.nils 4 tilZ) [] := by
  refine view_Tiles_triple rfl (by decide) ?_
  simp only [view_Tiles_pc, List.length_nil, push_cast, ↓reduceIte, reduceCtorEq, Nat.reduceBEq, Nat.reduceEqDiff, Nat.reduceAdd, Nat.reduceSub, Nat.reduceLT, Nat.reduceLeDiff, Nat.reduceMul]
  refine call_as (as' := [Til.v ⟨z, 0, 0, r⟩]) rfl ?_
  refine call_mk (is_t ⟨z, 0, 0, r⟩) rfl trivial ?_
  cases hi : tis ⟨z, 0, 0, r⟩ with
  | false => simp only [push_cast, ↓reduceIte, reduceCtorEq, Nat.reduceBEq, Nat.reduceEqDiff, Nat.reduceAdd, Nat.reduceSub, Nat.reduceLT, Nat.reduceLeDiff, Nat.reduceMul]
  | true =>
    have hw : ¬ inW x y := by
      rcases h with h | h
      · rw [hi] at h; cases h
      · exact h
    simp only [push_cast, ↓reduceIte, reduceCtorEq, Nat.reduceBEq, Nat.reduceEqDiff, Nat.reduceAdd, Nat.reduceSub, Nat.reduceLT, Nat.reduceLeDiff, Nat.reduceMul]
    refine call_mk (pok_t x y) rfl trivial ?_
    rw [decide_eq_false hw]
    simp only [push_cast, ↓reduceIte, reduceCtorEq, Nat.reduceBEq, Nat.reduceEqDiff, Nat.reduceAdd, Nat.reduceSub, Nat.reduceLT, Nat.reduceLeDiff, Nat.reduceMul]
theorem div_in' {a d n : Int} (h : -n ≤ a ∧ a ≤ n) (hd : 1 ≤ d) : -n ≤ a.tdiv d ∧ a.tdiv d ≤ n := by
  rcases Int.le_total 0 a with c | c
  · rw [Int.tdiv_eq_ediv_of_nonneg c]; exact div_in h hd
  · have h1 := Int.neg_tdiv (-a) d
    rw [Int.neg_neg] at h1
    have h2 := div_in (a := -a) (n := n) (by omega) hd
    rw [← Int.tdiv_eq_ediv_of_nonneg (by omega)] at h2
    omega
theorem rows_big (p : Int → Int → Bool) {a b c d i j : Int} (hci : c ≤ i) (hid : i ≤ d) (hjb : j ≤ b) : (rowsT p a b c (i - 1) ++ rowT p a j i).length ≤ (rowsT p a b c d).length := by
  obtain ⟨l, hl⟩ := rowsT_mono p a b c i d hid
  obtain ⟨m, hm⟩ := rowT_mono p a j b i hjb
  rw [hl, rowsT_snoc p hci, hm]
  simp only [List.length_append]
  omega
theorem tils_snoc (z r x y : Int) (l : List (Int × Int)) : l.map (tilR z r) ++ [.agg [.v (.int .i64 z), .v (.int .i64 x), .v (.int .i64 y), .v (.int .i64 r)]] = (l ++ [(x, y)]).map (tilR z r) := by simp [tilR]
/-- Two numbers, of which the first i are there. -/
def pair2 (a c i : Int) : List AV := if i = 0 then [int .i64 0, int .i64 0] else if i = 1 then [int .i64 a, int .i64 0] else [int .i64 a, int .i64 c]
theorem pair2_0 (a c : Int) : pair2 a c 0 = [int .i64 0, int .i64 0] := rfl
theorem pair2_1 (a c : Int) : pair2 a c 1 = [int .i64 a, int .i64 0] := rfl
theorem pair2_2 (a c : Int) : pair2 a c 2 = [int .i64 a, int .i64 c] := rfl
set_option maxRecDepth 100000 in
theorem tiles_t (x y z r : Int) (hi : tis ⟨z, 0, 0, r⟩ = true) (hw : inW x y) (hf : fine ⟨z, 0, 0, r⟩ = false) (Z : Ei) (hZ : near x y r.toNat = Z) (hL : Lies x y Z r.toNat) (hb : hexIn Z r.toNat) (s last a b c d : Int)
    (hs : s = 2 ^ (30 - z).toNat) (hl : last = 2 ^ z.toNat - 1) (ha : a = tlo (mnN (hx Z r.toNat) 6) s last) (hb' : b = thi (mxN (hx Z r.toNat) 6) s last) (hc : c = tlo (mnN (hy Z r.toNat) 6) s last) (hd : d = thi (mxN (hy Z r.toNat) 6) s last) (hab : a ≤ b) (hcd : c ≤ d) :
    Triple Go.Proofs.Try.prog 9 [int .i64 x, int .i64 y, int .i64 z, int .i64 r] [] (tilsA (progT Z r.toNat s last).length) (tilsO z r (progT Z r.toNat s last)) := by
  refine view_Tiles_triple rfl (by decide) ?_
  have hi' := hi
  simp only [tis, decide_eq_true_eq] at hi'
  obtain ⟨z0, z1, r0, r1, _⟩ := hi'
  have hok : Til.ok ⟨z, 0, 0, r⟩ := by unfold Til.ok in64; dsimp only; omega
  have hkc : okc r.toNat Z := by rw [← hZ]; exact near_okc x y r.toNat hw.1 hw.2 (by omega)
  have hside := side_in ⟨z0, z1⟩
  have hmax := maxLen_big
  simp only [view_Tiles_pc, List.length_nil, push_cast, ↓reduceIte, reduceCtorEq, Nat.reduceBEq, Nat.reduceEqDiff, Nat.reduceAdd, Nat.reduceSub, Nat.reduceLT, Nat.reduceLeDiff, Nat.reduceMul]
  refine call_as (as' := [Til.v ⟨z, 0, 0, r⟩]) rfl ?_
  refine call_mk (is_t ⟨z, 0, 0, r⟩) rfl trivial ?_
  rw [hi]
  simp only [push_cast, ↓reduceIte, reduceCtorEq, Nat.reduceBEq, Nat.reduceEqDiff, Nat.reduceAdd, Nat.reduceSub, Nat.reduceLT, Nat.reduceLeDiff, Nat.reduceMul]
  refine call_mk (pok_t x y) rfl trivial ?_
  rw [decide_eq_true hw]
  simp only [push_cast, ↓reduceIte, reduceCtorEq, Nat.reduceBEq, Nat.reduceEqDiff, Nat.reduceAdd, Nat.reduceSub, Nat.reduceLT, Nat.reduceLeDiff, Nat.reduceMul]
  refine call_as (as' := [Til.v ⟨z, 0, 0, r⟩]) rfl ?_
  refine call_mk (fine_t ⟨z, 0, 0, r⟩ hok) rfl trivial ?_
  rw [hf]
  simp only [push_cast, ↓reduceIte, reduceCtorEq, Nat.reduceBEq, Nat.reduceEqDiff, Nat.reduceAdd, Nat.reduceSub, Nat.reduceLT, Nat.reduceLeDiff, Nat.reduceMul]
  refine call_mk (cof_t x y r hw ⟨r0, r1⟩) rfl trivial ?_
  rw [hZ]
  simp only [cel, push_cast, ↓reduceIte, reduceCtorEq, Nat.reduceBEq, Nat.reduceEqDiff, Nat.reduceAdd, Nat.reduceSub, Nat.reduceLT, Nat.reduceLeDiff, Nat.reduceMul]
  refine call_as (as' := [Z.v, int .i64 r]) rfl ?_
  refine call_mk (hex_t Z r hkc.2.1 ⟨r0, r1⟩) rfl trivial ?_
  simp only [pnt, push_cast, ↓reduceIte, reduceCtorEq, Nat.reduceBEq, Nat.reduceEqDiff, Nat.reduceAdd, Nat.reduceSub, Nat.reduceLT, Nat.reduceLeDiff, Nat.reduceMul]
  refine call_as (as' := [Til.v ⟨z, 0, 0, r⟩]) rfl ?_
  refine call_mk (origin_t ⟨z, 0, 0, r⟩ hi) rfl trivial ?_
  simp only [Int.zero_mul, push_cast, ↓reduceIte, reduceCtorEq, Nat.reduceBEq, Nat.reduceEqDiff, Nat.reduceAdd, Nat.reduceSub, Nat.reduceLT, Nat.reduceLeDiff, Nat.reduceMul]
  rw [← hs]
  refine run_loop [(65, false), (12, false), (16, false), (2, false), (17, false), (18, false), (9, false), (10, false)] (fun vs pos los => ∃ i : Int, (i = 0 ∨ i = 1 ∨ i = 2) ∧ vs = [int .i64 i, .own 2000000 0 0 6, int .i64 s, int .i64 z, .ptr 2000001 0 0, .ptr 2000002 0 0, .ptr 2000003 0 0, .ptr 2000004 0 0] ∧ pos = [] ∧
    los = [.row 2 (.agg [.v (.int .i64 0), .v (.int .i64 0)]) true true (hexL Z r.toNat 6), .box (pair2 a c i), .box (pair2 b d i), .box [int .i64 z, int .i64 0, int .i64 0, int .i64 r], .box [int .i64 r, int .i64 Z.a, int .i64 Z.b]])
    (fun vs _ _ => match vs with | .r (.v (.int _ j)) :: _ => (2 - j).toNat | _ => 0) rfl ?_ ?_
  · simp only [push_cast, ↓reduceIte, reduceCtorEq, Nat.reduceBEq, Nat.reduceEqDiff, Nat.reduceAdd, Nat.reduceSub, Nat.reduceLT, Nat.reduceLeDiff, Nat.reduceMul]
    exact ⟨0, by omega, rfl, rfl⟩
  · rintro vs pos los ⟨i, hi | hi | hi, rfl, rfl, rfl⟩
    · obtain rfl := hi
      have g0 : decide ((0 : Int) < 2) = true := rfl
      have hf6 : ∀ j, j < 6 → -4294967296 ≤ hx Z r.toNat j ∧ hx Z r.toNat j ≤ 4294967296 := fun j hj => (hb j hj).1
      simp only [g0, hexL_at Z r.toNat 6 0 (by decide), Int.reduceToNat, Nat.zero_add, pair2_0, push_cast, ↓reduceIte, reduceCtorEq, Nat.reduceBEq, Nat.reduceEqDiff, Nat.reduceAdd, Nat.reduceSub, Nat.reduceLT, Nat.reduceLeDiff, Nat.reduceMul]
      repeat refine And.intro (by first | decide | kernel_rfl) ?_
      refine run_loop [(80, false), (79, false), (78, false), (20, false), (21, false), (19, false), (12, false), (16, false), (2, false), (17, false), (18, false), (9, false), (10, false), (65, false)] (fun vs pos los => ∃ k : Nat, k ≤ 6 ∧ vs = [int .i64 k, int .i64 6, .own 2000000 0 0 6, int .i64 (mnN (hx Z r.toNat) k), int .i64 (mxN (hx Z r.toNat) k), int .i64 0, .own 2000000 0 0 6, int .i64 s, int .i64 z, .ptr 2000001 0 0, .ptr 2000002 0 0, .ptr 2000003 0 0, .ptr 2000004 0 0, int .i64 0] ∧ pos = [] ∧
        los = [.row 2 (.agg [.v (.int .i64 0), .v (.int .i64 0)]) true true (hexL Z r.toNat 6), .box (pair2 a c 0), .box (pair2 b d 0), .box [int .i64 z, int .i64 0, int .i64 0, int .i64 r], .box [int .i64 r, int .i64 Z.a, int .i64 Z.b]])
        (fun vs _ _ => match vs with | .r (.v (.int _ j)) :: _ => (6 - j).toNat | _ => 0) rfl ?_ ?_
      · simp only [push_cast, ↓reduceIte, reduceCtorEq, Nat.reduceBEq, Nat.reduceEqDiff, Nat.reduceAdd, Nat.reduceSub, Nat.reduceLT, Nat.reduceLeDiff, Nat.reduceMul]
        exact ⟨0, by omega, rfl, rfl⟩
      · rintro vs pos los ⟨k, hk, rfl, rfl, rfl⟩
        simp only [pair2_0, push_cast, ↓reduceIte, reduceCtorEq, Nat.reduceBEq, Nat.reduceEqDiff, Nat.reduceAdd, Nat.reduceSub, Nat.reduceLT, Nat.reduceLeDiff, Nat.reduceMul]
        refine cnd_mk (fun h => ?_) (fun h => ?_)
        · have hi : k < 6 := by simp at h; omega
          simp only [Int.toNat_natCast, Nat.zero_add, hexL_at Z r.toNat 6 k hi, Int.reduceToNat, push_cast, ↓reduceIte, reduceCtorEq, Nat.reduceBEq, Nat.reduceEqDiff, Nat.reduceAdd, Nat.reduceSub, Nat.reduceLT, Nat.reduceLeDiff, Nat.reduceMul]
          rw [show IntKind.i64.wrap ((k : Int) + 1) = ((k + 1 : Nat) : Int) by rw [wrap_id (by omega)]; omega]
          refine ⟨by omega, ?_⟩
          repeat refine And.intro (by first | decide | omega | kernel_rfl) ?_
          exact ⟨⟨k + 1, by omega, rfl⟩, by omega⟩
        · have hi : k = 6 := by simp at h; omega
          subst hi
          have hmn := mnN_in hf6 6 (by decide)
          have hmx := mxN_in hf6 6 (by decide)
          have t1 := div_in' hmn (show 1 ≤ 3 * s by omega)
          have t2 := div_in' hmx (show 1 ≤ 3 * s by omega)
          simp only [Int.reduceToNat, push_cast, ↓reduceIte, reduceCtorEq, Nat.reduceBEq, Nat.reduceEqDiff, Nat.reduceAdd, Nat.reduceSub, Nat.reduceLT, Nat.reduceLeDiff, Nat.reduceMul]
          refine ⟨by rw [IntKind.wrap_u64]; omega, ?_⟩
          rw [shl1 _ z0 (by omega)]
          have hz2 := p2 z.toNat (by omega)
          rw [show IntKind.i64.wrap (3 * s) = 3 * s from wrap_id (by omega), show IntKind.i64.wrap ((mnN (hx Z r.toNat) 6).tdiv (3 * s)) = (mnN (hx Z r.toNat) 6).tdiv (3 * s) from wrap_id (by omega), show IntKind.i64.wrap ((mxN (hx Z r.toNat) 6).tdiv (3 * s)) = (mxN (hx Z r.toNat) 6).tdiv (3 * s) from wrap_id (by omega),
            show IntKind.i64.wrap ((mnN (hx Z r.toNat) 6).tdiv (3 * s) - 1) = (mnN (hx Z r.toNat) 6).tdiv (3 * s) - 1 from wrap_id (by omega), show IntKind.i64.wrap ((mxN (hx Z r.toNat) 6).tdiv (3 * s) + 1) = (mxN (hx Z r.toNat) 6).tdiv (3 * s) + 1 from wrap_id (by omega), show IntKind.i64.wrap (2 ^ z.toNat - 1) = last by rw [hl]; exact wrap_id (by omega),
            show min (max ((mnN (hx Z r.toNat) 6).tdiv (3 * s) - 1) 0) last = a from ha.symm, show min (max ((mxN (hx Z r.toNat) 6).tdiv (3 * s) + 1) 0) last = b from hb'.symm]
          refine ⟨by omega, by omega, ?_⟩
          repeat refine And.intro (by first | decide | omega | kernel_rfl) ?_
          exact ⟨⟨1, by omega, rfl, rfl⟩, by decide⟩
    · obtain rfl := hi
      have g0 : decide ((1 : Int) < 2) = true := rfl
      have hf6 : ∀ j, j < 6 → -4294967296 ≤ hy Z r.toNat j ∧ hy Z r.toNat j ≤ 4294967296 := fun j hj => (hb j hj).2
      simp only [g0, hexL_at Z r.toNat 6 0 (by decide), Int.reduceToNat, Nat.zero_add, pair2_1, push_cast, ↓reduceIte, reduceCtorEq, Nat.reduceBEq, Nat.reduceEqDiff, Nat.reduceAdd, Nat.reduceSub, Nat.reduceLT, Nat.reduceLeDiff, Nat.reduceMul]
      repeat refine And.intro (by first | decide | kernel_rfl) ?_
      refine run_loop [(80, false), (79, false), (78, false), (20, false), (21, false), (19, false), (12, false), (16, false), (2, false), (17, false), (18, false), (9, false), (10, false), (65, false)] (fun vs pos los => ∃ k : Nat, k ≤ 6 ∧ vs = [int .i64 k, int .i64 6, .own 2000000 0 0 6, int .i64 (mnN (hy Z r.toNat) k), int .i64 (mxN (hy Z r.toNat) k), int .i64 1, .own 2000000 0 0 6, int .i64 s, int .i64 z, .ptr 2000001 0 0, .ptr 2000002 0 0, .ptr 2000003 0 0, .ptr 2000004 0 0, int .i64 1] ∧ pos = [] ∧
        los = [.row 2 (.agg [.v (.int .i64 0), .v (.int .i64 0)]) true true (hexL Z r.toNat 6), .box (pair2 a c 1), .box (pair2 b d 1), .box [int .i64 z, int .i64 0, int .i64 0, int .i64 r], .box [int .i64 r, int .i64 Z.a, int .i64 Z.b]])
        (fun vs _ _ => match vs with | .r (.v (.int _ j)) :: _ => (6 - j).toNat | _ => 0) rfl ?_ ?_
      · simp only [push_cast, ↓reduceIte, reduceCtorEq, Nat.reduceBEq, Nat.reduceEqDiff, Nat.reduceAdd, Nat.reduceSub, Nat.reduceLT, Nat.reduceLeDiff, Nat.reduceMul]
        exact ⟨0, by omega, rfl, rfl⟩
      · rintro vs pos los ⟨k, hk, rfl, rfl, rfl⟩
        simp only [pair2_1, push_cast, ↓reduceIte, reduceCtorEq, Nat.reduceBEq, Nat.reduceEqDiff, Nat.reduceAdd, Nat.reduceSub, Nat.reduceLT, Nat.reduceLeDiff, Nat.reduceMul]
        refine cnd_mk (fun h => ?_) (fun h => ?_)
        · have hi : k < 6 := by simp at h; omega
          simp only [Int.toNat_natCast, Nat.zero_add, hexL_at Z r.toNat 6 k hi, Int.reduceToNat, push_cast, ↓reduceIte, reduceCtorEq, Nat.reduceBEq, Nat.reduceEqDiff, Nat.reduceAdd, Nat.reduceSub, Nat.reduceLT, Nat.reduceLeDiff, Nat.reduceMul]
          rw [show IntKind.i64.wrap ((k : Int) + 1) = ((k + 1 : Nat) : Int) by rw [wrap_id (by omega)]; omega]
          refine ⟨by omega, ?_⟩
          repeat refine And.intro (by first | decide | omega | kernel_rfl) ?_
          exact ⟨⟨k + 1, by omega, rfl⟩, by omega⟩
        · have hi : k = 6 := by simp at h; omega
          subst hi
          have hmn := mnN_in hf6 6 (by decide)
          have hmx := mxN_in hf6 6 (by decide)
          have t1 := div_in' hmn (show 1 ≤ 3 * s by omega)
          have t2 := div_in' hmx (show 1 ≤ 3 * s by omega)
          simp only [Int.reduceToNat, push_cast, ↓reduceIte, reduceCtorEq, Nat.reduceBEq, Nat.reduceEqDiff, Nat.reduceAdd, Nat.reduceSub, Nat.reduceLT, Nat.reduceLeDiff, Nat.reduceMul]
          refine ⟨by rw [IntKind.wrap_u64]; omega, ?_⟩
          rw [shl1 _ z0 (by omega)]
          have hz2 := p2 z.toNat (by omega)
          rw [show IntKind.i64.wrap (3 * s) = 3 * s from wrap_id (by omega), show IntKind.i64.wrap ((mnN (hy Z r.toNat) 6).tdiv (3 * s)) = (mnN (hy Z r.toNat) 6).tdiv (3 * s) from wrap_id (by omega), show IntKind.i64.wrap ((mxN (hy Z r.toNat) 6).tdiv (3 * s)) = (mxN (hy Z r.toNat) 6).tdiv (3 * s) from wrap_id (by omega),
            show IntKind.i64.wrap ((mnN (hy Z r.toNat) 6).tdiv (3 * s) - 1) = (mnN (hy Z r.toNat) 6).tdiv (3 * s) - 1 from wrap_id (by omega), show IntKind.i64.wrap ((mxN (hy Z r.toNat) 6).tdiv (3 * s) + 1) = (mxN (hy Z r.toNat) 6).tdiv (3 * s) + 1 from wrap_id (by omega), show IntKind.i64.wrap (2 ^ z.toNat - 1) = last by rw [hl]; exact wrap_id (by omega),
            show min (max ((mnN (hy Z r.toNat) 6).tdiv (3 * s) - 1) 0) last = c from hc.symm, show min (max ((mxN (hy Z r.toNat) 6).tdiv (3 * s) + 1) 0) last = d from hd.symm]
          refine ⟨by omega, by omega, ?_⟩
          repeat refine And.intro (by first | decide | omega | kernel_rfl) ?_
          exact ⟨⟨2, by omega, rfl, rfl⟩, by decide⟩
    · obtain rfl := hi
      have g0 : decide ((2 : Int) < 2) = false := rfl
      simp only [g0, Int.reduceToNat, pair2_2, push_cast, ↓reduceIte, reduceCtorEq, Nat.reduceBEq, Nat.reduceEqDiff, Nat.reduceAdd, Nat.reduceSub, Nat.reduceLT, Nat.reduceLeDiff, Nat.reduceMul]
      repeat refine And.intro (by first | decide | omega | kernel_rfl) ?_
      have hP0 : rowsT (tch Z r.toNat s) a b c (c - 1) = [] := rowsT_nil _ (by omega)
      have hall : progT Z r.toNat s last = rowsT (tch Z r.toNat s) a b c d := by rw [progT, ← ha, ← hb', ← hc, ← hd]
      have hlast : last ≤ 262143 := by
        have h1 : 2 ^ z.toNat ≤ 2 ^ 18 := Nat.pow_le_pow_right (by decide) (by omega)
        have h3 : ((2 ^ z.toNat : Nat) : Int) = (2 : Int) ^ z.toNat := by simp
        omega
      have ha0 : 0 ≤ a ∧ 0 ≤ c ∧ b ≤ last ∧ d ≤ last := by
        have hz2 := p2 z.toNat (by omega)
        rw [ha, hb', hc, hd]; unfold tlo thi; omega
      have htis : ∀ i j : Int, c ≤ i → i ≤ d → a ≤ j → j ≤ b → tis ⟨z, j, i, r⟩ = true := fun i j i1 i2 j1 j2 => by
        simp only [tis, decide_eq_true_eq]
        omega
      refine run_loop [(26, false), (18, false), (17, false), (9, false), (10, false), (25, false)] (fun vs pos los => ∃ (i : Int) (L : List (Int × Int)) (X Y : Int), (c ≤ i ∧ i ≤ d + 1) ∧ L = rowsT (tch Z r.toNat s) a b c (i - 1) ∧ L.length ≤ 10000 ∧ pos = [] ∧
        ((L = [] ∧ vs = [int .i64 i, .ptr 2000000 0 0, .ptr 2000001 0 0, .ptr 2000002 0 0, .ptr 2000003 0 0, .nils 4 tilZ] ∧ los = [.box [int .i64 b, int .i64 d], .box [int .i64 a, int .i64 c], .box [int .i64 z, int .i64 X, int .i64 Y, int .i64 r], .box [int .i64 r, int .i64 Z.a, int .i64 Z.b]]) ∨
         (L ≠ [] ∧ vs = [int .i64 i, .ptr 2000000 0 0, .ptr 2000001 0 0, .ptr 2000002 0 0, .ptr 2000003 0 0, .own 2000004 0 0 L.length] ∧ los = [.box [int .i64 b, int .i64 d], .box [int .i64 a, int .i64 c], .box [int .i64 z, int .i64 X, int .i64 Y, int .i64 r], .box [int .i64 r, int .i64 Z.a, int .i64 Z.b], .row 4 tilZ true true (L.map (tilR z r))])))
        (fun vs _ _ => match vs with | .r (.v (.int _ j)) :: _ => (d + 1 - j).toNat | _ => 0) rfl ?_ ?_
      · simp only [push_cast, ↓reduceIte, reduceCtorEq, Nat.reduceBEq, Nat.reduceEqDiff, Nat.reduceAdd, Nat.reduceSub, Nat.reduceLT, Nat.reduceLeDiff, Nat.reduceMul]
        exact ⟨c, [], 0, 0, by omega, hP0.symm, by simp, .inl ⟨rfl, rfl, rfl⟩⟩
      · rintro vs pos los ⟨i, L, X, Y, hi, hLr, hL4, rfl, ⟨hL0, rfl, rfl⟩ | ⟨hL0, rfl, rfl⟩⟩
        · simp only [Int.reduceToNat, push_cast, ↓reduceIte, reduceCtorEq, Nat.reduceBEq, Nat.reduceEqDiff, Nat.reduceAdd, Nat.reduceSub, Nat.reduceLT, Nat.reduceLeDiff, Nat.reduceMul]
          refine ⟨by decide, cnd_mk (fun h => ?_) (fun h => ?_)⟩
          · have hid : i ≤ d := by simpa using h
            simp only [Int.reduceToNat, push_cast, ↓reduceIte, reduceCtorEq, Nat.reduceBEq, Nat.reduceEqDiff, Nat.reduceAdd, Nat.reduceSub, Nat.reduceLT, Nat.reduceLeDiff, Nat.reduceMul]
            refine ⟨by decide, ?_⟩
            refine run_loop [(27, false), (26, false), (18, false), (17, false), (9, false), (10, false), (25, false)] (fun vs pos los => ∃ (j : Int) (L2 : List (Int × Int)) (X Y : Int), (a ≤ j ∧ j ≤ b + 1) ∧ L2 = rowsT (tch Z r.toNat s) a b c (i - 1) ++ rowT (tch Z r.toNat s) a (j - 1) i ∧ L2.length ≤ 10000 ∧ pos = [] ∧
              ((L2 = [] ∧ vs = [int .i64 j, int .i64 i, .ptr 2000000 0 0, .ptr 2000001 0 0, .ptr 2000002 0 0, .ptr 2000003 0 0, .nils 4 tilZ] ∧ los = [.box [int .i64 b, int .i64 d], .box [int .i64 a, int .i64 c], .box [int .i64 z, int .i64 X, int .i64 Y, int .i64 r], .box [int .i64 r, int .i64 Z.a, int .i64 Z.b]]) ∨
               (L2 ≠ [] ∧ vs = [int .i64 j, int .i64 i, .ptr 2000000 0 0, .ptr 2000001 0 0, .ptr 2000002 0 0, .ptr 2000003 0 0, .own 2000004 0 0 L2.length] ∧ los = [.box [int .i64 b, int .i64 d], .box [int .i64 a, int .i64 c], .box [int .i64 z, int .i64 X, int .i64 Y, int .i64 r], .box [int .i64 r, int .i64 Z.a, int .i64 Z.b], .row 4 tilZ true true (L2.map (tilR z r))])))
              (fun vs _ _ => match vs with | .r (.v (.int _ j)) :: _ => (b + 1 - j).toNat | _ => 0) rfl ?_ ?_
            · simp only [push_cast, ↓reduceIte, reduceCtorEq, Nat.reduceBEq, Nat.reduceEqDiff, Nat.reduceAdd, Nat.reduceSub, Nat.reduceLT, Nat.reduceLeDiff, Nat.reduceMul]
              exact ⟨a, [], X, Y, by omega, by rw [rowT_nil _ (by omega), List.append_nil, ← hLr, hL0], by simp, .inl ⟨rfl, rfl, rfl⟩⟩
            · rintro vs pos los ⟨j, L2, X', Y', hj, hL2, hL24, rfl, ⟨hL20, rfl, rfl⟩ | ⟨hL20, rfl, rfl⟩⟩
              · simp only [Int.reduceToNat, push_cast, ↓reduceIte, reduceCtorEq, Nat.reduceBEq, Nat.reduceEqDiff, Nat.reduceAdd, Nat.reduceSub, Nat.reduceLT, Nat.reduceLeDiff, Nat.reduceMul]
                refine ⟨by decide, cnd_mk (fun hc => ?_) (fun hc => ?_)⟩
                · have hjb : j ≤ b := by simpa using hc
                  have hti : tis ⟨z, j, i, r⟩ = true := htis i j (by omega) (by omega) (by omega) (by omega)
                  have hsn := rowT_snoc (tch Z r.toNat s) (k := i) (show a ≤ j by omega)
                  simp only [Int.reduceToNat, push_cast, ↓reduceIte, reduceCtorEq, Nat.reduceBEq, Nat.reduceEqDiff, Nat.reduceAdd, Nat.reduceSub, Nat.reduceLT, Nat.reduceLeDiff, Nat.reduceMul]
                  refine call_as (as' := [Til.v ⟨z, j, i, r⟩, cel r Z]) rfl ?_
                  refine call_mk (vtouches_t ⟨z, j, i, r⟩ hti Z r r0 hkc hb) rfl trivial ?_
                  dsimp only
                  rw [← hs]
                  simp only [push_cast, ↓reduceIte, reduceCtorEq, Nat.reduceBEq, Nat.reduceEqDiff, Nat.reduceAdd, Nat.reduceSub, Nat.reduceLT, Nat.reduceLeDiff, Nat.reduceMul]
                  refine cnd_mk (fun ht => ?_) (fun ht => ?_)
                  · have ht' : tch Z r.toNat s j i = false := by simpa using ht
                    simp only [push_cast, ↓reduceIte, reduceCtorEq, Nat.reduceBEq, Nat.reduceEqDiff, Nat.reduceAdd, Nat.reduceSub, Nat.reduceLT, Nat.reduceLeDiff, Nat.reduceMul]
                    rw [wrap_id (by omega)]
                    refine ⟨⟨j + 1, L2, j, i, by omega, ?_, hL24, .inl ⟨hL20, rfl, rfl⟩⟩, by omega⟩
                    rw [hL2, show j + 1 - 1 = j by omega, hsn, ht']
                    simp
                  · have ht' : tch Z r.toNat s j i = true := by simpa using ht
                    simp only [Int.reduceToNat, push_cast, ↓reduceIte, reduceCtorEq, Nat.reduceBEq, Nat.reduceEqDiff, Nat.reduceAdd, Nat.reduceSub, Nat.reduceLT, Nat.reduceLeDiff, Nat.reduceMul]
                    repeat refine And.intro (by first | decide | omega) ?_
                    refine cnd_mk (fun hq => ?_) (fun hq => ?_)
                    · exact absurd hq (by decide)
                    · simp only [push_cast, ↓reduceIte, reduceCtorEq, Nat.reduceBEq, Nat.reduceEqDiff, Nat.reduceAdd, Nat.reduceSub, Nat.reduceLT, Nat.reduceLeDiff, Nat.reduceMul]
                      rw [wrap_id (by omega)]
                      refine ⟨⟨j + 1, [(j, i)], j, i, by omega, ?_, by simp, .inr ⟨by simp, rfl, rfl⟩⟩, by omega⟩
                      rw [show j + 1 - 1 = j by omega, hsn, ht', ← List.append_assoc, ← hL2, hL20]
                      rfl
                · have hjb : j = b + 1 := by simp at hc; omega
                  simp only [push_cast, ↓reduceIte, reduceCtorEq, Nat.reduceBEq, Nat.reduceEqDiff, Nat.reduceAdd, Nat.reduceSub, Nat.reduceLT, Nat.reduceLeDiff, Nat.reduceMul]
                  rw [show IntKind.i64.wrap (i + 1) = i + 1 from wrap_id (by omega)]
                  refine ⟨⟨i + 1, L2, X', Y', by omega, ?_, hL24, .inl ⟨hL20, rfl, rfl⟩⟩, by omega⟩
                  rw [hL2, show i + 1 - 1 = i by omega, rowsT_snoc _ (show c ≤ i by omega), show j - 1 = b by omega]
              · simp only [Int.reduceToNat, push_cast, ↓reduceIte, reduceCtorEq, Nat.reduceBEq, Nat.reduceEqDiff, Nat.reduceAdd, Nat.reduceSub, Nat.reduceLT, Nat.reduceLeDiff, Nat.reduceMul]
                refine ⟨by decide, cnd_mk (fun hc => ?_) (fun hc => ?_)⟩
                · have hjb : j ≤ b := by simpa using hc
                  have hti : tis ⟨z, j, i, r⟩ = true := htis i j (by omega) (by omega) (by omega) (by omega)
                  have hsn := rowT_snoc (tch Z r.toNat s) (k := i) (show a ≤ j by omega)
                  simp only [Int.reduceToNat, push_cast, ↓reduceIte, reduceCtorEq, Nat.reduceBEq, Nat.reduceEqDiff, Nat.reduceAdd, Nat.reduceSub, Nat.reduceLT, Nat.reduceLeDiff, Nat.reduceMul]
                  refine call_as (as' := [Til.v ⟨z, j, i, r⟩, cel r Z]) rfl ?_
                  refine call_mk (vtouches_t ⟨z, j, i, r⟩ hti Z r r0 hkc hb) rfl trivial ?_
                  dsimp only
                  rw [← hs]
                  simp only [push_cast, ↓reduceIte, reduceCtorEq, Nat.reduceBEq, Nat.reduceEqDiff, Nat.reduceAdd, Nat.reduceSub, Nat.reduceLT, Nat.reduceLeDiff, Nat.reduceMul]
                  refine cnd_mk (fun ht => ?_) (fun ht => ?_)
                  · have ht' : tch Z r.toNat s j i = false := by simpa using ht
                    simp only [push_cast, ↓reduceIte, reduceCtorEq, Nat.reduceBEq, Nat.reduceEqDiff, Nat.reduceAdd, Nat.reduceSub, Nat.reduceLT, Nat.reduceLeDiff, Nat.reduceMul]
                    rw [wrap_id (by omega)]
                    refine ⟨⟨j + 1, L2, j, i, by omega, ?_, hL24, .inr ⟨hL20, rfl, rfl⟩⟩, by omega⟩
                    rw [hL2, show j + 1 - 1 = j by omega, hsn, ht']
                    simp
                  · have ht' : tch Z r.toNat s j i = true := by simpa using ht
                    simp only [Int.reduceToNat, push_cast, ↓reduceIte, reduceCtorEq, Nat.reduceBEq, Nat.reduceEqDiff, Nat.reduceAdd, Nat.reduceSub, Nat.reduceLT, Nat.reduceLeDiff, Nat.reduceMul]
                    refine ⟨by decide, by omega, ?_⟩
                    refine cnd_mk (fun hq => ?_) (fun hq => ?_)
                    · have hq' : 10000 < L2.length + 1 := by simp at hq; omega
                      simp only [push_cast, ↓reduceIte, reduceCtorEq, Nat.reduceBEq, Nat.reduceEqDiff, Nat.reduceAdd, Nat.reduceSub, Nat.reduceLT, Nat.reduceLeDiff, Nat.reduceMul]
                      have hbig := rows_big (tch Z r.toNat s) (a := a) (show c ≤ i by omega) hid hjb
                      rw [hsn, ht', ← List.append_assoc, ← hL2] at hbig
                      simp only [if_true, List.length_append, List.length_singleton] at hbig
                      rw [hall]
                      simp only [tilsA, tilsO]
                      rw [if_pos (.inr (by omega)), if_pos (.inr (by omega))]
                      exact ⟨rfl, rfl⟩
                    · have hq' : L2.length + 1 ≤ 10000 := by simp at hq; omega
                      simp only [push_cast, ↓reduceIte, reduceCtorEq, Nat.reduceBEq, Nat.reduceEqDiff, Nat.reduceAdd, Nat.reduceSub, Nat.reduceLT, Nat.reduceLeDiff, Nat.reduceMul]
                      rw [show IntKind.i64.wrap (j + 1) = j + 1 from wrap_id (by omega), tils_snoc]
                      refine ⟨⟨j + 1, L2 ++ [(j, i)], j, i, by omega, ?_, by simp; omega, .inr ⟨by simp, by simp, rfl⟩⟩, by omega⟩
                      rw [show j + 1 - 1 = j by omega, hsn, ht', ← List.append_assoc, ← hL2]
                      rfl
                · have hjb : j = b + 1 := by simp at hc; omega
                  simp only [push_cast, ↓reduceIte, reduceCtorEq, Nat.reduceBEq, Nat.reduceEqDiff, Nat.reduceAdd, Nat.reduceSub, Nat.reduceLT, Nat.reduceLeDiff, Nat.reduceMul]
                  rw [show IntKind.i64.wrap (i + 1) = i + 1 from wrap_id (by omega)]
                  refine ⟨⟨i + 1, L2, X', Y', by omega, ?_, hL24, .inr ⟨hL20, rfl, rfl⟩⟩, by omega⟩
                  rw [hL2, show i + 1 - 1 = i by omega, rowsT_snoc _ (show c ≤ i by omega), show j - 1 = b by omega]
          · have hid : i = d + 1 := by simp at h; omega
            simp only [push_cast, ↓reduceIte, reduceCtorEq, Nat.reduceBEq, Nat.reduceEqDiff, Nat.reduceAdd, Nat.reduceSub, Nat.reduceLT, Nat.reduceLeDiff, Nat.reduceMul]
            rw [hall, ← show i - 1 = d by omega, ← hLr]
            rw [hL0]; exact ⟨rfl, rfl⟩
        · simp only [Int.reduceToNat, push_cast, ↓reduceIte, reduceCtorEq, Nat.reduceBEq, Nat.reduceEqDiff, Nat.reduceAdd, Nat.reduceSub, Nat.reduceLT, Nat.reduceLeDiff, Nat.reduceMul]
          refine ⟨by decide, cnd_mk (fun h => ?_) (fun h => ?_)⟩
          · have hid : i ≤ d := by simpa using h
            simp only [Int.reduceToNat, push_cast, ↓reduceIte, reduceCtorEq, Nat.reduceBEq, Nat.reduceEqDiff, Nat.reduceAdd, Nat.reduceSub, Nat.reduceLT, Nat.reduceLeDiff, Nat.reduceMul]
            refine ⟨by decide, ?_⟩
            refine run_loop [(27, false), (26, false), (18, false), (17, false), (9, false), (10, false), (25, false)] (fun vs pos los => ∃ (j : Int) (L2 : List (Int × Int)) (X Y : Int), (a ≤ j ∧ j ≤ b + 1) ∧ L2 = rowsT (tch Z r.toNat s) a b c (i - 1) ++ rowT (tch Z r.toNat s) a (j - 1) i ∧ L2.length ≤ 10000 ∧ pos = [] ∧
              ((L2 = [] ∧ vs = [int .i64 j, int .i64 i, .ptr 2000000 0 0, .ptr 2000001 0 0, .ptr 2000002 0 0, .ptr 2000003 0 0, .nils 4 tilZ] ∧ los = [.box [int .i64 b, int .i64 d], .box [int .i64 a, int .i64 c], .box [int .i64 z, int .i64 X, int .i64 Y, int .i64 r], .box [int .i64 r, int .i64 Z.a, int .i64 Z.b]]) ∨
               (L2 ≠ [] ∧ vs = [int .i64 j, int .i64 i, .ptr 2000000 0 0, .ptr 2000001 0 0, .ptr 2000002 0 0, .ptr 2000003 0 0, .own 2000004 0 0 L2.length] ∧ los = [.box [int .i64 b, int .i64 d], .box [int .i64 a, int .i64 c], .box [int .i64 z, int .i64 X, int .i64 Y, int .i64 r], .box [int .i64 r, int .i64 Z.a, int .i64 Z.b], .row 4 tilZ true true (L2.map (tilR z r))])))
              (fun vs _ _ => match vs with | .r (.v (.int _ j)) :: _ => (b + 1 - j).toNat | _ => 0) rfl ?_ ?_
            · simp only [push_cast, ↓reduceIte, reduceCtorEq, Nat.reduceBEq, Nat.reduceEqDiff, Nat.reduceAdd, Nat.reduceSub, Nat.reduceLT, Nat.reduceLeDiff, Nat.reduceMul]
              exact ⟨a, L, X, Y, by omega, by rw [rowT_nil _ (by omega), List.append_nil, ← hLr], hL4, .inr ⟨hL0, rfl, rfl⟩⟩
            · rintro vs pos los ⟨j, L2, X', Y', hj, hL2, hL24, rfl, ⟨hL20, rfl, rfl⟩ | ⟨hL20, rfl, rfl⟩⟩
              · simp only [Int.reduceToNat, push_cast, ↓reduceIte, reduceCtorEq, Nat.reduceBEq, Nat.reduceEqDiff, Nat.reduceAdd, Nat.reduceSub, Nat.reduceLT, Nat.reduceLeDiff, Nat.reduceMul]
                refine ⟨by decide, cnd_mk (fun hc => ?_) (fun hc => ?_)⟩
                · have hjb : j ≤ b := by simpa using hc
                  have hti : tis ⟨z, j, i, r⟩ = true := htis i j (by omega) (by omega) (by omega) (by omega)
                  have hsn := rowT_snoc (tch Z r.toNat s) (k := i) (show a ≤ j by omega)
                  simp only [Int.reduceToNat, push_cast, ↓reduceIte, reduceCtorEq, Nat.reduceBEq, Nat.reduceEqDiff, Nat.reduceAdd, Nat.reduceSub, Nat.reduceLT, Nat.reduceLeDiff, Nat.reduceMul]
                  refine call_as (as' := [Til.v ⟨z, j, i, r⟩, cel r Z]) rfl ?_
                  refine call_mk (vtouches_t ⟨z, j, i, r⟩ hti Z r r0 hkc hb) rfl trivial ?_
                  dsimp only
                  rw [← hs]
                  simp only [push_cast, ↓reduceIte, reduceCtorEq, Nat.reduceBEq, Nat.reduceEqDiff, Nat.reduceAdd, Nat.reduceSub, Nat.reduceLT, Nat.reduceLeDiff, Nat.reduceMul]
                  refine cnd_mk (fun ht => ?_) (fun ht => ?_)
                  · have ht' : tch Z r.toNat s j i = false := by simpa using ht
                    simp only [push_cast, ↓reduceIte, reduceCtorEq, Nat.reduceBEq, Nat.reduceEqDiff, Nat.reduceAdd, Nat.reduceSub, Nat.reduceLT, Nat.reduceLeDiff, Nat.reduceMul]
                    rw [wrap_id (by omega)]
                    refine ⟨⟨j + 1, L2, j, i, by omega, ?_, hL24, .inl ⟨hL20, rfl, rfl⟩⟩, by omega⟩
                    rw [hL2, show j + 1 - 1 = j by omega, hsn, ht']
                    simp
                  · have ht' : tch Z r.toNat s j i = true := by simpa using ht
                    simp only [Int.reduceToNat, push_cast, ↓reduceIte, reduceCtorEq, Nat.reduceBEq, Nat.reduceEqDiff, Nat.reduceAdd, Nat.reduceSub, Nat.reduceLT, Nat.reduceLeDiff, Nat.reduceMul]
                    repeat refine And.intro (by first | decide | omega) ?_
                    refine cnd_mk (fun hq => ?_) (fun hq => ?_)
                    · exact absurd hq (by decide)
                    · simp only [push_cast, ↓reduceIte, reduceCtorEq, Nat.reduceBEq, Nat.reduceEqDiff, Nat.reduceAdd, Nat.reduceSub, Nat.reduceLT, Nat.reduceLeDiff, Nat.reduceMul]
                      rw [wrap_id (by omega)]
                      refine ⟨⟨j + 1, [(j, i)], j, i, by omega, ?_, by simp, .inr ⟨by simp, rfl, rfl⟩⟩, by omega⟩
                      rw [show j + 1 - 1 = j by omega, hsn, ht', ← List.append_assoc, ← hL2, hL20]
                      rfl
                · have hjb : j = b + 1 := by simp at hc; omega
                  simp only [push_cast, ↓reduceIte, reduceCtorEq, Nat.reduceBEq, Nat.reduceEqDiff, Nat.reduceAdd, Nat.reduceSub, Nat.reduceLT, Nat.reduceLeDiff, Nat.reduceMul]
                  rw [show IntKind.i64.wrap (i + 1) = i + 1 from wrap_id (by omega)]
                  refine ⟨⟨i + 1, L2, X', Y', by omega, ?_, hL24, .inl ⟨hL20, rfl, rfl⟩⟩, by omega⟩
                  rw [hL2, show i + 1 - 1 = i by omega, rowsT_snoc _ (show c ≤ i by omega), show j - 1 = b by omega]
              · simp only [Int.reduceToNat, push_cast, ↓reduceIte, reduceCtorEq, Nat.reduceBEq, Nat.reduceEqDiff, Nat.reduceAdd, Nat.reduceSub, Nat.reduceLT, Nat.reduceLeDiff, Nat.reduceMul]
                refine ⟨by decide, cnd_mk (fun hc => ?_) (fun hc => ?_)⟩
                · have hjb : j ≤ b := by simpa using hc
                  have hti : tis ⟨z, j, i, r⟩ = true := htis i j (by omega) (by omega) (by omega) (by omega)
                  have hsn := rowT_snoc (tch Z r.toNat s) (k := i) (show a ≤ j by omega)
                  simp only [Int.reduceToNat, push_cast, ↓reduceIte, reduceCtorEq, Nat.reduceBEq, Nat.reduceEqDiff, Nat.reduceAdd, Nat.reduceSub, Nat.reduceLT, Nat.reduceLeDiff, Nat.reduceMul]
                  refine call_as (as' := [Til.v ⟨z, j, i, r⟩, cel r Z]) rfl ?_
                  refine call_mk (vtouches_t ⟨z, j, i, r⟩ hti Z r r0 hkc hb) rfl trivial ?_
                  dsimp only
                  rw [← hs]
                  simp only [push_cast, ↓reduceIte, reduceCtorEq, Nat.reduceBEq, Nat.reduceEqDiff, Nat.reduceAdd, Nat.reduceSub, Nat.reduceLT, Nat.reduceLeDiff, Nat.reduceMul]
                  refine cnd_mk (fun ht => ?_) (fun ht => ?_)
                  · have ht' : tch Z r.toNat s j i = false := by simpa using ht
                    simp only [push_cast, ↓reduceIte, reduceCtorEq, Nat.reduceBEq, Nat.reduceEqDiff, Nat.reduceAdd, Nat.reduceSub, Nat.reduceLT, Nat.reduceLeDiff, Nat.reduceMul]
                    rw [wrap_id (by omega)]
                    refine ⟨⟨j + 1, L2, j, i, by omega, ?_, hL24, .inr ⟨hL20, rfl, rfl⟩⟩, by omega⟩
                    rw [hL2, show j + 1 - 1 = j by omega, hsn, ht']
                    simp
                  · have ht' : tch Z r.toNat s j i = true := by simpa using ht
                    simp only [Int.reduceToNat, push_cast, ↓reduceIte, reduceCtorEq, Nat.reduceBEq, Nat.reduceEqDiff, Nat.reduceAdd, Nat.reduceSub, Nat.reduceLT, Nat.reduceLeDiff, Nat.reduceMul]
                    refine ⟨by decide, by omega, ?_⟩
                    refine cnd_mk (fun hq => ?_) (fun hq => ?_)
                    · have hq' : 10000 < L2.length + 1 := by simp at hq; omega
                      simp only [push_cast, ↓reduceIte, reduceCtorEq, Nat.reduceBEq, Nat.reduceEqDiff, Nat.reduceAdd, Nat.reduceSub, Nat.reduceLT, Nat.reduceLeDiff, Nat.reduceMul]
                      have hbig := rows_big (tch Z r.toNat s) (a := a) (show c ≤ i by omega) hid hjb
                      rw [hsn, ht', ← List.append_assoc, ← hL2] at hbig
                      simp only [if_true, List.length_append, List.length_singleton] at hbig
                      rw [hall]
                      simp only [tilsA, tilsO]
                      rw [if_pos (.inr (by omega)), if_pos (.inr (by omega))]
                      exact ⟨rfl, rfl⟩
                    · have hq' : L2.length + 1 ≤ 10000 := by simp at hq; omega
                      simp only [push_cast, ↓reduceIte, reduceCtorEq, Nat.reduceBEq, Nat.reduceEqDiff, Nat.reduceAdd, Nat.reduceSub, Nat.reduceLT, Nat.reduceLeDiff, Nat.reduceMul]
                      rw [show IntKind.i64.wrap (j + 1) = j + 1 from wrap_id (by omega), tils_snoc]
                      refine ⟨⟨j + 1, L2 ++ [(j, i)], j, i, by omega, ?_, by simp; omega, .inr ⟨by simp, by simp, rfl⟩⟩, by omega⟩
                      rw [show j + 1 - 1 = j by omega, hsn, ht', ← List.append_assoc, ← hL2]
                      rfl
                · have hjb : j = b + 1 := by simp at hc; omega
                  simp only [push_cast, ↓reduceIte, reduceCtorEq, Nat.reduceBEq, Nat.reduceEqDiff, Nat.reduceAdd, Nat.reduceSub, Nat.reduceLT, Nat.reduceLeDiff, Nat.reduceMul]
                  rw [show IntKind.i64.wrap (i + 1) = i + 1 from wrap_id (by omega)]
                  refine ⟨⟨i + 1, L2, X', Y', by omega, ?_, hL24, .inr ⟨hL20, rfl, rfl⟩⟩, by omega⟩
                  rw [hL2, show i + 1 - 1 = i by omega, rowsT_snoc _ (show c ≤ i by omega), show j - 1 = b by omega]
          · have hid : i = d + 1 := by simp at h; omega
            simp only [push_cast, ↓reduceIte, reduceCtorEq, Nat.reduceBEq, Nat.reduceEqDiff, Nat.reduceAdd, Nat.reduceSub, Nat.reduceLT, Nat.reduceLeDiff, Nat.reduceMul]
            rw [hall, ← show i - 1 = d by omega, ← hLr]
            have hl0 : L.length ≠ 0 := fun e => hL0 (List.length_eq_zero_iff.1 e)
            simp only [tilsA, tilsO]
            rw [if_neg (by omega), if_neg (by omega)]
            exact ⟨rfl, rfl⟩
end Go.Ev
