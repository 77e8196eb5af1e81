import Derived.Test.YtjpejkfhkbaakaaGeo5
namespace Go.Ev
open Go
set_option linter.unnecessarySimpa false
set_option linter.unusedSimpArgs false
set_option linter.unusedVariables false
noncomputable def cell_split_pc : PC :=
  (.seq (.reg [⟨(some 1), none, 0, .act (.box (.t 0))⟩,
    ⟨(some 2), none, 0, .act (.new [(.r (.v (.int .i64 0))), (.r (.v (.int .i64 0)))])⟩,
    ⟨(some 3), none, 0, .act (.new [(.r (.v (.int .i64 0))), (.r (.v (.int .i64 0)))])⟩])
  (.seq (.reg [⟨(some 11), none, 0, .see (.build [(.r (.v (.int .i64 0))), (.r (.v (.int .i64 0)))] [(0, 1, (.c (.r (.v (.int .i64 2))))), (1, 1, (.c (.r (.v (.int .i64 1)))))])⟩,
    ⟨(some 12), none, 1, .call 58 [(.t 11)]⟩,
    ⟨(some 10), none, 0, .see (.mov (.t 12))⟩,
    ⟨(some 13), none, 0, .see (.ext (.t 10) 0)⟩,
    ⟨(some 14), none, 0, .see (.ext (.t 10) 1)⟩,
    ⟨(some 4), none, 0, .act (.new [(.r (.v (.int .i64 0))), (.r (.v (.int .i64 0)))])⟩,
    ⟨none, none, 0, .act (.st 2 (.t 4) (.t 13))⟩,
    ⟨(some 5), none, 0, .see (.mov (.t 14))⟩])
  (.seq (.reg [⟨(some 16), none, 0, .see (.ld (some 2) (.t 1))⟩,
    ⟨(some 17), none, 0, .see (.ld (some 2) (.t 4))⟩,
    ⟨(some 18), none, 2, .call 59 [(.t 16), (.t 17)]⟩,
    ⟨(some 15), none, 0, .see (.mov (.t 18))⟩,
    ⟨(some 19), none, 0, .see (.ext (.t 15) 0)⟩,
    ⟨(some 20), none, 0, .see (.ext (.t 15) 1)⟩,
    ⟨(some 6), none, 0, .act (.new [(.r (.v (.int .i64 0))), (.r (.v (.int .i64 0)))])⟩,
    ⟨none, none, 0, .act (.st 2 (.t 6) (.t 19))⟩,
    ⟨(some 7), none, 0, .see (.mov (.t 20))⟩])
  (.seq (.reg [⟨(some 22), none, 0, .see (.ld (some 2) (.t 6))⟩,
    ⟨(some 23), none, 3, .call 60 [(.t 22), (.c (.r (.v (.int .i64 7))))]⟩,
    ⟨(some 21), none, 0, .see (.mov (.t 23))⟩,
    ⟨(some 24), none, 0, .see (.ext (.t 21) 0)⟩,
    ⟨(some 25), none, 0, .see (.ext (.t 21) 1)⟩,
    ⟨none, none, 0, .act (.st 2 (.t 2) (.t 24))⟩])
  (.seq (.reg [⟨(some 27), none, 0, .see (.ld (some 2) (.t 2))⟩,
    ⟨(some 28), none, 0, .see (.build [(.r (.v (.int .i64 0))), (.r (.v (.int .i64 0)))] [(0, 1, (.c (.r (.v (.int .i64 2))))), (1, 1, (.c (.r (.v (.int .i64 1)))))])⟩,
    ⟨(some 29), none, 4, .call 59 [(.t 27), (.t 28)]⟩,
    ⟨(some 26), none, 0, .see (.mov (.t 29))⟩,
    ⟨(some 30), none, 0, .see (.ext (.t 26) 0)⟩,
    ⟨(some 31), none, 0, .see (.ext (.t 26) 1)⟩,
    ⟨(some 8), none, 0, .act (.new [(.r (.v (.int .i64 0))), (.r (.v (.int .i64 0)))])⟩,
    ⟨none, none, 0, .act (.st 2 (.t 8) (.t 30))⟩,
    ⟨(some 9), none, 0, .see (.mov (.t 31))⟩])
  (.seq (.reg [⟨(some 33), none, 0, .see (.ld (some 2) (.t 1))⟩,
    ⟨(some 34), none, 0, .see (.ld (some 2) (.t 8))⟩,
    ⟨(some 35), none, 5, .call 97 [(.t 33), (.t 34)]⟩,
    ⟨(some 32), none, 0, .see (.mov (.t 35))⟩,
    ⟨(some 36), none, 0, .see (.ext (.t 32) 0)⟩,
    ⟨(some 37), none, 0, .see (.ext (.t 32) 1)⟩,
    ⟨none, none, 0, .act (.st 2 (.t 3) (.t 36))⟩])
  (.seq (.drw [⟨(some 38), none, 0, .see (.ld (some 2) (.t 2))⟩,
    ⟨(some 39), none, 0, .see (.ld (some 2) (.t 3))⟩,
    ⟨none, none, 0, .act (.st 2 (.t 2) (.t 38))⟩,
    ⟨none, none, 0, .act (.st 2 (.t 3) (.t 39))⟩]
    [[], [], [0], [0, 1, 2]])
  .ret)))))))
noncomputable abbrev cell_split_code : Code := (Go.Proofs.Try.f93.body).getD .skip
theorem cell_split_chk : chkC Go.Proofs.Try.prog 40 cell_split_code cell_split_pc = true := by kernel_rfl
theorem cell_split_triple {args : List AV} {po ro : List Ob} {res : AV} (hal : args.length = 1) (hpo : po.length ≤ 1000)
    (h : run Go.Proofs.Try.prog po.length (RetP po.length [(2, false, some (35, (some 2))), (3, false, some (35, (some 2)))] fun v os => v = res ∧ os = ro) [.c cell_split_pc] ⟨argE 0 args, ob0 po⟩) : Triple Go.Proofs.Try.prog 93 args po res ro :=
  triple_of_W (fn := Go.Proofs.Try.f93) (c := cell_split_code) (pc := cell_split_pc) (rs := [(2, false, some (35, (some 2))), (3, false, some (35, (some 2)))]) Go.Proofs.Try.func93 rfl (by decide) (by have := cell_split_chk; exact this) (by rw [hal]; decide) rfl (by kernel_rfl) (by kernel_rfl) (by decide) hpo (W_of_run h)

noncomputable def cell_shape_pc : PC :=
  (.seq (.reg [⟨(some 1), none, 0, .act (.box (.t 0))⟩,
    ⟨(some 2), none, 0, .see (.mov (.c (.r (.v (.bool false)))))⟩])
  (.seq (.reg [⟨(some 3), none, 0, .see (.fa 0 (.t 1))⟩,
    ⟨(some 4), none, 0, .see (.ld none (.t 3))⟩,
    ⟨(some 5), none, 0, .see (.bin .geq (.t 4) (.c (.r (.v (.int .i64 0)))))⟩,
    ⟨(some 6), none, 0, .see (.mov (.t 5))⟩,
    ⟨(some 7), (some (6, true)), 0, .see (.fa 0 (.t 1))⟩,
    ⟨(some 8), (some (6, true)), 0, .see (.ld none (.t 7))⟩,
    ⟨(some 9), (some (6, true)), 0, .see (.bin .leq (.t 8) (.c (.r (.v (.int .i64 12)))))⟩,
    ⟨(some 10), none, 0, .see (.pick (.t 6) (.t 9) (.c (.r (.v (.bool false)))))⟩,
    ⟨(some 11), none, 0, .see (.mov (.t 10))⟩,
    ⟨(some 12), (some (11, true)), 0, .see (.fa 1 (.t 1))⟩,
    ⟨(some 13), (some (11, true)), 0, .see (.fa 0 (.t 12))⟩,
    ⟨(some 14), (some (11, true)), 0, .see (.ld none (.t 13))⟩,
    ⟨(some 15), (some (11, true)), 1, .call 61 [(.t 14), (.c (.r (.v (.int .i64 1073741824))))]⟩,
    ⟨(some 16), none, 0, .see (.pick (.t 11) (.t 15) (.c (.r (.v (.bool false)))))⟩,
    ⟨(some 17), none, 0, .see (.mov (.t 16))⟩,
    ⟨(some 18), (some (17, true)), 0, .see (.fa 1 (.t 1))⟩,
    ⟨(some 19), (some (17, true)), 0, .see (.fa 1 (.t 18))⟩,
    ⟨(some 20), (some (17, true)), 0, .see (.ld none (.t 19))⟩,
    ⟨(some 21), (some (17, true)), 2, .call 61 [(.t 20), (.c (.r (.v (.int .i64 1073741824))))]⟩,
    ⟨(some 22), none, 0, .see (.pick (.t 17) (.t 21) (.c (.r (.v (.bool false)))))⟩,
    ⟨(some 2), none, 0, .see (.mov (.t 22))⟩])
  .ret))
noncomputable abbrev cell_shape_code : Code := (Go.Proofs.Try.f92.body).getD .skip
theorem cell_shape_chk : chkC Go.Proofs.Try.prog 23 cell_shape_code cell_shape_pc = true := by kernel_rfl
theorem cell_shape_triple {args : List AV} {po ro : List Ob} {res : AV} (hal : args.length = 1) (hpo : po.length ≤ 1000)
    (h : run Go.Proofs.Try.prog po.length (RetP po.length [(2, false, none)] fun v os => v = res ∧ os = ro) [.c cell_shape_pc] ⟨argE 0 args, ob0 po⟩) : Triple Go.Proofs.Try.prog 92 args po res ro :=
  triple_of_W (fn := Go.Proofs.Try.f92) (c := cell_shape_code) (pc := cell_shape_pc) (rs := [(2, false, none)]) Go.Proofs.Try.func92 rfl (by decide) (by have := cell_shape_chk; exact this) (by rw [hal]; decide) rfl (by kernel_rfl) (by kernel_rfl) (by decide) hpo (W_of_run h)

noncomputable def cell_digit_pc : PC :=
  (.seq (.reg [⟨(some 1), none, 0, .act (.box (.t 0))⟩,
    ⟨(some 2), none, 0, .see (.mov (.c (.r (.v (.int .i64 0)))))⟩])
  (.seq (.seq (.reg [⟨(some 4), none, 0, .see (.mov (.c (.r (.v (.int .i64 0)))))⟩])
  (.block 0 (.loop (.seq (.reg [⟨(some 5), none, 0, .see (.bin .lss (.t 4) (.c (.r (.v (.int .i64 6)))))⟩])
  (.seq (.cond (.t 5)
    .skip
    (.exit 0))
  (.seq (.block 1 (.seq (.reg [⟨(some 6), none, 0, .see (.mov (.t 4))⟩,
    ⟨(some 3), none, 0, .see (.mov (.t 6))⟩])
  (.seq (.drw [⟨(some 7), none, 0, .see (.mov (.t 3))⟩,
    ⟨(some 8), none, 1, .call 98 [(.t 7)]⟩,
    ⟨(some 9), none, 0, .see (.ld (some 2) (.t 1))⟩,
    ⟨(some 10), none, 0, .see (.eqa false [0, 0] (.t 8) (.t 9))⟩]
    [[], [0], [], [0, 1, 2]])
  (.cond (.t 10)
    (.seq (.reg [⟨(some 11), none, 0, .see (.mov (.t 3))⟩,
    ⟨(some 12), none, 0, .see (.bin .add (.t 11) (.c (.r (.v (.int .i64 1)))))⟩,
    ⟨(some 2), none, 0, .see (.mov (.t 12))⟩])
    .ret)
    .skip))))
  (.reg [⟨(some 13), none, 0, .see (.bin .add (.t 4) (.c (.r (.v (.int .i64 1)))))⟩,
    ⟨(some 4), none, 0, .see (.mov (.t 13))⟩])))))))
  (.seq (.reg [⟨(some 2), none, 0, .see (.mov (.c (.r (.v (.int .i64 0)))))⟩])
  .ret)))
noncomputable abbrev cell_digit_code : Code := (Go.Proofs.Try.f94.body).getD .skip
theorem cell_digit_chk : chkC Go.Proofs.Try.prog 14 cell_digit_code cell_digit_pc = true := by kernel_rfl
theorem cell_digit_triple {args : List AV} {po ro : List Ob} {res : AV} (hal : args.length = 1) (hpo : po.length ≤ 1000)
    (h : run Go.Proofs.Try.prog po.length (RetP po.length [(2, false, none)] fun v os => v = res ∧ os = ro) [.c cell_digit_pc] ⟨argE 0 args, ob0 po⟩) : Triple Go.Proofs.Try.prog 94 args po res ro :=
  triple_of_W (fn := Go.Proofs.Try.f94) (c := cell_digit_code) (pc := cell_digit_pc) (rs := [(2, false, none)]) Go.Proofs.Try.func94 rfl (by decide) (by have := cell_digit_chk; exact this) (by rw [hal]; decide) rfl (by kernel_rfl) (by kernel_rfl) (by decide) hpo (W_of_run h)

noncomputable def cell_Way_1_pc : PC :=
  (.seq (.reg [⟨(some 2), none, 0, .see (.mov (.c (.r (.v (.bool false)))))⟩])
  (.seq (.reg [⟨(some 3), none, 0, .see (.mov (.t 0))⟩,
    ⟨(some 4), none, 0, .see (.bin .geq (.t 3) (.c (.r (.v (.int .i64 (-512))))))⟩,
    ⟨(some 5), none, 0, .see (.mov (.t 4))⟩,
    ⟨(some 6), (some (5, true)), 0, .see (.mov (.t 0))⟩,
    ⟨(some 7), (some (5, true)), 0, .see (.bin .lss (.t 6) (.c (.r (.v (.int .i64 512)))))⟩,
    ⟨(some 8), none, 0, .see (.pick (.t 5) (.t 7) (.c (.r (.v (.bool false)))))⟩,
    ⟨(some 2), none, 0, .see (.mov (.t 8))⟩])
  .ret))
noncomputable abbrev cell_Way_1_code : Code := (Go.Proofs.Try.f95.body).getD .skip
theorem cell_Way_1_chk : chkC Go.Proofs.Try.prog 9 cell_Way_1_code cell_Way_1_pc = true := by kernel_rfl
theorem cell_Way_1_triple {args : List AV} {po ro : List Ob} {res : AV} (hal : args.length = 1) (hpo : po.length ≤ 1000)
    (h : run Go.Proofs.Try.prog po.length (RetP po.length [(2, false, none)] fun v os => v = res ∧ os = ro) [.c cell_Way_1_pc] ⟨argE 0 args, ob0 po⟩) : Triple Go.Proofs.Try.prog 95 args po res ro :=
  triple_of_W (fn := Go.Proofs.Try.f95) (c := cell_Way_1_code) (pc := cell_Way_1_pc) (rs := [(2, false, none)]) Go.Proofs.Try.func95 rfl (by decide) (by have := cell_Way_1_chk; exact this) (by rw [hal]; decide) rfl (by kernel_rfl) (by kernel_rfl) (by decide) hpo (W_of_run h)

noncomputable def cell_Way_pc : PC :=
  (.seq (.reg [⟨(some 1), none, 0, .act (.box (.t 0))⟩,
    ⟨(some 2), none, 0, .act (.new [(.r (.v (.int .i64 0))), (.r (.v (.int .i64 0)))])⟩,
    ⟨(some 3), none, 0, .act (.new [(.r (.v (.int .i64 0))), (.r (.v (.int .i64 0))), (.r (.v (.int .i64 0))), (.r (.v (.int .i64 0))), (.r (.v (.int .i64 0))), (.r (.v (.int .i64 0))), (.r (.v (.int .i64 0))), (.r (.v (.int .i64 0))), (.r (.v (.int .i64 0))), (.r (.v (.int .i64 0))), (.r (.v (.int .i64 0))), (.r (.v (.int .i64 0))), (.r (.v (.int .i64 0)))])⟩,
    ⟨(some 4), none, 0, .see (.mov (.c (.r (.v (.bool false)))))⟩])
  (.seq (.seq (.reg [⟨(some 10), none, 0, .see (.ld (some 3) (.t 1))⟩,
    ⟨(some 11), none, 1, .call 92 [(.t 10)]⟩,
    ⟨(some 12), none, 0, .see (.un .not (.t 11))⟩])
  (.cond (.t 12)
    (.seq (.drw [⟨(some 13), none, 0, .see (.ld (some 2) (.t 2))⟩,
    ⟨(some 14), none, 0, .see (.ld (some 13) (.t 3))⟩,
    ⟨none, none, 0, .act (.st 2 (.t 2) (.t 13))⟩,
    ⟨none, none, 0, .act (.st 13 (.t 3) (.t 14))⟩,
    ⟨(some 4), none, 0, .see (.mov (.c (.r (.v (.bool false)))))⟩]
    [[], [], [0], [0, 1, 2], [0, 1, 2, 3]])
    .ret)
    .skip))
  (.seq (.reg [⟨(some 15), none, 0, .see (.fa 1 (.t 1))⟩,
    ⟨(some 16), none, 0, .see (.ld (some 2) (.t 15))⟩,
    ⟨(some 5), none, 0, .act (.new [(.r (.v (.int .i64 0))), (.r (.v (.int .i64 0)))])⟩,
    ⟨none, none, 0, .act (.st 2 (.t 5) (.t 16))⟩])
  (.seq (.seq (.reg [⟨(some 17), none, 0, .see (.fa 0 (.t 1))⟩,
    ⟨(some 18), none, 0, .see (.ld none (.t 17))⟩,
    ⟨(some 6), none, 0, .see (.mov (.t 18))⟩])
  (.block 0 (.loop (.seq (.seq (.reg [⟨(some 19), none, 0, .see (.mov (.t 6))⟩,
    ⟨(some 20), none, 0, .see (.bin .gtr (.t 19) (.c (.r (.v (.int .i64 0)))))⟩])
  (.cond (.t 20)
    .skip
    (.exit 0)))
  (.seq (.block 1 (.seq (.reg [⟨(some 24), none, 0, .see (.ld (some 2) (.t 5))⟩,
    ⟨(some 25), none, 2, .call 93 [(.t 24)]⟩,
    ⟨(some 23), none, 0, .see (.mov (.t 25))⟩,
    ⟨(some 26), none, 0, .see (.ext (.t 23) 0)⟩,
    ⟨(some 27), none, 0, .see (.ext (.t 23) 1)⟩,
    ⟨(some 7), none, 0, .act (.new [(.r (.v (.int .i64 0))), (.r (.v (.int .i64 0)))])⟩,
    ⟨(some 8), none, 0, .act (.new [(.r (.v (.int .i64 0))), (.r (.v (.int .i64 0)))])⟩,
    ⟨none, none, 0, .act (.st 2 (.t 7) (.t 26))⟩,
    ⟨none, none, 0, .act (.st 2 (.t 8) (.t 27))⟩])
  (.drw [⟨(some 28), none, 0, .see (.mov (.t 6))⟩,
    ⟨(some 29), none, 0, .see (.ld (some 2) (.t 8))⟩,
    ⟨(some 30), none, 3, .call 94 [(.t 29)]⟩,
    ⟨(some 31), none, 0, .see (.ld (some 2) (.t 7))⟩,
    ⟨(some 32), none, 0, .see (.iaa 13 1 (.t 3) (.t 28))⟩,
    ⟨none, none, 0, .act (.st 1 (.t 32) (.t 30))⟩,
    ⟨none, none, 0, .act (.st 2 (.t 5) (.t 31))⟩]
    [[], [], [1], [], [0, 1, 2], [0, 1, 2, 4], [0, 1, 2, 3, 4, 5]])))
  (.reg [⟨(some 21), none, 0, .see (.mov (.t 6))⟩,
    ⟨(some 22), none, 0, .see (.bin .sub (.t 21) (.c (.r (.v (.int .i64 1)))))⟩,
    ⟨(some 6), none, 0, .see (.mov (.t 22))⟩]))))))
  (.seq (.reg [⟨(some 9), none, 0, .see (.mov (.c (.fn (.func 95) [])))⟩])
  (.seq (.drw [⟨(some 33), none, 0, .see (.ld (some 2) (.t 5))⟩,
    ⟨(some 34), none, 0, .see (.ld (some 13) (.t 3))⟩,
    ⟨(some 35), none, 0, .see (.mov (.t 9))⟩,
    ⟨(some 36), none, 0, .see (.fa 0 (.t 5))⟩,
    ⟨(some 37), none, 0, .see (.ld none (.t 36))⟩,
    ⟨(some 38), none, 4, .callv (.t 35) [(.t 37)]⟩,
    ⟨(some 39), none, 0, .see (.mov (.t 38))⟩,
    ⟨(some 40), (some (39, true)), 0, .see (.mov (.t 9))⟩,
    ⟨(some 41), (some (39, true)), 0, .see (.fa 1 (.t 5))⟩,
    ⟨(some 42), (some (39, true)), 0, .see (.ld none (.t 41))⟩,
    ⟨(some 43), (some (39, true)), 5, .callv (.t 40) [(.t 42)]⟩,
    ⟨(some 44), none, 0, .see (.pick (.t 39) (.t 43) (.c (.r (.v (.bool false)))))⟩,
    ⟨none, none, 0, .act (.st 2 (.t 2) (.t 33))⟩,
    ⟨none, none, 0, .act (.st 13 (.t 3) (.t 34))⟩,
    ⟨(some 4), none, 0, .see (.mov (.t 44))⟩]
    [[], [], [], [], [3], [2, 3, 4], [2, 3, 4, 5], [2, 3, 4, 5, 6], [2, 3, 4, 5, 6], [2, 3, 4, 5, 6, 8], [2, 3, 4, 5, 6, 7, 8, 9], [2, 3, 4, 5, 6, 7, 8, 9, 10], [0, 2, 3, 4, 5, 6, 7, 8, 9, 10], [0, 1, 2, 3, 4, 5, 6, 7, 8, 9, 10, 12], [0, 1, 2, 3, 4, 5, 6, 7, 8, 9, 10, 11, 12, 13]])
  .ret))))))
noncomputable abbrev cell_Way_code : Code := (Go.Proofs.Try.f89.body).getD .skip
theorem cell_Way_chk : chkC Go.Proofs.Try.prog 45 cell_Way_code cell_Way_pc = true := by kernel_rfl
theorem cell_Way_triple {args : List AV} {po ro : List Ob} {res : AV} (hal : args.length = 1) (hpo : po.length ≤ 1000)
    (h : run Go.Proofs.Try.prog po.length (RetP po.length [(2, false, some (35, (some 2))), (3, false, some (118, (some 13))), (4, false, none)] fun v os => v = res ∧ os = ro) [.c cell_Way_pc] ⟨argE 0 args, ob0 po⟩) : Triple Go.Proofs.Try.prog 89 args po res ro :=
  triple_of_W (fn := Go.Proofs.Try.f89) (c := cell_Way_code) (pc := cell_Way_pc) (rs := [(2, false, some (35, (some 2))), (3, false, some (118, (some 13))), (4, false, none)]) Go.Proofs.Try.func89 rfl (by decide) (by have := cell_Way_chk; exact this) (by rw [hal]; decide) rfl (by kernel_rfl) (by kernel_rfl) (by decide) hpo (W_of_run h)

noncomputable def cell_Ok_pc : PC :=
  (.seq (.reg [⟨(some 1), none, 0, .act (.box (.t 0))⟩,
    ⟨(some 2), none, 0, .see (.mov (.c (.r (.v (.bool false)))))⟩])
  (.seq (.reg [⟨(some 7), none, 0, .see (.ld (some 3) (.t 1))⟩,
    ⟨(some 8), none, 1, .call 89 [(.t 7)]⟩,
    ⟨(some 6), none, 0, .see (.mov (.t 8))⟩,
    ⟨(some 9), none, 0, .see (.ext (.t 6) 0)⟩,
    ⟨(some 10), none, 0, .see (.ext (.t 6) 1)⟩,
    ⟨(some 11), none, 0, .see (.ext (.t 6) 2)⟩,
    ⟨(some 3), none, 0, .act (.new [(.r (.v (.int .i64 0))), (.r (.v (.int .i64 0)))])⟩,
    ⟨(some 4), none, 0, .act (.new [(.r (.v (.int .i64 0))), (.r (.v (.int .i64 0))), (.r (.v (.int .i64 0))), (.r (.v (.int .i64 0))), (.r (.v (.int .i64 0))), (.r (.v (.int .i64 0))), (.r (.v (.int .i64 0))), (.r (.v (.int .i64 0))), (.r (.v (.int .i64 0))), (.r (.v (.int .i64 0))), (.r (.v (.int .i64 0))), (.r (.v (.int .i64 0))), (.r (.v (.int .i64 0)))])⟩,
    ⟨none, none, 0, .act (.st 2 (.t 3) (.t 9))⟩,
    ⟨none, none, 0, .act (.st 13 (.t 4) (.t 10))⟩,
    ⟨(some 5), none, 0, .see (.mov (.t 11))⟩])
  (.seq (.reg [⟨(some 12), none, 0, .see (.mov (.t 5))⟩,
    ⟨(some 2), none, 0, .see (.mov (.t 12))⟩])
  .ret)))
noncomputable abbrev cell_Ok_code : Code := (Go.Proofs.Try.f82.body).getD .skip
theorem cell_Ok_chk : chkC Go.Proofs.Try.prog 13 cell_Ok_code cell_Ok_pc = true := by kernel_rfl
theorem cell_Ok_triple {args : List AV} {po ro : List Ob} {res : AV} (hal : args.length = 1) (hpo : po.length ≤ 1000)
    (h : run Go.Proofs.Try.prog po.length (RetP po.length [(2, false, none)] fun v os => v = res ∧ os = ro) [.c cell_Ok_pc] ⟨argE 0 args, ob0 po⟩) : Triple Go.Proofs.Try.prog 82 args po res ro :=
  triple_of_W (fn := Go.Proofs.Try.f82) (c := cell_Ok_code) (pc := cell_Ok_pc) (rs := [(2, false, none)]) Go.Proofs.Try.func82 rfl (by decide) (by have := cell_Ok_chk; exact this) (by rw [hal]; decide) rfl (by kernel_rfl) (by kernel_rfl) (by decide) hpo (W_of_run h)

noncomputable def cell_Of_pc : PC :=
  (.seq (.reg [⟨(some 6), none, 0, .act (.new [(.r (.v (.int .i64 0))), (.r (.v (.int .i64 0))), (.r (.v (.int .i64 0)))])⟩,
    ⟨(some 7), none, 0, .see (.mov (.c (.r (.v (.int .i64 0)))))⟩])
  (.seq (.seq (.reg [⟨(some 10), none, 0, .see (.mov (.t 0))⟩,
    ⟨(some 11), none, 0, .see (.mov (.t 1))⟩,
    ⟨(some 12), none, 1, .call 19 [(.t 10), (.t 11)]⟩,
    ⟨(some 13), none, 0, .see (.un .not (.t 12))⟩])
  (.cond (.t 13)
    (.seq (.reg [⟨(some 14), none, 0, .see (.build [(.r (.v (.int .i64 0))), (.r (.v (.int .i64 0))), (.r (.v (.int .i64 0)))] [])⟩,
    ⟨none, none, 0, .act (.st 3 (.t 6) (.t 14))⟩,
    ⟨(some 7), none, 0, .see (.mov (.c (.r (.v (.int .i64 4)))))⟩])
    .ret)
    .skip))
  (.seq (.reg [⟨(some 16), none, 0, .see (.mov (.t 0))⟩,
    ⟨(some 17), none, 0, .see (.mov (.t 1))⟩,
    ⟨(some 18), none, 0, .see (.mov (.t 2))⟩,
    ⟨(some 19), none, 2, .call 37 [(.t 16), (.t 17), (.t 18)]⟩,
    ⟨(some 15), none, 0, .see (.mov (.t 19))⟩,
    ⟨(some 20), none, 0, .see (.ext (.t 15) 0)⟩,
    ⟨(some 21), none, 0, .see (.ext (.t 15) 1)⟩,
    ⟨(some 8), none, 0, .act (.new [(.r (.v (.int .i64 0))), (.r (.v (.int .i64 0)))])⟩,
    ⟨none, none, 0, .act (.st 2 (.t 8) (.t 20))⟩,
    ⟨(some 9), none, 0, .see (.mov (.t 21))⟩])
  (.seq (.seq (.reg [⟨(some 22), none, 0, .see (.mov (.t 9))⟩,
    ⟨(some 23), none, 0, .see (.un .not (.t 22))⟩])
  (.cond (.t 23)
    (.seq (.reg [⟨(some 24), none, 0, .see (.build [(.r (.v (.int .i64 0))), (.r (.v (.int .i64 0))), (.r (.v (.int .i64 0)))] [])⟩,
    ⟨none, none, 0, .act (.st 3 (.t 6) (.t 24))⟩,
    ⟨(some 7), none, 0, .see (.mov (.c (.r (.v (.int .i64 1)))))⟩])
    .ret)
    .skip))
  (.seq (.reg [⟨(some 25), none, 0, .see (.mov (.t 2))⟩,
    ⟨(some 26), none, 0, .see (.ld (some 2) (.t 8))⟩,
    ⟨(some 27), none, 0, .see (.build [(.r (.v (.int .i64 0))), (.r (.v (.int .i64 0))), (.r (.v (.int .i64 0)))] [(0, 1, (.t 25)), (1, 2, (.t 26))])⟩,
    ⟨none, none, 0, .act (.st 3 (.t 6) (.t 27))⟩,
    ⟨(some 7), none, 0, .see (.mov (.c (.r (.v (.int .i64 0)))))⟩])
  .ret)))))
noncomputable abbrev cell_Of_code : Code := (Go.Proofs.Try.f20.body).getD .skip
theorem cell_Of_chk : chkC Go.Proofs.Try.prog 28 cell_Of_code cell_Of_pc = true := by kernel_rfl
theorem cell_Of_triple {args : List AV} {po ro : List Ob} {res : AV} (hal : args.length = 3) (hpo : po.length ≤ 1000)
    (h : run Go.Proofs.Try.prog po.length (RetP po.length [(6, false, some (37, (some 3))), (7, false, none)] fun v os => v = res ∧ os = ro) [.c cell_Of_pc] ⟨argE 0 args, ob0 po⟩) : Triple Go.Proofs.Try.prog 20 args po res ro :=
  triple_of_W (fn := Go.Proofs.Try.f20) (c := cell_Of_code) (pc := cell_Of_pc) (rs := [(6, false, some (37, (some 3))), (7, false, none)]) Go.Proofs.Try.func20 rfl (by decide) (by have := cell_Of_chk; exact this) (by rw [hal]; decide) rfl (by kernel_rfl) (by kernel_rfl) (by decide) hpo (W_of_run h)

theorem pr_In {z : Ei} {n : Int} (h : z.In n) (h1 : 2 ≤ n) : (pr z).In n := by
  obtain ⟨l, _, g1, e1, f1⟩ := pr_spec z
  generalize pr z = q at *
  unfold Ei.H at g1
  unfold Ei.In at *
  omega
theorem anc_In {z : Ei} {n : Int} (k : Nat) (h : z.In n) (h1 : 2 ≤ n) : (anc k z).In n := by
  induction k generalizing z with
  | zero => exact h
  | succ k ih => exact ih (pr_In h h1)
theorem lft_In (z : Ei) : (lft z).In 1 := by
  obtain ⟨l, e, g1, _⟩ := pr_spec z
  rw [e]
  exact g1.in
set_option maxRecDepth 100000 in
theorem split_t (z : Ei) (h : z.In 1073741824) : Triple Go.Proofs.Try.prog 93 [z.v] [] (.tup [(pr z).v, (lft z).v]) [] := by
  refine cell_split_triple rfl (by decide) ?_
  simp only [cell_split_pc, Ei.v, Ei.rv, List.length_nil, push_cast, ↓reduceIte, reduceCtorEq, Nat.reduceBEq, Nat.reduceEqDiff, Nat.reduceAdd, Nat.reduceSub, Nat.reduceLT, Nat.reduceLeDiff, Nat.reduceMul]
  refine call_as (as' := [beta.v]) rfl ?_
  refine call_mk (econj_t beta (by unfold Ei.In; decide)) rfl trivial ?_
  simp only [Ei.v, Ei.rv, push_cast, ↓reduceIte, reduceCtorEq, Nat.reduceBEq, Nat.reduceEqDiff, Nat.reduceAdd, Nat.reduceSub, Nat.reduceLT, Nat.reduceLeDiff, Nat.reduceMul]
  have h1 : (z.mul ⟨3, -1⟩).In 9663676416 := (mul_In h (show (⟨3, -1⟩ : Ei).In 3 by unfold Ei.In; decide)).mono (by decide)
  refine call_as (as' := [z.v, Ei.v ⟨3, -1⟩]) rfl ?_
  refine call_mk (emul_t _ _ (h.mono (by decide)) (show (⟨3, -1⟩ : Ei).In _ by unfold Ei.In; decide) (h1.mono (by decide))) rfl trivial ?_
  simp only [Ei.v, Ei.rv, push_cast, ↓reduceIte, reduceCtorEq, Nat.reduceBEq, Nat.reduceEqDiff, Nat.reduceAdd, Nat.reduceSub, Nat.reduceLT, Nat.reduceLeDiff, Nat.reduceMul]
  refine call_as (as' := [(z.mul ⟨3, -1⟩).v, int .i64 7]) rfl ?_
  refine call_mk (eround_t _ 7 (h1.mono (by decide)) (by decide)) rfl trivial ?_
  rw [show (z.mul ⟨3, -1⟩).round 7 = pr z from rfl]
  have h2 : (pr z).In 1073741824 := pr_In h (by decide)
  have h3 : ((pr z).mul beta).In 6442450944 := (mul_In h2 (show beta.In 2 by unfold Ei.In; decide)).mono (by decide)
  simp only [Ei.v, Ei.rv, push_cast, ↓reduceIte, reduceCtorEq, Nat.reduceBEq, Nat.reduceEqDiff, Nat.reduceAdd, Nat.reduceSub, Nat.reduceLT, Nat.reduceLeDiff, Nat.reduceMul]
  refine call_as (as' := [(pr z).v, beta.v]) rfl ?_
  refine call_mk (emul_t _ _ (h2.mono (by decide)) (show beta.In _ by unfold Ei.In; decide) (h3.mono (by decide))) rfl trivial ?_
  simp only [Ei.v, Ei.rv, push_cast, ↓reduceIte, reduceCtorEq, Nat.reduceBEq, Nat.reduceEqDiff, Nat.reduceAdd, Nat.reduceSub, Nat.reduceLT, Nat.reduceLeDiff, Nat.reduceMul]
  refine call_as (as' := [z.v, ((pr z).mul beta).v]) rfl ?_
  refine call_mk (esub_t _ _ (h.mono (by decide)) (h3.mono (by decide)) ((lft_In z).mono (by decide))) rfl trivial ?_
  rw [show z.sub ((pr z).mul beta) = lft z from rfl]
  simp only [Ei.v, Ei.rv, push_cast, ↓reduceIte, reduceCtorEq, Nat.reduceBEq, Nat.reduceEqDiff, Nat.reduceAdd, Nat.reduceSub, Nat.reduceLT, Nat.reduceLeDiff, Nat.reduceMul]
  kernel_rfl
/-- A cell. -/
def cel (r : Int) (z : Ei) : AV := .r (.agg [.v (.int .i64 r), .v (.int .i64 z.a), .v (.int .i64 z.b)])
instance (z : Ei) (n : Int) : Decidable (z.In n) := inferInstanceAs (Decidable (_ ∧ _))
def shapeB (r : Int) (z : Ei) : Bool := decide ((0 ≤ r ∧ r ≤ 12) ∧ z.In 1073741824)
set_option maxRecDepth 100000 in
theorem shape_t (r : Int) (z : Ei) (hz : z.In M63) : Triple Go.Proofs.Try.prog 92 [cel r z] [] (bl (shapeB r z)) [] := by
  refine cell_shape_triple rfl (by decide) ?_
  simp only [cell_shape_pc, cel, List.length_nil, push_cast, ↓reduceIte, reduceCtorEq, Nat.reduceBEq, Nat.reduceEqDiff, Nat.reduceAdd, Nat.reduceSub, Nat.reduceLT, Nat.reduceLeDiff, Nat.reduceMul]
  by_cases h1 : 0 ≤ r
  · by_cases h2 : r ≤ 12
    · have g1 : decide (r ≥ 0) = true := by simp; omega
      have g2 : decide (r ≤ 12) = true := by simp; omega
      simp only [g1, g2, push_cast, ↓reduceIte, reduceCtorEq, Nat.reduceBEq, Nat.reduceEqDiff, Nat.reduceAdd, Nat.reduceSub, Nat.reduceLT, Nat.reduceLeDiff, Nat.reduceMul]
      refine call_mk (within_t _ _ hz.ok.1 (by decide)) rfl trivial ?_
      by_cases h3 : -1073741824 ≤ z.a ∧ z.a ≤ 1073741824
      · rw [decide_eq_true h3]
        simp only [push_cast, ↓reduceIte, reduceCtorEq, Nat.reduceBEq, Nat.reduceEqDiff, Nat.reduceAdd, Nat.reduceSub, Nat.reduceLT, Nat.reduceLeDiff, Nat.reduceMul]
        refine call_mk (within_t _ _ hz.ok.2 (by decide)) rfl trivial ?_
        simp only [push_cast, ↓reduceIte, reduceCtorEq, Nat.reduceBEq, Nat.reduceEqDiff, Nat.reduceAdd, Nat.reduceSub, Nat.reduceLT, Nat.reduceLeDiff, Nat.reduceMul]
        refine bl_iff ?_
        simp [shapeB, Ei.In, h1, h2, h3.1, h3.2]
      · rw [decide_eq_false h3]
        simp only [push_cast, ↓reduceIte, reduceCtorEq, Nat.reduceBEq, Nat.reduceEqDiff, Nat.reduceAdd, Nat.reduceSub, Nat.reduceLT, Nat.reduceLeDiff, Nat.reduceMul]
        have : shapeB r z = false := by simp only [shapeB, Ei.In]; exact decide_eq_false fun c => h3 c.2.1
        rw [this]
    · have g1 : decide (r ≥ 0) = true := by simp; omega
      have g2 : decide (r ≤ 12) = false := by simp; omega
      simp only [g1, g2, push_cast, ↓reduceIte, reduceCtorEq, Nat.reduceBEq, Nat.reduceEqDiff, Nat.reduceAdd, Nat.reduceSub, Nat.reduceLT, Nat.reduceLeDiff, Nat.reduceMul]
      have : shapeB r z = false := by simp only [shapeB, decide_eq_false_iff_not]; omega
      rw [this]
  · have g1 : decide (r ≥ 0) = false := by simp; omega
    simp only [g1, push_cast, ↓reduceIte, reduceCtorEq, Nat.reduceBEq, Nat.reduceEqDiff, Nat.reduceAdd, Nat.reduceSub, Nat.reduceLT, Nat.reduceLeDiff, Nat.reduceMul]
    have : shapeB r z = false := by simp only [shapeB, decide_eq_false_iff_not]; omega
    rw [this]
theorem dgOf_uni (i : Nat) (h : i < 6) : dgOf (uni i) = i + 1 := by
  rcases lt6 h with rfl | rfl | rfl | rfl | rfl | rfl <;> decide
theorem dgOf_no (l : Ei) (h : ∀ j : Nat, j < 6 → uni j ≠ l) : dgOf l = 0 := by
  have h0 := h 0 (by decide); have h1 := h 1 (by decide); have h2 := h 2 (by decide); have h3 := h 3 (by decide); have h4 := h 4 (by decide); have h5 := h 5 (by decide)
  unfold dgOf
  rw [if_neg (show ¬ l = ⟨1, 0⟩ from Ne.symm h0), if_neg (show ¬ l = ⟨0, 1⟩ from Ne.symm h1), if_neg (show ¬ l = ⟨-1, 1⟩ from Ne.symm h2), if_neg (show ¬ l = ⟨-1, 0⟩ from Ne.symm h3), if_neg (show ¬ l = ⟨0, -1⟩ from Ne.symm h4), if_neg (show ¬ l = ⟨1, -1⟩ from Ne.symm h5)]
set_option maxRecDepth 100000 in
theorem digit_t (l : Ei) : Triple Go.Proofs.Try.prog 94 [l.v] [] (int .i64 (dgOf l)) [] := by
  refine cell_digit_triple rfl (by decide) ?_
  simp only [cell_digit_pc, Ei.v, Ei.rv, List.length_nil, push_cast, ↓reduceIte, reduceCtorEq, Nat.reduceBEq, Nat.reduceEqDiff, Nat.reduceAdd, Nat.reduceSub, Nat.reduceLT, Nat.reduceLeDiff, Nat.reduceMul]
  refine run_loop [(4, false), (1, false)] (fun vs pos los => ∃ i : Int, (0 ≤ i ∧ i ≤ 6) ∧ (∀ j : Nat, (j : Int) < i → uni j ≠ l) ∧ vs = [int .i64 i, .ptr 2000000 0 0] ∧ pos = [] ∧ los = [.box [int .i64 l.a, int .i64 l.b]])
    (fun vs _ _ => match vs with | .r (.v (.int _ j)) :: _ => (6 - j).toNat | _ => 0) rfl ?_ ?_
  · simp only [push_cast, ↓reduceIte, reduceCtorEq, Nat.reduceBEq, Nat.reduceEqDiff, Nat.reduceAdd, Nat.reduceSub, Nat.reduceLT, Nat.reduceLeDiff, Nat.reduceMul]
    exact ⟨0, by omega, fun j hj => by omega, rfl⟩
  · rintro vs pos los ⟨i, i6, hj, rfl, rfl, rfl⟩
    simp only [push_cast, ↓reduceIte, reduceCtorEq, Nat.reduceBEq, Nat.reduceEqDiff, Nat.reduceAdd, Nat.reduceSub, Nat.reduceLT, Nat.reduceLeDiff, Nat.reduceMul]
    refine cnd_mk (fun h => ?_) (fun h => ?_)
    · simp only [decide_eq_true_eq] at h
      simp only [push_cast, ↓reduceIte, reduceCtorEq, Nat.reduceBEq, Nat.reduceEqDiff, Nat.reduceAdd, Nat.reduceSub, Nat.reduceLT, Nat.reduceLeDiff, Nat.reduceMul]
      refine dcall_mk (eunit_t i ⟨i6.1, h⟩) rfl trivial ?_
      simp only [Ei.v, Ei.rv, push_cast, ↓reduceIte, reduceCtorEq, Nat.reduceBEq, Nat.reduceEqDiff, Nat.reduceAdd, Nat.reduceSub, Nat.reduceLT, Nat.reduceLeDiff, Nat.reduceMul]
      refine ⟨by kernel_rfl, cnd_mk (fun h' => ?_) (fun h' => ?_)⟩
      · have e : uni i.toNat = l := by
          simp only [Bool.and_eq_true, beq_iff_eq] at h'
          exact Ei.ext' h'.1 h'.2
        simp only [push_cast, ↓reduceIte, reduceCtorEq, Nat.reduceBEq, Nat.reduceEqDiff, Nat.reduceAdd, Nat.reduceSub, Nat.reduceLT, Nat.reduceLeDiff, Nat.reduceMul]
        rw [← e, dgOf_uni _ (by omega), wrap_id (by omega), show ((i.toNat + 1 : Nat) : Int) = i + 1 by omega]
      · have e : uni i.toNat ≠ l := fun e => by rw [e] at h'; simp at h'
        simp only [push_cast, ↓reduceIte, reduceCtorEq, Nat.reduceBEq, Nat.reduceEqDiff, Nat.reduceAdd, Nat.reduceSub, Nat.reduceLT, Nat.reduceLeDiff, Nat.reduceMul]
        rw [wrap_id (by omega)]
        refine ⟨⟨i + 1, by omega, fun j hj' => ?_, rfl⟩, by omega⟩
        by_cases hji : (j : Int) = i
        · rw [show j = i.toNat by omega]; exact e
        · exact hj j (by omega)
    · have hi : i = 6 := by simp at h; omega
      subst hi
      simp only [push_cast, ↓reduceIte, reduceCtorEq, Nat.reduceBEq, Nat.reduceEqDiff, Nat.reduceAdd, Nat.reduceSub, Nat.reduceLT, Nat.reduceLeDiff, Nat.reduceMul]
      rw [dgOf_no l fun j h6 => hj j (by omega)]
      rfl
theorem in_t (n : Int) : Triple Go.Proofs.Try.prog 95 [int .i64 n] [] (bl (decide (-512 ≤ n ∧ n ≤ 511))) [] := by
  refine cell_Way_1_triple rfl (by decide) ?_
  simp only [cell_Way_1_pc, List.length_nil, push_cast, ↓reduceIte, reduceCtorEq, Nat.reduceBEq, Nat.reduceEqDiff, Nat.reduceAdd, Nat.reduceSub, Nat.reduceLT, Nat.reduceLeDiff, Nat.reduceMul]
  refine bl_iff ?_
  by_cases h1 : -512 ≤ n <;> by_cases h2 : n < 512 <;> simp [h1, h2] <;> omega
/-- The digits, from number i on. -/
def digs (r : Nat) (z : Ei) (i : Nat) : List AV := (List.range 13).map fun j => int .i64 (if i < j ∧ j ≤ r then (dg (anc (r - j) z) : Int) else 0)
theorem digs_len (r : Nat) (z : Ei) (i : Nat) : (digs r z i).length = 13 := by simp [digs]
theorem digs_zero (r : Nat) (z : Ei) : digs r z r = [int .i64 0, int .i64 0, int .i64 0, int .i64 0, int .i64 0, int .i64 0, int .i64 0, int .i64 0, int .i64 0, int .i64 0, int .i64 0, int .i64 0, int .i64 0] := by
  have : ∀ j, ¬ (r < j ∧ j ≤ r) := fun j => by omega
  simp only [digs, this, if_false]
  rfl
theorem digs_step (r : Nat) (z : Ei) (i : Nat) (h1 : 1 ≤ i) (h2 : i ≤ r) (hr : r ≤ 12) : splice (digs r z i) i [int .i64 (dg (anc (r - i) z))] = digs r z (i - 1) := by
  have hl := digs_len r z i
  apply List.ext_getElem
  · simp [splice, hl, digs_len]; omega
  · intro j j1 j2
    rw [digs_len] at j2
    have e : ∀ (k : Nat) (hk : k < (digs r z i).length), (digs r z i)[k] = int .i64 (if i < k ∧ k ≤ r then (dg (anc (r - k) z) : Int) else 0) := fun k hk => by simp [digs]
    have e' : ∀ (k : Nat) (hk : k < (digs r z (i - 1)).length), (digs r z (i - 1))[k] = int .i64 (if i - 1 < k ∧ k ≤ r then (dg (anc (r - k) z) : Int) else 0) := fun k hk => by simp [digs]
    rw [e']
    have hm : min i 13 = i := by omega
    simp only [splice, List.getElem_append, List.length_append, List.length_take, List.length_singleton, hl, List.getElem_take, List.getElem_drop, e, hm]
    by_cases c1 : j < i
    · rw [dif_pos (by omega), dif_pos c1, if_neg (by omega), if_neg (by omega)]
    · by_cases c2 : j = i
      · subst c2
        rw [dif_pos (by omega), dif_neg (by omega), if_pos (by omega)]
        simp
      · rw [dif_neg (by omega)]
        rw [show i + 1 + (j - (i + 1)) = j by omega]
        by_cases c3 : j ≤ r
        · rw [if_pos (by omega), if_pos (by omega)]
        · rw [if_neg (by omega), if_neg (by omega)]
theorem hidL_ints (f : Nat → Int) (l : List Nat) : hidL (l.map fun j => int .i64 (f j)) = [] := by
  induction l with
  | nil => rfl
  | cons a l ih => show hids _ ++ hidL _ = []; rw [ih]; rfl
theorem imL_ints (F : Ren) (f : Nat → Int) (l : List Nat) : imL F (l.map fun j => int .i64 (f j)) = l.map fun j => int .i64 (f j) := by
  induction l with
  | nil => rfl
  | cons a l ih => show imV F _ :: imL F _ = _; rw [ih]; rfl
theorem hidL_digs (r : Nat) (z : Ei) (i : Nat) : hidL (digs r z i) = [] := hidL_ints _ _
theorem imL_digs (F : Ren) (r : Nat) (z : Ei) (i : Nat) : imL F (digs r z i) = digs r z i := imL_ints F _ _
theorem take_digs (r : Nat) (z : Ei) (i : Nat) : List.take 13 (digs r z i) = digs r z i := List.take_of_length_le (by rw [digs_len]; exact Nat.le_refl _)
/-- The digits as values. -/
def digsR (r : Nat) (z : Ei) (i : Nat) : List RV := (List.range 13).map fun j => .v (.int .i64 (if i < j ∧ j ≤ r then (dg (anc (r - j) z) : Int) else 0))
theorem rvs_ints (ob : Obs) (f : Nat → Int) (l : List Nat) : rvs ob (l.map fun j => int .i64 (f j)) = some (l.map fun j => .v (.int .i64 (f j)), []) := by
  induction l with
  | nil => rfl
  | cons a l ih => show rvs ob (_ :: _) = _; simp only [rvs, AV.rv, ih]; rfl
theorem rvs_digs (ob : Obs) (r : Nat) (z : Ei) (i : Nat) : rvs ob (digs r z i) = some (digsR r z i, []) := rvs_ints ob _ _
theorem over_digs (r : Nat) (z : Ei) (i : Nat) : digs r z i ++ List.drop 13 (digs r z i) = digs r z i := by
  rw [List.drop_of_length_le (by rw [digs_len]; exact Nat.le_refl _), List.append_nil]
attribute [push_cast high] rvs_digs over_digs
attribute [push_cast high] hidL_digs imL_digs take_digs digs_len
theorem digs_put (r : Nat) (z : Ei) (i : Nat) (h1 : 1 ≤ i) (h2 : i ≤ r) (hr : r ≤ 12) : List.take (0 + i * 1) (digs r z i) ++ [int .i64 (dgOf (lft (anc (r - i) z)))] ++ List.drop (0 + i * 1 + 1) (digs r z i) = digs r z (i - 1) := by
  rw [← digs_step r z i h1 h2 hr, splice, Nat.mul_one, Nat.zero_add]
  rfl
def baseB (q : Ei) : Bool := decide ((-512 ≤ q.a ∧ q.a ≤ 511) ∧ (-512 ≤ q.b ∧ q.b ≤ 511))
set_option maxRecDepth 100000 in
theorem way_t (r : Int) (z : Ei) (h : shapeB r z = true) : Triple Go.Proofs.Try.prog 89 [cel r z] [] (.tup [(anc r.toNat z).v, .r (.agg (digsR r.toNat z 0)), bl (baseB (anc r.toNat z))]) [] := by
  refine cell_Way_triple rfl (by decide) ?_
  have h' := h
  simp only [shapeB, decide_eq_true_eq] at h'
  simp only [cell_Way_pc, cel, List.length_nil, push_cast, ↓reduceIte, reduceCtorEq, Nat.reduceBEq, Nat.reduceEqDiff, Nat.reduceAdd, Nat.reduceSub, Nat.reduceLT, Nat.reduceLeDiff, Nat.reduceMul]
  refine call_as (as' := [cel r z]) rfl ?_
  refine call_mk (shape_t r z (h'.2.mono (by decide))) rfl trivial ?_
  rw [h]
  simp only [push_cast, ↓reduceIte, reduceCtorEq, Nat.reduceBEq, Nat.reduceEqDiff, Nat.reduceAdd, Nat.reduceSub, Nat.reduceLT, Nat.reduceLeDiff, Nat.reduceMul]
  obtain ⟨⟨r0, r12⟩, hz⟩ := h'
  refine run_loop [(6, false), (5, false), (3, false), (2, false)] (fun vs pos los => ∃ i : Int, (0 ≤ i ∧ i ≤ r) ∧ vs = [int .i64 i, .ptr 2000000 0 0, .ptr 2000001 0 0, .ptr 2000002 0 0] ∧ pos = [] ∧ los = [.box [int .i64 (anc (r - i).toNat z).a, int .i64 (anc (r - i).toNat z).b], .box (digs r.toNat z i.toNat), .box [int .i64 0, int .i64 0]])
    (fun vs _ _ => match vs with | .r (.v (.int _ j)) :: _ => j.toNat | _ => 0) rfl ?_ ?_
  · simp only [push_cast, ↓reduceIte, reduceCtorEq, Nat.reduceBEq, Nat.reduceEqDiff, Nat.reduceAdd, Nat.reduceSub, Nat.reduceLT, Nat.reduceLeDiff, Nat.reduceMul]
    refine ⟨r, by omega, ?_⟩
    rw [digs_zero, Int.sub_self]
    exact ⟨rfl, rfl⟩
  · rintro vs pos los ⟨i, i6, rfl, rfl, rfl⟩
    simp only [push_cast, ↓reduceIte, reduceCtorEq, Nat.reduceBEq, Nat.reduceEqDiff, Nat.reduceAdd, Nat.reduceSub, Nat.reduceLT, Nat.reduceLeDiff, Nat.reduceMul]
    refine cnd_mk (fun h => ?_) (fun h => ?_)
    · simp only [decide_eq_true_eq] at h
      simp only [push_cast, ↓reduceIte, reduceCtorEq, Nat.reduceBEq, Nat.reduceEqDiff, Nat.reduceAdd, Nat.reduceSub, Nat.reduceLT, Nat.reduceLeDiff, Nat.reduceMul]
      have ha := anc_In (r - i).toNat hz (by decide)
      refine call_as (as' := [(anc (r - i).toNat z).v]) rfl ?_
      refine call_mk (split_t _ ha) rfl trivial ?_
      simp only [Ei.v, Ei.rv, push_cast, ↓reduceIte, reduceCtorEq, Nat.reduceBEq, Nat.reduceEqDiff, Nat.reduceAdd, Nat.reduceSub, Nat.reduceLT, Nat.reduceLeDiff, Nat.reduceMul]
      refine dcall_as (as' := [(lft (anc (r - i).toNat z)).v]) rfl ?_
      refine dcall_mk (digit_t _) rfl trivial ?_
      have hst := digs_put r.toNat z i.toNat (by omega) (by omega) (by omega)
      rw [show r.toNat - i.toNat = (r - i).toNat by omega] at hst
      have hpr : pr (anc (r - i).toNat z) = anc (r - (i - 1)).toNat z := by rw [← anc_succ, show (r - i).toNat + 1 = (r - (i - 1)).toNat by omega]
      simp only [Ei.v, Ei.rv, hst, push_cast, ↓reduceIte, reduceCtorEq, Nat.reduceBEq, Nat.reduceEqDiff, Nat.reduceAdd, Nat.reduceSub, Nat.reduceLT, Nat.reduceLeDiff, Nat.reduceMul]
      rw [show IntKind.i64.wrap (i - 1) = i - 1 from wrap_id (by omega), hpr]
      refine ⟨by omega, by omega, by kernel_rfl, ⟨i - 1, by omega, rfl, ?_⟩, by omega⟩
      rw [show (i - 1).toNat = i.toNat - 1 by omega]
    · have hi : i = 0 := by simp at h; omega
      subst hi
      have ha := anc_In r.toNat hz (by decide)
      simp only [push_cast, ↓reduceIte, reduceCtorEq, Nat.reduceBEq, Nat.reduceEqDiff, Nat.reduceAdd, Nat.reduceSub, Nat.reduceLT, Nat.reduceLeDiff, Nat.reduceMul]
      rw [show (r - 0).toNat = r.toNat by omega, show Int.toNat 0 = 0 from rfl]
      refine ⟨by kernel_rfl, ?_⟩
      refine dcall_mk (in_t _) rfl trivial ?_
      by_cases c : -512 ≤ (anc r.toNat z).a ∧ (anc r.toNat z).a ≤ 511
      · rw [decide_eq_true c]
        simp only [push_cast, ↓reduceIte, reduceCtorEq, Nat.reduceBEq, Nat.reduceEqDiff, Nat.reduceAdd, Nat.reduceSub, Nat.reduceLT, Nat.reduceLeDiff, Nat.reduceMul]
        refine ⟨by kernel_rfl, ?_⟩
        refine dcall_mk (in_t _) rfl trivial ?_
        simp only [Ei.v, Ei.rv, push_cast, ↓reduceIte, reduceCtorEq, Nat.reduceBEq, Nat.reduceEqDiff, Nat.reduceAdd, Nat.reduceSub, Nat.reduceLT, Nat.reduceLeDiff, Nat.reduceMul]
        refine ⟨by kernel_rfl, ?_⟩
        simp [baseB, c.1, c.2]
        kernel_rfl
      · rw [decide_eq_false c]
        simp only [Ei.v, Ei.rv, push_cast, ↓reduceIte, reduceCtorEq, Nat.reduceBEq, Nat.reduceEqDiff, Nat.reduceAdd, Nat.reduceSub, Nat.reduceLT, Nat.reduceLeDiff, Nat.reduceMul]
        refine ⟨by kernel_rfl, ?_⟩
        simp only [baseB, c, false_and, decide_false]
        exact ⟨by kernel_rfl, trivial⟩
def okB' (r : Int) (z : Ei) : Bool := shapeB r z && baseB (anc r.toNat z)
theorem okc_B {r : Int} {z : Ei} (h0 : 0 ≤ r) (h : okc r.toNat z) : shapeB r z = true ∧ baseB (anc r.toNat z) = true := by
  obtain ⟨h1, h2, h3, h4⟩ := h
  simp only [shapeB, baseB, decide_eq_true_eq]
  exact ⟨⟨⟨h0, by omega⟩, h2⟩, h3, h4⟩
set_option maxRecDepth 100000 in
theorem cok_t (r : Int) (z : Ei) (h0 : 0 ≤ r) (h : okc r.toNat z) : Triple Go.Proofs.Try.prog 82 [cel r z] [] (bl true) [] := by
  refine cell_Ok_triple rfl (by decide) ?_
  simp only [cell_Ok_pc, cel, List.length_nil, push_cast, ↓reduceIte, reduceCtorEq, Nat.reduceBEq, Nat.reduceEqDiff, Nat.reduceAdd, Nat.reduceSub, Nat.reduceLT, Nat.reduceLeDiff, Nat.reduceMul]
  refine call_as (as' := [cel r z]) rfl ?_
  refine call_mk (way_t r z (okc_B h0 h).1) rfl trivial ?_
  rw [(okc_B h0 h).2]
  simp only [Ei.v, Ei.rv, push_cast, ↓reduceIte, reduceCtorEq, Nat.reduceBEq, Nat.reduceEqDiff, Nat.reduceAdd, Nat.reduceSub, Nat.reduceLT, Nat.reduceLeDiff, Nat.reduceMul]
  refine ⟨by simp [digsR], ?_⟩
  simp only [digsR, List.map_map, List.all_map]
  rw [List.all_eq_true]
  intro x hx
  rfl
set_option maxRecDepth 100000 in
theorem cof_t (x y r : Int) (h : inW x y) (hr : 0 ≤ r ∧ r ≤ 12) : Triple Go.Proofs.Try.prog 20 [int .i64 x, int .i64 y, int .i64 r] [] (.tup [cel r (near x y r.toNat), int .i64 0]) [] := by
  refine cell_Of_triple rfl (by decide) ?_
  simp only [cell_Of_pc, cel, List.length_nil, push_cast, ↓reduceIte, reduceCtorEq, Nat.reduceBEq, Nat.reduceEqDiff, Nat.reduceAdd, Nat.reduceSub, Nat.reduceLT, Nat.reduceLeDiff, Nat.reduceMul]
  refine call_mk (pok_t x y) rfl trivial ?_
  rw [decide_eq_true h]
  simp only [push_cast, ↓reduceIte, reduceCtorEq, Nat.reduceBEq, Nat.reduceEqDiff, Nat.reduceAdd, Nat.reduceSub, Nat.reduceLT, Nat.reduceLeDiff, Nat.reduceMul]
  refine call_mk (near_t x y r h hr) rfl trivial ?_
  simp only [Ei.v, Ei.rv, push_cast, ↓reduceIte, reduceCtorEq, Nat.reduceBEq, Nat.reduceEqDiff, Nat.reduceAdd, Nat.reduceSub, Nat.reduceLT, Nat.reduceLeDiff, Nat.reduceMul]
end Go.Ev
