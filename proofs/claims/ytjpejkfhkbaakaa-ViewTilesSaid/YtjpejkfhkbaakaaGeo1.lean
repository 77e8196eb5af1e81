import Derived.Test.YtjpejkfhkbaakaaNum5
import Derived.Test.YtjpejkfhkbaakaaGeoB
namespace Go.Ev
open Go
set_option linter.unnecessarySimpa false
set_option linter.unusedSimpArgs false
set_option linter.unusedVariables false
noncomputable def eisen_times_pc : PC :=
  (.seq (.reg [⟨(some 4), none, 0, .act (.new [(.r (.v (.int .i64 0))), (.r (.v (.int .u64 0)))])⟩])
  (.seq (.reg [⟨(some 9), none, 0, .see (.mov (.t 0))⟩,
    ⟨(some 10), none, 0, .see (.conv .u64 (.t 9))⟩,
    ⟨(some 11), none, 0, .see (.mov (.t 1))⟩,
    ⟨(some 12), none, 0, .see (.conv .u64 (.t 11))⟩,
    ⟨(some 13), none, 1, .call 68 [(.t 10), (.t 12)]⟩,
    ⟨(some 8), none, 0, .see (.mov (.t 13))⟩,
    ⟨(some 14), none, 0, .see (.ext (.t 8) 0)⟩,
    ⟨(some 15), none, 0, .see (.ext (.t 8) 1)⟩,
    ⟨(some 5), none, 0, .see (.mov (.t 14))⟩,
    ⟨(some 6), none, 0, .see (.mov (.t 15))⟩])
  (.seq (.reg [⟨(some 16), none, 0, .see (.mov (.t 5))⟩,
    ⟨(some 17), none, 0, .see (.conv .i64 (.t 16))⟩,
    ⟨(some 7), none, 0, .see (.mov (.t 17))⟩])
  (.seq (.seq (.reg [⟨(some 18), none, 0, .see (.mov (.t 0))⟩,
    ⟨(some 19), none, 0, .see (.bin .lss (.t 18) (.c (.r (.v (.int .i64 0)))))⟩])
  (.cond (.t 19)
    (.reg [⟨(some 20), none, 0, .see (.mov (.t 7))⟩,
    ⟨(some 21), none, 0, .see (.mov (.t 1))⟩,
    ⟨(some 22), none, 0, .see (.bin .sub (.t 20) (.t 21))⟩,
    ⟨(some 7), none, 0, .see (.mov (.t 22))⟩])
    .skip))
  (.seq (.seq (.reg [⟨(some 23), none, 0, .see (.mov (.t 1))⟩,
    ⟨(some 24), none, 0, .see (.bin .lss (.t 23) (.c (.r (.v (.int .i64 0)))))⟩])
  (.cond (.t 24)
    (.reg [⟨(some 25), none, 0, .see (.mov (.t 7))⟩,
    ⟨(some 26), none, 0, .see (.mov (.t 0))⟩,
    ⟨(some 27), none, 0, .see (.bin .sub (.t 25) (.t 26))⟩,
    ⟨(some 7), none, 0, .see (.mov (.t 27))⟩])
    .skip))
  (.seq (.reg [⟨(some 28), none, 0, .see (.mov (.t 7))⟩,
    ⟨(some 29), none, 0, .see (.mov (.t 6))⟩,
    ⟨(some 30), none, 0, .see (.build [(.r (.v (.int .i64 0))), (.r (.v (.int .u64 0)))] [(0, 1, (.t 28)), (1, 1, (.t 29))])⟩,
    ⟨none, none, 0, .act (.st 2 (.t 4) (.t 30))⟩])
  .ret))))))
noncomputable abbrev eisen_times_code : Code := (Go.Proofs.Try.f76.body).getD .skip
theorem eisen_times_chk : chkC Go.Proofs.Try.prog 31 eisen_times_code eisen_times_pc = true := by kernel_rfl
theorem eisen_times_triple {args : List AV} {po ro : List Ob} {res : AV} (hal : args.length = 2) (hpo : po.length ≤ 1000)
    (h : run Go.Proofs.Try.prog po.length (RetP po.length [(4, false, some (108, (some 2)))] fun v os => v = res ∧ os = ro) [.c eisen_times_pc] ⟨argE 0 args, ob0 po⟩) : Triple Go.Proofs.Try.prog 76 args po res ro :=
  triple_of_W (fn := Go.Proofs.Try.f76) (c := eisen_times_code) (pc := eisen_times_pc) (rs := [(4, false, some (108, (some 2)))]) Go.Proofs.Try.func76 rfl (by decide) (by have := eisen_times_chk; exact this) (by rw [hal]; decide) rfl (by kernel_rfl) (by kernel_rfl) (by decide) hpo (W_of_run h)

noncomputable def eisen_wide_plus_pc : PC :=
  (.seq (.reg [⟨(some 2), none, 0, .act (.box (.t 0))⟩,
    ⟨(some 3), none, 0, .act (.box (.t 1))⟩,
    ⟨(some 4), none, 0, .act (.new [(.r (.v (.int .i64 0))), (.r (.v (.int .u64 0)))])⟩])
  (.seq (.reg [⟨(some 8), none, 0, .see (.fa 1 (.t 2))⟩,
    ⟨(some 9), none, 0, .see (.ld none (.t 8))⟩,
    ⟨(some 10), none, 0, .see (.fa 1 (.t 3))⟩,
    ⟨(some 11), none, 0, .see (.ld none (.t 10))⟩,
    ⟨(some 12), none, 0, .see (.carry false (.t 9) (.t 11) (.c (.r (.v (.int .u64 0)))))⟩,
    ⟨(some 7), none, 0, .see (.mov (.t 12))⟩,
    ⟨(some 13), none, 0, .see (.ext (.t 7) 0)⟩,
    ⟨(some 14), none, 0, .see (.ext (.t 7) 1)⟩,
    ⟨(some 5), none, 0, .see (.mov (.t 13))⟩,
    ⟨(some 6), none, 0, .see (.mov (.t 14))⟩])
  (.seq (.reg [⟨(some 15), none, 0, .see (.fa 0 (.t 2))⟩,
    ⟨(some 16), none, 0, .see (.ld none (.t 15))⟩,
    ⟨(some 17), none, 0, .see (.fa 0 (.t 3))⟩,
    ⟨(some 18), none, 0, .see (.ld none (.t 17))⟩,
    ⟨(some 19), none, 0, .see (.bin .add (.t 16) (.t 18))⟩,
    ⟨(some 20), none, 0, .see (.mov (.t 6))⟩,
    ⟨(some 21), none, 0, .see (.conv .i64 (.t 20))⟩,
    ⟨(some 22), none, 0, .see (.bin .add (.t 19) (.t 21))⟩,
    ⟨(some 23), none, 0, .see (.mov (.t 5))⟩,
    ⟨(some 24), none, 0, .see (.build [(.r (.v (.int .i64 0))), (.r (.v (.int .u64 0)))] [(0, 1, (.t 22)), (1, 1, (.t 23))])⟩,
    ⟨none, none, 0, .act (.st 2 (.t 4) (.t 24))⟩])
  .ret)))
noncomputable abbrev eisen_wide_plus_code : Code := (Go.Proofs.Try.f75.body).getD .skip
theorem eisen_wide_plus_chk : chkC Go.Proofs.Try.prog 25 eisen_wide_plus_code eisen_wide_plus_pc = true := by kernel_rfl
theorem eisen_wide_plus_triple {args : List AV} {po ro : List Ob} {res : AV} (hal : args.length = 2) (hpo : po.length ≤ 1000)
    (h : run Go.Proofs.Try.prog po.length (RetP po.length [(4, false, some (108, (some 2)))] fun v os => v = res ∧ os = ro) [.c eisen_wide_plus_pc] ⟨argE 0 args, ob0 po⟩) : Triple Go.Proofs.Try.prog 75 args po res ro :=
  triple_of_W (fn := Go.Proofs.Try.f75) (c := eisen_wide_plus_code) (pc := eisen_wide_plus_pc) (rs := [(4, false, some (108, (some 2)))]) Go.Proofs.Try.func75 rfl (by decide) (by have := eisen_wide_plus_chk; exact this) (by rw [hal]; decide) rfl (by kernel_rfl) (by kernel_rfl) (by decide) hpo (W_of_run h)

noncomputable def eisen_wide_minus_pc : PC :=
  (.seq (.reg [⟨(some 2), none, 0, .act (.box (.t 0))⟩,
    ⟨(some 3), none, 0, .act (.box (.t 1))⟩,
    ⟨(some 4), none, 0, .act (.new [(.r (.v (.int .i64 0))), (.r (.v (.int .u64 0)))])⟩])
  (.seq (.reg [⟨(some 8), none, 0, .see (.fa 1 (.t 2))⟩,
    ⟨(some 9), none, 0, .see (.ld none (.t 8))⟩,
    ⟨(some 10), none, 0, .see (.fa 1 (.t 3))⟩,
    ⟨(some 11), none, 0, .see (.ld none (.t 10))⟩,
    ⟨(some 12), none, 0, .see (.carry true (.t 9) (.t 11) (.c (.r (.v (.int .u64 0)))))⟩,
    ⟨(some 7), none, 0, .see (.mov (.t 12))⟩,
    ⟨(some 13), none, 0, .see (.ext (.t 7) 0)⟩,
    ⟨(some 14), none, 0, .see (.ext (.t 7) 1)⟩,
    ⟨(some 5), none, 0, .see (.mov (.t 13))⟩,
    ⟨(some 6), none, 0, .see (.mov (.t 14))⟩])
  (.seq (.reg [⟨(some 15), none, 0, .see (.fa 0 (.t 2))⟩,
    ⟨(some 16), none, 0, .see (.ld none (.t 15))⟩,
    ⟨(some 17), none, 0, .see (.fa 0 (.t 3))⟩,
    ⟨(some 18), none, 0, .see (.ld none (.t 17))⟩,
    ⟨(some 19), none, 0, .see (.bin .sub (.t 16) (.t 18))⟩,
    ⟨(some 20), none, 0, .see (.mov (.t 6))⟩,
    ⟨(some 21), none, 0, .see (.conv .i64 (.t 20))⟩,
    ⟨(some 22), none, 0, .see (.bin .sub (.t 19) (.t 21))⟩,
    ⟨(some 23), none, 0, .see (.mov (.t 5))⟩,
    ⟨(some 24), none, 0, .see (.build [(.r (.v (.int .i64 0))), (.r (.v (.int .u64 0)))] [(0, 1, (.t 22)), (1, 1, (.t 23))])⟩,
    ⟨none, none, 0, .act (.st 2 (.t 4) (.t 24))⟩])
  .ret)))
noncomputable abbrev eisen_wide_minus_code : Code := (Go.Proofs.Try.f77.body).getD .skip
theorem eisen_wide_minus_chk : chkC Go.Proofs.Try.prog 25 eisen_wide_minus_code eisen_wide_minus_pc = true := by kernel_rfl
theorem eisen_wide_minus_triple {args : List AV} {po ro : List Ob} {res : AV} (hal : args.length = 2) (hpo : po.length ≤ 1000)
    (h : run Go.Proofs.Try.prog po.length (RetP po.length [(4, false, some (108, (some 2)))] fun v os => v = res ∧ os = ro) [.c eisen_wide_minus_pc] ⟨argE 0 args, ob0 po⟩) : Triple Go.Proofs.Try.prog 77 args po res ro :=
  triple_of_W (fn := Go.Proofs.Try.f77) (c := eisen_wide_minus_code) (pc := eisen_wide_minus_pc) (rs := [(4, false, some (108, (some 2)))]) Go.Proofs.Try.func77 rfl (by decide) (by have := eisen_wide_minus_chk; exact this) (by rw [hal]; decide) rfl (by kernel_rfl) (by kernel_rfl) (by decide) hpo (W_of_run h)

noncomputable def eisen_wide_short_pc : PC :=
  (.seq (.reg [⟨(some 1), none, 0, .act (.box (.t 0))⟩,
    ⟨(some 2), none, 0, .see (.mov (.c (.r (.v (.int .i64 0)))))⟩,
    ⟨(some 3), none, 0, .see (.mov (.c (.r (.v (.bool false)))))⟩])
  (.seq (.reg [⟨(some 5), none, 0, .see (.fa 1 (.t 1))⟩,
    ⟨(some 6), none, 0, .see (.ld none (.t 5))⟩,
    ⟨(some 7), none, 0, .see (.conv .i64 (.t 6))⟩,
    ⟨(some 4), none, 0, .see (.mov (.t 7))⟩])
  (.seq (.seq (.reg [⟨(some 8), none, 0, .see (.mov (.t 4))⟩,
    ⟨(some 9), none, 0, .see (.bin .lss (.t 8) (.c (.r (.v (.int .i64 0)))))⟩,
    ⟨(some 10), none, 0, .see (.mov (.t 9))⟩,
    ⟨(some 11), (some (10, true)), 0, .see (.fa 0 (.t 1))⟩,
    ⟨(some 12), (some (10, true)), 0, .see (.ld none (.t 11))⟩,
    ⟨(some 13), (some (10, true)), 0, .see (.bin .eql (.t 12) (.c (.r (.v (.int .i64 (-1))))))⟩,
    ⟨(some 14), none, 0, .see (.pick (.t 10) (.t 13) (.c (.r (.v (.bool false)))))⟩,
    ⟨(some 15), none, 0, .see (.mov (.t 14))⟩,
    ⟨(some 16), (some (15, false)), 0, .see (.mov (.t 4))⟩,
    ⟨(some 17), (some (15, false)), 0, .see (.bin .geq (.t 16) (.c (.r (.v (.int .i64 0)))))⟩,
    ⟨(some 18), (some (15, false)), 0, .see (.mov (.t 17))⟩,
    ⟨(some 19), (some (18, true)), 0, .see (.fa 0 (.t 1))⟩,
    ⟨(some 20), (some (18, true)), 0, .see (.ld none (.t 19))⟩,
    ⟨(some 21), (some (18, true)), 0, .see (.bin .eql (.t 20) (.c (.r (.v (.int .i64 0)))))⟩,
    ⟨(some 22), (some (15, false)), 0, .see (.pick (.t 18) (.t 21) (.c (.r (.v (.bool false)))))⟩,
    ⟨(some 23), none, 0, .see (.pick (.t 15) (.c (.r (.v (.bool true)))) (.t 22))⟩])
  (.cond (.t 23)
    (.seq (.reg [⟨(some 24), none, 0, .see (.mov (.t 4))⟩,
    ⟨(some 2), none, 0, .see (.mov (.t 24))⟩,
    ⟨(some 3), none, 0, .see (.mov (.c (.r (.v (.bool true)))))⟩])
    .ret)
    .skip))
  (.seq (.reg [⟨(some 2), none, 0, .see (.mov (.c (.r (.v (.int .i64 0)))))⟩,
    ⟨(some 3), none, 0, .see (.mov (.c (.r (.v (.bool false)))))⟩])
  .ret))))
noncomputable abbrev eisen_wide_short_code : Code := (Go.Proofs.Try.f78.body).getD .skip
theorem eisen_wide_short_chk : chkC Go.Proofs.Try.prog 25 eisen_wide_short_code eisen_wide_short_pc = true := by kernel_rfl
theorem eisen_wide_short_triple {args : List AV} {po ro : List Ob} {res : AV} (hal : args.length = 1) (hpo : po.length ≤ 1000)
    (h : run Go.Proofs.Try.prog po.length (RetP po.length [(2, false, none), (3, false, none)] fun v os => v = res ∧ os = ro) [.c eisen_wide_short_pc] ⟨argE 0 args, ob0 po⟩) : Triple Go.Proofs.Try.prog 78 args po res ro :=
  triple_of_W (fn := Go.Proofs.Try.f78) (c := eisen_wide_short_code) (pc := eisen_wide_short_pc) (rs := [(2, false, none), (3, false, none)]) Go.Proofs.Try.func78 rfl (by decide) (by have := eisen_wide_short_chk; exact this) (by rw [hal]; decide) rfl (by kernel_rfl) (by kernel_rfl) (by decide) hpo (W_of_run h)

noncomputable def eisen_both_pc : PC :=
  (.seq (.reg [⟨(some 8), none, 0, .act (.new [(.r (.v (.int .i64 0))), (.r (.v (.int .i64 0)))])⟩,
    ⟨(some 9), none, 0, .see (.mov (.c (.r (.v (.bool false)))))⟩])
  (.seq (.seq (.reg [⟨(some 10), none, 0, .see (.mov (.t 1))⟩,
    ⟨(some 11), none, 0, .see (.un .not (.t 10))⟩,
    ⟨(some 12), none, 0, .see (.mov (.t 11))⟩,
    ⟨(some 13), (some (12, false)), 0, .see (.mov (.t 3))⟩,
    ⟨(some 14), (some (12, false)), 0, .see (.un .not (.t 13))⟩,
    ⟨(some 15), none, 0, .see (.pick (.t 12) (.c (.r (.v (.bool true)))) (.t 14))⟩])
  (.cond (.t 15)
    (.seq (.reg [⟨(some 16), none, 0, .see (.build [(.r (.v (.int .i64 0))), (.r (.v (.int .i64 0)))] [])⟩,
    ⟨none, none, 0, .act (.st 2 (.t 8) (.t 16))⟩,
    ⟨(some 9), none, 0, .see (.mov (.c (.r (.v (.bool false)))))⟩])
    .ret)
    .skip))
  (.seq (.reg [⟨(some 17), none, 0, .see (.mov (.t 0))⟩,
    ⟨(some 18), none, 0, .see (.mov (.t 2))⟩,
    ⟨(some 19), none, 0, .see (.build [(.r (.v (.int .i64 0))), (.r (.v (.int .i64 0)))] [(0, 1, (.t 17)), (1, 1, (.t 18))])⟩,
    ⟨none, none, 0, .act (.st 2 (.t 8) (.t 19))⟩,
    ⟨(some 9), none, 0, .see (.mov (.c (.r (.v (.bool true)))))⟩])
  .ret)))
noncomputable abbrev eisen_both_code : Code := (Go.Proofs.Try.f74.body).getD .skip
theorem eisen_both_chk : chkC Go.Proofs.Try.prog 20 eisen_both_code eisen_both_pc = true := by kernel_rfl
theorem eisen_both_triple {args : List AV} {po ro : List Ob} {res : AV} (hal : args.length = 4) (hpo : po.length ≤ 1000)
    (h : run Go.Proofs.Try.prog po.length (RetP po.length [(8, false, some (35, (some 2))), (9, false, none)] fun v os => v = res ∧ os = ro) [.c eisen_both_pc] ⟨argE 0 args, ob0 po⟩) : Triple Go.Proofs.Try.prog 74 args po res ro :=
  triple_of_W (fn := Go.Proofs.Try.f74) (c := eisen_both_code) (pc := eisen_both_pc) (rs := [(8, false, some (35, (some 2))), (9, false, none)]) Go.Proofs.Try.func74 rfl (by decide) (by have := eisen_both_chk; exact this) (by rw [hal]; decide) rfl (by kernel_rfl) (by kernel_rfl) (by decide) hpo (W_of_run h)

noncomputable def eisen_Mul_pc : PC :=
  (.seq (.reg [⟨(some 2), none, 0, .act (.box (.t 0))⟩,
    ⟨(some 3), none, 0, .act (.box (.t 1))⟩,
    ⟨(some 4), none, 0, .act (.new [(.r (.v (.int .i64 0))), (.r (.v (.int .i64 0)))])⟩,
    ⟨(some 5), none, 0, .see (.mov (.c (.r (.v (.bool false)))))⟩])
  (.seq (.reg [⟨(some 6), none, 0, .see (.mov (.c (.fn (.func 75) [])))⟩])
  (.seq (.reg [⟨(some 12), none, 0, .see (.fa 1 (.t 2))⟩,
    ⟨(some 13), none, 0, .see (.ld none (.t 12))⟩,
    ⟨(some 14), none, 0, .see (.fa 1 (.t 3))⟩,
    ⟨(some 15), none, 0, .see (.ld none (.t 14))⟩,
    ⟨(some 16), none, 1, .call 76 [(.t 13), (.t 15)]⟩,
    ⟨(some 7), none, 0, .act (.new [(.r (.v (.int .i64 0))), (.r (.v (.int .u64 0)))])⟩,
    ⟨none, none, 0, .act (.st 2 (.t 7) (.t 16))⟩])
  (.seq (.drw [⟨(some 18), none, 0, .see (.fa 0 (.t 2))⟩,
    ⟨(some 19), none, 0, .see (.ld none (.t 18))⟩,
    ⟨(some 20), none, 0, .see (.fa 0 (.t 3))⟩,
    ⟨(some 21), none, 0, .see (.ld none (.t 20))⟩,
    ⟨(some 22), none, 2, .call 76 [(.t 19), (.t 21)]⟩,
    ⟨(some 23), none, 0, .see (.ld (some 2) (.t 7))⟩,
    ⟨(some 24), none, 3, .call 77 [(.t 22), (.t 23)]⟩,
    ⟨(some 25), none, 4, .call 78 [(.t 24)]⟩,
    ⟨(some 17), none, 0, .see (.mov (.t 25))⟩,
    ⟨(some 26), none, 0, .see (.ext (.t 17) 0)⟩,
    ⟨(some 27), none, 0, .see (.ext (.t 17) 1)⟩,
    ⟨(some 8), none, 0, .see (.mov (.t 26))⟩,
    ⟨(some 9), none, 0, .see (.mov (.t 27))⟩]
    [[], [0], [], [2], [0, 1, 2, 3], [], [0, 1, 2, 3, 4, 5], [0, 1, 2, 3, 4, 5, 6], [0, 1, 2, 3, 4, 5, 6, 7], [0, 1, 2, 3, 4, 5, 6, 7, 8], [0, 1, 2, 3, 4, 5, 6, 7, 8], [0, 1, 2, 3, 4, 5, 6, 7, 8, 9], [0, 1, 2, 3, 4, 5, 6, 7, 8, 9, 10, 11]])
  (.seq (.drw [⟨(some 29), none, 0, .see (.mov (.t 6))⟩,
    ⟨(some 30), none, 0, .see (.mov (.t 6))⟩,
    ⟨(some 31), none, 0, .see (.fa 0 (.t 2))⟩,
    ⟨(some 32), none, 0, .see (.ld none (.t 31))⟩,
    ⟨(some 33), none, 0, .see (.fa 1 (.t 3))⟩,
    ⟨(some 34), none, 0, .see (.ld none (.t 33))⟩,
    ⟨(some 35), none, 5, .call 76 [(.t 32), (.t 34)]⟩,
    ⟨(some 36), none, 0, .see (.fa 1 (.t 2))⟩,
    ⟨(some 37), none, 0, .see (.ld none (.t 36))⟩,
    ⟨(some 38), none, 0, .see (.fa 0 (.t 3))⟩,
    ⟨(some 39), none, 0, .see (.ld none (.t 38))⟩,
    ⟨(some 40), none, 6, .call 76 [(.t 37), (.t 39)]⟩,
    ⟨(some 41), none, 7, .callv (.t 30) [(.t 35), (.t 40)]⟩,
    ⟨(some 42), none, 0, .see (.ld (some 2) (.t 7))⟩,
    ⟨(some 43), none, 8, .callv (.t 29) [(.t 41), (.t 42)]⟩,
    ⟨(some 44), none, 9, .call 78 [(.t 43)]⟩,
    ⟨(some 28), none, 0, .see (.mov (.t 44))⟩,
    ⟨(some 45), none, 0, .see (.ext (.t 28) 0)⟩,
    ⟨(some 46), none, 0, .see (.ext (.t 28) 1)⟩,
    ⟨(some 10), none, 0, .see (.mov (.t 45))⟩,
    ⟨(some 11), none, 0, .see (.mov (.t 46))⟩]
    [[], [], [], [2], [], [4], [2, 3, 4, 5], [], [7], [], [9], [2, 3, 4, 5, 6, 7, 8, 9, 10], [1, 2, 3, 4, 5, 6, 7, 8, 9, 10, 11], [], [0, 1, 2, 3, 4, 5, 6, 7, 8, 9, 10, 11, 12, 13], [0, 1, 2, 3, 4, 5, 6, 7, 8, 9, 10, 11, 12, 13, 14], [0, 1, 2, 3, 4, 5, 6, 7, 8, 9, 10, 11, 12, 13, 14, 15], [0, 1, 2, 3, 4, 5, 6, 7, 8, 9, 10, 11, 12, 13, 14, 15, 16], [0, 1, 2, 3, 4, 5, 6, 7, 8, 9, 10, 11, 12, 13, 14, 15, 16], [0, 1, 2, 3, 4, 5, 6, 7, 8, 9, 10, 11, 12, 13, 14, 15, 16, 17], [0, 1, 2, 3, 4, 5, 6, 7, 8, 9, 10, 11, 12, 13, 14, 15, 16, 17, 18, 19]])
  (.seq (.reg [⟨(some 47), none, 0, .see (.mov (.t 8))⟩,
    ⟨(some 48), none, 0, .see (.mov (.t 9))⟩,
    ⟨(some 49), none, 0, .see (.mov (.t 10))⟩,
    ⟨(some 50), none, 0, .see (.mov (.t 11))⟩,
    ⟨(some 51), none, 10, .call 74 [(.t 47), (.t 48), (.t 49), (.t 50)]⟩,
    ⟨(some 52), none, 0, .see (.ext (.t 51) 0)⟩,
    ⟨(some 53), none, 0, .see (.ext (.t 51) 1)⟩,
    ⟨none, none, 0, .act (.st 2 (.t 4) (.t 52))⟩,
    ⟨(some 5), none, 0, .see (.mov (.t 53))⟩])
  .ret))))))
noncomputable abbrev eisen_Mul_code : Code := (Go.Proofs.Try.f59.body).getD .skip
theorem eisen_Mul_chk : chkC Go.Proofs.Try.prog 54 eisen_Mul_code eisen_Mul_pc = true := by kernel_rfl
theorem eisen_Mul_triple {args : List AV} {po ro : List Ob} {res : AV} (hal : args.length = 2) (hpo : po.length ≤ 1000)
    (h : run Go.Proofs.Try.prog po.length (RetP po.length [(4, false, some (35, (some 2))), (5, false, none)] fun v os => v = res ∧ os = ro) [.c eisen_Mul_pc] ⟨argE 0 args, ob0 po⟩) : Triple Go.Proofs.Try.prog 59 args po res ro :=
  triple_of_W (fn := Go.Proofs.Try.f59) (c := eisen_Mul_code) (pc := eisen_Mul_pc) (rs := [(4, false, some (35, (some 2))), (5, false, none)]) Go.Proofs.Try.func59 rfl (by decide) (by have := eisen_Mul_chk; exact this) (by rw [hal]; decide) rfl (by kernel_rfl) (by kernel_rfl) (by decide) hpo (W_of_run h)

/-- A number of 128 bits, as the program has it. -/
def wid (x : Int) : AV := .r (.agg [.v (.int .i64 (IntKind.i64.wrap (x / 18446744073709551616))), .v (.int .u64 (x % 18446744073709551616))])
theorem wid_eq {x a b : Int} (h1 : a = IntKind.i64.wrap (x / 18446744073709551616)) (h2 : b = x % 18446744073709551616) : AV.r (.agg [.v (.int .i64 a), .v (.int .u64 b)]) = wid x := by rw [h1, h2]; rfl
set_option maxRecDepth 100000 in
theorem wplus_t (a b : Int) : Triple Go.Proofs.Try.prog 75 [wid a, wid b] [] (wid (a + b)) [] := by
  refine eisen_wide_plus_triple rfl (by decide) ?_
  simp only [eisen_wide_plus_pc, wid, List.length_nil, push_cast, ↓reduceIte, reduceCtorEq, Nat.reduceBEq, Nat.reduceEqDiff, Nat.reduceAdd, Nat.reduceSub, Nat.reduceLT, Nat.reduceLeDiff, Nat.reduceMul]
  refine ⟨by omega, wid_eq ?_ ?_⟩
  · simp only [IntKind.wrap_i64]; omega
  · omega
set_option maxRecDepth 100000 in
theorem wminus_t (a b : Int) : Triple Go.Proofs.Try.prog 77 [wid a, wid b] [] (wid (a - b)) [] := by
  refine eisen_wide_minus_triple rfl (by decide) ?_
  simp only [eisen_wide_minus_pc, wid, List.length_nil, push_cast, ↓reduceIte, reduceCtorEq, Nat.reduceBEq, Nat.reduceEqDiff, Nat.reduceAdd, Nat.reduceSub, Nat.reduceLT, Nat.reduceLeDiff, Nat.reduceMul]
  refine ⟨by omega, wid_eq ?_ ?_⟩
  · simp only [IntKind.wrap_i64]; omega
  · omega
set_option maxRecDepth 100000 in
theorem wshort_t (a : Int) (h : -170141183460469231731687303715884105728 ≤ a ∧ a < 170141183460469231731687303715884105728) : Triple Go.Proofs.Try.prog 78 [wid a] [] (sm a) [] := by
  refine eisen_wide_short_triple rfl (by decide) ?_
  simp only [eisen_wide_short_pc, wid, List.length_nil, push_cast, ↓reduceIte, reduceCtorEq, Nat.reduceBEq, Nat.reduceEqDiff, Nat.reduceAdd, Nat.reduceSub, Nat.reduceLT, Nat.reduceLeDiff, Nat.reduceMul]
  rw [IntKind.wrap_i64, IntKind.wrap_i64]
  have hn : in64 a → (a % 18446744073709551616 + 9223372036854775808) % 18446744073709551616 - 9223372036854775808 = a := by unfold in64; omega
  have hh : (a / 18446744073709551616 + 9223372036854775808) % 18446744073709551616 - 9223372036854775808 = a / 18446744073709551616 := by omega
  rw [hh]
  have h0 : a / 18446744073709551616 = 0 → (a % 18446744073709551616 + 9223372036854775808) % 18446744073709551616 - 9223372036854775808 ≥ 0 → in64 a := by unfold in64; omega
  have h1 : a / 18446744073709551616 = -1 → (a % 18446744073709551616 + 9223372036854775808) % 18446744073709551616 - 9223372036854775808 < 0 → in64 a := by unfold in64; omega
  have h2 : in64 a → (a / 18446744073709551616 = 0 ∧ (a % 18446744073709551616 + 9223372036854775808) % 18446744073709551616 - 9223372036854775808 ≥ 0) ∨ (a / 18446744073709551616 = -1 ∧ (a % 18446744073709551616 + 9223372036854775808) % 18446744073709551616 - 9223372036854775808 < 0) := by unfold in64; omega
  generalize a / 18446744073709551616 = q at *
  generalize (a % 18446744073709551616 + 9223372036854775808) % 18446744073709551616 - 9223372036854775808 = n at *
  refine ⟨by simp +contextual, by simp +contextual; omega, cnd_mk (fun hc => ?_) (fun hc => ?_)⟩
  · simp only [push_cast, ↓reduceIte, reduceCtorEq, Nat.reduceBEq, Nat.reduceEqDiff, Nat.reduceAdd, Nat.reduceSub, Nat.reduceLT, Nat.reduceLeDiff, Nat.reduceMul]
    have hy : in64 a := by
      by_cases c1 : n < 0
      · by_cases c2 : q = -1
        · exact h1 c2 c1
        · simp [c1, c2] at hc; omega
      · by_cases c2 : q = 0
        · exact h0 c2 (by omega)
        · simp [c1, c2] at hc
    exact sm_yes (hn hy) hy
  · simp only [push_cast, ↓reduceIte, reduceCtorEq, Nat.reduceBEq, Nat.reduceEqDiff, Nat.reduceAdd, Nat.reduceSub, Nat.reduceLT, Nat.reduceLeDiff, Nat.reduceMul]
    refine sm_no fun hy => ?_
    rcases h2 hy with ⟨e1, e2⟩ | ⟨e1, e2⟩
    · simp [e1, e2] at hc
    · simp [e1, e2] at hc
theorem mod_neg {a : Int} (ha : in64 a) : IntKind.u64.wrap a = if a < 0 then a + 18446744073709551616 else a := by
  unfold in64 at ha
  rw [IntKind.wrap_u64]
  split <;> omega
set_option maxRecDepth 100000 in
theorem wtimes_t (a b : Int) (ha : in64 a) (hb : in64 b) : Triple Go.Proofs.Try.prog 76 [int .i64 a, int .i64 b] [] (wid (a * b)) [] := by
  refine eisen_times_triple rfl (by decide) ?_
  simp only [eisen_times_pc, List.length_nil, push_cast, ↓reduceIte, reduceCtorEq, Nat.reduceBEq, Nat.reduceEqDiff, Nat.reduceAdd, Nat.reduceSub, Nat.reduceLT, Nat.reduceLeDiff, Nat.reduceMul]
  have ha' := ha
  have hb' := hb
  unfold in64 at ha' hb'
  have hu : ∀ x : Int, in64 x → ((IntKind.u64.wrap x).toNat : Int) = if x < 0 then x + 18446744073709551616 else x := fun x hx => by
    rw [mod_neg hx]
    unfold in64 at hx
    split <;> omega
  have hu0 : ∀ x : Int, in64 x → (IntKind.u64.wrap x).toNat < 18446744073709551616 := fun x hx => by
    rw [mod_neg hx]
    unfold in64 at hx
    split <;> omega
  refine call_as (as' := [int .u64 (IntKind.u64.wrap a).toNat, int .u64 (IntKind.u64.wrap b).toNat]) (by rw [hu a ha, hu b hb, mod_neg ha, mod_neg hb]) ?_
  refine call_mk (mul64_t _ _ (hu0 a ha) (hu0 b hb)) rfl trivial ?_
  simp only [push_cast, ↓reduceIte, reduceCtorEq, Nat.reduceBEq, Nat.reduceEqDiff, Nat.reduceAdd, Nat.reduceSub, Nat.reduceLT, Nat.reduceLeDiff, Nat.reduceMul]
  have hp : ((IntKind.u64.wrap a).toNat : Int) * ((IntKind.u64.wrap b).toNat : Int) = a * b + (if a < 0 then b * 18446744073709551616 else 0) + (if b < 0 then a * 18446744073709551616 else 0) + (if a < 0 then if b < 0 then 340282366920938463463374607431768211456 else 0 else 0) := by
    rw [hu a ha, hu b hb]
    split <;> split <;> (try simp only [Int.add_mul, Int.mul_add]) <;> omega
  rw [hp]
  generalize a * b = m
  refine cnd_mk (fun h1 => ?_) (fun h1 => ?_) <;> simp only [push_cast, ↓reduceIte, reduceCtorEq, Nat.reduceBEq, Nat.reduceEqDiff, Nat.reduceAdd, Nat.reduceSub, Nat.reduceLT, Nat.reduceLeDiff, Nat.reduceMul] <;> refine cnd_mk (fun h2 => ?_) (fun h2 => ?_) <;> simp only [push_cast, ↓reduceIte, reduceCtorEq, Nat.reduceBEq, Nat.reduceEqDiff, Nat.reduceAdd, Nat.reduceSub, Nat.reduceLT, Nat.reduceLeDiff, Nat.reduceMul]
  all_goals
    simp only [decide_eq_true_eq, decide_eq_false_iff_not] at h1 h2
    simp only [h1, h2, if_true, if_false]
    refine wid_eq ?_ ?_
    · simp only [IntKind.wrap_i64]; omega
    · omega
set_option maxRecDepth 100000 in
theorem both_t (a b : Int) : Triple Go.Proofs.Try.prog 74 [int .i64 a, bl true, int .i64 b, bl true] [] (.tup [Ei.v ⟨a, b⟩, bl true]) [] := by
  refine eisen_both_triple rfl (by decide) ?_
  simp only [eisen_both_pc, Ei.v, Ei.rv, List.length_nil, push_cast, ↓reduceIte, reduceCtorEq, Nat.reduceBEq, Nat.reduceEqDiff, Nat.reduceAdd, Nat.reduceSub, Nat.reduceLT, Nat.reduceLeDiff, Nat.reduceMul]
abbrev M62 : Int := 4611686018427387904
abbrev M63 : Int := 9223372036854775807
theorem Ei.In.ok {z : Ei} (h : z.In M63) : in64 z.a ∧ in64 z.b := by unfold Ei.In M63 at h; unfold in64; omega
theorem p124 {x y : Ei} (hx : x.In 4611686018427387904) (hy : y.In 4611686018427387904) : (-21267647932558653966460912964485513216 ≤ x.a * y.a ∧ x.a * y.a ≤ 21267647932558653966460912964485513216) ∧ (-21267647932558653966460912964485513216 ≤ x.a * y.b ∧ x.a * y.b ≤ 21267647932558653966460912964485513216) ∧ (-21267647932558653966460912964485513216 ≤ x.b * y.a ∧ x.b * y.a ≤ 21267647932558653966460912964485513216) ∧ (-21267647932558653966460912964485513216 ≤ x.b * y.b ∧ x.b * y.b ≤ 21267647932558653966460912964485513216) :=
  ⟨mul_in hx.1 hy.1, mul_in hx.1 hy.2, mul_in hx.2 hy.1, mul_in hx.2 hy.2⟩
set_option maxRecDepth 100000 in
theorem emul_t (x y : Ei) (hx : x.In 4611686018427387904) (hy : y.In 4611686018427387904) (hz : (x.mul y).In M63) : Triple Go.Proofs.Try.prog 59 [x.v, y.v] [] (.tup [(x.mul y).v, bl true]) [] := by
  refine eisen_Mul_triple rfl (by decide) ?_
  have hz1 := hz.ok.1
  have hz2 := hz.ok.2
  simp only [Ei.mul] at hz1 hz2
  simp only [eisen_Mul_pc, Ei.v, Ei.rv, List.length_nil, push_cast, ↓reduceIte, reduceCtorEq, Nat.reduceBEq, Nat.reduceEqDiff, Nat.reduceAdd, Nat.reduceSub, Nat.reduceLT, Nat.reduceLeDiff, Nat.reduceMul]
  have hx1 : in64 x.a ∧ in64 x.b := by unfold Ei.In at hx; unfold in64; omega
  have hy1 : in64 y.a ∧ in64 y.b := by unfold Ei.In at hy; unfold in64; omega
  refine call_mk (wtimes_t x.b y.b hx1.2 hy1.2) rfl trivial ?_
  simp only [wid, push_cast, ↓reduceIte, reduceCtorEq, Nat.reduceBEq, Nat.reduceEqDiff, Nat.reduceAdd, Nat.reduceSub, Nat.reduceLT, Nat.reduceLeDiff, Nat.reduceMul]
  refine dcall_mk (wtimes_t x.a y.a hx1.1 hy1.1) rfl trivial ?_
  simp only [wid, push_cast, ↓reduceIte, reduceCtorEq, Nat.reduceBEq, Nat.reduceEqDiff, Nat.reduceAdd, Nat.reduceSub, Nat.reduceLT, Nat.reduceLeDiff, Nat.reduceMul]
  refine dcall_as (as' := [wid (x.a * y.a), wid (x.b * y.b)]) rfl ?_
  refine dcall_mk (wminus_t _ _) rfl trivial ?_
  simp only [wid, push_cast, ↓reduceIte, reduceCtorEq, Nat.reduceBEq, Nat.reduceEqDiff, Nat.reduceAdd, Nat.reduceSub, Nat.reduceLT, Nat.reduceLeDiff, Nat.reduceMul]
  refine dcall_as (as' := [wid (x.a * y.a - x.b * y.b)]) rfl ?_
  refine dcall_mk (wshort_t _ ?_) rfl trivial ?_
  · have := p124 hx hy
    omega
  simp only [sm, hz1, if_pos, push_cast, ↓reduceIte, reduceCtorEq, Nat.reduceBEq, Nat.reduceEqDiff, Nat.reduceAdd, Nat.reduceSub, Nat.reduceLT, Nat.reduceLeDiff, Nat.reduceMul]
  refine And.intro (by kernel_rfl) ?_
  refine dcall_mk (wtimes_t x.a y.b hx1.1 hy1.2) rfl trivial ?_
  simp only [wid, push_cast, ↓reduceIte, reduceCtorEq, Nat.reduceBEq, Nat.reduceEqDiff, Nat.reduceAdd, Nat.reduceSub, Nat.reduceLT, Nat.reduceLeDiff, Nat.reduceMul]
  refine dcall_mk (wtimes_t x.b y.a hx1.2 hy1.1) rfl trivial ?_
  simp only [wid, push_cast, ↓reduceIte, reduceCtorEq, Nat.reduceBEq, Nat.reduceEqDiff, Nat.reduceAdd, Nat.reduceSub, Nat.reduceLT, Nat.reduceLeDiff, Nat.reduceMul]
  refine And.intro (by kernel_rfl) ?_
  refine dcall_as (as' := [wid (x.a * y.b), wid (x.b * y.a)]) rfl ?_
  refine dcall_mk (wplus_t _ _) rfl trivial ?_
  simp only [wid, push_cast, ↓reduceIte, reduceCtorEq, Nat.reduceBEq, Nat.reduceEqDiff, Nat.reduceAdd, Nat.reduceSub, Nat.reduceLT, Nat.reduceLeDiff, Nat.reduceMul]
  refine And.intro (by kernel_rfl) ?_
  refine dcall_as (as' := [wid (x.a * y.b + x.b * y.a), wid (x.b * y.b)]) rfl ?_
  refine dcall_mk (wplus_t _ _) rfl trivial ?_
  simp only [wid, push_cast, ↓reduceIte, reduceCtorEq, Nat.reduceBEq, Nat.reduceEqDiff, Nat.reduceAdd, Nat.reduceSub, Nat.reduceLT, Nat.reduceLeDiff, Nat.reduceMul]
  refine dcall_as (as' := [wid (x.a * y.b + x.b * y.a + x.b * y.b)]) rfl ?_
  refine dcall_mk (wshort_t _ ?_) rfl trivial ?_
  · have := p124 hx hy
    omega
  simp only [sm, hz2, if_pos, push_cast, ↓reduceIte, reduceCtorEq, Nat.reduceBEq, Nat.reduceEqDiff, Nat.reduceAdd, Nat.reduceSub, Nat.reduceLT, Nat.reduceLeDiff, Nat.reduceMul]
  refine And.intro (by kernel_rfl) ?_
  refine call_mk (both_t _ _) rfl trivial ?_
  simp only [Ei.v, Ei.rv, Ei.mul, push_cast, ↓reduceIte, reduceCtorEq, Nat.reduceBEq, Nat.reduceEqDiff, Nat.reduceAdd, Nat.reduceSub, Nat.reduceLT, Nat.reduceLeDiff, Nat.reduceMul]
end Go.Ev
