import Derived.Test.YtjpejkfhkbaakaaGeo1
namespace Go.Ev
open Go
set_option linter.unnecessarySimpa false
set_option linter.unusedSimpArgs false
set_option linter.unusedVariables false
noncomputable def eisen_sides_pc : PC :=
  (.seq (.reg [⟨(some 3), none, 0, .act (.box (.t 0))⟩,
    ⟨(some 4), none, 0, .act (.box (.t 1))⟩,
    ⟨(some 6), none, 0, .act (.new [(.r (.v (.int .i64 0))), (.r (.v (.int .i64 0)))])⟩,
    ⟨(some 7), none, 0, .see (.mov (.c (.r (.v (.bool false)))))⟩])
  (.seq (.reg [⟨(some 13), none, 0, .see (.mov (.t 2))⟩,
    ⟨(some 14), none, 0, .see (.fa 0 (.t 3))⟩,
    ⟨(some 15), none, 0, .see (.ld none (.t 14))⟩,
    ⟨(some 16), none, 0, .see (.fa 0 (.t 4))⟩,
    ⟨(some 17), none, 0, .see (.ld none (.t 16))⟩,
    ⟨(some 18), none, 1, .callv (.t 13) [(.t 15), (.t 17)]⟩,
    ⟨(some 12), none, 0, .see (.mov (.t 18))⟩,
    ⟨(some 19), none, 0, .see (.ext (.t 12) 0)⟩,
    ⟨(some 20), none, 0, .see (.ext (.t 12) 1)⟩,
    ⟨(some 8), none, 0, .see (.mov (.t 19))⟩,
    ⟨(some 9), none, 0, .see (.mov (.t 20))⟩])
  (.seq (.reg [⟨(some 22), none, 0, .see (.mov (.t 2))⟩,
    ⟨(some 23), none, 0, .see (.fa 1 (.t 3))⟩,
    ⟨(some 24), none, 0, .see (.ld none (.t 23))⟩,
    ⟨(some 25), none, 0, .see (.fa 1 (.t 4))⟩,
    ⟨(some 26), none, 0, .see (.ld none (.t 25))⟩,
    ⟨(some 27), none, 2, .callv (.t 22) [(.t 24), (.t 26)]⟩,
    ⟨(some 21), none, 0, .see (.mov (.t 27))⟩,
    ⟨(some 28), none, 0, .see (.ext (.t 21) 0)⟩,
    ⟨(some 29), none, 0, .see (.ext (.t 21) 1)⟩,
    ⟨(some 10), none, 0, .see (.mov (.t 28))⟩,
    ⟨(some 11), none, 0, .see (.mov (.t 29))⟩])
  (.seq (.reg [⟨(some 30), none, 0, .see (.mov (.t 8))⟩,
    ⟨(some 31), none, 0, .see (.mov (.t 9))⟩,
    ⟨(some 32), none, 0, .see (.mov (.t 10))⟩,
    ⟨(some 33), none, 0, .see (.mov (.t 11))⟩,
    ⟨(some 34), none, 3, .call 74 [(.t 30), (.t 31), (.t 32), (.t 33)]⟩,
    ⟨(some 35), none, 0, .see (.ext (.t 34) 0)⟩,
    ⟨(some 36), none, 0, .see (.ext (.t 34) 1)⟩,
    ⟨none, none, 0, .act (.st 2 (.t 6) (.t 35))⟩,
    ⟨(some 7), none, 0, .see (.mov (.t 36))⟩])
  .ret))))
noncomputable abbrev eisen_sides_code : Code := (Go.Proofs.Try.f80.body).getD .skip
theorem eisen_sides_chk : chkC Go.Proofs.Try.prog 37 eisen_sides_code eisen_sides_pc = true := by kernel_rfl
theorem eisen_sides_triple {args : List AV} {po ro : List Ob} {res : AV} (hal : args.length = 3) (hpo : po.length ≤ 1000)
    (h : run Go.Proofs.Try.prog po.length (RetP po.length [(6, false, some (35, (some 2))), (7, false, none)] fun v os => v = res ∧ os = ro) [.c eisen_sides_pc] ⟨argE 0 args, ob0 po⟩) : Triple Go.Proofs.Try.prog 80 args po res ro :=
  triple_of_W (fn := Go.Proofs.Try.f80) (c := eisen_sides_code) (pc := eisen_sides_pc) (rs := [(6, false, some (35, (some 2))), (7, false, none)]) Go.Proofs.Try.func80 rfl (by decide) (by have := eisen_sides_chk; exact this) (by rw [hal]; decide) rfl (by kernel_rfl) (by kernel_rfl) (by decide) hpo (W_of_run h)

noncomputable def eisen_Add_pc : PC :=
  (.seq (.reg [⟨(some 2), none, 0, .act (.box (.t 0))⟩,
    ⟨(some 3), none, 0, .act (.box (.t 1))⟩,
    ⟨(some 4), none, 0, .act (.new [(.r (.v (.int .i64 0))), (.r (.v (.int .i64 0)))])⟩,
    ⟨(some 5), none, 0, .see (.mov (.c (.r (.v (.bool false)))))⟩])
  (.seq (.reg [⟨(some 6), none, 0, .see (.ld (some 2) (.t 2))⟩,
    ⟨(some 7), none, 0, .see (.ld (some 2) (.t 3))⟩,
    ⟨(some 8), none, 1, .call 80 [(.t 6), (.t 7), (.c (.fn (.func 72) []))]⟩,
    ⟨(some 9), none, 0, .see (.ext (.t 8) 0)⟩,
    ⟨(some 10), none, 0, .see (.ext (.t 8) 1)⟩,
    ⟨none, none, 0, .act (.st 2 (.t 4) (.t 9))⟩,
    ⟨(some 5), none, 0, .see (.mov (.t 10))⟩])
  .ret))
noncomputable abbrev eisen_Add_code : Code := (Go.Proofs.Try.f62.body).getD .skip
theorem eisen_Add_chk : chkC Go.Proofs.Try.prog 11 eisen_Add_code eisen_Add_pc = true := by kernel_rfl
theorem eisen_Add_triple {args : List AV} {po ro : List Ob} {res : AV} (hal : args.length = 2) (hpo : po.length ≤ 1000)
    (h : run Go.Proofs.Try.prog po.length (RetP po.length [(4, false, some (35, (some 2))), (5, false, none)] fun v os => v = res ∧ os = ro) [.c eisen_Add_pc] ⟨argE 0 args, ob0 po⟩) : Triple Go.Proofs.Try.prog 62 args po res ro :=
  triple_of_W (fn := Go.Proofs.Try.f62) (c := eisen_Add_code) (pc := eisen_Add_pc) (rs := [(4, false, some (35, (some 2))), (5, false, none)]) Go.Proofs.Try.func62 rfl (by decide) (by have := eisen_Add_chk; exact this) (by rw [hal]; decide) rfl (by kernel_rfl) (by kernel_rfl) (by decide) hpo (W_of_run h)

noncomputable def eisen_Sub_pc : PC :=
  (.seq (.reg [⟨(some 2), none, 0, .act (.box (.t 0))⟩,
    ⟨(some 3), none, 0, .act (.box (.t 1))⟩,
    ⟨(some 4), none, 0, .act (.new [(.r (.v (.int .i64 0))), (.r (.v (.int .i64 0)))])⟩,
    ⟨(some 5), none, 0, .see (.mov (.c (.r (.v (.bool false)))))⟩])
  (.seq (.reg [⟨(some 6), none, 0, .see (.ld (some 2) (.t 2))⟩,
    ⟨(some 7), none, 0, .see (.ld (some 2) (.t 3))⟩,
    ⟨(some 8), none, 1, .call 80 [(.t 6), (.t 7), (.c (.fn (.func 87) []))]⟩,
    ⟨(some 9), none, 0, .see (.ext (.t 8) 0)⟩,
    ⟨(some 10), none, 0, .see (.ext (.t 8) 1)⟩,
    ⟨none, none, 0, .act (.st 2 (.t 4) (.t 9))⟩,
    ⟨(some 5), none, 0, .see (.mov (.t 10))⟩])
  .ret))
noncomputable abbrev eisen_Sub_code : Code := (Go.Proofs.Try.f97.body).getD .skip
theorem eisen_Sub_chk : chkC Go.Proofs.Try.prog 11 eisen_Sub_code eisen_Sub_pc = true := by kernel_rfl
theorem eisen_Sub_triple {args : List AV} {po ro : List Ob} {res : AV} (hal : args.length = 2) (hpo : po.length ≤ 1000)
    (h : run Go.Proofs.Try.prog po.length (RetP po.length [(4, false, some (35, (some 2))), (5, false, none)] fun v os => v = res ∧ os = ro) [.c eisen_Sub_pc] ⟨argE 0 args, ob0 po⟩) : Triple Go.Proofs.Try.prog 97 args po res ro :=
  triple_of_W (fn := Go.Proofs.Try.f97) (c := eisen_Sub_code) (pc := eisen_Sub_pc) (rs := [(4, false, some (35, (some 2))), (5, false, none)]) Go.Proofs.Try.func97 rfl (by decide) (by have := eisen_Sub_chk; exact this) (by rw [hal]; decide) rfl (by kernel_rfl) (by kernel_rfl) (by decide) hpo (W_of_run h)

noncomputable def eisen_Conj_pc : PC :=
  (.seq (.reg [⟨(some 1), none, 0, .act (.box (.t 0))⟩,
    ⟨(some 2), none, 0, .act (.new [(.r (.v (.int .i64 0))), (.r (.v (.int .i64 0)))])⟩,
    ⟨(some 3), none, 0, .see (.mov (.c (.r (.v (.bool false)))))⟩])
  (.seq (.reg [⟨(some 9), none, 0, .see (.fa 0 (.t 1))⟩,
    ⟨(some 10), none, 0, .see (.ld none (.t 9))⟩,
    ⟨(some 11), none, 0, .see (.fa 1 (.t 1))⟩,
    ⟨(some 12), none, 0, .see (.ld none (.t 11))⟩,
    ⟨(some 13), none, 1, .call 72 [(.t 10), (.t 12)]⟩,
    ⟨(some 8), none, 0, .see (.mov (.t 13))⟩,
    ⟨(some 14), none, 0, .see (.ext (.t 8) 0)⟩,
    ⟨(some 15), none, 0, .see (.ext (.t 8) 1)⟩,
    ⟨(some 4), none, 0, .see (.mov (.t 14))⟩,
    ⟨(some 5), none, 0, .see (.mov (.t 15))⟩])
  (.seq (.reg [⟨(some 17), none, 0, .see (.fa 1 (.t 1))⟩,
    ⟨(some 18), none, 0, .see (.ld none (.t 17))⟩,
    ⟨(some 19), none, 2, .call 73 [(.t 18)]⟩,
    ⟨(some 16), none, 0, .see (.mov (.t 19))⟩,
    ⟨(some 20), none, 0, .see (.ext (.t 16) 0)⟩,
    ⟨(some 21), none, 0, .see (.ext (.t 16) 1)⟩,
    ⟨(some 6), none, 0, .see (.mov (.t 20))⟩,
    ⟨(some 7), none, 0, .see (.mov (.t 21))⟩])
  (.seq (.reg [⟨(some 22), none, 0, .see (.mov (.t 4))⟩,
    ⟨(some 23), none, 0, .see (.mov (.t 5))⟩,
    ⟨(some 24), none, 0, .see (.mov (.t 6))⟩,
    ⟨(some 25), none, 0, .see (.mov (.t 7))⟩,
    ⟨(some 26), none, 3, .call 74 [(.t 22), (.t 23), (.t 24), (.t 25)]⟩,
    ⟨(some 27), none, 0, .see (.ext (.t 26) 0)⟩,
    ⟨(some 28), none, 0, .see (.ext (.t 26) 1)⟩,
    ⟨none, none, 0, .act (.st 2 (.t 2) (.t 27))⟩,
    ⟨(some 3), none, 0, .see (.mov (.t 28))⟩])
  .ret))))
noncomputable abbrev eisen_Conj_code : Code := (Go.Proofs.Try.f58.body).getD .skip
theorem eisen_Conj_chk : chkC Go.Proofs.Try.prog 29 eisen_Conj_code eisen_Conj_pc = true := by kernel_rfl
theorem eisen_Conj_triple {args : List AV} {po ro : List Ob} {res : AV} (hal : args.length = 1) (hpo : po.length ≤ 1000)
    (h : run Go.Proofs.Try.prog po.length (RetP po.length [(2, false, some (35, (some 2))), (3, false, none)] fun v os => v = res ∧ os = ro) [.c eisen_Conj_pc] ⟨argE 0 args, ob0 po⟩) : Triple Go.Proofs.Try.prog 58 args po res ro :=
  triple_of_W (fn := Go.Proofs.Try.f58) (c := eisen_Conj_code) (pc := eisen_Conj_pc) (rs := [(2, false, some (35, (some 2))), (3, false, none)]) Go.Proofs.Try.func58 rfl (by decide) (by have := eisen_Conj_chk; exact this) (by rw [hal]; decide) rfl (by kernel_rfl) (by kernel_rfl) (by decide) hpo (W_of_run h)

noncomputable def eisen_Unit_pc : PC :=
  (.seq (.reg [⟨(some 2), none, 0, .act (.new [(.r (.v (.int .i64 0))), (.r (.v (.int .i64 0)))])⟩])
  (.seq (.reg [⟨(some 4), none, 0, .see (.build [(.r (.v (.int .i64 0))), (.r (.v (.int .i64 0)))] [(0, 1, (.c (.r (.v (.int .i64 1)))))])⟩,
    ⟨(some 5), none, 0, .see (.build [(.r (.v (.int .i64 0))), (.r (.v (.int .i64 0)))] [(1, 1, (.c (.r (.v (.int .i64 1)))))])⟩,
    ⟨(some 6), none, 0, .see (.build [(.r (.v (.int .i64 0))), (.r (.v (.int .i64 0)))] [(0, 1, (.c (.r (.v (.int .i64 (-1)))))), (1, 1, (.c (.r (.v (.int .i64 1)))))])⟩,
    ⟨(some 7), none, 0, .see (.build [(.r (.v (.int .i64 0))), (.r (.v (.int .i64 0)))] [(0, 1, (.c (.r (.v (.int .i64 (-1))))))])⟩,
    ⟨(some 8), none, 0, .see (.build [(.r (.v (.int .i64 0))), (.r (.v (.int .i64 0)))] [(1, 1, (.c (.r (.v (.int .i64 (-1))))))])⟩,
    ⟨(some 9), none, 0, .see (.build [(.r (.v (.int .i64 0))), (.r (.v (.int .i64 0)))] [(0, 1, (.c (.r (.v (.int .i64 1))))), (1, 1, (.c (.r (.v (.int .i64 (-1))))))])⟩,
    ⟨(some 10), none, 0, .see (.build [(.r (.v (.int .i64 0))), (.r (.v (.int .i64 0))), (.r (.v (.int .i64 0))), (.r (.v (.int .i64 0))), (.r (.v (.int .i64 0))), (.r (.v (.int .i64 0))), (.r (.v (.int .i64 0))), (.r (.v (.int .i64 0))), (.r (.v (.int .i64 0))), (.r (.v (.int .i64 0))), (.r (.v (.int .i64 0))), (.r (.v (.int .i64 0)))] [(0, 2, (.t 4)), (2, 2, (.t 5)), (4, 2, (.t 6)), (6, 2, (.t 7)), (8, 2, (.t 8)), (10, 2, (.t 9))])⟩,
    ⟨(some 3), none, 0, .act (.new [(.r (.v (.int .i64 0))), (.r (.v (.int .i64 0))), (.r (.v (.int .i64 0))), (.r (.v (.int .i64 0))), (.r (.v (.int .i64 0))), (.r (.v (.int .i64 0))), (.r (.v (.int .i64 0))), (.r (.v (.int .i64 0))), (.r (.v (.int .i64 0))), (.r (.v (.int .i64 0))), (.r (.v (.int .i64 0))), (.r (.v (.int .i64 0)))])⟩,
    ⟨none, none, 0, .act (.st 12 (.t 3) (.t 10))⟩])
  (.seq (.reg [⟨(some 11), none, 0, .see (.mov (.t 0))⟩,
    ⟨(some 12), none, 0, .see (.bin .rem (.t 11) (.c (.r (.v (.int .i64 6)))))⟩,
    ⟨(some 13), none, 0, .see (.bin .add (.t 12) (.c (.r (.v (.int .i64 6)))))⟩,
    ⟨(some 14), none, 0, .see (.bin .rem (.t 13) (.c (.r (.v (.int .i64 6)))))⟩,
    ⟨(some 15), none, 0, .see (.iaa 6 2 (.t 3) (.t 14))⟩,
    ⟨(some 16), none, 0, .see (.ld (some 2) (.t 15))⟩,
    ⟨none, none, 0, .act (.st 2 (.t 2) (.t 16))⟩])
  .ret)))
noncomputable abbrev eisen_Unit_code : Code := (Go.Proofs.Try.f98.body).getD .skip
theorem eisen_Unit_chk : chkC Go.Proofs.Try.prog 17 eisen_Unit_code eisen_Unit_pc = true := by kernel_rfl
theorem eisen_Unit_triple {args : List AV} {po ro : List Ob} {res : AV} (hal : args.length = 1) (hpo : po.length ≤ 1000)
    (h : run Go.Proofs.Try.prog po.length (RetP po.length [(2, false, some (35, (some 2)))] fun v os => v = res ∧ os = ro) [.c eisen_Unit_pc] ⟨argE 0 args, ob0 po⟩) : Triple Go.Proofs.Try.prog 98 args po res ro :=
  triple_of_W (fn := Go.Proofs.Try.f98) (c := eisen_Unit_code) (pc := eisen_Unit_pc) (rs := [(2, false, some (35, (some 2)))]) Go.Proofs.Try.func98 rfl (by decide) (by have := eisen_Unit_chk; exact this) (by rw [hal]; decide) rfl (by kernel_rfl) (by kernel_rfl) (by decide) hpo (W_of_run h)

noncomputable def eisen_Beta_pc : PC :=
  (.seq (.reg [⟨(some 2), none, 0, .act (.new [(.r (.v (.int .i64 0))), (.r (.v (.int .i64 0)))])⟩,
    ⟨(some 3), none, 0, .see (.mov (.c (.r (.v (.bool false)))))⟩])
  (.seq (.seq (.reg [⟨(some 6), none, 0, .see (.mov (.t 0))⟩,
    ⟨(some 7), none, 0, .see (.bin .lss (.t 6) (.c (.r (.v (.int .i64 0)))))⟩,
    ⟨(some 8), none, 0, .see (.mov (.t 7))⟩,
    ⟨(some 9), (some (8, false)), 0, .see (.mov (.t 0))⟩,
    ⟨(some 10), (some (8, false)), 0, .see (.bin .gtr (.t 9) (.c (.r (.v (.int .i64 20)))))⟩,
    ⟨(some 11), none, 0, .see (.pick (.t 8) (.c (.r (.v (.bool true)))) (.t 10))⟩])
  (.cond (.t 11)
    (.seq (.reg [⟨(some 12), none, 0, .see (.build [(.r (.v (.int .i64 0))), (.r (.v (.int .i64 0)))] [])⟩,
    ⟨none, none, 0, .act (.st 2 (.t 2) (.t 12))⟩,
    ⟨(some 3), none, 0, .see (.mov (.c (.r (.v (.bool false)))))⟩])
    .ret)
    .skip))
  (.seq (.reg [⟨(some 13), none, 0, .see (.build [(.r (.v (.int .i64 0))), (.r (.v (.int .i64 0)))] [(0, 1, (.c (.r (.v (.int .i64 1)))))])⟩,
    ⟨(some 4), none, 0, .act (.new [(.r (.v (.int .i64 0))), (.r (.v (.int .i64 0)))])⟩,
    ⟨none, none, 0, .act (.st 2 (.t 4) (.t 13))⟩,
    ⟨(some 5), none, 0, .see (.mov (.c (.r (.v (.bool true)))))⟩])
  (.seq (.seq (.reg [⟨(some 14), none, 0, .see (.mov (.t 0))⟩,
    ⟨(some 15), none, 0, .see (.mov (.c (.r (.v (.int .i64 0)))))⟩])
  (.block 0 (.loop (.seq (.reg [⟨(some 16), none, 0, .see (.bin .lss (.t 15) (.t 14))⟩])
  (.seq (.cond (.t 16)
    .skip
    (.exit 0))
  (.seq (.block 1 (.seq (.reg [⟨(some 18), none, 0, .see (.ld (some 2) (.t 4))⟩,
    ⟨(some 19), none, 0, .see (.build [(.r (.v (.int .i64 0))), (.r (.v (.int .i64 0)))] [(0, 1, (.c (.r (.v (.int .i64 2))))), (1, 1, (.c (.r (.v (.int .i64 1)))))])⟩,
    ⟨(some 20), none, 1, .call 59 [(.t 18), (.t 19)]⟩,
    ⟨(some 17), none, 0, .see (.mov (.t 20))⟩,
    ⟨(some 21), none, 0, .see (.ext (.t 17) 0)⟩,
    ⟨(some 22), none, 0, .see (.ext (.t 17) 1)⟩,
    ⟨none, none, 0, .act (.st 2 (.t 4) (.t 21))⟩,
    ⟨(some 5), none, 0, .see (.mov (.t 22))⟩])
  (.seq (.reg [⟨(some 23), none, 0, .see (.mov (.t 5))⟩,
    ⟨(some 24), none, 0, .see (.un .not (.t 23))⟩])
  (.cond (.t 24)
    (.seq (.reg [⟨(some 25), none, 0, .see (.build [(.r (.v (.int .i64 0))), (.r (.v (.int .i64 0)))] [])⟩,
    ⟨none, none, 0, .act (.st 2 (.t 2) (.t 25))⟩,
    ⟨(some 3), none, 0, .see (.mov (.c (.r (.v (.bool false)))))⟩])
    .ret)
    .skip))))
  (.reg [⟨(some 26), none, 0, .see (.bin .add (.t 15) (.c (.r (.v (.int .i64 1)))))⟩,
    ⟨(some 15), none, 0, .see (.mov (.t 26))⟩])))))))
  (.seq (.reg [⟨(some 27), none, 0, .see (.ld (some 2) (.t 4))⟩,
    ⟨none, none, 0, .act (.st 2 (.t 2) (.t 27))⟩,
    ⟨(some 3), none, 0, .see (.mov (.c (.r (.v (.bool true)))))⟩])
  .ret)))))
noncomputable abbrev eisen_Beta_code : Code := (Go.Proofs.Try.f39.body).getD .skip
theorem eisen_Beta_chk : chkC Go.Proofs.Try.prog 28 eisen_Beta_code eisen_Beta_pc = true := by kernel_rfl
theorem eisen_Beta_triple {args : List AV} {po ro : List Ob} {res : AV} (hal : args.length = 1) (hpo : po.length ≤ 1000)
    (h : run Go.Proofs.Try.prog po.length (RetP po.length [(2, false, some (35, (some 2))), (3, false, none)] fun v os => v = res ∧ os = ro) [.c eisen_Beta_pc] ⟨argE 0 args, ob0 po⟩) : Triple Go.Proofs.Try.prog 39 args po res ro :=
  triple_of_W (fn := Go.Proofs.Try.f39) (c := eisen_Beta_code) (pc := eisen_Beta_pc) (rs := [(2, false, some (35, (some 2))), (3, false, none)]) Go.Proofs.Try.func39 rfl (by decide) (by have := eisen_Beta_chk; exact this) (by rw [hal]; decide) rfl (by kernel_rfl) (by kernel_rfl) (by decide) hpo (W_of_run h)

noncomputable def num_Within_pc : PC :=
  (.seq (.reg [⟨(some 4), none, 0, .see (.mov (.c (.r (.v (.bool false)))))⟩])
  (.seq (.reg [⟨(some 5), none, 0, .see (.mov (.t 0))⟩,
    ⟨(some 6), none, 0, .see (.mov (.t 1))⟩,
    ⟨(some 7), none, 0, .see (.un .neg (.t 6))⟩,
    ⟨(some 8), none, 0, .see (.bin .geq (.t 5) (.t 7))⟩,
    ⟨(some 9), none, 0, .see (.mov (.t 8))⟩,
    ⟨(some 10), (some (9, true)), 0, .see (.mov (.t 0))⟩,
    ⟨(some 11), (some (9, true)), 0, .see (.mov (.t 1))⟩,
    ⟨(some 12), (some (9, true)), 0, .see (.bin .leq (.t 10) (.t 11))⟩,
    ⟨(some 13), none, 0, .see (.pick (.t 9) (.t 12) (.c (.r (.v (.bool false)))))⟩,
    ⟨(some 14), none, 0, .see (.mov (.t 13))⟩,
    ⟨(some 15), (some (14, true)), 0, .see (.mov (.t 0))⟩,
    ⟨(some 16), (some (14, true)), 0, .see (.bin .neq (.t 15) (.c (.r (.v (.int .i64 (-9223372036854775808))))))⟩,
    ⟨(some 17), none, 0, .see (.pick (.t 14) (.t 16) (.c (.r (.v (.bool false)))))⟩,
    ⟨(some 4), none, 0, .see (.mov (.t 17))⟩])
  .ret))
noncomputable abbrev num_Within_code : Code := (Go.Proofs.Try.f61.body).getD .skip
theorem num_Within_chk : chkC Go.Proofs.Try.prog 18 num_Within_code num_Within_pc = true := by kernel_rfl
theorem num_Within_triple {args : List AV} {po ro : List Ob} {res : AV} (hal : args.length = 2) (hpo : po.length ≤ 1000)
    (h : run Go.Proofs.Try.prog po.length (RetP po.length [(4, false, none)] fun v os => v = res ∧ os = ro) [.c num_Within_pc] ⟨argE 0 args, ob0 po⟩) : Triple Go.Proofs.Try.prog 61 args po res ro :=
  triple_of_W (fn := Go.Proofs.Try.f61) (c := num_Within_code) (pc := num_Within_pc) (rs := [(4, false, none)]) Go.Proofs.Try.func61 rfl (by decide) (by have := num_Within_chk; exact this) (by rw [hal]; decide) rfl (by kernel_rfl) (by kernel_rfl) (by decide) hpo (W_of_run h)

noncomputable def eisen_Round_pc : PC :=
  (.seq (.reg [⟨(some 2), none, 0, .act (.box (.t 0))⟩,
    ⟨(some 4), none, 0, .act (.new [(.r (.v (.int .i64 0))), (.r (.v (.int .i64 0)))])⟩,
    ⟨(some 5), none, 0, .see (.mov (.c (.r (.v (.bool false)))))⟩])
  (.seq (.seq (.reg [⟨(some 18), none, 0, .see (.mov (.t 1))⟩,
    ⟨(some 19), none, 0, .see (.bin .lss (.t 18) (.c (.r (.v (.int .i64 1)))))⟩,
    ⟨(some 20), none, 0, .see (.mov (.t 19))⟩,
    ⟨(some 21), (some (20, false)), 0, .see (.mov (.t 1))⟩,
    ⟨(some 22), (some (20, false)), 0, .see (.bin .gtr (.t 21) (.c (.r (.v (.int .i64 1125899906842624)))))⟩,
    ⟨(some 23), none, 0, .see (.pick (.t 20) (.c (.r (.v (.bool true)))) (.t 22))⟩,
    ⟨(some 24), none, 0, .see (.mov (.t 23))⟩,
    ⟨(some 25), (some (24, false)), 0, .see (.fa 0 (.t 2))⟩,
    ⟨(some 26), (some (24, false)), 0, .see (.ld none (.t 25))⟩,
    ⟨(some 27), (some (24, false)), 1, .call 61 [(.t 26), (.c (.r (.v (.int .i64 1152921504606846976))))]⟩,
    ⟨(some 28), (some (24, false)), 0, .see (.un .not (.t 27))⟩,
    ⟨(some 29), none, 0, .see (.pick (.t 24) (.c (.r (.v (.bool true)))) (.t 28))⟩,
    ⟨(some 30), none, 0, .see (.mov (.t 29))⟩,
    ⟨(some 31), (some (30, false)), 0, .see (.fa 1 (.t 2))⟩,
    ⟨(some 32), (some (30, false)), 0, .see (.ld none (.t 31))⟩,
    ⟨(some 33), (some (30, false)), 2, .call 61 [(.t 32), (.c (.r (.v (.int .i64 1152921504606846976))))]⟩,
    ⟨(some 34), (some (30, false)), 0, .see (.un .not (.t 33))⟩,
    ⟨(some 35), none, 0, .see (.pick (.t 30) (.c (.r (.v (.bool true)))) (.t 34))⟩])
  (.cond (.t 35)
    (.seq (.reg [⟨(some 36), none, 0, .see (.build [(.r (.v (.int .i64 0))), (.r (.v (.int .i64 0)))] [])⟩,
    ⟨none, none, 0, .act (.st 2 (.t 4) (.t 36))⟩,
    ⟨(some 5), none, 0, .see (.mov (.c (.r (.v (.bool false)))))⟩])
    .ret)
    .skip))
  (.seq (.reg [⟨(some 38), none, 0, .see (.fa 0 (.t 2))⟩,
    ⟨(some 39), none, 0, .see (.ld none (.t 38))⟩,
    ⟨(some 40), none, 0, .see (.mov (.t 1))⟩,
    ⟨(some 41), none, 3, .call 79 [(.t 39), (.t 40)]⟩,
    ⟨(some 37), none, 0, .see (.mov (.t 41))⟩,
    ⟨(some 42), none, 0, .see (.ext (.t 37) 0)⟩,
    ⟨(some 43), none, 0, .see (.ext (.t 37) 1)⟩,
    ⟨(some 44), none, 0, .see (.ext (.t 37) 2)⟩,
    ⟨(some 6), none, 0, .see (.mov (.t 42))⟩,
    ⟨(some 7), none, 0, .see (.mov (.t 43))⟩,
    ⟨(some 8), none, 0, .see (.mov (.t 44))⟩])
  (.seq (.reg [⟨(some 46), none, 0, .see (.fa 1 (.t 2))⟩,
    ⟨(some 47), none, 0, .see (.ld none (.t 46))⟩,
    ⟨(some 48), none, 0, .see (.mov (.t 1))⟩,
    ⟨(some 49), none, 4, .call 79 [(.t 47), (.t 48)]⟩,
    ⟨(some 45), none, 0, .see (.mov (.t 49))⟩,
    ⟨(some 50), none, 0, .see (.ext (.t 45) 0)⟩,
    ⟨(some 51), none, 0, .see (.ext (.t 45) 1)⟩,
    ⟨(some 52), none, 0, .see (.ext (.t 45) 2)⟩,
    ⟨(some 9), none, 0, .see (.mov (.t 50))⟩,
    ⟨(some 10), none, 0, .see (.mov (.t 51))⟩,
    ⟨(some 11), none, 0, .see (.mov (.t 52))⟩])
  (.seq (.reg [⟨(some 53), none, 0, .see (.build [(.r (.v (.int .i64 0))), (.r (.v (.int .i64 0)))] [])⟩,
    ⟨(some 13), none, 0, .act (.new [(.r (.v (.int .i64 0))), (.r (.v (.int .i64 0)))])⟩,
    ⟨(some 12), none, 0, .see (.mov (.c (.r (.v (.int .i64 0)))))⟩,
    ⟨none, none, 0, .act (.st 2 (.t 13) (.t 53))⟩])
  (.seq (.seq (.reg [⟨(some 54), none, 0, .see (.build [(.r (.v (.int .i64 0))), (.r (.v (.int .i64 0)))] [(1, 1, (.c (.r (.v (.int .i64 1)))))])⟩,
    ⟨(some 55), none, 0, .see (.build [(.r (.v (.int .i64 0))), (.r (.v (.int .i64 0)))] [(0, 1, (.c (.r (.v (.int .i64 1)))))])⟩,
    ⟨(some 56), none, 0, .see (.build [(.r (.v (.int .i64 0))), (.r (.v (.int .i64 0)))] [(0, 1, (.c (.r (.v (.int .i64 1))))), (1, 1, (.c (.r (.v (.int .i64 1)))))])⟩,
    ⟨(some 57), none, 0, .act (.bsl 2 (.agg [(.v (.int .i64 0)), (.v (.int .i64 0))]) [(.t 54), (.t 55), (.t 56)])⟩,
    ⟨(some 58), none, 0, .see (.len false (.t 57))⟩,
    ⟨(some 59), none, 0, .see (.mov (.c (.r (.v (.int .i64 0)))))⟩])
  (.block 0 (.loop (.seq (.reg [⟨(some 60), none, 0, .see (.bin .lss (.t 59) (.t 58))⟩])
  (.seq (.cond (.t 60)
    .skip
    (.exit 0))
  (.seq (.block 1 (.seq (.reg [⟨(some 61), none, 0, .see (.ia 2 (.agg [(.v (.int .i64 0)), (.v (.int .i64 0))]) (.t 57) (.t 59))⟩,
    ⟨(some 62), none, 0, .see (.ld (some 2) (.t 61))⟩,
    ⟨(some 15), none, 0, .act (.new [(.r (.v (.int .i64 0))), (.r (.v (.int .i64 0)))])⟩,
    ⟨none, none, 0, .act (.st 2 (.t 15) (.t 62))⟩])
  (.seq (.reg [⟨(some 63), none, 0, .see (.fa 0 (.t 15))⟩,
    ⟨(some 64), none, 0, .see (.ld none (.t 63))⟩,
    ⟨(some 65), none, 0, .see (.fa 0 (.t 15))⟩,
    ⟨(some 66), none, 0, .see (.ld none (.t 65))⟩,
    ⟨(some 67), none, 0, .see (.bin .mul (.t 64) (.t 66))⟩,
    ⟨(some 68), none, 0, .see (.fa 0 (.t 15))⟩,
    ⟨(some 69), none, 0, .see (.ld none (.t 68))⟩,
    ⟨(some 70), none, 0, .see (.fa 1 (.t 15))⟩,
    ⟨(some 71), none, 0, .see (.ld none (.t 70))⟩,
    ⟨(some 72), none, 0, .see (.bin .mul (.t 69) (.t 71))⟩,
    ⟨(some 73), none, 0, .see (.bin .add (.t 67) (.t 72))⟩,
    ⟨(some 74), none, 0, .see (.fa 1 (.t 15))⟩,
    ⟨(some 75), none, 0, .see (.ld none (.t 74))⟩,
    ⟨(some 76), none, 0, .see (.fa 1 (.t 15))⟩,
    ⟨(some 77), none, 0, .see (.ld none (.t 76))⟩,
    ⟨(some 78), none, 0, .see (.bin .mul (.t 75) (.t 77))⟩,
    ⟨(some 79), none, 0, .see (.bin .add (.t 73) (.t 78))⟩,
    ⟨(some 16), none, 0, .see (.mov (.t 79))⟩])
  (.seq (.reg [⟨(some 80), none, 0, .see (.mov (.t 1))⟩,
    ⟨(some 81), none, 0, .see (.mov (.t 16))⟩,
    ⟨(some 82), none, 0, .see (.bin .mul (.t 80) (.t 81))⟩,
    ⟨(some 83), none, 0, .see (.fa 0 (.t 15))⟩,
    ⟨(some 84), none, 0, .see (.ld none (.t 83))⟩,
    ⟨(some 85), none, 0, .see (.mov (.t 7))⟩,
    ⟨(some 86), none, 0, .see (.bin .mul (.c (.r (.v (.int .i64 2)))) (.t 85))⟩,
    ⟨(some 87), none, 0, .see (.mov (.t 10))⟩,
    ⟨(some 88), none, 0, .see (.bin .add (.t 86) (.t 87))⟩,
    ⟨(some 89), none, 0, .see (.bin .mul (.t 84) (.t 88))⟩,
    ⟨(some 90), none, 0, .see (.bin .sub (.t 82) (.t 89))⟩,
    ⟨(some 91), none, 0, .see (.fa 1 (.t 15))⟩,
    ⟨(some 92), none, 0, .see (.ld none (.t 91))⟩,
    ⟨(some 93), none, 0, .see (.mov (.t 7))⟩,
    ⟨(some 94), none, 0, .see (.mov (.t 10))⟩,
    ⟨(some 95), none, 0, .see (.bin .mul (.c (.r (.v (.int .i64 2)))) (.t 94))⟩,
    ⟨(some 96), none, 0, .see (.bin .add (.t 93) (.t 95))⟩,
    ⟨(some 97), none, 0, .see (.bin .mul (.t 92) (.t 96))⟩,
    ⟨(some 98), none, 0, .see (.bin .sub (.t 90) (.t 97))⟩,
    ⟨(some 17), none, 0, .see (.mov (.t 98))⟩])
  (.seq (.reg [⟨(some 99), none, 0, .see (.mov (.t 17))⟩,
    ⟨(some 100), none, 0, .see (.mov (.t 12))⟩,
    ⟨(some 101), none, 0, .see (.bin .lss (.t 99) (.t 100))⟩])
  (.cond (.t 101)
    (.drw [⟨(some 102), none, 0, .see (.mov (.t 17))⟩,
    ⟨(some 103), none, 0, .see (.ld (some 2) (.t 15))⟩,
    ⟨(some 12), none, 0, .see (.mov (.t 102))⟩,
    ⟨none, none, 0, .act (.st 2 (.t 13) (.t 103))⟩]
    [[], [], [0], [0, 1, 2]])
    .skip))))))
  (.reg [⟨(some 104), none, 0, .see (.bin .add (.t 59) (.c (.r (.v (.int .i64 1)))))⟩,
    ⟨(some 59), none, 0, .see (.mov (.t 104))⟩])))))))
  (.seq (.reg [⟨(some 105), none, 0, .see (.mov (.t 6))⟩,
    ⟨(some 106), none, 0, .see (.fa 0 (.t 13))⟩,
    ⟨(some 107), none, 0, .see (.ld none (.t 106))⟩,
    ⟨(some 108), none, 0, .see (.bin .add (.t 105) (.t 107))⟩,
    ⟨(some 109), none, 0, .see (.mov (.t 9))⟩,
    ⟨(some 110), none, 0, .see (.fa 1 (.t 13))⟩,
    ⟨(some 111), none, 0, .see (.ld none (.t 110))⟩,
    ⟨(some 112), none, 0, .see (.bin .add (.t 109) (.t 111))⟩,
    ⟨(some 113), none, 0, .see (.build [(.r (.v (.int .i64 0))), (.r (.v (.int .i64 0)))] [(0, 1, (.t 108)), (1, 1, (.t 112))])⟩,
    ⟨none, none, 0, .act (.st 2 (.t 4) (.t 113))⟩,
    ⟨(some 5), none, 0, .see (.mov (.c (.r (.v (.bool true)))))⟩])
  .ret)))))))
noncomputable abbrev eisen_Round_code : Code := (Go.Proofs.Try.f60.body).getD .skip
theorem eisen_Round_chk : chkC Go.Proofs.Try.prog 114 eisen_Round_code eisen_Round_pc = true := by kernel_rfl
theorem eisen_Round_triple {args : List AV} {po ro : List Ob} {res : AV} (hal : args.length = 2) (hpo : po.length ≤ 1000)
    (h : run Go.Proofs.Try.prog po.length (RetP po.length [(4, false, some (35, (some 2))), (5, false, none)] fun v os => v = res ∧ os = ro) [.c eisen_Round_pc] ⟨argE 0 args, ob0 po⟩) : Triple Go.Proofs.Try.prog 60 args po res ro :=
  triple_of_W (fn := Go.Proofs.Try.f60) (c := eisen_Round_code) (pc := eisen_Round_pc) (rs := [(4, false, some (35, (some 2))), (5, false, none)]) Go.Proofs.Try.func60 rfl (by decide) (by have := eisen_Round_chk; exact this) (by rw [hal]; decide) rfl (by kernel_rfl) (by kernel_rfl) (by decide) hpo (W_of_run h)

theorem sm_in {x : Int} (h : in64 x) : sm x = .tup [int .i64 x, bl true] := by simp [sm, h]
set_option maxRecDepth 100000 in
theorem eadd_t (x y : Ei) (hx : x.In M63) (hy : y.In M63) (hz : (x.add y).In M63) : Triple Go.Proofs.Try.prog 62 [x.v, y.v] [] (.tup [(x.add y).v, bl true]) [] := by
  have hs : Triple Go.Proofs.Try.prog 80 [x.v, y.v, .fn (.func 72) []] [] (.tup [(x.add y).v, bl true]) [] := by
    refine eisen_sides_triple rfl (by decide) ?_
    simp only [eisen_sides_pc, Ei.v, Ei.rv, List.length_nil, push_cast, ↓reduceIte, reduceCtorEq, Nat.reduceBEq, Nat.reduceEqDiff, Nat.reduceAdd, Nat.reduceSub, Nat.reduceLT, Nat.reduceLeDiff, Nat.reduceMul]
    refine ⟨by kernel_rfl, ?_⟩
    refine call_mk (add_t _ _ hx.ok.1 hy.ok.1) rfl trivial ?_
    rw [sm_in (show in64 (x.a + y.a) from hz.ok.1)]
    simp only [push_cast, ↓reduceIte, reduceCtorEq, Nat.reduceBEq, Nat.reduceEqDiff, Nat.reduceAdd, Nat.reduceSub, Nat.reduceLT, Nat.reduceLeDiff, Nat.reduceMul]
    refine ⟨by kernel_rfl, ?_⟩
    refine call_mk (add_t _ _ hx.ok.2 hy.ok.2) rfl trivial ?_
    rw [sm_in (show in64 (x.b + y.b) from hz.ok.2)]
    simp only [push_cast, ↓reduceIte, reduceCtorEq, Nat.reduceBEq, Nat.reduceEqDiff, Nat.reduceAdd, Nat.reduceSub, Nat.reduceLT, Nat.reduceLeDiff, Nat.reduceMul]
    refine call_mk (both_t _ _) rfl trivial ?_
    simp only [Ei.v, Ei.rv, Ei.add, push_cast, ↓reduceIte, reduceCtorEq, Nat.reduceBEq, Nat.reduceEqDiff, Nat.reduceAdd, Nat.reduceSub, Nat.reduceLT, Nat.reduceLeDiff, Nat.reduceMul]
  refine eisen_Add_triple rfl (by decide) ?_
  simp only [eisen_Add_pc, Ei.v, Ei.rv, List.length_nil, push_cast, ↓reduceIte, reduceCtorEq, Nat.reduceBEq, Nat.reduceEqDiff, Nat.reduceAdd, Nat.reduceSub, Nat.reduceLT, Nat.reduceLeDiff, Nat.reduceMul]
  refine call_as (as' := [x.v, y.v, .fn (.func 72) []]) rfl ?_
  refine call_mk hs rfl trivial ?_
  simp only [Ei.v, Ei.rv, Ei.add, push_cast, ↓reduceIte, reduceCtorEq, Nat.reduceBEq, Nat.reduceEqDiff, Nat.reduceAdd, Nat.reduceSub, Nat.reduceLT, Nat.reduceLeDiff, Nat.reduceMul]
set_option maxRecDepth 100000 in
theorem esub_t (x y : Ei) (hx : x.In M63) (hy : y.In M63) (hz : (x.sub y).In M63) : Triple Go.Proofs.Try.prog 97 [x.v, y.v] [] (.tup [(x.sub y).v, bl true]) [] := by
  have hs : Triple Go.Proofs.Try.prog 80 [x.v, y.v, .fn (.func 87) []] [] (.tup [(x.sub y).v, bl true]) [] := by
    refine eisen_sides_triple rfl (by decide) ?_
    simp only [eisen_sides_pc, Ei.v, Ei.rv, List.length_nil, push_cast, ↓reduceIte, reduceCtorEq, Nat.reduceBEq, Nat.reduceEqDiff, Nat.reduceAdd, Nat.reduceSub, Nat.reduceLT, Nat.reduceLeDiff, Nat.reduceMul]
    refine ⟨by kernel_rfl, ?_⟩
    refine call_mk (sub_t _ _ hx.ok.1 hy.ok.1) rfl trivial ?_
    rw [sm_in (show in64 (x.a - y.a) from hz.ok.1)]
    simp only [push_cast, ↓reduceIte, reduceCtorEq, Nat.reduceBEq, Nat.reduceEqDiff, Nat.reduceAdd, Nat.reduceSub, Nat.reduceLT, Nat.reduceLeDiff, Nat.reduceMul]
    refine ⟨by kernel_rfl, ?_⟩
    refine call_mk (sub_t _ _ hx.ok.2 hy.ok.2) rfl trivial ?_
    rw [sm_in (show in64 (x.b - y.b) from hz.ok.2)]
    simp only [push_cast, ↓reduceIte, reduceCtorEq, Nat.reduceBEq, Nat.reduceEqDiff, Nat.reduceAdd, Nat.reduceSub, Nat.reduceLT, Nat.reduceLeDiff, Nat.reduceMul]
    refine call_mk (both_t _ _) rfl trivial ?_
    simp only [Ei.v, Ei.rv, Ei.sub, push_cast, ↓reduceIte, reduceCtorEq, Nat.reduceBEq, Nat.reduceEqDiff, Nat.reduceAdd, Nat.reduceSub, Nat.reduceLT, Nat.reduceLeDiff, Nat.reduceMul]
  refine eisen_Sub_triple rfl (by decide) ?_
  simp only [eisen_Sub_pc, Ei.v, Ei.rv, List.length_nil, push_cast, ↓reduceIte, reduceCtorEq, Nat.reduceBEq, Nat.reduceEqDiff, Nat.reduceAdd, Nat.reduceSub, Nat.reduceLT, Nat.reduceLeDiff, Nat.reduceMul]
  refine call_as (as' := [x.v, y.v, .fn (.func 87) []]) rfl ?_
  refine call_mk hs rfl trivial ?_
  simp only [Ei.v, Ei.rv, Ei.sub, push_cast, ↓reduceIte, reduceCtorEq, Nat.reduceBEq, Nat.reduceEqDiff, Nat.reduceAdd, Nat.reduceSub, Nat.reduceLT, Nat.reduceLeDiff, Nat.reduceMul]
set_option maxRecDepth 100000 in
theorem econj_t (x : Ei) (hx : x.In 4611686018427387903) : Triple Go.Proofs.Try.prog 58 [x.v] [] (.tup [x.conj.v, bl true]) [] := by
  refine eisen_Conj_triple rfl (by decide) ?_
  have h := hx
  unfold Ei.In at h
  simp only [eisen_Conj_pc, Ei.v, Ei.rv, List.length_nil, push_cast, ↓reduceIte, reduceCtorEq, Nat.reduceBEq, Nat.reduceEqDiff, Nat.reduceAdd, Nat.reduceSub, Nat.reduceLT, Nat.reduceLeDiff, Nat.reduceMul]
  refine call_mk (add_t _ _ (by unfold in64; omega) (by unfold in64; omega)) rfl trivial ?_
  rw [sm_in (by unfold in64; omega)]
  simp only [push_cast, ↓reduceIte, reduceCtorEq, Nat.reduceBEq, Nat.reduceEqDiff, Nat.reduceAdd, Nat.reduceSub, Nat.reduceLT, Nat.reduceLeDiff, Nat.reduceMul]
  refine call_mk (neg_t _ (by unfold in64; omega)) rfl trivial ?_
  rw [sm_in (by unfold in64; omega)]
  simp only [push_cast, ↓reduceIte, reduceCtorEq, Nat.reduceBEq, Nat.reduceEqDiff, Nat.reduceAdd, Nat.reduceSub, Nat.reduceLT, Nat.reduceLeDiff, Nat.reduceMul]
  refine call_mk (both_t _ _) rfl trivial ?_
  simp only [Ei.v, Ei.rv, Ei.conj, push_cast, ↓reduceIte, reduceCtorEq, Nat.reduceBEq, Nat.reduceEqDiff, Nat.reduceAdd, Nat.reduceSub, Nat.reduceLT, Nat.reduceLeDiff, Nat.reduceMul]
theorem uni_0 : uni 0 = ⟨1, 0⟩ := rfl
theorem uni_1 : uni 1 = ⟨0, 1⟩ := rfl
theorem uni_2 : uni 2 = ⟨-1, 1⟩ := rfl
theorem uni_3 : uni 3 = ⟨-1, 0⟩ := rfl
theorem uni_4 : uni 4 = ⟨0, -1⟩ := rfl
theorem uni_5 : uni 5 = ⟨1, -1⟩ := rfl
set_option maxRecDepth 100000 in
theorem eunit_t (k : Int) (hk : 0 ≤ k ∧ k < 6) : Triple Go.Proofs.Try.prog 98 [int .i64 k] [] (uni k.toNat).v [] := by
  refine eisen_Unit_triple rfl (by decide) ?_
  have hm : (IntKind.i64.wrap (Int.tmod k 6 + 6)).tmod 6 = k := by
    rw [Int.tmod_eq_emod_of_nonneg hk.1, wrap_id (by omega), Int.tmod_eq_emod_of_nonneg (by omega)]; omega
  simp only [eisen_Unit_pc, List.length_nil, hm, Ei.v, Ei.rv, push_cast, ↓reduceIte, reduceCtorEq, Nat.reduceBEq, Nat.reduceEqDiff, Nat.reduceAdd, Nat.reduceSub, Nat.reduceLT, Nat.reduceLeDiff, Nat.reduceMul]
  refine ⟨by decide, by decide, hk, by omega, ?_⟩
  rcases (show k = 0 ∨ k = 1 ∨ k = 2 ∨ k = 3 ∨ k = 4 ∨ k = 5 by omega) with rfl | rfl | rfl | rfl | rfl | rfl
  all_goals
    simp only [Int.reduceToNat, Nat.zero_mul, Nat.add_zero, Nat.zero_add, uni_0, uni_1, uni_2, uni_3, uni_4, uni_5, push_cast, ↓reduceIte, reduceCtorEq, Nat.reduceBEq, Nat.reduceEqDiff, Nat.reduceAdd, Nat.reduceSub, Nat.reduceLT, Nat.reduceLeDiff, Nat.reduceMul]
    first | done | trace_state
theorem within_t (a m : Int) (ha : in64 a) (hm : 0 ≤ m ∧ m ≤ 4611686018427387904) : Triple Go.Proofs.Try.prog 61 [int .i64 a, int .i64 m] [] (bl (decide (-m ≤ a ∧ a ≤ m))) [] := by
  refine num_Within_triple rfl (by decide) ?_
  simp only [num_Within_pc, List.length_nil, push_cast, ↓reduceIte, reduceCtorEq, Nat.reduceBEq, Nat.reduceEqDiff, Nat.reduceAdd, Nat.reduceSub, Nat.reduceLT, Nat.reduceLeDiff, Nat.reduceMul]
  rw [show IntKind.i64.wrap (0 - m) = -m by rw [wrap_id (by omega)]; omega]
  refine bl_iff ?_
  by_cases h1 : -m ≤ a <;> by_cases h2 : a ≤ m <;> by_cases h3 : a = -9223372036854775808 <;> simp [h1, h2, h3]
  all_goals omega
theorem betaN_bound (k : Nat) (h : k ≤ 12) : (betaN k).In 120000 := betaN_in k h
set_option maxRecDepth 100000 in
theorem ebeta_t (k : Int) (hk : 0 ≤ k ∧ k ≤ 12) : Triple Go.Proofs.Try.prog 39 [int .i64 k] [] (.tup [(betaN k.toNat).v, bl true]) [] := by
  refine eisen_Beta_triple rfl (by decide) ?_
  have c1 : decide (k < 0) = false := by simp; omega
  have c2 : decide (k > 20) = false := by simp; omega
  simp only [eisen_Beta_pc, List.length_nil, c1, c2, push_cast, ↓reduceIte, reduceCtorEq, Nat.reduceBEq, Nat.reduceEqDiff, Nat.reduceAdd, Nat.reduceSub, Nat.reduceLT, Nat.reduceLeDiff, Nat.reduceMul]
  refine run_loop [(14, false), (15, false), (2, false), (3, false), (4, false), (5, false)] (fun vs pos los => ∃ i : Int, 0 ≤ i ∧ i ≤ k ∧ vs = [int .i64 k, int .i64 i, .ptr 2000000 0 0, bl false, .ptr 2000001 0 0, bl true] ∧ pos = [] ∧ los = [.box [int .i64 0, int .i64 0], .box [int .i64 (betaN i.toNat).a, int .i64 (betaN i.toNat).b]])
    (fun vs _ _ => match vs with | [_, .r (.v (.int _ j)), _, _, _, _] => (k - j).toNat | _ => 0) rfl ?_ ?_
  · simp only [push_cast, ↓reduceIte, reduceCtorEq, Nat.reduceBEq, Nat.reduceEqDiff, Nat.reduceAdd, Nat.reduceSub, Nat.reduceLT, Nat.reduceLeDiff, Nat.reduceMul]
    exact ⟨0, by omega, by omega, rfl, rfl⟩
  · rintro vs pos los ⟨i, i0, ik, rfl, rfl, rfl⟩
    simp only [push_cast, ↓reduceIte, reduceCtorEq, Nat.reduceBEq, Nat.reduceEqDiff, Nat.reduceAdd, Nat.reduceSub, Nat.reduceLT, Nat.reduceLeDiff, Nat.reduceMul]
    refine cnd_mk (fun h => ?_) (fun h => ?_)
    · simp only [decide_eq_true_eq] at h
      simp only [push_cast, ↓reduceIte, reduceCtorEq, Nat.reduceBEq, Nat.reduceEqDiff, Nat.reduceAdd, Nat.reduceSub, Nat.reduceLT, Nat.reduceLeDiff, Nat.reduceMul]
      have h1 := betaN_in i.toNat (by omega)
      have h2 := betaN_in (i.toNat + 1) (by omega)
      refine call_as (as' := [(betaN i.toNat).v, beta.v]) rfl ?_
      refine call_mk (emul_t _ _ (h1.mono (by decide)) (by unfold Ei.In; decide) (h2.mono (by decide))) rfl trivial ?_
      simp only [Ei.v, Ei.rv, push_cast, ↓reduceIte, reduceCtorEq, Nat.reduceBEq, Nat.reduceEqDiff, Nat.reduceAdd, Nat.reduceSub, Nat.reduceLT, Nat.reduceLeDiff, Nat.reduceMul]
      rw [show IntKind.i64.wrap (i + 1) = i + 1 from wrap_id (by omega)]
      refine ⟨⟨i + 1, by omega, by omega, rfl, ?_⟩, by omega⟩
      rw [show (i + 1).toNat = i.toNat + 1 by omega]
      rfl
    · simp only [decide_eq_false_iff_not] at h
      have : i = k := by omega
      subst this
      simp only [Ei.v, Ei.rv, push_cast, ↓reduceIte, reduceCtorEq, Nat.reduceBEq, Nat.reduceEqDiff, Nat.reduceAdd, Nat.reduceSub, Nat.reduceLT, Nat.reduceLeDiff, Nat.reduceMul]
end Go.Ev
