import Derived.Test.YtjpejkfhkbaakaaGeo6
import Derived.Test.YtjpejkfhkbaakaaView1
namespace Go.Ev
open Go
set_option linter.unnecessarySimpa false
set_option linter.unusedSimpArgs false
set_option linter.unusedVariables false
noncomputable def apiaryref1_Floor_pc : PC :=
  (.seq (.reg [⟨(some 4), none, 0, .see (.mov (.c (.r (.v (.int .i64 0)))))⟩,
    ⟨(some 5), none, 0, .see (.mov (.c (.r (.v (.int .i64 0)))))⟩,
    ⟨(some 6), none, 0, .see (.mov (.c (.r (.v (.bool false)))))⟩])
  (.seq (.seq (.reg [⟨(some 9), none, 0, .see (.mov (.t 1))⟩,
    ⟨(some 10), none, 0, .see (.bin .leq (.t 9) (.c (.r (.v (.int .i64 0)))))⟩])
  (.cond (.t 10)
    (.seq (.reg [⟨(some 4), none, 0, .see (.mov (.c (.r (.v (.int .i64 0)))))⟩,
    ⟨(some 5), none, 0, .see (.mov (.c (.r (.v (.int .i64 0)))))⟩,
    ⟨(some 6), none, 0, .see (.mov (.c (.r (.v (.bool false)))))⟩])
    .ret)
    .skip))
  (.seq (.drw [⟨(some 11), none, 0, .see (.mov (.t 0))⟩,
    ⟨(some 12), none, 0, .see (.mov (.t 1))⟩,
    ⟨(some 13), none, 0, .see (.bin .quo (.t 11) (.t 12))⟩,
    ⟨(some 14), none, 0, .see (.mov (.t 0))⟩,
    ⟨(some 15), none, 0, .see (.mov (.t 1))⟩,
    ⟨(some 16), none, 0, .see (.bin .rem (.t 14) (.t 15))⟩,
    ⟨(some 7), none, 0, .see (.mov (.t 13))⟩,
    ⟨(some 8), none, 0, .see (.mov (.t 16))⟩]
    [[], [], [0, 1], [], [], [3, 4], [0, 1, 2], [0, 1, 2, 3, 4, 5, 6]])
  (.seq (.seq (.reg [⟨(some 17), none, 0, .see (.mov (.t 8))⟩,
    ⟨(some 18), none, 0, .see (.bin .lss (.t 17) (.c (.r (.v (.int .i64 0)))))⟩])
  (.cond (.t 18)
    (.reg [⟨(some 19), none, 0, .see (.mov (.t 7))⟩,
    ⟨(some 20), none, 0, .see (.bin .sub (.t 19) (.c (.r (.v (.int .i64 1)))))⟩,
    ⟨(some 21), none, 0, .see (.mov (.t 8))⟩,
    ⟨(some 22), none, 0, .see (.mov (.t 1))⟩,
    ⟨(some 23), none, 0, .see (.bin .add (.t 21) (.t 22))⟩,
    ⟨(some 7), none, 0, .see (.mov (.t 20))⟩,
    ⟨(some 8), none, 0, .see (.mov (.t 23))⟩])
    .skip))
  (.seq (.reg [⟨(some 24), none, 0, .see (.mov (.t 7))⟩,
    ⟨(some 25), none, 0, .see (.mov (.t 8))⟩,
    ⟨(some 4), none, 0, .see (.mov (.t 24))⟩,
    ⟨(some 5), none, 0, .see (.mov (.t 25))⟩,
    ⟨(some 6), none, 0, .see (.mov (.c (.r (.v (.bool true)))))⟩])
  .ret)))))
noncomputable abbrev apiaryref1_Floor_code : Code := (Go.Proofs.Try.f66.body).getD .skip
theorem apiaryref1_Floor_chk : chkC Go.Proofs.Try.prog 26 apiaryref1_Floor_code apiaryref1_Floor_pc = true := by kernel_rfl
theorem apiaryref1_Floor_triple {args : List AV} {po ro : List Ob} {res : AV} (hal : args.length = 2) (hpo : po.length ≤ 1000)
    (h : run Go.Proofs.Try.prog po.length (RetP po.length [(4, false, none), (5, false, none), (6, false, none)] fun v os => v = res ∧ os = ro) [.c apiaryref1_Floor_pc] ⟨argE 0 args, ob0 po⟩) : Triple Go.Proofs.Try.prog 66 args po res ro :=
  triple_of_W (fn := Go.Proofs.Try.f66) (c := apiaryref1_Floor_code) (pc := apiaryref1_Floor_pc) (rs := [(4, false, none), (5, false, none), (6, false, none)]) Go.Proofs.Try.func66 rfl (by decide) (by have := apiaryref1_Floor_chk; exact this) (by rw [hal]; decide) rfl (by kernel_rfl) (by kernel_rfl) (by decide) hpo (W_of_run h)

noncomputable def apiaryref1_Two_pc : PC :=
  (.seq (.reg [⟨(some 2), none, 0, .act (.box (.t 0))⟩,
    ⟨(some 3), none, 0, .act (.box (.t 1))⟩,
    ⟨(some 4), none, 0, .act (.new [(.r (.v (.int .i64 0))), (.r (.v (.int .i64 0)))])⟩,
    ⟨(some 5), none, 0, .see (.mov (.c (.r (.v (.bool false)))))⟩])
  (.seq (.reg [⟨(some 11), none, 0, .see (.ld (some 2) (.t 2))⟩,
    ⟨(some 12), none, 1, .call 65 [(.t 11)]⟩,
    ⟨(some 10), none, 0, .see (.mov (.t 12))⟩,
    ⟨(some 13), none, 0, .see (.ext (.t 10) 0)⟩,
    ⟨(some 14), none, 0, .see (.ext (.t 10) 1)⟩,
    ⟨(some 6), none, 0, .see (.mov (.t 13))⟩,
    ⟨(some 7), none, 0, .see (.mov (.t 14))⟩])
  (.seq (.reg [⟨(some 16), none, 0, .see (.ld (some 2) (.t 3))⟩,
    ⟨(some 17), none, 2, .call 65 [(.t 16)]⟩,
    ⟨(some 15), none, 0, .see (.mov (.t 17))⟩,
    ⟨(some 18), none, 0, .see (.ext (.t 15) 0)⟩,
    ⟨(some 19), none, 0, .see (.ext (.t 15) 1)⟩,
    ⟨(some 8), none, 0, .see (.mov (.t 18))⟩,
    ⟨(some 9), none, 0, .see (.mov (.t 19))⟩])
  (.seq (.seq (.reg [⟨(some 20), none, 0, .see (.mov (.t 7))⟩,
    ⟨(some 21), none, 0, .see (.un .not (.t 20))⟩,
    ⟨(some 22), none, 0, .see (.mov (.t 21))⟩,
    ⟨(some 23), (some (22, false)), 0, .see (.mov (.t 9))⟩,
    ⟨(some 24), (some (22, false)), 0, .see (.un .not (.t 23))⟩,
    ⟨(some 25), none, 0, .see (.pick (.t 22) (.c (.r (.v (.bool true)))) (.t 24))⟩])
  (.cond (.t 25)
    (.seq (.reg [⟨(some 26), none, 0, .see (.build [(.r (.v (.int .i64 0))), (.r (.v (.int .i64 0)))] [])⟩,
    ⟨none, none, 0, .act (.st 2 (.t 4) (.t 26))⟩,
    ⟨(some 5), none, 0, .see (.mov (.c (.r (.v (.bool false)))))⟩])
    .ret)
    .skip))
  (.seq (.reg [⟨(some 27), none, 0, .see (.mov (.t 6))⟩,
    ⟨(some 28), none, 0, .see (.mov (.t 8))⟩,
    ⟨(some 29), none, 0, .see (.build [(.r (.v (.int .i64 0))), (.r (.v (.int .i64 0)))] [(0, 1, (.t 27)), (1, 1, (.t 28))])⟩,
    ⟨none, none, 0, .act (.st 2 (.t 4) (.t 29))⟩,
    ⟨(some 5), none, 0, .see (.mov (.c (.r (.v (.bool true)))))⟩])
  .ret)))))
noncomputable abbrev apiaryref1_Two_code : Code := (Go.Proofs.Try.f50.body).getD .skip
theorem apiaryref1_Two_chk : chkC Go.Proofs.Try.prog 30 apiaryref1_Two_code apiaryref1_Two_pc = true := by kernel_rfl
theorem apiaryref1_Two_triple {args : List AV} {po ro : List Ob} {res : AV} (hal : args.length = 2) (hpo : po.length ≤ 1000)
    (h : run Go.Proofs.Try.prog po.length (RetP po.length [(4, false, some (35, (some 2))), (5, false, none)] fun v os => v = res ∧ os = ro) [.c apiaryref1_Two_pc] ⟨argE 0 args, ob0 po⟩) : Triple Go.Proofs.Try.prog 50 args po res ro :=
  triple_of_W (fn := Go.Proofs.Try.f50) (c := apiaryref1_Two_code) (pc := apiaryref1_Two_pc) (rs := [(4, false, some (35, (some 2))), (5, false, none)]) Go.Proofs.Try.func50 rfl (by decide) (by have := apiaryref1_Two_chk; exact this) (by rw [hal]; decide) rfl (by kernel_rfl) (by kernel_rfl) (by decide) hpo (W_of_run h)

noncomputable def apiaryref1_Mul_pc : PC :=
  (.seq (.reg [⟨(some 2), none, 0, .act (.box (.t 0))⟩,
    ⟨(some 3), none, 0, .act (.box (.t 1))⟩,
    ⟨(some 4), none, 0, .act (.new [(.r (.v (.int .i64 0))), (.r (.v (.int .i64 0)))])⟩,
    ⟨(some 5), none, 0, .see (.mov (.c (.r (.v (.bool false)))))⟩])
  (.seq (.reg [⟨(some 7), none, 0, .see (.fa 1 (.t 2))⟩,
    ⟨(some 8), none, 0, .see (.ld none (.t 7))⟩,
    ⟨(some 9), none, 0, .see (.fa 1 (.t 3))⟩,
    ⟨(some 10), none, 0, .see (.ld none (.t 9))⟩,
    ⟨(some 11), none, 1, .call 49 [(.t 8), (.t 10)]⟩,
    ⟨(some 6), none, 0, .act (.new [(.r (.v (.int .u64 0))), (.r (.v (.int .u64 0)))])⟩,
    ⟨none, none, 0, .act (.st 2 (.t 6) (.t 11))⟩])
  (.seq (.drw [⟨(some 12), none, 0, .see (.fa 0 (.t 2))⟩,
    ⟨(some 13), none, 0, .see (.ld none (.t 12))⟩,
    ⟨(some 14), none, 0, .see (.fa 0 (.t 3))⟩,
    ⟨(some 15), none, 0, .see (.ld none (.t 14))⟩,
    ⟨(some 16), none, 2, .call 49 [(.t 13), (.t 15)]⟩,
    ⟨(some 17), none, 0, .see (.ld (some 2) (.t 6))⟩,
    ⟨(some 18), none, 3, .call 52 [(.t 17)]⟩,
    ⟨(some 19), none, 4, .call 51 [(.t 16), (.t 18)]⟩,
    ⟨(some 20), none, 0, .see (.fa 0 (.t 2))⟩,
    ⟨(some 21), none, 0, .see (.ld none (.t 20))⟩,
    ⟨(some 22), none, 0, .see (.fa 1 (.t 3))⟩,
    ⟨(some 23), none, 0, .see (.ld none (.t 22))⟩,
    ⟨(some 24), none, 5, .call 49 [(.t 21), (.t 23)]⟩,
    ⟨(some 25), none, 0, .see (.fa 1 (.t 2))⟩,
    ⟨(some 26), none, 0, .see (.ld none (.t 25))⟩,
    ⟨(some 27), none, 0, .see (.fa 0 (.t 3))⟩,
    ⟨(some 28), none, 0, .see (.ld none (.t 27))⟩,
    ⟨(some 29), none, 6, .call 49 [(.t 26), (.t 28)]⟩,
    ⟨(some 30), none, 7, .call 51 [(.t 24), (.t 29)]⟩,
    ⟨(some 31), none, 0, .see (.ld (some 2) (.t 6))⟩,
    ⟨(some 32), none, 8, .call 51 [(.t 30), (.t 31)]⟩,
    ⟨(some 33), none, 9, .call 50 [(.t 19), (.t 32)]⟩,
    ⟨(some 34), none, 0, .see (.ext (.t 33) 0)⟩,
    ⟨(some 35), none, 0, .see (.ext (.t 33) 1)⟩,
    ⟨none, none, 0, .act (.st 2 (.t 4) (.t 34))⟩,
    ⟨(some 5), none, 0, .see (.mov (.t 35))⟩]
    [[], [0], [], [2], [0, 1, 2, 3], [], [0, 1, 2, 3, 4, 5], [0, 1, 2, 3, 4, 5, 6], [], [8], [], [10], [0, 1, 2, 3, 4, 5, 6, 7, 8, 9, 10, 11], [], [13], [], [15], [0, 1, 2, 3, 4, 5, 6, 7, 8, 9, 10, 11, 12, 13, 14, 15, 16], [0, 1, 2, 3, 4, 5, 6, 7, 8, 9, 10, 11, 12, 13, 14, 15, 16, 17], [], [0, 1, 2, 3, 4, 5, 6, 7, 8, 9, 10, 11, 12, 13, 14, 15, 16, 17, 18, 19], [0, 1, 2, 3, 4, 5, 6, 7, 8, 9, 10, 11, 12, 13, 14, 15, 16, 17, 18, 19, 20], [0, 1, 2, 3, 4, 5, 6, 7, 8, 9, 10, 11, 12, 13, 14, 15, 16, 17, 18, 19, 20, 21], [0, 1, 2, 3, 4, 5, 6, 7, 8, 9, 10, 11, 12, 13, 14, 15, 16, 17, 18, 19, 20, 21], [0, 1, 2, 3, 4, 5, 6, 7, 8, 9, 10, 11, 12, 13, 14, 15, 16, 17, 18, 19, 20, 21, 22, 23], [0, 1, 2, 3, 4, 5, 6, 7, 8, 9, 10, 11, 12, 13, 14, 15, 16, 17, 18, 19, 20, 21, 22, 23, 24]])
  .ret)))
noncomputable abbrev apiaryref1_Mul_code : Code := (Go.Proofs.Try.f28.body).getD .skip
theorem apiaryref1_Mul_chk : chkC Go.Proofs.Try.prog 36 apiaryref1_Mul_code apiaryref1_Mul_pc = true := by kernel_rfl
theorem apiaryref1_Mul_triple {args : List AV} {po ro : List Ob} {res : AV} (hal : args.length = 2) (hpo : po.length ≤ 1000)
    (h : run Go.Proofs.Try.prog po.length (RetP po.length [(4, false, some (35, (some 2))), (5, false, none)] fun v os => v = res ∧ os = ro) [.c apiaryref1_Mul_pc] ⟨argE 0 args, ob0 po⟩) : Triple Go.Proofs.Try.prog 28 args po res ro :=
  triple_of_W (fn := Go.Proofs.Try.f28) (c := apiaryref1_Mul_code) (pc := apiaryref1_Mul_pc) (rs := [(4, false, some (35, (some 2))), (5, false, none)]) Go.Proofs.Try.func28 rfl (by decide) (by have := apiaryref1_Mul_chk; exact this) (by rw [hal]; decide) rfl (by kernel_rfl) (by kernel_rfl) (by decide) hpo (W_of_run h)

noncomputable def apiaryref1_Beta_pc : PC :=
  (.seq (.reg [⟨(some 2), none, 0, .act (.new [(.r (.v (.int .i64 0))), (.r (.v (.int .i64 0)))])⟩,
    ⟨(some 3), none, 0, .see (.mov (.c (.r (.v (.bool false)))))⟩])
  (.seq (.seq (.reg [⟨(some 6), none, 0, .see (.mov (.t 0))⟩,
    ⟨(some 7), none, 0, .see (.bin .lss (.t 6) (.c (.r (.v (.int .i64 0)))))⟩,
    ⟨(some 8), none, 0, .see (.mov (.t 7))⟩,
    ⟨(some 9), (some (8, false)), 0, .see (.mov (.t 0))⟩,
    ⟨(some 10), (some (8, false)), 0, .see (.bin .gtr (.t 9) (.c (.r (.v (.int .i64 20)))))⟩,
    ⟨(some 11), none, 0, .see (.pick (.t 8) (.c (.r (.v (.bool true)))) (.t 10))⟩])
  (.cond (.t 11)
    (.seq (.reg [⟨(some 12), none, 0, .see (.build [(.r (.v (.int .i64 0))), (.r (.v (.int .i64 0)))] [])⟩,
    ⟨none, none, 0, .act (.st 2 (.t 2) (.t 12))⟩,
    ⟨(some 3), none, 0, .see (.mov (.c (.r (.v (.bool false)))))⟩])
    .ret)
    .skip))
  (.seq (.reg [⟨(some 13), none, 0, .see (.build [(.r (.v (.int .i64 0))), (.r (.v (.int .i64 0)))] [(0, 1, (.c (.r (.v (.int .i64 1)))))])⟩,
    ⟨(some 4), none, 0, .act (.new [(.r (.v (.int .i64 0))), (.r (.v (.int .i64 0)))])⟩,
    ⟨none, none, 0, .act (.st 2 (.t 4) (.t 13))⟩])
  (.seq (.seq (.reg [⟨(some 5), none, 0, .see (.mov (.c (.r (.v (.int .i64 0)))))⟩])
  (.block 0 (.loop (.seq (.seq (.reg [⟨(some 14), none, 0, .see (.mov (.t 5))⟩,
    ⟨(some 15), none, 0, .see (.mov (.t 0))⟩,
    ⟨(some 16), none, 0, .see (.bin .lss (.t 14) (.t 15))⟩])
  (.cond (.t 16)
    .skip
    (.exit 0)))
  (.seq (.block 1 (.reg [⟨(some 20), none, 0, .see (.ld (some 2) (.t 4))⟩,
    ⟨(some 21), none, 0, .see (.build [(.r (.v (.int .i64 0))), (.r (.v (.int .i64 0)))] [(0, 1, (.c (.r (.v (.int .i64 2))))), (1, 1, (.c (.r (.v (.int .i64 1)))))])⟩,
    ⟨(some 22), none, 1, .call 28 [(.t 20), (.t 21)]⟩,
    ⟨(some 19), none, 0, .see (.mov (.t 22))⟩,
    ⟨(some 23), none, 0, .see (.ext (.t 19) 0)⟩,
    ⟨(some 24), none, 0, .see (.ext (.t 19) 1)⟩,
    ⟨none, none, 0, .act (.st 2 (.t 4) (.t 23))⟩]))
  (.reg [⟨(some 17), none, 0, .see (.mov (.t 5))⟩,
    ⟨(some 18), none, 0, .see (.bin .add (.t 17) (.c (.r (.v (.int .i64 1)))))⟩,
    ⟨(some 5), none, 0, .see (.mov (.t 18))⟩]))))))
  (.seq (.reg [⟨(some 25), none, 0, .see (.ld (some 2) (.t 4))⟩,
    ⟨none, none, 0, .act (.st 2 (.t 2) (.t 25))⟩,
    ⟨(some 3), none, 0, .see (.mov (.c (.r (.v (.bool true)))))⟩])
  .ret)))))
noncomputable abbrev apiaryref1_Beta_code : Code := (Go.Proofs.Try.f31.body).getD .skip
theorem apiaryref1_Beta_chk : chkC Go.Proofs.Try.prog 26 apiaryref1_Beta_code apiaryref1_Beta_pc = true := by kernel_rfl
theorem apiaryref1_Beta_triple {args : List AV} {po ro : List Ob} {res : AV} (hal : args.length = 1) (hpo : po.length ≤ 1000)
    (h : run Go.Proofs.Try.prog po.length (RetP po.length [(2, false, some (35, (some 2))), (3, false, none)] fun v os => v = res ∧ os = ro) [.c apiaryref1_Beta_pc] ⟨argE 0 args, ob0 po⟩) : Triple Go.Proofs.Try.prog 31 args po res ro :=
  triple_of_W (fn := Go.Proofs.Try.f31) (c := apiaryref1_Beta_code) (pc := apiaryref1_Beta_pc) (rs := [(2, false, some (35, (some 2))), (3, false, none)]) Go.Proofs.Try.func31 rfl (by decide) (by have := apiaryref1_Beta_chk; exact this) (by rw [hal]; decide) rfl (by kernel_rfl) (by kernel_rfl) (by decide) hpo (W_of_run h)

noncomputable def apiaryref1_conj_pc : PC :=
  (.seq (.reg [⟨(some 2), none, 0, .act (.new [(.r (.v (.int .i64 0))), (.r (.v (.int .i64 0)))])⟩])
  (.seq (.reg [⟨(some 6), none, 0, .see (.mov (.t 0))⟩,
    ⟨(some 7), none, 1, .call 31 [(.t 6)]⟩,
    ⟨(some 5), none, 0, .see (.mov (.t 7))⟩,
    ⟨(some 8), none, 0, .see (.ext (.t 5) 0)⟩,
    ⟨(some 9), none, 0, .see (.ext (.t 5) 1)⟩,
    ⟨(some 3), none, 0, .act (.new [(.r (.v (.int .i64 0))), (.r (.v (.int .i64 0)))])⟩,
    ⟨none, none, 0, .act (.st 2 (.t 3) (.t 8))⟩,
    ⟨(some 4), none, 0, .see (.mov (.t 9))⟩])
  (.seq (.reg [⟨(some 10), none, 0, .see (.fa 0 (.t 3))⟩,
    ⟨(some 11), none, 0, .see (.ld none (.t 10))⟩,
    ⟨(some 12), none, 0, .see (.fa 1 (.t 3))⟩,
    ⟨(some 13), none, 0, .see (.ld none (.t 12))⟩,
    ⟨(some 14), none, 0, .see (.bin .add (.t 11) (.t 13))⟩,
    ⟨(some 15), none, 0, .see (.fa 1 (.t 3))⟩,
    ⟨(some 16), none, 0, .see (.ld none (.t 15))⟩,
    ⟨(some 17), none, 0, .see (.un .neg (.t 16))⟩,
    ⟨(some 18), none, 0, .see (.build [(.r (.v (.int .i64 0))), (.r (.v (.int .i64 0)))] [(0, 1, (.t 14)), (1, 1, (.t 17))])⟩,
    ⟨none, none, 0, .act (.st 2 (.t 2) (.t 18))⟩])
  .ret)))
noncomputable abbrev apiaryref1_conj_code : Code := (Go.Proofs.Try.f45.body).getD .skip
theorem apiaryref1_conj_chk : chkC Go.Proofs.Try.prog 19 apiaryref1_conj_code apiaryref1_conj_pc = true := by kernel_rfl
theorem apiaryref1_conj_triple {args : List AV} {po ro : List Ob} {res : AV} (hal : args.length = 1) (hpo : po.length ≤ 1000)
    (h : run Go.Proofs.Try.prog po.length (RetP po.length [(2, false, some (35, (some 2)))] fun v os => v = res ∧ os = ro) [.c apiaryref1_conj_pc] ⟨argE 0 args, ob0 po⟩) : Triple Go.Proofs.Try.prog 45 args po res ro :=
  triple_of_W (fn := Go.Proofs.Try.f45) (c := apiaryref1_conj_code) (pc := apiaryref1_conj_pc) (rs := [(2, false, some (35, (some 2)))]) Go.Proofs.Try.func45 rfl (by decide) (by have := apiaryref1_conj_chk; exact this) (by rw [hal]; decide) rfl (by kernel_rfl) (by kernel_rfl) (by decide) hpo (W_of_run h)

noncomputable def apiaryref1_size_pc : PC :=
  (.seq (.reg [⟨(some 2), none, 0, .see (.mov (.c (.r (.v (.int .i64 0)))))⟩])
  (.seq (.seq (.reg [⟨(some 3), none, 0, .see (.mov (.t 0))⟩,
    ⟨(some 4), none, 0, .see (.bin .lss (.t 3) (.c (.r (.v (.int .i64 0)))))⟩])
  (.cond (.t 4)
    (.seq (.reg [⟨(some 5), none, 0, .see (.mov (.t 0))⟩,
    ⟨(some 6), none, 0, .see (.un .neg (.t 5))⟩,
    ⟨(some 2), none, 0, .see (.mov (.t 6))⟩])
    .ret)
    .skip))
  (.seq (.reg [⟨(some 7), none, 0, .see (.mov (.t 0))⟩,
    ⟨(some 2), none, 0, .see (.mov (.t 7))⟩])
  .ret)))
noncomputable abbrev apiaryref1_size_code : Code := (Go.Proofs.Try.f85.body).getD .skip
theorem apiaryref1_size_chk : chkC Go.Proofs.Try.prog 8 apiaryref1_size_code apiaryref1_size_pc = true := by kernel_rfl
theorem apiaryref1_size_triple {args : List AV} {po ro : List Ob} {res : AV} (hal : args.length = 1) (hpo : po.length ≤ 1000)
    (h : run Go.Proofs.Try.prog po.length (RetP po.length [(2, false, none)] fun v os => v = res ∧ os = ro) [.c apiaryref1_size_pc] ⟨argE 0 args, ob0 po⟩) : Triple Go.Proofs.Try.prog 85 args po res ro :=
  triple_of_W (fn := Go.Proofs.Try.f85) (c := apiaryref1_size_code) (pc := apiaryref1_size_pc) (rs := [(2, false, none)]) Go.Proofs.Try.func85 rfl (by decide) (by have := apiaryref1_size_chk; exact this) (by rw [hal]; decide) rfl (by kernel_rfl) (by kernel_rfl) (by decide) hpo (W_of_run h)

noncomputable def apiaryref1_holds_pc : PC :=
  (.seq (.reg [⟨(some 6), none, 0, .see (.mov (.c (.r (.v (.bool false)))))⟩])
  (.seq (.reg [⟨(some 7), none, 0, .see (.mov (.t 0))⟩,
    ⟨(some 8), none, 0, .see (.bin .mul (.c (.r (.v (.int .i64 2)))) (.t 7))⟩,
    ⟨(some 9), none, 0, .see (.mov (.t 1))⟩,
    ⟨(some 10), none, 0, .see (.bin .add (.t 8) (.t 9))⟩,
    ⟨(some 11), none, 1, .call 85 [(.t 10)]⟩,
    ⟨(some 12), none, 0, .see (.mov (.t 2))⟩,
    ⟨(some 13), none, 0, .see (.bin .leq (.t 11) (.t 12))⟩,
    ⟨(some 14), none, 0, .see (.mov (.t 13))⟩,
    ⟨(some 15), (some (14, true)), 0, .see (.mov (.t 0))⟩,
    ⟨(some 16), (some (14, true)), 0, .see (.mov (.t 1))⟩,
    ⟨(some 17), (some (14, true)), 0, .see (.bin .mul (.c (.r (.v (.int .i64 2)))) (.t 16))⟩,
    ⟨(some 18), (some (14, true)), 0, .see (.bin .add (.t 15) (.t 17))⟩,
    ⟨(some 19), (some (14, true)), 2, .call 85 [(.t 18)]⟩,
    ⟨(some 20), (some (14, true)), 0, .see (.mov (.t 2))⟩,
    ⟨(some 21), (some (14, true)), 0, .see (.bin .leq (.t 19) (.t 20))⟩,
    ⟨(some 22), none, 0, .see (.pick (.t 14) (.t 21) (.c (.r (.v (.bool false)))))⟩,
    ⟨(some 23), none, 0, .see (.mov (.t 22))⟩,
    ⟨(some 24), (some (23, true)), 0, .see (.mov (.t 0))⟩,
    ⟨(some 25), (some (23, true)), 0, .see (.mov (.t 1))⟩,
    ⟨(some 26), (some (23, true)), 0, .see (.bin .sub (.t 24) (.t 25))⟩,
    ⟨(some 27), (some (23, true)), 3, .call 85 [(.t 26)]⟩,
    ⟨(some 28), (some (23, true)), 0, .see (.mov (.t 2))⟩,
    ⟨(some 29), (some (23, true)), 0, .see (.bin .leq (.t 27) (.t 28))⟩,
    ⟨(some 30), none, 0, .see (.pick (.t 23) (.t 29) (.c (.r (.v (.bool false)))))⟩,
    ⟨(some 6), none, 0, .see (.mov (.t 30))⟩])
  .ret))
noncomputable abbrev apiaryref1_holds_code : Code := (Go.Proofs.Try.f67.body).getD .skip
theorem apiaryref1_holds_chk : chkC Go.Proofs.Try.prog 31 apiaryref1_holds_code apiaryref1_holds_pc = true := by kernel_rfl
theorem apiaryref1_holds_triple {args : List AV} {po ro : List Ob} {res : AV} (hal : args.length = 3) (hpo : po.length ≤ 1000)
    (h : run Go.Proofs.Try.prog po.length (RetP po.length [(6, false, none)] fun v os => v = res ∧ os = ro) [.c apiaryref1_holds_pc] ⟨argE 0 args, ob0 po⟩) : Triple Go.Proofs.Try.prog 67 args po res ro :=
  triple_of_W (fn := Go.Proofs.Try.f67) (c := apiaryref1_holds_code) (pc := apiaryref1_holds_pc) (rs := [(6, false, none)]) Go.Proofs.Try.func67 rfl (by decide) (by have := apiaryref1_holds_chk; exact this) (by rw [hal]; decide) rfl (by kernel_rfl) (by kernel_rfl) (by decide) hpo (W_of_run h)

noncomputable def apiaryref1_Round_pc : PC :=
  (.seq (.reg [⟨(some 2), none, 0, .act (.box (.t 0))⟩,
    ⟨(some 4), none, 0, .act (.new [(.r (.v (.int .i64 0))), (.r (.v (.int .i64 0)))])⟩,
    ⟨(some 5), none, 0, .see (.mov (.c (.r (.v (.bool false)))))⟩])
  (.seq (.seq (.reg [⟨(some 14), none, 0, .see (.mov (.t 1))⟩,
    ⟨(some 15), none, 0, .see (.bin .lss (.t 14) (.c (.r (.v (.int .i64 1)))))⟩,
    ⟨(some 16), none, 0, .see (.mov (.t 15))⟩,
    ⟨(some 17), (some (16, false)), 0, .see (.mov (.t 1))⟩,
    ⟨(some 18), (some (16, false)), 0, .see (.bin .gtr (.t 17) (.c (.r (.v (.int .i64 1125899906842624)))))⟩,
    ⟨(some 19), none, 0, .see (.pick (.t 16) (.c (.r (.v (.bool true)))) (.t 18))⟩,
    ⟨(some 20), none, 0, .see (.mov (.t 19))⟩,
    ⟨(some 21), (some (20, false)), 0, .see (.fa 0 (.t 2))⟩,
    ⟨(some 22), (some (20, false)), 0, .see (.ld none (.t 21))⟩,
    ⟨(some 23), (some (20, false)), 0, .see (.bin .lss (.t 22) (.c (.r (.v (.int .i64 (-1152921504606846976))))))⟩,
    ⟨(some 24), none, 0, .see (.pick (.t 20) (.c (.r (.v (.bool true)))) (.t 23))⟩,
    ⟨(some 25), none, 0, .see (.mov (.t 24))⟩,
    ⟨(some 26), (some (25, false)), 0, .see (.fa 0 (.t 2))⟩,
    ⟨(some 27), (some (25, false)), 0, .see (.ld none (.t 26))⟩,
    ⟨(some 28), (some (25, false)), 0, .see (.bin .gtr (.t 27) (.c (.r (.v (.int .i64 1152921504606846976)))))⟩,
    ⟨(some 29), none, 0, .see (.pick (.t 25) (.c (.r (.v (.bool true)))) (.t 28))⟩,
    ⟨(some 30), none, 0, .see (.mov (.t 29))⟩,
    ⟨(some 31), (some (30, false)), 0, .see (.fa 1 (.t 2))⟩,
    ⟨(some 32), (some (30, false)), 0, .see (.ld none (.t 31))⟩,
    ⟨(some 33), (some (30, false)), 0, .see (.bin .lss (.t 32) (.c (.r (.v (.int .i64 (-1152921504606846976))))))⟩,
    ⟨(some 34), none, 0, .see (.pick (.t 30) (.c (.r (.v (.bool true)))) (.t 33))⟩,
    ⟨(some 35), none, 0, .see (.mov (.t 34))⟩,
    ⟨(some 36), (some (35, false)), 0, .see (.fa 1 (.t 2))⟩,
    ⟨(some 37), (some (35, false)), 0, .see (.ld none (.t 36))⟩,
    ⟨(some 38), (some (35, false)), 0, .see (.bin .gtr (.t 37) (.c (.r (.v (.int .i64 1152921504606846976)))))⟩,
    ⟨(some 39), none, 0, .see (.pick (.t 35) (.c (.r (.v (.bool true)))) (.t 38))⟩])
  (.cond (.t 39)
    (.seq (.reg [⟨(some 40), none, 0, .see (.build [(.r (.v (.int .i64 0))), (.r (.v (.int .i64 0)))] [])⟩,
    ⟨none, none, 0, .act (.st 2 (.t 4) (.t 40))⟩,
    ⟨(some 5), none, 0, .see (.mov (.c (.r (.v (.bool false)))))⟩])
    .ret)
    .skip))
  (.seq (.reg [⟨(some 42), none, 0, .see (.fa 0 (.t 2))⟩,
    ⟨(some 43), none, 0, .see (.ld none (.t 42))⟩,
    ⟨(some 44), none, 0, .see (.mov (.t 1))⟩,
    ⟨(some 45), none, 1, .call 66 [(.t 43), (.t 44)]⟩,
    ⟨(some 41), none, 0, .see (.mov (.t 45))⟩,
    ⟨(some 46), none, 0, .see (.ext (.t 41) 0)⟩,
    ⟨(some 47), none, 0, .see (.ext (.t 41) 1)⟩,
    ⟨(some 48), none, 0, .see (.ext (.t 41) 2)⟩,
    ⟨(some 6), none, 0, .see (.mov (.t 46))⟩,
    ⟨(some 7), none, 0, .see (.mov (.t 47))⟩,
    ⟨(some 8), none, 0, .see (.mov (.t 48))⟩])
  (.seq (.reg [⟨(some 50), none, 0, .see (.fa 1 (.t 2))⟩,
    ⟨(some 51), none, 0, .see (.ld none (.t 50))⟩,
    ⟨(some 52), none, 0, .see (.mov (.t 1))⟩,
    ⟨(some 53), none, 2, .call 66 [(.t 51), (.t 52)]⟩,
    ⟨(some 49), none, 0, .see (.mov (.t 53))⟩,
    ⟨(some 54), none, 0, .see (.ext (.t 49) 0)⟩,
    ⟨(some 55), none, 0, .see (.ext (.t 49) 1)⟩,
    ⟨(some 56), none, 0, .see (.ext (.t 49) 2)⟩,
    ⟨(some 9), none, 0, .see (.mov (.t 54))⟩,
    ⟨(some 10), none, 0, .see (.mov (.t 55))⟩,
    ⟨(some 11), none, 0, .see (.mov (.t 56))⟩])
  (.seq (.seq (.reg [⟨(some 12), none, 0, .see (.mov (.c (.r (.v (.int .i64 (-1))))))⟩])
  (.block 0 (.loop (.seq (.seq (.reg [⟨(some 57), none, 0, .see (.mov (.t 12))⟩,
    ⟨(some 58), none, 0, .see (.bin .leq (.t 57) (.c (.r (.v (.int .i64 2)))))⟩])
  (.cond (.t 58)
    .skip
    (.exit 0)))
  (.seq (.block 1 (.seq (.reg [⟨(some 13), none, 0, .see (.mov (.c (.r (.v (.int .i64 (-1))))))⟩])
  (.block 2 (.loop (.seq (.seq (.reg [⟨(some 61), none, 0, .see (.mov (.t 13))⟩,
    ⟨(some 62), none, 0, .see (.bin .leq (.t 61) (.c (.r (.v (.int .i64 2)))))⟩])
  (.cond (.t 62)
    .skip
    (.exit 2)))
  (.seq (.block 3 (.seq (.reg [⟨(some 65), none, 0, .see (.mov (.t 7))⟩,
    ⟨(some 66), none, 0, .see (.mov (.t 12))⟩,
    ⟨(some 67), none, 0, .see (.mov (.t 1))⟩,
    ⟨(some 68), none, 0, .see (.bin .mul (.t 66) (.t 67))⟩,
    ⟨(some 69), none, 0, .see (.bin .sub (.t 65) (.t 68))⟩,
    ⟨(some 70), none, 0, .see (.mov (.t 10))⟩,
    ⟨(some 71), none, 0, .see (.mov (.t 13))⟩,
    ⟨(some 72), none, 0, .see (.mov (.t 1))⟩,
    ⟨(some 73), none, 0, .see (.bin .mul (.t 71) (.t 72))⟩,
    ⟨(some 74), none, 0, .see (.bin .sub (.t 70) (.t 73))⟩,
    ⟨(some 75), none, 0, .see (.mov (.t 1))⟩,
    ⟨(some 76), none, 3, .call 67 [(.t 69), (.t 74), (.t 75)]⟩])
  (.cond (.t 76)
    (.seq (.reg [⟨(some 77), none, 0, .see (.mov (.t 6))⟩,
    ⟨(some 78), none, 0, .see (.mov (.t 12))⟩,
    ⟨(some 79), none, 0, .see (.bin .add (.t 77) (.t 78))⟩,
    ⟨(some 80), none, 0, .see (.mov (.t 9))⟩,
    ⟨(some 81), none, 0, .see (.mov (.t 13))⟩,
    ⟨(some 82), none, 0, .see (.bin .add (.t 80) (.t 81))⟩,
    ⟨(some 83), none, 0, .see (.build [(.r (.v (.int .i64 0))), (.r (.v (.int .i64 0)))] [(0, 1, (.t 79)), (1, 1, (.t 82))])⟩,
    ⟨none, none, 0, .act (.st 2 (.t 4) (.t 83))⟩,
    ⟨(some 5), none, 0, .see (.mov (.c (.r (.v (.bool true)))))⟩])
    .ret)
    .skip)))
  (.reg [⟨(some 63), none, 0, .see (.mov (.t 13))⟩,
    ⟨(some 64), none, 0, .see (.bin .add (.t 63) (.c (.r (.v (.int .i64 1)))))⟩,
    ⟨(some 13), none, 0, .see (.mov (.t 64))⟩])))))))
  (.reg [⟨(some 59), none, 0, .see (.mov (.t 12))⟩,
    ⟨(some 60), none, 0, .see (.bin .add (.t 59) (.c (.r (.v (.int .i64 1)))))⟩,
    ⟨(some 12), none, 0, .see (.mov (.t 60))⟩]))))))
  (.seq (.reg [⟨(some 84), none, 0, .see (.build [(.r (.v (.int .i64 0))), (.r (.v (.int .i64 0)))] [])⟩,
    ⟨none, none, 0, .act (.st 2 (.t 4) (.t 84))⟩,
    ⟨(some 5), none, 0, .see (.mov (.c (.r (.v (.bool false)))))⟩])
  .ret))))))
noncomputable abbrev apiaryref1_Round_code : Code := (Go.Proofs.Try.f46.body).getD .skip
theorem apiaryref1_Round_chk : chkC Go.Proofs.Try.prog 85 apiaryref1_Round_code apiaryref1_Round_pc = true := by kernel_rfl
theorem apiaryref1_Round_triple {args : List AV} {po ro : List Ob} {res : AV} (hal : args.length = 2) (hpo : po.length ≤ 1000)
    (h : run Go.Proofs.Try.prog po.length (RetP po.length [(4, false, some (35, (some 2))), (5, false, none)] fun v os => v = res ∧ os = ro) [.c apiaryref1_Round_pc] ⟨argE 0 args, ob0 po⟩) : Triple Go.Proofs.Try.prog 46 args po res ro :=
  triple_of_W (fn := Go.Proofs.Try.f46) (c := apiaryref1_Round_code) (pc := apiaryref1_Round_pc) (rs := [(4, false, some (35, (some 2))), (5, false, none)]) Go.Proofs.Try.func46 rfl (by decide) (by have := apiaryref1_Round_chk; exact this) (by rw [hal]; decide) rfl (by kernel_rfl) (by kernel_rfl) (by decide) hpo (W_of_run h)

noncomputable def apiaryref1_World_pc : PC :=
  (.seq (.reg [⟨(some 4), none, 0, .see (.mov (.c (.r (.v (.bool false)))))⟩])
  (.seq (.reg [⟨(some 5), none, 0, .see (.mov (.t 0))⟩,
    ⟨(some 6), none, 0, .see (.bin .geq (.t 5) (.c (.r (.v (.int .i64 0)))))⟩,
    ⟨(some 7), none, 0, .see (.mov (.t 6))⟩,
    ⟨(some 8), (some (7, true)), 0, .see (.mov (.t 0))⟩,
    ⟨(some 9), (some (7, true)), 0, .see (.bin .lss (.t 8) (.c (.r (.v (.int .i64 1073741824)))))⟩,
    ⟨(some 10), none, 0, .see (.pick (.t 7) (.t 9) (.c (.r (.v (.bool false)))))⟩,
    ⟨(some 11), none, 0, .see (.mov (.t 10))⟩,
    ⟨(some 12), (some (11, true)), 0, .see (.mov (.t 1))⟩,
    ⟨(some 13), (some (11, true)), 0, .see (.bin .geq (.t 12) (.c (.r (.v (.int .i64 0)))))⟩,
    ⟨(some 14), none, 0, .see (.pick (.t 11) (.t 13) (.c (.r (.v (.bool false)))))⟩,
    ⟨(some 15), none, 0, .see (.mov (.t 14))⟩,
    ⟨(some 16), (some (15, true)), 0, .see (.mov (.t 1))⟩,
    ⟨(some 17), (some (15, true)), 0, .see (.bin .lss (.t 16) (.c (.r (.v (.int .i64 1073741824)))))⟩,
    ⟨(some 18), none, 0, .see (.pick (.t 15) (.t 17) (.c (.r (.v (.bool false)))))⟩,
    ⟨(some 4), none, 0, .see (.mov (.t 18))⟩])
  .ret))
noncomputable abbrev apiaryref1_World_code : Code := (Go.Proofs.Try.f44.body).getD .skip
theorem apiaryref1_World_chk : chkC Go.Proofs.Try.prog 19 apiaryref1_World_code apiaryref1_World_pc = true := by kernel_rfl
theorem apiaryref1_World_triple {args : List AV} {po ro : List Ob} {res : AV} (hal : args.length = 2) (hpo : po.length ≤ 1000)
    (h : run Go.Proofs.Try.prog po.length (RetP po.length [(4, false, none)] fun v os => v = res ∧ os = ro) [.c apiaryref1_World_pc] ⟨argE 0 args, ob0 po⟩) : Triple Go.Proofs.Try.prog 44 args po res ro :=
  triple_of_W (fn := Go.Proofs.Try.f44) (c := apiaryref1_World_code) (pc := apiaryref1_World_pc) (rs := [(4, false, none)]) Go.Proofs.Try.func44 rfl (by decide) (by have := apiaryref1_World_chk; exact this) (by rw [hal]; decide) rfl (by kernel_rfl) (by kernel_rfl) (by decide) hpo (W_of_run h)

noncomputable def apiaryref1_Near_pc : PC :=
  (.seq (.reg [⟨(some 6), none, 0, .act (.new [(.r (.v (.int .i64 0))), (.r (.v (.int .i64 0)))])⟩,
    ⟨(some 7), none, 0, .see (.mov (.c (.r (.v (.bool false)))))⟩])
  (.seq (.seq (.reg [⟨(some 10), none, 0, .see (.mov (.t 0))⟩,
    ⟨(some 11), none, 0, .see (.mov (.t 1))⟩,
    ⟨(some 12), none, 1, .call 44 [(.t 10), (.t 11)]⟩,
    ⟨(some 13), none, 0, .see (.un .not (.t 12))⟩,
    ⟨(some 14), none, 0, .see (.mov (.t 13))⟩,
    ⟨(some 15), (some (14, false)), 0, .see (.mov (.t 2))⟩,
    ⟨(some 16), (some (14, false)), 0, .see (.bin .lss (.t 15) (.c (.r (.v (.int .i64 0)))))⟩,
    ⟨(some 17), none, 0, .see (.pick (.t 14) (.c (.r (.v (.bool true)))) (.t 16))⟩,
    ⟨(some 18), none, 0, .see (.mov (.t 17))⟩,
    ⟨(some 19), (some (18, false)), 0, .see (.mov (.t 2))⟩,
    ⟨(some 20), (some (18, false)), 0, .see (.bin .gtr (.t 19) (.c (.r (.v (.int .i64 12)))))⟩,
    ⟨(some 21), none, 0, .see (.pick (.t 18) (.c (.r (.v (.bool true)))) (.t 20))⟩])
  (.cond (.t 21)
    (.seq (.reg [⟨(some 22), none, 0, .see (.build [(.r (.v (.int .i64 0))), (.r (.v (.int .i64 0)))] [])⟩,
    ⟨none, none, 0, .act (.st 2 (.t 6) (.t 22))⟩,
    ⟨(some 7), none, 0, .see (.mov (.c (.r (.v (.bool false)))))⟩])
    .ret)
    .skip))
  (.seq (.reg [⟨(some 24), none, 0, .see (.mov (.t 0))⟩,
    ⟨(some 25), none, 0, .see (.bin .mul (.c (.r (.v (.int .i64 45)))) (.t 24))⟩,
    ⟨(some 26), none, 0, .see (.mov (.t 1))⟩,
    ⟨(some 27), none, 0, .see (.bin .mul (.c (.r (.v (.int .i64 26)))) (.t 26))⟩,
    ⟨(some 28), none, 0, .see (.bin .sub (.t 25) (.t 27))⟩,
    ⟨(some 29), none, 0, .see (.mov (.t 1))⟩,
    ⟨(some 30), none, 0, .see (.bin .mul (.c (.r (.v (.int .i64 52)))) (.t 29))⟩,
    ⟨(some 31), none, 0, .see (.build [(.r (.v (.int .i64 0))), (.r (.v (.int .i64 0)))] [(0, 1, (.t 28)), (1, 1, (.t 30))])⟩,
    ⟨(some 32), none, 0, .see (.mov (.t 2))⟩,
    ⟨(some 33), none, 0, .see (.bin .sub (.c (.r (.v (.int .i64 12)))) (.t 32))⟩,
    ⟨(some 34), none, 2, .call 45 [(.t 33)]⟩,
    ⟨(some 35), none, 3, .call 28 [(.t 31), (.t 34)]⟩,
    ⟨(some 23), none, 0, .see (.mov (.t 35))⟩,
    ⟨(some 36), none, 0, .see (.ext (.t 23) 0)⟩,
    ⟨(some 37), none, 0, .see (.ext (.t 23) 1)⟩,
    ⟨(some 8), none, 0, .act (.new [(.r (.v (.int .i64 0))), (.r (.v (.int .i64 0)))])⟩,
    ⟨none, none, 0, .act (.st 2 (.t 8) (.t 36))⟩,
    ⟨(some 9), none, 0, .see (.mov (.t 37))⟩])
  (.seq (.drw [⟨(some 38), none, 0, .see (.ld (some 2) (.t 8))⟩,
    ⟨(some 39), none, 0, .see (.mov (.t 2))⟩,
    ⟨(some 40), none, 0, .see (.bin .sub (.c (.r (.v (.int .i64 12)))) (.t 39))⟩,
    ⟨(some 41), none, 4, .call 24 [(.t 40)]⟩,
    ⟨(some 42), none, 0, .see (.bin .mul (.c (.r (.v (.int .i64 2340)))) (.t 41))⟩,
    ⟨(some 43), none, 5, .call 46 [(.t 38), (.t 42)]⟩,
    ⟨(some 44), none, 0, .see (.ext (.t 43) 0)⟩,
    ⟨(some 45), none, 0, .see (.ext (.t 43) 1)⟩,
    ⟨none, none, 0, .act (.st 2 (.t 6) (.t 44))⟩,
    ⟨(some 7), none, 0, .see (.mov (.t 45))⟩]
    [[], [], [1], [1, 2], [1, 2, 3], [0, 1, 2, 3, 4], [0, 1, 2, 3, 4, 5], [0, 1, 2, 3, 4, 5], [0, 1, 2, 3, 4, 5, 6, 7], [0, 1, 2, 3, 4, 5, 6, 7, 8]])
  .ret))))
noncomputable abbrev apiaryref1_Near_code : Code := (Go.Proofs.Try.f26.body).getD .skip
theorem apiaryref1_Near_chk : chkC Go.Proofs.Try.prog 46 apiaryref1_Near_code apiaryref1_Near_pc = true := by kernel_rfl
theorem apiaryref1_Near_triple {args : List AV} {po ro : List Ob} {res : AV} (hal : args.length = 3) (hpo : po.length ≤ 1000)
    (h : run Go.Proofs.Try.prog po.length (RetP po.length [(6, false, some (35, (some 2))), (7, false, none)] fun v os => v = res ∧ os = ro) [.c apiaryref1_Near_pc] ⟨argE 0 args, ob0 po⟩) : Triple Go.Proofs.Try.prog 26 args po res ro :=
  triple_of_W (fn := Go.Proofs.Try.f26) (c := apiaryref1_Near_code) (pc := apiaryref1_Near_pc) (rs := [(6, false, some (35, (some 2))), (7, false, none)]) Go.Proofs.Try.func26 rfl (by decide) (by have := apiaryref1_Near_chk; exact this) (by rw [hal]; decide) rfl (by kernel_rfl) (by kernel_rfl) (by decide) hpo (W_of_run h)

set_option maxRecDepth 100000 in
theorem rfloor_t (a b : Int) (ha : in64 a) (hb : in64 b) : Triple Go.Proofs.Try.prog 66 [int .i64 a, int .i64 b] [] (.tup [int .i64 (if 0 < b then a / b else 0), int .i64 (if 0 < b then a % b else 0), bl (decide (0 < b))]) [] := by
  refine apiaryref1_Floor_triple rfl (by decide) ?_
  simp only [apiaryref1_Floor_pc, List.length_nil, push_cast, ↓reduceIte, reduceCtorEq, Nat.reduceBEq, Nat.reduceEqDiff, Nat.reduceAdd, Nat.reduceSub, Nat.reduceLT, Nat.reduceLeDiff, Nat.reduceMul]
  refine cnd_mk (fun h => ?_) (fun h => ?_)
  · simp only [push_cast, ↓reduceIte, reduceCtorEq, Nat.reduceBEq, Nat.reduceEqDiff, Nat.reduceAdd, Nat.reduceSub, Nat.reduceLT, Nat.reduceLeDiff, Nat.reduceMul]
    simp at h
    have : ¬ 0 < b := by omega
    simp [this]
  · simp only [push_cast, ↓reduceIte, reduceCtorEq, Nat.reduceBEq, Nat.reduceEqDiff, Nat.reduceAdd, Nat.reduceSub, Nat.reduceLT, Nat.reduceLeDiff, Nat.reduceMul]
    simp at h
    refine ⟨by omega, by omega, by kernel_rfl, ?_⟩
    obtain ⟨q1, q2, q3⟩ := floor_facts ha h
    have hw : IntKind.i64.wrap (a.tdiv b) = a.tdiv b := wrap_i64_tdiv a b ha.1 ha.2 (by omega)
    rw [hw]
    refine cnd_mk (fun h' => ?_) (fun h' => ?_)
    · simp only [push_cast, ↓reduceIte, reduceCtorEq, Nat.reduceBEq, Nat.reduceEqDiff, Nat.reduceAdd, Nat.reduceSub, Nat.reduceLT, Nat.reduceLeDiff, Nat.reduceMul]
      simp at h'
      obtain ⟨e1, e2⟩ := q2 h'
      refine tup3 (int_eq ?_) (int_eq ?_) (bl_eq ?_)
      · rw [if_pos h, ← e1, wrap_id]
        unfold in64 at ha; rw [e1]; omega
      · rw [if_pos h, ← e2, wrap_id]
        have h5 := Int.emod_lt_of_pos a h
        have h6 := Int.emod_nonneg a (show b ≠ 0 by omega)
        rw [e2]
        unfold in64 at hb; omega
      · simp [h]
    · simp only [push_cast, ↓reduceIte, reduceCtorEq, Nat.reduceBEq, Nat.reduceEqDiff, Nat.reduceAdd, Nat.reduceSub, Nat.reduceLT, Nat.reduceLeDiff, Nat.reduceMul]
      simp at h'
      obtain ⟨e1, e2⟩ := q3 h'
      refine tup3 (int_eq ?_) (int_eq ?_) (bl_eq ?_)
      · rw [if_pos h, e1]
      · rw [if_pos h, e2]
      · simp [h]

set_option maxRecDepth 100000 in
theorem rtwo_t (a b : Int) (ha : in64 a) (hb : in64 b) : Triple Go.Proofs.Try.prog 50 [wide a, wide b] [] (.tup [Ei.v ⟨a, b⟩, bl true]) [] := by
  refine apiaryref1_Two_triple rfl (by decide) ?_
  simp only [apiaryref1_Two_pc, wide, List.length_nil, push_cast, ↓reduceIte, reduceCtorEq, Nat.reduceBEq, Nat.reduceEqDiff, Nat.reduceAdd, Nat.reduceSub, Nat.reduceLT, Nat.reduceLeDiff, Nat.reduceMul]
  have ha' := ha
  have hb' := hb
  unfold in64 at ha' hb'
  refine call_as (as' := [wide a]) rfl ?_
  refine call_mk (small_t a (by omega)) rfl trivial ?_
  rw [sm_in ha]
  simp only [push_cast, ↓reduceIte, reduceCtorEq, Nat.reduceBEq, Nat.reduceEqDiff, Nat.reduceAdd, Nat.reduceSub, Nat.reduceLT, Nat.reduceLeDiff, Nat.reduceMul]
  refine call_as (as' := [wide b]) rfl ?_
  refine call_mk (small_t b (by omega)) rfl trivial ?_
  rw [sm_in hb]
  simp only [Ei.v, Ei.rv, push_cast, ↓reduceIte, reduceCtorEq, Nat.reduceBEq, Nat.reduceEqDiff, Nat.reduceAdd, Nat.reduceSub, Nat.reduceLT, Nat.reduceLeDiff, Nat.reduceMul]
set_option maxRecDepth 100000 in
theorem rmul_t (x y : Ei) (hx : x.In M63) (hy : y.In M63) (hz : (x.mul y).In M63) : Triple Go.Proofs.Try.prog 28 [x.v, y.v] [] (.tup [(x.mul y).v, bl true]) [] := by
  refine apiaryref1_Mul_triple rfl (by decide) ?_
  simp only [apiaryref1_Mul_pc, Ei.v, Ei.rv, List.length_nil, push_cast, ↓reduceIte, reduceCtorEq, Nat.reduceBEq, Nat.reduceEqDiff, Nat.reduceAdd, Nat.reduceSub, Nat.reduceLT, Nat.reduceLeDiff, Nat.reduceMul]
  refine call_mk (times_t x.b y.b hx.ok.2 hy.ok.2) rfl trivial ?_
  simp only [wide, push_cast, ↓reduceIte, reduceCtorEq, Nat.reduceBEq, Nat.reduceEqDiff, Nat.reduceAdd, Nat.reduceSub, Nat.reduceLT, Nat.reduceLeDiff, Nat.reduceMul]
  refine dcall_mk (times_t x.a y.a hx.ok.1 hy.ok.1) rfl trivial ?_
  simp only [wide, push_cast, ↓reduceIte, reduceCtorEq, Nat.reduceBEq, Nat.reduceEqDiff, Nat.reduceAdd, Nat.reduceSub, Nat.reduceLT, Nat.reduceLeDiff, Nat.reduceMul]
  refine dcall_as (as' := [wide (x.b * y.b)]) rfl ?_
  refine dcall_mk (turned_t _) rfl trivial ?_
  simp only [wide, push_cast, ↓reduceIte, reduceCtorEq, Nat.reduceBEq, Nat.reduceEqDiff, Nat.reduceAdd, Nat.reduceSub, Nat.reduceLT, Nat.reduceLeDiff, Nat.reduceMul]
  refine dcall_as (as' := [wide (x.a * y.a), wide (-(x.b * y.b))]) rfl ?_
  refine dcall_mk (plus_t _ _) rfl trivial ?_
  simp only [wide, push_cast, ↓reduceIte, reduceCtorEq, Nat.reduceBEq, Nat.reduceEqDiff, Nat.reduceAdd, Nat.reduceSub, Nat.reduceLT, Nat.reduceLeDiff, Nat.reduceMul]
  refine dcall_mk (times_t x.a y.b hx.ok.1 hy.ok.2) rfl trivial ?_
  simp only [wide, push_cast, ↓reduceIte, reduceCtorEq, Nat.reduceBEq, Nat.reduceEqDiff, Nat.reduceAdd, Nat.reduceSub, Nat.reduceLT, Nat.reduceLeDiff, Nat.reduceMul]
  refine dcall_mk (times_t x.b y.a hx.ok.2 hy.ok.1) rfl trivial ?_
  simp only [wide, push_cast, ↓reduceIte, reduceCtorEq, Nat.reduceBEq, Nat.reduceEqDiff, Nat.reduceAdd, Nat.reduceSub, Nat.reduceLT, Nat.reduceLeDiff, Nat.reduceMul]
  refine dcall_as (as' := [wide (x.a * y.b), wide (x.b * y.a)]) rfl ?_
  refine dcall_mk (plus_t _ _) rfl trivial ?_
  simp only [wide, push_cast, ↓reduceIte, reduceCtorEq, Nat.reduceBEq, Nat.reduceEqDiff, Nat.reduceAdd, Nat.reduceSub, Nat.reduceLT, Nat.reduceLeDiff, Nat.reduceMul]
  refine dcall_as (as' := [wide (x.a * y.b + x.b * y.a), wide (x.b * y.b)]) rfl ?_
  refine dcall_mk (plus_t _ _) rfl trivial ?_
  simp only [wide, push_cast, ↓reduceIte, reduceCtorEq, Nat.reduceBEq, Nat.reduceEqDiff, Nat.reduceAdd, Nat.reduceSub, Nat.reduceLT, Nat.reduceLeDiff, Nat.reduceMul]
  refine dcall_as (as' := [wide (x.a * y.a + -(x.b * y.b)), wide (x.a * y.b + x.b * y.a + x.b * y.b)]) rfl ?_
  have e : x.a * y.a + -(x.b * y.b) = (x.mul y).a := by simp only [Ei.mul]; omega
  have e' : x.a * y.b + x.b * y.a + x.b * y.b = (x.mul y).b := rfl
  rw [e, e']
  refine dcall_mk (rtwo_t _ _ hz.ok.1 hz.ok.2) rfl trivial ?_
  simp only [Ei.v, Ei.rv, push_cast, ↓reduceIte, reduceCtorEq, Nat.reduceBEq, Nat.reduceEqDiff, Nat.reduceAdd, Nat.reduceSub, Nat.reduceLT, Nat.reduceLeDiff, Nat.reduceMul]
  kernel_rfl
set_option maxRecDepth 100000 in
theorem rbeta_t (k : Int) (hk : 0 ≤ k ∧ k ≤ 12) : Triple Go.Proofs.Try.prog 31 [int .i64 k] [] (.tup [(betaN k.toNat).v, bl true]) [] := by
  refine apiaryref1_Beta_triple rfl (by decide) ?_
  have c1 : decide (k < 0) = false := by simp; omega
  have c2 : decide (k > 20) = false := by simp; omega
  simp only [apiaryref1_Beta_pc, List.length_nil, c1, c2, push_cast, ↓reduceIte, reduceCtorEq, Nat.reduceBEq, Nat.reduceEqDiff, Nat.reduceAdd, Nat.reduceSub, Nat.reduceLT, Nat.reduceLeDiff, Nat.reduceMul]
  refine run_loop [(5, false), (0, false), (4, false), (2, false)] (fun vs pos los => ∃ i : Int, 0 ≤ i ∧ i ≤ k ∧ vs = [int .i64 i, int .i64 k, .ptr 2000000 0 0, .ptr 2000001 0 0] ∧ pos = [] ∧ los = [.box [int .i64 (betaN i.toNat).a, int .i64 (betaN i.toNat).b], .box [int .i64 0, int .i64 0]])
    (fun vs _ _ => match vs with | .r (.v (.int _ j)) :: _ => (k - j).toNat | _ => 0) rfl ?_ ?_
  · simp only [push_cast, ↓reduceIte, reduceCtorEq, Nat.reduceBEq, Nat.reduceEqDiff, Nat.reduceAdd, Nat.reduceSub, Nat.reduceLT, Nat.reduceLeDiff, Nat.reduceMul]
    exact ⟨0, by omega, by omega, rfl, rfl⟩
  · rintro vs pos los ⟨i, i0, ik, rfl, rfl, rfl⟩
    simp only [push_cast, ↓reduceIte, reduceCtorEq, Nat.reduceBEq, Nat.reduceEqDiff, Nat.reduceAdd, Nat.reduceSub, Nat.reduceLT, Nat.reduceLeDiff, Nat.reduceMul]
    refine cnd_mk (fun h => ?_) (fun h => ?_)
    · simp only [decide_eq_true_eq] at h
      simp only [push_cast, ↓reduceIte, reduceCtorEq, Nat.reduceBEq, Nat.reduceEqDiff, Nat.reduceAdd, Nat.reduceSub, Nat.reduceLT, Nat.reduceLeDiff, Nat.reduceMul]
      have h1 := betaN_in i.toNat (by omega)
      have h2 := betaN_in (i.toNat + 1) (by omega)
      refine call_as (as' := [(betaN i.toNat).v, beta.v]) rfl ?_
      refine call_mk (rmul_t _ _ (h1.mono (by decide)) (by unfold Ei.In; decide) (h2.mono (by decide))) rfl trivial ?_
      simp only [Ei.v, Ei.rv, push_cast, ↓reduceIte, reduceCtorEq, Nat.reduceBEq, Nat.reduceEqDiff, Nat.reduceAdd, Nat.reduceSub, Nat.reduceLT, Nat.reduceLeDiff, Nat.reduceMul]
      rw [show IntKind.i64.wrap (i + 1) = i + 1 from wrap_id (by omega)]
      refine ⟨⟨i + 1, by omega, by omega, rfl, ?_⟩, by omega⟩
      rw [show (i + 1).toNat = i.toNat + 1 by omega]
      rfl
    · simp only [decide_eq_false_iff_not] at h
      have : i = k := by omega
      subst this
      simp only [Ei.v, Ei.rv, push_cast, ↓reduceIte, reduceCtorEq, Nat.reduceBEq, Nat.reduceEqDiff, Nat.reduceAdd, Nat.reduceSub, Nat.reduceLT, Nat.reduceLeDiff, Nat.reduceMul]
set_option maxRecDepth 100000 in
theorem rconj_t (k : Int) (hk : 0 ≤ k ∧ k ≤ 12) : Triple Go.Proofs.Try.prog 45 [int .i64 k] [] ((betaN k.toNat).conj.v) [] := by
  refine apiaryref1_conj_triple rfl (by decide) ?_
  simp only [apiaryref1_conj_pc, List.length_nil, push_cast, ↓reduceIte, reduceCtorEq, Nat.reduceBEq, Nat.reduceEqDiff, Nat.reduceAdd, Nat.reduceSub, Nat.reduceLT, Nat.reduceLeDiff, Nat.reduceMul]
  refine call_mk (rbeta_t k hk) rfl trivial ?_
  have hb := betaN_in k.toNat (by omega)
  unfold Ei.In at hb
  simp only [Ei.v, Ei.rv, Ei.conj, push_cast, ↓reduceIte, reduceCtorEq, Nat.reduceBEq, Nat.reduceEqDiff, Nat.reduceAdd, Nat.reduceSub, Nat.reduceLT, Nat.reduceLeDiff, Nat.reduceMul]
  rw [wrap_id (by omega), wrap_id (by omega), Int.zero_sub]
set_option maxRecDepth 100000 in
theorem rsize_t (n : Int) (h : in64 n) (h' : n ≠ -9223372036854775808) : Triple Go.Proofs.Try.prog 85 [int .i64 n] [] (int .i64 n.natAbs) [] := by
  refine apiaryref1_size_triple rfl (by decide) ?_
  simp only [apiaryref1_size_pc, List.length_nil, push_cast, ↓reduceIte, reduceCtorEq, Nat.reduceBEq, Nat.reduceEqDiff, Nat.reduceAdd, Nat.reduceSub, Nat.reduceLT, Nat.reduceLeDiff, Nat.reduceMul]
  unfold in64 at h
  refine cnd_mk (fun hc => ?_) (fun hc => ?_)
  · simp at hc
    simp only [push_cast, ↓reduceIte, reduceCtorEq, Nat.reduceBEq, Nat.reduceEqDiff, Nat.reduceAdd, Nat.reduceSub, Nat.reduceLT, Nat.reduceLeDiff, Nat.reduceMul]
    rw [wrap_id (by omega)]
    rw [show 0 - n = (n.natAbs : Int) by omega]
  · simp at hc
    simp only [push_cast, ↓reduceIte, reduceCtorEq, Nat.reduceBEq, Nat.reduceEqDiff, Nat.reduceAdd, Nat.reduceSub, Nat.reduceLT, Nat.reduceLeDiff, Nat.reduceMul]
    rw [show n = (n.natAbs : Int) by omega]
    simp
set_option maxRecDepth 100000 in
theorem rholds_t (s t d : Int) (hs : -9007199254740992 ≤ s ∧ s ≤ 9007199254740992) (ht : -9007199254740992 ≤ t ∧ t ≤ 9007199254740992) : Triple Go.Proofs.Try.prog 67 [int .i64 s, int .i64 t, int .i64 d] [] (bl (decide (holds d s t))) [] := by
  refine apiaryref1_holds_triple rfl (by decide) ?_
  simp only [apiaryref1_holds_pc, List.length_nil, push_cast, ↓reduceIte, reduceCtorEq, Nat.reduceBEq, Nat.reduceEqDiff, Nat.reduceAdd, Nat.reduceSub, Nat.reduceLT, Nat.reduceLeDiff, Nat.reduceMul]
  rw [show IntKind.i64.wrap (2 * s) = 2 * s from wrap_id (by omega), show IntKind.i64.wrap (2 * s + t) = 2 * s + t from wrap_id (by omega)]
  refine call_mk (rsize_t _ (by unfold in64; omega) (by omega)) rfl trivial ?_
  by_cases h1 : ((2 * s + t).natAbs : Int) ≤ d
  · have g1 : decide (((2 * s + t).natAbs : Int) ≤ d) = true := decide_eq_true h1
    simp only [g1, push_cast, ↓reduceIte, reduceCtorEq, Nat.reduceBEq, Nat.reduceEqDiff, Nat.reduceAdd, Nat.reduceSub, Nat.reduceLT, Nat.reduceLeDiff, Nat.reduceMul]
    rw [show IntKind.i64.wrap (2 * t) = 2 * t from wrap_id (by omega), show IntKind.i64.wrap (s + 2 * t) = s + 2 * t from wrap_id (by omega)]
    refine call_mk (rsize_t _ (by unfold in64; omega) (by omega)) rfl trivial ?_
    by_cases h2 : ((s + 2 * t).natAbs : Int) ≤ d
    · have g2 : decide (((s + 2 * t).natAbs : Int) ≤ d) = true := decide_eq_true h2
      simp only [g2, push_cast, ↓reduceIte, reduceCtorEq, Nat.reduceBEq, Nat.reduceEqDiff, Nat.reduceAdd, Nat.reduceSub, Nat.reduceLT, Nat.reduceLeDiff, Nat.reduceMul]
      rw [show IntKind.i64.wrap (s - t) = s - t from wrap_id (by omega)]
      refine call_mk (rsize_t _ (by unfold in64; omega) (by omega)) rfl trivial ?_
      simp only [push_cast, ↓reduceIte, reduceCtorEq, Nat.reduceBEq, Nat.reduceEqDiff, Nat.reduceAdd, Nat.reduceSub, Nat.reduceLT, Nat.reduceLeDiff, Nat.reduceMul]
      refine bl_iff ?_
      simp only [decide_eq_true_eq]
      unfold holds
      omega
    · have g2 : decide (((s + 2 * t).natAbs : Int) ≤ d) = false := decide_eq_false h2
      simp only [g2, push_cast, ↓reduceIte, reduceCtorEq, Nat.reduceBEq, Nat.reduceEqDiff, Nat.reduceAdd, Nat.reduceSub, Nat.reduceLT, Nat.reduceLeDiff, Nat.reduceMul]
      rw [decide_eq_false (show ¬ holds d s t by unfold holds; omega)]
  · have g1 : decide (((2 * s + t).natAbs : Int) ≤ d) = false := decide_eq_false h1
    simp only [g1, push_cast, ↓reduceIte, reduceCtorEq, Nat.reduceBEq, Nat.reduceEqDiff, Nat.reduceAdd, Nat.reduceSub, Nat.reduceLT, Nat.reduceLeDiff, Nat.reduceMul]
    rw [decide_eq_false (show ¬ holds d s t by unfold holds; omega)]
set_option maxRecDepth 100000 in
theorem rround_t (u : Ei) (d : Int) (hu : u.In 1152921504606846976) (hd : 1 ≤ d ∧ d ≤ 1125899906842624) : Triple Go.Proofs.Try.prog 46 [u.v, int .i64 d] [] (.tup [(u.round d).v, bl true]) [] := by
  refine apiaryref1_Round_triple rfl (by decide) ?_
  have hu' := hu
  unfold Ei.In at hu'
  have c1 : decide (d < 1) = false := by simp; omega
  have c2 : decide (d > 1125899906842624) = false := by simp; omega
  have c3 : decide (u.a < -1152921504606846976) = false := by simp; omega
  have c4 : decide (u.a > 1152921504606846976) = false := by simp; omega
  have c5 : decide (u.b < -1152921504606846976) = false := by simp; omega
  have c6 : decide (u.b > 1152921504606846976) = false := by simp; omega
  have ia : in64 u.a := by unfold in64; omega
  have ib : in64 u.b := by unfold in64; omega
  have ed : in64 d := by unfold in64; omega
  simp only [apiaryref1_Round_pc, Ei.v, Ei.rv, List.length_nil, c1, c2, c3, c4, c5, c6, push_cast, ↓reduceIte, reduceCtorEq, Nat.reduceBEq, Nat.reduceEqDiff, Nat.reduceAdd, Nat.reduceSub, Nat.reduceLT, Nat.reduceLeDiff, Nat.reduceMul]
  refine call_mk (rfloor_t _ _ ia ed) rfl trivial ?_
  have hd0 : 0 < d := by omega
  simp only [hd0, if_true, push_cast, ↓reduceIte, reduceCtorEq, Nat.reduceBEq, Nat.reduceEqDiff, Nat.reduceAdd, Nat.reduceSub, Nat.reduceLT, Nat.reduceLeDiff, Nat.reduceMul]
  refine call_mk (rfloor_t _ _ ib ed) rfl trivial ?_
  simp only [hd0, if_true, push_cast, ↓reduceIte, reduceCtorEq, Nat.reduceBEq, Nat.reduceEqDiff, Nat.reduceAdd, Nat.reduceSub, Nat.reduceLT, Nat.reduceLeDiff, Nat.reduceMul]
  have ha : 0 ≤ u.a % d ∧ u.a % d < d := ⟨Int.emod_nonneg _ (by omega), Int.emod_lt_of_pos _ hd0⟩
  have hb : 0 ≤ u.b % d ∧ u.b % d < d := ⟨Int.emod_nonneg _ (by omega), Int.emod_lt_of_pos _ hd0⟩
  have hqa : -1152921504606846976 ≤ u.a / d ∧ u.a / d ≤ 1152921504606846976 := div_in hu'.1 hd.1
  have hqb : -1152921504606846976 ≤ u.b / d ∧ u.b / d ≤ 1152921504606846976 := div_in hu'.2 hd.1
  have hround : u.round d = ⟨u.a / d + (near0 d (u.a % d) (u.b % d)).a, u.b / d + (near0 d (u.a % d) (u.b % d)).b⟩ := rfl
  generalize u.a % d = a at *
  generalize u.b % d = b at *
  generalize u.a / d = qa at *
  generalize u.b / d = qb at *
  have hmul : ∀ i : Int, -1 ≤ i → i ≤ 2 → -1125899906842624 ≤ i * d ∧ i * d ≤ 2251799813685248 := fun i h1 h2 => by
    rcases (show i = -1 ∨ i = 0 ∨ i = 1 ∨ i = 2 by omega) with rfl | rfl | rfl | rfl <;> omega
  refine run_loop [(12, false), (1, false), (6, false), (7, false), (9, false), (10, false), (4, false)] (fun vs pos los => ∃ i : Int, (-1 ≤ i ∧ i ≤ 3) ∧ (∀ i' k' : Int, -1 ≤ i' → i' < i → -1 ≤ k' → k' ≤ 2 → ¬ holds d (a - i' * d) (b - k' * d)) ∧ vs = [int .i64 i, int .i64 d, int .i64 qa, int .i64 a, int .i64 qb, int .i64 b, .ptr 2000000 0 0] ∧ pos = [] ∧ los = [.box [int .i64 0, int .i64 0]])
    (fun vs _ _ => match vs with | .r (.v (.int _ j)) :: _ => (3 - j).toNat | _ => 0) rfl ?_ ?_
  · simp only [push_cast, ↓reduceIte, reduceCtorEq, Nat.reduceBEq, Nat.reduceEqDiff, Nat.reduceAdd, Nat.reduceSub, Nat.reduceLT, Nat.reduceLeDiff, Nat.reduceMul]
    exact ⟨-1, by omega, fun i' k' h1 h2 => by omega, rfl⟩
  · rintro vs pos los ⟨i, i3, hno, rfl, rfl, rfl⟩
    simp only [push_cast, ↓reduceIte, reduceCtorEq, Nat.reduceBEq, Nat.reduceEqDiff, Nat.reduceAdd, Nat.reduceSub, Nat.reduceLT, Nat.reduceLeDiff, Nat.reduceMul]
    refine cnd_mk (fun h => ?_) (fun h => ?_)
    · have hi : i ≤ 2 := by simpa using h
      have mi := hmul i i3.1 hi
      simp only [push_cast, ↓reduceIte, reduceCtorEq, Nat.reduceBEq, Nat.reduceEqDiff, Nat.reduceAdd, Nat.reduceSub, Nat.reduceLT, Nat.reduceLeDiff, Nat.reduceMul]
      refine run_loop [(13, false), (12, false), (1, false), (6, false), (7, false), (9, false), (10, false), (4, false)] (fun vs pos los => ∃ k : Int, (-1 ≤ k ∧ k ≤ 3) ∧ (∀ k' : Int, -1 ≤ k' → k' < k → ¬ holds d (a - i * d) (b - k' * d)) ∧ vs = [int .i64 k, int .i64 i, int .i64 d, int .i64 qa, int .i64 a, int .i64 qb, int .i64 b, .ptr 2000000 0 0] ∧ pos = [] ∧ los = [.box [int .i64 0, int .i64 0]])
        (fun vs _ _ => match vs with | .r (.v (.int _ j)) :: _ => (3 - j).toNat | _ => 0) rfl ?_ ?_
      · simp only [push_cast, ↓reduceIte, reduceCtorEq, Nat.reduceBEq, Nat.reduceEqDiff, Nat.reduceAdd, Nat.reduceSub, Nat.reduceLT, Nat.reduceLeDiff, Nat.reduceMul]
        exact ⟨-1, by omega, fun k' h1 h2 => by omega, rfl⟩
      · rintro vs pos los ⟨k, k3, hnk, rfl, rfl, rfl⟩
        simp only [push_cast, ↓reduceIte, reduceCtorEq, Nat.reduceBEq, Nat.reduceEqDiff, Nat.reduceAdd, Nat.reduceSub, Nat.reduceLT, Nat.reduceLeDiff, Nat.reduceMul]
        refine cnd_mk (fun h => ?_) (fun h => ?_)
        · have hk : k ≤ 2 := by simpa using h
          have mk := hmul k k3.1 hk
          simp only [push_cast, ↓reduceIte, reduceCtorEq, Nat.reduceBEq, Nat.reduceEqDiff, Nat.reduceAdd, Nat.reduceSub, Nat.reduceLT, Nat.reduceLeDiff, Nat.reduceMul]
          rw [show IntKind.i64.wrap (i * d) = i * d from wrap_id (by omega), show IntKind.i64.wrap (k * d) = k * d from wrap_id (by omega), show IntKind.i64.wrap (a - i * d) = a - i * d from wrap_id (by omega), show IntKind.i64.wrap (b - k * d) = b - k * d from wrap_id (by omega)]
          refine call_mk (rholds_t _ _ d (by omega) (by omega)) rfl trivial ?_
          simp only [push_cast, ↓reduceIte, reduceCtorEq, Nat.reduceBEq, Nat.reduceEqDiff, Nat.reduceAdd, Nat.reduceSub, Nat.reduceLT, Nat.reduceLeDiff, Nat.reduceMul]
          refine cnd_mk (fun h => ?_) (fun h => ?_)
          · have hh : holds d (a - i * d) (b - k * d) := by simpa using h
            have hn := near0_first ha hb ⟨i3.1, hi⟩ ⟨k3.1, hk⟩ hh (fun k' h1 h2 => hnk k' h1 h2) (fun i' k' h1 h2 h3 h4 => hno i' k' h1 h2 h3 h4)
            rw [hn] at hround
            simp only [hround, Ei.v, Ei.rv, push_cast, ↓reduceIte, reduceCtorEq, Nat.reduceBEq, Nat.reduceEqDiff, Nat.reduceAdd, Nat.reduceSub, Nat.reduceLT, Nat.reduceLeDiff, Nat.reduceMul]
            rw [wrap_id (by omega), wrap_id (by omega)]
          · have hh : ¬ holds d (a - i * d) (b - k * d) := by simpa using h
            simp only [push_cast, ↓reduceIte, reduceCtorEq, Nat.reduceBEq, Nat.reduceEqDiff, Nat.reduceAdd, Nat.reduceSub, Nat.reduceLT, Nat.reduceLeDiff, Nat.reduceMul]
            rw [wrap_id (by omega)]
            refine ⟨⟨k + 1, by omega, fun k' h1 h2 => ?_, rfl⟩, by omega⟩
            by_cases hkk : k' = k
            · subst hkk; exact hh
            · exact hnk k' h1 (by omega)
        · have hk : k = 3 := by simp at h; omega
          subst hk
          simp only [push_cast, ↓reduceIte, reduceCtorEq, Nat.reduceBEq, Nat.reduceEqDiff, Nat.reduceAdd, Nat.reduceSub, Nat.reduceLT, Nat.reduceLeDiff, Nat.reduceMul]
          rw [wrap_id (by omega)]
          refine ⟨⟨i + 1, by omega, fun i' k' h1 h2 h3 h4 => ?_, rfl⟩, by omega⟩
          by_cases hii : i' = i
          · subst hii; exact hnk k' h3 (by omega)
          · exact hno i' k' h1 (by omega) h3 h4
    · have hi : i = 3 := by simp at h; omega
      subst hi
      exact (near0_ex ha hb hno).elim
theorem rworld_t (x y : Int) : Triple Go.Proofs.Try.prog 44 [int .i64 x, int .i64 y] [] (bl (decide (inW x y))) [] := by
  refine apiaryref1_World_triple rfl (by decide) ?_
  simp only [apiaryref1_World_pc, List.length_nil, push_cast, ↓reduceIte, reduceCtorEq, Nat.reduceBEq, Nat.reduceEqDiff, Nat.reduceAdd, Nat.reduceSub, Nat.reduceLT, Nat.reduceLeDiff, Nat.reduceMul]
  repeat refine And.intro (by simp +contextual) ?_
  refine bl_iff ?_
  unfold inW
  by_cases h1 : 0 ≤ x <;> by_cases h2 : x < 1073741824 <;> by_cases h3 : 0 ≤ y <;> by_cases h4 : y < 1073741824 <;> simp [h1, h2, h3, h4]
set_option maxRecDepth 100000 in
theorem rnear_t (x y r : Int) (h : inW x y) (hr : 0 ≤ r ∧ r ≤ 12) : Triple Go.Proofs.Try.prog 26 [int .i64 x, int .i64 y, int .i64 r] [] (.tup [(near x y r.toNat).v, bl true]) [] := by
  refine apiaryref1_Near_triple rfl (by decide) ?_
  have c1 : decide (r < 0) = false := by simp; omega
  have c2 : decide (r > 12) = false := by simp; omega
  simp only [apiaryref1_Near_pc, List.length_nil, push_cast, ↓reduceIte, reduceCtorEq, Nat.reduceBEq, Nat.reduceEqDiff, Nat.reduceAdd, Nat.reduceSub, Nat.reduceLT, Nat.reduceLeDiff, Nat.reduceMul]
  refine call_mk (rworld_t x y) rfl trivial ?_
  rw [decide_eq_true h]
  simp only [c1, c2, push_cast, ↓reduceIte, reduceCtorEq, Nat.reduceBEq, Nat.reduceEqDiff, Nat.reduceAdd, Nat.reduceSub, Nat.reduceLT, Nat.reduceLeDiff, Nat.reduceMul]
  have hk : (12 - r).toNat = 12 - r.toNat := by omega
  have hk2 : (12 - r).toNat ≤ 12 := by omega
  have h' := h
  unfold inW at h'
  rw [show IntKind.i64.wrap (45 * x) = 45 * x from wrap_id (by omega), show IntKind.i64.wrap (26 * y) = 26 * y from wrap_id (by omega), show IntKind.i64.wrap (52 * y) = 52 * y from wrap_id (by omega), show IntKind.i64.wrap (45 * x - 26 * y) = 45 * x - 26 * y from wrap_id (by omega), show IntKind.i64.wrap (12 - r) = 12 - r from wrap_id (by omega)]
  refine call_mk (rconj_t (12 - r) (by omega)) rfl trivial ?_
  have hb := betaN_in (12 - r).toNat hk2
  have hm := axm_In h hk2
  simp only [Ei.v, Ei.rv, push_cast, ↓reduceIte, reduceCtorEq, Nat.reduceBEq, Nat.reduceEqDiff, Nat.reduceAdd, Nat.reduceSub, Nat.reduceLT, Nat.reduceLeDiff, Nat.reduceMul]
  refine call_as (as' := [(ax x y).v, (betaN (12 - r).toNat).conj.v]) rfl ?_
  refine call_mk (rmul_t _ _ ((ax_In h).mono (by decide)) ((conj_In hb).mono (by decide)) (hm.mono (by decide))) rfl trivial ?_
  simp only [Ei.v, Ei.rv, push_cast, ↓reduceIte, reduceCtorEq, Nat.reduceBEq, Nat.reduceEqDiff, Nat.reduceAdd, Nat.reduceSub, Nat.reduceLT, Nat.reduceLeDiff, Nat.reduceMul]
  rw [show IntKind.i64.wrap (12 - r) = 12 - r from wrap_id (by omega)]
  refine dcall_mk (seven_t (12 - r) (by omega) (by omega)) rfl trivial ?_
  simp only [push_cast, ↓reduceIte, reduceCtorEq, Nat.reduceBEq, Nat.reduceEqDiff, Nat.reduceAdd, Nat.reduceSub, Nat.reduceLT, Nat.reduceLeDiff, Nat.reduceMul]
  have hp := p7 (12 - r).toNat hk2
  rw [show IntKind.i64.wrap (2340 * 7 ^ (12 - r).toNat) = 2340 * 7 ^ (12 - r).toNat from wrap_id (by omega)]
  refine dcall_as (as' := [((ax x y).mul (betaN (12 - r).toNat).conj).v, int .i64 (2340 * 7 ^ (12 - r).toNat)]) rfl ?_
  refine dcall_mk (rround_t _ _ (hm.mono (by decide)) (by omega)) rfl trivial ?_
  simp only [Ei.v, Ei.rv, near, hk, push_cast, ↓reduceIte, reduceCtorEq, Nat.reduceBEq, Nat.reduceEqDiff, Nat.reduceAdd, Nat.reduceSub, Nat.reduceLT, Nat.reduceLeDiff, Nat.reduceMul]
  kernel_rfl
end Go.Ev
