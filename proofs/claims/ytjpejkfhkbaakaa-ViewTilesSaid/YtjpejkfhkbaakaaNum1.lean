import Derived.Test.YtjpejkfhkbaakaaBase
import Derived.Test.YtjpejkfhkbaakaaChecked
import Derived.KernelRfl
namespace Go.Ev
open Go
set_option linter.unnecessarySimpa false
set_option linter.unusedSimpArgs false
set_option linter.unusedVariables false
noncomputable def num_Add_pc : PC :=
  (.seq (.reg [⟨(some 4), none, 0, .see (.mov (.c (.r (.v (.int .i64 0)))))⟩,
    ⟨(some 5), none, 0, .see (.mov (.c (.r (.v (.bool false)))))⟩])
  (.seq (.reg [⟨(some 7), none, 0, .see (.mov (.t 0))⟩,
    ⟨(some 8), none, 0, .see (.mov (.t 1))⟩,
    ⟨(some 9), none, 0, .see (.bin .add (.t 7) (.t 8))⟩,
    ⟨(some 6), none, 0, .see (.mov (.t 9))⟩])
  (.seq (.seq (.reg [⟨(some 10), none, 0, .see (.mov (.t 6))⟩,
    ⟨(some 11), none, 0, .see (.mov (.t 0))⟩,
    ⟨(some 12), none, 0, .see (.bin .gtr (.t 10) (.t 11))⟩,
    ⟨(some 13), none, 0, .see (.mov (.t 1))⟩,
    ⟨(some 14), none, 0, .see (.bin .gtr (.t 13) (.c (.r (.v (.int .i64 0)))))⟩,
    ⟨(some 15), none, 0, .see (.beq true (.t 12) (.t 14))⟩,
    ⟨(some 16), none, 0, .see (.mov (.t 15))⟩,
    ⟨(some 17), (some (16, true)), 0, .see (.mov (.t 1))⟩,
    ⟨(some 18), (some (16, true)), 0, .see (.bin .neq (.t 17) (.c (.r (.v (.int .i64 0)))))⟩,
    ⟨(some 19), none, 0, .see (.pick (.t 16) (.t 18) (.c (.r (.v (.bool false)))))⟩])
  (.cond (.t 19)
    (.seq (.reg [⟨(some 4), none, 0, .see (.mov (.c (.r (.v (.int .i64 0)))))⟩,
    ⟨(some 5), none, 0, .see (.mov (.c (.r (.v (.bool false)))))⟩])
    .ret)
    .skip))
  (.seq (.reg [⟨(some 20), none, 0, .see (.mov (.t 6))⟩,
    ⟨(some 4), none, 0, .see (.mov (.t 20))⟩,
    ⟨(some 5), none, 0, .see (.mov (.c (.r (.v (.bool true)))))⟩])
  .ret))))
noncomputable abbrev num_Add_code : Code := (Go.Proofs.Try.f72.body).getD .skip
theorem num_Add_chk : chkC Go.Proofs.Try.prog 21 num_Add_code num_Add_pc = true := by kernel_rfl
theorem num_Add_triple {args : List AV} {po ro : List Ob} {res : AV} (hal : args.length = 2) (hpo : po.length ≤ 1000)
    (h : run Go.Proofs.Try.prog po.length (RetP po.length [(4, false, none), (5, false, none)] fun v os => v = res ∧ os = ro) [.c num_Add_pc] ⟨argE 0 args, ob0 po⟩) : Triple Go.Proofs.Try.prog 72 args po res ro :=
  triple_of_W (fn := Go.Proofs.Try.f72) (c := num_Add_code) (pc := num_Add_pc) (rs := [(4, false, none), (5, false, none)]) Go.Proofs.Try.func72 rfl (by decide) (by have := num_Add_chk; exact this) (by rw [hal]; decide) rfl (by kernel_rfl) (by kernel_rfl) (by decide) hpo (W_of_run h)

noncomputable def num_Sub_pc : PC :=
  (.seq (.reg [⟨(some 4), none, 0, .see (.mov (.c (.r (.v (.int .i64 0)))))⟩,
    ⟨(some 5), none, 0, .see (.mov (.c (.r (.v (.bool false)))))⟩])
  (.seq (.reg [⟨(some 7), none, 0, .see (.mov (.t 0))⟩,
    ⟨(some 8), none, 0, .see (.mov (.t 1))⟩,
    ⟨(some 9), none, 0, .see (.bin .sub (.t 7) (.t 8))⟩,
    ⟨(some 6), none, 0, .see (.mov (.t 9))⟩])
  (.seq (.seq (.reg [⟨(some 10), none, 0, .see (.mov (.t 6))⟩,
    ⟨(some 11), none, 0, .see (.mov (.t 0))⟩,
    ⟨(some 12), none, 0, .see (.bin .lss (.t 10) (.t 11))⟩,
    ⟨(some 13), none, 0, .see (.mov (.t 1))⟩,
    ⟨(some 14), none, 0, .see (.bin .gtr (.t 13) (.c (.r (.v (.int .i64 0)))))⟩,
    ⟨(some 15), none, 0, .see (.beq true (.t 12) (.t 14))⟩,
    ⟨(some 16), none, 0, .see (.mov (.t 15))⟩,
    ⟨(some 17), (some (16, true)), 0, .see (.mov (.t 1))⟩,
    ⟨(some 18), (some (16, true)), 0, .see (.bin .neq (.t 17) (.c (.r (.v (.int .i64 0)))))⟩,
    ⟨(some 19), none, 0, .see (.pick (.t 16) (.t 18) (.c (.r (.v (.bool false)))))⟩])
  (.cond (.t 19)
    (.seq (.reg [⟨(some 4), none, 0, .see (.mov (.c (.r (.v (.int .i64 0)))))⟩,
    ⟨(some 5), none, 0, .see (.mov (.c (.r (.v (.bool false)))))⟩])
    .ret)
    .skip))
  (.seq (.reg [⟨(some 20), none, 0, .see (.mov (.t 6))⟩,
    ⟨(some 4), none, 0, .see (.mov (.t 20))⟩,
    ⟨(some 5), none, 0, .see (.mov (.c (.r (.v (.bool true)))))⟩])
  .ret))))
noncomputable abbrev num_Sub_code : Code := (Go.Proofs.Try.f87.body).getD .skip
theorem num_Sub_chk : chkC Go.Proofs.Try.prog 21 num_Sub_code num_Sub_pc = true := by kernel_rfl
theorem num_Sub_triple {args : List AV} {po ro : List Ob} {res : AV} (hal : args.length = 2) (hpo : po.length ≤ 1000)
    (h : run Go.Proofs.Try.prog po.length (RetP po.length [(4, false, none), (5, false, none)] fun v os => v = res ∧ os = ro) [.c num_Sub_pc] ⟨argE 0 args, ob0 po⟩) : Triple Go.Proofs.Try.prog 87 args po res ro :=
  triple_of_W (fn := Go.Proofs.Try.f87) (c := num_Sub_code) (pc := num_Sub_pc) (rs := [(4, false, none), (5, false, none)]) Go.Proofs.Try.func87 rfl (by decide) (by have := num_Sub_chk; exact this) (by rw [hal]; decide) rfl (by kernel_rfl) (by kernel_rfl) (by decide) hpo (W_of_run h)

noncomputable def num_Neg_pc : PC :=
  (.seq (.reg [⟨(some 2), none, 0, .see (.mov (.c (.r (.v (.int .i64 0)))))⟩,
    ⟨(some 3), none, 0, .see (.mov (.c (.r (.v (.bool false)))))⟩])
  (.seq (.reg [⟨(some 4), none, 0, .see (.mov (.t 0))⟩,
    ⟨(some 5), none, 1, .call 87 [(.c (.r (.v (.int .i64 0)))), (.t 4)]⟩,
    ⟨(some 6), none, 0, .see (.ext (.t 5) 0)⟩,
    ⟨(some 7), none, 0, .see (.ext (.t 5) 1)⟩,
    ⟨(some 2), none, 0, .see (.mov (.t 6))⟩,
    ⟨(some 3), none, 0, .see (.mov (.t 7))⟩])
  .ret))
noncomputable abbrev num_Neg_code : Code := (Go.Proofs.Try.f73.body).getD .skip
theorem num_Neg_chk : chkC Go.Proofs.Try.prog 8 num_Neg_code num_Neg_pc = true := by kernel_rfl
theorem num_Neg_triple {args : List AV} {po ro : List Ob} {res : AV} (hal : args.length = 1) (hpo : po.length ≤ 1000)
    (h : run Go.Proofs.Try.prog po.length (RetP po.length [(2, false, none), (3, false, none)] fun v os => v = res ∧ os = ro) [.c num_Neg_pc] ⟨argE 0 args, ob0 po⟩) : Triple Go.Proofs.Try.prog 73 args po res ro :=
  triple_of_W (fn := Go.Proofs.Try.f73) (c := num_Neg_code) (pc := num_Neg_pc) (rs := [(2, false, none), (3, false, none)]) Go.Proofs.Try.func73 rfl (by decide) (by have := num_Neg_chk; exact this) (by rw [hal]; decide) rfl (by kernel_rfl) (by kernel_rfl) (by decide) hpo (W_of_run h)

noncomputable def num_size_pc : PC :=
  (.seq (.reg [⟨(some 2), none, 0, .see (.mov (.c (.r (.v (.int .u64 0)))))⟩])
  (.seq (.seq (.reg [⟨(some 3), none, 0, .see (.mov (.t 0))⟩,
    ⟨(some 4), none, 0, .see (.bin .lss (.t 3) (.c (.r (.v (.int .i64 0)))))⟩])
  (.cond (.t 4)
    (.seq (.reg [⟨(some 5), none, 0, .see (.mov (.t 0))⟩,
    ⟨(some 6), none, 0, .see (.conv .u64 (.t 5))⟩,
    ⟨(some 7), none, 0, .see (.un .neg (.t 6))⟩,
    ⟨(some 2), none, 0, .see (.mov (.t 7))⟩])
    .ret)
    .skip))
  (.seq (.reg [⟨(some 8), none, 0, .see (.mov (.t 0))⟩,
    ⟨(some 9), none, 0, .see (.conv .u64 (.t 8))⟩,
    ⟨(some 2), none, 0, .see (.mov (.t 9))⟩])
  .ret)))
noncomputable abbrev num_size_code : Code := (Go.Proofs.Try.f71.body).getD .skip
theorem num_size_chk : chkC Go.Proofs.Try.prog 10 num_size_code num_size_pc = true := by kernel_rfl
theorem num_size_triple {args : List AV} {po ro : List Ob} {res : AV} (hal : args.length = 1) (hpo : po.length ≤ 1000)
    (h : run Go.Proofs.Try.prog po.length (RetP po.length [(2, false, none)] fun v os => v = res ∧ os = ro) [.c num_size_pc] ⟨argE 0 args, ob0 po⟩) : Triple Go.Proofs.Try.prog 71 args po res ro :=
  triple_of_W (fn := Go.Proofs.Try.f71) (c := num_size_code) (pc := num_size_pc) (rs := [(2, false, none)]) Go.Proofs.Try.func71 rfl (by decide) (by have := num_size_chk; exact this) (by rw [hal]; decide) rfl (by kernel_rfl) (by kernel_rfl) (by decide) hpo (W_of_run h)

noncomputable def bits_Mul64_pc : PC :=
  (.seq (.reg [⟨(some 4), none, 0, .see (.mov (.c (.r (.v (.int .u64 0)))))⟩,
    ⟨(some 5), none, 0, .see (.mov (.c (.r (.v (.int .u64 0)))))⟩])
  (.seq (.reg [⟨(some 14), none, 0, .see (.mov (.t 0))⟩,
    ⟨(some 15), none, 0, .see (.bin .and (.t 14) (.c (.r (.v (.int .u64 4294967295)))))⟩,
    ⟨(some 6), none, 0, .see (.mov (.t 15))⟩])
  (.seq (.reg [⟨(some 16), none, 0, .see (.mov (.t 0))⟩,
    ⟨(some 17), none, 0, .see (.bin .shr (.t 16) (.c (.r (.v (.int .u64 32)))))⟩,
    ⟨(some 7), none, 0, .see (.mov (.t 17))⟩])
  (.seq (.reg [⟨(some 18), none, 0, .see (.mov (.t 1))⟩,
    ⟨(some 19), none, 0, .see (.bin .and (.t 18) (.c (.r (.v (.int .u64 4294967295)))))⟩,
    ⟨(some 8), none, 0, .see (.mov (.t 19))⟩])
  (.seq (.reg [⟨(some 20), none, 0, .see (.mov (.t 1))⟩,
    ⟨(some 21), none, 0, .see (.bin .shr (.t 20) (.c (.r (.v (.int .u64 32)))))⟩,
    ⟨(some 9), none, 0, .see (.mov (.t 21))⟩])
  (.seq (.reg [⟨(some 22), none, 0, .see (.mov (.t 6))⟩,
    ⟨(some 23), none, 0, .see (.mov (.t 8))⟩,
    ⟨(some 24), none, 0, .see (.bin .mul (.t 22) (.t 23))⟩,
    ⟨(some 10), none, 0, .see (.mov (.t 24))⟩])
  (.seq (.reg [⟨(some 25), none, 0, .see (.mov (.t 7))⟩,
    ⟨(some 26), none, 0, .see (.mov (.t 8))⟩,
    ⟨(some 27), none, 0, .see (.bin .mul (.t 25) (.t 26))⟩,
    ⟨(some 28), none, 0, .see (.mov (.t 10))⟩,
    ⟨(some 29), none, 0, .see (.bin .shr (.t 28) (.c (.r (.v (.int .u64 32)))))⟩,
    ⟨(some 30), none, 0, .see (.bin .add (.t 27) (.t 29))⟩,
    ⟨(some 11), none, 0, .see (.mov (.t 30))⟩])
  (.seq (.reg [⟨(some 31), none, 0, .see (.mov (.t 11))⟩,
    ⟨(some 32), none, 0, .see (.bin .and (.t 31) (.c (.r (.v (.int .u64 4294967295)))))⟩,
    ⟨(some 12), none, 0, .see (.mov (.t 32))⟩])
  (.seq (.reg [⟨(some 33), none, 0, .see (.mov (.t 11))⟩,
    ⟨(some 34), none, 0, .see (.bin .shr (.t 33) (.c (.r (.v (.int .u64 32)))))⟩,
    ⟨(some 13), none, 0, .see (.mov (.t 34))⟩])
  (.seq (.reg [⟨(some 35), none, 0, .see (.mov (.t 12))⟩,
    ⟨(some 36), none, 0, .see (.mov (.t 6))⟩,
    ⟨(some 37), none, 0, .see (.mov (.t 9))⟩,
    ⟨(some 38), none, 0, .see (.bin .mul (.t 36) (.t 37))⟩,
    ⟨(some 39), none, 0, .see (.bin .add (.t 35) (.t 38))⟩,
    ⟨(some 12), none, 0, .see (.mov (.t 39))⟩])
  (.seq (.reg [⟨(some 40), none, 0, .see (.mov (.t 7))⟩,
    ⟨(some 41), none, 0, .see (.mov (.t 9))⟩,
    ⟨(some 42), none, 0, .see (.bin .mul (.t 40) (.t 41))⟩,
    ⟨(some 43), none, 0, .see (.mov (.t 13))⟩,
    ⟨(some 44), none, 0, .see (.bin .add (.t 42) (.t 43))⟩,
    ⟨(some 45), none, 0, .see (.mov (.t 12))⟩,
    ⟨(some 46), none, 0, .see (.bin .shr (.t 45) (.c (.r (.v (.int .u64 32)))))⟩,
    ⟨(some 47), none, 0, .see (.bin .add (.t 44) (.t 46))⟩,
    ⟨(some 4), none, 0, .see (.mov (.t 47))⟩])
  (.seq (.reg [⟨(some 48), none, 0, .see (.mov (.t 0))⟩,
    ⟨(some 49), none, 0, .see (.mov (.t 1))⟩,
    ⟨(some 50), none, 0, .see (.bin .mul (.t 48) (.t 49))⟩,
    ⟨(some 5), none, 0, .see (.mov (.t 50))⟩])
  .ret))))))))))))
noncomputable abbrev bits_Mul64_code : Code := (Go.Proofs.Try.f68.body).getD .skip
theorem bits_Mul64_chk : chkC Go.Proofs.Try.prog 51 bits_Mul64_code bits_Mul64_pc = true := by kernel_rfl
theorem bits_Mul64_triple {args : List AV} {po ro : List Ob} {res : AV} (hal : args.length = 2) (hpo : po.length ≤ 1000)
    (h : run Go.Proofs.Try.prog po.length (RetP po.length [(4, false, none), (5, false, none)] fun v os => v = res ∧ os = ro) [.c bits_Mul64_pc] ⟨argE 0 args, ob0 po⟩) : Triple Go.Proofs.Try.prog 68 args po res ro :=
  triple_of_W (fn := Go.Proofs.Try.f68) (c := bits_Mul64_code) (pc := bits_Mul64_pc) (rs := [(4, false, none), (5, false, none)]) Go.Proofs.Try.func68 rfl (by decide) (by have := bits_Mul64_chk; exact this) (by rw [hal]; decide) rfl (by kernel_rfl) (by kernel_rfl) (by decide) hpo (W_of_run h)

noncomputable def num_Mul_pc : PC :=
  (.seq (.reg [⟨(some 4), none, 0, .see (.mov (.c (.r (.v (.int .i64 0)))))⟩,
    ⟨(some 5), none, 0, .see (.mov (.c (.r (.v (.bool false)))))⟩])
  (.seq (.reg [⟨(some 10), none, 0, .see (.mov (.t 0))⟩,
    ⟨(some 11), none, 1, .call 71 [(.t 10)]⟩,
    ⟨(some 12), none, 0, .see (.mov (.t 1))⟩,
    ⟨(some 13), none, 2, .call 71 [(.t 12)]⟩,
    ⟨(some 14), none, 3, .call 68 [(.t 11), (.t 13)]⟩,
    ⟨(some 9), none, 0, .see (.mov (.t 14))⟩,
    ⟨(some 15), none, 0, .see (.ext (.t 9) 0)⟩,
    ⟨(some 16), none, 0, .see (.ext (.t 9) 1)⟩,
    ⟨(some 6), none, 0, .see (.mov (.t 15))⟩,
    ⟨(some 7), none, 0, .see (.mov (.t 16))⟩])
  (.seq (.reg [⟨(some 17), none, 0, .see (.mov (.t 0))⟩,
    ⟨(some 18), none, 0, .see (.bin .lss (.t 17) (.c (.r (.v (.int .i64 0)))))⟩,
    ⟨(some 19), none, 0, .see (.mov (.t 1))⟩,
    ⟨(some 20), none, 0, .see (.bin .lss (.t 19) (.c (.r (.v (.int .i64 0)))))⟩,
    ⟨(some 21), none, 0, .see (.beq true (.t 18) (.t 20))⟩,
    ⟨(some 8), none, 0, .see (.mov (.t 21))⟩])
  (.seq (.block 0 (.seq (.reg [⟨(some 23), none, 0, .see (.mov (.t 6))⟩,
    ⟨(some 24), none, 0, .see (.bin .neq (.t 23) (.c (.r (.v (.int .u64 0)))))⟩,
    ⟨(some 25), none, 0, .see (.mov (.t 24))⟩,
    ⟨(some 26), (some (25, false)), 0, .see (.mov (.t 7))⟩,
    ⟨(some 27), (some (25, false)), 0, .see (.bin .gtr (.t 26) (.c (.r (.v (.int .u64 9223372036854775808)))))⟩,
    ⟨(some 28), none, 0, .see (.pick (.t 25) (.c (.r (.v (.bool true)))) (.t 27))⟩,
    ⟨(some 29), none, 0, .see (.mov (.t 28))⟩,
    ⟨(some 30), (some (29, false)), 0, .see (.mov (.t 7))⟩,
    ⟨(some 31), (some (29, false)), 0, .see (.bin .eql (.t 30) (.c (.r (.v (.int .u64 9223372036854775808)))))⟩,
    ⟨(some 32), (some (29, false)), 0, .see (.mov (.t 31))⟩,
    ⟨(some 33), (some (32, true)), 0, .see (.mov (.t 8))⟩,
    ⟨(some 34), (some (32, true)), 0, .see (.un .not (.t 33))⟩,
    ⟨(some 35), (some (29, false)), 0, .see (.pick (.t 32) (.t 34) (.c (.r (.v (.bool false)))))⟩,
    ⟨(some 36), none, 0, .see (.pick (.t 29) (.c (.r (.v (.bool true)))) (.t 35))⟩,
    ⟨(some 22), none, 0, .see (.mov (.t 36))⟩])
  (.cond (.t 22)
    (.seq (.reg [⟨(some 4), none, 0, .see (.mov (.c (.r (.v (.int .i64 0)))))⟩,
    ⟨(some 5), none, 0, .see (.mov (.c (.r (.v (.bool false)))))⟩])
    .ret)
    (.seq (.reg [⟨(some 38), none, 0, .see (.mov (.t 8))⟩,
    ⟨(some 37), none, 0, .see (.mov (.t 38))⟩])
    (.cond (.t 37)
      (.seq (.reg [⟨(some 39), none, 0, .see (.mov (.t 7))⟩,
    ⟨(some 40), none, 0, .see (.conv .i64 (.t 39))⟩,
    ⟨(some 41), none, 0, .see (.un .neg (.t 40))⟩,
    ⟨(some 4), none, 0, .see (.mov (.t 41))⟩,
    ⟨(some 5), none, 0, .see (.mov (.c (.r (.v (.bool true)))))⟩])
      .ret)
      .skip)))))
  (.seq (.reg [⟨(some 42), none, 0, .see (.mov (.t 7))⟩,
    ⟨(some 43), none, 0, .see (.conv .i64 (.t 42))⟩,
    ⟨(some 4), none, 0, .see (.mov (.t 43))⟩,
    ⟨(some 5), none, 0, .see (.mov (.c (.r (.v (.bool true)))))⟩])
  .ret)))))
noncomputable abbrev num_Mul_code : Code := (Go.Proofs.Try.f56.body).getD .skip
theorem num_Mul_chk : chkC Go.Proofs.Try.prog 44 num_Mul_code num_Mul_pc = true := by kernel_rfl
theorem num_Mul_triple {args : List AV} {po ro : List Ob} {res : AV} (hal : args.length = 2) (hpo : po.length ≤ 1000)
    (h : run Go.Proofs.Try.prog po.length (RetP po.length [(4, false, none), (5, false, none)] fun v os => v = res ∧ os = ro) [.c num_Mul_pc] ⟨argE 0 args, ob0 po⟩) : Triple Go.Proofs.Try.prog 56 args po res ro :=
  triple_of_W (fn := Go.Proofs.Try.f56) (c := num_Mul_code) (pc := num_Mul_pc) (rs := [(4, false, none), (5, false, none)]) Go.Proofs.Try.func56 rfl (by decide) (by have := num_Mul_chk; exact this) (by rw [hal]; decide) rfl (by kernel_rfl) (by kernel_rfl) (by decide) hpo (W_of_run h)

noncomputable def num_Floor_pc : PC :=
  (.seq (.reg [⟨(some 4), none, 0, .see (.mov (.c (.r (.v (.int .i64 0)))))⟩,
    ⟨(some 5), none, 0, .see (.mov (.c (.r (.v (.int .i64 0)))))⟩,
    ⟨(some 6), none, 0, .see (.mov (.c (.r (.v (.bool false)))))⟩])
  (.seq (.seq (.reg [⟨(some 7), none, 0, .see (.mov (.t 1))⟩,
    ⟨(some 8), none, 0, .see (.bin .leq (.t 7) (.c (.r (.v (.int .i64 0)))))⟩])
  (.cond (.t 8)
    (.seq (.reg [⟨(some 4), none, 0, .see (.mov (.c (.r (.v (.int .i64 0)))))⟩,
    ⟨(some 5), none, 0, .see (.mov (.c (.r (.v (.int .i64 0)))))⟩,
    ⟨(some 6), none, 0, .see (.mov (.c (.r (.v (.bool false)))))⟩])
    .ret)
    .skip))
  (.seq (.drw [⟨(some 9), none, 0, .see (.mov (.t 0))⟩,
    ⟨(some 10), none, 0, .see (.mov (.t 1))⟩,
    ⟨(some 11), none, 0, .see (.bin .quo (.t 9) (.t 10))⟩,
    ⟨(some 12), none, 0, .see (.mov (.t 0))⟩,
    ⟨(some 13), none, 0, .see (.mov (.t 1))⟩,
    ⟨(some 14), none, 0, .see (.bin .rem (.t 12) (.t 13))⟩,
    ⟨(some 4), none, 0, .see (.mov (.t 11))⟩,
    ⟨(some 5), none, 0, .see (.mov (.t 14))⟩]
    [[], [], [0, 1], [], [], [3, 4], [0, 1, 2], [0, 1, 2, 3, 4, 5, 6]])
  (.seq (.seq (.reg [⟨(some 15), none, 0, .see (.mov (.t 5))⟩,
    ⟨(some 16), none, 0, .see (.bin .lss (.t 15) (.c (.r (.v (.int .i64 0)))))⟩])
  (.cond (.t 16)
    (.reg [⟨(some 17), none, 0, .see (.mov (.t 4))⟩,
    ⟨(some 18), none, 0, .see (.bin .sub (.t 17) (.c (.r (.v (.int .i64 1)))))⟩,
    ⟨(some 19), none, 0, .see (.mov (.t 5))⟩,
    ⟨(some 20), none, 0, .see (.mov (.t 1))⟩,
    ⟨(some 21), none, 0, .see (.bin .add (.t 19) (.t 20))⟩,
    ⟨(some 4), none, 0, .see (.mov (.t 18))⟩,
    ⟨(some 5), none, 0, .see (.mov (.t 21))⟩])
    .skip))
  (.seq (.reg [⟨(some 22), none, 0, .see (.mov (.t 4))⟩,
    ⟨(some 23), none, 0, .see (.mov (.t 5))⟩,
    ⟨(some 4), none, 0, .see (.mov (.t 22))⟩,
    ⟨(some 5), none, 0, .see (.mov (.t 23))⟩,
    ⟨(some 6), none, 0, .see (.mov (.c (.r (.v (.bool true)))))⟩])
  .ret)))))
noncomputable abbrev num_Floor_code : Code := (Go.Proofs.Try.f79.body).getD .skip
theorem num_Floor_chk : chkC Go.Proofs.Try.prog 24 num_Floor_code num_Floor_pc = true := by kernel_rfl
theorem num_Floor_triple {args : List AV} {po ro : List Ob} {res : AV} (hal : args.length = 2) (hpo : po.length ≤ 1000)
    (h : run Go.Proofs.Try.prog po.length (RetP po.length [(4, false, none), (5, false, none), (6, false, none)] fun v os => v = res ∧ os = ro) [.c num_Floor_pc] ⟨argE 0 args, ob0 po⟩) : Triple Go.Proofs.Try.prog 79 args po res ro :=
  triple_of_W (fn := Go.Proofs.Try.f79) (c := num_Floor_code) (pc := num_Floor_pc) (rs := [(4, false, none), (5, false, none), (6, false, none)]) Go.Proofs.Try.func79 rfl (by decide) (by have := num_Floor_chk; exact this) (by rw [hal]; decide) rfl (by kernel_rfl) (by kernel_rfl) (by decide) hpo (W_of_run h)

/-- A number, or none of 64 bits. -/
def sm (x : Int) : AV := .tup [int .i64 (if in64 x then x else 0), bl (decide (in64 x))]
theorem sm_yes {x y : Int} (h : x = y) (hx : in64 y) : AV.tup [int .i64 x, bl true] = sm y := by simp [sm, hx, h]
theorem sm_no {y : Int} (hx : ¬ in64 y) : AV.tup [int .i64 0, bl false] = sm y := by simp [sm, hx]

theorem shr32 (n : Nat) : (n : Int).fdiv (2 ^ min (Int.toNat 32) IntKind.u64.bits) = ((n / 4294967296 : Nat) : Int) := by
  have : (2 : Int) ^ min (Int.toNat 32) IntKind.u64.bits = 4294967296 := by decide
  rw [this, Int.fdiv_eq_ediv_of_nonneg _ (by decide)]
  omega
theorem wrapN (n : Nat) : IntKind.u64.wrap (n : Int) = ((n % 18446744073709551616 : Nat) : Int) := by
  rw [IntKind.wrap_u64]; omega
theorem and32 (n : Nat) : (BitVec.ofInt IntKind.u64.bits (n : Int) &&& BitVec.ofInt IntKind.u64.bits 4294967295).toNat = n % 4294967296 := by
  have h1 : BitVec.ofInt IntKind.u64.bits (n : Int) = BitVec.ofNat 64 n := by simp [IntKind.bits]
  have h2 : BitVec.ofInt IntKind.u64.bits 4294967295 = BitVec.ofNat 64 (2 ^ 32 - 1) := rfl
  rw [h1, h2]
  show (BitVec.ofNat 64 n &&& BitVec.ofNat 64 (2 ^ 32 - 1)).toNat = _
  rw [BitVec.toNat_and, BitVec.toNat_ofNat, BitVec.toNat_ofNat, show (2 ^ 32 - 1) % 2 ^ 64 = 2 ^ 32 - 1 by decide, Nat.and_two_pow_sub_one_eq_mod]
  omega
theorem nat_parts {x y a b c d : Nat} (hx : x = a * 4294967296 + b) (hy : y = c * 4294967296 + d) : x * y = (a * c) * 18446744073709551616 + (a * d + b * c) * 4294967296 + b * d := by
  subst hx; subst hy
  rw [Nat.add_mul, Nat.mul_add, Nat.mul_add]
  have e1 : a * 4294967296 * (c * 4294967296) = (a * c) * 18446744073709551616 := by
    rw [Nat.mul_mul_mul_comm]
  have e2 : a * 4294967296 * d = (a * d) * 4294967296 := Nat.mul_right_comm _ _ _
  have e3 : b * (c * 4294967296) = (b * c) * 4294967296 := (Nat.mul_assoc _ _ _).symm
  rw [e1, e2, e3]
  omega
theorem mul_bound {a b : Nat} (ha : a < 4294967296) (hb : b < 4294967296) : a * b ≤ 18446744065119617025 := by
  have : a * b ≤ 4294967295 * 4294967295 := Nat.mul_le_mul (by omega) (by omega)
  omega
set_option maxRecDepth 100000 in
theorem add_t (a b : Int) (ha : in64 a) (hb : in64 b) : Triple Go.Proofs.Try.prog 72 [int .i64 a, int .i64 b] [] (sm (a + b)) [] := by
  refine num_Add_triple rfl (by decide) ?_
  simp only [num_Add_pc, List.length_nil, push_cast, ↓reduceIte, reduceCtorEq, Nat.reduceBEq, Nat.reduceEqDiff, Nat.reduceAdd, Nat.reduceSub, Nat.reduceLT, Nat.reduceLeDiff, Nat.reduceMul]
  unfold in64 at ha hb
  refine cnd_mk (fun h => ?_) (fun h => ?_)
  · simp only [push_cast, ↓reduceIte, reduceCtorEq, Nat.reduceBEq, Nat.reduceEqDiff, Nat.reduceAdd, Nat.reduceSub, Nat.reduceLT, Nat.reduceLeDiff, Nat.reduceMul]
    refine sm_no ?_
    rw [IntKind.wrap_i64] at h
    unfold in64; by_cases h1 : (a + b + 9223372036854775808) % 18446744073709551616 - 9223372036854775808 > a <;> by_cases h2 : b > 0 <;> by_cases h3 : b = 0 <;> simp only [h1, h2, h3, decide_true, decide_false] at h <;> first | omega | (simp at h; done) | (simp at h; omega)
  · simp only [push_cast, ↓reduceIte, reduceCtorEq, Nat.reduceBEq, Nat.reduceEqDiff, Nat.reduceAdd, Nat.reduceSub, Nat.reduceLT, Nat.reduceLeDiff, Nat.reduceMul]
    rw [IntKind.wrap_i64] at h ⊢
    have : in64 (a + b) := by
      unfold in64; by_cases h1 : (a + b + 9223372036854775808) % 18446744073709551616 - 9223372036854775808 > a <;> by_cases h2 : b > 0 <;> by_cases h3 : b = 0 <;> simp only [h1, h2, h3, decide_true, decide_false] at h <;> first | omega | (simp at h; done) | (simp at h; omega)
    exact sm_yes (by unfold in64 at this; omega) this
set_option maxRecDepth 100000 in
theorem sub_t (a b : Int) (ha : in64 a) (hb : in64 b) : Triple Go.Proofs.Try.prog 87 [int .i64 a, int .i64 b] [] (sm (a - b)) [] := by
  refine num_Sub_triple rfl (by decide) ?_
  simp only [num_Sub_pc, List.length_nil, push_cast, ↓reduceIte, reduceCtorEq, Nat.reduceBEq, Nat.reduceEqDiff, Nat.reduceAdd, Nat.reduceSub, Nat.reduceLT, Nat.reduceLeDiff, Nat.reduceMul]
  unfold in64 at ha hb
  refine cnd_mk (fun h => ?_) (fun h => ?_)
  · simp only [push_cast, ↓reduceIte, reduceCtorEq, Nat.reduceBEq, Nat.reduceEqDiff, Nat.reduceAdd, Nat.reduceSub, Nat.reduceLT, Nat.reduceLeDiff, Nat.reduceMul]
    refine sm_no ?_
    rw [IntKind.wrap_i64] at h
    unfold in64; by_cases h1 : (a - b + 9223372036854775808) % 18446744073709551616 - 9223372036854775808 < a <;> by_cases h2 : b > 0 <;> by_cases h3 : b = 0 <;> simp only [h1, h2, h3, decide_true, decide_false] at h <;> first | omega | (simp at h; done) | (simp at h; omega)
  · simp only [push_cast, ↓reduceIte, reduceCtorEq, Nat.reduceBEq, Nat.reduceEqDiff, Nat.reduceAdd, Nat.reduceSub, Nat.reduceLT, Nat.reduceLeDiff, Nat.reduceMul]
    rw [IntKind.wrap_i64] at h ⊢
    have : in64 (a - b) := by
      unfold in64; by_cases h1 : (a - b + 9223372036854775808) % 18446744073709551616 - 9223372036854775808 < a <;> by_cases h2 : b > 0 <;> by_cases h3 : b = 0 <;> simp only [h1, h2, h3, decide_true, decide_false] at h <;> first | omega | (simp at h; done) | (simp at h; omega)
    exact sm_yes (by unfold in64 at this; omega) this
set_option maxRecDepth 100000 in
theorem neg_t (a : Int) (ha : in64 a) : Triple Go.Proofs.Try.prog 73 [int .i64 a] [] (sm (-a)) [] := by
  refine num_Neg_triple rfl (by decide) ?_
  simp only [num_Neg_pc, List.length_nil, push_cast, ↓reduceIte, reduceCtorEq, Nat.reduceBEq, Nat.reduceEqDiff, Nat.reduceAdd, Nat.reduceSub, Nat.reduceLT, Nat.reduceLeDiff, Nat.reduceMul]
  refine call_mk (sub_t 0 a (by decide) ha) rfl trivial ?_
  simp only [sm, push_cast, ↓reduceIte, reduceCtorEq, Nat.reduceBEq, Nat.reduceEqDiff, Nat.reduceAdd, Nat.reduceSub, Nat.reduceLT, Nat.reduceLeDiff, Nat.reduceMul]
  simp
set_option maxRecDepth 100000 in
theorem size_t (a : Int) (ha : in64 a) : Triple Go.Proofs.Try.prog 71 [int .i64 a] [] (int .u64 a.natAbs) [] := by
  refine num_size_triple rfl (by decide) ?_
  simp only [num_size_pc, List.length_nil, push_cast, ↓reduceIte, reduceCtorEq, Nat.reduceBEq, Nat.reduceEqDiff, Nat.reduceAdd, Nat.reduceSub, Nat.reduceLT, Nat.reduceLeDiff, Nat.reduceMul]
  unfold in64 at ha
  refine cnd_mk (fun h => ?_) (fun h => ?_)
  · simp only [push_cast, ↓reduceIte, reduceCtorEq, Nat.reduceBEq, Nat.reduceEqDiff, Nat.reduceAdd, Nat.reduceSub, Nat.reduceLT, Nat.reduceLeDiff, Nat.reduceMul]
    simp at h
    rw [IntKind.wrap_u64, IntKind.wrap_u64]
    congr 3
    omega
  · simp only [push_cast, ↓reduceIte, reduceCtorEq, Nat.reduceBEq, Nat.reduceEqDiff, Nat.reduceAdd, Nat.reduceSub, Nat.reduceLT, Nat.reduceLeDiff, Nat.reduceMul]
    simp at h
    rw [IntKind.wrap_u64]
    congr 3
    omega
set_option maxRecDepth 100000 in
theorem mul64_t (x y : Nat) (hx : x < 18446744073709551616) (hy : y < 18446744073709551616) : Triple Go.Proofs.Try.prog 68 [int .u64 x, int .u64 y] [] (.tup [int .u64 (x * y / 18446744073709551616 : Nat), int .u64 (x * y % 18446744073709551616 : Nat)]) [] := by
  refine bits_Mul64_triple rfl (by decide) ?_
  simp only [bits_Mul64_pc, List.length_nil, push_cast, ↓reduceIte, reduceCtorEq, Nat.reduceBEq, Nat.reduceEqDiff, Nat.reduceAdd, Nat.reduceSub, Nat.reduceLT, Nat.reduceLeDiff, Nat.reduceMul]
  refine ⟨by decide, by decide, by decide, by decide, by decide, ?_⟩
  simp only [shr32, and32, wrapN, ← Int.natCast_mul, ← Int.natCast_add]
  have hm : ∀ n : Nat, n % 4294967296 % 18446744073709551616 = n % 4294967296 := fun n => by omega
  simp only [hm]
  have key := nat_parts (x := x) (y := y) (a := x / 4294967296) (b := x % 4294967296) (c := y / 4294967296) (d := y % 4294967296) (by omega) (by omega)
  have b1 := mul_bound (a := x / 4294967296) (b := y / 4294967296) (by omega) (by omega)
  have b2 := mul_bound (a := x / 4294967296) (b := y % 4294967296) (by omega) (by omega)
  have b3 := mul_bound (a := x % 4294967296) (b := y / 4294967296) (by omega) (by omega)
  have b4 := mul_bound (a := x % 4294967296) (b := y % 4294967296) (by omega) (by omega)
  generalize x / 4294967296 * (y / 4294967296) = p at *
  generalize x / 4294967296 * (y % 4294967296) = q at *
  generalize x % 4294967296 * (y / 4294967296) = r at *
  generalize x % 4294967296 * (y % 4294967296) = t at *
  rw [key]
  congr 5
  omega
end Go.Ev
