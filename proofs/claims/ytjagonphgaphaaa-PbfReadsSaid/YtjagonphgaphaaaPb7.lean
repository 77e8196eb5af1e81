import Derived.Test.YtjagonphgaphaaaPb6
namespace Go.Ev
open Go Go.RowKit
set_option linter.unnecessarySimpa false
set_option linter.unusedSimpArgs false
set_option linter.unusedVariables false
noncomputable def apiaryref21_Var_pc : PC :=
  (.seq (.reg [⟨(some 2), none, 0, .see (.mov (.c (.r (.v (.string ⟨#[]⟩)))))⟩])
  (.seq (.reg [⟨(some 3), none, 0, .see (.mov (.c (.nils 1 (.v (.int .u8 0)))))⟩])
  (.seq (.block 0 (.loop (.seq (.seq (.reg [⟨(some 4), none, 0, .see (.mov (.t 0))⟩,
    ⟨(some 5), none, 0, .see (.bin .gtr (.t 4) (.c (.r (.v (.int .u64 127)))))⟩])
  (.cond (.t 5)
    .skip
    (.exit 0)))
  (.block 1 (.seq (.reg [⟨(some 6), none, 0, .see (.mov (.t 3))⟩,
    ⟨(some 7), none, 0, .see (.mov (.t 0))⟩,
    ⟨(some 8), none, 0, .see (.conv .u8 (.t 7))⟩,
    ⟨(some 9), none, 0, .see (.bin .or (.t 8) (.c (.r (.v (.int .u8 128)))))⟩,
    ⟨(some 10), none, 0, .act (.bsl 1 (.v (.int .u8 0)) [(.t 9)])⟩,
    ⟨(some 11), none, 0, .act (.app 1 (.v (.int .u8 0)) 1 (.t 6) (.t 10))⟩,
    ⟨(some 3), none, 0, .see (.mov (.t 11))⟩])
  (.reg [⟨(some 12), none, 0, .see (.mov (.t 0))⟩,
    ⟨(some 13), none, 0, .see (.bin .shr (.t 12) (.c (.r (.v (.int .u64 7)))))⟩,
    ⟨(some 0), none, 0, .see (.mov (.t 13))⟩]))))))
  (.seq (.reg [⟨(some 14), none, 0, .see (.mov (.t 3))⟩,
    ⟨(some 15), none, 0, .see (.mov (.t 0))⟩,
    ⟨(some 16), none, 0, .see (.conv .u8 (.t 15))⟩,
    ⟨(some 17), none, 0, .act (.bsl 1 (.v (.int .u8 0)) [(.t 16)])⟩,
    ⟨(some 18), none, 0, .act (.app 1 (.v (.int .u8 0)) 1 (.t 14) (.t 17))⟩,
    ⟨(some 19), none, 0, .see (.toStr (.t 18))⟩,
    ⟨(some 2), none, 0, .see (.mov (.t 19))⟩])
  .ret))))
noncomputable abbrev apiaryref21_Var_code : Code := (Go.Proofs.Try.f23.body).getD .skip
theorem apiaryref21_Var_chk : chkC Go.Proofs.Try.prog 20 apiaryref21_Var_code apiaryref21_Var_pc = true := by kernel_rfl
theorem apiaryref21_Var_triple {args : List AV} {po ro : List Ob} {res : AV} (hal : args.length = 1) (hpo : po.length ≤ 1000)
    (h : run Go.Proofs.Try.prog po.length (RetP po.length [(2, false, none)] fun v os => v = res ∧ os = ro) [.c apiaryref21_Var_pc] ⟨argE 0 args, ob0 po⟩) : Triple Go.Proofs.Try.prog 23 args po res ro :=
  triple_of_W (fn := Go.Proofs.Try.f23) (c := apiaryref21_Var_code) (pc := apiaryref21_Var_pc) (rs := [(2, false, none)]) Go.Proofs.Try.func23 rfl (by decide) (by have := apiaryref21_Var_chk; exact this) (by rw [hal]; decide) rfl (by kernel_rfl) (by kernel_rfl) (by decide) hpo (W_of_run h)

noncomputable def apiaryref21_Unvar_pc : PC :=
  (.seq (.reg [⟨(some 2), none, 0, .see (.mov (.c (.r (.v (.int .u64 0)))))⟩,
    ⟨(some 3), none, 0, .see (.mov (.c (.r (.v (.int .i64 0)))))⟩])
  (.seq (.reg [⟨(some 4), none, 0, .see (.mov (.c (.r (.v (.int .u64 0)))))⟩])
  (.seq (.seq (.reg [⟨(some 5), none, 0, .see (.mov (.c (.r (.v (.int .i64 0)))))⟩])
  (.block 0 (.loop (.seq (.seq (.reg [⟨(some 7), none, 0, .see (.mov (.t 5))⟩,
    ⟨(some 8), none, 0, .see (.bin .lss (.t 7) (.c (.r (.v (.int .i64 10)))))⟩,
    ⟨(some 9), none, 0, .see (.mov (.t 8))⟩,
    ⟨(some 10), (some (9, true)), 0, .see (.mov (.t 5))⟩,
    ⟨(some 11), (some (9, true)), 0, .see (.mov (.t 0))⟩,
    ⟨(some 12), (some (9, true)), 0, .see (.len true (.t 11))⟩,
    ⟨(some 13), (some (9, true)), 0, .see (.bin .lss (.t 10) (.t 12))⟩,
    ⟨(some 14), none, 0, .see (.pick (.t 9) (.t 13) (.c (.r (.v (.bool false)))))⟩])
  (.cond (.t 14)
    .skip
    (.exit 0)))
  (.seq (.block 1 (.seq (.reg [⟨(some 17), none, 0, .see (.mov (.t 0))⟩,
    ⟨(some 18), none, 0, .see (.mov (.t 5))⟩,
    ⟨(some 19), none, 0, .see (.ixs (.t 17) (.t 18))⟩,
    ⟨(some 20), none, 0, .see (.conv .u64 (.t 19))⟩,
    ⟨(some 6), none, 0, .see (.mov (.t 20))⟩])
  (.seq (.seq (.reg [⟨(some 21), none, 0, .see (.mov (.t 5))⟩,
    ⟨(some 22), none, 0, .see (.bin .eql (.t 21) (.c (.r (.v (.int .i64 9)))))⟩,
    ⟨(some 23), none, 0, .see (.mov (.t 22))⟩,
    ⟨(some 24), (some (23, true)), 0, .see (.mov (.t 6))⟩,
    ⟨(some 25), (some (23, true)), 0, .see (.bin .gtr (.t 24) (.c (.r (.v (.int .u64 1)))))⟩,
    ⟨(some 26), none, 0, .see (.pick (.t 23) (.t 25) (.c (.r (.v (.bool false)))))⟩])
  (.cond (.t 26)
    (.seq (.reg [⟨(some 2), none, 0, .see (.mov (.c (.r (.v (.int .u64 0)))))⟩,
    ⟨(some 3), none, 0, .see (.mov (.c (.r (.v (.int .i64 0)))))⟩])
    .ret)
    .skip))
  (.seq (.reg [⟨(some 27), none, 0, .see (.mov (.t 4))⟩,
    ⟨(some 28), none, 0, .see (.mov (.t 6))⟩,
    ⟨(some 29), none, 0, .see (.bin .and (.t 28) (.c (.r (.v (.int .u64 127)))))⟩,
    ⟨(some 30), none, 0, .see (.mov (.t 5))⟩,
    ⟨(some 31), none, 0, .see (.bin .mul (.c (.r (.v (.int .i64 7)))) (.t 30))⟩,
    ⟨(some 32), none, 0, .see (.bin .shl (.t 29) (.t 31))⟩,
    ⟨(some 33), none, 0, .see (.bin .or (.t 27) (.t 32))⟩,
    ⟨(some 4), none, 0, .see (.mov (.t 33))⟩])
  (.seq (.reg [⟨(some 34), none, 0, .see (.mov (.t 6))⟩,
    ⟨(some 35), none, 0, .see (.bin .lss (.t 34) (.c (.r (.v (.int .u64 128)))))⟩])
  (.cond (.t 35)
    (.seq (.seq (.reg [⟨(some 36), none, 0, .see (.mov (.t 5))⟩,
    ⟨(some 37), none, 0, .see (.bin .gtr (.t 36) (.c (.r (.v (.int .i64 0)))))⟩,
    ⟨(some 38), none, 0, .see (.mov (.t 37))⟩,
    ⟨(some 39), (some (38, true)), 0, .see (.mov (.t 6))⟩,
    ⟨(some 40), (some (38, true)), 0, .see (.bin .eql (.t 39) (.c (.r (.v (.int .u64 0)))))⟩,
    ⟨(some 41), none, 0, .see (.pick (.t 38) (.t 40) (.c (.r (.v (.bool false)))))⟩])
    (.cond (.t 41)
      (.seq (.reg [⟨(some 2), none, 0, .see (.mov (.c (.r (.v (.int .u64 0)))))⟩,
    ⟨(some 3), none, 0, .see (.mov (.c (.r (.v (.int .i64 0)))))⟩])
      .ret)
      .skip))
    (.seq (.reg [⟨(some 42), none, 0, .see (.mov (.t 4))⟩,
    ⟨(some 43), none, 0, .see (.mov (.t 5))⟩,
    ⟨(some 44), none, 0, .see (.bin .add (.t 43) (.c (.r (.v (.int .i64 1)))))⟩,
    ⟨(some 2), none, 0, .see (.mov (.t 42))⟩,
    ⟨(some 3), none, 0, .see (.mov (.t 44))⟩])
    .ret))
    .skip))))))
  (.reg [⟨(some 15), none, 0, .see (.mov (.t 5))⟩,
    ⟨(some 16), none, 0, .see (.bin .add (.t 15) (.c (.r (.v (.int .i64 1)))))⟩,
    ⟨(some 5), none, 0, .see (.mov (.t 16))⟩]))))))
  (.seq (.reg [⟨(some 2), none, 0, .see (.mov (.c (.r (.v (.int .u64 0)))))⟩,
    ⟨(some 3), none, 0, .see (.mov (.c (.r (.v (.int .i64 0)))))⟩])
  .ret))))
noncomputable abbrev apiaryref21_Unvar_code : Code := (Go.Proofs.Try.f28.body).getD .skip
theorem apiaryref21_Unvar_chk : chkC Go.Proofs.Try.prog 45 apiaryref21_Unvar_code apiaryref21_Unvar_pc = true := by kernel_rfl
theorem apiaryref21_Unvar_triple {args : List AV} {po ro : List Ob} {res : AV} (hal : args.length = 1) (hpo : po.length ≤ 1000)
    (h : run Go.Proofs.Try.prog po.length (RetP po.length [(2, false, none), (3, false, none)] fun v os => v = res ∧ os = ro) [.c apiaryref21_Unvar_pc] ⟨argE 0 args, ob0 po⟩) : Triple Go.Proofs.Try.prog 28 args po res ro :=
  triple_of_W (fn := Go.Proofs.Try.f28) (c := apiaryref21_Unvar_code) (pc := apiaryref21_Unvar_pc) (rs := [(2, false, none), (3, false, none)]) Go.Proofs.Try.func28 rfl (by decide) (by have := apiaryref21_Unvar_chk; exact this) (by rw [hal]; decide) rfl (by kernel_rfl) (by kernel_rfl) (by decide) hpo (W_of_run h)

noncomputable def apiaryref21_Zig_pc : PC :=
  (.seq (.reg [⟨(some 2), none, 0, .see (.mov (.c (.r (.v (.int .u64 0)))))⟩])
  (.seq (.reg [⟨(some 3), none, 0, .see (.mov (.t 0))⟩,
    ⟨(some 4), none, 0, .see (.conv .u64 (.t 3))⟩,
    ⟨(some 5), none, 0, .see (.bin .shl (.t 4) (.c (.r (.v (.int .u64 1)))))⟩,
    ⟨(some 6), none, 0, .see (.mov (.t 0))⟩,
    ⟨(some 7), none, 0, .see (.bin .shr (.t 6) (.c (.r (.v (.int .u64 63)))))⟩,
    ⟨(some 8), none, 0, .see (.conv .u64 (.t 7))⟩,
    ⟨(some 9), none, 0, .see (.bin .xor (.t 5) (.t 8))⟩,
    ⟨(some 2), none, 0, .see (.mov (.t 9))⟩])
  .ret))
noncomputable abbrev apiaryref21_Zig_code : Code := (Go.Proofs.Try.f24.body).getD .skip
theorem apiaryref21_Zig_chk : chkC Go.Proofs.Try.prog 10 apiaryref21_Zig_code apiaryref21_Zig_pc = true := by kernel_rfl
theorem apiaryref21_Zig_triple {args : List AV} {po ro : List Ob} {res : AV} (hal : args.length = 1) (hpo : po.length ≤ 1000)
    (h : run Go.Proofs.Try.prog po.length (RetP po.length [(2, false, none)] fun v os => v = res ∧ os = ro) [.c apiaryref21_Zig_pc] ⟨argE 0 args, ob0 po⟩) : Triple Go.Proofs.Try.prog 24 args po res ro :=
  triple_of_W (fn := Go.Proofs.Try.f24) (c := apiaryref21_Zig_code) (pc := apiaryref21_Zig_pc) (rs := [(2, false, none)]) Go.Proofs.Try.func24 rfl (by decide) (by have := apiaryref21_Zig_chk; exact this) (by rw [hal]; decide) rfl (by kernel_rfl) (by kernel_rfl) (by decide) hpo (W_of_run h)

noncomputable def apiaryref21_fieldOk_pc : PC :=
  (.seq (.reg [⟨(some 2), none, 0, .see (.mov (.c (.r (.v (.bool false)))))⟩])
  (.seq (.reg [⟨(some 3), none, 0, .see (.mov (.t 0))⟩,
    ⟨(some 4), none, 0, .see (.bin .geq (.t 3) (.c (.r (.v (.int .i64 1)))))⟩,
    ⟨(some 5), none, 0, .see (.mov (.t 4))⟩,
    ⟨(some 6), (some (5, true)), 0, .see (.mov (.t 0))⟩,
    ⟨(some 7), (some (5, true)), 0, .see (.bin .leq (.t 6) (.c (.r (.v (.int .i64 1000)))))⟩,
    ⟨(some 8), none, 0, .see (.pick (.t 5) (.t 7) (.c (.r (.v (.bool false)))))⟩,
    ⟨(some 2), none, 0, .see (.mov (.t 8))⟩])
  .ret))
noncomputable abbrev apiaryref21_fieldOk_code : Code := (Go.Proofs.Try.f26.body).getD .skip
theorem apiaryref21_fieldOk_chk : chkC Go.Proofs.Try.prog 9 apiaryref21_fieldOk_code apiaryref21_fieldOk_pc = true := by kernel_rfl
theorem apiaryref21_fieldOk_triple {args : List AV} {po ro : List Ob} {res : AV} (hal : args.length = 1) (hpo : po.length ≤ 1000)
    (h : run Go.Proofs.Try.prog po.length (RetP po.length [(2, false, none)] fun v os => v = res ∧ os = ro) [.c apiaryref21_fieldOk_pc] ⟨argE 0 args, ob0 po⟩) : Triple Go.Proofs.Try.prog 26 args po res ro :=
  triple_of_W (fn := Go.Proofs.Try.f26) (c := apiaryref21_fieldOk_code) (pc := apiaryref21_fieldOk_pc) (rs := [(2, false, none)]) Go.Proofs.Try.func26 rfl (by decide) (by have := apiaryref21_fieldOk_chk; exact this) (by rw [hal]; decide) rfl (by kernel_rfl) (by kernel_rfl) (by decide) hpo (W_of_run h)

noncomputable def apiaryref21_Num_pc : PC :=
  (.seq (.reg [⟨(some 4), none, 0, .see (.mov (.c (.r (.v (.string ⟨#[]⟩)))))⟩])
  (.seq (.seq (.reg [⟨(some 5), none, 0, .see (.mov (.t 0))⟩,
    ⟨(some 6), none, 1, .call 26 [(.t 5)]⟩,
    ⟨(some 7), none, 0, .see (.un .not (.t 6))⟩])
  (.cond (.t 7)
    (.seq (.reg [⟨(some 4), none, 0, .see (.mov (.c (.r (.v (.string ⟨#[]⟩)))))⟩])
    .ret)
    .skip))
  (.seq (.reg [⟨(some 8), none, 0, .see (.mov (.t 0))⟩,
    ⟨(some 9), none, 0, .see (.bin .mul (.c (.r (.v (.int .i64 8)))) (.t 8))⟩,
    ⟨(some 10), none, 0, .see (.conv .u64 (.t 9))⟩,
    ⟨(some 11), none, 2, .call 23 [(.t 10)]⟩,
    ⟨(some 12), none, 0, .see (.mov (.t 1))⟩,
    ⟨(some 13), none, 3, .call 23 [(.t 12)]⟩,
    ⟨(some 14), none, 0, .see (.bin .add (.t 11) (.t 13))⟩,
    ⟨(some 4), none, 0, .see (.mov (.t 14))⟩])
  .ret)))
noncomputable abbrev apiaryref21_Num_code : Code := (Go.Proofs.Try.f13.body).getD .skip
theorem apiaryref21_Num_chk : chkC Go.Proofs.Try.prog 15 apiaryref21_Num_code apiaryref21_Num_pc = true := by kernel_rfl
theorem apiaryref21_Num_triple {args : List AV} {po ro : List Ob} {res : AV} (hal : args.length = 2) (hpo : po.length ≤ 1000)
    (h : run Go.Proofs.Try.prog po.length (RetP po.length [(4, false, none)] fun v os => v = res ∧ os = ro) [.c apiaryref21_Num_pc] ⟨argE 0 args, ob0 po⟩) : Triple Go.Proofs.Try.prog 13 args po res ro :=
  triple_of_W (fn := Go.Proofs.Try.f13) (c := apiaryref21_Num_code) (pc := apiaryref21_Num_pc) (rs := [(4, false, none)]) Go.Proofs.Try.func13 rfl (by decide) (by have := apiaryref21_Num_chk; exact this) (by rw [hal]; decide) rfl (by kernel_rfl) (by kernel_rfl) (by decide) hpo (W_of_run h)

noncomputable def apiaryref21_Bytes_pc : PC :=
  (.seq (.reg [⟨(some 4), none, 0, .see (.mov (.c (.r (.v (.string ⟨#[]⟩)))))⟩])
  (.seq (.seq (.reg [⟨(some 5), none, 0, .see (.mov (.t 0))⟩,
    ⟨(some 6), none, 1, .call 26 [(.t 5)]⟩,
    ⟨(some 7), none, 0, .see (.un .not (.t 6))⟩])
  (.cond (.t 7)
    (.seq (.reg [⟨(some 4), none, 0, .see (.mov (.c (.r (.v (.string ⟨#[]⟩)))))⟩])
    .ret)
    .skip))
  (.seq (.reg [⟨(some 8), none, 0, .see (.mov (.t 0))⟩,
    ⟨(some 9), none, 0, .see (.bin .mul (.c (.r (.v (.int .i64 8)))) (.t 8))⟩,
    ⟨(some 10), none, 0, .see (.bin .add (.t 9) (.c (.r (.v (.int .i64 2)))))⟩,
    ⟨(some 11), none, 0, .see (.conv .u64 (.t 10))⟩,
    ⟨(some 12), none, 2, .call 23 [(.t 11)]⟩,
    ⟨(some 13), none, 0, .see (.mov (.t 1))⟩,
    ⟨(some 14), none, 0, .see (.len true (.t 13))⟩,
    ⟨(some 15), none, 0, .see (.conv .u64 (.t 14))⟩,
    ⟨(some 16), none, 3, .call 23 [(.t 15)]⟩,
    ⟨(some 17), none, 0, .see (.bin .add (.t 12) (.t 16))⟩,
    ⟨(some 18), none, 0, .see (.mov (.t 1))⟩,
    ⟨(some 19), none, 0, .see (.bin .add (.t 17) (.t 18))⟩,
    ⟨(some 4), none, 0, .see (.mov (.t 19))⟩])
  .ret)))
noncomputable abbrev apiaryref21_Bytes_code : Code := (Go.Proofs.Try.f12.body).getD .skip
theorem apiaryref21_Bytes_chk : chkC Go.Proofs.Try.prog 20 apiaryref21_Bytes_code apiaryref21_Bytes_pc = true := by kernel_rfl
theorem apiaryref21_Bytes_triple {args : List AV} {po ro : List Ob} {res : AV} (hal : args.length = 2) (hpo : po.length ≤ 1000)
    (h : run Go.Proofs.Try.prog po.length (RetP po.length [(4, false, none)] fun v os => v = res ∧ os = ro) [.c apiaryref21_Bytes_pc] ⟨argE 0 args, ob0 po⟩) : Triple Go.Proofs.Try.prog 12 args po res ro :=
  triple_of_W (fn := Go.Proofs.Try.f12) (c := apiaryref21_Bytes_code) (pc := apiaryref21_Bytes_pc) (rs := [(4, false, none)]) Go.Proofs.Try.func12 rfl (by decide) (by have := apiaryref21_Bytes_chk; exact this) (by rw [hal]; decide) rfl (by kernel_rfl) (by kernel_rfl) (by decide) hpo (W_of_run h)

noncomputable def apiaryref21_Pack_pc : PC :=
  (.seq (.reg [⟨(some 4), none, 0, .see (.mov (.c (.r (.v (.string ⟨#[]⟩)))))⟩])
  (.seq (.reg [⟨(some 5), none, 0, .see (.mov (.c (.r (.v (.string ⟨#[]⟩)))))⟩])
  (.seq (.seq (.reg [⟨(some 6), none, 0, .see (.mov (.c (.r (.v (.int .i64 0)))))⟩])
  (.block 0 (.loop (.seq (.seq (.reg [⟨(some 7), none, 0, .see (.mov (.t 6))⟩,
    ⟨(some 8), none, 0, .see (.mov (.t 1))⟩,
    ⟨(some 9), none, 0, .see (.len false (.t 8))⟩,
    ⟨(some 10), none, 0, .see (.bin .lss (.t 7) (.t 9))⟩])
  (.cond (.t 10)
    .skip
    (.exit 0)))
  (.seq (.block 1 (.reg [⟨(some 13), none, 0, .see (.mov (.t 5))⟩,
    ⟨(some 14), none, 0, .see (.mov (.t 1))⟩,
    ⟨(some 15), none, 0, .see (.mov (.t 6))⟩,
    ⟨(some 16), none, 0, .see (.ia 1 (.v (.int .u64 0)) (.t 14) (.t 15))⟩,
    ⟨(some 17), none, 0, .see (.ld none (.t 16))⟩,
    ⟨(some 18), none, 1, .call 23 [(.t 17)]⟩,
    ⟨(some 19), none, 0, .see (.bin .add (.t 13) (.t 18))⟩,
    ⟨(some 5), none, 0, .see (.mov (.t 19))⟩]))
  (.reg [⟨(some 11), none, 0, .see (.mov (.t 6))⟩,
    ⟨(some 12), none, 0, .see (.bin .add (.t 11) (.c (.r (.v (.int .i64 1)))))⟩,
    ⟨(some 6), none, 0, .see (.mov (.t 12))⟩]))))))
  (.seq (.reg [⟨(some 20), none, 0, .see (.mov (.t 0))⟩,
    ⟨(some 21), none, 0, .see (.mov (.t 5))⟩,
    ⟨(some 22), none, 2, .call 12 [(.t 20), (.t 21)]⟩,
    ⟨(some 4), none, 0, .see (.mov (.t 22))⟩])
  .ret))))
noncomputable abbrev apiaryref21_Pack_code : Code := (Go.Proofs.Try.f11.body).getD .skip
theorem apiaryref21_Pack_chk : chkC Go.Proofs.Try.prog 23 apiaryref21_Pack_code apiaryref21_Pack_pc = true := by kernel_rfl
theorem apiaryref21_Pack_triple {args : List AV} {po ro : List Ob} {res : AV} (hal : args.length = 2) (hpo : po.length ≤ 1000)
    (h : run Go.Proofs.Try.prog po.length (RetP po.length [(4, false, none)] fun v os => v = res ∧ os = ro) [.c apiaryref21_Pack_pc] ⟨argE 0 args, ob0 po⟩) : Triple Go.Proofs.Try.prog 11 args po res ro :=
  triple_of_W (fn := Go.Proofs.Try.f11) (c := apiaryref21_Pack_code) (pc := apiaryref21_Pack_pc) (rs := [(4, false, none)]) Go.Proofs.Try.func11 rfl (by decide) (by have := apiaryref21_Pack_chk; exact this) (by rw [hal]; decide) rfl (by kernel_rfl) (by kernel_rfl) (by decide) hpo (W_of_run h)

noncomputable def apiaryref21_Vars_pc : PC :=
  (.seq (.reg [⟨(some 2), none, 0, .see (.mov (.c (.nils 1 (.v (.int .u64 0)))))⟩,
    ⟨(some 3), none, 0, .see (.mov (.c (.r (.v (.int .i64 0)))))⟩])
  (.seq (.reg [⟨(some 4), none, 0, .see (.mov (.c (.nils 1 (.v (.int .u64 0)))))⟩])
  (.seq (.seq (.reg [⟨(some 5), none, 0, .see (.mov (.c (.r (.v (.int .i64 0)))))⟩])
  (.block 0 (.loop (.seq (.seq (.reg [⟨(some 8), none, 0, .see (.mov (.t 5))⟩,
    ⟨(some 9), none, 0, .see (.mov (.t 0))⟩,
    ⟨(some 10), none, 0, .see (.len true (.t 9))⟩,
    ⟨(some 11), none, 0, .see (.bin .lss (.t 8) (.t 10))⟩])
  (.cond (.t 11)
    .skip
    (.exit 0)))
  (.block 1 (.seq (.reg [⟨(some 13), none, 0, .see (.mov (.t 0))⟩,
    ⟨(some 14), none, 0, .see (.mov (.t 5))⟩,
    ⟨(some 15), none, 0, .see (.sls (.t 13) (some (.t 14)) none)⟩,
    ⟨(some 16), none, 1, .call 28 [(.t 15)]⟩,
    ⟨(some 12), none, 0, .see (.mov (.t 16))⟩,
    ⟨(some 17), none, 0, .see (.ext (.t 12) 0)⟩,
    ⟨(some 18), none, 0, .see (.ext (.t 12) 1)⟩,
    ⟨(some 6), none, 0, .see (.mov (.t 17))⟩,
    ⟨(some 7), none, 0, .see (.mov (.t 18))⟩])
  (.seq (.seq (.reg [⟨(some 19), none, 0, .see (.mov (.t 7))⟩,
    ⟨(some 20), none, 0, .see (.bin .eql (.t 19) (.c (.r (.v (.int .i64 0)))))⟩])
  (.cond (.t 20)
    (.seq (.reg [⟨(some 2), none, 0, .see (.mov (.c (.nils 1 (.v (.int .u64 0)))))⟩,
    ⟨(some 3), none, 0, .see (.mov (.c (.r (.v (.int .i64 10)))))⟩])
    .ret)
    .skip))
  (.seq (.reg [⟨(some 21), none, 0, .see (.mov (.t 4))⟩,
    ⟨(some 22), none, 0, .see (.mov (.t 6))⟩,
    ⟨(some 23), none, 0, .act (.bsl 1 (.v (.int .u64 0)) [(.t 22)])⟩,
    ⟨(some 24), none, 0, .act (.app 1 (.v (.int .u64 0)) 8 (.t 21) (.t 23))⟩,
    ⟨(some 4), none, 0, .see (.mov (.t 24))⟩])
  (.reg [⟨(some 25), none, 0, .see (.mov (.t 5))⟩,
    ⟨(some 26), none, 0, .see (.mov (.t 7))⟩,
    ⟨(some 27), none, 0, .see (.bin .add (.t 25) (.t 26))⟩,
    ⟨(some 5), none, 0, .see (.mov (.t 27))⟩])))))))))
  (.seq (.reg [⟨(some 28), none, 0, .see (.mov (.t 4))⟩,
    ⟨(some 2), none, 0, .see (.mov (.t 28))⟩,
    ⟨(some 3), none, 0, .see (.mov (.c (.r (.v (.int .i64 0)))))⟩])
  .ret))))
noncomputable abbrev apiaryref21_Vars_code : Code := (Go.Proofs.Try.f17.body).getD .skip
theorem apiaryref21_Vars_chk : chkC Go.Proofs.Try.prog 29 apiaryref21_Vars_code apiaryref21_Vars_pc = true := by kernel_rfl
theorem apiaryref21_Vars_triple {args : List AV} {po ro : List Ob} {res : AV} (hal : args.length = 1) (hpo : po.length ≤ 1000)
    (h : run Go.Proofs.Try.prog po.length (RetP po.length [(2, false, none), (3, false, none)] fun v os => v = res ∧ os = ro) [.c apiaryref21_Vars_pc] ⟨argE 0 args, ob0 po⟩) : Triple Go.Proofs.Try.prog 17 args po res ro :=
  triple_of_W (fn := Go.Proofs.Try.f17) (c := apiaryref21_Vars_code) (pc := apiaryref21_Vars_pc) (rs := [(2, false, none), (3, false, none)]) Go.Proofs.Try.func17 rfl (by decide) (by have := apiaryref21_Vars_chk; exact this) (by rw [hal]; decide) rfl (by kernel_rfl) (by kernel_rfl) (by decide) hpo (W_of_run h)

noncomputable def apiaryref21_Fields_pc : PC :=
  (.seq (.reg [⟨(some 2), none, 0, .see (.mov (.c (.nils 4 (.agg [(.v (.int .i64 0)), (.v (.int .i64 0)), (.v (.int .u64 0)), (.sl 1 [])]))))⟩,
    ⟨(some 3), none, 0, .see (.mov (.c (.r (.v (.int .i64 0)))))⟩])
  (.seq (.reg [⟨(some 4), none, 0, .see (.mov (.c (.nils 4 (.agg [(.v (.int .i64 0)), (.v (.int .i64 0)), (.v (.int .u64 0)), (.sl 1 [])]))))⟩])
  (.seq (.seq (.reg [⟨(some 5), none, 0, .see (.mov (.c (.r (.v (.int .i64 0)))))⟩])
  (.block 0 (.loop (.seq (.seq (.reg [⟨(some 11), none, 0, .see (.mov (.t 5))⟩,
    ⟨(some 12), none, 0, .see (.mov (.t 0))⟩,
    ⟨(some 13), none, 0, .see (.len true (.t 12))⟩,
    ⟨(some 14), none, 0, .see (.bin .lss (.t 11) (.t 13))⟩])
  (.cond (.t 14)
    .skip
    (.exit 0)))
  (.block 1 (.seq (.reg [⟨(some 16), none, 0, .see (.mov (.t 0))⟩,
    ⟨(some 17), none, 0, .see (.mov (.t 5))⟩,
    ⟨(some 18), none, 0, .see (.sls (.t 16) (some (.t 17)) none)⟩,
    ⟨(some 19), none, 1, .call 28 [(.t 18)]⟩,
    ⟨(some 15), none, 0, .see (.mov (.t 19))⟩,
    ⟨(some 20), none, 0, .see (.ext (.t 15) 0)⟩,
    ⟨(some 21), none, 0, .see (.ext (.t 15) 1)⟩,
    ⟨(some 6), none, 0, .see (.mov (.t 20))⟩,
    ⟨(some 7), none, 0, .see (.mov (.t 21))⟩])
  (.seq (.seq (.reg [⟨(some 22), none, 0, .see (.mov (.t 7))⟩,
    ⟨(some 23), none, 0, .see (.bin .eql (.t 22) (.c (.r (.v (.int .i64 0)))))⟩,
    ⟨(some 24), none, 0, .see (.mov (.t 23))⟩,
    ⟨(some 25), (some (24, false)), 0, .see (.mov (.t 6))⟩,
    ⟨(some 26), (some (24, false)), 0, .see (.bin .shr (.t 25) (.c (.r (.v (.int .u64 3)))))⟩,
    ⟨(some 27), (some (24, false)), 0, .see (.bin .lss (.t 26) (.c (.r (.v (.int .u64 1)))))⟩,
    ⟨(some 28), none, 0, .see (.pick (.t 24) (.c (.r (.v (.bool true)))) (.t 27))⟩,
    ⟨(some 29), none, 0, .see (.mov (.t 28))⟩,
    ⟨(some 30), (some (29, false)), 0, .see (.mov (.t 6))⟩,
    ⟨(some 31), (some (29, false)), 0, .see (.bin .shr (.t 30) (.c (.r (.v (.int .u64 3)))))⟩,
    ⟨(some 32), (some (29, false)), 0, .see (.bin .gtr (.t 31) (.c (.r (.v (.int .u64 1000)))))⟩,
    ⟨(some 33), none, 0, .see (.pick (.t 29) (.c (.r (.v (.bool true)))) (.t 32))⟩,
    ⟨(some 34), none, 0, .see (.mov (.t 33))⟩,
    ⟨(some 35), (some (34, false)), 0, .see (.mov (.t 6))⟩,
    ⟨(some 36), (some (34, false)), 0, .see (.bin .and (.t 35) (.c (.r (.v (.int .u64 7)))))⟩,
    ⟨(some 37), (some (34, false)), 0, .see (.bin .neq (.t 36) (.c (.r (.v (.int .u64 0)))))⟩,
    ⟨(some 38), (some (34, false)), 0, .see (.mov (.t 37))⟩,
    ⟨(some 39), (some (38, true)), 0, .see (.mov (.t 6))⟩,
    ⟨(some 40), (some (38, true)), 0, .see (.bin .and (.t 39) (.c (.r (.v (.int .u64 7)))))⟩,
    ⟨(some 41), (some (38, true)), 0, .see (.bin .neq (.t 40) (.c (.r (.v (.int .u64 2)))))⟩,
    ⟨(some 42), (some (34, false)), 0, .see (.pick (.t 38) (.t 41) (.c (.r (.v (.bool false)))))⟩,
    ⟨(some 43), none, 0, .see (.pick (.t 34) (.c (.r (.v (.bool true)))) (.t 42))⟩])
  (.cond (.t 43)
    (.seq (.reg [⟨(some 2), none, 0, .see (.mov (.c (.nils 4 (.agg [(.v (.int .i64 0)), (.v (.int .i64 0)), (.v (.int .u64 0)), (.sl 1 [])]))))⟩,
    ⟨(some 3), none, 0, .see (.mov (.c (.r (.v (.int .i64 10)))))⟩])
    .ret)
    .skip))
  (.seq (.reg [⟨(some 44), none, 0, .see (.mov (.t 5))⟩,
    ⟨(some 45), none, 0, .see (.mov (.t 7))⟩,
    ⟨(some 46), none, 0, .see (.bin .add (.t 44) (.t 45))⟩,
    ⟨(some 5), none, 0, .see (.mov (.t 46))⟩])
  (.seq (.reg [⟨(some 47), none, 0, .see (.mov (.t 6))⟩,
    ⟨(some 48), none, 0, .see (.bin .shr (.t 47) (.c (.r (.v (.int .u64 3)))))⟩,
    ⟨(some 49), none, 0, .see (.conv .i64 (.t 48))⟩,
    ⟨(some 50), none, 0, .see (.mov (.t 6))⟩,
    ⟨(some 51), none, 0, .see (.bin .and (.t 50) (.c (.r (.v (.int .u64 7)))))⟩,
    ⟨(some 52), none, 0, .see (.conv .i64 (.t 51))⟩,
    ⟨(some 53), none, 0, .see (.build [(.r (.v (.int .i64 0))), (.r (.v (.int .i64 0))), (.r (.v (.int .u64 0))), (.nils 1 (.v (.int .u8 0)))] [(0, 1, (.t 49)), (1, 1, (.t 52))])⟩,
    ⟨(some 8), none, 0, .act (.new [(.r (.v (.int .i64 0))), (.r (.v (.int .i64 0))), (.r (.v (.int .u64 0))), (.nils 1 (.v (.int .u8 0)))])⟩,
    ⟨none, none, 0, .act (.st 4 (.t 8) (.t 53))⟩])
  (.seq (.reg [⟨(some 55), none, 0, .see (.mov (.t 0))⟩,
    ⟨(some 56), none, 0, .see (.mov (.t 5))⟩,
    ⟨(some 57), none, 0, .see (.sls (.t 55) (some (.t 56)) none)⟩,
    ⟨(some 58), none, 2, .call 28 [(.t 57)]⟩,
    ⟨(some 54), none, 0, .see (.mov (.t 58))⟩,
    ⟨(some 59), none, 0, .see (.ext (.t 54) 0)⟩,
    ⟨(some 60), none, 0, .see (.ext (.t 54) 1)⟩,
    ⟨(some 9), none, 0, .see (.mov (.t 59))⟩,
    ⟨(some 10), none, 0, .see (.mov (.t 60))⟩])
  (.seq (.seq (.reg [⟨(some 61), none, 0, .see (.mov (.t 10))⟩,
    ⟨(some 62), none, 0, .see (.bin .eql (.t 61) (.c (.r (.v (.int .i64 0)))))⟩])
  (.cond (.t 62)
    (.seq (.reg [⟨(some 2), none, 0, .see (.mov (.c (.nils 4 (.agg [(.v (.int .i64 0)), (.v (.int .i64 0)), (.v (.int .u64 0)), (.sl 1 [])]))))⟩,
    ⟨(some 3), none, 0, .see (.mov (.c (.r (.v (.int .i64 10)))))⟩])
    .ret)
    .skip))
  (.seq (.reg [⟨(some 63), none, 0, .see (.mov (.t 5))⟩,
    ⟨(some 64), none, 0, .see (.mov (.t 10))⟩,
    ⟨(some 65), none, 0, .see (.bin .add (.t 63) (.t 64))⟩,
    ⟨(some 5), none, 0, .see (.mov (.t 65))⟩])
  (.seq (.seq (.reg [⟨(some 66), none, 0, .see (.fa 1 (.t 8))⟩,
    ⟨(some 67), none, 0, .see (.ld none (.t 66))⟩,
    ⟨(some 68), none, 0, .see (.bin .eql (.t 67) (.c (.r (.v (.int .i64 0)))))⟩])
  (.cond (.t 68)
    (.reg [⟨(some 69), none, 0, .see (.mov (.t 9))⟩,
    ⟨(some 70), none, 0, .see (.fa 2 (.t 8))⟩,
    ⟨none, none, 0, .act (.st 1 (.t 70) (.t 69))⟩])
    (.seq (.seq (.reg [⟨(some 71), none, 0, .see (.mov (.t 9))⟩,
    ⟨(some 72), none, 0, .see (.mov (.t 0))⟩,
    ⟨(some 73), none, 0, .see (.len true (.t 72))⟩,
    ⟨(some 74), none, 0, .see (.mov (.t 5))⟩,
    ⟨(some 75), none, 0, .see (.bin .sub (.t 73) (.t 74))⟩,
    ⟨(some 76), none, 0, .see (.conv .u64 (.t 75))⟩,
    ⟨(some 77), none, 0, .see (.bin .gtr (.t 71) (.t 76))⟩])
    (.cond (.t 77)
      (.seq (.reg [⟨(some 2), none, 0, .see (.mov (.c (.nils 4 (.agg [(.v (.int .i64 0)), (.v (.int .i64 0)), (.v (.int .u64 0)), (.sl 1 [])]))))⟩,
    ⟨(some 3), none, 0, .see (.mov (.c (.r (.v (.int .i64 10)))))⟩])
      .ret)
      .skip))
    (.seq (.reg [⟨(some 78), none, 0, .see (.mov (.t 0))⟩,
    ⟨(some 79), none, 0, .see (.mov (.t 5))⟩,
    ⟨(some 80), none, 0, .see (.mov (.t 5))⟩,
    ⟨(some 81), none, 0, .see (.mov (.t 9))⟩,
    ⟨(some 82), none, 0, .see (.conv .i64 (.t 81))⟩,
    ⟨(some 83), none, 0, .see (.bin .add (.t 80) (.t 82))⟩,
    ⟨(some 84), none, 0, .see (.sls (.t 78) (some (.t 79)) (some (.t 83)))⟩,
    ⟨(some 85), none, 0, .act (.toBytes (.v (.int .u8 0)) (.t 84))⟩,
    ⟨(some 86), none, 0, .see (.fa 3 (.t 8))⟩,
    ⟨none, none, 0, .act (.st 1 (.t 86) (.t 85))⟩])
    (.reg [⟨(some 87), none, 0, .see (.mov (.t 5))⟩,
    ⟨(some 88), none, 0, .see (.mov (.t 9))⟩,
    ⟨(some 89), none, 0, .see (.conv .i64 (.t 88))⟩,
    ⟨(some 90), none, 0, .see (.bin .add (.t 87) (.t 89))⟩,
    ⟨(some 5), none, 0, .see (.mov (.t 90))⟩])))))
  (.reg [⟨(some 91), none, 0, .see (.mov (.t 4))⟩,
    ⟨(some 92), none, 0, .see (.ld (some 4) (.t 8))⟩,
    ⟨(some 93), none, 0, .act (.bsl 4 (.agg [(.v (.int .i64 0)), (.v (.int .i64 0)), (.v (.int .u64 0)), (.sl 1 [])]) [(.t 92)])⟩,
    ⟨(some 94), none, 0, .act (.app 4 (.agg [(.v (.int .i64 0)), (.v (.int .i64 0)), (.v (.int .u64 0)), (.sl 1 [])]) 48 (.t 91) (.t 93))⟩,
    ⟨(some 4), none, 0, .see (.mov (.t 94))⟩]))))))))))))))
  (.seq (.reg [⟨(some 95), none, 0, .see (.mov (.t 4))⟩,
    ⟨(some 2), none, 0, .see (.mov (.t 95))⟩,
    ⟨(some 3), none, 0, .see (.mov (.c (.r (.v (.int .i64 0)))))⟩])
  .ret))))
noncomputable abbrev apiaryref21_Fields_code : Code := (Go.Proofs.Try.f15.body).getD .skip
theorem apiaryref21_Fields_chk : chkC Go.Proofs.Try.prog 96 apiaryref21_Fields_code apiaryref21_Fields_pc = true := by kernel_rfl
theorem apiaryref21_Fields_triple {args : List AV} {po ro : List Ob} {res : AV} (hal : args.length = 1) (hpo : po.length ≤ 1000)
    (h : run Go.Proofs.Try.prog po.length (RetP po.length [(2, false, none), (3, false, none)] fun v os => v = res ∧ os = ro) [.c apiaryref21_Fields_pc] ⟨argE 0 args, ob0 po⟩) : Triple Go.Proofs.Try.prog 15 args po res ro :=
  triple_of_W (fn := Go.Proofs.Try.f15) (c := apiaryref21_Fields_code) (pc := apiaryref21_Fields_pc) (rs := [(2, false, none), (3, false, none)]) Go.Proofs.Try.func15 rfl (by decide) (by have := apiaryref21_Fields_chk; exact this) (by rw [hal]; decide) rfl (by kernel_rfl) (by kernel_rfl) (by decide) hpo (W_of_run h)

noncomputable def apiaryref1_Same_pc : PC :=
  (.seq (.reg [⟨(some 4), none, 0, .see (.mov (.c (.r (.v (.bool false)))))⟩])
  (.seq (.seq (.reg [⟨(some 6), none, 0, .see (.mov (.t 0))⟩,
    ⟨(some 7), none, 0, .see (.len false (.t 6))⟩,
    ⟨(some 8), none, 0, .see (.mov (.t 1))⟩,
    ⟨(some 9), none, 0, .see (.len false (.t 8))⟩,
    ⟨(some 10), none, 0, .see (.bin .neq (.t 7) (.t 9))⟩])
  (.cond (.t 10)
    (.seq (.reg [⟨(some 4), none, 0, .see (.mov (.c (.r (.v (.bool false)))))⟩])
    .ret)
    .skip))
  (.seq (.seq (.reg [⟨(some 5), none, 0, .see (.mov (.c (.r (.v (.int .i64 0)))))⟩])
  (.block 0 (.loop (.seq (.seq (.reg [⟨(some 11), none, 0, .see (.mov (.t 5))⟩,
    ⟨(some 12), none, 0, .see (.mov (.t 0))⟩,
    ⟨(some 13), none, 0, .see (.len false (.t 12))⟩,
    ⟨(some 14), none, 0, .see (.bin .lss (.t 11) (.t 13))⟩])
  (.cond (.t 14)
    .skip
    (.exit 0)))
  (.seq (.block 1 (.seq (.drw [⟨(some 17), none, 0, .see (.mov (.t 0))⟩,
    ⟨(some 18), none, 0, .see (.mov (.t 5))⟩,
    ⟨(some 19), none, 0, .see (.ia 1 (.v (.int .u64 0)) (.t 17) (.t 18))⟩,
    ⟨(some 20), none, 0, .see (.ld none (.t 19))⟩,
    ⟨(some 21), none, 0, .see (.mov (.t 1))⟩,
    ⟨(some 22), none, 0, .see (.mov (.t 5))⟩,
    ⟨(some 23), none, 0, .see (.ia 1 (.v (.int .u64 0)) (.t 21) (.t 22))⟩,
    ⟨(some 24), none, 0, .see (.ld none (.t 23))⟩,
    ⟨(some 25), none, 0, .see (.bin .neq (.t 20) (.t 24))⟩]
    [[], [], [0, 1], [0, 1, 2], [], [], [4, 5], [4, 5, 6], [0, 1, 2, 3, 4, 5, 6, 7]])
  (.cond (.t 25)
    (.seq (.reg [⟨(some 4), none, 0, .see (.mov (.c (.r (.v (.bool false)))))⟩])
    .ret)
    .skip)))
  (.reg [⟨(some 15), none, 0, .see (.mov (.t 5))⟩,
    ⟨(some 16), none, 0, .see (.bin .add (.t 15) (.c (.r (.v (.int .i64 1)))))⟩,
    ⟨(some 5), none, 0, .see (.mov (.t 16))⟩]))))))
  (.seq (.reg [⟨(some 4), none, 0, .see (.mov (.c (.r (.v (.bool true)))))⟩])
  .ret))))
noncomputable abbrev apiaryref1_Same_code : Code := (Go.Proofs.Try.f18.body).getD .skip
theorem apiaryref1_Same_chk : chkC Go.Proofs.Try.prog 26 apiaryref1_Same_code apiaryref1_Same_pc = true := by kernel_rfl
theorem apiaryref1_Same_triple {args : List AV} {po ro : List Ob} {res : AV} (hal : args.length = 2) (hpo : po.length ≤ 1000)
    (h : run Go.Proofs.Try.prog po.length (RetP po.length [(4, false, none)] fun v os => v = res ∧ os = ro) [.c apiaryref1_Same_pc] ⟨argE 0 args, ob0 po⟩) : Triple Go.Proofs.Try.prog 18 args po res ro :=
  triple_of_W (fn := Go.Proofs.Try.f18) (c := apiaryref1_Same_code) (pc := apiaryref1_Same_pc) (rs := [(4, false, none)]) Go.Proofs.Try.func18 rfl (by decide) (by have := apiaryref1_Same_chk; exact this) (by rw [hal]; decide) rfl (by kernel_rfl) (by kernel_rfl) (by decide) hpo (W_of_run h)

theorem or256 : ∀ x : Fin 256, (BitVec.ofInt 8 (x.val : Int) ||| BitVec.ofInt 8 128).toNat = x.val % 128 + 128 := by decide +kernel
theorem more_byte2' (U : Int) (h0 : 0 ≤ U) (h1 : U < 18446744073709551616) :
    RV.v (.int .u8 (IntKind.u8.wrap ((BitVec.ofInt IntKind.u8.bits (IntKind.u8.wrap U) ||| BitVec.ofInt IntKind.u8.bits 128).toNat))) = by8 (UInt8.ofNat (U.toNat % 128 + 128)) := by
  have e : IntKind.u8.wrap U = ((U.toNat % 256 : Nat) : Int) := by rw [IntKind.wrap_u8]; omega
  have := or256 ⟨U.toNat % 256, Nat.mod_lt _ (by decide)⟩
  simp only at this
  rw [e, show IntKind.u8.bits = 8 from rfl, this, IntKind.wrap_u8]
  simp only [by8]
  congr 2
  rw [UInt8.toNat_ofNat']
  omega
theorem take_snoc (r : List UInt8) (c : UInt8) : List.take (r.length + 1) (bys r ++ [by8 c]) = bys (r ++ [c]) := by
  rw [List.take_of_length_le (by simp)]; simp
set_option maxRecDepth 100000 in
theorem rvar_t (n : Int) (n0 : 0 ≤ n) (hn : n < 18446744073709551616) : Triple Go.Proofs.Try.prog 23 [int .u64 n] [] (strv (bstr (varL n.toNat))) [] := by
  refine apiaryref21_Var_triple rfl (by decide) ?_
  simp only [apiaryref21_Var_pc, List.length_nil, push_cast, ↓reduceIte, reduceCtorEq, Nat.reduceBEq, Nat.reduceEqDiff, Nat.reduceAdd, Nat.reduceSub, Nat.reduceLT, Nat.reduceLeDiff, Nat.reduceMul]
  have hmax := maxLen_big
  refine run_loop [(0, false), (3, false)] (fun vs pos los => ∃ (U : Int) (f : Nat) (r : List UInt8), 0 ≤ U ∧ U < 18446744073709551616 ∧ 1 ≤ f ∧ f ≤ 10 ∧ U.toNat < 128 ^ f ∧ r ++ varF f U.toNat = varL n.toNat ∧ pos = [] ∧
    ((r = [] ∧ vs = [int .u64 U, .nils 1 (.v (.int .u8 0))] ∧ los = []) ∨ (vs = [int .u64 U, .own 2000000 0 0 r.length] ∧ los = [rowB r])))
    (fun vs _ _ => match vs with | .r (.v (.int _ j)) :: _ => j.toNat | _ => 0) rfl ?_ ?_
  · simp only [push_cast, ↓reduceIte, reduceCtorEq, Nat.reduceBEq, Nat.reduceEqDiff, Nat.reduceAdd, Nat.reduceSub, Nat.reduceLT, Nat.reduceLeDiff, Nat.reduceMul]
    exact ⟨n, 10, [], n0, hn, by decide, by decide, by omega, rfl, .inl ⟨rfl, rfl⟩⟩
  · rintro vs pos los ⟨U, f, r, U0, U1, f1, f10, Uf, hr, rfl, hc⟩
    have hrl : r.length ≤ 10 := by
      have h1 := congrArg List.length hr
      have h2 := varL_len n.toNat
      rw [List.length_append] at h1
      omega
    have hs : U.fdiv (2 ^ min (Int.toNat 7) IntKind.u64.bits) = U / 128 := shr_u U 7 (by decide)
    have hU : (U / 128).toNat = U.toNat / 128 := by omega
    rcases hc with ⟨rfl, rfl, rfl⟩ | ⟨rfl, rfl⟩
    · simp only [push_cast, ↓reduceIte, reduceCtorEq, Nat.reduceBEq, Nat.reduceEqDiff, Nat.reduceAdd, Nat.reduceSub, Nat.reduceLT, Nat.reduceLeDiff, Nat.reduceMul]
      refine cnd_mk (fun h => ?_) (fun h => ?_)
      · have h1 : 127 < U := by simpa using h
        obtain ⟨f', rfl, hf', hUf, hv⟩ := varF_big (f := f) (n := U.toNat) (by omega) Uf
        simp only [hs, push_cast, ↓reduceIte, reduceCtorEq, Nat.reduceBEq, Nat.reduceEqDiff, Nat.reduceAdd, Nat.reduceSub, Nat.reduceLT, Nat.reduceLeDiff, Nat.reduceMul]
        rw [more_byte2' U U0 U1]
        refine ⟨by simp, by omega, by omega, ⟨U / 128, f', [UInt8.ofNat (U.toNat % 128 + 128)], by omega, by omega, hf', by omega, by rw [hU]; exact hUf, ?_, .inr ⟨rfl, rfl⟩⟩, by omega⟩
        rw [← hr, hv, hU]; rfl
      · have h1 : U ≤ 127 := by have : ¬ (U > 127) := by simpa using h
                                omega
        have hv := varF_small (f := f) (n := U.toNat) (by omega) f1
        rw [hv] at hr
        simp only [push_cast, ↓reduceIte, reduceCtorEq, Nat.reduceBEq, Nat.reduceEqDiff, Nat.reduceAdd, Nat.reduceSub, Nat.reduceLT, Nat.reduceLeDiff, Nat.reduceMul]
        rw [last_byte U U0 h1, byteOf_by8, by8_isByte, ← hr]
        refine ⟨by simp, by omega, rfl, rfl⟩
    · simp only [push_cast, ↓reduceIte, reduceCtorEq, Nat.reduceBEq, Nat.reduceEqDiff, Nat.reduceAdd, Nat.reduceSub, Nat.reduceLT, Nat.reduceLeDiff, Nat.reduceMul]
      refine cnd_mk (fun h => ?_) (fun h => ?_)
      · have h1 : 127 < U := by simpa using h
        obtain ⟨f', rfl, hf', hUf, hv⟩ := varF_big (f := f) (n := U.toNat) (by omega) Uf
        simp only [hs, push_cast, ↓reduceIte, reduceCtorEq, Nat.reduceBEq, Nat.reduceEqDiff, Nat.reduceAdd, Nat.reduceSub, Nat.reduceLT, Nat.reduceLeDiff, Nat.reduceMul]
        rw [more_byte2' U U0 U1]
        refine ⟨by simp, by omega, by omega, ⟨U / 128, f', r ++ [UInt8.ofNat (U.toNat % 128 + 128)], by omega, by omega, hf', by omega, by rw [hU]; exact hUf, ?_, .inr ⟨by simp, by simp⟩⟩, by omega⟩
        rw [← hr, hv, hU, List.append_assoc]; rfl
      · have h1 : U ≤ 127 := by have : ¬ (U > 127) := by simpa using h
                                omega
        have hv := varF_small (f := f) (n := U.toNat) (by omega) f1
        rw [hv] at hr
        simp only [push_cast, ↓reduceIte, reduceCtorEq, Nat.reduceBEq, Nat.reduceEqDiff, Nat.reduceAdd, Nat.reduceSub, Nat.reduceLT, Nat.reduceLeDiff, Nat.reduceMul]
        rw [last_byte U U0 h1, take_snoc, bys_isByte, bstr_of_bys, ← hr]
        refine ⟨by simp, by omega, rfl, rfl⟩
theorem takeVr {U i C : Int} {m k b : Nat} (hU : U = m) (hi : i = k) (hC : C = b) (hk : k ≤ 9) (hm : m < 2 ^ (7 * k)) (hb : b < 256) (h9 : k = 9 → b ≤ 1) :
    IntKind.u64.wrap ((BitVec.ofInt IntKind.u64.bits U ||| BitVec.ofInt IntKind.u64.bits (IntKind.u64.wrap (IntKind.u64.wrap ((BitVec.ofInt IntKind.u64.bits C &&& BitVec.ofInt IntKind.u64.bits 127).toNat) * 2 ^ min (IntKind.i64.wrap (7 * i)).toNat IntKind.u64.bits))).toNat) = ((m + b % 128 * 2 ^ (7 * k) : Nat) : Int) := by
  have e1 : IntKind.i64.wrap (7 * i) = 7 * i := wrap_id (by omega)
  rw [e1, show (7 * i).toNat = 7 * k by omega, show min (7 * k) IntKind.u64.bits = 7 * k from Nat.min_eq_left (by simp [IntKind.bits]; omega), hU, hC]
  exact take_bits_r hk hm hb h9
theorem bstr_at (l : List UInt8) (i : Nat) (hi : i < l.length) : (bstr l).data.toList.getD i 0 = l[i] := by
  rw [bstr_data]; simp [List.getD, hi]
set_option maxRecDepth 100000 in
theorem runvar_t (l : List UInt8) (hl : l.length ≤ 140737488355328) : Triple Go.Proofs.Try.prog 28 [strv (bstr l)] [] (.tup [int .u64 (take l).1, int .i64 (take l).2]) [] := by
  refine apiaryref21_Unvar_triple rfl (by decide) ?_
  obtain ⟨N, hN, N0, N1⟩ : ∃ N : Int, N = l.length ∧ 0 ≤ N ∧ N ≤ 140737488355328 := ⟨_, rfl, by omega, by omega⟩
  simp only [apiaryref21_Unvar_pc, List.length_nil, bstr_size, ← hN, push_cast, ↓reduceIte, reduceCtorEq, Nat.reduceBEq, Nat.reduceEqDiff, Nat.reduceAdd, Nat.reduceSub, Nat.reduceLT, Nat.reduceLeDiff, Nat.reduceMul]
  refine run_loop [(0, false), (4, false), (5, false)] (fun vs pos los => ∃ (i U : Int) (k m : Nat), i = k ∧ U = m ∧ k ≤ l.length ∧ k ≤ 9 ∧ m < 2 ^ (7 * k) ∧ take l = takeF k m (l.drop k) ∧
    vs = [strv (bstr l), int .u64 U, int .i64 i] ∧ pos = [] ∧ los = [])
    (fun vs _ _ => match vs with | [_, _, .r (.v (.int _ j))] => (N - j).toNat | _ => 0) rfl ?_ ?_
  · simp only [push_cast, ↓reduceIte, reduceCtorEq, Nat.reduceBEq, Nat.reduceEqDiff, Nat.reduceAdd, Nat.reduceSub, Nat.reduceLT, Nat.reduceLeDiff, Nat.reduceMul]
    exact ⟨0, 0, 0, 0, rfl, rfl, by omega, by omega, by decide, rfl, rfl⟩
  · rintro vs pos los ⟨i, U, k, m, hik, hUm, hkl, hk9, hm, ht, rfl, rfl, rfl⟩
    have g10 : decide (i < 10) = true := by simp; omega
    simp only [bstr_size, ← hN, g10, push_cast, ↓reduceIte, reduceCtorEq, Nat.reduceBEq, Nat.reduceEqDiff, Nat.reduceAdd, Nat.reduceSub, Nat.reduceLT, Nat.reduceLeDiff, Nat.reduceMul]
    refine cnd_mk (fun h => ?_) (fun h => ?_)
    · have hi : i < N := by simpa using h
      have hin : k < l.length := by omega
      have hit : i.toNat = k := by omega
      obtain ⟨b, hb⟩ : ∃ b, l[k].toNat = b := ⟨_, rfl⟩
      have hb2 : b < 256 := by rw [← hb]; exact l[k].toNat_lt
      obtain ⟨C, hC⟩ : ∃ C : Int, C = b := ⟨_, rfl⟩
      have hg : (((bstr l).data.toList.getD i.toNat 0).toNat : Int) = C := by
        rw [hit, bstr_at l k hin, hC, hb]
      have w4 : IntKind.i64.wrap (i + 1) = i + 1 := wrap_id (by omega)
      have w8 : IntKind.u64.wrap C = C := by rw [IntKind.wrap_u64]; omega
      simp only [hg, w8, bstr_size, ← hN, push_cast, ↓reduceIte, reduceCtorEq, Nat.reduceBEq, Nat.reduceEqDiff, Nat.reduceAdd, Nat.reduceSub, Nat.reduceLT, Nat.reduceLeDiff, Nat.reduceMul]
      refine ⟨⟨by omega, by omega⟩, ?_⟩
      refine cnd_mk (fun h2 => ?_) (fun h2 => ?_)
      · have hc : (k = 9 ∧ 1 < b) ∨ (0 < k ∧ b = 0) := by
          by_cases c1 : i = 9 <;> by_cases c2 : C > 1 <;> simp [c1, c2] at h2 <;> omega
        simp only [push_cast, ↓reduceIte, reduceCtorEq, Nat.reduceBEq, Nat.reduceEqDiff, Nat.reduceAdd, Nat.reduceSub, Nat.reduceLT, Nat.reduceLeDiff, Nat.reduceMul]
        rw [ht, takeF_no hin hb hc]
        rfl
      · have hc9 : ¬ (k = 9 ∧ 1 < b) := by
          rintro ⟨h9, h1⟩
          simp [show i = 9 by omega, show C > 1 by omega] at h2
        have hv := takeVr hUm hik hC hk9 hm hb2 (fun h9 => by omega)
        have hml := take_less (b := b) hm
        have hw7 : 0 ≤ IntKind.i64.wrap (7 * i) := by rw [wrap_id (x := 7 * i) (by omega)]; omega
        generalize hm' : m + b % 128 * 2 ^ (7 * k) = m' at hv hml
        generalize hV : ((m' : Nat) : Int) = V at hv
        simp only [hv, push_cast, ↓reduceIte, reduceCtorEq, Nat.reduceBEq, Nat.reduceEqDiff, Nat.reduceAdd, Nat.reduceSub, Nat.reduceLT, Nat.reduceLeDiff, Nat.reduceMul]
        by_cases c1 : C < 128
        · have g1 : decide (C < 128) = true := by simp [c1]
          simp only [g1, w4, push_cast, ↓reduceIte, reduceCtorEq, Nat.reduceBEq, Nat.reduceEqDiff, Nat.reduceAdd, Nat.reduceSub, Nat.reduceLT, Nat.reduceLeDiff, Nat.reduceMul]
          refine ⟨hw7, ?_⟩
          refine cnd_mk (fun h3 => ?_) (fun h3 => ?_)
          · have hc : (k = 9 ∧ 1 < b) ∨ (0 < k ∧ b = 0) := by
              by_cases c3 : i > 0 <;> by_cases c4 : C = 0 <;> simp [c3, c4] at h3 <;> omega
            simp only [push_cast, ↓reduceIte, reduceCtorEq, Nat.reduceBEq, Nat.reduceEqDiff, Nat.reduceAdd, Nat.reduceSub, Nat.reduceLT, Nat.reduceLeDiff, Nat.reduceMul]
            rw [ht, takeF_no hin hb hc]
            rfl
          · have hc : ¬ ((k = 9 ∧ 1 < b) ∨ (0 < k ∧ b = 0)) := by
              rintro (hc | hc)
              · exact hc9 hc
              · simp [show i > 0 by omega, show C = 0 by omega] at h3
            simp only [w4, push_cast, ↓reduceIte, reduceCtorEq, Nat.reduceBEq, Nat.reduceEqDiff, Nat.reduceAdd, Nat.reduceSub, Nat.reduceLT, Nat.reduceLeDiff, Nat.reduceMul]
            rw [ht, takeF_end hin hb hc (by omega), hm']
            refine congrArg AV.tup ?_
            rw [← hV, show i + 1 = ((k + 1 : Nat) : Int) by omega]
        · have g1 : decide (C < 128) = false := by simp; omega
          simp only [g1, w4, push_cast, ↓reduceIte, reduceCtorEq, Nat.reduceBEq, Nat.reduceEqDiff, Nat.reduceAdd, Nat.reduceSub, Nat.reduceLT, Nat.reduceLeDiff, Nat.reduceMul]
          refine ⟨hw7, ⟨i + 1, V, k + 1, m', by omega, by omega, by omega, by omega, hml, ?_, rfl⟩, by omega⟩
          rw [ht, takeF_on hin hb (by omega) (by omega), hm']
    · have hi : ¬ i < N := by simpa using h
      simp only [push_cast, ↓reduceIte, reduceCtorEq, Nat.reduceBEq, Nat.reduceEqDiff, Nat.reduceAdd, Nat.reduceSub, Nat.reduceLT, Nat.reduceLeDiff, Nat.reduceMul]
      rw [ht, takeF_none k m l (by omega)]
      rfl
end Go.Ev
