import Derived.Test.YtjcpepjhjencaaaDoorNum5
import Derived.Test.YtjcpepjhjencaaaDoorShelf
namespace Go.Ev
open Go
set_option linter.unnecessarySimpa false
set_option linter.unusedSimpArgs false
set_option linter.unusedVariables false
noncomputable def apiaryref1_Floor_pc : PC :=
  (.seq (.reg [⟨(some 4), none, 0, .see (.mov (.c (.r (.v (.int .i64 0)))))⟩,
    ⟨(some 5), none, 0, .see (.mov (.c (.r (.v (.int .i64 0)))))⟩,
    ⟨(some 6), none, 0, .see (.mov (.c (.r (.v (.bool false)))))⟩])
  (.seq (.seq (.reg [⟨(some 9), none, 0, .see (.mov (.t 1))⟩,
    ⟨(some 10), none, 0, .see (.bin .leq (.t 9) (.c (.r (.v (.int .i64 0)))))⟩])
  (.cond (.t 10)
    (.seq (.reg [⟨(some 4), none, 0, .see (.mov (.c (.r (.v (.int .i64 0)))))⟩,
    ⟨(some 5), none, 0, .see (.mov (.c (.r (.v (.int .i64 0)))))⟩,
    ⟨(some 6), none, 0, .see (.mov (.c (.r (.v (.bool false)))))⟩])
    .ret)
    .skip))
  (.seq (.drw [⟨(some 11), none, 0, .see (.mov (.t 0))⟩,
    ⟨(some 12), none, 0, .see (.mov (.t 1))⟩,
    ⟨(some 13), none, 0, .see (.bin .quo (.t 11) (.t 12))⟩,
    ⟨(some 14), none, 0, .see (.mov (.t 0))⟩,
    ⟨(some 15), none, 0, .see (.mov (.t 1))⟩,
    ⟨(some 16), none, 0, .see (.bin .rem (.t 14) (.t 15))⟩,
    ⟨(some 7), none, 0, .see (.mov (.t 13))⟩,
    ⟨(some 8), none, 0, .see (.mov (.t 16))⟩]
    [[], [], [0, 1], [], [], [3, 4], [0, 1, 2], [0, 1, 2, 3, 4, 5, 6]])
  (.seq (.seq (.reg [⟨(some 17), none, 0, .see (.mov (.t 8))⟩,
    ⟨(some 18), none, 0, .see (.bin .lss (.t 17) (.c (.r (.v (.int .i64 0)))))⟩])
  (.cond (.t 18)
    (.reg [⟨(some 19), none, 0, .see (.mov (.t 7))⟩,
    ⟨(some 20), none, 0, .see (.bin .sub (.t 19) (.c (.r (.v (.int .i64 1)))))⟩,
    ⟨(some 21), none, 0, .see (.mov (.t 8))⟩,
    ⟨(some 22), none, 0, .see (.mov (.t 1))⟩,
    ⟨(some 23), none, 0, .see (.bin .add (.t 21) (.t 22))⟩,
    ⟨(some 7), none, 0, .see (.mov (.t 20))⟩,
    ⟨(some 8), none, 0, .see (.mov (.t 23))⟩])
    .skip))
  (.seq (.reg [⟨(some 24), none, 0, .see (.mov (.t 7))⟩,
    ⟨(some 25), none, 0, .see (.mov (.t 8))⟩,
    ⟨(some 4), none, 0, .see (.mov (.t 24))⟩,
    ⟨(some 5), none, 0, .see (.mov (.t 25))⟩,
    ⟨(some 6), none, 0, .see (.mov (.c (.r (.v (.bool true)))))⟩])
  .ret)))))
noncomputable abbrev apiaryref1_Floor_code : Code := (Go.Proofs.Tryd.f23.body).getD .skip
theorem apiaryref1_Floor_chk : chkC Go.Proofs.Tryd.prog 26 apiaryref1_Floor_code apiaryref1_Floor_pc = true := by kernel_rfl
theorem apiaryref1_Floor_triple {args : List AV} {po ro : List Ob} {res : AV} (hal : args.length = 2) (hpo : po.length ≤ 1000)
    (h : run Go.Proofs.Tryd.prog po.length (RetP po.length [(4, false, none), (5, false, none), (6, false, none)] fun v os => v = res ∧ os = ro) [.c apiaryref1_Floor_pc] ⟨argE 0 args, ob0 po⟩) : Triple Go.Proofs.Tryd.prog 23 args po res ro :=
  triple_of_W (fn := Go.Proofs.Tryd.f23) (c := apiaryref1_Floor_code) (pc := apiaryref1_Floor_pc) (rs := [(4, false, none), (5, false, none), (6, false, none)]) Go.Proofs.Tryd.func23 rfl (by decide) (by have := apiaryref1_Floor_chk; exact this) (by rw [hal]; decide) rfl (by kernel_rfl) (by kernel_rfl) (by decide) hpo (W_of_run h)

noncomputable def num_Shl_pc : PC :=
  (.seq (.reg [⟨(some 4), none, 0, .see (.mov (.c (.r (.v (.int .i64 0)))))⟩,
    ⟨(some 5), none, 0, .see (.mov (.c (.r (.v (.bool false)))))⟩])
  (.seq (.block 0 (.seq (.reg [⟨(some 8), none, 0, .see (.mov (.t 1))⟩,
    ⟨(some 9), none, 0, .see (.bin .lss (.t 8) (.c (.r (.v (.int .i64 0)))))⟩,
    ⟨(some 7), none, 0, .see (.mov (.t 9))⟩])
  (.cond (.t 7)
    (.seq (.reg [⟨(some 4), none, 0, .see (.mov (.c (.r (.v (.int .i64 0)))))⟩,
    ⟨(some 5), none, 0, .see (.mov (.c (.r (.v (.bool false)))))⟩])
    .ret)
    (.seq (.reg [⟨(some 11), none, 0, .see (.mov (.t 0))⟩,
    ⟨(some 12), none, 0, .see (.bin .eql (.t 11) (.c (.r (.v (.int .i64 0)))))⟩,
    ⟨(some 10), none, 0, .see (.mov (.t 12))⟩])
    (.cond (.t 10)
      (.seq (.reg [⟨(some 4), none, 0, .see (.mov (.c (.r (.v (.int .i64 0)))))⟩,
    ⟨(some 5), none, 0, .see (.mov (.c (.r (.v (.bool true)))))⟩])
      .ret)
      (.seq (.reg [⟨(some 14), none, 0, .see (.mov (.t 1))⟩,
    ⟨(some 15), none, 0, .see (.bin .geq (.t 14) (.c (.r (.v (.int .i64 64)))))⟩,
    ⟨(some 13), none, 0, .see (.mov (.t 15))⟩])
      (.cond (.t 13)
        (.seq (.reg [⟨(some 4), none, 0, .see (.mov (.c (.r (.v (.int .i64 0)))))⟩,
    ⟨(some 5), none, 0, .see (.mov (.c (.r (.v (.bool false)))))⟩])
        .ret)
        .skip)))))))
  (.seq (.seq (.reg [⟨(some 16), none, 0, .see (.mov (.t 0))⟩,
    ⟨(some 17), none, 0, .see (.mov (.t 1))⟩,
    ⟨(some 18), none, 0, .see (.conv .u64 (.t 17))⟩,
    ⟨(some 19), none, 0, .see (.bin .shl (.t 16) (.t 18))⟩,
    ⟨(some 6), none, 0, .see (.mov (.t 19))⟩])
  (.seq (.reg [⟨(some 20), none, 0, .see (.mov (.t 6))⟩,
    ⟨(some 21), none, 0, .see (.mov (.t 1))⟩,
    ⟨(some 22), none, 0, .see (.conv .u64 (.t 21))⟩,
    ⟨(some 23), none, 0, .see (.bin .shr (.t 20) (.t 22))⟩,
    ⟨(some 24), none, 0, .see (.mov (.t 0))⟩,
    ⟨(some 25), none, 0, .see (.bin .eql (.t 23) (.t 24))⟩])
  (.cond (.t 25)
    (.seq (.reg [⟨(some 26), none, 0, .see (.mov (.t 6))⟩,
    ⟨(some 4), none, 0, .see (.mov (.t 26))⟩,
    ⟨(some 5), none, 0, .see (.mov (.c (.r (.v (.bool true)))))⟩])
    .ret)
    .skip)))
  (.seq (.reg [⟨(some 4), none, 0, .see (.mov (.c (.r (.v (.int .i64 0)))))⟩,
    ⟨(some 5), none, 0, .see (.mov (.c (.r (.v (.bool false)))))⟩])
  .ret))))
noncomputable abbrev num_Shl_code : Code := (Go.Proofs.Tryd.f21.body).getD .skip
theorem num_Shl_chk : chkC Go.Proofs.Tryd.prog 27 num_Shl_code num_Shl_pc = true := by kernel_rfl
theorem num_Shl_triple {args : List AV} {po ro : List Ob} {res : AV} (hal : args.length = 2) (hpo : po.length ≤ 1000)
    (h : run Go.Proofs.Tryd.prog po.length (RetP po.length [(4, false, none), (5, false, none)] fun v os => v = res ∧ os = ro) [.c num_Shl_pc] ⟨argE 0 args, ob0 po⟩) : Triple Go.Proofs.Tryd.prog 21 args po res ro :=
  triple_of_W (fn := Go.Proofs.Tryd.f21) (c := num_Shl_code) (pc := num_Shl_pc) (rs := [(4, false, none), (5, false, none)]) Go.Proofs.Tryd.func21 rfl (by decide) (by have := num_Shl_chk; exact this) (by rw [hal]; decide) rfl (by kernel_rfl) (by kernel_rfl) (by decide) hpo (W_of_run h)

noncomputable def apiaryref1_Shl_pc : PC :=
  (.seq (.reg [⟨(some 4), none, 0, .see (.mov (.c (.r (.v (.int .i64 0)))))⟩,
    ⟨(some 5), none, 0, .see (.mov (.c (.r (.v (.bool false)))))⟩])
  (.seq (.seq (.reg [⟨(some 9), none, 0, .see (.mov (.t 1))⟩,
    ⟨(some 10), none, 0, .see (.bin .lss (.t 9) (.c (.r (.v (.int .i64 0)))))⟩])
  (.cond (.t 10)
    (.seq (.reg [⟨(some 4), none, 0, .see (.mov (.c (.r (.v (.int .i64 0)))))⟩,
    ⟨(some 5), none, 0, .see (.mov (.c (.r (.v (.bool false)))))⟩])
    .ret)
    .skip))
  (.seq (.seq (.reg [⟨(some 6), none, 0, .see (.mov (.c (.r (.v (.int .i64 0)))))⟩])
  (.block 0 (.loop (.seq (.seq (.reg [⟨(some 11), none, 0, .see (.mov (.t 6))⟩,
    ⟨(some 12), none, 0, .see (.mov (.t 1))⟩,
    ⟨(some 13), none, 0, .see (.bin .lss (.t 11) (.t 12))⟩,
    ⟨(some 14), none, 0, .see (.mov (.t 13))⟩,
    ⟨(some 15), (some (14, true)), 0, .see (.mov (.t 0))⟩,
    ⟨(some 16), (some (14, true)), 0, .see (.bin .neq (.t 15) (.c (.r (.v (.int .i64 0)))))⟩,
    ⟨(some 17), none, 0, .see (.pick (.t 14) (.t 16) (.c (.r (.v (.bool false)))))⟩])
  (.cond (.t 17)
    .skip
    (.exit 0)))
  (.seq (.block 1 (.seq (.reg [⟨(some 21), none, 0, .see (.mov (.t 0))⟩,
    ⟨(some 22), none, 1, .call 16 [(.t 21)]⟩,
    ⟨(some 23), none, 0, .see (.mov (.t 0))⟩,
    ⟨(some 24), none, 2, .call 16 [(.t 23)]⟩,
    ⟨(some 25), none, 3, .call 17 [(.t 22), (.t 24)]⟩,
    ⟨(some 26), none, 4, .call 18 [(.t 25)]⟩,
    ⟨(some 20), none, 0, .see (.mov (.t 26))⟩,
    ⟨(some 27), none, 0, .see (.ext (.t 20) 0)⟩,
    ⟨(some 28), none, 0, .see (.ext (.t 20) 1)⟩,
    ⟨(some 7), none, 0, .see (.mov (.t 27))⟩,
    ⟨(some 8), none, 0, .see (.mov (.t 28))⟩])
  (.seq (.seq (.reg [⟨(some 29), none, 0, .see (.mov (.t 8))⟩,
    ⟨(some 30), none, 0, .see (.un .not (.t 29))⟩])
  (.cond (.t 30)
    (.seq (.reg [⟨(some 4), none, 0, .see (.mov (.c (.r (.v (.int .i64 0)))))⟩,
    ⟨(some 5), none, 0, .see (.mov (.c (.r (.v (.bool false)))))⟩])
    .ret)
    .skip))
  (.reg [⟨(some 31), none, 0, .see (.mov (.t 7))⟩,
    ⟨(some 0), none, 0, .see (.mov (.t 31))⟩]))))
  (.reg [⟨(some 18), none, 0, .see (.mov (.t 6))⟩,
    ⟨(some 19), none, 0, .see (.bin .add (.t 18) (.c (.r (.v (.int .i64 1)))))⟩,
    ⟨(some 6), none, 0, .see (.mov (.t 19))⟩]))))))
  (.seq (.reg [⟨(some 32), none, 0, .see (.mov (.t 0))⟩,
    ⟨(some 4), none, 0, .see (.mov (.t 32))⟩,
    ⟨(some 5), none, 0, .see (.mov (.c (.r (.v (.bool true)))))⟩])
  .ret))))
noncomputable abbrev apiaryref1_Shl_code : Code := (Go.Proofs.Tryd.f24.body).getD .skip
theorem apiaryref1_Shl_chk : chkC Go.Proofs.Tryd.prog 33 apiaryref1_Shl_code apiaryref1_Shl_pc = true := by kernel_rfl
theorem apiaryref1_Shl_triple {args : List AV} {po ro : List Ob} {res : AV} (hal : args.length = 2) (hpo : po.length ≤ 1000)
    (h : run Go.Proofs.Tryd.prog po.length (RetP po.length [(4, false, none), (5, false, none)] fun v os => v = res ∧ os = ro) [.c apiaryref1_Shl_pc] ⟨argE 0 args, ob0 po⟩) : Triple Go.Proofs.Tryd.prog 24 args po res ro :=
  triple_of_W (fn := Go.Proofs.Tryd.f24) (c := apiaryref1_Shl_code) (pc := apiaryref1_Shl_pc) (rs := [(4, false, none), (5, false, none)]) Go.Proofs.Tryd.func24 rfl (by decide) (by have := apiaryref1_Shl_chk; exact this) (by rw [hal]; decide) rfl (by kernel_rfl) (by kernel_rfl) (by decide) hpo (W_of_run h)

noncomputable def num_Text_pc : PC :=
  (.seq (.reg [⟨(some 2), none, 0, .see (.mov (.c (.r (.v (.string ⟨#[]⟩)))))⟩])
  (.seq (.reg [⟨(some 3), none, 0, .see (.mov (.t 0))⟩,
    ⟨(some 4), none, 1, .call 35 [(.t 3), (.c (.r (.v (.int .i64 10))))]⟩,
    ⟨(some 2), none, 0, .see (.mov (.t 4))⟩])
  .ret))
noncomputable abbrev num_Text_code : Code := (Go.Proofs.Tryd.f28.body).getD .skip
theorem num_Text_chk : chkC Go.Proofs.Tryd.prog 5 num_Text_code num_Text_pc = true := by kernel_rfl
theorem num_Text_triple {args : List AV} {po ro : List Ob} {res : AV} (hal : args.length = 1) (hpo : po.length ≤ 1000)
    (h : run Go.Proofs.Tryd.prog po.length (RetP po.length [(2, false, none)] fun v os => v = res ∧ os = ro) [.c num_Text_pc] ⟨argE 0 args, ob0 po⟩) : Triple Go.Proofs.Tryd.prog 28 args po res ro :=
  triple_of_W (fn := Go.Proofs.Tryd.f28) (c := num_Text_code) (pc := num_Text_pc) (rs := [(2, false, none)]) Go.Proofs.Tryd.func28 rfl (by decide) (by have := num_Text_chk; exact this) (by rw [hal]; decide) rfl (by kernel_rfl) (by kernel_rfl) (by decide) hpo (W_of_run h)

noncomputable def num_Parse_pc : PC :=
  (.seq (.reg [⟨(some 2), none, 0, .see (.mov (.c (.r (.v (.int .i64 0)))))⟩,
    ⟨(some 3), none, 0, .see (.mov (.c (.r (.v (.bool false)))))⟩])
  (.seq (.reg [⟨(some 7), none, 0, .see (.mov (.t 0))⟩,
    ⟨(some 8), none, 1, .call 34 [(.t 7), (.c (.r (.v (.int .i64 10)))), (.c (.r (.v (.int .i64 64))))]⟩,
    ⟨(some 6), none, 0, .see (.mov (.t 8))⟩,
    ⟨(some 9), none, 0, .see (.ext (.t 6) 0)⟩,
    ⟨(some 10), none, 0, .see (.ext (.t 6) 1)⟩,
    ⟨(some 4), none, 0, .see (.mov (.t 9))⟩,
    ⟨(some 5), none, 0, .see (.mov (.t 10))⟩])
  (.seq (.seq (.reg [⟨(some 11), none, 0, .see (.mov (.t 5))⟩,
    ⟨(some 12), none, 0, .see (.bin .neq (.t 11) (.c (.r (.v .nilIface))))⟩,
    ⟨(some 13), none, 0, .see (.mov (.t 12))⟩,
    ⟨(some 14), (some (13, false)), 0, .see (.mov (.t 4))⟩,
    ⟨(some 15), (some (13, false)), 2, .call 28 [(.t 14)]⟩,
    ⟨(some 16), (some (13, false)), 0, .see (.mov (.t 0))⟩,
    ⟨(some 17), (some (13, false)), 0, .see (.bin .neq (.t 15) (.t 16))⟩,
    ⟨(some 18), none, 0, .see (.pick (.t 13) (.c (.r (.v (.bool true)))) (.t 17))⟩])
  (.cond (.t 18)
    (.seq (.reg [⟨(some 2), none, 0, .see (.mov (.c (.r (.v (.int .i64 0)))))⟩,
    ⟨(some 3), none, 0, .see (.mov (.c (.r (.v (.bool false)))))⟩])
    .ret)
    .skip))
  (.seq (.reg [⟨(some 19), none, 0, .see (.mov (.t 4))⟩,
    ⟨(some 2), none, 0, .see (.mov (.t 19))⟩,
    ⟨(some 3), none, 0, .see (.mov (.c (.r (.v (.bool true)))))⟩])
  .ret))))
noncomputable abbrev num_Parse_code : Code := (Go.Proofs.Tryd.f26.body).getD .skip
theorem num_Parse_chk : chkC Go.Proofs.Tryd.prog 20 num_Parse_code num_Parse_pc = true := by kernel_rfl
theorem num_Parse_triple {args : List AV} {po ro : List Ob} {res : AV} (hal : args.length = 1) (hpo : po.length ≤ 1000)
    (h : run Go.Proofs.Tryd.prog po.length (RetP po.length [(2, false, none), (3, false, none)] fun v os => v = res ∧ os = ro) [.c num_Parse_pc] ⟨argE 0 args, ob0 po⟩) : Triple Go.Proofs.Tryd.prog 26 args po res ro :=
  triple_of_W (fn := Go.Proofs.Tryd.f26) (c := num_Parse_code) (pc := num_Parse_pc) (rs := [(2, false, none), (3, false, none)]) Go.Proofs.Tryd.func26 rfl (by decide) (by have := num_Parse_chk; exact this) (by rw [hal]; decide) rfl (by kernel_rfl) (by kernel_rfl) (by decide) hpo (W_of_run h)

noncomputable def apiarylaw1_awake_pc : PC :=
  (.seq (.reg [⟨(some 0), none, 0, .see (.mov (.c (.r (.v (.bool false)))))⟩])
  (.seq (.reg [⟨(some 7), none, 1, .call 22 [(.c (.r (.v (.int .i64 (-7))))), (.c (.r (.v (.int .i64 3))))]⟩,
    ⟨(some 6), none, 0, .see (.mov (.t 7))⟩,
    ⟨(some 8), none, 0, .see (.ext (.t 6) 0)⟩,
    ⟨(some 9), none, 0, .see (.ext (.t 6) 1)⟩,
    ⟨(some 10), none, 0, .see (.ext (.t 6) 2)⟩,
    ⟨(some 1), none, 0, .see (.mov (.t 8))⟩,
    ⟨(some 2), none, 0, .see (.mov (.t 9))⟩,
    ⟨(some 3), none, 0, .see (.mov (.t 10))⟩])
  (.seq (.reg [⟨(some 12), none, 2, .call 10 [(.c (.r (.v (.int .i64 9223372036854775807)))), (.c (.r (.v (.int .i64 1))))]⟩,
    ⟨(some 11), none, 0, .see (.mov (.t 12))⟩,
    ⟨(some 13), none, 0, .see (.ext (.t 11) 0)⟩,
    ⟨(some 14), none, 0, .see (.ext (.t 11) 1)⟩,
    ⟨(some 4), none, 0, .see (.mov (.t 13))⟩,
    ⟨(some 5), none, 0, .see (.mov (.t 14))⟩])
  (.seq (.reg [⟨(some 15), none, 0, .see (.mov (.t 1))⟩,
    ⟨(some 16), none, 0, .see (.bin .eql (.t 15) (.c (.r (.v (.int .i64 (-3))))))⟩,
    ⟨(some 17), none, 0, .see (.mov (.t 16))⟩,
    ⟨(some 18), (some (17, true)), 0, .see (.mov (.t 2))⟩,
    ⟨(some 19), (some (17, true)), 0, .see (.bin .eql (.t 18) (.c (.r (.v (.int .i64 2)))))⟩,
    ⟨(some 20), none, 0, .see (.pick (.t 17) (.t 19) (.c (.r (.v (.bool false)))))⟩,
    ⟨(some 21), none, 0, .see (.mov (.t 20))⟩,
    ⟨(some 22), (some (21, true)), 0, .see (.mov (.t 3))⟩,
    ⟨(some 23), none, 0, .see (.pick (.t 21) (.t 22) (.c (.r (.v (.bool false)))))⟩,
    ⟨(some 24), none, 0, .see (.mov (.t 23))⟩,
    ⟨(some 25), (some (24, true)), 0, .see (.mov (.t 5))⟩,
    ⟨(some 26), (some (24, true)), 0, .see (.un .not (.t 25))⟩,
    ⟨(some 27), none, 0, .see (.pick (.t 24) (.t 26) (.c (.r (.v (.bool false)))))⟩,
    ⟨(some 28), none, 0, .see (.mov (.t 27))⟩,
    ⟨(some 29), (some (28, true)), 3, .call 28 [(.c (.r (.v (.int .i64 (-5)))))]⟩,
    ⟨(some 30), (some (28, true)), 0, .see (.bin .eql (.t 29) (.c (.r (.v (.string ⟨#[45, 53]⟩)))))⟩,
    ⟨(some 31), none, 0, .see (.pick (.t 28) (.t 30) (.c (.r (.v (.bool false)))))⟩,
    ⟨(some 0), none, 0, .see (.mov (.t 31))⟩])
  .ret))))
noncomputable abbrev apiarylaw1_awake_code : Code := (Go.Proofs.Tryd.f14.body).getD .skip
theorem apiarylaw1_awake_chk : chkC Go.Proofs.Tryd.prog 32 apiarylaw1_awake_code apiarylaw1_awake_pc = true := by kernel_rfl
theorem apiarylaw1_awake_triple {args : List AV} {po ro : List Ob} {res : AV} (hal : args.length = 0) (hpo : po.length ≤ 1000)
    (h : run Go.Proofs.Tryd.prog po.length (RetP po.length [(0, false, none)] fun v os => v = res ∧ os = ro) [.c apiarylaw1_awake_pc] ⟨argE 0 args, ob0 po⟩) : Triple Go.Proofs.Tryd.prog 14 args po res ro :=
  triple_of_W (fn := Go.Proofs.Tryd.f14) (c := apiarylaw1_awake_code) (pc := apiarylaw1_awake_pc) (rs := [(0, false, none)]) Go.Proofs.Tryd.func14 rfl (by decide) (by have := apiarylaw1_awake_chk; exact this) (by rw [hal]; decide) rfl (by kernel_rfl) (by kernel_rfl) (by decide) hpo (W_of_run h)

set_option maxRecDepth 100000 in
theorem rfloor_t (a b : Int) (ha : in64 a) (hb : in64 b) : Triple Go.Proofs.Tryd.prog 23 [int .i64 a, int .i64 b] [] (.tup [int .i64 (if 0 < b then a / b else 0), int .i64 (if 0 < b then a % b else 0), bl (decide (0 < b))]) [] := by
  refine apiaryref1_Floor_triple rfl (by decide) ?_
  simp only [apiaryref1_Floor_pc, List.length_nil, push_cast, ↓reduceIte, reduceCtorEq, Nat.reduceBEq, Nat.reduceEqDiff, Nat.reduceAdd, Nat.reduceSub, Nat.reduceLT, Nat.reduceLeDiff, Nat.reduceMul]
  refine cnd_mk (fun h => ?_) (fun h => ?_)
  · simp only [push_cast, ↓reduceIte, reduceCtorEq, Nat.reduceBEq, Nat.reduceEqDiff, Nat.reduceAdd, Nat.reduceSub, Nat.reduceLT, Nat.reduceLeDiff, Nat.reduceMul]
    simp at h
    have : ¬ 0 < b := by omega
    simp [this]
  · simp only [push_cast, ↓reduceIte, reduceCtorEq, Nat.reduceBEq, Nat.reduceEqDiff, Nat.reduceAdd, Nat.reduceSub, Nat.reduceLT, Nat.reduceLeDiff, Nat.reduceMul]
    simp at h
    refine ⟨by omega, by omega, by kernel_rfl, ?_⟩
    obtain ⟨q1, q2, q3⟩ := floor_facts ha h
    have hw : IntKind.i64.wrap (a.tdiv b) = a.tdiv b := wrap_i64_tdiv a b ha.1 ha.2 (by omega)
    rw [hw]
    refine cnd_mk (fun h' => ?_) (fun h' => ?_)
    · simp only [push_cast, ↓reduceIte, reduceCtorEq, Nat.reduceBEq, Nat.reduceEqDiff, Nat.reduceAdd, Nat.reduceSub, Nat.reduceLT, Nat.reduceLeDiff, Nat.reduceMul]
      simp at h'
      obtain ⟨e1, e2⟩ := q2 h'
      refine tup3 (int_eq ?_) (int_eq ?_) (bl_eq ?_)
      · rw [if_pos h, ← e1, wrap_id]
        unfold in64 at ha; rw [e1]; omega
      · rw [if_pos h, ← e2, wrap_id]
        have h5 := Int.emod_lt_of_pos a h
        have h6 := Int.emod_nonneg a (show b ≠ 0 by omega)
        rw [e2]
        unfold in64 at hb; omega
      · simp [h]
    · simp only [push_cast, ↓reduceIte, reduceCtorEq, Nat.reduceBEq, Nat.reduceEqDiff, Nat.reduceAdd, Nat.reduceSub, Nat.reduceLT, Nat.reduceLeDiff, Nat.reduceMul]
      simp at h'
      obtain ⟨e1, e2⟩ := q3 h'
      refine tup3 (int_eq ?_) (int_eq ?_) (bl_eq ?_)
      · rw [if_pos h, e1]
      · rw [if_pos h, e2]
      · simp [h]

theorem p2pos (n : Nat) : 1 ≤ (2 : Int) ^ n := by
  have := Int.pow_pos (n := 2) (m := n) (by decide)
  omega
theorem big_shl {a : Int} (ha : a ≠ 0) {n : Nat} (hn : 64 ≤ n) : ¬ in64 (a * 2 ^ n) := by
  have h1 : 2 ^ 64 ≤ 2 ^ n := Nat.pow_le_pow_right (by decide) hn
  have h2 : 1 * 2 ^ 64 ≤ a.natAbs * 2 ^ n := Nat.mul_le_mul (by omega) h1
  have h3 : (a * 2 ^ n).natAbs = a.natAbs * 2 ^ n := by rw [Int.natAbs_mul, Int.natAbs_pow]; rfl
  unfold in64
  omega
theorem wrap_in (x : Int) : in64 (IntKind.i64.wrap x) := by rw [IntKind.wrap_i64]; unfold in64; omega
theorem shl_back {a : Int} {n : Nat} (hn : n < 64) : (IntKind.i64.wrap (a * 2 ^ n)).fdiv (2 ^ n) = a ↔ in64 (a * 2 ^ n) := by
  have hp := p2pos n
  have hw := IntKind.wrap_i64 (a * 2 ^ n)
  obtain ⟨m, hm⟩ : ∃ m : Int, IntKind.i64.wrap (a * 2 ^ n) = a * 2 ^ n - m * 18446744073709551616 := ⟨(a * 2 ^ n + 9223372036854775808) / 18446744073709551616, by rw [hw]; omega⟩
  have hd : (18446744073709551616 : Int) = 2 ^ (64 - n) * 2 ^ n := by rw [← Int.pow_add, show 64 - n + n = 64 by omega]; rfl
  have hf : (IntKind.i64.wrap (a * 2 ^ n)).fdiv (2 ^ n) = a - m * 2 ^ (64 - n) := by
    rw [hm, hd, ← Int.mul_assoc, ← Int.sub_mul, Int.mul_fdiv_cancel _ (by omega)]
  have hq := p2pos (64 - n)
  rw [hf]
  constructor
  · intro h
    have h0 : m * 2 ^ (64 - n) = 0 := by omega
    have h1 : m = 0 := by
      rcases Int.mul_eq_zero.1 h0 with h | h
      · exact h
      · omega
    rw [h1] at hm
    have := wrap_in (a * 2 ^ n)
    rw [hm] at this
    simpa using this
  · intro h
    have h1 : IntKind.i64.wrap (a * 2 ^ n) = a * 2 ^ n := wrap_id h
    have h0 : m = 0 := by omega
    rw [h0]; omega
set_option maxRecDepth 100000 in
theorem shl_t (a k : Int) (ha : in64 a) (hk : in64 k) : Triple Go.Proofs.Tryd.prog 21 [int .i64 a, int .i64 k] [] (if k < 0 then .tup [int .i64 0, bl false] else sm (a * 2 ^ k.toNat)) [] := by
  refine num_Shl_triple rfl (by decide) ?_
  simp only [num_Shl_pc, List.length_nil, push_cast, ↓reduceIte, reduceCtorEq, Nat.reduceBEq, Nat.reduceEqDiff, Nat.reduceAdd, Nat.reduceSub, Nat.reduceLT, Nat.reduceLeDiff, Nat.reduceMul]
  refine cnd_mk (fun h1 => ?_) (fun h1 => ?_)
  · simp only [decide_eq_true_eq] at h1
    simp only [if_pos h1, push_cast, ↓reduceIte, reduceCtorEq, Nat.reduceBEq, Nat.reduceEqDiff, Nat.reduceAdd, Nat.reduceSub, Nat.reduceLT, Nat.reduceLeDiff, Nat.reduceMul]
  · simp only [decide_eq_false_iff_not] at h1
    simp only [if_neg h1, push_cast, ↓reduceIte, reduceCtorEq, Nat.reduceBEq, Nat.reduceEqDiff, Nat.reduceAdd, Nat.reduceSub, Nat.reduceLT, Nat.reduceLeDiff, Nat.reduceMul]
    refine cnd_mk (fun h2 => ?_) (fun h2 => ?_)
    · simp only [push_cast, ↓reduceIte, reduceCtorEq, Nat.reduceBEq, Nat.reduceEqDiff, Nat.reduceAdd, Nat.reduceSub, Nat.reduceLT, Nat.reduceLeDiff, Nat.reduceMul]
      have h2 : a = 0 := by simpa using h2
      rw [h2]
      exact sm_yes (by simp) (by simp; decide)
    · simp only [push_cast, ↓reduceIte, reduceCtorEq, Nat.reduceBEq, Nat.reduceEqDiff, Nat.reduceAdd, Nat.reduceSub, Nat.reduceLT, Nat.reduceLeDiff, Nat.reduceMul]
      have h2 : ¬ a = 0 := by simpa using h2
      refine cnd_mk (fun h3 => ?_) (fun h3 => ?_)
      · simp only [push_cast, ↓reduceIte, reduceCtorEq, Nat.reduceBEq, Nat.reduceEqDiff, Nat.reduceAdd, Nat.reduceSub, Nat.reduceLT, Nat.reduceLeDiff, Nat.reduceMul]
        have h3 : 64 ≤ k := by simpa using h3
        exact sm_no (big_shl h2 (by omega))
      · have h3 : ¬ k ≥ 64 := by simpa using h3
        have e1 : IntKind.u64.wrap k = k := by rw [IntKind.wrap_u64]; omega
        have e2 : min k.toNat IntKind.i64.bits = k.toNat := Nat.min_eq_left (by simp [IntKind.bits]; omega)
        simp only [e1, e2, push_cast, ↓reduceIte, reduceCtorEq, Nat.reduceBEq, Nat.reduceEqDiff, Nat.reduceAdd, Nat.reduceSub, Nat.reduceLT, Nat.reduceLeDiff, Nat.reduceMul]
        refine ⟨by omega, by omega, ?_⟩
        refine cnd_mk (fun h4 => ?_) (fun h4 => ?_)
        · simp only [push_cast, ↓reduceIte, reduceCtorEq, Nat.reduceBEq, Nat.reduceEqDiff, Nat.reduceAdd, Nat.reduceSub, Nat.reduceLT, Nat.reduceLeDiff, Nat.reduceMul]
          have h4 : in64 (a * 2 ^ k.toNat) := (shl_back (by omega)).1 (by simpa using h4)
          exact sm_yes (wrap_id h4) h4
        · simp only [push_cast, ↓reduceIte, reduceCtorEq, Nat.reduceBEq, Nat.reduceEqDiff, Nat.reduceAdd, Nat.reduceSub, Nat.reduceLT, Nat.reduceLeDiff, Nat.reduceMul]
          have h4 : ¬ in64 (a * 2 ^ k.toNat) := fun h => (by simpa using h4 : ¬ _) ((shl_back (by omega)).2 h)
          exact sm_no h4
theorem twice_out {b T : Int} {n : Nat} (h : ¬ in64 (b + b)) (hT : (b + b) * 2 ^ n = T) : ¬ in64 T := by
  have hp := p2pos n
  have h1 : T.natAbs = (b + b).natAbs * 2 ^ n := by rw [← hT, Int.natAbs_mul, Int.natAbs_pow]; rfl
  have h2 : 1 ≤ 2 ^ n := Nat.one_le_two_pow
  cases n with
  | zero => simp at hT; rw [← hT]; exact h
  | succ n =>
    have h3 : 2 ≤ 2 ^ (n + 1) := Nat.le_self_pow (by omega) _
    have h4 : 9223372036854775808 * 2 ≤ (b + b).natAbs * 2 ^ (n + 1) := Nat.mul_le_mul (by unfold in64 at h; omega) h3
    unfold in64
    omega
set_option maxRecDepth 100000 in
theorem rshl_t (a k : Int) (ha : in64 a) (hk : in64 k) : Triple Go.Proofs.Tryd.prog 24 [int .i64 a, int .i64 k] [] (if k < 0 then .tup [int .i64 0, bl false] else sm (a * 2 ^ k.toNat)) [] := by
  refine apiaryref1_Shl_triple rfl (by decide) ?_
  simp only [apiaryref1_Shl_pc, List.length_nil, push_cast, ↓reduceIte, reduceCtorEq, Nat.reduceBEq, Nat.reduceEqDiff, Nat.reduceAdd, Nat.reduceSub, Nat.reduceLT, Nat.reduceLeDiff, Nat.reduceMul]
  refine cnd_mk (fun h1 => ?_) (fun h1 => ?_)
  · simp only [decide_eq_true_eq] at h1
    simp only [if_pos h1, push_cast, ↓reduceIte, reduceCtorEq, Nat.reduceBEq, Nat.reduceEqDiff, Nat.reduceAdd, Nat.reduceSub, Nat.reduceLT, Nat.reduceLeDiff, Nat.reduceMul]
  · simp only [decide_eq_false_iff_not] at h1
    simp only [if_neg h1, push_cast, ↓reduceIte, reduceCtorEq, Nat.reduceBEq, Nat.reduceEqDiff, Nat.reduceAdd, Nat.reduceSub, Nat.reduceLT, Nat.reduceLeDiff, Nat.reduceMul]
    generalize hT : a * 2 ^ k.toNat = T
    refine run_loop [(0, false), (1, false), (6, false)] (fun vs pos los => ∃ (b i : Int), 0 ≤ i ∧ i ≤ k ∧ in64 b ∧ b * 2 ^ (k - i).toNat = T ∧ vs = [int .i64 b, int .i64 k, int .i64 i] ∧ pos = [] ∧ los = [])
      (fun vs _ _ => match vs with | [_, _, .r (.v (.int _ j))] => (k - j).toNat | _ => 0) rfl ?_ ?_
    · simp only [push_cast, ↓reduceIte, reduceCtorEq, Nat.reduceBEq, Nat.reduceEqDiff, Nat.reduceAdd, Nat.reduceSub, Nat.reduceLT, Nat.reduceLeDiff, Nat.reduceMul]
      exact ⟨a, 0, by omega, by omega, ha, by simpa using hT, rfl⟩
    · rintro vs pos los ⟨b, i, i0, ik, hb, hbT, rfl, rfl, rfl⟩
      simp only [push_cast, ↓reduceIte, reduceCtorEq, Nat.reduceBEq, Nat.reduceEqDiff, Nat.reduceAdd, Nat.reduceSub, Nat.reduceLT, Nat.reduceLeDiff, Nat.reduceMul]
      unfold in64 at hk
      repeat refine And.intro (by simp +contextual) ?_
      refine cnd_mk (fun h => ?_) (fun h => ?_)
      · have h2 : i < k ∧ b ≠ 0 := by
          by_cases p : i < k <;> by_cases q : b = 0 <;> simp [p, q] at h ⊢
        simp only [push_cast, ↓reduceIte, reduceCtorEq, Nat.reduceBEq, Nat.reduceEqDiff, Nat.reduceAdd, Nat.reduceSub, Nat.reduceLT, Nat.reduceLeDiff, Nat.reduceMul]
        refine call_mk (w_t b hb) rfl trivial ?_
        simp only [wide, push_cast, ↓reduceIte, reduceCtorEq, Nat.reduceBEq, Nat.reduceEqDiff, Nat.reduceAdd, Nat.reduceSub, Nat.reduceLT, Nat.reduceLeDiff, Nat.reduceMul]
        refine call_mk (w_t b hb) rfl trivial ?_
        simp only [wide, push_cast, ↓reduceIte, reduceCtorEq, Nat.reduceBEq, Nat.reduceEqDiff, Nat.reduceAdd, Nat.reduceSub, Nat.reduceLT, Nat.reduceLeDiff, Nat.reduceMul]
        refine call_as (as' := [wide b, wide b]) rfl ?_
        refine call_mk (plus_t b b) rfl trivial ?_
        simp only [wide, push_cast, ↓reduceIte, reduceCtorEq, Nat.reduceBEq, Nat.reduceEqDiff, Nat.reduceAdd, Nat.reduceSub, Nat.reduceLT, Nat.reduceLeDiff, Nat.reduceMul]
        unfold in64 at hb
        refine call_as (as' := [wide (b + b)]) rfl ?_
        refine call_mk (small_t (b + b) (by omega)) rfl trivial ?_
        simp only [sm, push_cast, ↓reduceIte, reduceCtorEq, Nat.reduceBEq, Nat.reduceEqDiff, Nat.reduceAdd, Nat.reduceSub, Nat.reduceLT, Nat.reduceLeDiff, Nat.reduceMul]
        have hT2 : (b + b) * 2 ^ (k - i - 1).toNat = T := by
          rw [← hbT, show (k - i).toNat = (k - i - 1).toNat + 1 by omega, Int.pow_succ, ← Int.two_mul, Int.mul_comm 2 b, Int.mul_assoc, Int.mul_comm 2]
        refine cnd_mk (fun h6 => ?_) (fun h6 => ?_)
        · simp only [push_cast, ↓reduceIte, reduceCtorEq, Nat.reduceBEq, Nat.reduceEqDiff, Nat.reduceAdd, Nat.reduceSub, Nat.reduceLT, Nat.reduceLeDiff, Nat.reduceMul]
          have h6 : ¬ in64 (b + b) := by simpa using h6
          exact sm_no (twice_out h6 hT2)
        · simp only [push_cast, ↓reduceIte, reduceCtorEq, Nat.reduceBEq, Nat.reduceEqDiff, Nat.reduceAdd, Nat.reduceSub, Nat.reduceLT, Nat.reduceLeDiff, Nat.reduceMul]
          have h6 : in64 (b + b) := by simpa using h6
          rw [if_pos h6, show IntKind.i64.wrap (i + 1) = i + 1 from wrap_id (by omega)]
          refine ⟨⟨b + b, i + 1, by omega, by omega, h6, ?_, rfl⟩, by omega⟩
          rw [show (k - (i + 1)).toNat = (k - i - 1).toNat by omega, hT2]
      · simp only [push_cast, ↓reduceIte, reduceCtorEq, Nat.reduceBEq, Nat.reduceEqDiff, Nat.reduceAdd, Nat.reduceSub, Nat.reduceLT, Nat.reduceLeDiff, Nat.reduceMul]
        have h2 : i = k ∨ b = 0 := by
          by_cases p : i < k <;> by_cases q : b = 0 <;> simp [p, q] at h ⊢
          omega
        rcases h2 with h2 | h2
        · subst h2
          rw [Int.sub_self] at hbT
          exact sm_yes (by simpa using hbT) (by rw [← hbT]; simpa using hb)
        · subst h2
          rw [Int.zero_mul] at hbT
          exact sm_yes hbT (by rw [← hbT]; decide)
end Go.Ev
