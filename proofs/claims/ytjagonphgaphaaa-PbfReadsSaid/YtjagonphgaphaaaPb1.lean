import Derived.Test.YtjagonphgaphaaaP2
import Derived.Test.YtjagonphgaphaaaEvLaw
import Derived.Test.YtjagonphgaphaaaBase
import Derived.Test.YtjagonphgaphaaaChecked
import Derived.KernelRfl
namespace Go.Ev
open Go
set_option linter.unnecessarySimpa false
set_option linter.unusedSimpArgs false
set_option linter.unusedVariables false
noncomputable def pbf_ok_pc : PC :=
  (.seq (.reg [⟨(some 2), none, 0, .see (.mov (.c (.r (.v (.bool false)))))⟩])
  (.seq (.reg [⟨(some 3), none, 0, .see (.mov (.t 0))⟩,
    ⟨(some 4), none, 0, .see (.bin .geq (.t 3) (.c (.r (.v (.int .i64 1)))))⟩,
    ⟨(some 5), none, 0, .see (.mov (.t 4))⟩,
    ⟨(some 6), (some (5, true)), 0, .see (.mov (.t 0))⟩,
    ⟨(some 7), (some (5, true)), 0, .see (.bin .leq (.t 6) (.c (.r (.v (.int .i64 1000)))))⟩,
    ⟨(some 8), none, 0, .see (.pick (.t 5) (.t 7) (.c (.r (.v (.bool false)))))⟩,
    ⟨(some 2), none, 0, .see (.mov (.t 8))⟩])
  .ret))
noncomputable abbrev pbf_ok_code : Code := (Go.Proofs.Try.f32.body).getD .skip
theorem pbf_ok_chk : chkC Go.Proofs.Try.prog 9 pbf_ok_code pbf_ok_pc = true := by kernel_rfl
theorem pbf_ok_triple {args : List AV} {po ro : List Ob} {res : AV} (hal : args.length = 1) (hpo : po.length ≤ 1000)
    (h : run Go.Proofs.Try.prog po.length (RetP po.length [(2, false, none)] fun v os => v = res ∧ os = ro) [.c pbf_ok_pc] ⟨argE 0 args, ob0 po⟩) : Triple Go.Proofs.Try.prog 32 args po res ro :=
  triple_of_W (fn := Go.Proofs.Try.f32) (c := pbf_ok_code) (pc := pbf_ok_pc) (rs := [(2, false, none)]) Go.Proofs.Try.func32 rfl (by decide) (by have := pbf_ok_chk; exact this) (by rw [hal]; decide) rfl (by kernel_rfl) (by kernel_rfl) (by decide) hpo (W_of_run h)

noncomputable def pbf_own_pc : PC :=
  (.seq (.reg [⟨(some 2), none, 0, .see (.mov (.c (.r (.v (.pointer none)))))⟩])
  (.seq (.reg [⟨(some 3), none, 0, .act (.bsl 1 (.v (.int .u8 0)) [])⟩,
    ⟨(some 4), none, 0, .see (.mov (.t 0))⟩,
    ⟨(some 5), none, 0, .act (.app 1 (.v (.int .u8 0)) 1 (.t 3) (.t 4))⟩,
    ⟨(some 6), none, 0, .see (.build [(.nils 1 (.v (.int .u8 0)))] [(0, 1, (.t 5))])⟩,
    ⟨(some 7), none, 0, .act (.box (.t 6))⟩,
    ⟨(some 2), none, 0, .see (.mov (.t 7))⟩])
  .ret))
noncomputable abbrev pbf_own_code : Code := (Go.Proofs.Try.f30.body).getD .skip
theorem pbf_own_chk : chkC Go.Proofs.Try.prog 8 pbf_own_code pbf_own_pc = true := by kernel_rfl
theorem pbf_own_triple {args : List AV} {po ro : List Ob} {res : AV} (hal : args.length = 1) (hpo : po.length ≤ 1000)
    (h : run Go.Proofs.Try.prog po.length (RetP po.length [(2, false, none)] fun v os => v = res ∧ os = ro) [.c pbf_own_pc] ⟨argE 0 args, ob0 po⟩) : Triple Go.Proofs.Try.prog 30 args po res ro :=
  triple_of_W (fn := Go.Proofs.Try.f30) (c := pbf_own_code) (pc := pbf_own_pc) (rs := [(2, false, none)]) Go.Proofs.Try.func30 rfl (by decide) (by have := pbf_own_chk; exact this) (by rw [hal]; decide) rfl (by kernel_rfl) (by kernel_rfl) (by decide) hpo (W_of_run h)

noncomputable def pbf_Writer_Var_pc : PC :=
  (.seq (.block 0 (.loop (.seq (.seq (.reg [⟨(some 4), none, 0, .see (.mov (.t 1))⟩,
    ⟨(some 5), none, 0, .see (.bin .gtr (.t 4) (.c (.r (.v (.int .u64 127)))))⟩])
  (.cond (.t 5)
    .skip
    (.exit 0)))
  (.block 1 (.seq (.reg [⟨(some 6), none, 0, .see (.mov (.t 0))⟩,
    ⟨(some 7), none, 0, .see (.mov (.t 0))⟩,
    ⟨(some 8), none, 0, .see (.nck (.t 7))⟩,
    ⟨(some 9), none, 0, .see (.fa 0 (.t 8))⟩,
    ⟨(some 10), none, 0, .see (.ld none (.t 9))⟩,
    ⟨(some 11), none, 0, .see (.mov (.t 1))⟩,
    ⟨(some 12), none, 0, .see (.bin .and (.t 11) (.c (.r (.v (.int .u64 127)))))⟩,
    ⟨(some 13), none, 0, .see (.conv .u8 (.t 12))⟩,
    ⟨(some 14), none, 0, .see (.bin .or (.t 13) (.c (.r (.v (.int .u8 128)))))⟩,
    ⟨(some 15), none, 0, .act (.bsl 1 (.v (.int .u8 0)) [(.t 14)])⟩,
    ⟨(some 16), none, 0, .act (.app 1 (.v (.int .u8 0)) 1 (.t 10) (.t 15))⟩,
    ⟨(some 17), none, 0, .see (.nck (.t 6))⟩,
    ⟨(some 18), none, 0, .see (.fa 0 (.t 17))⟩,
    ⟨none, none, 0, .act (.st 1 (.t 18) (.t 16))⟩])
  (.reg [⟨(some 19), none, 0, .see (.mov (.t 1))⟩,
    ⟨(some 20), none, 0, .see (.bin .shr (.t 19) (.c (.r (.v (.int .u64 7)))))⟩,
    ⟨(some 1), none, 0, .see (.mov (.t 20))⟩]))))))
  (.reg [⟨(some 21), none, 0, .see (.mov (.t 0))⟩,
    ⟨(some 22), none, 0, .see (.mov (.t 0))⟩,
    ⟨(some 23), none, 0, .see (.nck (.t 22))⟩,
    ⟨(some 24), none, 0, .see (.fa 0 (.t 23))⟩,
    ⟨(some 25), none, 0, .see (.ld none (.t 24))⟩,
    ⟨(some 26), none, 0, .see (.mov (.t 1))⟩,
    ⟨(some 27), none, 0, .see (.conv .u8 (.t 26))⟩,
    ⟨(some 28), none, 0, .act (.bsl 1 (.v (.int .u8 0)) [(.t 27)])⟩,
    ⟨(some 29), none, 0, .act (.app 1 (.v (.int .u8 0)) 1 (.t 25) (.t 28))⟩,
    ⟨(some 30), none, 0, .see (.nck (.t 21))⟩,
    ⟨(some 31), none, 0, .see (.fa 0 (.t 30))⟩,
    ⟨none, none, 0, .act (.st 1 (.t 31) (.t 29))⟩]))
noncomputable abbrev pbf_Writer_Var_code : Code := (Go.Proofs.Try.f31.body).getD .skip
theorem pbf_Writer_Var_chk : chkC Go.Proofs.Try.prog 32 pbf_Writer_Var_code pbf_Writer_Var_pc = true := by kernel_rfl
theorem pbf_Writer_Var_triple {args : List AV} {po ro : List Ob} {res : AV} (hal : args.length = 2) (hpo : po.length ≤ 1000)
    (h : run Go.Proofs.Try.prog po.length (RetP po.length [] fun v os => v = res ∧ os = ro) [.c pbf_Writer_Var_pc] ⟨argE 0 args, ob0 po⟩) : Triple Go.Proofs.Try.prog 31 args po res ro :=
  triple_of_W (fn := Go.Proofs.Try.f31) (c := pbf_Writer_Var_code) (pc := pbf_Writer_Var_pc) (rs := []) Go.Proofs.Try.func31 rfl (by decide) (by have := pbf_Writer_Var_chk; exact this) (by rw [hal]; decide) rfl (by kernel_rfl) (by kernel_rfl) (by decide) hpo (W_of_run h)

noncomputable def pbf_Var_pc : PC :=
  (.seq (.reg [⟨(some 4), none, 0, .see (.mov (.c (.nils 1 (.v (.int .u8 0)))))⟩])
  (.seq (.reg [⟨(some 6), none, 0, .see (.mov (.t 0))⟩,
    ⟨(some 7), none, 1, .call 30 [(.t 6)]⟩,
    ⟨(some 5), none, 0, .see (.mov (.t 7))⟩])
  (.seq (.reg [⟨(some 8), none, 0, .see (.mov (.t 5))⟩,
    ⟨(some 9), none, 0, .see (.mov (.t 1))⟩,
    ⟨(some 10), none, 2, .call 31 [(.t 8), (.t 9)]⟩])
  (.seq (.reg [⟨(some 11), none, 0, .see (.mov (.t 5))⟩,
    ⟨(some 12), none, 0, .see (.nck (.t 11))⟩,
    ⟨(some 13), none, 0, .see (.fa 0 (.t 12))⟩,
    ⟨(some 14), none, 0, .see (.ld none (.t 13))⟩,
    ⟨(some 4), none, 0, .see (.mov (.t 14))⟩])
  .ret))))
noncomputable abbrev pbf_Var_code : Code := (Go.Proofs.Try.f19.body).getD .skip
theorem pbf_Var_chk : chkC Go.Proofs.Try.prog 15 pbf_Var_code pbf_Var_pc = true := by kernel_rfl
theorem pbf_Var_triple {args : List AV} {po ro : List Ob} {res : AV} (hal : args.length = 2) (hpo : po.length ≤ 1000)
    (h : run Go.Proofs.Try.prog po.length (RetP po.length [(4, false, none)] fun v os => v = res ∧ os = ro) [.c pbf_Var_pc] ⟨argE 0 args, ob0 po⟩) : Triple Go.Proofs.Try.prog 19 args po res ro :=
  triple_of_W (fn := Go.Proofs.Try.f19) (c := pbf_Var_code) (pc := pbf_Var_pc) (rs := [(4, false, none)]) Go.Proofs.Try.func19 rfl (by decide) (by have := pbf_Var_chk; exact this) (by rw [hal]; decide) rfl (by kernel_rfl) (by kernel_rfl) (by decide) hpo (W_of_run h)

noncomputable def pbf_Zig_pc : PC :=
  (.seq (.reg [⟨(some 2), none, 0, .see (.mov (.c (.r (.v (.int .u64 0)))))⟩])
  (.seq (.reg [⟨(some 3), none, 0, .see (.mov (.t 0))⟩,
    ⟨(some 4), none, 0, .see (.bin .shl (.t 3) (.c (.r (.v (.int .u64 1)))))⟩,
    ⟨(some 5), none, 0, .see (.conv .u64 (.t 4))⟩,
    ⟨(some 6), none, 0, .see (.mov (.t 0))⟩,
    ⟨(some 7), none, 0, .see (.bin .shr (.t 6) (.c (.r (.v (.int .u64 63)))))⟩,
    ⟨(some 8), none, 0, .see (.conv .u64 (.t 7))⟩,
    ⟨(some 9), none, 0, .see (.bin .xor (.t 5) (.t 8))⟩,
    ⟨(some 2), none, 0, .see (.mov (.t 9))⟩])
  .ret))
noncomputable abbrev pbf_Zig_code : Code := (Go.Proofs.Try.f9.body).getD .skip
theorem pbf_Zig_chk : chkC Go.Proofs.Try.prog 10 pbf_Zig_code pbf_Zig_pc = true := by kernel_rfl
theorem pbf_Zig_triple {args : List AV} {po ro : List Ob} {res : AV} (hal : args.length = 1) (hpo : po.length ≤ 1000)
    (h : run Go.Proofs.Try.prog po.length (RetP po.length [(2, false, none)] fun v os => v = res ∧ os = ro) [.c pbf_Zig_pc] ⟨argE 0 args, ob0 po⟩) : Triple Go.Proofs.Try.prog 9 args po res ro :=
  triple_of_W (fn := Go.Proofs.Try.f9) (c := pbf_Zig_code) (pc := pbf_Zig_pc) (rs := [(2, false, none)]) Go.Proofs.Try.func9 rfl (by decide) (by have := pbf_Zig_chk; exact this) (by rw [hal]; decide) rfl (by kernel_rfl) (by kernel_rfl) (by decide) hpo (W_of_run h)

noncomputable def pbf_Zag_pc : PC :=
  (.seq (.reg [⟨(some 2), none, 0, .see (.mov (.c (.r (.v (.int .i64 0)))))⟩])
  (.seq (.reg [⟨(some 3), none, 0, .see (.mov (.t 0))⟩,
    ⟨(some 4), none, 0, .see (.bin .shr (.t 3) (.c (.r (.v (.int .u64 1)))))⟩,
    ⟨(some 5), none, 0, .see (.conv .i64 (.t 4))⟩,
    ⟨(some 6), none, 0, .see (.mov (.t 0))⟩,
    ⟨(some 7), none, 0, .see (.bin .and (.t 6) (.c (.r (.v (.int .u64 1)))))⟩,
    ⟨(some 8), none, 0, .see (.conv .i64 (.t 7))⟩,
    ⟨(some 9), none, 0, .see (.un .neg (.t 8))⟩,
    ⟨(some 10), none, 0, .see (.bin .xor (.t 5) (.t 9))⟩,
    ⟨(some 2), none, 0, .see (.mov (.t 10))⟩])
  .ret))
noncomputable abbrev pbf_Zag_code : Code := (Go.Proofs.Try.f25.body).getD .skip
theorem pbf_Zag_chk : chkC Go.Proofs.Try.prog 11 pbf_Zag_code pbf_Zag_pc = true := by kernel_rfl
theorem pbf_Zag_triple {args : List AV} {po ro : List Ob} {res : AV} (hal : args.length = 1) (hpo : po.length ≤ 1000)
    (h : run Go.Proofs.Try.prog po.length (RetP po.length [(2, false, none)] fun v os => v = res ∧ os = ro) [.c pbf_Zag_pc] ⟨argE 0 args, ob0 po⟩) : Triple Go.Proofs.Try.prog 25 args po res ro :=
  triple_of_W (fn := Go.Proofs.Try.f25) (c := pbf_Zag_code) (pc := pbf_Zag_pc) (rs := [(2, false, none)]) Go.Proofs.Try.func25 rfl (by decide) (by have := pbf_Zag_chk; exact this) (by rw [hal]; decide) rfl (by kernel_rfl) (by kernel_rfl) (by decide) hpo (W_of_run h)

noncomputable def pbf_Num_pc : PC :=
  (.seq (.reg [⟨(some 6), none, 0, .see (.mov (.c (.nils 1 (.v (.int .u8 0)))))⟩])
  (.seq (.reg [⟨(some 9), none, 0, .see (.mov (.t 0))⟩,
    ⟨(some 10), none, 1, .call 30 [(.t 9)]⟩,
    ⟨(some 7), none, 0, .see (.mov (.t 10))⟩])
  (.seq (.seq (.reg [⟨(some 11), none, 0, .see (.mov (.t 1))⟩,
    ⟨(some 12), none, 2, .call 32 [(.t 11)]⟩])
  (.cond (.t 12)
    (.seq (.reg [⟨(some 13), none, 0, .see (.mov (.t 7))⟩,
    ⟨(some 14), none, 0, .see (.mkf (.func 31) [(.t 13)] 1)⟩,
    ⟨(some 8), none, 0, .see (.mov (.t 14))⟩])
    (.seq (.reg [⟨(some 15), none, 0, .see (.mov (.t 8))⟩,
    ⟨(some 16), none, 0, .see (.mov (.t 1))⟩,
    ⟨(some 17), none, 0, .see (.conv .u64 (.t 16))⟩,
    ⟨(some 18), none, 0, .see (.bin .mul (.t 17) (.c (.r (.v (.int .u64 8)))))⟩,
    ⟨(some 19), none, 3, .callv (.t 15) [(.t 18)]⟩])
    (.reg [⟨(some 20), none, 0, .see (.mov (.t 8))⟩,
    ⟨(some 21), none, 0, .see (.mov (.t 2))⟩,
    ⟨(some 22), none, 4, .callv (.t 20) [(.t 21)]⟩])))
    .skip))
  (.seq (.reg [⟨(some 23), none, 0, .see (.mov (.t 7))⟩,
    ⟨(some 24), none, 0, .see (.nck (.t 23))⟩,
    ⟨(some 25), none, 0, .see (.fa 0 (.t 24))⟩,
    ⟨(some 26), none, 0, .see (.ld none (.t 25))⟩,
    ⟨(some 6), none, 0, .see (.mov (.t 26))⟩])
  .ret))))
noncomputable abbrev pbf_Num_code : Code := (Go.Proofs.Try.f20.body).getD .skip
theorem pbf_Num_chk : chkC Go.Proofs.Try.prog 27 pbf_Num_code pbf_Num_pc = true := by kernel_rfl
theorem pbf_Num_triple {args : List AV} {po ro : List Ob} {res : AV} (hal : args.length = 3) (hpo : po.length ≤ 1000)
    (h : run Go.Proofs.Try.prog po.length (RetP po.length [(6, false, none)] fun v os => v = res ∧ os = ro) [.c pbf_Num_pc] ⟨argE 0 args, ob0 po⟩) : Triple Go.Proofs.Try.prog 20 args po res ro :=
  triple_of_W (fn := Go.Proofs.Try.f20) (c := pbf_Num_code) (pc := pbf_Num_pc) (rs := [(6, false, none)]) Go.Proofs.Try.func20 rfl (by decide) (by have := pbf_Num_chk; exact this) (by rw [hal]; decide) rfl (by kernel_rfl) (by kernel_rfl) (by decide) hpo (W_of_run h)

noncomputable def pbf_Bytes_pc : PC :=
  (.seq (.reg [⟨(some 6), none, 0, .see (.mov (.c (.nils 1 (.v (.int .u8 0)))))⟩])
  (.seq (.reg [⟨(some 9), none, 0, .see (.mov (.t 0))⟩,
    ⟨(some 10), none, 1, .call 30 [(.t 9)]⟩,
    ⟨(some 7), none, 0, .see (.mov (.t 10))⟩])
  (.seq (.seq (.reg [⟨(some 11), none, 0, .see (.mov (.t 1))⟩,
    ⟨(some 12), none, 2, .call 32 [(.t 11)]⟩])
  (.cond (.t 12)
    (.seq (.reg [⟨(some 13), none, 0, .see (.mov (.t 7))⟩,
    ⟨(some 14), none, 0, .see (.mkf (.func 31) [(.t 13)] 1)⟩,
    ⟨(some 8), none, 0, .see (.mov (.t 14))⟩])
    (.seq (.reg [⟨(some 15), none, 0, .see (.mov (.t 8))⟩,
    ⟨(some 16), none, 0, .see (.mov (.t 1))⟩,
    ⟨(some 17), none, 0, .see (.conv .u64 (.t 16))⟩,
    ⟨(some 18), none, 0, .see (.bin .mul (.t 17) (.c (.r (.v (.int .u64 8)))))⟩,
    ⟨(some 19), none, 0, .see (.bin .add (.t 18) (.c (.r (.v (.int .u64 2)))))⟩,
    ⟨(some 20), none, 3, .callv (.t 15) [(.t 19)]⟩])
    (.seq (.reg [⟨(some 21), none, 0, .see (.mov (.t 8))⟩,
    ⟨(some 22), none, 0, .see (.mov (.t 2))⟩,
    ⟨(some 23), none, 0, .see (.len false (.t 22))⟩,
    ⟨(some 24), none, 0, .see (.conv .u64 (.t 23))⟩,
    ⟨(some 25), none, 4, .callv (.t 21) [(.t 24)]⟩])
    (.reg [⟨(some 26), none, 0, .see (.mov (.t 7))⟩,
    ⟨(some 27), none, 0, .see (.mov (.t 7))⟩,
    ⟨(some 28), none, 0, .see (.nck (.t 27))⟩,
    ⟨(some 29), none, 0, .see (.fa 0 (.t 28))⟩,
    ⟨(some 30), none, 0, .see (.ld none (.t 29))⟩,
    ⟨(some 31), none, 0, .see (.mov (.t 2))⟩,
    ⟨(some 32), none, 0, .act (.app 1 (.v (.int .u8 0)) 1 (.t 30) (.t 31))⟩,
    ⟨(some 33), none, 0, .see (.nck (.t 26))⟩,
    ⟨(some 34), none, 0, .see (.fa 0 (.t 33))⟩,
    ⟨none, none, 0, .act (.st 1 (.t 34) (.t 32))⟩]))))
    .skip))
  (.seq (.reg [⟨(some 35), none, 0, .see (.mov (.t 7))⟩,
    ⟨(some 36), none, 0, .see (.nck (.t 35))⟩,
    ⟨(some 37), none, 0, .see (.fa 0 (.t 36))⟩,
    ⟨(some 38), none, 0, .see (.ld none (.t 37))⟩,
    ⟨(some 6), none, 0, .see (.mov (.t 38))⟩])
  .ret))))
noncomputable abbrev pbf_Bytes_code : Code := (Go.Proofs.Try.f21.body).getD .skip
theorem pbf_Bytes_chk : chkC Go.Proofs.Try.prog 39 pbf_Bytes_code pbf_Bytes_pc = true := by kernel_rfl
theorem pbf_Bytes_triple {args : List AV} {po ro : List Ob} {res : AV} (hal : args.length = 3) (hpo : po.length ≤ 1000)
    (h : run Go.Proofs.Try.prog po.length (RetP po.length [(6, false, none)] fun v os => v = res ∧ os = ro) [.c pbf_Bytes_pc] ⟨argE 0 args, ob0 po⟩) : Triple Go.Proofs.Try.prog 21 args po res ro :=
  triple_of_W (fn := Go.Proofs.Try.f21) (c := pbf_Bytes_code) (pc := pbf_Bytes_pc) (rs := [(6, false, none)]) Go.Proofs.Try.func21 rfl (by decide) (by have := pbf_Bytes_chk; exact this) (by rw [hal]; decide) rfl (by kernel_rfl) (by kernel_rfl) (by decide) hpo (W_of_run h)

noncomputable def pbf_Pack_pc : PC :=
  (.seq (.reg [⟨(some 6), none, 0, .see (.mov (.c (.nils 1 (.v (.int .u8 0)))))⟩])
  (.seq (.reg [⟨(some 10), none, 0, .see (.build [(.nils 1 (.v (.int .u8 0)))] [])⟩,
    ⟨(some 11), none, 0, .act (.box (.t 10))⟩,
    ⟨(some 7), none, 0, .see (.mov (.t 11))⟩])
  (.seq (.seq (.reg [⟨(some 12), none, 0, .see (.mov (.t 2))⟩,
    ⟨(some 13), none, 0, .see (.len false (.t 12))⟩,
    ⟨(some 14), none, 0, .see (.mov (.c (.r (.v (.int .i64 0)))))⟩])
  (.block 0 (.loop (.seq (.reg [⟨(some 15), none, 0, .see (.bin .lss (.t 14) (.t 13))⟩])
  (.seq (.cond (.t 15)
    .skip
    (.exit 0))
  (.seq (.block 1 (.seq (.reg [⟨(some 16), none, 0, .see (.ia 1 (.v (.int .u64 0)) (.t 12) (.t 14))⟩,
    ⟨(some 17), none, 0, .see (.ld none (.t 16))⟩,
    ⟨(some 9), none, 0, .see (.mov (.t 17))⟩])
  (.reg [⟨(some 18), none, 0, .see (.mov (.t 7))⟩,
    ⟨(some 19), none, 0, .see (.mov (.t 9))⟩,
    ⟨(some 20), none, 1, .call 31 [(.t 18), (.t 19)]⟩])))
  (.reg [⟨(some 21), none, 0, .see (.bin .add (.t 14) (.c (.r (.v (.int .i64 1)))))⟩,
    ⟨(some 14), none, 0, .see (.mov (.t 21))⟩])))))))
  (.seq (.reg [⟨(some 22), none, 0, .see (.mov (.t 0))⟩,
    ⟨(some 23), none, 0, .see (.mov (.t 1))⟩,
    ⟨(some 24), none, 0, .see (.mov (.t 7))⟩,
    ⟨(some 25), none, 0, .see (.nck (.t 24))⟩,
    ⟨(some 26), none, 0, .see (.fa 0 (.t 25))⟩,
    ⟨(some 27), none, 0, .see (.ld none (.t 26))⟩,
    ⟨(some 28), none, 2, .call 21 [(.t 22), (.t 23), (.t 27)]⟩,
    ⟨(some 6), none, 0, .see (.mov (.t 28))⟩])
  .ret))))
noncomputable abbrev pbf_Pack_code : Code := (Go.Proofs.Try.f22.body).getD .skip
theorem pbf_Pack_chk : chkC Go.Proofs.Try.prog 29 pbf_Pack_code pbf_Pack_pc = true := by kernel_rfl
theorem pbf_Pack_triple {args : List AV} {po ro : List Ob} {res : AV} (hal : args.length = 3) (hpo : po.length ≤ 1000)
    (h : run Go.Proofs.Try.prog po.length (RetP po.length [(6, false, none)] fun v os => v = res ∧ os = ro) [.c pbf_Pack_pc] ⟨argE 0 args, ob0 po⟩) : Triple Go.Proofs.Try.prog 22 args po res ro :=
  triple_of_W (fn := Go.Proofs.Try.f22) (c := pbf_Pack_code) (pc := pbf_Pack_pc) (rs := [(6, false, none)]) Go.Proofs.Try.func22 rfl (by decide) (by have := pbf_Pack_chk; exact this) (by rw [hal]; decide) rfl (by kernel_rfl) (by kernel_rfl) (by decide) hpo (W_of_run h)

noncomputable def pbf_take_pc : PC :=
  (.seq (.reg [⟨(some 2), none, 0, .see (.mov (.c (.r (.v (.int .u64 0)))))⟩,
    ⟨(some 3), none, 0, .see (.mov (.c (.r (.v (.int .i64 0)))))⟩])
  (.seq (.reg [⟨(some 4), none, 0, .see (.mov (.c (.r (.v (.int .u64 0)))))⟩])
  (.seq (.seq (.reg [⟨(some 7), none, 0, .see (.mov (.t 0))⟩,
    ⟨(some 8), none, 0, .see (.len false (.t 7))⟩,
    ⟨(some 9), none, 0, .see (.mov (.c (.r (.v (.int .i64 0)))))⟩])
  (.block 0 (.loop (.seq (.reg [⟨(some 10), none, 0, .see (.bin .lss (.t 9) (.t 8))⟩])
  (.seq (.cond (.t 10)
    .skip
    (.exit 0))
  (.seq (.block 1 (.seq (.reg [⟨(some 11), none, 0, .see (.mov (.t 9))⟩,
    ⟨(some 12), none, 0, .see (.ia 1 (.v (.int .u8 0)) (.t 7) (.t 9))⟩,
    ⟨(some 13), none, 0, .see (.ld none (.t 12))⟩,
    ⟨(some 5), none, 0, .see (.mov (.t 11))⟩,
    ⟨(some 6), none, 0, .see (.mov (.t 13))⟩])
  (.seq (.seq (.reg [⟨(some 14), none, 0, .see (.mov (.t 5))⟩,
    ⟨(some 15), none, 0, .see (.bin .eql (.t 14) (.c (.r (.v (.int .i64 9)))))⟩,
    ⟨(some 16), none, 0, .see (.mov (.t 15))⟩,
    ⟨(some 17), (some (16, true)), 0, .see (.mov (.t 6))⟩,
    ⟨(some 18), (some (16, true)), 0, .see (.bin .gtr (.t 17) (.c (.r (.v (.int .u8 1)))))⟩,
    ⟨(some 19), none, 0, .see (.pick (.t 16) (.t 18) (.c (.r (.v (.bool false)))))⟩,
    ⟨(some 20), none, 0, .see (.mov (.t 19))⟩,
    ⟨(some 21), (some (20, false)), 0, .see (.mov (.t 5))⟩,
    ⟨(some 22), (some (20, false)), 0, .see (.bin .gtr (.t 21) (.c (.r (.v (.int .i64 0)))))⟩,
    ⟨(some 23), (some (20, false)), 0, .see (.mov (.t 22))⟩,
    ⟨(some 24), (some (23, true)), 0, .see (.mov (.t 6))⟩,
    ⟨(some 25), (some (23, true)), 0, .see (.bin .eql (.t 24) (.c (.r (.v (.int .u8 0)))))⟩,
    ⟨(some 26), (some (20, false)), 0, .see (.pick (.t 23) (.t 25) (.c (.r (.v (.bool false)))))⟩,
    ⟨(some 27), none, 0, .see (.pick (.t 20) (.c (.r (.v (.bool true)))) (.t 26))⟩])
  (.cond (.t 27)
    (.seq (.reg [⟨(some 2), none, 0, .see (.mov (.c (.r (.v (.int .u64 0)))))⟩,
    ⟨(some 3), none, 0, .see (.mov (.c (.r (.v (.int .i64 0)))))⟩])
    .ret)
    .skip))
  (.seq (.reg [⟨(some 28), none, 0, .see (.mov (.t 4))⟩,
    ⟨(some 29), none, 0, .see (.mov (.t 6))⟩,
    ⟨(some 30), none, 0, .see (.bin .and (.t 29) (.c (.r (.v (.int .u8 127)))))⟩,
    ⟨(some 31), none, 0, .see (.conv .u64 (.t 30))⟩,
    ⟨(some 32), none, 0, .see (.mov (.t 5))⟩,
    ⟨(some 33), none, 0, .see (.bin .mul (.c (.r (.v (.int .i64 7)))) (.t 32))⟩,
    ⟨(some 34), none, 0, .see (.conv .u64 (.t 33))⟩,
    ⟨(some 35), none, 0, .see (.bin .shl (.t 31) (.t 34))⟩,
    ⟨(some 36), none, 0, .see (.bin .or (.t 28) (.t 35))⟩,
    ⟨(some 4), none, 0, .see (.mov (.t 36))⟩])
  (.seq (.reg [⟨(some 37), none, 0, .see (.mov (.t 6))⟩,
    ⟨(some 38), none, 0, .see (.bin .lss (.t 37) (.c (.r (.v (.int .u8 128)))))⟩])
  (.cond (.t 38)
    (.seq (.reg [⟨(some 39), none, 0, .see (.mov (.t 4))⟩,
    ⟨(some 40), none, 0, .see (.mov (.t 5))⟩,
    ⟨(some 41), none, 0, .see (.bin .add (.t 40) (.c (.r (.v (.int .i64 1)))))⟩,
    ⟨(some 2), none, 0, .see (.mov (.t 39))⟩,
    ⟨(some 3), none, 0, .see (.mov (.t 41))⟩])
    .ret)
    .skip))))))
  (.reg [⟨(some 42), none, 0, .see (.bin .add (.t 9) (.c (.r (.v (.int .i64 1)))))⟩,
    ⟨(some 9), none, 0, .see (.mov (.t 42))⟩])))))))
  (.seq (.reg [⟨(some 2), none, 0, .see (.mov (.c (.r (.v (.int .u64 0)))))⟩,
    ⟨(some 3), none, 0, .see (.mov (.c (.r (.v (.int .i64 0)))))⟩])
  .ret))))
noncomputable abbrev pbf_take_code : Code := (Go.Proofs.Try.f29.body).getD .skip
theorem pbf_take_chk : chkC Go.Proofs.Try.prog 43 pbf_take_code pbf_take_pc = true := by kernel_rfl
theorem pbf_take_triple {args : List AV} {po ro : List Ob} {res : AV} (hal : args.length = 1) (hpo : po.length ≤ 1000)
    (h : run Go.Proofs.Try.prog po.length (RetP po.length [(2, false, none), (3, false, none)] fun v os => v = res ∧ os = ro) [.c pbf_take_pc] ⟨argE 0 args, ob0 po⟩) : Triple Go.Proofs.Try.prog 29 args po res ro :=
  triple_of_W (fn := Go.Proofs.Try.f29) (c := pbf_take_code) (pc := pbf_take_pc) (rs := [(2, false, none), (3, false, none)]) Go.Proofs.Try.func29 rfl (by decide) (by have := pbf_take_chk; exact this) (by rw [hal]; decide) rfl (by kernel_rfl) (by kernel_rfl) (by decide) hpo (W_of_run h)

noncomputable def pbf_Vars_pc : PC :=
  (.seq (.reg [⟨(some 2), none, 0, .see (.mov (.c (.nils 1 (.v (.int .u64 0)))))⟩,
    ⟨(some 3), none, 0, .see (.mov (.c (.r (.v (.int .i64 0)))))⟩])
  (.seq (.reg [⟨(some 4), none, 0, .see (.mov (.c (.nils 1 (.v (.int .u64 0)))))⟩])
  (.seq (.block 0 (.loop (.seq (.seq (.reg [⟨(some 7), none, 0, .see (.mov (.t 0))⟩,
    ⟨(some 8), none, 0, .see (.len false (.t 7))⟩,
    ⟨(some 9), none, 0, .see (.bin .gtr (.t 8) (.c (.r (.v (.int .i64 0)))))⟩])
  (.cond (.t 9)
    .skip
    (.exit 0)))
  (.block 1 (.seq (.reg [⟨(some 11), none, 0, .see (.mov (.t 0))⟩,
    ⟨(some 12), none, 1, .call 29 [(.t 11)]⟩,
    ⟨(some 10), none, 0, .see (.mov (.t 12))⟩,
    ⟨(some 13), none, 0, .see (.ext (.t 10) 0)⟩,
    ⟨(some 14), none, 0, .see (.ext (.t 10) 1)⟩,
    ⟨(some 5), none, 0, .see (.mov (.t 13))⟩,
    ⟨(some 6), none, 0, .see (.mov (.t 14))⟩])
  (.seq (.seq (.reg [⟨(some 15), none, 0, .see (.mov (.t 6))⟩,
    ⟨(some 16), none, 0, .see (.bin .eql (.t 15) (.c (.r (.v (.int .i64 0)))))⟩])
  (.cond (.t 16)
    (.seq (.reg [⟨(some 2), none, 0, .see (.mov (.c (.nils 1 (.v (.int .u64 0)))))⟩,
    ⟨(some 3), none, 0, .see (.mov (.c (.r (.v (.int .i64 10)))))⟩])
    .ret)
    .skip))
  (.seq (.reg [⟨(some 17), none, 0, .see (.mov (.t 4))⟩,
    ⟨(some 18), none, 0, .see (.mov (.t 5))⟩,
    ⟨(some 19), none, 0, .act (.bsl 1 (.v (.int .u64 0)) [(.t 18)])⟩,
    ⟨(some 20), none, 0, .act (.app 1 (.v (.int .u64 0)) 8 (.t 17) (.t 19))⟩,
    ⟨(some 4), none, 0, .see (.mov (.t 20))⟩])
  (.reg [⟨(some 21), none, 0, .see (.mov (.t 0))⟩,
    ⟨(some 22), none, 0, .see (.mov (.t 6))⟩,
    ⟨(some 23), none, 0, .see (.sll 1 (.t 21) (some (.t 22)) none none)⟩,
    ⟨(some 0), none, 0, .see (.mov (.t 23))⟩]))))))))
  (.seq (.reg [⟨(some 24), none, 0, .see (.mov (.t 4))⟩,
    ⟨(some 2), none, 0, .see (.mov (.t 24))⟩,
    ⟨(some 3), none, 0, .see (.mov (.c (.r (.v (.int .i64 0)))))⟩])
  .ret))))
noncomputable abbrev pbf_Vars_code : Code := (Go.Proofs.Try.f16.body).getD .skip
theorem pbf_Vars_chk : chkC Go.Proofs.Try.prog 25 pbf_Vars_code pbf_Vars_pc = true := by kernel_rfl
theorem pbf_Vars_triple {args : List AV} {po ro : List Ob} {res : AV} (hal : args.length = 1) (hpo : po.length ≤ 1000)
    (h : run Go.Proofs.Try.prog po.length (RetP po.length [(2, false, none), (3, false, none)] fun v os => v = res ∧ os = ro) [.c pbf_Vars_pc] ⟨argE 0 args, ob0 po⟩) : Triple Go.Proofs.Try.prog 16 args po res ro :=
  triple_of_W (fn := Go.Proofs.Try.f16) (c := pbf_Vars_code) (pc := pbf_Vars_pc) (rs := [(2, false, none), (3, false, none)]) Go.Proofs.Try.func16 rfl (by decide) (by have := pbf_Vars_chk; exact this) (by rw [hal]; decide) rfl (by kernel_rfl) (by kernel_rfl) (by decide) hpo (W_of_run h)

noncomputable def pbf_one_pc : PC :=
  (.seq (.reg [⟨(some 2), none, 0, .act (.new [(.r (.v (.int .i64 0))), (.r (.v (.int .i64 0))), (.r (.v (.int .u64 0))), (.nils 1 (.v (.int .u8 0)))])⟩,
    ⟨(some 3), none, 0, .see (.mov (.c (.r (.v (.int .i64 0)))))⟩])
  (.seq (.reg [⟨(some 10), none, 0, .see (.mov (.t 0))⟩,
    ⟨(some 11), none, 1, .call 29 [(.t 10)]⟩,
    ⟨(some 9), none, 0, .see (.mov (.t 11))⟩,
    ⟨(some 12), none, 0, .see (.ext (.t 9) 0)⟩,
    ⟨(some 13), none, 0, .see (.ext (.t 9) 1)⟩,
    ⟨(some 4), none, 0, .see (.mov (.t 12))⟩,
    ⟨(some 5), none, 0, .see (.mov (.t 13))⟩])
  (.seq (.reg [⟨(some 14), none, 0, .see (.mov (.t 4))⟩,
    ⟨(some 15), none, 0, .see (.bin .rem (.t 14) (.c (.r (.v (.int .u64 8)))))⟩,
    ⟨(some 16), none, 0, .see (.conv .i64 (.t 15))⟩,
    ⟨(some 17), none, 0, .see (.build [(.r (.v (.int .i64 0))), (.r (.v (.int .i64 0))), (.r (.v (.int .u64 0))), (.nils 1 (.v (.int .u8 0)))] [(1, 1, (.t 16))])⟩,
    ⟨(some 6), none, 0, .act (.new [(.r (.v (.int .i64 0))), (.r (.v (.int .i64 0))), (.r (.v (.int .u64 0))), (.nils 1 (.v (.int .u8 0)))])⟩,
    ⟨none, none, 0, .act (.st 4 (.t 6) (.t 17))⟩])
  (.seq (.seq (.reg [⟨(some 18), none, 0, .see (.mov (.t 5))⟩,
    ⟨(some 19), none, 0, .see (.bin .eql (.t 18) (.c (.r (.v (.int .i64 0)))))⟩,
    ⟨(some 20), none, 0, .see (.mov (.t 19))⟩,
    ⟨(some 21), (some (20, false)), 0, .see (.mov (.t 4))⟩,
    ⟨(some 22), (some (20, false)), 0, .see (.bin .quo (.t 21) (.c (.r (.v (.int .u64 8)))))⟩,
    ⟨(some 23), (some (20, false)), 0, .see (.bin .lss (.t 22) (.c (.r (.v (.int .u64 1)))))⟩,
    ⟨(some 24), none, 0, .see (.pick (.t 20) (.c (.r (.v (.bool true)))) (.t 23))⟩,
    ⟨(some 25), none, 0, .see (.mov (.t 24))⟩,
    ⟨(some 26), (some (25, false)), 0, .see (.mov (.t 4))⟩,
    ⟨(some 27), (some (25, false)), 0, .see (.bin .quo (.t 26) (.c (.r (.v (.int .u64 8)))))⟩,
    ⟨(some 28), (some (25, false)), 0, .see (.bin .gtr (.t 27) (.c (.r (.v (.int .u64 1000)))))⟩,
    ⟨(some 29), none, 0, .see (.pick (.t 25) (.c (.r (.v (.bool true)))) (.t 28))⟩])
  (.cond (.t 29)
    (.seq (.reg [⟨(some 30), none, 0, .see (.build [(.r (.v (.int .i64 0))), (.r (.v (.int .i64 0))), (.r (.v (.int .u64 0))), (.nils 1 (.v (.int .u8 0)))] [])⟩,
    ⟨none, none, 0, .act (.st 4 (.t 2) (.t 30))⟩,
    ⟨(some 3), none, 0, .see (.mov (.c (.r (.v (.int .i64 0)))))⟩])
    .ret)
    .skip))
  (.seq (.reg [⟨(some 31), none, 0, .see (.mov (.t 4))⟩,
    ⟨(some 32), none, 0, .see (.bin .quo (.t 31) (.c (.r (.v (.int .u64 8)))))⟩,
    ⟨(some 33), none, 0, .see (.conv .i64 (.t 32))⟩,
    ⟨(some 34), none, 0, .see (.fa 0 (.t 6))⟩,
    ⟨none, none, 0, .act (.st 1 (.t 34) (.t 33))⟩])
  (.seq (.reg [⟨(some 36), none, 0, .see (.mov (.t 0))⟩,
    ⟨(some 37), none, 0, .see (.mov (.t 5))⟩,
    ⟨(some 38), none, 0, .see (.sll 1 (.t 36) (some (.t 37)) none none)⟩,
    ⟨(some 39), none, 2, .call 29 [(.t 38)]⟩,
    ⟨(some 35), none, 0, .see (.mov (.t 39))⟩,
    ⟨(some 40), none, 0, .see (.ext (.t 35) 0)⟩,
    ⟨(some 41), none, 0, .see (.ext (.t 35) 1)⟩,
    ⟨(some 7), none, 0, .see (.mov (.t 40))⟩,
    ⟨(some 8), none, 0, .see (.mov (.t 41))⟩])
  (.seq (.block 0 (.seq (.reg [⟨(some 43), none, 0, .see (.mov (.t 8))⟩,
    ⟨(some 44), none, 0, .see (.bin .eql (.t 43) (.c (.r (.v (.int .i64 0)))))⟩,
    ⟨(some 42), none, 0, .see (.mov (.t 44))⟩])
  (.cond (.t 42)
    .skip
    (.seq (.reg [⟨(some 46), none, 0, .see (.fa 1 (.t 6))⟩,
    ⟨(some 47), none, 0, .see (.ld none (.t 46))⟩,
    ⟨(some 48), none, 0, .see (.bin .eql (.t 47) (.c (.r (.v (.int .i64 0)))))⟩,
    ⟨(some 45), none, 0, .see (.mov (.t 48))⟩])
    (.cond (.t 45)
      (.seq (.reg [⟨(some 49), none, 0, .see (.mov (.t 7))⟩,
    ⟨(some 50), none, 0, .see (.fa 2 (.t 6))⟩,
    ⟨none, none, 0, .act (.st 1 (.t 50) (.t 49))⟩])
      (.seq (.reg [⟨(some 51), none, 0, .see (.ld (some 4) (.t 6))⟩,
    ⟨(some 52), none, 0, .see (.mov (.t 5))⟩,
    ⟨(some 53), none, 0, .see (.mov (.t 8))⟩,
    ⟨(some 54), none, 0, .see (.bin .add (.t 52) (.t 53))⟩,
    ⟨none, none, 0, .act (.st 4 (.t 2) (.t 51))⟩,
    ⟨(some 3), none, 0, .see (.mov (.t 54))⟩])
      .ret))
      (.seq (.reg [⟨(some 56), none, 0, .see (.fa 1 (.t 6))⟩,
    ⟨(some 57), none, 0, .see (.ld none (.t 56))⟩,
    ⟨(some 58), none, 0, .see (.bin .eql (.t 57) (.c (.r (.v (.int .i64 2)))))⟩,
    ⟨(some 59), none, 0, .see (.mov (.t 58))⟩,
    ⟨(some 60), (some (59, true)), 0, .see (.mov (.t 7))⟩,
    ⟨(some 61), (some (59, true)), 0, .see (.mov (.t 0))⟩,
    ⟨(some 62), (some (59, true)), 0, .see (.len false (.t 61))⟩,
    ⟨(some 63), (some (59, true)), 0, .see (.mov (.t 5))⟩,
    ⟨(some 64), (some (59, true)), 0, .see (.bin .sub (.t 62) (.t 63))⟩,
    ⟨(some 65), (some (59, true)), 0, .see (.mov (.t 8))⟩,
    ⟨(some 66), (some (59, true)), 0, .see (.bin .sub (.t 64) (.t 65))⟩,
    ⟨(some 67), (some (59, true)), 0, .see (.conv .u64 (.t 66))⟩,
    ⟨(some 68), (some (59, true)), 0, .see (.bin .leq (.t 60) (.t 67))⟩,
    ⟨(some 69), none, 0, .see (.pick (.t 59) (.t 68) (.c (.r (.v (.bool false)))))⟩,
    ⟨(some 55), none, 0, .see (.mov (.t 69))⟩])
      (.cond (.t 55)
        (.seq (.reg [⟨(some 70), none, 0, .act (.bsl 1 (.v (.int .u8 0)) [])⟩,
    ⟨(some 71), none, 0, .see (.mov (.t 0))⟩,
    ⟨(some 72), none, 0, .see (.mov (.t 5))⟩,
    ⟨(some 73), none, 0, .see (.mov (.t 8))⟩,
    ⟨(some 74), none, 0, .see (.bin .add (.t 72) (.t 73))⟩,
    ⟨(some 75), none, 0, .see (.mov (.t 5))⟩,
    ⟨(some 76), none, 0, .see (.mov (.t 8))⟩,
    ⟨(some 77), none, 0, .see (.bin .add (.t 75) (.t 76))⟩,
    ⟨(some 78), none, 0, .see (.mov (.t 7))⟩,
    ⟨(some 79), none, 0, .see (.conv .i64 (.t 78))⟩,
    ⟨(some 80), none, 0, .see (.bin .add (.t 77) (.t 79))⟩,
    ⟨(some 81), none, 0, .see (.sll 1 (.t 71) (some (.t 74)) (some (.t 80)) none)⟩,
    ⟨(some 82), none, 0, .act (.app 1 (.v (.int .u8 0)) 1 (.t 70) (.t 81))⟩,
    ⟨(some 83), none, 0, .see (.fa 3 (.t 6))⟩,
    ⟨none, none, 0, .act (.st 1 (.t 83) (.t 82))⟩])
        (.seq (.reg [⟨(some 84), none, 0, .see (.ld (some 4) (.t 6))⟩,
    ⟨(some 85), none, 0, .see (.mov (.t 5))⟩,
    ⟨(some 86), none, 0, .see (.mov (.t 8))⟩,
    ⟨(some 87), none, 0, .see (.bin .add (.t 85) (.t 86))⟩,
    ⟨(some 88), none, 0, .see (.mov (.t 7))⟩,
    ⟨(some 89), none, 0, .see (.conv .i64 (.t 88))⟩,
    ⟨(some 90), none, 0, .see (.bin .add (.t 87) (.t 89))⟩,
    ⟨none, none, 0, .act (.st 4 (.t 2) (.t 84))⟩,
    ⟨(some 3), none, 0, .see (.mov (.t 90))⟩])
        .ret))
        .skip)))))))
  (.seq (.reg [⟨(some 91), none, 0, .see (.build [(.r (.v (.int .i64 0))), (.r (.v (.int .i64 0))), (.r (.v (.int .u64 0))), (.nils 1 (.v (.int .u8 0)))] [])⟩,
    ⟨none, none, 0, .act (.st 4 (.t 2) (.t 91))⟩,
    ⟨(some 3), none, 0, .see (.mov (.c (.r (.v (.int .i64 0)))))⟩])
  .ret))))))))
noncomputable abbrev pbf_one_code : Code := (Go.Proofs.Try.f27.body).getD .skip
theorem pbf_one_chk : chkC Go.Proofs.Try.prog 92 pbf_one_code pbf_one_pc = true := by kernel_rfl
theorem pbf_one_triple {args : List AV} {po ro : List Ob} {res : AV} (hal : args.length = 1) (hpo : po.length ≤ 1000)
    (h : run Go.Proofs.Try.prog po.length (RetP po.length [(2, false, some (46, (some 4))), (3, false, none)] fun v os => v = res ∧ os = ro) [.c pbf_one_pc] ⟨argE 0 args, ob0 po⟩) : Triple Go.Proofs.Try.prog 27 args po res ro :=
  triple_of_W (fn := Go.Proofs.Try.f27) (c := pbf_one_code) (pc := pbf_one_pc) (rs := [(2, false, some (46, (some 4))), (3, false, none)]) Go.Proofs.Try.func27 rfl (by decide) (by have := pbf_one_chk; exact this) (by rw [hal]; decide) rfl (by kernel_rfl) (by kernel_rfl) (by decide) hpo (W_of_run h)

noncomputable def pbf_Read_pc : PC :=
  (.seq (.reg [⟨(some 2), none, 0, .see (.mov (.c (.nils 4 (.agg [(.v (.int .i64 0)), (.v (.int .i64 0)), (.v (.int .u64 0)), (.sl 1 [])]))))⟩,
    ⟨(some 3), none, 0, .see (.mov (.c (.r (.v (.int .i64 0)))))⟩])
  (.seq (.reg [⟨(some 4), none, 0, .see (.mov (.c (.nils 4 (.agg [(.v (.int .i64 0)), (.v (.int .i64 0)), (.v (.int .u64 0)), (.sl 1 [])]))))⟩])
  (.seq (.block 0 (.loop (.seq (.seq (.reg [⟨(some 7), none, 0, .see (.mov (.t 0))⟩,
    ⟨(some 8), none, 0, .see (.len false (.t 7))⟩,
    ⟨(some 9), none, 0, .see (.bin .gtr (.t 8) (.c (.r (.v (.int .i64 0)))))⟩])
  (.cond (.t 9)
    .skip
    (.exit 0)))
  (.block 1 (.seq (.reg [⟨(some 11), none, 0, .see (.mov (.t 0))⟩,
    ⟨(some 12), none, 1, .call 27 [(.t 11)]⟩,
    ⟨(some 10), none, 0, .see (.mov (.t 12))⟩,
    ⟨(some 13), none, 0, .see (.ext (.t 10) 0)⟩,
    ⟨(some 14), none, 0, .see (.ext (.t 10) 1)⟩,
    ⟨(some 5), none, 0, .act (.new [(.r (.v (.int .i64 0))), (.r (.v (.int .i64 0))), (.r (.v (.int .u64 0))), (.nils 1 (.v (.int .u8 0)))])⟩,
    ⟨none, none, 0, .act (.st 4 (.t 5) (.t 13))⟩,
    ⟨(some 6), none, 0, .see (.mov (.t 14))⟩])
  (.seq (.seq (.reg [⟨(some 15), none, 0, .see (.mov (.t 6))⟩,
    ⟨(some 16), none, 0, .see (.bin .eql (.t 15) (.c (.r (.v (.int .i64 0)))))⟩])
  (.cond (.t 16)
    (.seq (.reg [⟨(some 2), none, 0, .see (.mov (.c (.nils 4 (.agg [(.v (.int .i64 0)), (.v (.int .i64 0)), (.v (.int .u64 0)), (.sl 1 [])]))))⟩,
    ⟨(some 3), none, 0, .see (.mov (.c (.r (.v (.int .i64 10)))))⟩])
    .ret)
    .skip))
  (.seq (.reg [⟨(some 17), none, 0, .see (.mov (.t 4))⟩,
    ⟨(some 18), none, 0, .see (.ld (some 4) (.t 5))⟩,
    ⟨(some 19), none, 0, .act (.bsl 4 (.agg [(.v (.int .i64 0)), (.v (.int .i64 0)), (.v (.int .u64 0)), (.sl 1 [])]) [(.t 18)])⟩,
    ⟨(some 20), none, 0, .act (.app 4 (.agg [(.v (.int .i64 0)), (.v (.int .i64 0)), (.v (.int .u64 0)), (.sl 1 [])]) 48 (.t 17) (.t 19))⟩,
    ⟨(some 4), none, 0, .see (.mov (.t 20))⟩])
  (.reg [⟨(some 21), none, 0, .see (.mov (.t 0))⟩,
    ⟨(some 22), none, 0, .see (.mov (.t 6))⟩,
    ⟨(some 23), none, 0, .see (.sll 1 (.t 21) (some (.t 22)) none none)⟩,
    ⟨(some 0), none, 0, .see (.mov (.t 23))⟩]))))))))
  (.seq (.reg [⟨(some 24), none, 0, .see (.mov (.t 4))⟩,
    ⟨(some 2), none, 0, .see (.mov (.t 24))⟩,
    ⟨(some 3), none, 0, .see (.mov (.c (.r (.v (.int .i64 0)))))⟩])
  .ret))))
noncomputable abbrev pbf_Read_code : Code := (Go.Proofs.Try.f14.body).getD .skip
theorem pbf_Read_chk : chkC Go.Proofs.Try.prog 25 pbf_Read_code pbf_Read_pc = true := by kernel_rfl
theorem pbf_Read_triple {args : List AV} {po ro : List Ob} {res : AV} (hal : args.length = 1) (hpo : po.length ≤ 1000)
    (h : run Go.Proofs.Try.prog po.length (RetP po.length [(2, false, none), (3, false, none)] fun v os => v = res ∧ os = ro) [.c pbf_Read_pc] ⟨argE 0 args, ob0 po⟩) : Triple Go.Proofs.Try.prog 14 args po res ro :=
  triple_of_W (fn := Go.Proofs.Try.f14) (c := pbf_Read_code) (pc := pbf_Read_pc) (rs := [(2, false, none), (3, false, none)]) Go.Proofs.Try.func14 rfl (by decide) (by have := pbf_Read_chk; exact this) (by rw [hal]; decide) rfl (by kernel_rfl) (by kernel_rfl) (by decide) hpo (W_of_run h)

def okB (f : Int) : Bool := decide (1 ≤ f ∧ f ≤ 1000)
set_option maxRecDepth 100000 in
theorem ok_t (f : Int) : Triple Go.Proofs.Try.prog 32 [int .i64 f] [] (bl (okB f)) [] := by
  refine pbf_ok_triple rfl (by decide) ?_
  simp only [pbf_ok_pc, List.length_nil, push_cast, ↓reduceIte, reduceCtorEq, Nat.reduceBEq, Nat.reduceEqDiff, Nat.reduceAdd, Nat.reduceSub, Nat.reduceLT, Nat.reduceLeDiff, Nat.reduceMul]
  repeat refine And.intro (by simp +contextual) ?_
  refine bl_iff ?_
  simp [okB]
set_option maxRecDepth 100000 in
theorem own_t (l : List UInt8) (hl : l.length ≤ 140737488355328) : Triple Go.Proofs.Try.prog 30 [sb l] [] (.ptr 1000000 0 0) [.box [.own 1000001 0 0 l.length], rowB l] := by
  refine pbf_own_triple rfl (by decide) ?_
  simp only [pbf_own_pc, List.length_nil, push_cast, ↓reduceIte, reduceCtorEq, Nat.reduceBEq, Nat.reduceEqDiff, Nat.reduceAdd, Nat.reduceSub, Nat.reduceLT, Nat.reduceLeDiff, Nat.reduceMul]
  have := maxLen_big
  refine ⟨by simp, by omega, by rw [Nat.zero_add]⟩
set_option maxRecDepth 100000 in
theorem ownN_t (sz : Nat) (z : RV) : Triple Go.Proofs.Try.prog 30 [.r (.sl 1 [])] [] (.ptr 1000000 0 0) [.box [.own 1000001 0 0 0], rowB []] := own_t [] (by simp)
theorem or128 : ∀ x : Fin 128, (BitVec.ofInt 8 (x.val : Int) ||| BitVec.ofInt 8 128).toNat = x.val + 128 := by decide +kernel
theorem more_byte (U : Int) (h0 : 0 ≤ U) (h1 : U < 18446744073709551616) :
    RV.v (.int .u8 (IntKind.u8.wrap ((BitVec.ofInt IntKind.u8.bits (IntKind.u8.wrap (IntKind.u64.wrap ((BitVec.ofInt IntKind.u64.bits U &&& BitVec.ofInt IntKind.u64.bits 127).toNat))) ||| BitVec.ofInt IntKind.u8.bits 128).toNat))) = by8 (UInt8.ofNat (U.toNat % 128 + 128)) := by
  rw [and_mask_u U 127 7 (by decide) (by decide) h0 h1, IntKind.wrap_u8 (U % 2 ^ 7)]
  have e : U % 2 ^ 7 % 256 = ((U.toNat % 128 : Nat) : Int) := by omega
  have := or128 ⟨U.toNat % 128, Nat.mod_lt _ (by decide)⟩
  simp only at this
  rw [e, show IntKind.u8.bits = 8 from rfl, this, IntKind.wrap_u8]
  simp only [by8]
  congr 2
theorem last_byte (U : Int) (h0 : 0 ≤ U) (h1 : U ≤ 127) : RV.v (.int .u8 (IntKind.u8.wrap U)) = by8 (UInt8.ofNat U.toNat) := by
  rw [IntKind.wrap_u8]
  simp only [by8]
  congr 2
  simp
  omega
set_option maxRecDepth 100000 in
theorem wvar_t (l : List UInt8) (n : Int) (n0 : 0 ≤ n) (hn : n < 18446744073709551616) (hl : l.length ≤ 140000000000000) :
    Triple Go.Proofs.Try.prog 31 [.ptr 1000000 0 0, int .u64 n] [.box [.own 1000001 0 0 l.length], rowB l] (.tup []) [.box [.own 1000001 0 0 (l ++ varL n.toNat).length], rowB (l ++ varL n.toNat)] := by
  refine pbf_Writer_Var_triple rfl (by simp) ?_
  simp only [pbf_Writer_Var_pc, List.length_nil, push_cast, ↓reduceIte, reduceCtorEq, Nat.reduceBEq, Nat.reduceEqDiff, Nat.reduceAdd, Nat.reduceSub, Nat.reduceLT, Nat.reduceLeDiff, Nat.reduceMul]
  have hmax := maxLen_big
  refine run_loop [(0, false), (1, false)] (fun vs pos los => ∃ (U : Int) (f : Nat) (r : List UInt8), 0 ≤ U ∧ U < 18446744073709551616 ∧ 1 ≤ f ∧ f ≤ 10 ∧ U.toNat < 128 ^ f ∧ r ++ varF f U.toNat = l ++ varL n.toNat ∧
    vs = [.ptr 1000000 0 0, int .u64 U] ∧ pos = [.box [.own 1000001 0 0 r.length], rowB r] ∧ los = [])
    (fun vs _ _ => match vs with | [_, .r (.v (.int _ j))] => j.toNat | _ => 0) rfl ?_ ?_
  · simp only [push_cast, ↓reduceIte, reduceCtorEq, Nat.reduceBEq, Nat.reduceEqDiff, Nat.reduceAdd, Nat.reduceSub, Nat.reduceLT, Nat.reduceLeDiff, Nat.reduceMul]
    exact ⟨n, 10, l, n0, hn, by decide, by decide, by omega, rfl, rfl, rfl⟩
  · rintro vs pos los ⟨U, f, r, U0, U1, f1, f10, Uf, hr, rfl, rfl, rfl⟩
    have hrl : r.length ≤ l.length + 10 := by
      have h1 := congrArg List.length hr
      have h2 := varL_len n.toNat
      rw [List.length_append, List.length_append] at h1
      omega
    simp only [push_cast, ↓reduceIte, reduceCtorEq, Nat.reduceBEq, Nat.reduceEqDiff, Nat.reduceAdd, Nat.reduceSub, Nat.reduceLT, Nat.reduceLeDiff, Nat.reduceMul]
    refine cnd_mk (fun h => ?_) (fun h => ?_)
    · have h1 : 127 < U := by simpa using h
      obtain ⟨f', rfl, hf', hUf, hv⟩ := varF_big (f := f) (n := U.toNat) (by omega) Uf
      have hs : U.fdiv (2 ^ min (Int.toNat 7) IntKind.u64.bits) = U / 128 := shr_u U 7 (by decide)
      have hU : (U / 128).toNat = U.toNat / 128 := by omega
      simp only [hs, push_cast, ↓reduceIte, reduceCtorEq, Nat.reduceBEq, Nat.reduceEqDiff, Nat.reduceAdd, Nat.reduceSub, Nat.reduceLT, Nat.reduceLeDiff, Nat.reduceMul]
      rw [more_byte U U0 U1]
      refine ⟨by simp, by omega, by omega, ⟨U / 128, f', r ++ [UInt8.ofNat (U.toNat % 128 + 128)], by omega, by omega, hf', by omega, by rw [hU]; exact hUf, ?_, rfl, by simp⟩, by omega⟩
      rw [← hr, hv, hU, List.append_assoc]; rfl
    · have h1 : U ≤ 127 := by have : ¬ (U > 127) := by simpa using h
                              omega
      have hv := varF_small (f := f) (n := U.toNat) (by omega) f1
      rw [hv] at hr
      simp only [← hr, push_cast, ↓reduceIte, reduceCtorEq, Nat.reduceBEq, Nat.reduceEqDiff, Nat.reduceAdd, Nat.reduceSub, Nat.reduceLT, Nat.reduceLeDiff, Nat.reduceMul]
      rw [last_byte U U0 h1]
      have e : r.length + 1 = l.length + (varL n.toNat).length := by
        have := congrArg List.length hr
        simpa using this
      refine ⟨by simp, by omega, ?_⟩
      rw [e]
      simp
end Go.Ev
