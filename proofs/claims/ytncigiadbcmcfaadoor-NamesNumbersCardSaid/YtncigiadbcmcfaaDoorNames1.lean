import Derived.Test.YtncigiadbcmcfaaDoorEvSet
import Derived.Test.YtncigiadbcmcfaaDoorEvLaw
import Derived.Test.YtncigiadbcmcfaaDoorChecked
import Derived.KernelRfl
import Derived.Test.YtncigiadbcmcfaaDoorShelf
namespace Go.Ev
open Go Go.RowKit
set_option linter.unnecessarySimpa false
set_option linter.unusedSimpArgs false
set_option linter.unusedVariables false
noncomputable def apiarylaw0_all_pc : PC :=
  (.seq (.reg [⟨(some 0), none, 0, .see (.mov (.c (.nils 2 (.agg [(.v (.int .i64 0)), (.v (.int .i64 0))]))))⟩])
  (.seq (.reg [⟨(some 1), none, 0, .see (.build [(.r (.v (.int .i64 0))), (.r (.v (.int .i64 0)))] [(0, 1, (.c (.r (.v (.int .i64 0))))), (1, 1, (.c (.r (.v (.int .i64 0)))))])⟩,
    ⟨(some 2), none, 0, .see (.build [(.r (.v (.int .i64 0))), (.r (.v (.int .i64 0)))] [(0, 1, (.c (.r (.v (.int .i64 1))))), (1, 1, (.c (.r (.v (.int .i64 1)))))])⟩,
    ⟨(some 3), none, 0, .see (.build [(.r (.v (.int .i64 0))), (.r (.v (.int .i64 0)))] [(0, 1, (.c (.r (.v (.int .i64 2))))), (1, 1, (.c (.r (.v (.int .i64 2)))))])⟩,
    ⟨(some 4), none, 0, .see (.build [(.r (.v (.int .i64 0))), (.r (.v (.int .i64 0)))] [(0, 1, (.c (.r (.v (.int .i64 3))))), (1, 1, (.c (.r (.v (.int .i64 3)))))])⟩,
    ⟨(some 5), none, 0, .see (.build [(.r (.v (.int .i64 0))), (.r (.v (.int .i64 0)))] [(0, 1, (.c (.r (.v (.int .i64 4))))), (1, 1, (.c (.r (.v (.int .i64 4)))))])⟩,
    ⟨(some 6), none, 0, .see (.build [(.r (.v (.int .i64 0))), (.r (.v (.int .i64 0)))] [(0, 1, (.c (.r (.v (.int .i64 5))))), (1, 1, (.c (.r (.v (.int .i64 5)))))])⟩,
    ⟨(some 7), none, 0, .see (.build [(.r (.v (.int .i64 0))), (.r (.v (.int .i64 0)))] [(0, 1, (.c (.r (.v (.int .i64 6))))), (1, 1, (.c (.r (.v (.int .i64 6)))))])⟩,
    ⟨(some 8), none, 0, .see (.build [(.r (.v (.int .i64 0))), (.r (.v (.int .i64 0)))] [(0, 1, (.c (.r (.v (.int .i64 7))))), (1, 1, (.c (.r (.v (.int .i64 7)))))])⟩,
    ⟨(some 9), none, 0, .see (.build [(.r (.v (.int .i64 0))), (.r (.v (.int .i64 0)))] [(0, 1, (.c (.r (.v (.int .i64 8))))), (1, 1, (.c (.r (.v (.int .i64 8)))))])⟩,
    ⟨(some 10), none, 0, .see (.build [(.r (.v (.int .i64 0))), (.r (.v (.int .i64 0)))] [(0, 1, (.c (.r (.v (.int .i64 9))))), (1, 1, (.c (.r (.v (.int .i64 9)))))])⟩,
    ⟨(some 11), none, 0, .see (.build [(.r (.v (.int .i64 0))), (.r (.v (.int .i64 0)))] [(0, 1, (.c (.r (.v (.int .i64 10))))), (1, 1, (.c (.r (.v (.int .i64 10)))))])⟩,
    ⟨(some 12), none, 0, .see (.build [(.r (.v (.int .i64 0))), (.r (.v (.int .i64 0)))] [(0, 1, (.c (.r (.v (.int .i64 11))))), (1, 1, (.c (.r (.v (.int .i64 11)))))])⟩,
    ⟨(some 13), none, 0, .see (.build [(.r (.v (.int .i64 0))), (.r (.v (.int .i64 0)))] [(0, 1, (.c (.r (.v (.int .i64 12))))), (1, 1, (.c (.r (.v (.int .i64 12)))))])⟩,
    ⟨(some 14), none, 0, .see (.build [(.r (.v (.int .i64 0))), (.r (.v (.int .i64 0)))] [(0, 1, (.c (.r (.v (.int .i64 13))))), (1, 1, (.c (.r (.v (.int .i64 13)))))])⟩,
    ⟨(some 15), none, 0, .see (.build [(.r (.v (.int .i64 0))), (.r (.v (.int .i64 0)))] [(0, 1, (.c (.r (.v (.int .i64 14))))), (1, 1, (.c (.r (.v (.int .i64 14)))))])⟩,
    ⟨(some 16), none, 0, .see (.build [(.r (.v (.int .i64 0))), (.r (.v (.int .i64 0)))] [(0, 1, (.c (.r (.v (.int .i64 15))))), (1, 1, (.c (.r (.v (.int .i64 15)))))])⟩,
    ⟨(some 17), none, 0, .see (.build [(.r (.v (.int .i64 0))), (.r (.v (.int .i64 0)))] [(0, 1, (.c (.r (.v (.int .i64 16))))), (1, 1, (.c (.r (.v (.int .i64 16)))))])⟩,
    ⟨(some 18), none, 0, .see (.build [(.r (.v (.int .i64 0))), (.r (.v (.int .i64 0)))] [(0, 1, (.c (.r (.v (.int .i64 17))))), (1, 1, (.c (.r (.v (.int .i64 17)))))])⟩,
    ⟨(some 19), none, 0, .see (.build [(.r (.v (.int .i64 0))), (.r (.v (.int .i64 0)))] [(0, 1, (.c (.r (.v (.int .i64 1073741824))))), (1, 1, (.c (.r (.v (.int .i64 1073741824)))))])⟩,
    ⟨(some 20), none, 0, .see (.build [(.r (.v (.int .i64 0))), (.r (.v (.int .i64 0)))] [(0, 1, (.c (.r (.v (.int .i64 20000))))), (1, 1, (.c (.r (.v (.int .i64 20000)))))])⟩,
    ⟨(some 21), none, 0, .see (.build [(.r (.v (.int .i64 0))), (.r (.v (.int .i64 0)))] [(0, 1, (.c (.r (.v (.int .i64 2000))))), (1, 1, (.c (.r (.v (.int .i64 2000)))))])⟩,
    ⟨(some 22), none, 0, .see (.build [(.r (.v (.int .i64 0))), (.r (.v (.int .i64 0)))] [(0, 1, (.c (.r (.v (.int .i64 500))))), (1, 1, (.c (.r (.v (.int .i64 500)))))])⟩,
    ⟨(some 23), none, 0, .see (.build [(.r (.v (.int .i64 0))), (.r (.v (.int .i64 0)))] [(0, 1, (.c (.r (.v (.int .i64 10000))))), (1, 1, (.c (.r (.v (.int .i64 10000)))))])⟩,
    ⟨(some 24), none, 0, .see (.build [(.r (.v (.int .i64 0))), (.r (.v (.int .i64 0)))] [(0, 1, (.c (.r (.v (.int .i64 1))))), (1, 1, (.c (.r (.v (.int .i64 1)))))])⟩,
    ⟨(some 25), none, 0, .see (.build [(.r (.v (.int .i64 0))), (.r (.v (.int .i64 0)))] [(0, 1, (.c (.r (.v (.int .i64 2))))), (1, 1, (.c (.r (.v (.int .i64 2)))))])⟩,
    ⟨(some 26), none, 0, .see (.build [(.r (.v (.int .i64 0))), (.r (.v (.int .i64 0)))] [(0, 1, (.c (.r (.v (.int .i64 1))))), (1, 1, (.c (.r (.v (.int .i64 1)))))])⟩,
    ⟨(some 27), none, 0, .see (.build [(.r (.v (.int .i64 0))), (.r (.v (.int .i64 0)))] [(0, 1, (.c (.r (.v (.int .i64 2))))), (1, 1, (.c (.r (.v (.int .i64 2)))))])⟩,
    ⟨(some 28), none, 0, .see (.build [(.r (.v (.int .i64 0))), (.r (.v (.int .i64 0)))] [(0, 1, (.c (.r (.v (.int .i64 3))))), (1, 1, (.c (.r (.v (.int .i64 3)))))])⟩,
    ⟨(some 29), none, 0, .see (.build [(.r (.v (.int .i64 0))), (.r (.v (.int .i64 0)))] [(0, 1, (.c (.r (.v (.int .i64 4))))), (1, 1, (.c (.r (.v (.int .i64 4)))))])⟩,
    ⟨(some 30), none, 0, .see (.build [(.r (.v (.int .i64 0))), (.r (.v (.int .i64 0)))] [(0, 1, (.c (.r (.v (.int .i64 5))))), (1, 1, (.c (.r (.v (.int .i64 5)))))])⟩,
    ⟨(some 31), none, 0, .see (.build [(.r (.v (.int .i64 0))), (.r (.v (.int .i64 0)))] [(0, 1, (.c (.r (.v (.int .i64 6))))), (1, 1, (.c (.r (.v (.int .i64 6)))))])⟩,
    ⟨(some 32), none, 0, .see (.build [(.r (.v (.int .i64 0))), (.r (.v (.int .i64 0)))] [(0, 1, (.c (.r (.v (.int .i64 7))))), (1, 1, (.c (.r (.v (.int .i64 7)))))])⟩,
    ⟨(some 33), none, 0, .see (.build [(.r (.v (.int .i64 0))), (.r (.v (.int .i64 0)))] [(0, 1, (.c (.r (.v (.int .i64 8))))), (1, 1, (.c (.r (.v (.int .i64 8)))))])⟩,
    ⟨(some 34), none, 0, .see (.build [(.r (.v (.int .i64 0))), (.r (.v (.int .i64 0)))] [(0, 1, (.c (.r (.v (.int .i64 9))))), (1, 1, (.c (.r (.v (.int .i64 9)))))])⟩,
    ⟨(some 35), none, 0, .see (.build [(.r (.v (.int .i64 0))), (.r (.v (.int .i64 0)))] [(0, 1, (.c (.r (.v (.int .i64 10))))), (1, 1, (.c (.r (.v (.int .i64 10)))))])⟩,
    ⟨(some 36), none, 0, .see (.build [(.r (.v (.int .i64 0))), (.r (.v (.int .i64 0)))] [(0, 1, (.c (.r (.v (.int .i64 11))))), (1, 1, (.c (.r (.v (.int .i64 11)))))])⟩,
    ⟨(some 37), none, 0, .see (.build [(.r (.v (.int .i64 0))), (.r (.v (.int .i64 0)))] [(0, 1, (.c (.r (.v (.int .i64 12))))), (1, 1, (.c (.r (.v (.int .i64 12)))))])⟩,
    ⟨(some 38), none, 0, .see (.build [(.r (.v (.int .i64 0))), (.r (.v (.int .i64 0)))] [(0, 1, (.c (.r (.v (.int .i64 13))))), (1, 1, (.c (.r (.v (.int .i64 13)))))])⟩,
    ⟨(some 39), none, 0, .see (.build [(.r (.v (.int .i64 0))), (.r (.v (.int .i64 0)))] [(0, 1, (.c (.r (.v (.int .i64 14))))), (1, 1, (.c (.r (.v (.int .i64 14)))))])⟩,
    ⟨(some 40), none, 0, .see (.build [(.r (.v (.int .i64 0))), (.r (.v (.int .i64 0)))] [(0, 1, (.c (.r (.v (.int .i64 15))))), (1, 1, (.c (.r (.v (.int .i64 15)))))])⟩,
    ⟨(some 41), none, 0, .see (.build [(.r (.v (.int .i64 0))), (.r (.v (.int .i64 0)))] [(0, 1, (.c (.r (.v (.int .i64 16))))), (1, 1, (.c (.r (.v (.int .i64 16)))))])⟩,
    ⟨(some 42), none, 0, .see (.build [(.r (.v (.int .i64 0))), (.r (.v (.int .i64 0)))] [(0, 1, (.c (.r (.v (.int .i64 1))))), (1, 1, (.c (.r (.v (.int .i64 1)))))])⟩,
    ⟨(some 43), none, 0, .see (.build [(.r (.v (.int .i64 0))), (.r (.v (.int .i64 0)))] [(0, 1, (.c (.r (.v (.int .i64 2))))), (1, 1, (.c (.r (.v (.int .i64 2)))))])⟩,
    ⟨(some 44), none, 0, .see (.build [(.r (.v (.int .i64 0))), (.r (.v (.int .i64 0)))] [(0, 1, (.c (.r (.v (.int .i64 3))))), (1, 1, (.c (.r (.v (.int .i64 3)))))])⟩,
    ⟨(some 45), none, 0, .see (.build [(.r (.v (.int .i64 0))), (.r (.v (.int .i64 0)))] [(0, 1, (.c (.r (.v (.int .i64 4))))), (1, 1, (.c (.r (.v (.int .i64 4)))))])⟩,
    ⟨(some 46), none, 0, .see (.build [(.r (.v (.int .i64 0))), (.r (.v (.int .i64 0)))] [(0, 1, (.c (.r (.v (.int .i64 5))))), (1, 1, (.c (.r (.v (.int .i64 5)))))])⟩,
    ⟨(some 47), none, 0, .see (.build [(.r (.v (.int .i64 0))), (.r (.v (.int .i64 0)))] [(0, 1, (.c (.r (.v (.int .i64 6))))), (1, 1, (.c (.r (.v (.int .i64 6)))))])⟩,
    ⟨(some 48), none, 0, .see (.build [(.r (.v (.int .i64 0))), (.r (.v (.int .i64 0)))] [(0, 1, (.c (.r (.v (.int .i64 7))))), (1, 1, (.c (.r (.v (.int .i64 7)))))])⟩,
    ⟨(some 49), none, 0, .see (.build [(.r (.v (.int .i64 0))), (.r (.v (.int .i64 0)))] [(0, 1, (.c (.r (.v (.int .i64 8))))), (1, 1, (.c (.r (.v (.int .i64 8)))))])⟩,
    ⟨(some 50), none, 0, .see (.build [(.r (.v (.int .i64 0))), (.r (.v (.int .i64 0)))] [(0, 1, (.c (.r (.v (.int .i64 9))))), (1, 1, (.c (.r (.v (.int .i64 9)))))])⟩,
    ⟨(some 51), none, 0, .see (.build [(.r (.v (.int .i64 0))), (.r (.v (.int .i64 0)))] [(0, 1, (.c (.r (.v (.int .i64 10))))), (1, 1, (.c (.r (.v (.int .i64 10)))))])⟩,
    ⟨(some 52), none, 0, .see (.build [(.r (.v (.int .i64 0))), (.r (.v (.int .i64 0)))] [(0, 1, (.c (.r (.v (.int .i64 11))))), (1, 1, (.c (.r (.v (.int .i64 11)))))])⟩,
    ⟨(some 53), none, 0, .act (.bsl 2 (.agg [(.v (.int .i64 0)), (.v (.int .i64 0))]) [(.t 1), (.t 2), (.t 3), (.t 4), (.t 5), (.t 6), (.t 7), (.t 8), (.t 9), (.t 10), (.t 11), (.t 12), (.t 13), (.t 14), (.t 15), (.t 16), (.t 17), (.t 18), (.t 19), (.t 20), (.t 21), (.t 22), (.t 23), (.t 24), (.t 25), (.t 26), (.t 27), (.t 28), (.t 29), (.t 30), (.t 31), (.t 32), (.t 33), (.t 34), (.t 35), (.t 36), (.t 37), (.t 38), (.t 39), (.t 40), (.t 41), (.t 42), (.t 43), (.t 44), (.t 45), (.t 46), (.t 47), (.t 48), (.t 49), (.t 50), (.t 51), (.t 52)])⟩,
    ⟨(some 0), none, 0, .see (.mov (.t 53))⟩])
  .ret))
noncomputable abbrev apiarylaw0_all_code : Code := (Go.Proofs.Tryd.f4.body).getD .skip
theorem apiarylaw0_all_chk : chkC Go.Proofs.Tryd.prog 54 apiarylaw0_all_code apiarylaw0_all_pc = true := by kernel_rfl
theorem apiarylaw0_all_triple {args : List AV} {po ro : List Ob} {res : AV} (hal : args.length = 0) (hpo : po.length ≤ 1000)
    (h : run Go.Proofs.Tryd.prog po.length (RetP po.length [(0, false, none)] fun v os => v = res ∧ os = ro) [.c apiarylaw0_all_pc] ⟨argE 0 args, ob0 po⟩) : Triple Go.Proofs.Tryd.prog 4 args po res ro :=
  triple_of_W (fn := Go.Proofs.Tryd.f4) (c := apiarylaw0_all_code) (pc := apiarylaw0_all_pc) (rs := [(0, false, none)]) Go.Proofs.Tryd.func4 rfl (by decide) (by have := apiarylaw0_all_chk; exact this) (by rw [hal]; decide) rfl (by kernel_rfl) (by kernel_rfl) (by decide) hpo (W_of_run h)

noncomputable def api_Errno_Error_pc : PC :=
  (.seq (.reg [⟨(some 2), none, 0, .see (.mov (.c (.r (.v (.string ⟨#[]⟩)))))⟩])
  (.seq (.reg [⟨(some 3), none, 0, .see (.mov (.t 0))⟩,
    ⟨(some 4), none, 1, .call 6 [(.t 3)]⟩,
    ⟨(some 5), none, 0, .see (.bin .add (.c (.r (.v (.string ⟨#[101, 114, 114, 111, 114, 32]⟩)))) (.t 4))⟩,
    ⟨(some 2), none, 0, .see (.mov (.t 5))⟩])
  .ret))
noncomputable abbrev api_Errno_Error_code : Code := (Go.Proofs.Tryd.f5.body).getD .skip
theorem api_Errno_Error_chk : chkC Go.Proofs.Tryd.prog 6 api_Errno_Error_code api_Errno_Error_pc = true := by kernel_rfl
theorem api_Errno_Error_triple {args : List AV} {po ro : List Ob} {res : AV} (hal : args.length = 1) (hpo : po.length ≤ 1000)
    (h : run Go.Proofs.Tryd.prog po.length (RetP po.length [(2, false, none)] fun v os => v = res ∧ os = ro) [.c api_Errno_Error_pc] ⟨argE 0 args, ob0 po⟩) : Triple Go.Proofs.Tryd.prog 5 args po res ro :=
  triple_of_W (fn := Go.Proofs.Tryd.f5) (c := api_Errno_Error_code) (pc := api_Errno_Error_pc) (rs := [(2, false, none)]) Go.Proofs.Tryd.func5 rfl (by decide) (by have := api_Errno_Error_chk; exact this) (by rw [hal]; decide) rfl (by kernel_rfl) (by kernel_rfl) (by decide) hpo (W_of_run h)

noncomputable def apiarylaw0_NamesNumbers_pc : PC :=
  (.seq (.reg [⟨(some 0), none, 0, .see (.mov (.c (.r (.v (.bool false)))))⟩])
  (.seq (.reg [⟨(some 3), none, 1, .call 4 []⟩,
    ⟨(some 1), none, 0, .see (.mov (.t 3))⟩])
  (.seq (.seq (.reg [⟨(some 2), none, 0, .see (.mov (.c (.r (.v (.int .i64 0)))))⟩])
  (.block 0 (.loop (.seq (.seq (.reg [⟨(some 4), none, 0, .see (.mov (.t 2))⟩,
    ⟨(some 5), none, 0, .see (.mov (.t 1))⟩,
    ⟨(some 6), none, 0, .see (.len false (.t 5))⟩,
    ⟨(some 7), none, 0, .see (.bin .lss (.t 4) (.t 6))⟩])
  (.cond (.t 7)
    .skip
    (.exit 0)))
  (.seq (.block 1 (.seq (.drw [⟨(some 10), none, 0, .see (.mov (.t 1))⟩,
    ⟨(some 11), none, 0, .see (.mov (.t 2))⟩,
    ⟨(some 12), none, 0, .see (.ia 2 (.agg [(.v (.int .i64 0)), (.v (.int .i64 0))]) (.t 10) (.t 11))⟩,
    ⟨(some 13), none, 0, .see (.fa 0 (.t 12))⟩,
    ⟨(some 14), none, 0, .see (.ld none (.t 13))⟩,
    ⟨(some 15), none, 0, .see (.mov (.t 1))⟩,
    ⟨(some 16), none, 0, .see (.mov (.t 2))⟩,
    ⟨(some 17), none, 0, .see (.ia 2 (.agg [(.v (.int .i64 0)), (.v (.int .i64 0))]) (.t 15) (.t 16))⟩,
    ⟨(some 18), none, 0, .see (.fa 1 (.t 17))⟩,
    ⟨(some 19), none, 0, .see (.ld none (.t 18))⟩,
    ⟨(some 20), none, 0, .see (.bin .neq (.t 14) (.t 19))⟩]
    [[], [], [0, 1], [0, 1, 2], [0, 1, 2, 3], [], [], [5, 6], [5, 6, 7], [5, 6, 7, 8], [0, 1, 2, 3, 4, 5, 6, 7, 8, 9]])
  (.cond (.t 20)
    (.seq (.reg [⟨(some 0), none, 0, .see (.mov (.c (.r (.v (.bool false)))))⟩])
    .ret)
    .skip)))
  (.reg [⟨(some 8), none, 0, .see (.mov (.t 2))⟩,
    ⟨(some 9), none, 0, .see (.bin .add (.t 8) (.c (.r (.v (.int .i64 1)))))⟩,
    ⟨(some 2), none, 0, .see (.mov (.t 9))⟩]))))))
  (.seq (.reg [⟨(some 21), none, 2, .call 5 [(.c (.r (.v (.int .i64 17))))]⟩,
    ⟨(some 22), none, 0, .see (.bin .eql (.t 21) (.c (.r (.v (.string ⟨#[101, 114, 114, 111, 114, 32, 49, 55]⟩)))))⟩,
    ⟨(some 23), none, 0, .see (.mov (.t 22))⟩,
    ⟨(some 24), (some (23, true)), 3, .call 5 [(.c (.r (.v (.int .i64 0))))]⟩,
    ⟨(some 25), (some (23, true)), 0, .see (.bin .eql (.t 24) (.c (.r (.v (.string ⟨#[101, 114, 114, 111, 114, 32, 48]⟩)))))⟩,
    ⟨(some 26), none, 0, .see (.pick (.t 23) (.t 25) (.c (.r (.v (.bool false)))))⟩,
    ⟨(some 0), none, 0, .see (.mov (.t 26))⟩])
  .ret))))
noncomputable abbrev apiarylaw0_NamesNumbers_code : Code := (Go.Proofs.Tryd.f3.body).getD .skip
theorem apiarylaw0_NamesNumbers_chk : chkC Go.Proofs.Tryd.prog 27 apiarylaw0_NamesNumbers_code apiarylaw0_NamesNumbers_pc = true := by kernel_rfl
theorem apiarylaw0_NamesNumbers_triple {args : List AV} {po ro : List Ob} {res : AV} (hal : args.length = 0) (hpo : po.length ≤ 1000)
    (h : run Go.Proofs.Tryd.prog po.length (RetP po.length [(0, false, none)] fun v os => v = res ∧ os = ro) [.c apiarylaw0_NamesNumbers_pc] ⟨argE 0 args, ob0 po⟩) : Triple Go.Proofs.Tryd.prog 3 args po res ro :=
  triple_of_W (fn := Go.Proofs.Tryd.f3) (c := apiarylaw0_NamesNumbers_code) (pc := apiarylaw0_NamesNumbers_pc) (rs := [(0, false, none)]) Go.Proofs.Tryd.func3 rfl (by decide) (by have := apiarylaw0_NamesNumbers_chk; exact this) (by rw [hal]; decide) rfl (by kernel_rfl) (by kernel_rfl) (by decide) hpo (W_of_run h)

theorem itoa_t (i : Nat) (hi : i < 100) : Triple Go.Proofs.Tryd.prog 6 [int .i64 i] [] (strv ⟨(Lib.decDigits i).toArray⟩) [] := by
  refine triple_of_calls (vs := [.int .i64 i]) (r := .v (.string ⟨(Lib.decDigits i).toArray⟩)) fun w hgl => ?_
  refine (Go.Proofs.Any.strconv_Itoa_small Go.Proofs.Tryd.lays171 i hi w).mono ?_
  rintro e w' ⟨rfl, rfl⟩
  exact ⟨_, rfl, Below.refl _ _, fun R => .v _⟩
set_option maxRecDepth 100000 in
theorem error_t (i : Nat) (hi : i < 100) : Triple Go.Proofs.Tryd.prog 5 [int .i64 i] [] (strv (⟨#[101, 114, 114, 111, 114, 32]⟩ ++ ⟨(Lib.decDigits i).toArray⟩)) [] := by
  refine api_Errno_Error_triple rfl (by decide) ?_
  simp only [api_Errno_Error_pc, List.length_nil, push_cast, ↓reduceIte, reduceCtorEq, Nat.reduceBEq, Nat.reduceEqDiff, Nat.reduceAdd, Nat.reduceSub, Nat.reduceLT, Nat.reduceLeDiff, Nat.reduceMul]
  refine call_mk (itoa_t i hi) rfl trivial ?_
  simp only [push_cast, ↓reduceIte, reduceCtorEq, Nat.reduceBEq, Nat.reduceEqDiff, Nat.reduceAdd, Nat.reduceSub, Nat.reduceLT, Nat.reduceLeDiff, Nat.reduceMul]
  have : (Lib.decDigits i).length ≤ 2 := by
    rw [Lib.decDigits_length]
    rcases Nat.lt_or_ge i 10 with h | h
    · rw [Lib.nDigits_small h]; omega
    · rw [Lib.nDigits_big (by omega), Lib.nDigits_small (by omega)]; omega
  have hs : (⟨(Lib.decDigits i).toArray⟩ : ByteArray).size ≤ 2 := by simpa [ByteArray.size] using this
  have hs2 : (⟨#[101, 114, 114, 111, 114, 32]⟩ : ByteArray).size = 6 := rfl
  omega
/-- The numbers of the document. -/
def nums : List Int := (List.range 18).map Int.ofNat ++ [1073741824, 20000, 2000, 500, 10000, 1, 2] ++ (List.range 16).map (fun k => Int.ofNat (k + 1)) ++ (List.range 11).map (fun k => Int.ofNat (k + 1))
def pr (n : Int) : RV := .agg [.v (.int .i64 n), .v (.int .i64 n)]
def rowN : Ob := .row 2 (.agg [.v (.int .i64 0), .v (.int .i64 0)]) true true (nums.map pr)
set_option maxRecDepth 100000 in
theorem all_t : Triple Go.Proofs.Tryd.prog 4 [] [] (.own 1000000 0 0 52) [rowN] := by
  refine apiarylaw0_all_triple rfl (by decide) ?_
  simp only [apiarylaw0_all_pc, List.length_nil, push_cast, ↓reduceIte, reduceCtorEq, Nat.reduceBEq, Nat.reduceEqDiff, Nat.reduceAdd, Nat.reduceSub, Nat.reduceLT, Nat.reduceLeDiff, Nat.reduceMul]
  exact ⟨by simp, rfl⟩
set_option maxRecDepth 100000 in
theorem names_t : Triple Go.Proofs.Tryd.prog 3 [] [] (bl true) [] := by
  refine apiarylaw0_NamesNumbers_triple rfl (by decide) ?_
  simp only [apiarylaw0_NamesNumbers_pc, List.length_nil, push_cast, ↓reduceIte, reduceCtorEq, Nat.reduceBEq, Nat.reduceEqDiff, Nat.reduceAdd, Nat.reduceSub, Nat.reduceLT, Nat.reduceLeDiff, Nat.reduceMul]
  refine call_mk all_t rfl trivial ?_
  simp only [rowN, push_cast, ↓reduceIte, reduceCtorEq, Nat.reduceBEq, Nat.reduceEqDiff, Nat.reduceAdd, Nat.reduceSub, Nat.reduceLT, Nat.reduceLeDiff, Nat.reduceMul]
  have hlen : nums.length = 52 := by decide
  refine run_loop [(0, false), (1, false), (2, false)] (fun vs pos los => ∃ (i : Int), 0 ≤ i ∧ i ≤ 52 ∧ vs = [bl false, .own 2000000 0 0 52, int .i64 i] ∧ pos = [] ∧ los = [rowN])
    (fun vs _ _ => match vs with | [_, _, .r (.v (.int _ j))] => (52 - j).toNat | _ => 0) rfl ?_ ?_
  · simp only [rowN, push_cast, ↓reduceIte, reduceCtorEq, Nat.reduceBEq, Nat.reduceEqDiff, Nat.reduceAdd, Nat.reduceSub, Nat.reduceLT, Nat.reduceLeDiff, Nat.reduceMul]
    exact ⟨0, by decide, by decide, rfl⟩
  · rintro vs pos los ⟨i, i0, i1, rfl, rfl, rfl⟩
    simp only [rowN, push_cast, ↓reduceIte, reduceCtorEq, Nat.reduceBEq, Nat.reduceEqDiff, Nat.reduceAdd, Nat.reduceSub, Nat.reduceLT, Nat.reduceLeDiff, Nat.reduceMul]
    refine cnd_mk (fun h => ?_) (fun h => ?_)
    · have h : i < 52 := by simpa using h
      have hn : i.toNat < nums.length := by omega
      have hg : (List.map pr nums).getD i.toNat (.agg [.v (.int .i64 0), .v (.int .i64 0)]) = pr (nums[i.toNat]) := by
        simp [List.getD, hn]
      simp only [hg, pr, bne_self_eq_false, show IntKind.i64.wrap (i + 1) = i + 1 from (by rw [IntKind.wrap_i64]; omega), Nat.zero_add, push_cast, ↓reduceIte, reduceCtorEq, Nat.reduceBEq, Nat.reduceEqDiff, Nat.reduceAdd, Nat.reduceSub, Nat.reduceLT, Nat.reduceLeDiff, Nat.reduceMul]
      exact ⟨⟨i0, h⟩, ⟨i0, h⟩, (by kernel_rfl), ⟨i + 1, by omega, by omega, rfl⟩, by omega⟩
    · simp only [push_cast, ↓reduceIte, reduceCtorEq, Nat.reduceBEq, Nat.reduceEqDiff, Nat.reduceAdd, Nat.reduceSub, Nat.reduceLT, Nat.reduceLeDiff, Nat.reduceMul]
      have e17 : (⟨#[101, 114, 114, 111, 114, 32]⟩ ++ ⟨(Lib.decDigits 17).toArray⟩ : ByteArray) = ⟨#[101, 114, 114, 111, 114, 32, 49, 55]⟩ := by
        rw [Lib.decDigits_two (by decide) (by decide)]; rfl
      have e0 : (⟨#[101, 114, 114, 111, 114, 32]⟩ ++ ⟨(Lib.decDigits 0).toArray⟩ : ByteArray) = ⟨#[101, 114, 114, 111, 114, 32, 48]⟩ := by
        rw [Lib.decDigits_one (by decide)]; rfl
      refine call_mk (error_t 17 (by decide)) rfl trivial ?_
      simp only [e17, push_cast, ↓reduceIte, reduceCtorEq, Nat.reduceBEq, Nat.reduceEqDiff, Nat.reduceAdd, Nat.reduceSub, Nat.reduceLT, Nat.reduceLeDiff, Nat.reduceMul]
      refine call_mk (error_t 0 (by decide)) rfl trivial ?_
      simp only [e0, push_cast, ↓reduceIte, reduceCtorEq, Nat.reduceBEq, Nat.reduceEqDiff, Nat.reduceAdd, Nat.reduceSub, Nat.reduceLT, Nat.reduceLeDiff, Nat.reduceMul]
end Go.Ev
