import Derived.Test.YtjpejkfhkbaakaaGeo5
namespace Go.Ev
open Go
set_option linter.unnecessarySimpa false
set_option linter.unusedSimpArgs false
set_option linter.unusedVariables false
noncomputable def plane_Width_pc : PC :=
  (.seq (.reg [⟨(some 2), none, 0, .see (.mov (.c (.r (.v (.int .i64 0)))))⟩,
    ⟨(some 3), none, 0, .see (.mov (.c (.r (.v (.bool false)))))⟩])
  (.seq (.seq (.reg [⟨(some 6), none, 0, .see (.mov (.t 0))⟩,
    ⟨(some 7), none, 1, .call 35 [(.t 6)]⟩,
    ⟨(some 8), none, 0, .see (.un .not (.t 7))⟩])
  (.cond (.t 8)
    (.seq (.reg [⟨(some 2), none, 0, .see (.mov (.c (.r (.v (.int .i64 0)))))⟩,
    ⟨(some 3), none, 0, .see (.mov (.c (.r (.v (.bool false)))))⟩])
    .ret)
    .skip))
  (.seq (.reg [⟨(some 10), none, 0, .see (.mov (.t 0))⟩,
    ⟨(some 11), none, 0, .see (.bin .sub (.c (.r (.v (.int .i64 12)))) (.t 10))⟩,
    ⟨(some 12), none, 2, .call 36 [(.c (.r (.v (.int .i64 7)))), (.t 11)]⟩,
    ⟨(some 9), none, 0, .see (.mov (.t 12))⟩,
    ⟨(some 13), none, 0, .see (.ext (.t 9) 0)⟩,
    ⟨(some 14), none, 0, .see (.ext (.t 9) 1)⟩,
    ⟨(some 4), none, 0, .see (.mov (.t 13))⟩,
    ⟨(some 5), none, 0, .see (.mov (.t 14))⟩])
  (.seq (.reg [⟨(some 15), none, 0, .see (.mov (.t 4))⟩,
    ⟨(some 16), none, 0, .see (.bin .mul (.c (.r (.v (.int .i64 169)))) (.t 15))⟩,
    ⟨(some 2), none, 0, .see (.mov (.t 16))⟩,
    ⟨(some 3), none, 0, .see (.mov (.c (.r (.v (.bool true)))))⟩])
  .ret))))
noncomputable abbrev plane_Width_code : Code := (Go.Proofs.Try.f15.body).getD .skip
theorem plane_Width_chk : chkC Go.Proofs.Try.prog 17 plane_Width_code plane_Width_pc = true := by kernel_rfl
theorem plane_Width_triple {args : List AV} {po ro : List Ob} {res : AV} (hal : args.length = 1) (hpo : po.length ≤ 1000)
    (h : run Go.Proofs.Try.prog po.length (RetP po.length [(2, false, none), (3, false, none)] fun v os => v = res ∧ os = ro) [.c plane_Width_pc] ⟨argE 0 args, ob0 po⟩) : Triple Go.Proofs.Try.prog 15 args po res ro :=
  triple_of_W (fn := Go.Proofs.Try.f15) (c := plane_Width_code) (pc := plane_Width_pc) (rs := [(2, false, none), (3, false, none)]) Go.Proofs.Try.func15 rfl (by decide) (by have := plane_Width_chk; exact this) (by rw [hal]; decide) rfl (by kernel_rfl) (by kernel_rfl) (by decide) hpo (W_of_run h)

noncomputable def apiaryref1_Seven_pc : PC :=
  (.seq (.reg [⟨(some 2), none, 0, .see (.mov (.c (.r (.v (.int .i64 0)))))⟩])
  (.seq (.reg [⟨(some 6), none, 0, .see (.mov (.t 0))⟩,
    ⟨(some 7), none, 1, .call 43 [(.c (.r (.v (.int .i64 7)))), (.t 6)]⟩,
    ⟨(some 5), none, 0, .see (.mov (.t 7))⟩,
    ⟨(some 8), none, 0, .see (.ext (.t 5) 0)⟩,
    ⟨(some 9), none, 0, .see (.ext (.t 5) 1)⟩,
    ⟨(some 3), none, 0, .see (.mov (.t 8))⟩,
    ⟨(some 4), none, 0, .see (.mov (.t 9))⟩])
  (.seq (.reg [⟨(some 10), none, 0, .see (.mov (.t 3))⟩,
    ⟨(some 2), none, 0, .see (.mov (.t 10))⟩])
  .ret)))
noncomputable abbrev apiaryref1_Seven_code : Code := (Go.Proofs.Try.f24.body).getD .skip
theorem apiaryref1_Seven_chk : chkC Go.Proofs.Try.prog 11 apiaryref1_Seven_code apiaryref1_Seven_pc = true := by kernel_rfl
theorem apiaryref1_Seven_triple {args : List AV} {po ro : List Ob} {res : AV} (hal : args.length = 1) (hpo : po.length ≤ 1000)
    (h : run Go.Proofs.Try.prog po.length (RetP po.length [(2, false, none)] fun v os => v = res ∧ os = ro) [.c apiaryref1_Seven_pc] ⟨argE 0 args, ob0 po⟩) : Triple Go.Proofs.Try.prog 24 args po res ro :=
  triple_of_W (fn := Go.Proofs.Try.f24) (c := apiaryref1_Seven_code) (pc := apiaryref1_Seven_pc) (rs := [(2, false, none)]) Go.Proofs.Try.func24 rfl (by decide) (by have := apiaryref1_Seven_chk; exact this) (by rw [hal]; decide) rfl (by kernel_rfl) (by kernel_rfl) (by decide) hpo (W_of_run h)

noncomputable def apiaryref9_shift_pc : PC :=
  (.seq (.reg [⟨(some 2), none, 0, .see (.mov (.c (.r (.v (.int .i64 0)))))⟩])
  (.seq (.reg [⟨(some 3), none, 0, .see (.mov (.t 0))⟩,
    ⟨(some 4), none, 0, .see (.bin .shl (.c (.r (.v (.int .i64 1)))) (.t 3))⟩,
    ⟨(some 2), none, 0, .see (.mov (.t 4))⟩])
  .ret))
noncomputable abbrev apiaryref9_shift_code : Code := (Go.Proofs.Try.f25.body).getD .skip
theorem apiaryref9_shift_chk : chkC Go.Proofs.Try.prog 5 apiaryref9_shift_code apiaryref9_shift_pc = true := by kernel_rfl
theorem apiaryref9_shift_triple {args : List AV} {po ro : List Ob} {res : AV} (hal : args.length = 1) (hpo : po.length ≤ 1000)
    (h : run Go.Proofs.Try.prog po.length (RetP po.length [(2, false, none)] fun v os => v = res ∧ os = ro) [.c apiaryref9_shift_pc] ⟨argE 0 args, ob0 po⟩) : Triple Go.Proofs.Try.prog 25 args po res ro :=
  triple_of_W (fn := Go.Proofs.Try.f25) (c := apiaryref9_shift_code) (pc := apiaryref9_shift_pc) (rs := [(2, false, none)]) Go.Proofs.Try.func25 rfl (by decide) (by have := apiaryref9_shift_chk; exact this) (by rw [hal]; decide) rfl (by kernel_rfl) (by kernel_rfl) (by decide) hpo (W_of_run h)

noncomputable def apiaryref9_tile_pc : PC :=
  (.seq (.reg [⟨(some 1), none, 0, .act (.box (.t 0))⟩,
    ⟨(some 2), none, 0, .see (.mov (.c (.r (.v (.bool false)))))⟩])
  (.seq (.drw [⟨(some 3), none, 0, .see (.fa 0 (.t 1))⟩,
    ⟨(some 4), none, 0, .see (.ld none (.t 3))⟩,
    ⟨(some 5), none, 0, .see (.bin .geq (.t 4) (.c (.r (.v (.int .i64 0)))))⟩,
    ⟨(some 6), none, 0, .see (.mov (.t 5))⟩,
    ⟨(some 7), (some (6, true)), 0, .see (.fa 0 (.t 1))⟩,
    ⟨(some 8), (some (6, true)), 0, .see (.ld none (.t 7))⟩,
    ⟨(some 9), (some (6, true)), 0, .see (.bin .leq (.t 8) (.c (.r (.v (.int .i64 18)))))⟩,
    ⟨(some 10), none, 0, .see (.pick (.t 6) (.t 9) (.c (.r (.v (.bool false)))))⟩,
    ⟨(some 11), none, 0, .see (.mov (.t 10))⟩,
    ⟨(some 12), (some (11, true)), 0, .see (.fa 1 (.t 1))⟩,
    ⟨(some 13), (some (11, true)), 0, .see (.ld none (.t 12))⟩,
    ⟨(some 14), (some (11, true)), 0, .see (.bin .geq (.t 13) (.c (.r (.v (.int .i64 0)))))⟩,
    ⟨(some 15), none, 0, .see (.pick (.t 11) (.t 14) (.c (.r (.v (.bool false)))))⟩,
    ⟨(some 16), none, 0, .see (.mov (.t 15))⟩,
    ⟨(some 17), (some (16, true)), 0, .see (.fa 1 (.t 1))⟩,
    ⟨(some 18), (some (16, true)), 0, .see (.ld none (.t 17))⟩,
    ⟨(some 19), (some (16, true)), 0, .see (.fa 0 (.t 1))⟩,
    ⟨(some 20), (some (16, true)), 0, .see (.ld none (.t 19))⟩,
    ⟨(some 21), (some (16, true)), 1, .call 25 [(.t 20)]⟩,
    ⟨(some 22), (some (16, true)), 0, .see (.bin .lss (.t 18) (.t 21))⟩,
    ⟨(some 23), none, 0, .see (.pick (.t 16) (.t 22) (.c (.r (.v (.bool false)))))⟩,
    ⟨(some 24), none, 0, .see (.mov (.t 23))⟩,
    ⟨(some 25), (some (24, true)), 0, .see (.fa 2 (.t 1))⟩,
    ⟨(some 26), (some (24, true)), 0, .see (.ld none (.t 25))⟩,
    ⟨(some 27), (some (24, true)), 0, .see (.bin .geq (.t 26) (.c (.r (.v (.int .i64 0)))))⟩,
    ⟨(some 28), none, 0, .see (.pick (.t 24) (.t 27) (.c (.r (.v (.bool false)))))⟩,
    ⟨(some 29), none, 0, .see (.mov (.t 28))⟩,
    ⟨(some 30), (some (29, true)), 0, .see (.fa 2 (.t 1))⟩,
    ⟨(some 31), (some (29, true)), 0, .see (.ld none (.t 30))⟩,
    ⟨(some 32), (some (29, true)), 0, .see (.fa 0 (.t 1))⟩,
    ⟨(some 33), (some (29, true)), 0, .see (.ld none (.t 32))⟩,
    ⟨(some 34), (some (29, true)), 2, .call 25 [(.t 33)]⟩,
    ⟨(some 35), (some (29, true)), 0, .see (.bin .lss (.t 31) (.t 34))⟩,
    ⟨(some 36), none, 0, .see (.pick (.t 29) (.t 35) (.c (.r (.v (.bool false)))))⟩,
    ⟨(some 37), none, 0, .see (.mov (.t 36))⟩,
    ⟨(some 38), (some (37, true)), 0, .see (.fa 3 (.t 1))⟩,
    ⟨(some 39), (some (37, true)), 0, .see (.ld none (.t 38))⟩,
    ⟨(some 40), (some (37, true)), 0, .see (.bin .geq (.t 39) (.c (.r (.v (.int .i64 0)))))⟩,
    ⟨(some 41), none, 0, .see (.pick (.t 37) (.t 40) (.c (.r (.v (.bool false)))))⟩,
    ⟨(some 42), none, 0, .see (.mov (.t 41))⟩,
    ⟨(some 43), (some (42, true)), 0, .see (.fa 3 (.t 1))⟩,
    ⟨(some 44), (some (42, true)), 0, .see (.ld none (.t 43))⟩,
    ⟨(some 45), (some (42, true)), 0, .see (.bin .leq (.t 44) (.c (.r (.v (.int .i64 12)))))⟩,
    ⟨(some 46), none, 0, .see (.pick (.t 42) (.t 45) (.c (.r (.v (.bool false)))))⟩,
    ⟨(some 2), none, 0, .see (.mov (.t 46))⟩]
    [[], [0], [0, 1], [0, 1, 2], [0, 1, 2, 3], [0, 1, 2, 3, 4], [0, 1, 2, 3, 4, 5], [0, 1, 2, 3, 4, 5, 6], [0, 1, 2, 3, 4, 5, 6, 7], [0, 1, 2, 3, 4, 5, 6, 7, 8], [0, 1, 2, 3, 4, 5, 6, 7, 8, 9], [0, 1, 2, 3, 4, 5, 6, 7, 8, 9, 10], [0, 1, 2, 3, 4, 5, 6, 7, 8, 9, 10, 11], [0, 1, 2, 3, 4, 5, 6, 7, 8, 9, 10, 11, 12], [0, 1, 2, 3, 4, 5, 6, 7, 8, 9, 10, 11, 12, 13], [0, 1, 2, 3, 4, 5, 6, 7, 8, 9, 10, 11, 12, 13, 14], [0, 1, 2, 3, 4, 5, 6, 7, 8, 9, 10, 11, 12, 13], [0, 1, 2, 3, 4, 5, 6, 7, 8, 9, 10, 11, 12, 13, 16], [0, 1, 2, 3, 4, 5, 6, 7, 8, 9, 10, 11, 12, 13, 16, 17], [0, 1, 2, 3, 4, 5, 6, 7, 8, 9, 10, 11, 12, 13, 14, 15, 16, 17, 18], [0, 1, 2, 3, 4, 5, 6, 7, 8, 9, 10, 11, 12, 13, 14, 15, 16, 17, 18, 19], [0, 1, 2, 3, 4, 5, 6, 7, 8, 9, 10, 11, 12, 13, 14, 15, 16, 17, 18, 19, 20], [0, 1, 2, 3, 4, 5, 6, 7, 8, 9, 10, 11, 12, 13, 14, 15, 16, 17, 18, 19, 20, 21], [0, 1, 2, 3, 4, 5, 6, 7, 8, 9, 10, 11, 12, 13, 14, 15, 16, 17, 18, 19, 20, 21, 22], [0, 1, 2, 3, 4, 5, 6, 7, 8, 9, 10, 11, 12, 13, 14, 15, 16, 17, 18, 19, 20, 21, 22, 23], [0, 1, 2, 3, 4, 5, 6, 7, 8, 9, 10, 11, 12, 13, 14, 15, 16, 17, 18, 19, 20, 21, 22, 23, 24], [0, 1, 2, 3, 4, 5, 6, 7, 8, 9, 10, 11, 12, 13, 14, 15, 16, 17, 18, 19, 20, 21, 22, 23, 24, 25], [0, 1, 2, 3, 4, 5, 6, 7, 8, 9, 10, 11, 12, 13, 14, 15, 16, 17, 18, 19, 20, 21, 22, 23, 24, 25, 26], [0, 1, 2, 3, 4, 5, 6, 7, 8, 9, 10, 11, 12, 13, 14, 15, 16, 17, 18, 19, 20, 21, 22, 23, 24, 25, 26, 27], [0, 1, 2, 3, 4, 5, 6, 7, 8, 9, 10, 11, 12, 13, 14, 15, 16, 17, 18, 19, 20, 21, 22, 23, 24, 25, 26], [0, 1, 2, 3, 4, 5, 6, 7, 8, 9, 10, 11, 12, 13, 14, 15, 16, 17, 18, 19, 20, 21, 22, 23, 24, 25, 26, 29], [0, 1, 2, 3, 4, 5, 6, 7, 8, 9, 10, 11, 12, 13, 14, 15, 16, 17, 18, 19, 20, 21, 22, 23, 24, 25, 26, 29, 30], [0, 1, 2, 3, 4, 5, 6, 7, 8, 9, 10, 11, 12, 13, 14, 15, 16, 17, 18, 19, 20, 21, 22, 23, 24, 25, 26, 27, 28, 29, 30, 31], [0, 1, 2, 3, 4, 5, 6, 7, 8, 9, 10, 11, 12, 13, 14, 15, 16, 17, 18, 19, 20, 21, 22, 23, 24, 25, 26, 27, 28, 29, 30, 31, 32], [0, 1, 2, 3, 4, 5, 6, 7, 8, 9, 10, 11, 12, 13, 14, 15, 16, 17, 18, 19, 20, 21, 22, 23, 24, 25, 26, 27, 28, 29, 30, 31, 32, 33], [0, 1, 2, 3, 4, 5, 6, 7, 8, 9, 10, 11, 12, 13, 14, 15, 16, 17, 18, 19, 20, 21, 22, 23, 24, 25, 26, 27, 28, 29, 30, 31, 32, 33, 34], [0, 1, 2, 3, 4, 5, 6, 7, 8, 9, 10, 11, 12, 13, 14, 15, 16, 17, 18, 19, 20, 21, 22, 23, 24, 25, 26, 27, 28, 29, 30, 31, 32, 33, 34, 35], [0, 1, 2, 3, 4, 5, 6, 7, 8, 9, 10, 11, 12, 13, 14, 15, 16, 17, 18, 19, 20, 21, 22, 23, 24, 25, 26, 27, 28, 29, 30, 31, 32, 33, 34, 35, 36], [0, 1, 2, 3, 4, 5, 6, 7, 8, 9, 10, 11, 12, 13, 14, 15, 16, 17, 18, 19, 20, 21, 22, 23, 24, 25, 26, 27, 28, 29, 30, 31, 32, 33, 34, 35, 36, 37], [0, 1, 2, 3, 4, 5, 6, 7, 8, 9, 10, 11, 12, 13, 14, 15, 16, 17, 18, 19, 20, 21, 22, 23, 24, 25, 26, 27, 28, 29, 30, 31, 32, 33, 34, 35, 36, 37, 38], [0, 1, 2, 3, 4, 5, 6, 7, 8, 9, 10, 11, 12, 13, 14, 15, 16, 17, 18, 19, 20, 21, 22, 23, 24, 25, 26, 27, 28, 29, 30, 31, 32, 33, 34, 35, 36, 37, 38, 39], [0, 1, 2, 3, 4, 5, 6, 7, 8, 9, 10, 11, 12, 13, 14, 15, 16, 17, 18, 19, 20, 21, 22, 23, 24, 25, 26, 27, 28, 29, 30, 31, 32, 33, 34, 35, 36, 37, 38, 39, 40], [0, 1, 2, 3, 4, 5, 6, 7, 8, 9, 10, 11, 12, 13, 14, 15, 16, 17, 18, 19, 20, 21, 22, 23, 24, 25, 26, 27, 28, 29, 30, 31, 32, 33, 34, 35, 36, 37, 38, 39, 40, 41], [0, 1, 2, 3, 4, 5, 6, 7, 8, 9, 10, 11, 12, 13, 14, 15, 16, 17, 18, 19, 20, 21, 22, 23, 24, 25, 26, 27, 28, 29, 30, 31, 32, 33, 34, 35, 36, 37, 38, 39, 40, 41, 42], [0, 1, 2, 3, 4, 5, 6, 7, 8, 9, 10, 11, 12, 13, 14, 15, 16, 17, 18, 19, 20, 21, 22, 23, 24, 25, 26, 27, 28, 29, 30, 31, 32, 33, 34, 35, 36, 37, 38, 39, 40, 41, 42, 43]])
  .ret))
noncomputable abbrev apiaryref9_tile_code : Code := (Go.Proofs.Try.f23.body).getD .skip
theorem apiaryref9_tile_chk : chkC Go.Proofs.Try.prog 47 apiaryref9_tile_code apiaryref9_tile_pc = true := by kernel_rfl
theorem apiaryref9_tile_triple {args : List AV} {po ro : List Ob} {res : AV} (hal : args.length = 1) (hpo : po.length ≤ 1000)
    (h : run Go.Proofs.Try.prog po.length (RetP po.length [(2, false, none)] fun v os => v = res ∧ os = ro) [.c apiaryref9_tile_pc] ⟨argE 0 args, ob0 po⟩) : Triple Go.Proofs.Try.prog 23 args po res ro :=
  triple_of_W (fn := Go.Proofs.Try.f23) (c := apiaryref9_tile_code) (pc := apiaryref9_tile_pc) (rs := [(2, false, none)]) Go.Proofs.Try.func23 rfl (by decide) (by have := apiaryref9_tile_chk; exact this) (by rw [hal]; decide) rfl (by kernel_rfl) (by kernel_rfl) (by decide) hpo (W_of_run h)

noncomputable def apiaryref9_Fine_pc : PC :=
  (.seq (.reg [⟨(some 1), none, 0, .act (.box (.t 0))⟩,
    ⟨(some 2), none, 0, .see (.mov (.c (.r (.v (.bool false)))))⟩])
  (.seq (.drw [⟨(some 3), none, 0, .see (.ld (some 4) (.t 1))⟩,
    ⟨(some 4), none, 1, .call 23 [(.t 3)]⟩,
    ⟨(some 5), none, 0, .see (.mov (.t 4))⟩,
    ⟨(some 6), (some (5, true)), 0, .see (.fa 3 (.t 1))⟩,
    ⟨(some 7), (some (5, true)), 0, .see (.ld none (.t 6))⟩,
    ⟨(some 8), (some (5, true)), 0, .see (.bin .sub (.c (.r (.v (.int .i64 12)))) (.t 7))⟩,
    ⟨(some 9), (some (5, true)), 2, .call 24 [(.t 8)]⟩,
    ⟨(some 10), (some (5, true)), 0, .see (.bin .mul (.c (.r (.v (.int .i64 169)))) (.t 9))⟩,
    ⟨(some 11), (some (5, true)), 0, .see (.fa 0 (.t 1))⟩,
    ⟨(some 12), (some (5, true)), 0, .see (.ld none (.t 11))⟩,
    ⟨(some 13), (some (5, true)), 0, .see (.bin .sub (.c (.r (.v (.int .i64 18)))) (.t 12))⟩,
    ⟨(some 14), (some (5, true)), 0, .see (.bin .mul (.c (.r (.v (.int .i64 2)))) (.t 13))⟩,
    ⟨(some 15), (some (5, true)), 3, .call 25 [(.t 14)]⟩,
    ⟨(some 16), (some (5, true)), 0, .see (.bin .mul (.c (.r (.v (.int .i64 16)))) (.t 15))⟩,
    ⟨(some 17), (some (5, true)), 0, .see (.bin .lss (.t 10) (.t 16))⟩,
    ⟨(some 18), none, 0, .see (.pick (.t 5) (.t 17) (.c (.r (.v (.bool false)))))⟩,
    ⟨(some 2), none, 0, .see (.mov (.t 18))⟩]
    [[], [0], [0, 1], [0, 1, 2], [0, 1, 2, 3], [0, 1, 2, 3, 4], [0, 1, 2, 3, 4, 5], [0, 1, 2, 3, 4, 5, 6], [0, 1, 2], [0, 1, 2, 8], [0, 1, 2, 8, 9], [0, 1, 2, 8, 9, 10], [0, 1, 2, 3, 4, 5, 6, 8, 9, 10, 11], [0, 1, 2, 3, 4, 5, 6, 8, 9, 10, 11, 12], [0, 1, 2, 3, 4, 5, 6, 7, 8, 9, 10, 11, 12, 13], [0, 1, 2, 3, 4, 5, 6, 7, 8, 9, 10, 11, 12, 13, 14], [0, 1, 2, 3, 4, 5, 6, 7, 8, 9, 10, 11, 12, 13, 14, 15]])
  .ret))
noncomputable abbrev apiaryref9_Fine_code : Code := (Go.Proofs.Try.f10.body).getD .skip
theorem apiaryref9_Fine_chk : chkC Go.Proofs.Try.prog 19 apiaryref9_Fine_code apiaryref9_Fine_pc = true := by kernel_rfl
theorem apiaryref9_Fine_triple {args : List AV} {po ro : List Ob} {res : AV} (hal : args.length = 1) (hpo : po.length ≤ 1000)
    (h : run Go.Proofs.Try.prog po.length (RetP po.length [(2, false, none)] fun v os => v = res ∧ os = ro) [.c apiaryref9_Fine_pc] ⟨argE 0 args, ob0 po⟩) : Triple Go.Proofs.Try.prog 10 args po res ro :=
  triple_of_W (fn := Go.Proofs.Try.f10) (c := apiaryref9_Fine_code) (pc := apiaryref9_Fine_pc) (rs := [(2, false, none)]) Go.Proofs.Try.func10 rfl (by decide) (by have := apiaryref9_Fine_chk; exact this) (by rw [hal]; decide) rfl (by kernel_rfl) (by kernel_rfl) (by decide) hpo (W_of_run h)

noncomputable def view_is_pc : PC :=
  (.seq (.reg [⟨(some 1), none, 0, .act (.box (.t 0))⟩,
    ⟨(some 2), none, 0, .see (.mov (.c (.r (.v (.bool false)))))⟩])
  (.seq (.seq (.reg [⟨(some 4), none, 0, .see (.fa 0 (.t 1))⟩,
    ⟨(some 5), none, 0, .see (.ld none (.t 4))⟩,
    ⟨(some 6), none, 0, .see (.bin .lss (.t 5) (.c (.r (.v (.int .i64 0)))))⟩,
    ⟨(some 7), none, 0, .see (.mov (.t 6))⟩,
    ⟨(some 8), (some (7, false)), 0, .see (.fa 0 (.t 1))⟩,
    ⟨(some 9), (some (7, false)), 0, .see (.ld none (.t 8))⟩,
    ⟨(some 10), (some (7, false)), 0, .see (.bin .gtr (.t 9) (.c (.r (.v (.int .i64 18)))))⟩,
    ⟨(some 11), none, 0, .see (.pick (.t 7) (.c (.r (.v (.bool true)))) (.t 10))⟩,
    ⟨(some 12), none, 0, .see (.mov (.t 11))⟩,
    ⟨(some 13), (some (12, false)), 0, .see (.fa 3 (.t 1))⟩,
    ⟨(some 14), (some (12, false)), 0, .see (.ld none (.t 13))⟩,
    ⟨(some 15), (some (12, false)), 0, .see (.bin .lss (.t 14) (.c (.r (.v (.int .i64 0)))))⟩,
    ⟨(some 16), none, 0, .see (.pick (.t 12) (.c (.r (.v (.bool true)))) (.t 15))⟩,
    ⟨(some 17), none, 0, .see (.mov (.t 16))⟩,
    ⟨(some 18), (some (17, false)), 0, .see (.fa 3 (.t 1))⟩,
    ⟨(some 19), (some (17, false)), 0, .see (.ld none (.t 18))⟩,
    ⟨(some 20), (some (17, false)), 0, .see (.bin .gtr (.t 19) (.c (.r (.v (.int .i64 12)))))⟩,
    ⟨(some 21), none, 0, .see (.pick (.t 17) (.c (.r (.v (.bool true)))) (.t 20))⟩])
  (.cond (.t 21)
    (.seq (.reg [⟨(some 2), none, 0, .see (.mov (.c (.r (.v (.bool false)))))⟩])
    .ret)
    .skip))
  (.seq (.reg [⟨(some 22), none, 0, .see (.fa 0 (.t 1))⟩,
    ⟨(some 23), none, 0, .see (.ld none (.t 22))⟩,
    ⟨(some 24), none, 0, .see (.conv .u64 (.t 23))⟩,
    ⟨(some 25), none, 0, .see (.bin .shl (.c (.r (.v (.int .i64 1)))) (.t 24))⟩,
    ⟨(some 3), none, 0, .see (.mov (.t 25))⟩])
  (.seq (.reg [⟨(some 26), none, 0, .see (.fa 1 (.t 1))⟩,
    ⟨(some 27), none, 0, .see (.ld none (.t 26))⟩,
    ⟨(some 28), none, 0, .see (.bin .geq (.t 27) (.c (.r (.v (.int .i64 0)))))⟩,
    ⟨(some 29), none, 0, .see (.mov (.t 28))⟩,
    ⟨(some 30), (some (29, true)), 0, .see (.fa 1 (.t 1))⟩,
    ⟨(some 31), (some (29, true)), 0, .see (.ld none (.t 30))⟩,
    ⟨(some 32), (some (29, true)), 0, .see (.mov (.t 3))⟩,
    ⟨(some 33), (some (29, true)), 0, .see (.bin .lss (.t 31) (.t 32))⟩,
    ⟨(some 34), none, 0, .see (.pick (.t 29) (.t 33) (.c (.r (.v (.bool false)))))⟩,
    ⟨(some 35), none, 0, .see (.mov (.t 34))⟩,
    ⟨(some 36), (some (35, true)), 0, .see (.fa 2 (.t 1))⟩,
    ⟨(some 37), (some (35, true)), 0, .see (.ld none (.t 36))⟩,
    ⟨(some 38), (some (35, true)), 0, .see (.bin .geq (.t 37) (.c (.r (.v (.int .i64 0)))))⟩,
    ⟨(some 39), none, 0, .see (.pick (.t 35) (.t 38) (.c (.r (.v (.bool false)))))⟩,
    ⟨(some 40), none, 0, .see (.mov (.t 39))⟩,
    ⟨(some 41), (some (40, true)), 0, .see (.fa 2 (.t 1))⟩,
    ⟨(some 42), (some (40, true)), 0, .see (.ld none (.t 41))⟩,
    ⟨(some 43), (some (40, true)), 0, .see (.mov (.t 3))⟩,
    ⟨(some 44), (some (40, true)), 0, .see (.bin .lss (.t 42) (.t 43))⟩,
    ⟨(some 45), none, 0, .see (.pick (.t 40) (.t 44) (.c (.r (.v (.bool false)))))⟩,
    ⟨(some 2), none, 0, .see (.mov (.t 45))⟩])
  .ret))))
noncomputable abbrev view_is_code : Code := (Go.Proofs.Try.f16.body).getD .skip
theorem view_is_chk : chkC Go.Proofs.Try.prog 46 view_is_code view_is_pc = true := by kernel_rfl
theorem view_is_triple {args : List AV} {po ro : List Ob} {res : AV} (hal : args.length = 1) (hpo : po.length ≤ 1000)
    (h : run Go.Proofs.Try.prog po.length (RetP po.length [(2, false, none)] fun v os => v = res ∧ os = ro) [.c view_is_pc] ⟨argE 0 args, ob0 po⟩) : Triple Go.Proofs.Try.prog 16 args po res ro :=
  triple_of_W (fn := Go.Proofs.Try.f16) (c := view_is_code) (pc := view_is_pc) (rs := [(2, false, none)]) Go.Proofs.Try.func16 rfl (by decide) (by have := view_is_chk; exact this) (by rw [hal]; decide) rfl (by kernel_rfl) (by kernel_rfl) (by decide) hpo (W_of_run h)

noncomputable def view_unit_pc : PC :=
  (.seq (.reg [⟨(some 1), none, 0, .act (.box (.t 0))⟩,
    ⟨(some 2), none, 0, .see (.mov (.c (.r (.v (.int .i64 0)))))⟩])
  (.seq (.reg [⟨(some 3), none, 0, .see (.fa 0 (.t 1))⟩,
    ⟨(some 4), none, 0, .see (.ld none (.t 3))⟩,
    ⟨(some 5), none, 0, .see (.bin .sub (.c (.r (.v (.int .i64 18)))) (.t 4))⟩,
    ⟨(some 6), none, 0, .see (.conv .u64 (.t 5))⟩,
    ⟨(some 7), none, 0, .see (.bin .shl (.c (.r (.v (.int .i64 1)))) (.t 6))⟩,
    ⟨(some 2), none, 0, .see (.mov (.t 7))⟩])
  .ret))
noncomputable abbrev view_unit_code : Code := (Go.Proofs.Try.f17.body).getD .skip
theorem view_unit_chk : chkC Go.Proofs.Try.prog 8 view_unit_code view_unit_pc = true := by kernel_rfl
theorem view_unit_triple {args : List AV} {po ro : List Ob} {res : AV} (hal : args.length = 1) (hpo : po.length ≤ 1000)
    (h : run Go.Proofs.Try.prog po.length (RetP po.length [(2, false, none)] fun v os => v = res ∧ os = ro) [.c view_unit_pc] ⟨argE 0 args, ob0 po⟩) : Triple Go.Proofs.Try.prog 17 args po res ro :=
  triple_of_W (fn := Go.Proofs.Try.f17) (c := view_unit_code) (pc := view_unit_pc) (rs := [(2, false, none)]) Go.Proofs.Try.func17 rfl (by decide) (by have := view_unit_chk; exact this) (by rw [hal]; decide) rfl (by kernel_rfl) (by kernel_rfl) (by decide) hpo (W_of_run h)

noncomputable def view_Fine_pc : PC :=
  (.seq (.reg [⟨(some 1), none, 0, .act (.box (.t 0))⟩,
    ⟨(some 2), none, 0, .see (.mov (.c (.r (.v (.bool false)))))⟩])
  (.seq (.reg [⟨(some 6), none, 0, .see (.fa 3 (.t 1))⟩,
    ⟨(some 7), none, 0, .see (.ld none (.t 6))⟩,
    ⟨(some 8), none, 1, .call 15 [(.t 7)]⟩,
    ⟨(some 5), none, 0, .see (.mov (.t 8))⟩,
    ⟨(some 9), none, 0, .see (.ext (.t 5) 0)⟩,
    ⟨(some 10), none, 0, .see (.ext (.t 5) 1)⟩,
    ⟨(some 3), none, 0, .see (.mov (.t 9))⟩,
    ⟨(some 4), none, 0, .see (.mov (.t 10))⟩])
  (.seq (.drw [⟨(some 11), none, 0, .see (.ld (some 4) (.t 1))⟩,
    ⟨(some 12), none, 2, .call 16 [(.t 11)]⟩,
    ⟨(some 13), none, 0, .see (.mov (.t 12))⟩,
    ⟨(some 14), (some (13, true)), 0, .see (.mov (.t 3))⟩,
    ⟨(some 15), (some (13, true)), 0, .see (.ld (some 4) (.t 1))⟩,
    ⟨(some 16), (some (13, true)), 3, .call 17 [(.t 15)]⟩,
    ⟨(some 17), (some (13, true)), 0, .see (.bin .mul (.c (.r (.v (.int .i64 16)))) (.t 16))⟩,
    ⟨(some 18), (some (13, true)), 0, .see (.ld (some 4) (.t 1))⟩,
    ⟨(some 19), (some (13, true)), 4, .call 17 [(.t 18)]⟩,
    ⟨(some 20), (some (13, true)), 0, .see (.bin .mul (.t 17) (.t 19))⟩,
    ⟨(some 21), (some (13, true)), 0, .see (.bin .lss (.t 14) (.t 20))⟩,
    ⟨(some 22), none, 0, .see (.pick (.t 13) (.t 21) (.c (.r (.v (.bool false)))))⟩,
    ⟨(some 2), none, 0, .see (.mov (.t 22))⟩]
    [[], [0], [0, 1], [0, 1, 2], [0, 1, 2], [0, 1, 2, 4], [0, 1, 2, 4, 5], [0, 1, 2], [0, 1, 2, 4, 5, 7], [0, 1, 2, 4, 5, 6, 7, 8], [0, 1, 2, 3, 4, 5, 6, 7, 8, 9], [0, 1, 2, 3, 4, 5, 6, 7, 8, 9, 10], [0, 1, 2, 3, 4, 5, 6, 7, 8, 9, 10, 11]])
  .ret)))
noncomputable abbrev view_Fine_code : Code := (Go.Proofs.Try.f6.body).getD .skip
theorem view_Fine_chk : chkC Go.Proofs.Try.prog 23 view_Fine_code view_Fine_pc = true := by kernel_rfl
theorem view_Fine_triple {args : List AV} {po ro : List Ob} {res : AV} (hal : args.length = 1) (hpo : po.length ≤ 1000)
    (h : run Go.Proofs.Try.prog po.length (RetP po.length [(2, false, none)] fun v os => v = res ∧ os = ro) [.c view_Fine_pc] ⟨argE 0 args, ob0 po⟩) : Triple Go.Proofs.Try.prog 6 args po res ro :=
  triple_of_W (fn := Go.Proofs.Try.f6) (c := view_Fine_code) (pc := view_Fine_pc) (rs := [(2, false, none)]) Go.Proofs.Try.func6 rfl (by decide) (by have := view_Fine_chk; exact this) (by rw [hal]; decide) rfl (by kernel_rfl) (by kernel_rfl) (by decide) hpo (W_of_run h)

noncomputable def view_Ok_pc : PC :=
  (.seq (.reg [⟨(some 1), none, 0, .act (.box (.t 0))⟩,
    ⟨(some 2), none, 0, .see (.mov (.c (.r (.v (.int .i64 0)))))⟩])
  (.seq (.block 0 (.seq (.reg [⟨(some 4), none, 0, .see (.ld (some 4) (.t 1))⟩,
    ⟨(some 5), none, 1, .call 16 [(.t 4)]⟩,
    ⟨(some 6), none, 0, .see (.un .not (.t 5))⟩,
    ⟨(some 3), none, 0, .see (.mov (.t 6))⟩])
  (.cond (.t 3)
    (.seq (.reg [⟨(some 2), none, 0, .see (.mov (.c (.r (.v (.int .i64 1)))))⟩])
    .ret)
    (.seq (.reg [⟨(some 8), none, 0, .see (.ld (some 4) (.t 1))⟩,
    ⟨(some 9), none, 2, .call 6 [(.t 8)]⟩,
    ⟨(some 7), none, 0, .see (.mov (.t 9))⟩])
    (.cond (.t 7)
      (.seq (.reg [⟨(some 2), none, 0, .see (.mov (.c (.r (.v (.int .i64 14)))))⟩])
      .ret)
      .skip)))))
  (.seq (.reg [⟨(some 2), none, 0, .see (.mov (.c (.r (.v (.int .i64 0)))))⟩])
  .ret)))
noncomputable abbrev view_Ok_code : Code := (Go.Proofs.Try.f7.body).getD .skip
theorem view_Ok_chk : chkC Go.Proofs.Try.prog 10 view_Ok_code view_Ok_pc = true := by kernel_rfl
theorem view_Ok_triple {args : List AV} {po ro : List Ob} {res : AV} (hal : args.length = 1) (hpo : po.length ≤ 1000)
    (h : run Go.Proofs.Try.prog po.length (RetP po.length [(2, false, none)] fun v os => v = res ∧ os = ro) [.c view_Ok_pc] ⟨argE 0 args, ob0 po⟩) : Triple Go.Proofs.Try.prog 7 args po res ro :=
  triple_of_W (fn := Go.Proofs.Try.f7) (c := view_Ok_code) (pc := view_Ok_pc) (rs := [(2, false, none)]) Go.Proofs.Try.func7 rfl (by decide) (by have := view_Ok_chk; exact this) (by rw [hal]; decide) rfl (by kernel_rfl) (by kernel_rfl) (by decide) hpo (W_of_run h)

noncomputable def view_Origin_pc : PC :=
  (.seq (.reg [⟨(some 1), none, 0, .act (.box (.t 0))⟩,
    ⟨(some 2), none, 0, .see (.mov (.c (.r (.v (.int .i64 0)))))⟩,
    ⟨(some 3), none, 0, .see (.mov (.c (.r (.v (.int .i64 0)))))⟩,
    ⟨(some 4), none, 0, .see (.mov (.c (.r (.v (.int .i64 0)))))⟩])
  (.seq (.seq (.reg [⟨(some 5), none, 0, .see (.ld (some 4) (.t 1))⟩,
    ⟨(some 6), none, 1, .call 16 [(.t 5)]⟩,
    ⟨(some 7), none, 0, .see (.un .not (.t 6))⟩])
  (.cond (.t 7)
    (.seq (.reg [⟨(some 2), none, 0, .see (.mov (.c (.r (.v (.int .i64 0)))))⟩,
    ⟨(some 3), none, 0, .see (.mov (.c (.r (.v (.int .i64 0)))))⟩,
    ⟨(some 4), none, 0, .see (.mov (.c (.r (.v (.int .i64 0)))))⟩])
    .ret)
    .skip))
  (.seq (.reg [⟨(some 8), none, 0, .see (.fa 0 (.t 1))⟩,
    ⟨(some 9), none, 0, .see (.ld none (.t 8))⟩,
    ⟨(some 10), none, 0, .see (.bin .sub (.c (.r (.v (.int .i64 30)))) (.t 9))⟩,
    ⟨(some 11), none, 0, .see (.conv .u64 (.t 10))⟩,
    ⟨(some 12), none, 0, .see (.bin .shl (.c (.r (.v (.int .i64 1)))) (.t 11))⟩,
    ⟨(some 4), none, 0, .see (.mov (.t 12))⟩])
  (.seq (.drw [⟨(some 13), none, 0, .see (.fa 1 (.t 1))⟩,
    ⟨(some 14), none, 0, .see (.ld none (.t 13))⟩,
    ⟨(some 15), none, 0, .see (.mov (.t 4))⟩,
    ⟨(some 16), none, 0, .see (.bin .mul (.t 14) (.t 15))⟩,
    ⟨(some 17), none, 0, .see (.fa 2 (.t 1))⟩,
    ⟨(some 18), none, 0, .see (.ld none (.t 17))⟩,
    ⟨(some 19), none, 0, .see (.mov (.t 4))⟩,
    ⟨(some 20), none, 0, .see (.bin .mul (.t 18) (.t 19))⟩,
    ⟨(some 21), none, 0, .see (.mov (.t 4))⟩,
    ⟨(some 2), none, 0, .see (.mov (.t 16))⟩,
    ⟨(some 3), none, 0, .see (.mov (.t 20))⟩,
    ⟨(some 4), none, 0, .see (.mov (.t 21))⟩]
    [[], [0], [], [0, 1, 2], [], [4], [], [4, 5, 6], [], [0, 1, 2, 3], [0, 1, 2, 3, 4, 5, 6, 7, 9], [0, 1, 2, 3, 4, 5, 6, 7, 8, 9, 10]])
  .ret))))
noncomputable abbrev view_Origin_code : Code := (Go.Proofs.Try.f18.body).getD .skip
theorem view_Origin_chk : chkC Go.Proofs.Try.prog 22 view_Origin_code view_Origin_pc = true := by kernel_rfl
theorem view_Origin_triple {args : List AV} {po ro : List Ob} {res : AV} (hal : args.length = 1) (hpo : po.length ≤ 1000)
    (h : run Go.Proofs.Try.prog po.length (RetP po.length [(2, false, none), (3, false, none), (4, false, none)] fun v os => v = res ∧ os = ro) [.c view_Origin_pc] ⟨argE 0 args, ob0 po⟩) : Triple Go.Proofs.Try.prog 18 args po res ro :=
  triple_of_W (fn := Go.Proofs.Try.f18) (c := view_Origin_code) (pc := view_Origin_pc) (rs := [(2, false, none), (3, false, none), (4, false, none)]) Go.Proofs.Try.func18 rfl (by decide) (by have := view_Origin_chk; exact this) (by rw [hal]; decide) rfl (by kernel_rfl) (by kernel_rfl) (by decide) hpo (W_of_run h)

noncomputable def apiarylaw22_awake_pc : PC :=
  (.seq (.reg [⟨(some 0), none, 0, .see (.mov (.c (.r (.v (.bool false)))))⟩])
  (.seq (.reg [⟨(some 5), none, 0, .see (.build [(.r (.v (.int .i64 0))), (.r (.v (.int .i64 0))), (.r (.v (.int .i64 0))), (.r (.v (.int .i64 0)))] [(0, 1, (.c (.r (.v (.int .i64 1))))), (1, 1, (.c (.r (.v (.int .i64 1)))))])⟩,
    ⟨(some 6), none, 1, .call 18 [(.t 5)]⟩,
    ⟨(some 4), none, 0, .see (.mov (.t 6))⟩,
    ⟨(some 7), none, 0, .see (.ext (.t 4) 0)⟩,
    ⟨(some 8), none, 0, .see (.ext (.t 4) 1)⟩,
    ⟨(some 9), none, 0, .see (.ext (.t 4) 2)⟩,
    ⟨(some 1), none, 0, .see (.mov (.t 7))⟩,
    ⟨(some 2), none, 0, .see (.mov (.t 8))⟩,
    ⟨(some 3), none, 0, .see (.mov (.t 9))⟩])
  (.seq (.reg [⟨(some 10), none, 0, .see (.mov (.t 1))⟩,
    ⟨(some 11), none, 0, .see (.bin .eql (.t 10) (.c (.r (.v (.int .i64 536870912)))))⟩,
    ⟨(some 12), none, 0, .see (.mov (.t 11))⟩,
    ⟨(some 13), (some (12, true)), 0, .see (.mov (.t 2))⟩,
    ⟨(some 14), (some (12, true)), 0, .see (.bin .eql (.t 13) (.c (.r (.v (.int .i64 0)))))⟩,
    ⟨(some 15), none, 0, .see (.pick (.t 12) (.t 14) (.c (.r (.v (.bool false)))))⟩,
    ⟨(some 16), none, 0, .see (.mov (.t 15))⟩,
    ⟨(some 17), (some (16, true)), 0, .see (.mov (.t 3))⟩,
    ⟨(some 18), (some (16, true)), 0, .see (.bin .eql (.t 17) (.c (.r (.v (.int .i64 536870912)))))⟩,
    ⟨(some 19), none, 0, .see (.pick (.t 16) (.t 18) (.c (.r (.v (.bool false)))))⟩,
    ⟨(some 20), none, 0, .see (.mov (.t 19))⟩,
    ⟨(some 21), (some (20, true)), 0, .see (.build [(.r (.v (.int .i64 0))), (.r (.v (.int .i64 0))), (.r (.v (.int .i64 0))), (.r (.v (.int .i64 0)))] [])⟩,
    ⟨(some 22), (some (20, true)), 2, .call 7 [(.t 21)]⟩,
    ⟨(some 23), (some (20, true)), 0, .see (.bin .eql (.t 22) (.c (.r (.v (.int .i64 0)))))⟩,
    ⟨(some 24), none, 0, .see (.pick (.t 20) (.t 23) (.c (.r (.v (.bool false)))))⟩,
    ⟨(some 25), none, 0, .see (.mov (.t 24))⟩,
    ⟨(some 26), (some (25, true)), 0, .see (.build [(.r (.v (.int .i64 0))), (.r (.v (.int .i64 0))), (.r (.v (.int .i64 0))), (.r (.v (.int .i64 0)))] [(3, 1, (.c (.r (.v (.int .i64 12)))))])⟩,
    ⟨(some 27), (some (25, true)), 3, .call 7 [(.t 26)]⟩,
    ⟨(some 28), (some (25, true)), 0, .see (.bin .eql (.t 27) (.c (.r (.v (.int .i64 14)))))⟩,
    ⟨(some 29), none, 0, .see (.pick (.t 25) (.t 28) (.c (.r (.v (.bool false)))))⟩,
    ⟨(some 30), none, 0, .see (.mov (.t 29))⟩,
    ⟨(some 31), (some (30, true)), 0, .see (.build [(.r (.v (.int .i64 0))), (.r (.v (.int .i64 0))), (.r (.v (.int .i64 0))), (.r (.v (.int .i64 0)))] [(3, 1, (.c (.r (.v (.int .i64 12)))))])⟩,
    ⟨(some 32), (some (30, true)), 4, .call 6 [(.t 31)]⟩,
    ⟨(some 33), none, 0, .see (.pick (.t 30) (.t 32) (.c (.r (.v (.bool false)))))⟩,
    ⟨(some 34), none, 0, .see (.mov (.t 33))⟩,
    ⟨(some 35), (some (34, true)), 0, .see (.build [(.r (.v (.int .i64 0))), (.r (.v (.int .i64 0))), (.r (.v (.int .i64 0))), (.r (.v (.int .i64 0)))] [(0, 1, (.c (.r (.v (.int .i64 18))))), (3, 1, (.c (.r (.v (.int .i64 12)))))])⟩,
    ⟨(some 36), (some (34, true)), 5, .call 6 [(.t 35)]⟩,
    ⟨(some 37), (some (34, true)), 0, .see (.un .not (.t 36))⟩,
    ⟨(some 38), none, 0, .see (.pick (.t 34) (.t 37) (.c (.r (.v (.bool false)))))⟩,
    ⟨(some 0), none, 0, .see (.mov (.t 38))⟩])
  .ret)))
noncomputable abbrev apiarylaw22_awake_code : Code := (Go.Proofs.Try.f8.body).getD .skip
theorem apiarylaw22_awake_chk : chkC Go.Proofs.Try.prog 39 apiarylaw22_awake_code apiarylaw22_awake_pc = true := by kernel_rfl
theorem apiarylaw22_awake_triple {args : List AV} {po ro : List Ob} {res : AV} (hal : args.length = 0) (hpo : po.length ≤ 1000)
    (h : run Go.Proofs.Try.prog po.length (RetP po.length [(0, false, none)] fun v os => v = res ∧ os = ro) [.c apiarylaw22_awake_pc] ⟨argE 0 args, ob0 po⟩) : Triple Go.Proofs.Try.prog 8 args po res ro :=
  triple_of_W (fn := Go.Proofs.Try.f8) (c := apiarylaw22_awake_code) (pc := apiarylaw22_awake_pc) (rs := [(0, false, none)]) Go.Proofs.Try.func8 rfl (by decide) (by have := apiarylaw22_awake_chk; exact this) (by rw [hal]; decide) rfl (by kernel_rfl) (by kernel_rfl) (by decide) hpo (W_of_run h)

noncomputable def apiarylaw22_Tile_pc : PC :=
  (.seq (.reg [⟨(some 8), none, 0, .act (.new [(.r (.v (.int .i64 0))), (.r (.v (.int .i64 0))), (.r (.v (.int .i64 0))), (.r (.v (.int .i64 0)))])⟩])
  (.seq (.reg [⟨(some 9), none, 0, .see (.mov (.t 2))⟩,
    ⟨(some 10), none, 0, .see (.bin .rem (.t 9) (.c (.r (.v (.int .i64 19)))))⟩,
    ⟨(some 11), none, 0, .see (.bin .add (.t 10) (.c (.r (.v (.int .i64 19)))))⟩,
    ⟨(some 12), none, 0, .see (.bin .rem (.t 11) (.c (.r (.v (.int .i64 19)))))⟩,
    ⟨(some 13), none, 0, .see (.mov (.t 3))⟩,
    ⟨(some 14), none, 0, .see (.bin .rem (.t 13) (.c (.r (.v (.int .i64 13)))))⟩,
    ⟨(some 15), none, 0, .see (.bin .add (.t 14) (.c (.r (.v (.int .i64 13)))))⟩,
    ⟨(some 16), none, 0, .see (.bin .rem (.t 15) (.c (.r (.v (.int .i64 13)))))⟩,
    ⟨(some 2), none, 0, .see (.mov (.t 12))⟩,
    ⟨(some 3), none, 0, .see (.mov (.t 16))⟩])
  (.seq (.block 0 (.loop (.seq (.seq (.reg [⟨(some 17), none, 0, .see (.mov (.t 3))⟩,
    ⟨(some 18), none, 0, .see (.bin .gtr (.t 17) (.c (.r (.v (.int .i64 0)))))⟩,
    ⟨(some 19), none, 0, .see (.mov (.t 18))⟩,
    ⟨(some 20), (some (19, true)), 0, .see (.mov (.t 2))⟩,
    ⟨(some 21), (some (19, true)), 0, .see (.mov (.t 3))⟩,
    ⟨(some 22), (some (19, true)), 0, .see (.build [(.r (.v (.int .i64 0))), (.r (.v (.int .i64 0))), (.r (.v (.int .i64 0))), (.r (.v (.int .i64 0)))] [(0, 1, (.t 20)), (3, 1, (.t 21))])⟩,
    ⟨(some 23), (some (19, true)), 1, .call 10 [(.t 22)]⟩,
    ⟨(some 24), none, 0, .see (.pick (.t 19) (.t 23) (.c (.r (.v (.bool false)))))⟩])
  (.cond (.t 24)
    .skip
    (.exit 0)))
  (.block 1 (.reg [⟨(some 25), none, 0, .see (.mov (.t 3))⟩,
    ⟨(some 26), none, 0, .see (.bin .sub (.t 25) (.c (.r (.v (.int .i64 1)))))⟩,
    ⟨(some 3), none, 0, .see (.mov (.t 26))⟩])))))
  (.seq (.reg [⟨(some 27), none, 0, .see (.mov (.t 0))⟩,
    ⟨(some 28), none, 0, .see (.bin .and (.t 27) (.c (.r (.v (.int .i64 1073741823)))))⟩,
    ⟨(some 29), none, 0, .see (.mov (.t 1))⟩,
    ⟨(some 30), none, 0, .see (.bin .and (.t 29) (.c (.r (.v (.int .i64 1073741823)))))⟩,
    ⟨(some 0), none, 0, .see (.mov (.t 28))⟩,
    ⟨(some 1), none, 0, .see (.mov (.t 30))⟩])
  (.seq (.drw [⟨(some 31), none, 0, .see (.mov (.t 2))⟩,
    ⟨(some 32), none, 0, .see (.mov (.t 0))⟩,
    ⟨(some 33), none, 0, .see (.mov (.t 2))⟩,
    ⟨(some 34), none, 0, .see (.bin .sub (.c (.r (.v (.int .i64 30)))) (.t 33))⟩,
    ⟨(some 35), none, 0, .see (.bin .shr (.t 32) (.t 34))⟩,
    ⟨(some 36), none, 0, .see (.mov (.t 1))⟩,
    ⟨(some 37), none, 0, .see (.mov (.t 2))⟩,
    ⟨(some 38), none, 0, .see (.bin .sub (.c (.r (.v (.int .i64 30)))) (.t 37))⟩,
    ⟨(some 39), none, 0, .see (.bin .shr (.t 36) (.t 38))⟩,
    ⟨(some 40), none, 0, .see (.mov (.t 3))⟩,
    ⟨(some 41), none, 0, .see (.build [(.r (.v (.int .i64 0))), (.r (.v (.int .i64 0))), (.r (.v (.int .i64 0))), (.r (.v (.int .i64 0)))] [(0, 1, (.t 31)), (1, 1, (.t 35)), (2, 1, (.t 39)), (3, 1, (.t 40))])⟩,
    ⟨none, none, 0, .act (.st 4 (.t 8) (.t 41))⟩]
    [[], [], [], [2], [1, 2, 3], [], [], [6], [5, 6, 7], [], [0, 1, 2, 3, 4, 5, 6, 7, 8, 9], [0, 1, 2, 3, 4, 5, 6, 7, 8, 9, 10]])
  .ret)))))
noncomputable abbrev apiarylaw22_Tile_code : Code := (Go.Proofs.Try.f5.body).getD .skip
theorem apiarylaw22_Tile_chk : chkC Go.Proofs.Try.prog 42 apiarylaw22_Tile_code apiarylaw22_Tile_pc = true := by kernel_rfl
theorem apiarylaw22_Tile_triple {args : List AV} {po ro : List Ob} {res : AV} (hal : args.length = 4) (hpo : po.length ≤ 1000)
    (h : run Go.Proofs.Try.prog po.length (RetP po.length [(8, false, some (23, (some 4)))] fun v os => v = res ∧ os = ro) [.c apiarylaw22_Tile_pc] ⟨argE 0 args, ob0 po⟩) : Triple Go.Proofs.Try.prog 5 args po res ro :=
  triple_of_W (fn := Go.Proofs.Try.f5) (c := apiarylaw22_Tile_code) (pc := apiarylaw22_Tile_pc) (rs := [(8, false, some (23, (some 4)))]) Go.Proofs.Try.func5 rfl (by decide) (by have := apiarylaw22_Tile_chk; exact this) (by rw [hal]; decide) rfl (by kernel_rfl) (by kernel_rfl) (by decide) hpo (W_of_run h)

noncomputable def apiarylaw22_ViewFine_pc : PC :=
  (.seq (.reg [⟨(some 8), none, 0, .see (.mov (.c (.r (.v (.bool false)))))⟩])
  (.seq (.reg [⟨(some 13), none, 0, .see (.mov (.t 0))⟩,
    ⟨(some 14), none, 0, .see (.mov (.t 1))⟩,
    ⟨(some 15), none, 0, .see (.mov (.t 2))⟩,
    ⟨(some 16), none, 0, .see (.mov (.t 3))⟩,
    ⟨(some 17), none, 1, .call 5 [(.t 13), (.t 14), (.t 15), (.t 16)]⟩,
    ⟨(some 9), none, 0, .act (.new [(.r (.v (.int .i64 0))), (.r (.v (.int .i64 0))), (.r (.v (.int .i64 0))), (.r (.v (.int .i64 0)))])⟩,
    ⟨none, none, 0, .act (.st 4 (.t 9) (.t 17))⟩])
  (.seq (.reg [⟨(some 18), none, 0, .see (.ld (some 4) (.t 9))⟩,
    ⟨(some 10), none, 0, .act (.new [(.r (.v (.int .i64 0))), (.r (.v (.int .i64 0))), (.r (.v (.int .i64 0))), (.r (.v (.int .i64 0)))])⟩,
    ⟨none, none, 0, .act (.st 4 (.t 10) (.t 18))⟩])
  (.seq (.reg [⟨(some 19), none, 0, .see (.fa 3 (.t 9))⟩,
    ⟨(some 20), none, 0, .see (.ld none (.t 19))⟩,
    ⟨(some 21), none, 0, .see (.bin .sub (.t 20) (.c (.r (.v (.int .i64 1)))))⟩,
    ⟨(some 22), none, 0, .see (.mm true (.t 21) [(.c (.r (.v (.int .i64 0))))])⟩,
    ⟨(some 23), none, 0, .see (.fa 3 (.t 10))⟩,
    ⟨none, none, 0, .act (.st 1 (.t 23) (.t 22))⟩])
  (.seq (.reg [⟨(some 24), none, 0, .see (.ld (some 4) (.t 9))⟩,
    ⟨(some 11), none, 0, .act (.new [(.r (.v (.int .i64 0))), (.r (.v (.int .i64 0))), (.r (.v (.int .i64 0))), (.r (.v (.int .i64 0)))])⟩,
    ⟨none, none, 0, .act (.st 4 (.t 11) (.t 24))⟩])
  (.seq (.seq (.reg [⟨(some 25), none, 0, .see (.fa 0 (.t 9))⟩,
    ⟨(some 26), none, 0, .see (.ld none (.t 25))⟩,
    ⟨(some 27), none, 0, .see (.bin .lss (.t 26) (.c (.r (.v (.int .i64 18)))))⟩])
  (.cond (.t 27)
    (.drw [⟨(some 28), none, 0, .see (.fa 0 (.t 9))⟩,
    ⟨(some 29), none, 0, .see (.ld none (.t 28))⟩,
    ⟨(some 30), none, 0, .see (.bin .add (.t 29) (.c (.r (.v (.int .i64 1)))))⟩,
    ⟨(some 31), none, 0, .see (.fa 1 (.t 9))⟩,
    ⟨(some 32), none, 0, .see (.ld none (.t 31))⟩,
    ⟨(some 33), none, 0, .see (.bin .mul (.c (.r (.v (.int .i64 2)))) (.t 32))⟩,
    ⟨(some 34), none, 0, .see (.fa 2 (.t 9))⟩,
    ⟨(some 35), none, 0, .see (.ld none (.t 34))⟩,
    ⟨(some 36), none, 0, .see (.bin .mul (.c (.r (.v (.int .i64 2)))) (.t 35))⟩,
    ⟨(some 37), none, 0, .see (.fa 0 (.t 11))⟩,
    ⟨none, none, 0, .act (.st 1 (.t 37) (.t 30))⟩,
    ⟨(some 38), none, 0, .see (.fa 1 (.t 11))⟩,
    ⟨none, none, 0, .act (.st 1 (.t 38) (.t 33))⟩,
    ⟨(some 39), none, 0, .see (.fa 2 (.t 11))⟩,
    ⟨none, none, 0, .act (.st 1 (.t 39) (.t 36))⟩]
    [[], [0], [0, 1], [], [3], [3, 4], [], [6], [6, 7], [0, 1, 2], [0, 1, 2, 9], [0, 1, 2, 3, 4, 5, 9, 10], [0, 1, 2, 3, 4, 5, 9, 10, 11], [0, 1, 2, 3, 4, 5, 6, 7, 8, 9, 10, 11, 12], [0, 1, 2, 3, 4, 5, 6, 7, 8, 9, 10, 11, 12, 13]])
    .skip))
  (.seq (.reg [⟨(some 40), none, 0, .see (.ld (some 4) (.t 9))⟩,
    ⟨(some 12), none, 0, .act (.new [(.r (.v (.int .i64 0))), (.r (.v (.int .i64 0))), (.r (.v (.int .i64 0))), (.r (.v (.int .i64 0)))])⟩,
    ⟨none, none, 0, .act (.st 4 (.t 12) (.t 40))⟩])
  (.seq (.reg [⟨(some 41), none, 0, .see (.fa 1 (.t 12))⟩,
    ⟨none, none, 0, .act (.st 1 (.t 41) (.c (.r (.v (.int .i64 (-1))))))⟩])
  (.seq (.reg [⟨(some 42), none, 0, .see (.ld (some 4) (.t 9))⟩,
    ⟨(some 43), none, 2, .call 6 [(.t 42)]⟩,
    ⟨(some 44), none, 0, .see (.mov (.t 43))⟩,
    ⟨(some 45), (some (44, false)), 0, .see (.ld (some 4) (.t 10))⟩,
    ⟨(some 46), (some (44, false)), 3, .call 6 [(.t 45)]⟩,
    ⟨(some 47), (some (44, false)), 0, .see (.un .not (.t 46))⟩,
    ⟨(some 48), (some (44, false)), 0, .see (.mov (.t 47))⟩,
    ⟨(some 49), (some (48, true)), 0, .see (.ld (some 4) (.t 11))⟩,
    ⟨(some 50), (some (48, true)), 4, .call 6 [(.t 49)]⟩,
    ⟨(some 51), (some (48, true)), 0, .see (.un .not (.t 50))⟩,
    ⟨(some 52), (some (44, false)), 0, .see (.pick (.t 48) (.t 51) (.c (.r (.v (.bool false)))))⟩,
    ⟨(some 53), none, 0, .see (.pick (.t 44) (.c (.r (.v (.bool true)))) (.t 52))⟩,
    ⟨(some 54), none, 0, .see (.mov (.t 53))⟩,
    ⟨(some 55), (some (54, true)), 0, .see (.ld (some 4) (.t 12))⟩,
    ⟨(some 56), (some (54, true)), 5, .call 6 [(.t 55)]⟩,
    ⟨(some 57), (some (54, true)), 0, .see (.un .not (.t 56))⟩,
    ⟨(some 58), none, 0, .see (.pick (.t 54) (.t 57) (.c (.r (.v (.bool false)))))⟩,
    ⟨(some 59), none, 0, .see (.mov (.t 58))⟩,
    ⟨(some 60), (some (59, true)), 0, .see (.ld (some 4) (.t 12))⟩,
    ⟨(some 61), (some (59, true)), 6, .call 7 [(.t 60)]⟩,
    ⟨(some 62), (some (59, true)), 0, .see (.bin .eql (.t 61) (.c (.r (.v (.int .i64 1)))))⟩,
    ⟨(some 63), none, 0, .see (.pick (.t 59) (.t 62) (.c (.r (.v (.bool false)))))⟩,
    ⟨(some 64), none, 0, .see (.mov (.t 63))⟩,
    ⟨(some 65), (some (64, true)), 7, .call 8 []⟩,
    ⟨(some 66), none, 0, .see (.pick (.t 64) (.t 65) (.c (.r (.v (.bool false)))))⟩,
    ⟨(some 8), none, 0, .see (.mov (.t 66))⟩])
  .ret)))))))))
noncomputable abbrev apiarylaw22_ViewFine_code : Code := (Go.Proofs.Try.f3.body).getD .skip
theorem apiarylaw22_ViewFine_chk : chkC Go.Proofs.Try.prog 67 apiarylaw22_ViewFine_code apiarylaw22_ViewFine_pc = true := by kernel_rfl
theorem apiarylaw22_ViewFine_triple {args : List AV} {po ro : List Ob} {res : AV} (hal : args.length = 4) (hpo : po.length ≤ 1000)
    (h : run Go.Proofs.Try.prog po.length (RetP po.length [(8, false, none)] fun v os => v = res ∧ os = ro) [.c apiarylaw22_ViewFine_pc] ⟨argE 0 args, ob0 po⟩) : Triple Go.Proofs.Try.prog 3 args po res ro :=
  triple_of_W (fn := Go.Proofs.Try.f3) (c := apiarylaw22_ViewFine_code) (pc := apiarylaw22_ViewFine_pc) (rs := [(8, false, none)]) Go.Proofs.Try.func3 rfl (by decide) (by have := apiarylaw22_ViewFine_chk; exact this) (by rw [hal]; decide) rfl (by kernel_rfl) (by kernel_rfl) (by decide) hpo (W_of_run h)

structure Til where
  z : Int
  x : Int
  y : Int
  r : Int
def Til.v (t : Til) : AV := .r (.agg [.v (.int .i64 t.z), .v (.int .i64 t.x), .v (.int .i64 t.y), .v (.int .i64 t.r)])
def Til.ok (t : Til) : Prop := in64 t.z ∧ in64 t.x ∧ in64 t.y ∧ in64 t.r
def tis (t : Til) : Bool := decide (0 ≤ t.z ∧ t.z ≤ 18 ∧ 0 ≤ t.r ∧ t.r ≤ 12 ∧ 0 ≤ t.x ∧ t.x < 2 ^ t.z.toNat ∧ 0 ≤ t.y ∧ t.y < 2 ^ t.z.toNat)
set_option maxRecDepth 100000 in
theorem is_t (t : Til) : Triple Go.Proofs.Try.prog 16 [t.v] [] (bl (tis t)) [] := by
  refine view_is_triple rfl (by decide) ?_
  simp only [view_is_pc, Til.v, List.length_nil, push_cast, ↓reduceIte, reduceCtorEq, Nat.reduceBEq, Nat.reduceEqDiff, Nat.reduceAdd, Nat.reduceSub, Nat.reduceLT, Nat.reduceLeDiff, Nat.reduceMul]
  repeat refine And.intro (by simp +contextual) ?_
  refine cnd_mk (fun h => ?_) (fun h => ?_)
  · simp only [push_cast, ↓reduceIte, reduceCtorEq, Nat.reduceBEq, Nat.reduceEqDiff, Nat.reduceAdd, Nat.reduceSub, Nat.reduceLT, Nat.reduceLeDiff, Nat.reduceMul]
    refine bl_iff ?_
    simp [tis] at h ⊢
    omega
  · have hz : 0 ≤ t.z ∧ t.z ≤ 18 ∧ 0 ≤ t.r ∧ t.r ≤ 12 := by simp at h; omega
    simp only [push_cast, ↓reduceIte, reduceCtorEq, Nat.reduceBEq, Nat.reduceEqDiff, Nat.reduceAdd, Nat.reduceSub, Nat.reduceLT, Nat.reduceLeDiff, Nat.reduceMul]
    refine And.intro ?_ ?_
    · rw [IntKind.wrap_u64]; omega
    rw [shl1 _ hz.1 (by omega)]
    repeat refine And.intro (by simp +contextual) ?_
    refine bl_iff ?_
    simp [tis]
    omega
set_option maxRecDepth 100000 in
theorem unit_t (t : Til) (h0 : 0 ≤ t.z) (h1 : t.z ≤ 18) : Triple Go.Proofs.Try.prog 17 [t.v] [] (int .i64 (2 ^ (18 - t.z).toNat)) [] := by
  refine view_unit_triple rfl (by decide) ?_
  simp only [view_unit_pc, Til.v, List.length_nil, push_cast, ↓reduceIte, reduceCtorEq, Nat.reduceBEq, Nat.reduceEqDiff, Nat.reduceAdd, Nat.reduceSub, Nat.reduceLT, Nat.reduceLeDiff, Nat.reduceMul]
  rw [show IntKind.i64.wrap (18 - t.z) = 18 - t.z from wrap_id (by omega)]
  refine And.intro ?_ ?_
  · rw [IntKind.wrap_u64]; omega
  · rw [shl1 _ (by omega) (by omega)]
def rok (r : Int) : Bool := decide (0 ≤ r ∧ r ≤ 12)
set_option maxRecDepth 100000 in
theorem width_t (r : Int) (hr : in64 r) : Triple Go.Proofs.Try.prog 15 [int .i64 r] [] (.tup [int .i64 (if rok r then 169 * 7 ^ (12 - r).toNat else 0), bl (rok r)]) [] := by
  refine plane_Width_triple rfl (by decide) ?_
  simp only [plane_Width_pc, List.length_nil, push_cast, ↓reduceIte, reduceCtorEq, Nat.reduceBEq, Nat.reduceEqDiff, Nat.reduceAdd, Nat.reduceSub, Nat.reduceLT, Nat.reduceLeDiff, Nat.reduceMul]
  refine call_mk (isRes_t r) rfl trivial ?_
  simp only [push_cast, ↓reduceIte, reduceCtorEq, Nat.reduceBEq, Nat.reduceEqDiff, Nat.reduceAdd, Nat.reduceSub, Nat.reduceLT, Nat.reduceLeDiff, Nat.reduceMul]
  refine cnd_mk (fun h => ?_) (fun h => ?_)
  · simp only [push_cast, ↓reduceIte, reduceCtorEq, Nat.reduceBEq, Nat.reduceEqDiff, Nat.reduceAdd, Nat.reduceSub, Nat.reduceLT, Nat.reduceLeDiff, Nat.reduceMul]
    have : rok r = false := by simp [rok] at h ⊢; omega
    simp [this]
  · have h : rok r = true := by simpa [rok] using h
    have h' : 0 ≤ r ∧ r ≤ 12 := by simpa [rok] using h
    simp only [push_cast, ↓reduceIte, reduceCtorEq, Nat.reduceBEq, Nat.reduceEqDiff, Nat.reduceAdd, Nat.reduceSub, Nat.reduceLT, Nat.reduceLeDiff, Nat.reduceMul]
    rw [show IntKind.i64.wrap (12 - r) = 12 - r from wrap_id (by omega)]
    have hp := p7 (12 - r).toNat (by omega)
    have ht := pow_t 7 (12 - r) (by decide) (by unfold in64; omega)
    rw [if_neg (show ¬ 12 - r < 0 by omega)] at ht
    refine call_mk ht rfl trivial ?_
    simp only [sm, if_pos (show in64 (7 ^ (12 - r).toNat) by unfold in64; omega), push_cast, ↓reduceIte, reduceCtorEq, Nat.reduceBEq, Nat.reduceEqDiff, Nat.reduceAdd, Nat.reduceSub, Nat.reduceLT, Nat.reduceLeDiff, Nat.reduceMul]
    rw [wrap_id (by omega)]
    simp [h]
set_option maxRecDepth 100000 in
theorem seven_t (k : Int) (h0 : 0 ≤ k) (h1 : k ≤ 12) : Triple Go.Proofs.Try.prog 24 [int .i64 k] [] (int .i64 (7 ^ k.toNat)) [] := by
  refine apiaryref1_Seven_triple rfl (by decide) ?_
  simp only [apiaryref1_Seven_pc, List.length_nil, push_cast, ↓reduceIte, reduceCtorEq, Nat.reduceBEq, Nat.reduceEqDiff, Nat.reduceAdd, Nat.reduceSub, Nat.reduceLT, Nat.reduceLeDiff, Nat.reduceMul]
  have hp := p7 k.toNat (by omega)
  have ht := rpow_t 7 k (by decide) (by unfold in64; omega)
  rw [if_neg (show ¬ k < 0 by omega)] at ht
  refine call_mk ht rfl trivial ?_
  simp only [sm, if_pos (show in64 (7 ^ k.toNat) by unfold in64; omega), push_cast, ↓reduceIte, reduceCtorEq, Nat.reduceBEq, Nat.reduceEqDiff, Nat.reduceAdd, Nat.reduceSub, Nat.reduceLT, Nat.reduceLeDiff, Nat.reduceMul]
set_option maxRecDepth 100000 in
theorem shift_t (k : Int) (h0 : 0 ≤ k) (h1 : k ≤ 36) : Triple Go.Proofs.Try.prog 25 [int .i64 k] [] (int .i64 (2 ^ k.toNat)) [] := by
  refine apiaryref9_shift_triple rfl (by decide) ?_
  simp only [apiaryref9_shift_pc, List.length_nil, push_cast, ↓reduceIte, reduceCtorEq, Nat.reduceBEq, Nat.reduceEqDiff, Nat.reduceAdd, Nat.reduceSub, Nat.reduceLT, Nat.reduceLeDiff, Nat.reduceMul]
  refine ⟨by omega, ?_⟩
  rw [shl2 k h0 h1]
def fine (t : Til) : Bool := tis t && decide (169 * 7 ^ (12 - t.r).toNat < 16 * 2 ^ (18 - t.z).toNat * (2 : Int) ^ (18 - t.z).toNat)
set_option maxRecDepth 100000 in
theorem fine_t (t : Til) (ht : t.ok) : Triple Go.Proofs.Try.prog 6 [t.v] [] (bl (fine t)) [] := by
  refine view_Fine_triple rfl (by decide) ?_
  simp only [view_Fine_pc, Til.v, List.length_nil, push_cast, ↓reduceIte, reduceCtorEq, Nat.reduceBEq, Nat.reduceEqDiff, Nat.reduceAdd, Nat.reduceSub, Nat.reduceLT, Nat.reduceLeDiff, Nat.reduceMul]
  refine call_mk (width_t t.r ht.2.2.2) rfl trivial ?_
  simp only [push_cast, ↓reduceIte, reduceCtorEq, Nat.reduceBEq, Nat.reduceEqDiff, Nat.reduceAdd, Nat.reduceSub, Nat.reduceLT, Nat.reduceLeDiff, Nat.reduceMul]
  refine dcall_as (as' := [t.v]) rfl ?_
  refine dcall_mk (is_t t) rfl trivial ?_
  cases hti : tis t with
  | false =>
    simp only [push_cast, ↓reduceIte, reduceCtorEq, Nat.reduceBEq, Nat.reduceEqDiff, Nat.reduceAdd, Nat.reduceSub, Nat.reduceLT, Nat.reduceLeDiff, Nat.reduceMul]
    exact ⟨by kernel_rfl, by simp [fine, hti]⟩
  | true =>
    have hr : 0 ≤ t.z ∧ t.z ≤ 18 ∧ 0 ≤ t.r ∧ t.r ≤ 12 := by simp [tis] at hti; omega
    have hrok : rok t.r = true := by simp [rok]; omega
    have hp := p2 (18 - t.z).toNat (by omega)
    have hu := unit_t t hr.1 hr.2.1
    simp only [hrok, push_cast, ↓reduceIte, reduceCtorEq, Nat.reduceBEq, Nat.reduceEqDiff, Nat.reduceAdd, Nat.reduceSub, Nat.reduceLT, Nat.reduceLeDiff, Nat.reduceMul]
    refine dcall_as (as' := [t.v]) rfl ?_
    refine dcall_mk hu rfl trivial ?_
    simp only [push_cast, ↓reduceIte, reduceCtorEq, Nat.reduceBEq, Nat.reduceEqDiff, Nat.reduceAdd, Nat.reduceSub, Nat.reduceLT, Nat.reduceLeDiff, Nat.reduceMul]
    refine dcall_as (as' := [t.v]) rfl ?_
    refine dcall_mk hu rfl trivial ?_
    simp only [push_cast, ↓reduceIte, reduceCtorEq, Nat.reduceBEq, Nat.reduceEqDiff, Nat.reduceAdd, Nat.reduceSub, Nat.reduceLT, Nat.reduceLeDiff, Nat.reduceMul]
    refine ⟨by kernel_rfl, ?_⟩
    have hq : (18 - t.z).toNat ≤ 18 := by omega
    have hq2 : (2 : Int) ^ (18 - t.z).toNat ≤ 262144 := by
      have h1 : 2 ^ (18 - t.z).toNat ≤ 2 ^ 18 := Nat.pow_le_pow_right (by decide) hq
      have h3 : ((2 ^ (18 - t.z).toNat : Nat) : Int) = (2 : Int) ^ (18 - t.z).toNat := by simp
      omega
    rw [show IntKind.i64.wrap (16 * 2 ^ (18 - t.z).toNat) = 16 * 2 ^ (18 - t.z).toNat from wrap_id (by omega)]
    have hm : 16 * (2 : Int) ^ (18 - t.z).toNat * 2 ^ (18 - t.z).toNat ≤ 4194304 * 262144 := Int.mul_le_mul (by omega) hq2 (by omega) (by omega)
    have hm0 : 0 ≤ 16 * (2 : Int) ^ (18 - t.z).toNat * 2 ^ (18 - t.z).toNat := Int.mul_nonneg (by omega) (by omega)
    rw [wrap_id (by omega)]
    refine bl_iff ?_
    simp [fine, hti]
set_option maxRecDepth 100000 in
theorem ok_t (t : Til) (ht : t.ok) : Triple Go.Proofs.Try.prog 7 [t.v] [] (int .i64 (if tis t then (if fine t then 14 else 0) else 1)) [] := by
  refine view_Ok_triple rfl (by decide) ?_
  simp only [view_Ok_pc, Til.v, List.length_nil, push_cast, ↓reduceIte, reduceCtorEq, Nat.reduceBEq, Nat.reduceEqDiff, Nat.reduceAdd, Nat.reduceSub, Nat.reduceLT, Nat.reduceLeDiff, Nat.reduceMul]
  refine call_as (as' := [t.v]) rfl ?_
  refine call_mk (is_t t) rfl trivial ?_
  cases hti : tis t with
  | false =>
    simp only [push_cast, ↓reduceIte, reduceCtorEq, Nat.reduceBEq, Nat.reduceEqDiff, Nat.reduceAdd, Nat.reduceSub, Nat.reduceLT, Nat.reduceLeDiff, Nat.reduceMul]
  | true =>
    simp only [push_cast, ↓reduceIte, reduceCtorEq, Nat.reduceBEq, Nat.reduceEqDiff, Nat.reduceAdd, Nat.reduceSub, Nat.reduceLT, Nat.reduceLeDiff, Nat.reduceMul]
    refine call_as (as' := [t.v]) rfl ?_
    refine call_mk (fine_t t ht) rfl trivial ?_
    cases hf : fine t <;> simp only [push_cast, ↓reduceIte, reduceCtorEq, Nat.reduceBEq, Nat.reduceEqDiff, Nat.reduceAdd, Nat.reduceSub, Nat.reduceLT, Nat.reduceLeDiff, Nat.reduceMul]
set_option maxRecDepth 100000 in
theorem origin_t (t : Til) (hi : tis t = true) : Triple Go.Proofs.Try.prog 18 [t.v] [] (.tup [int .i64 (t.x * 2 ^ (30 - t.z).toNat), int .i64 (t.y * 2 ^ (30 - t.z).toNat), int .i64 (2 ^ (30 - t.z).toNat)]) [] := by
  refine view_Origin_triple rfl (by decide) ?_
  simp only [view_Origin_pc, Til.v, List.length_nil, push_cast, ↓reduceIte, reduceCtorEq, Nat.reduceBEq, Nat.reduceEqDiff, Nat.reduceAdd, Nat.reduceSub, Nat.reduceLT, Nat.reduceLeDiff, Nat.reduceMul]
  refine call_as (as' := [t.v]) rfl ?_
  refine call_mk (is_t t) rfl trivial ?_
  rw [hi]
  simp only [push_cast, ↓reduceIte, reduceCtorEq, Nat.reduceBEq, Nat.reduceEqDiff, Nat.reduceAdd, Nat.reduceSub, Nat.reduceLT, Nat.reduceLeDiff, Nat.reduceMul]
  simp only [tis, decide_eq_true_eq] at hi
  obtain ⟨z0, z1, r0, r1, x0, x1, y0, y1⟩ := hi
  have hp := p2 t.z.toNat (by omega)
  have hq := p2 (30 - t.z).toNat (by omega)
  have hpq : (2 : Int) ^ t.z.toNat * 2 ^ (30 - t.z).toNat = 1073741824 := by
    rw [← Int.pow_add, show t.z.toNat + (30 - t.z).toNat = 30 by omega]; rfl
  have hx : t.x * 2 ^ (30 - t.z).toNat ≤ 1073741824 := by rw [← hpq]; exact Int.mul_le_mul_of_nonneg_right (by omega) (by omega)
  have hy : t.y * 2 ^ (30 - t.z).toNat ≤ 1073741824 := by rw [← hpq]; exact Int.mul_le_mul_of_nonneg_right (by omega) (by omega)
  have hx0 : 0 ≤ t.x * 2 ^ (30 - t.z).toNat := Int.mul_nonneg x0 (by omega)
  have hy0 : 0 ≤ t.y * 2 ^ (30 - t.z).toNat := Int.mul_nonneg y0 (by omega)
  rw [show IntKind.i64.wrap (30 - t.z) = 30 - t.z from wrap_id (by omega), shl1 _ (by omega) (by omega)]
  refine ⟨by rw [IntKind.wrap_u64]; omega, by kernel_rfl, ?_⟩
  rw [wrap_id (by omega), wrap_id (by omega)]
end Go.Ev
