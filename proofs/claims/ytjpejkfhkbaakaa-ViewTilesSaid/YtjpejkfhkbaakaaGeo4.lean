import Derived.Test.YtjpejkfhkbaakaaGeo3
namespace Go.Ev
open Go
set_option linter.unnecessarySimpa false
set_option linter.unusedSimpArgs false
set_option linter.unusedVariables false
noncomputable def plane_isRes_pc : PC :=
  (.seq (.reg [⟨(some 2), none, 0, .see (.mov (.c (.r (.v (.bool false)))))⟩])
  (.seq (.reg [⟨(some 3), none, 0, .see (.mov (.t 0))⟩,
    ⟨(some 4), none, 0, .see (.bin .geq (.t 3) (.c (.r (.v (.int .i64 0)))))⟩,
    ⟨(some 5), none, 0, .see (.mov (.t 4))⟩,
    ⟨(some 6), (some (5, true)), 0, .see (.mov (.t 0))⟩,
    ⟨(some 7), (some (5, true)), 0, .see (.bin .leq (.t 6) (.c (.r (.v (.int .i64 12)))))⟩,
    ⟨(some 8), none, 0, .see (.pick (.t 5) (.t 7) (.c (.r (.v (.bool false)))))⟩,
    ⟨(some 2), none, 0, .see (.mov (.t 8))⟩])
  .ret))
noncomputable abbrev plane_isRes_code : Code := (Go.Proofs.Try.f35.body).getD .skip
theorem plane_isRes_chk : chkC Go.Proofs.Try.prog 9 plane_isRes_code plane_isRes_pc = true := by kernel_rfl
theorem plane_isRes_triple {args : List AV} {po ro : List Ob} {res : AV} (hal : args.length = 1) (hpo : po.length ≤ 1000)
    (h : run Go.Proofs.Try.prog po.length (RetP po.length [(2, false, none)] fun v os => v = res ∧ os = ro) [.c plane_isRes_pc] ⟨argE 0 args, ob0 po⟩) : Triple Go.Proofs.Try.prog 35 args po res ro :=
  triple_of_W (fn := Go.Proofs.Try.f35) (c := plane_isRes_code) (pc := plane_isRes_pc) (rs := [(2, false, none)]) Go.Proofs.Try.func35 rfl (by decide) (by have := plane_isRes_chk; exact this) (by rw [hal]; decide) rfl (by kernel_rfl) (by kernel_rfl) (by decide) hpo (W_of_run h)

noncomputable def plane_Ok_pc : PC :=
  (.seq (.reg [⟨(some 4), none, 0, .see (.mov (.c (.r (.v (.bool false)))))⟩])
  (.seq (.reg [⟨(some 5), none, 0, .see (.mov (.t 0))⟩,
    ⟨(some 6), none, 0, .see (.bin .geq (.t 5) (.c (.r (.v (.int .i64 0)))))⟩,
    ⟨(some 7), none, 0, .see (.mov (.t 6))⟩,
    ⟨(some 8), (some (7, true)), 0, .see (.mov (.t 0))⟩,
    ⟨(some 9), (some (7, true)), 0, .see (.bin .lss (.t 8) (.c (.r (.v (.int .i64 1073741824)))))⟩,
    ⟨(some 10), none, 0, .see (.pick (.t 7) (.t 9) (.c (.r (.v (.bool false)))))⟩,
    ⟨(some 11), none, 0, .see (.mov (.t 10))⟩,
    ⟨(some 12), (some (11, true)), 0, .see (.mov (.t 1))⟩,
    ⟨(some 13), (some (11, true)), 0, .see (.bin .geq (.t 12) (.c (.r (.v (.int .i64 0)))))⟩,
    ⟨(some 14), none, 0, .see (.pick (.t 11) (.t 13) (.c (.r (.v (.bool false)))))⟩,
    ⟨(some 15), none, 0, .see (.mov (.t 14))⟩,
    ⟨(some 16), (some (15, true)), 0, .see (.mov (.t 1))⟩,
    ⟨(some 17), (some (15, true)), 0, .see (.bin .lss (.t 16) (.c (.r (.v (.int .i64 1073741824)))))⟩,
    ⟨(some 18), none, 0, .see (.pick (.t 15) (.t 17) (.c (.r (.v (.bool false)))))⟩,
    ⟨(some 4), none, 0, .see (.mov (.t 18))⟩])
  .ret))
noncomputable abbrev plane_Ok_code : Code := (Go.Proofs.Try.f19.body).getD .skip
theorem plane_Ok_chk : chkC Go.Proofs.Try.prog 19 plane_Ok_code plane_Ok_pc = true := by kernel_rfl
theorem plane_Ok_triple {args : List AV} {po ro : List Ob} {res : AV} (hal : args.length = 2) (hpo : po.length ≤ 1000)
    (h : run Go.Proofs.Try.prog po.length (RetP po.length [(4, false, none)] fun v os => v = res ∧ os = ro) [.c plane_Ok_pc] ⟨argE 0 args, ob0 po⟩) : Triple Go.Proofs.Try.prog 19 args po res ro :=
  triple_of_W (fn := Go.Proofs.Try.f19) (c := plane_Ok_code) (pc := plane_Ok_pc) (rs := [(4, false, none)]) Go.Proofs.Try.func19 rfl (by decide) (by have := plane_Ok_chk; exact this) (by rw [hal]; decide) rfl (by kernel_rfl) (by kernel_rfl) (by decide) hpo (W_of_run h)

noncomputable def plane_Axial_pc : PC :=
  (.seq (.reg [⟨(some 4), none, 0, .act (.new [(.r (.v (.int .i64 0))), (.r (.v (.int .i64 0)))])⟩,
    ⟨(some 5), none, 0, .see (.mov (.c (.r (.v (.bool false)))))⟩])
  (.seq (.seq (.reg [⟨(some 6), none, 0, .see (.mov (.t 0))⟩,
    ⟨(some 7), none, 0, .see (.mov (.t 1))⟩,
    ⟨(some 8), none, 1, .call 19 [(.t 6), (.t 7)]⟩,
    ⟨(some 9), none, 0, .see (.un .not (.t 8))⟩])
  (.cond (.t 9)
    (.seq (.reg [⟨(some 10), none, 0, .see (.build [(.r (.v (.int .i64 0))), (.r (.v (.int .i64 0)))] [])⟩,
    ⟨none, none, 0, .act (.st 2 (.t 4) (.t 10))⟩,
    ⟨(some 5), none, 0, .see (.mov (.c (.r (.v (.bool false)))))⟩])
    .ret)
    .skip))
  (.seq (.reg [⟨(some 11), none, 0, .see (.mov (.t 0))⟩,
    ⟨(some 12), none, 0, .see (.bin .mul (.c (.r (.v (.int .i64 45)))) (.t 11))⟩,
    ⟨(some 13), none, 0, .see (.mov (.t 1))⟩,
    ⟨(some 14), none, 0, .see (.bin .mul (.c (.r (.v (.int .i64 26)))) (.t 13))⟩,
    ⟨(some 15), none, 0, .see (.bin .sub (.t 12) (.t 14))⟩,
    ⟨(some 16), none, 0, .see (.mov (.t 1))⟩,
    ⟨(some 17), none, 0, .see (.bin .mul (.c (.r (.v (.int .i64 52)))) (.t 16))⟩,
    ⟨(some 18), none, 0, .see (.build [(.r (.v (.int .i64 0))), (.r (.v (.int .i64 0)))] [(0, 1, (.t 15)), (1, 1, (.t 17))])⟩,
    ⟨none, none, 0, .act (.st 2 (.t 4) (.t 18))⟩,
    ⟨(some 5), none, 0, .see (.mov (.c (.r (.v (.bool true)))))⟩])
  .ret)))
noncomputable abbrev plane_Axial_code : Code := (Go.Proofs.Try.f57.body).getD .skip
theorem plane_Axial_chk : chkC Go.Proofs.Try.prog 19 plane_Axial_code plane_Axial_pc = true := by kernel_rfl
theorem plane_Axial_triple {args : List AV} {po ro : List Ob} {res : AV} (hal : args.length = 2) (hpo : po.length ≤ 1000)
    (h : run Go.Proofs.Try.prog po.length (RetP po.length [(4, false, some (35, (some 2))), (5, false, none)] fun v os => v = res ∧ os = ro) [.c plane_Axial_pc] ⟨argE 0 args, ob0 po⟩) : Triple Go.Proofs.Try.prog 57 args po res ro :=
  triple_of_W (fn := Go.Proofs.Try.f57) (c := plane_Axial_code) (pc := plane_Axial_pc) (rs := [(4, false, some (35, (some 2))), (5, false, none)]) Go.Proofs.Try.func57 rfl (by decide) (by have := plane_Axial_chk; exact this) (by rw [hal]; decide) rfl (by kernel_rfl) (by kernel_rfl) (by decide) hpo (W_of_run h)

noncomputable def plane_Near_pc : PC :=
  (.seq (.reg [⟨(some 6), none, 0, .act (.new [(.r (.v (.int .i64 0))), (.r (.v (.int .i64 0)))])⟩,
    ⟨(some 7), none, 0, .see (.mov (.c (.r (.v (.bool false)))))⟩])
  (.seq (.reg [⟨(some 19), none, 0, .see (.mov (.t 0))⟩,
    ⟨(some 20), none, 0, .see (.mov (.t 1))⟩,
    ⟨(some 21), none, 1, .call 57 [(.t 19), (.t 20)]⟩,
    ⟨(some 18), none, 0, .see (.mov (.t 21))⟩,
    ⟨(some 22), none, 0, .see (.ext (.t 18) 0)⟩,
    ⟨(some 23), none, 0, .see (.ext (.t 18) 1)⟩,
    ⟨(some 8), none, 0, .act (.new [(.r (.v (.int .i64 0))), (.r (.v (.int .i64 0)))])⟩,
    ⟨none, none, 0, .act (.st 2 (.t 8) (.t 22))⟩,
    ⟨(some 9), none, 0, .see (.mov (.t 23))⟩])
  (.seq (.seq (.reg [⟨(some 24), none, 0, .see (.mov (.t 9))⟩,
    ⟨(some 25), none, 0, .see (.un .not (.t 24))⟩,
    ⟨(some 26), none, 0, .see (.mov (.t 25))⟩,
    ⟨(some 27), (some (26, false)), 0, .see (.mov (.t 2))⟩,
    ⟨(some 28), (some (26, false)), 2, .call 35 [(.t 27)]⟩,
    ⟨(some 29), (some (26, false)), 0, .see (.un .not (.t 28))⟩,
    ⟨(some 30), none, 0, .see (.pick (.t 26) (.c (.r (.v (.bool true)))) (.t 29))⟩])
  (.cond (.t 30)
    (.seq (.reg [⟨(some 31), none, 0, .see (.build [(.r (.v (.int .i64 0))), (.r (.v (.int .i64 0)))] [])⟩,
    ⟨none, none, 0, .act (.st 2 (.t 6) (.t 31))⟩,
    ⟨(some 7), none, 0, .see (.mov (.c (.r (.v (.bool false)))))⟩])
    .ret)
    .skip))
  (.seq (.reg [⟨(some 33), none, 0, .see (.mov (.t 2))⟩,
    ⟨(some 34), none, 0, .see (.bin .sub (.c (.r (.v (.int .i64 12)))) (.t 33))⟩,
    ⟨(some 35), none, 3, .call 39 [(.t 34)]⟩,
    ⟨(some 32), none, 0, .see (.mov (.t 35))⟩,
    ⟨(some 36), none, 0, .see (.ext (.t 32) 0)⟩,
    ⟨(some 37), none, 0, .see (.ext (.t 32) 1)⟩,
    ⟨(some 10), none, 0, .act (.new [(.r (.v (.int .i64 0))), (.r (.v (.int .i64 0)))])⟩,
    ⟨none, none, 0, .act (.st 2 (.t 10) (.t 36))⟩,
    ⟨(some 11), none, 0, .see (.mov (.t 37))⟩])
  (.seq (.reg [⟨(some 39), none, 0, .see (.ld (some 2) (.t 10))⟩,
    ⟨(some 40), none, 4, .call 58 [(.t 39)]⟩,
    ⟨(some 38), none, 0, .see (.mov (.t 40))⟩,
    ⟨(some 41), none, 0, .see (.ext (.t 38) 0)⟩,
    ⟨(some 42), none, 0, .see (.ext (.t 38) 1)⟩,
    ⟨(some 12), none, 0, .act (.new [(.r (.v (.int .i64 0))), (.r (.v (.int .i64 0)))])⟩,
    ⟨none, none, 0, .act (.st 2 (.t 12) (.t 41))⟩,
    ⟨(some 13), none, 0, .see (.mov (.t 42))⟩])
  (.seq (.reg [⟨(some 44), none, 0, .see (.mov (.t 2))⟩,
    ⟨(some 45), none, 0, .see (.bin .sub (.c (.r (.v (.int .i64 12)))) (.t 44))⟩,
    ⟨(some 46), none, 5, .call 36 [(.c (.r (.v (.int .i64 7)))), (.t 45)]⟩,
    ⟨(some 43), none, 0, .see (.mov (.t 46))⟩,
    ⟨(some 47), none, 0, .see (.ext (.t 43) 0)⟩,
    ⟨(some 48), none, 0, .see (.ext (.t 43) 1)⟩,
    ⟨(some 14), none, 0, .see (.mov (.t 47))⟩,
    ⟨(some 15), none, 0, .see (.mov (.t 48))⟩])
  (.seq (.reg [⟨(some 50), none, 0, .see (.ld (some 2) (.t 8))⟩,
    ⟨(some 51), none, 0, .see (.ld (some 2) (.t 12))⟩,
    ⟨(some 52), none, 6, .call 59 [(.t 50), (.t 51)]⟩,
    ⟨(some 49), none, 0, .see (.mov (.t 52))⟩,
    ⟨(some 53), none, 0, .see (.ext (.t 49) 0)⟩,
    ⟨(some 54), none, 0, .see (.ext (.t 49) 1)⟩,
    ⟨(some 16), none, 0, .act (.new [(.r (.v (.int .i64 0))), (.r (.v (.int .i64 0)))])⟩,
    ⟨none, none, 0, .act (.st 2 (.t 16) (.t 53))⟩,
    ⟨(some 17), none, 0, .see (.mov (.t 54))⟩])
  (.seq (.reg [⟨(some 55), none, 0, .see (.ld (some 2) (.t 16))⟩,
    ⟨(some 56), none, 0, .see (.mov (.t 14))⟩,
    ⟨(some 57), none, 0, .see (.bin .mul (.c (.r (.v (.int .i64 2340)))) (.t 56))⟩,
    ⟨(some 58), none, 7, .call 60 [(.t 55), (.t 57)]⟩,
    ⟨(some 59), none, 0, .see (.ext (.t 58) 0)⟩,
    ⟨(some 60), none, 0, .see (.ext (.t 58) 1)⟩,
    ⟨none, none, 0, .act (.st 2 (.t 6) (.t 59))⟩,
    ⟨(some 7), none, 0, .see (.mov (.t 60))⟩])
  .ret))))))))
noncomputable abbrev plane_Near_code : Code := (Go.Proofs.Try.f37.body).getD .skip
theorem plane_Near_chk : chkC Go.Proofs.Try.prog 61 plane_Near_code plane_Near_pc = true := by kernel_rfl
theorem plane_Near_triple {args : List AV} {po ro : List Ob} {res : AV} (hal : args.length = 3) (hpo : po.length ≤ 1000)
    (h : run Go.Proofs.Try.prog po.length (RetP po.length [(6, false, some (35, (some 2))), (7, false, none)] fun v os => v = res ∧ os = ro) [.c plane_Near_pc] ⟨argE 0 args, ob0 po⟩) : Triple Go.Proofs.Try.prog 37 args po res ro :=
  triple_of_W (fn := Go.Proofs.Try.f37) (c := plane_Near_code) (pc := plane_Near_pc) (rs := [(6, false, some (35, (some 2))), (7, false, none)]) Go.Proofs.Try.func37 rfl (by decide) (by have := plane_Near_chk; exact this) (by rw [hal]; decide) rfl (by kernel_rfl) (by kernel_rfl) (by decide) hpo (W_of_run h)

noncomputable def plane_place_pc : PC :=
  (.seq (.reg [⟨(some 3), none, 0, .act (.box (.t 0))⟩,
    ⟨(some 6), none, 0, .act (.new [(.r (.v (.int .i64 0))), (.r (.v (.int .i64 0)))])⟩,
    ⟨(some 7), none, 0, .see (.mov (.c (.r (.v (.bool false)))))⟩])
  (.seq (.seq (.reg [⟨(some 10), none, 0, .see (.mov (.t 1))⟩,
    ⟨(some 11), none, 1, .call 35 [(.t 10)]⟩,
    ⟨(some 12), none, 0, .see (.un .not (.t 11))⟩,
    ⟨(some 13), none, 0, .see (.mov (.t 12))⟩,
    ⟨(some 14), (some (13, false)), 0, .see (.fa 0 (.t 3))⟩,
    ⟨(some 15), (some (13, false)), 0, .see (.ld none (.t 14))⟩,
    ⟨(some 16), (some (13, false)), 2, .call 61 [(.t 15), (.c (.r (.v (.int .i64 1073741824))))]⟩,
    ⟨(some 17), (some (13, false)), 0, .see (.un .not (.t 16))⟩,
    ⟨(some 18), none, 0, .see (.pick (.t 13) (.c (.r (.v (.bool true)))) (.t 17))⟩,
    ⟨(some 19), none, 0, .see (.mov (.t 18))⟩,
    ⟨(some 20), (some (19, false)), 0, .see (.fa 1 (.t 3))⟩,
    ⟨(some 21), (some (19, false)), 0, .see (.ld none (.t 20))⟩,
    ⟨(some 22), (some (19, false)), 3, .call 61 [(.t 21), (.c (.r (.v (.int .i64 1073741824))))]⟩,
    ⟨(some 23), (some (19, false)), 0, .see (.un .not (.t 22))⟩,
    ⟨(some 24), none, 0, .see (.pick (.t 19) (.c (.r (.v (.bool true)))) (.t 23))⟩])
  (.cond (.t 24)
    (.seq (.reg [⟨(some 25), none, 0, .see (.build [(.r (.v (.int .i64 0))), (.r (.v (.int .i64 0)))] [])⟩,
    ⟨none, none, 0, .act (.st 2 (.t 6) (.t 25))⟩,
    ⟨(some 7), none, 0, .see (.mov (.c (.r (.v (.bool false)))))⟩])
    .ret)
    .skip))
  (.seq (.reg [⟨(some 27), none, 0, .see (.mov (.t 1))⟩,
    ⟨(some 28), none, 0, .see (.bin .sub (.c (.r (.v (.int .i64 12)))) (.t 27))⟩,
    ⟨(some 29), none, 4, .call 39 [(.t 28)]⟩,
    ⟨(some 26), none, 0, .see (.mov (.t 29))⟩,
    ⟨(some 30), none, 0, .see (.ext (.t 26) 0)⟩,
    ⟨(some 31), none, 0, .see (.ext (.t 26) 1)⟩,
    ⟨(some 8), none, 0, .act (.new [(.r (.v (.int .i64 0))), (.r (.v (.int .i64 0)))])⟩,
    ⟨none, none, 0, .act (.st 2 (.t 8) (.t 30))⟩,
    ⟨(some 9), none, 0, .see (.mov (.t 31))⟩])
  (.seq (.reg [⟨(some 32), none, 0, .see (.ld (some 2) (.t 8))⟩,
    ⟨(some 33), none, 0, .see (.mov (.t 2))⟩,
    ⟨(some 34), none, 0, .see (.fa 0 (.t 3))⟩,
    ⟨(some 35), none, 0, .see (.ld none (.t 34))⟩,
    ⟨(some 36), none, 0, .see (.bin .mul (.t 33) (.t 35))⟩,
    ⟨(some 37), none, 0, .see (.mov (.t 2))⟩,
    ⟨(some 38), none, 0, .see (.fa 1 (.t 3))⟩,
    ⟨(some 39), none, 0, .see (.ld none (.t 38))⟩,
    ⟨(some 40), none, 0, .see (.bin .mul (.t 37) (.t 39))⟩,
    ⟨(some 41), none, 0, .see (.build [(.r (.v (.int .i64 0))), (.r (.v (.int .i64 0)))] [(0, 1, (.t 36)), (1, 1, (.t 40))])⟩,
    ⟨(some 42), none, 5, .call 59 [(.t 32), (.t 41)]⟩,
    ⟨(some 43), none, 0, .see (.ext (.t 42) 0)⟩,
    ⟨(some 44), none, 0, .see (.ext (.t 42) 1)⟩,
    ⟨none, none, 0, .act (.st 2 (.t 6) (.t 43))⟩,
    ⟨(some 7), none, 0, .see (.mov (.t 44))⟩])
  .ret))))
noncomputable abbrev plane_place_code : Code := (Go.Proofs.Try.f38.body).getD .skip
theorem plane_place_chk : chkC Go.Proofs.Try.prog 45 plane_place_code plane_place_pc = true := by kernel_rfl
theorem plane_place_triple {args : List AV} {po ro : List Ob} {res : AV} (hal : args.length = 3) (hpo : po.length ≤ 1000)
    (h : run Go.Proofs.Try.prog po.length (RetP po.length [(6, false, some (35, (some 2))), (7, false, none)] fun v os => v = res ∧ os = ro) [.c plane_place_pc] ⟨argE 0 args, ob0 po⟩) : Triple Go.Proofs.Try.prog 38 args po res ro :=
  triple_of_W (fn := Go.Proofs.Try.f38) (c := plane_place_code) (pc := plane_place_pc) (rs := [(6, false, some (35, (some 2))), (7, false, none)]) Go.Proofs.Try.func38 rfl (by decide) (by have := plane_place_chk; exact this) (by rw [hal]; decide) rfl (by kernel_rfl) (by kernel_rfl) (by decide) hpo (W_of_run h)

noncomputable def plane_spot_pc : PC :=
  (.seq (.reg [⟨(some 1), none, 0, .act (.box (.t 0))⟩,
    ⟨(some 2), none, 0, .act (.new [(.r (.v (.int .i64 0))), (.r (.v (.int .i64 0)))])⟩])
  (.seq (.reg [⟨(some 3), none, 0, .see (.fa 0 (.t 1))⟩,
    ⟨(some 4), none, 0, .see (.ld none (.t 3))⟩,
    ⟨(some 5), none, 0, .see (.bin .mul (.c (.r (.v (.int .i64 52)))) (.t 4))⟩,
    ⟨(some 6), none, 0, .see (.fa 1 (.t 1))⟩,
    ⟨(some 7), none, 0, .see (.ld none (.t 6))⟩,
    ⟨(some 8), none, 0, .see (.bin .mul (.c (.r (.v (.int .i64 26)))) (.t 7))⟩,
    ⟨(some 9), none, 0, .see (.bin .add (.t 5) (.t 8))⟩,
    ⟨(some 10), none, 0, .see (.fa 1 (.t 1))⟩,
    ⟨(some 11), none, 0, .see (.ld none (.t 10))⟩,
    ⟨(some 12), none, 0, .see (.bin .mul (.c (.r (.v (.int .i64 45)))) (.t 11))⟩,
    ⟨(some 13), none, 0, .see (.build [(.r (.v (.int .i64 0))), (.r (.v (.int .i64 0)))] [(0, 1, (.t 9)), (1, 1, (.t 12))])⟩,
    ⟨none, none, 0, .act (.st 2 (.t 2) (.t 13))⟩])
  .ret))
noncomputable abbrev plane_spot_code : Code := (Go.Proofs.Try.f63.body).getD .skip
theorem plane_spot_chk : chkC Go.Proofs.Try.prog 14 plane_spot_code plane_spot_pc = true := by kernel_rfl
theorem plane_spot_triple {args : List AV} {po ro : List Ob} {res : AV} (hal : args.length = 1) (hpo : po.length ≤ 1000)
    (h : run Go.Proofs.Try.prog po.length (RetP po.length [(2, false, some (42, (some 2)))] fun v os => v = res ∧ os = ro) [.c plane_spot_pc] ⟨argE 0 args, ob0 po⟩) : Triple Go.Proofs.Try.prog 63 args po res ro :=
  triple_of_W (fn := Go.Proofs.Try.f63) (c := plane_spot_code) (pc := plane_spot_pc) (rs := [(2, false, some (42, (some 2)))]) Go.Proofs.Try.func63 rfl (by decide) (by have := plane_spot_chk; exact this) (by rw [hal]; decide) rfl (by kernel_rfl) (by kernel_rfl) (by decide) hpo (W_of_run h)

noncomputable def plane_centre_corner_pc : PC :=
  (.seq (.reg [⟨(some 2), none, 0, .act (.box (.t 0))⟩,
    ⟨(some 3), none, 0, .act (.box (.t 1))⟩,
    ⟨(some 4), none, 0, .act (.new [(.r (.v (.int .i64 0))), (.r (.v (.int .i64 0)))])⟩])
  (.seq (.reg [⟨(some 10), none, 0, .see (.fa 2 (.t 2))⟩,
    ⟨(some 11), none, 0, .see (.ld (some 2) (.t 10))⟩,
    ⟨(some 12), none, 0, .see (.ld (some 2) (.t 3))⟩,
    ⟨(some 13), none, 1, .call 59 [(.t 11), (.t 12)]⟩,
    ⟨(some 9), none, 0, .see (.mov (.t 13))⟩,
    ⟨(some 14), none, 0, .see (.ext (.t 9) 0)⟩,
    ⟨(some 15), none, 0, .see (.ext (.t 9) 1)⟩,
    ⟨(some 5), none, 0, .act (.new [(.r (.v (.int .i64 0))), (.r (.v (.int .i64 0)))])⟩,
    ⟨none, none, 0, .act (.st 2 (.t 5) (.t 14))⟩,
    ⟨(some 6), none, 0, .see (.mov (.t 15))⟩])
  (.seq (.reg [⟨(some 17), none, 0, .see (.fa 0 (.t 2))⟩,
    ⟨(some 18), none, 0, .see (.ld (some 2) (.t 17))⟩,
    ⟨(some 19), none, 0, .see (.ld (some 2) (.t 5))⟩,
    ⟨(some 20), none, 2, .call 62 [(.t 18), (.t 19)]⟩,
    ⟨(some 16), none, 0, .see (.mov (.t 20))⟩,
    ⟨(some 21), none, 0, .see (.ext (.t 16) 0)⟩,
    ⟨(some 22), none, 0, .see (.ext (.t 16) 1)⟩,
    ⟨(some 7), none, 0, .act (.new [(.r (.v (.int .i64 0))), (.r (.v (.int .i64 0)))])⟩,
    ⟨none, none, 0, .act (.st 2 (.t 7) (.t 21))⟩,
    ⟨(some 8), none, 0, .see (.mov (.t 22))⟩])
  (.seq (.reg [⟨(some 23), none, 0, .see (.ld (some 2) (.t 7))⟩,
    ⟨(some 24), none, 3, .call 63 [(.t 23)]⟩,
    ⟨none, none, 0, .act (.st 2 (.t 4) (.t 24))⟩])
  .ret))))
noncomputable abbrev plane_centre_corner_code : Code := (Go.Proofs.Try.f40.body).getD .skip
theorem plane_centre_corner_chk : chkC Go.Proofs.Try.prog 25 plane_centre_corner_code plane_centre_corner_pc = true := by kernel_rfl
theorem plane_centre_corner_triple {args : List AV} {po ro : List Ob} {res : AV} (hal : args.length = 2) (hpo : po.length ≤ 1000)
    (h : run Go.Proofs.Try.prog po.length (RetP po.length [(4, false, some (42, (some 2)))] fun v os => v = res ∧ os = ro) [.c plane_centre_corner_pc] ⟨argE 0 args, ob0 po⟩) : Triple Go.Proofs.Try.prog 40 args po res ro :=
  triple_of_W (fn := Go.Proofs.Try.f40) (c := plane_centre_corner_code) (pc := plane_centre_corner_pc) (rs := [(4, false, some (42, (some 2)))]) Go.Proofs.Try.func40 rfl (by decide) (by have := plane_centre_corner_chk; exact this) (by rw [hal]; decide) rfl (by kernel_rfl) (by kernel_rfl) (by decide) hpo (W_of_run h)

noncomputable def plane_Hex_pc : PC :=
  (.seq (.reg [⟨(some 2), none, 0, .act (.box (.t 0))⟩,
    ⟨(some 4), none, 0, .see (.mov (.c (.nils 2 (.agg [(.v (.int .i64 0)), (.v (.int .i64 0))]))))⟩,
    ⟨(some 5), none, 0, .see (.mov (.c (.r (.v (.bool false)))))⟩])
  (.seq (.reg [⟨(some 15), none, 0, .see (.ld (some 2) (.t 2))⟩,
    ⟨(some 16), none, 0, .see (.mov (.t 1))⟩,
    ⟨(some 17), none, 1, .call 38 [(.t 15), (.t 16), (.c (.r (.v (.int .i64 3))))]⟩,
    ⟨(some 14), none, 0, .see (.mov (.t 17))⟩,
    ⟨(some 18), none, 0, .see (.ext (.t 14) 0)⟩,
    ⟨(some 19), none, 0, .see (.ext (.t 14) 1)⟩,
    ⟨(some 6), none, 0, .act (.new [(.r (.v (.int .i64 0))), (.r (.v (.int .i64 0)))])⟩,
    ⟨none, none, 0, .act (.st 2 (.t 6) (.t 18))⟩,
    ⟨(some 7), none, 0, .see (.mov (.t 19))⟩])
  (.seq (.seq (.reg [⟨(some 20), none, 0, .see (.mov (.t 7))⟩,
    ⟨(some 21), none, 0, .see (.un .not (.t 20))⟩])
  (.cond (.t 21)
    (.seq (.reg [⟨(some 4), none, 0, .see (.mov (.c (.nils 2 (.agg [(.v (.int .i64 0)), (.v (.int .i64 0))]))))⟩,
    ⟨(some 5), none, 0, .see (.mov (.c (.r (.v (.bool false)))))⟩])
    .ret)
    .skip))
  (.seq (.reg [⟨(some 23), none, 0, .see (.mov (.t 1))⟩,
    ⟨(some 24), none, 0, .see (.bin .sub (.c (.r (.v (.int .i64 12)))) (.t 23))⟩,
    ⟨(some 25), none, 2, .call 39 [(.t 24)]⟩,
    ⟨(some 22), none, 0, .see (.mov (.t 25))⟩,
    ⟨(some 26), none, 0, .see (.ext (.t 22) 0)⟩,
    ⟨(some 27), none, 0, .see (.ext (.t 22) 1)⟩,
    ⟨(some 8), none, 0, .act (.new [(.r (.v (.int .i64 0))), (.r (.v (.int .i64 0)))])⟩,
    ⟨none, none, 0, .act (.st 2 (.t 8) (.t 26))⟩,
    ⟨(some 9), none, 0, .see (.mov (.t 27))⟩])
  (.seq (.reg [⟨(some 28), none, 0, .see (.ld (some 2) (.t 6))⟩,
    ⟨(some 29), none, 0, .see (.ld (some 2) (.t 8))⟩,
    ⟨(some 30), none, 0, .see (.build [(.r (.v (.int .i64 0))), (.r (.v (.int .i64 0))), (.r (.v (.int .i64 0))), (.r (.v (.int .i64 0)))] [(0, 2, (.t 28)), (2, 2, (.t 29))])⟩,
    ⟨(some 31), none, 0, .see (.mkf (.func 40) [(.t 30)] 1)⟩,
    ⟨(some 10), none, 0, .see (.mov (.t 31))⟩])
  (.seq (.reg [⟨(some 11), none, 0, .see (.mov (.c (.nils 2 (.agg [(.v (.int .i64 0)), (.v (.int .i64 0))]))))⟩])
  (.seq (.seq (.reg [⟨(some 32), none, 0, .see (.build [(.r (.v (.int .i64 0))), (.r (.v (.int .i64 0)))] [(0, 1, (.c (.r (.v (.int .i64 1))))), (1, 1, (.c (.r (.v (.int .i64 1)))))])⟩,
    ⟨(some 33), none, 0, .see (.build [(.r (.v (.int .i64 0))), (.r (.v (.int .i64 0)))] [(0, 1, (.c (.r (.v (.int .i64 (-1)))))), (1, 1, (.c (.r (.v (.int .i64 2)))))])⟩,
    ⟨(some 34), none, 0, .see (.build [(.r (.v (.int .i64 0))), (.r (.v (.int .i64 0)))] [(0, 1, (.c (.r (.v (.int .i64 (-2)))))), (1, 1, (.c (.r (.v (.int .i64 1)))))])⟩,
    ⟨(some 35), none, 0, .see (.build [(.r (.v (.int .i64 0))), (.r (.v (.int .i64 0)))] [(0, 1, (.c (.r (.v (.int .i64 (-1)))))), (1, 1, (.c (.r (.v (.int .i64 (-1))))))])⟩,
    ⟨(some 36), none, 0, .see (.build [(.r (.v (.int .i64 0))), (.r (.v (.int .i64 0)))] [(0, 1, (.c (.r (.v (.int .i64 1))))), (1, 1, (.c (.r (.v (.int .i64 (-2))))))])⟩,
    ⟨(some 37), none, 0, .see (.build [(.r (.v (.int .i64 0))), (.r (.v (.int .i64 0)))] [(0, 1, (.c (.r (.v (.int .i64 2))))), (1, 1, (.c (.r (.v (.int .i64 (-1))))))])⟩,
    ⟨(some 38), none, 0, .act (.bsl 2 (.agg [(.v (.int .i64 0)), (.v (.int .i64 0))]) [(.t 32), (.t 33), (.t 34), (.t 35), (.t 36), (.t 37)])⟩,
    ⟨(some 39), none, 0, .see (.len false (.t 38))⟩,
    ⟨(some 40), none, 0, .see (.mov (.c (.r (.v (.int .i64 0)))))⟩])
  (.block 0 (.loop (.seq (.reg [⟨(some 41), none, 0, .see (.bin .lss (.t 40) (.t 39))⟩])
  (.seq (.cond (.t 41)
    .skip
    (.exit 0))
  (.seq (.block 1 (.seq (.reg [⟨(some 42), none, 0, .see (.ia 2 (.agg [(.v (.int .i64 0)), (.v (.int .i64 0))]) (.t 38) (.t 40))⟩,
    ⟨(some 43), none, 0, .see (.ld (some 2) (.t 42))⟩,
    ⟨(some 13), none, 0, .act (.new [(.r (.v (.int .i64 0))), (.r (.v (.int .i64 0)))])⟩,
    ⟨none, none, 0, .act (.st 2 (.t 13) (.t 43))⟩])
  (.reg [⟨(some 44), none, 0, .see (.mov (.t 11))⟩,
    ⟨(some 45), none, 0, .see (.mov (.t 10))⟩,
    ⟨(some 46), none, 0, .see (.ld (some 2) (.t 13))⟩,
    ⟨(some 47), none, 3, .callv (.t 45) [(.t 46)]⟩,
    ⟨(some 48), none, 0, .act (.bsl 2 (.agg [(.v (.int .i64 0)), (.v (.int .i64 0))]) [(.t 47)])⟩,
    ⟨(some 49), none, 0, .act (.app 2 (.agg [(.v (.int .i64 0)), (.v (.int .i64 0))]) 16 (.t 44) (.t 48))⟩,
    ⟨(some 11), none, 0, .see (.mov (.t 49))⟩])))
  (.reg [⟨(some 50), none, 0, .see (.bin .add (.t 40) (.c (.r (.v (.int .i64 1)))))⟩,
    ⟨(some 40), none, 0, .see (.mov (.t 50))⟩])))))))
  (.seq (.reg [⟨(some 51), none, 0, .see (.mov (.t 11))⟩,
    ⟨(some 4), none, 0, .see (.mov (.t 51))⟩,
    ⟨(some 5), none, 0, .see (.mov (.c (.r (.v (.bool true)))))⟩])
  .ret))))))))
noncomputable abbrev plane_Hex_code : Code := (Go.Proofs.Try.f21.body).getD .skip
theorem plane_Hex_chk : chkC Go.Proofs.Try.prog 52 plane_Hex_code plane_Hex_pc = true := by kernel_rfl
theorem plane_Hex_triple {args : List AV} {po ro : List Ob} {res : AV} (hal : args.length = 2) (hpo : po.length ≤ 1000)
    (h : run Go.Proofs.Try.prog po.length (RetP po.length [(4, false, none), (5, false, none)] fun v os => v = res ∧ os = ro) [.c plane_Hex_pc] ⟨argE 0 args, ob0 po⟩) : Triple Go.Proofs.Try.prog 21 args po res ro :=
  triple_of_W (fn := Go.Proofs.Try.f21) (c := plane_Hex_code) (pc := plane_Hex_pc) (rs := [(4, false, none), (5, false, none)]) Go.Proofs.Try.func21 rfl (by decide) (by have := plane_Hex_chk; exact this) (by rw [hal]; decide) rfl (by kernel_rfl) (by kernel_rfl) (by decide) hpo (W_of_run h)

theorem p2 (n : Nat) (h : n ≤ 36) : 1 ≤ (2 : Int) ^ n ∧ (2 : Int) ^ n ≤ 68719476736 := by
  have h1 : 2 ^ n ≤ 2 ^ 36 := Nat.pow_le_pow_right (by decide) h
  have h2 : 1 ≤ 2 ^ n := Nat.one_le_two_pow
  have h3 : ((2 ^ n : Nat) : Int) = (2 : Int) ^ n := by simp
  omega
theorem p7 (n : Nat) (h : n ≤ 12) : 1 ≤ (7 : Int) ^ n ∧ (7 : Int) ^ n ≤ 13841287201 := by
  have h1 : 7 ^ n ≤ 7 ^ 12 := Nat.pow_le_pow_right (by decide) h
  have h2 : 1 ≤ 7 ^ n := Nat.one_le_pow _ _ (by decide)
  have h3 : ((7 ^ n : Nat) : Int) = (7 : Int) ^ n := by simp
  omega
theorem shl1 (z : Int) (h0 : 0 ≤ z) (h1 : z ≤ 36) : IntKind.i64.wrap (1 * 2 ^ min (IntKind.u64.wrap z).toNat IntKind.i64.bits) = 2 ^ z.toNat := by
  have hp := p2 z.toNat (by omega)
  rw [IntKind.wrap_u64, show (z % 18446744073709551616).toNat = z.toNat by omega, show min z.toNat IntKind.i64.bits = z.toNat from Nat.min_eq_left (by simp [IntKind.bits]; omega), Int.one_mul, wrap_id (by omega)]
theorem shl2 (z : Int) (h0 : 0 ≤ z) (h1 : z ≤ 36) : IntKind.i64.wrap (1 * 2 ^ min z.toNat IntKind.i64.bits) = 2 ^ z.toNat := by
  have hp := p2 z.toNat (by omega)
  rw [show min z.toNat IntKind.i64.bits = z.toNat from Nat.min_eq_left (by simp [IntKind.bits]; omega), Int.one_mul, wrap_id (by omega)]
set_option maxRecDepth 100000 in
theorem isRes_t (r : Int) : Triple Go.Proofs.Try.prog 35 [int .i64 r] [] (bl (decide (0 ≤ r ∧ r ≤ 12))) [] := by
  refine plane_isRes_triple rfl (by decide) ?_
  simp only [plane_isRes_pc, List.length_nil, push_cast, ↓reduceIte, reduceCtorEq, Nat.reduceBEq, Nat.reduceEqDiff, Nat.reduceAdd, Nat.reduceSub, Nat.reduceLT, Nat.reduceLeDiff, Nat.reduceMul]
  refine bl_iff ?_
  simp
theorem mul_In {x y : Ei} {n m : Int} (hx : x.In n) (hy : y.In m) : (x.mul y).In (3 * (n * m)) := by
  have h1 := mul_in hx.1 hy.1
  have h2 := mul_in hx.1 hy.2
  have h3 := mul_in hx.2 hy.1
  have h4 := mul_in hx.2 hy.2
  unfold Ei.In Ei.mul
  dsimp only
  generalize n * m = q at *
  omega
theorem conj_In {x : Ei} {n : Int} (hx : x.In n) : x.conj.In (2 * n) := by
  unfold Ei.In Ei.conj at *
  dsimp only
  omega
/-- A point of the world. -/
def inW (x y : Int) : Prop := (0 ≤ x ∧ x < 1073741824) ∧ (0 ≤ y ∧ y < 1073741824)
instance (x y : Int) : Decidable (inW x y) := inferInstanceAs (Decidable (_ ∧ _))
theorem ax_In {x y : Int} (h : inW x y) : (ax x y).In 60000000000 := by
  unfold inW at h
  unfold ax Ei.In
  dsimp only
  omega
theorem axm_In {x y : Int} (h : inW x y) {k : Nat} (hk : k ≤ 12) : ((ax x y).mul (betaN k).conj).In 43200000000000000 :=
  (mul_In (ax_In h) (conj_In (betaN_in k hk))).mono (by decide)
set_option maxRecDepth 100000 in
theorem pok_t (x y : Int) : Triple Go.Proofs.Try.prog 19 [int .i64 x, int .i64 y] [] (bl (decide (inW x y))) [] := by
  refine plane_Ok_triple rfl (by decide) ?_
  simp only [plane_Ok_pc, List.length_nil, push_cast, ↓reduceIte, reduceCtorEq, Nat.reduceBEq, Nat.reduceEqDiff, Nat.reduceAdd, Nat.reduceSub, Nat.reduceLT, Nat.reduceLeDiff, Nat.reduceMul]
  repeat refine And.intro (by simp +contextual) ?_
  refine bl_iff ?_
  unfold inW
  by_cases h1 : 0 ≤ x <;> by_cases h2 : x < 1073741824 <;> by_cases h3 : 0 ≤ y <;> by_cases h4 : y < 1073741824 <;> simp [h1, h2, h3, h4]
set_option maxRecDepth 100000 in
theorem axial_t (x y : Int) (h : inW x y) : Triple Go.Proofs.Try.prog 57 [int .i64 x, int .i64 y] [] (.tup [(ax x y).v, bl true]) [] := by
  refine plane_Axial_triple rfl (by decide) ?_
  simp only [plane_Axial_pc, List.length_nil, push_cast, ↓reduceIte, reduceCtorEq, Nat.reduceBEq, Nat.reduceEqDiff, Nat.reduceAdd, Nat.reduceSub, Nat.reduceLT, Nat.reduceLeDiff, Nat.reduceMul]
  refine call_mk (pok_t x y) rfl trivial ?_
  rw [decide_eq_true h]
  simp only [push_cast, ↓reduceIte, reduceCtorEq, Nat.reduceBEq, Nat.reduceEqDiff, Nat.reduceAdd, Nat.reduceSub, Nat.reduceLT, Nat.reduceLeDiff, Nat.reduceMul]
  unfold inW at h
  rw [show IntKind.i64.wrap (45 * x) = 45 * x from wrap_id (by omega), show IntKind.i64.wrap (26 * y) = 26 * y from wrap_id (by omega), show IntKind.i64.wrap (52 * y) = 52 * y from wrap_id (by omega), show IntKind.i64.wrap (45 * x - 26 * y) = 45 * x - 26 * y from wrap_id (by omega)]
  simp only [ax, Ei.v, Ei.rv]
set_option maxRecDepth 100000 in
theorem near_t (x y r : Int) (h : inW x y) (hr : 0 ≤ r ∧ r ≤ 12) : Triple Go.Proofs.Try.prog 37 [int .i64 x, int .i64 y, int .i64 r] [] (.tup [(near x y r.toNat).v, bl true]) [] := by
  refine plane_Near_triple rfl (by decide) ?_
  simp only [plane_Near_pc, List.length_nil, push_cast, ↓reduceIte, reduceCtorEq, Nat.reduceBEq, Nat.reduceEqDiff, Nat.reduceAdd, Nat.reduceSub, Nat.reduceLT, Nat.reduceLeDiff, Nat.reduceMul]
  refine call_mk (axial_t x y h) rfl trivial ?_
  simp only [Ei.v, Ei.rv, push_cast, ↓reduceIte, reduceCtorEq, Nat.reduceBEq, Nat.reduceEqDiff, Nat.reduceAdd, Nat.reduceSub, Nat.reduceLT, Nat.reduceLeDiff, Nat.reduceMul]
  refine call_mk (isRes_t r) rfl trivial ?_
  rw [decide_eq_true hr]
  simp only [push_cast, ↓reduceIte, reduceCtorEq, Nat.reduceBEq, Nat.reduceEqDiff, Nat.reduceAdd, Nat.reduceSub, Nat.reduceLT, Nat.reduceLeDiff, Nat.reduceMul]
  have hk : (12 - r).toNat = 12 - r.toNat := by omega
  have hk2 : (12 - r).toNat ≤ 12 := by omega
  rw [show IntKind.i64.wrap (12 - r) = 12 - r from wrap_id (by omega)]
  refine call_mk (ebeta_t (12 - r) (by omega)) rfl trivial ?_
  have hb := betaN_in (12 - r).toNat hk2
  simp only [Ei.v, Ei.rv, push_cast, ↓reduceIte, reduceCtorEq, Nat.reduceBEq, Nat.reduceEqDiff, Nat.reduceAdd, Nat.reduceSub, Nat.reduceLT, Nat.reduceLeDiff, Nat.reduceMul]
  refine call_as (as' := [(betaN (12 - r).toNat).v]) rfl ?_
  refine call_mk (econj_t _ (hb.mono (by decide))) rfl trivial ?_
  simp only [Ei.v, Ei.rv, push_cast, ↓reduceIte, reduceCtorEq, Nat.reduceBEq, Nat.reduceEqDiff, Nat.reduceAdd, Nat.reduceSub, Nat.reduceLT, Nat.reduceLeDiff, Nat.reduceMul]
  have hp := p7 (12 - r).toNat hk2
  rw [show IntKind.i64.wrap (12 - r) = 12 - r from wrap_id (by omega)]
  have ht := pow_t 7 (12 - r) (by decide) (by unfold in64; omega)
  rw [if_neg (show ¬ 12 - r < 0 by omega), sm_in (by unfold in64; omega)] at ht
  refine call_mk ht rfl trivial ?_
  simp only [push_cast, ↓reduceIte, reduceCtorEq, Nat.reduceBEq, Nat.reduceEqDiff, Nat.reduceAdd, Nat.reduceSub, Nat.reduceLT, Nat.reduceLeDiff, Nat.reduceMul]
  have hm := axm_In h hk2
  refine call_as (as' := [(ax x y).v, (betaN (12 - r).toNat).conj.v]) rfl ?_
  refine call_mk (emul_t _ _ ((ax_In h).mono (by decide)) ((conj_In hb).mono (by decide)) (hm.mono (by decide))) rfl trivial ?_
  simp only [Ei.v, Ei.rv, push_cast, ↓reduceIte, reduceCtorEq, Nat.reduceBEq, Nat.reduceEqDiff, Nat.reduceAdd, Nat.reduceSub, Nat.reduceLT, Nat.reduceLeDiff, Nat.reduceMul]
  rw [show IntKind.i64.wrap (2340 * 7 ^ (12 - r).toNat) = 2340 * 7 ^ (12 - r).toNat from wrap_id (by omega)]
  refine call_as (as' := [((ax x y).mul (betaN (12 - r).toNat).conj).v, int .i64 (2340 * 7 ^ (12 - r).toNat)]) rfl ?_
  refine call_mk (eround_t _ _ (hm.mono (by decide)) (by omega)) rfl trivial ?_
  simp only [Ei.v, Ei.rv, near, hk, push_cast, ↓reduceIte, reduceCtorEq, Nat.reduceBEq, Nat.reduceEqDiff, Nat.reduceAdd, Nat.reduceSub, Nat.reduceLT, Nat.reduceLeDiff, Nat.reduceMul]
end Go.Ev
