import Derived.Test.YtjpejkfhkbaakaaGeo9
import Derived.Test.YtjpejkfhkbaakaaViewB
namespace Go.Ev
open Go
set_option linter.unnecessarySimpa false
set_option linter.unusedSimpArgs false
set_option linter.unusedVariables false
noncomputable def apiaryref9_far_pc : PC :=
  (.seq (.reg [⟨(some 4), none, 0, .see (.mov (.c (.r (.v (.bool false)))))⟩])
  (.seq (.reg [⟨(some 5), none, 0, .see (.mov (.t 0))⟩,
    ⟨(some 6), none, 0, .see (.bin .lss (.t 5) (.c (.r (.v (.int .i64 (-2147483648))))))⟩,
    ⟨(some 7), none, 0, .see (.mov (.t 6))⟩,
    ⟨(some 8), (some (7, false)), 0, .see (.mov (.t 0))⟩,
    ⟨(some 9), (some (7, false)), 0, .see (.bin .gtr (.t 8) (.c (.r (.v (.int .i64 2147483648)))))⟩,
    ⟨(some 10), none, 0, .see (.pick (.t 7) (.c (.r (.v (.bool true)))) (.t 9))⟩,
    ⟨(some 11), none, 0, .see (.mov (.t 10))⟩,
    ⟨(some 12), (some (11, false)), 0, .see (.mov (.t 1))⟩,
    ⟨(some 13), (some (11, false)), 0, .see (.bin .lss (.t 12) (.c (.r (.v (.int .i64 (-2147483648))))))⟩,
    ⟨(some 14), none, 0, .see (.pick (.t 11) (.c (.r (.v (.bool true)))) (.t 13))⟩,
    ⟨(some 15), none, 0, .see (.mov (.t 14))⟩,
    ⟨(some 16), (some (15, false)), 0, .see (.mov (.t 1))⟩,
    ⟨(some 17), (some (15, false)), 0, .see (.bin .gtr (.t 16) (.c (.r (.v (.int .i64 2147483648)))))⟩,
    ⟨(some 18), none, 0, .see (.pick (.t 15) (.c (.r (.v (.bool true)))) (.t 17))⟩,
    ⟨(some 4), none, 0, .see (.mov (.t 18))⟩])
  .ret))
noncomputable abbrev apiaryref9_far_code : Code := (Go.Proofs.Try.f53.body).getD .skip
theorem apiaryref9_far_chk : chkC Go.Proofs.Try.prog 19 apiaryref9_far_code apiaryref9_far_pc = true := by kernel_rfl
theorem apiaryref9_far_triple {args : List AV} {po ro : List Ob} {res : AV} (hal : args.length = 2) (hpo : po.length ≤ 1000)
    (h : run Go.Proofs.Try.prog po.length (RetP po.length [(4, false, none)] fun v os => v = res ∧ os = ro) [.c apiaryref9_far_pc] ⟨argE 0 args, ob0 po⟩) : Triple Go.Proofs.Try.prog 53 args po res ro :=
  triple_of_W (fn := Go.Proofs.Try.f53) (c := apiaryref9_far_code) (pc := apiaryref9_far_pc) (rs := [(4, false, none)]) Go.Proofs.Try.func53 rfl (by decide) (by have := apiaryref9_far_chk; exact this) (by rw [hal]; decide) rfl (by kernel_rfl) (by kernel_rfl) (by decide) hpo (W_of_run h)

noncomputable def apiaryref9_cross_pc : PC :=
  (.seq (.reg [⟨(some 4), none, 0, .act (.box (.t 0))⟩,
    ⟨(some 5), none, 0, .act (.box (.t 1))⟩,
    ⟨(some 8), none, 0, .see (.mov (.c (.r (.v (.int .i64 0)))))⟩])
  (.seq (.reg [⟨(some 11), none, 0, .see (.iaa 2 1 (.t 5) (.c (.r (.v (.int .i64 0)))))⟩,
    ⟨(some 12), none, 0, .see (.ld none (.t 11))⟩,
    ⟨(some 13), none, 0, .see (.iaa 2 1 (.t 4) (.c (.r (.v (.int .i64 0)))))⟩,
    ⟨(some 14), none, 0, .see (.ld none (.t 13))⟩,
    ⟨(some 15), none, 0, .see (.bin .sub (.t 12) (.t 14))⟩,
    ⟨(some 16), none, 0, .see (.mov (.t 3))⟩,
    ⟨(some 17), none, 0, .see (.iaa 2 1 (.t 4) (.c (.r (.v (.int .i64 1)))))⟩,
    ⟨(some 18), none, 0, .see (.ld none (.t 17))⟩,
    ⟨(some 19), none, 0, .see (.bin .sub (.t 16) (.t 18))⟩,
    ⟨(some 20), none, 1, .call 49 [(.t 15), (.t 19)]⟩,
    ⟨(some 9), none, 0, .act (.new [(.r (.v (.int .u64 0))), (.r (.v (.int .u64 0)))])⟩,
    ⟨none, none, 0, .act (.st 2 (.t 9) (.t 20))⟩])
  (.seq (.reg [⟨(some 21), none, 0, .see (.iaa 2 1 (.t 5) (.c (.r (.v (.int .i64 1)))))⟩,
    ⟨(some 22), none, 0, .see (.ld none (.t 21))⟩,
    ⟨(some 23), none, 0, .see (.iaa 2 1 (.t 4) (.c (.r (.v (.int .i64 1)))))⟩,
    ⟨(some 24), none, 0, .see (.ld none (.t 23))⟩,
    ⟨(some 25), none, 0, .see (.bin .sub (.t 22) (.t 24))⟩,
    ⟨(some 26), none, 0, .see (.mov (.t 2))⟩,
    ⟨(some 27), none, 0, .see (.iaa 2 1 (.t 4) (.c (.r (.v (.int .i64 0)))))⟩,
    ⟨(some 28), none, 0, .see (.ld none (.t 27))⟩,
    ⟨(some 29), none, 0, .see (.bin .sub (.t 26) (.t 28))⟩,
    ⟨(some 30), none, 2, .call 49 [(.t 25), (.t 29)]⟩,
    ⟨(some 10), none, 0, .act (.new [(.r (.v (.int .u64 0))), (.r (.v (.int .u64 0)))])⟩,
    ⟨none, none, 0, .act (.st 2 (.t 10) (.t 30))⟩])
  (.seq (.block 0 (.seq (.reg [⟨(some 32), none, 0, .see (.ld (some 2) (.t 9))⟩,
    ⟨(some 33), none, 0, .see (.ld (some 2) (.t 10))⟩,
    ⟨(some 34), none, 3, .call 70 [(.t 32), (.t 33)]⟩,
    ⟨(some 31), none, 0, .see (.mov (.t 34))⟩])
  (.cond (.t 31)
    (.seq (.reg [⟨(some 8), none, 0, .see (.mov (.c (.r (.v (.int .i64 (-1))))))⟩])
    .ret)
    (.seq (.reg [⟨(some 36), none, 0, .see (.ld (some 2) (.t 10))⟩,
    ⟨(some 37), none, 0, .see (.ld (some 2) (.t 9))⟩,
    ⟨(some 38), none, 4, .call 70 [(.t 36), (.t 37)]⟩,
    ⟨(some 35), none, 0, .see (.mov (.t 38))⟩])
    (.cond (.t 35)
      (.seq (.reg [⟨(some 8), none, 0, .see (.mov (.c (.r (.v (.int .i64 1)))))⟩])
      .ret)
      .skip)))))
  (.seq (.reg [⟨(some 8), none, 0, .see (.mov (.c (.r (.v (.int .i64 0)))))⟩])
  .ret)))))
noncomputable abbrev apiaryref9_cross_code : Code := (Go.Proofs.Try.f54.body).getD .skip
theorem apiaryref9_cross_chk : chkC Go.Proofs.Try.prog 39 apiaryref9_cross_code apiaryref9_cross_pc = true := by kernel_rfl
theorem apiaryref9_cross_triple {args : List AV} {po ro : List Ob} {res : AV} (hal : args.length = 4) (hpo : po.length ≤ 1000)
    (h : run Go.Proofs.Try.prog po.length (RetP po.length [(8, false, none)] fun v os => v = res ∧ os = ro) [.c apiaryref9_cross_pc] ⟨argE 0 args, ob0 po⟩) : Triple Go.Proofs.Try.prog 54 args po res ro :=
  triple_of_W (fn := Go.Proofs.Try.f54) (c := apiaryref9_cross_code) (pc := apiaryref9_cross_pc) (rs := [(8, false, none)]) Go.Proofs.Try.func54 rfl (by decide) (by have := apiaryref9_cross_chk; exact this) (by rw [hal]; decide) rfl (by kernel_rfl) (by kernel_rfl) (by decide) hpo (W_of_run h)

noncomputable def apiaryref1_Wide_Less_pc : PC :=
  (.seq (.reg [⟨(some 2), none, 0, .act (.box (.t 0))⟩,
    ⟨(some 3), none, 0, .act (.box (.t 1))⟩,
    ⟨(some 4), none, 0, .see (.mov (.c (.r (.v (.bool false)))))⟩])
  (.seq (.drw [⟨(some 5), none, 0, .see (.ld (some 2) (.t 2))⟩,
    ⟨(some 6), none, 0, .see (.ld (some 2) (.t 3))⟩,
    ⟨(some 7), none, 1, .call 52 [(.t 6)]⟩,
    ⟨(some 8), none, 2, .call 51 [(.t 5), (.t 7)]⟩,
    ⟨(some 9), none, 3, .call 86 [(.t 8)]⟩,
    ⟨(some 4), none, 0, .see (.mov (.t 9))⟩]
    [[], [], [1], [0, 1, 2], [0, 1, 2, 3], [0, 1, 2, 3, 4]])
  .ret))
noncomputable abbrev apiaryref1_Wide_Less_code : Code := (Go.Proofs.Try.f70.body).getD .skip
theorem apiaryref1_Wide_Less_chk : chkC Go.Proofs.Try.prog 10 apiaryref1_Wide_Less_code apiaryref1_Wide_Less_pc = true := by kernel_rfl
theorem apiaryref1_Wide_Less_triple {args : List AV} {po ro : List Ob} {res : AV} (hal : args.length = 2) (hpo : po.length ≤ 1000)
    (h : run Go.Proofs.Try.prog po.length (RetP po.length [(4, false, none)] fun v os => v = res ∧ os = ro) [.c apiaryref1_Wide_Less_pc] ⟨argE 0 args, ob0 po⟩) : Triple Go.Proofs.Try.prog 70 args po res ro :=
  triple_of_W (fn := Go.Proofs.Try.f70) (c := apiaryref1_Wide_Less_code) (pc := apiaryref1_Wide_Less_pc) (rs := [(4, false, none)]) Go.Proofs.Try.func70 rfl (by decide) (by have := apiaryref1_Wide_Less_chk; exact this) (by rw [hal]; decide) rfl (by kernel_rfl) (by kernel_rfl) (by decide) hpo (W_of_run h)

noncomputable def apiaryref1_Wide_Below_pc : PC :=
  (.seq (.reg [⟨(some 1), none, 0, .act (.box (.t 0))⟩,
    ⟨(some 2), none, 0, .see (.mov (.c (.r (.v (.bool false)))))⟩])
  (.seq (.reg [⟨(some 3), none, 0, .see (.fa 0 (.t 1))⟩,
    ⟨(some 4), none, 0, .see (.ld none (.t 3))⟩,
    ⟨(some 5), none, 0, .see (.bin .shr (.t 4) (.c (.r (.v (.int .u64 63)))))⟩,
    ⟨(some 6), none, 0, .see (.bin .eql (.t 5) (.c (.r (.v (.int .u64 1)))))⟩,
    ⟨(some 2), none, 0, .see (.mov (.t 6))⟩])
  .ret))
noncomputable abbrev apiaryref1_Wide_Below_code : Code := (Go.Proofs.Try.f86.body).getD .skip
theorem apiaryref1_Wide_Below_chk : chkC Go.Proofs.Try.prog 7 apiaryref1_Wide_Below_code apiaryref1_Wide_Below_pc = true := by kernel_rfl
theorem apiaryref1_Wide_Below_triple {args : List AV} {po ro : List Ob} {res : AV} (hal : args.length = 1) (hpo : po.length ≤ 1000)
    (h : run Go.Proofs.Try.prog po.length (RetP po.length [(2, false, none)] fun v os => v = res ∧ os = ro) [.c apiaryref1_Wide_Below_pc] ⟨argE 0 args, ob0 po⟩) : Triple Go.Proofs.Try.prog 86 args po res ro :=
  triple_of_W (fn := Go.Proofs.Try.f86) (c := apiaryref1_Wide_Below_code) (pc := apiaryref1_Wide_Below_pc) (rs := [(2, false, none)]) Go.Proofs.Try.func86 rfl (by decide) (by have := apiaryref1_Wide_Below_chk; exact this) (by rw [hal]; decide) rfl (by kernel_rfl) (by kernel_rfl) (by decide) hpo (W_of_run h)

noncomputable def apiaryref9_WordOf_pc : PC :=
  (.seq (.reg [⟨(some 6), none, 0, .see (.mov (.c (.r (.v (.int .u64 0)))))⟩])
  (.seq (.reg [⟨(some 12), none, 0, .see (.mov (.t 0))⟩,
    ⟨(some 13), none, 0, .see (.mov (.t 1))⟩,
    ⟨(some 14), none, 0, .see (.mov (.t 2))⟩,
    ⟨(some 15), none, 1, .call 26 [(.t 12), (.t 13), (.t 14)]⟩,
    ⟨(some 11), none, 0, .see (.mov (.t 15))⟩,
    ⟨(some 16), none, 0, .see (.ext (.t 11) 0)⟩,
    ⟨(some 17), none, 0, .see (.ext (.t 11) 1)⟩,
    ⟨(some 7), none, 0, .act (.new [(.r (.v (.int .i64 0))), (.r (.v (.int .i64 0)))])⟩,
    ⟨none, none, 0, .act (.st 2 (.t 7) (.t 16))⟩,
    ⟨(some 8), none, 0, .see (.mov (.t 17))⟩])
  (.seq (.reg [⟨(some 19), none, 0, .see (.mov (.t 2))⟩,
    ⟨(some 20), none, 0, .see (.ld (some 2) (.t 7))⟩,
    ⟨(some 21), none, 0, .see (.build [(.r (.v (.int .i64 0))), (.r (.v (.int .i64 0))), (.r (.v (.int .i64 0)))] [(0, 1, (.t 19)), (1, 2, (.t 20))])⟩,
    ⟨(some 22), none, 2, .call 27 [(.t 21)]⟩,
    ⟨(some 18), none, 0, .see (.mov (.t 22))⟩,
    ⟨(some 23), none, 0, .see (.ext (.t 18) 0)⟩,
    ⟨(some 24), none, 0, .see (.ext (.t 18) 1)⟩,
    ⟨(some 9), none, 0, .see (.mov (.t 23))⟩,
    ⟨(some 10), none, 0, .see (.mov (.t 24))⟩])
  (.seq (.reg [⟨(some 25), none, 0, .see (.mov (.t 9))⟩,
    ⟨(some 6), none, 0, .see (.mov (.t 25))⟩])
  .ret))))
noncomputable abbrev apiaryref9_WordOf_code : Code := (Go.Proofs.Try.f11.body).getD .skip
theorem apiaryref9_WordOf_chk : chkC Go.Proofs.Try.prog 26 apiaryref9_WordOf_code apiaryref9_WordOf_pc = true := by kernel_rfl
theorem apiaryref9_WordOf_triple {args : List AV} {po ro : List Ob} {res : AV} (hal : args.length = 3) (hpo : po.length ≤ 1000)
    (h : run Go.Proofs.Try.prog po.length (RetP po.length [(6, false, none)] fun v os => v = res ∧ os = ro) [.c apiaryref9_WordOf_pc] ⟨argE 0 args, ob0 po⟩) : Triple Go.Proofs.Try.prog 11 args po res ro :=
  triple_of_W (fn := Go.Proofs.Try.f11) (c := apiaryref9_WordOf_code) (pc := apiaryref9_WordOf_pc) (rs := [(6, false, none)]) Go.Proofs.Try.func11 rfl (by decide) (by have := apiaryref9_WordOf_chk; exact this) (by rw [hal]; decide) rfl (by kernel_rfl) (by kernel_rfl) (by decide) hpo (W_of_run h)

noncomputable def apiaryref9_Origin_pc : PC :=
  (.seq (.reg [⟨(some 1), none, 0, .act (.box (.t 0))⟩,
    ⟨(some 2), none, 0, .see (.mov (.c (.r (.v (.int .i64 0)))))⟩,
    ⟨(some 3), none, 0, .see (.mov (.c (.r (.v (.int .i64 0)))))⟩,
    ⟨(some 4), none, 0, .see (.mov (.c (.r (.v (.int .i64 0)))))⟩])
  (.seq (.seq (.reg [⟨(some 6), none, 0, .see (.ld (some 4) (.t 1))⟩,
    ⟨(some 7), none, 1, .call 23 [(.t 6)]⟩,
    ⟨(some 8), none, 0, .see (.un .not (.t 7))⟩])
  (.cond (.t 8)
    (.seq (.reg [⟨(some 2), none, 0, .see (.mov (.c (.r (.v (.int .i64 0)))))⟩,
    ⟨(some 3), none, 0, .see (.mov (.c (.r (.v (.int .i64 0)))))⟩,
    ⟨(some 4), none, 0, .see (.mov (.c (.r (.v (.int .i64 0)))))⟩])
    .ret)
    .skip))
  (.seq (.reg [⟨(some 9), none, 0, .see (.fa 0 (.t 1))⟩,
    ⟨(some 10), none, 0, .see (.ld none (.t 9))⟩,
    ⟨(some 11), none, 0, .see (.bin .sub (.c (.r (.v (.int .i64 30)))) (.t 10))⟩,
    ⟨(some 12), none, 2, .call 25 [(.t 11)]⟩,
    ⟨(some 5), none, 0, .see (.mov (.t 12))⟩])
  (.seq (.drw [⟨(some 13), none, 0, .see (.fa 1 (.t 1))⟩,
    ⟨(some 14), none, 0, .see (.ld none (.t 13))⟩,
    ⟨(some 15), none, 0, .see (.mov (.t 5))⟩,
    ⟨(some 16), none, 0, .see (.bin .mul (.t 14) (.t 15))⟩,
    ⟨(some 17), none, 0, .see (.fa 2 (.t 1))⟩,
    ⟨(some 18), none, 0, .see (.ld none (.t 17))⟩,
    ⟨(some 19), none, 0, .see (.mov (.t 5))⟩,
    ⟨(some 20), none, 0, .see (.bin .mul (.t 18) (.t 19))⟩,
    ⟨(some 21), none, 0, .see (.mov (.t 5))⟩,
    ⟨(some 2), none, 0, .see (.mov (.t 16))⟩,
    ⟨(some 3), none, 0, .see (.mov (.t 20))⟩,
    ⟨(some 4), none, 0, .see (.mov (.t 21))⟩]
    [[], [0], [], [0, 1, 2], [], [4], [], [4, 5, 6], [], [0, 1, 2, 3], [0, 1, 2, 3, 4, 5, 6, 7, 9], [0, 1, 2, 3, 4, 5, 6, 7, 8, 9, 10]])
  .ret))))
noncomputable abbrev apiaryref9_Origin_code : Code := (Go.Proofs.Try.f32.body).getD .skip
theorem apiaryref9_Origin_chk : chkC Go.Proofs.Try.prog 22 apiaryref9_Origin_code apiaryref9_Origin_pc = true := by kernel_rfl
theorem apiaryref9_Origin_triple {args : List AV} {po ro : List Ob} {res : AV} (hal : args.length = 1) (hpo : po.length ≤ 1000)
    (h : run Go.Proofs.Try.prog po.length (RetP po.length [(2, false, none), (3, false, none), (4, false, none)] fun v os => v = res ∧ os = ro) [.c apiaryref9_Origin_pc] ⟨argE 0 args, ob0 po⟩) : Triple Go.Proofs.Try.prog 32 args po res ro :=
  triple_of_W (fn := Go.Proofs.Try.f32) (c := apiaryref9_Origin_code) (pc := apiaryref9_Origin_pc) (rs := [(2, false, none), (3, false, none), (4, false, none)]) Go.Proofs.Try.func32 rfl (by decide) (by have := apiaryref9_Origin_chk; exact this) (by rw [hal]; decide) rfl (by kernel_rfl) (by kernel_rfl) (by decide) hpo (W_of_run h)

noncomputable def apiaryref9_TileOk_pc : PC :=
  (.seq (.reg [⟨(some 1), none, 0, .act (.box (.t 0))⟩,
    ⟨(some 2), none, 0, .see (.mov (.c (.r (.v (.int .i64 0)))))⟩])
  (.seq (.block 0 (.seq (.reg [⟨(some 4), none, 0, .see (.ld (some 4) (.t 1))⟩,
    ⟨(some 5), none, 1, .call 23 [(.t 4)]⟩,
    ⟨(some 6), none, 0, .see (.un .not (.t 5))⟩,
    ⟨(some 3), none, 0, .see (.mov (.t 6))⟩])
  (.cond (.t 3)
    (.seq (.reg [⟨(some 2), none, 0, .see (.mov (.c (.r (.v (.int .i64 1)))))⟩])
    .ret)
    (.seq (.reg [⟨(some 8), none, 0, .see (.ld (some 4) (.t 1))⟩,
    ⟨(some 9), none, 2, .call 10 [(.t 8)]⟩,
    ⟨(some 7), none, 0, .see (.mov (.t 9))⟩])
    (.cond (.t 7)
      (.seq (.reg [⟨(some 2), none, 0, .see (.mov (.c (.r (.v (.int .i64 14)))))⟩])
      .ret)
      .skip)))))
  (.seq (.reg [⟨(some 2), none, 0, .see (.mov (.c (.r (.v (.int .i64 0)))))⟩])
  .ret)))
noncomputable abbrev apiaryref9_TileOk_code : Code := (Go.Proofs.Try.f33.body).getD .skip
theorem apiaryref9_TileOk_chk : chkC Go.Proofs.Try.prog 10 apiaryref9_TileOk_code apiaryref9_TileOk_pc = true := by kernel_rfl
theorem apiaryref9_TileOk_triple {args : List AV} {po ro : List Ob} {res : AV} (hal : args.length = 1) (hpo : po.length ≤ 1000)
    (h : run Go.Proofs.Try.prog po.length (RetP po.length [(2, false, none)] fun v os => v = res ∧ os = ro) [.c apiaryref9_TileOk_pc] ⟨argE 0 args, ob0 po⟩) : Triple Go.Proofs.Try.prog 33 args po res ro :=
  triple_of_W (fn := Go.Proofs.Try.f33) (c := apiaryref9_TileOk_code) (pc := apiaryref9_TileOk_pc) (rs := [(2, false, none)]) Go.Proofs.Try.func33 rfl (by decide) (by have := apiaryref9_TileOk_chk; exact this) (by rw [hal]; decide) rfl (by kernel_rfl) (by kernel_rfl) (by decide) hpo (W_of_run h)

set_option maxRecDepth 100000 in
theorem rfar_t (x y : Int) (h1 : in31 x) (h2 : in31 y) : Triple Go.Proofs.Try.prog 53 [int .i64 x, int .i64 y] [] (bl false) [] := by
  refine apiaryref9_far_triple rfl (by decide) ?_
  unfold in31 at h1 h2
  have c1 : decide (x < -2147483648) = false := by simp; omega
  have c2 : decide (x > 2147483648) = false := by simp; omega
  have c3 : decide (y < -2147483648) = false := by simp; omega
  have c4 : decide (y > 2147483648) = false := by simp; omega
  simp only [apiaryref9_far_pc, List.length_nil, c1, c2, c3, c4, push_cast, ↓reduceIte, reduceCtorEq, Nat.reduceBEq, Nat.reduceEqDiff, Nat.reduceAdd, Nat.reduceSub, Nat.reduceLT, Nat.reduceLeDiff, Nat.reduceMul]
def in125 (x : Int) : Prop := -42535295865117307932921825928971026432 ≤ x ∧ x ≤ 42535295865117307932921825928971026432
set_option maxRecDepth 100000 in
theorem below_t (a : Int) (h : -170141183460469231731687303715884105728 ≤ a ∧ a < 170141183460469231731687303715884105728) : Triple Go.Proofs.Try.prog 86 [wide a] [] (bl (decide (a < 0))) [] := by
  refine apiaryref1_Wide_Below_triple rfl (by decide) ?_
  simp only [apiaryref1_Wide_Below_pc, wide, List.length_nil, push_cast, ↓reduceIte, reduceCtorEq, Nat.reduceBEq, Nat.reduceEqDiff, Nat.reduceAdd, Nat.reduceSub, Nat.reduceLT, Nat.reduceLeDiff, Nat.reduceMul]
  have e : Int.fdiv (a / 18446744073709551616 % 18446744073709551616) (2 ^ min (Int.toNat 63) IntKind.u64.bits) = a / 18446744073709551616 % 18446744073709551616 / 9223372036854775808 := by
    rw [show min (Int.toNat 63) IntKind.u64.bits = 63 from rfl, Int.fdiv_eq_ediv_of_nonneg _ (by decide)]
    rfl
  rw [e]
  refine ⟨by decide, bl_iff ?_⟩
  simp only [beq_iff_eq, decide_eq_true_eq]
  omega
set_option maxRecDepth 100000 in
theorem less_t (a b : Int) (ha : in125 a) (hb : in125 b) : Triple Go.Proofs.Try.prog 70 [wide a, wide b] [] (bl (decide (a < b))) [] := by
  refine apiaryref1_Wide_Less_triple rfl (by decide) ?_
  unfold in125 at ha hb
  simp only [apiaryref1_Wide_Less_pc, wide, List.length_nil, push_cast, ↓reduceIte, reduceCtorEq, Nat.reduceBEq, Nat.reduceEqDiff, Nat.reduceAdd, Nat.reduceSub, Nat.reduceLT, Nat.reduceLeDiff, Nat.reduceMul]
  refine dcall_as (as' := [wide b]) rfl ?_
  refine dcall_mk (turned_t b) rfl trivial ?_
  simp only [wide, push_cast, ↓reduceIte, reduceCtorEq, Nat.reduceBEq, Nat.reduceEqDiff, Nat.reduceAdd, Nat.reduceSub, Nat.reduceLT, Nat.reduceLeDiff, Nat.reduceMul]
  refine dcall_as (as' := [wide a, wide (-b)]) rfl ?_
  refine dcall_mk (plus_t a (-b)) rfl trivial ?_
  simp only [wide, push_cast, ↓reduceIte, reduceCtorEq, Nat.reduceBEq, Nat.reduceEqDiff, Nat.reduceAdd, Nat.reduceSub, Nat.reduceLT, Nat.reduceLeDiff, Nat.reduceMul]
  refine dcall_as (as' := [wide (a + -b)]) rfl ?_
  refine dcall_mk (below_t (a + -b) (by omega)) rfl trivial ?_
  simp only [push_cast, ↓reduceIte, reduceCtorEq, Nat.reduceBEq, Nat.reduceEqDiff, Nat.reduceAdd, Nat.reduceSub, Nat.reduceLT, Nat.reduceLeDiff, Nat.reduceMul]
  refine ⟨by kernel_rfl, bl_iff ?_⟩
  simp only [decide_eq_true_eq]
  omega
/-- Below nought, nought, above nought. -/
def sg (x : Int) : Int := if x < 0 then -1 else if 0 < x then 1 else 0
set_option maxRecDepth 100000 in
theorem rcross_t (p0 p1 q0 q1 x y : Int) (h0 : in32 p0) (h1 : in32 p1) (h2 : in32 q0) (h3 : in32 q1) (h4 : in32 x) (h5 : in32 y) :
    Triple Go.Proofs.Try.prog 54 [pv p0 p1, pv q0 q1, int .i64 x, int .i64 y] [] (int .i64 (sg (crP p0 p1 q0 q1 x y))) [] := by
  refine apiaryref9_cross_triple rfl (by decide) ?_
  unfold in32 at h0 h1 h2 h3 h4 h5
  have m1 := mul_in (n := 8589934592) (m := 8589934592) (x := q0 - p0) (y := y - p1) (by omega) (by omega)
  have m2 := mul_in (n := 8589934592) (m := 8589934592) (x := q1 - p1) (y := x - p0) (by omega) (by omega)
  simp only [apiaryref9_cross_pc, pv, pnt, List.length_nil, Int.reduceToNat, push_cast, ↓reduceIte, reduceCtorEq, Nat.reduceBEq, Nat.reduceEqDiff, Nat.reduceAdd, Nat.reduceSub, Nat.reduceLT, Nat.reduceLeDiff, Nat.reduceMul]
  rw [show IntKind.i64.wrap (q0 - p0) = q0 - p0 from wrap_id (by omega), show IntKind.i64.wrap (y - p1) = y - p1 from wrap_id (by omega)]
  repeat refine And.intro (by first | decide | omega) ?_
  refine call_mk (times_t (q0 - p0) (y - p1) (by unfold in64; omega) (by unfold in64; omega)) rfl trivial ?_
  simp only [wide, Int.reduceToNat, push_cast, ↓reduceIte, reduceCtorEq, Nat.reduceBEq, Nat.reduceEqDiff, Nat.reduceAdd, Nat.reduceSub, Nat.reduceLT, Nat.reduceLeDiff, Nat.reduceMul]
  rw [show IntKind.i64.wrap (q1 - p1) = q1 - p1 from wrap_id (by omega), show IntKind.i64.wrap (x - p0) = x - p0 from wrap_id (by omega)]
  repeat refine And.intro (by first | decide | omega) ?_
  refine call_mk (times_t (q1 - p1) (x - p0) (by unfold in64; omega) (by unfold in64; omega)) rfl trivial ?_
  have hc : crP p0 p1 q0 q1 x y = (q0 - p0) * (y - p1) - (q1 - p1) * (x - p0) := rfl
  rw [hc]
  generalize (q0 - p0) * (y - p1) = A at *
  generalize (q1 - p1) * (x - p0) = B at *
  simp only [wide, push_cast, ↓reduceIte, reduceCtorEq, Nat.reduceBEq, Nat.reduceEqDiff, Nat.reduceAdd, Nat.reduceSub, Nat.reduceLT, Nat.reduceLeDiff, Nat.reduceMul]
  refine call_as (as' := [wide A, wide B]) rfl ?_
  refine call_mk (less_t A B (by unfold in125; omega) (by unfold in125; omega)) rfl trivial ?_
  simp only [wide, push_cast, ↓reduceIte, reduceCtorEq, Nat.reduceBEq, Nat.reduceEqDiff, Nat.reduceAdd, Nat.reduceSub, Nat.reduceLT, Nat.reduceLeDiff, Nat.reduceMul]
  refine cnd_mk (fun h => ?_) (fun h => ?_)
  · simp at h
    simp only [push_cast, ↓reduceIte, reduceCtorEq, Nat.reduceBEq, Nat.reduceEqDiff, Nat.reduceAdd, Nat.reduceSub, Nat.reduceLT, Nat.reduceLeDiff, Nat.reduceMul]
    rw [sg, if_pos (by omega)]
  · simp at h
    simp only [push_cast, ↓reduceIte, reduceCtorEq, Nat.reduceBEq, Nat.reduceEqDiff, Nat.reduceAdd, Nat.reduceSub, Nat.reduceLT, Nat.reduceLeDiff, Nat.reduceMul]
    refine call_as (as' := [wide B, wide A]) rfl ?_
    refine call_mk (less_t B A (by unfold in125; omega) (by unfold in125; omega)) rfl trivial ?_
    simp only [wide, push_cast, ↓reduceIte, reduceCtorEq, Nat.reduceBEq, Nat.reduceEqDiff, Nat.reduceAdd, Nat.reduceSub, Nat.reduceLT, Nat.reduceLeDiff, Nat.reduceMul]
    refine cnd_mk (fun h' => ?_) (fun h' => ?_)
    · simp at h'
      simp only [push_cast, ↓reduceIte, reduceCtorEq, Nat.reduceBEq, Nat.reduceEqDiff, Nat.reduceAdd, Nat.reduceSub, Nat.reduceLT, Nat.reduceLeDiff, Nat.reduceMul]
      rw [sg, if_neg (by omega), if_pos (by omega)]
    · simp at h'
      simp only [push_cast, ↓reduceIte, reduceCtorEq, Nat.reduceBEq, Nat.reduceEqDiff, Nat.reduceAdd, Nat.reduceSub, Nat.reduceLT, Nat.reduceLeDiff, Nat.reduceMul]
      rw [sg, if_neg (by omega), if_neg (by omega)]
/-- The word of a point's cell. -/
def wordOf (x y : Int) (r : Nat) : Nat := word r (near x y r)
set_option maxRecDepth 100000 in
theorem rwordOf_t (x y r : Int) (h : inW x y) (hr : 0 ≤ r ∧ r ≤ 12) : Triple Go.Proofs.Try.prog 11 [int .i64 x, int .i64 y, int .i64 r] [] (uw (wordOf x y r.toNat)) [] := by
  refine apiaryref9_WordOf_triple rfl (by decide) ?_
  simp only [apiaryref9_WordOf_pc, List.length_nil, push_cast, ↓reduceIte, reduceCtorEq, Nat.reduceBEq, Nat.reduceEqDiff, Nat.reduceAdd, Nat.reduceSub, Nat.reduceLT, Nat.reduceLeDiff, Nat.reduceMul]
  refine call_mk (rnear_t x y r h hr) rfl trivial ?_
  simp only [Ei.v, Ei.rv, push_cast, ↓reduceIte, reduceCtorEq, Nat.reduceBEq, Nat.reduceEqDiff, Nat.reduceAdd, Nat.reduceSub, Nat.reduceLT, Nat.reduceLeDiff, Nat.reduceMul]
  refine call_as (as' := [cel r (near x y r.toNat)]) rfl ?_
  refine call_mk (rword_t r (near x y r.toNat) hr.1 (near_okc x y r.toNat h.1 h.2 (by omega))) rfl trivial ?_
  simp only [uw, push_cast, ↓reduceIte, reduceCtorEq, Nat.reduceBEq, Nat.reduceEqDiff, Nat.reduceAdd, Nat.reduceSub, Nat.reduceLT, Nat.reduceLeDiff, Nat.reduceMul]
  rfl
set_option maxRecDepth 100000 in
theorem rorigin_t (t : Til) (h : tis t = true) : Triple Go.Proofs.Try.prog 32 [t.v] [] (.tup [int .i64 (t.x * 2 ^ (30 - t.z).toNat), int .i64 (t.y * 2 ^ (30 - t.z).toNat), int .i64 (2 ^ (30 - t.z).toNat)]) [] := by
  refine apiaryref9_Origin_triple rfl (by decide) ?_
  have hi := tile_in h
  have hz : 0 ≤ t.z ∧ t.z ≤ 18 := by simp only [tis, decide_eq_true_eq] at h; omega
  have hs := side_in hz
  simp only [apiaryref9_Origin_pc, Til.v, List.length_nil, push_cast, ↓reduceIte, reduceCtorEq, Nat.reduceBEq, Nat.reduceEqDiff, Nat.reduceAdd, Nat.reduceSub, Nat.reduceLT, Nat.reduceLeDiff, Nat.reduceMul]
  refine call_as (as' := [t.v]) rfl ?_
  refine call_mk (rtile_t t) rfl trivial ?_
  rw [h]
  simp only [push_cast, ↓reduceIte, reduceCtorEq, Nat.reduceBEq, Nat.reduceEqDiff, Nat.reduceAdd, Nat.reduceSub, Nat.reduceLT, Nat.reduceLeDiff, Nat.reduceMul]
  rw [show IntKind.i64.wrap (30 - t.z) = 30 - t.z from wrap_id (by omega)]
  refine call_mk (shift_t (30 - t.z) (by omega) (by omega)) rfl trivial ?_
  simp only [push_cast, ↓reduceIte, reduceCtorEq, Nat.reduceBEq, Nat.reduceEqDiff, Nat.reduceAdd, Nat.reduceSub, Nat.reduceLT, Nat.reduceLeDiff, Nat.reduceMul]
  rw [Int.add_mul, Int.one_mul, Int.add_mul, Int.one_mul] at hi
  rw [wrap_id (by omega), wrap_id (by omega)]
  exact ⟨by kernel_rfl, rfl⟩
set_option maxRecDepth 100000 in
theorem rtileOk_t (t : Til) (ht : t.ok) : Triple Go.Proofs.Try.prog 33 [t.v] [] (int .i64 (if tis t then (if fine t then 14 else 0) else 1)) [] := by
  refine apiaryref9_TileOk_triple rfl (by decide) ?_
  simp only [apiaryref9_TileOk_pc, Til.v, List.length_nil, push_cast, ↓reduceIte, reduceCtorEq, Nat.reduceBEq, Nat.reduceEqDiff, Nat.reduceAdd, Nat.reduceSub, Nat.reduceLT, Nat.reduceLeDiff, Nat.reduceMul]
  refine call_as (as' := [t.v]) rfl ?_
  refine call_mk (rtile_t t) rfl trivial ?_
  cases hti : tis t with
  | false => simp only [push_cast, ↓reduceIte, reduceCtorEq, Nat.reduceBEq, Nat.reduceEqDiff, Nat.reduceAdd, Nat.reduceSub, Nat.reduceLT, Nat.reduceLeDiff, Nat.reduceMul]
  | true =>
    simp only [push_cast, ↓reduceIte, reduceCtorEq, Nat.reduceBEq, Nat.reduceEqDiff, Nat.reduceAdd, Nat.reduceSub, Nat.reduceLT, Nat.reduceLeDiff, Nat.reduceMul]
    refine call_as (as' := [t.v]) rfl ?_
    refine call_mk (rfine_t t ht) rfl trivial ?_
    cases hf : fine t <;> simp only [push_cast, ↓reduceIte, reduceCtorEq, Nat.reduceBEq, Nat.reduceEqDiff, Nat.reduceAdd, Nat.reduceSub, Nat.reduceLT, Nat.reduceLeDiff, Nat.reduceMul]
end Go.Ev
