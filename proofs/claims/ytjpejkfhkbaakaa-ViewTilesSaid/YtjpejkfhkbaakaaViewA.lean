import Derived.Test.YtjpejkfhkbaakaaGeo6
import Derived.Test.YtjpejkfhkbaakaaViewP
namespace Go.Ev
open Go
set_option linter.unnecessarySimpa false
set_option linter.unusedSimpArgs false
set_option linter.unusedVariables false
noncomputable def cover_inThirds_pc : PC :=
  (.seq (.reg [⟨(some 2), none, 0, .act (.box (.t 0))⟩,
    ⟨(some 3), none, 0, .act (.box (.t 1))⟩,
    ⟨(some 4), none, 0, .act (.new [(.r (.v (.int .i64 0))), (.r (.v (.int .i64 0))), (.r (.v (.int .i64 0))), (.r (.v (.int .i64 0)))])⟩,
    ⟨(some 5), none, 0, .see (.mov (.c (.r (.v (.bool false)))))⟩])
  (.seq (.reg [⟨(some 6), none, 0, .act (.new [(.r (.v (.int .i64 0))), (.r (.v (.int .i64 0))), (.r (.v (.int .i64 0))), (.r (.v (.int .i64 0)))])⟩])
  (.seq (.seq (.reg [⟨(some 8), none, 0, .see (.mov (.c (.r (.v (.int .i64 0)))))⟩])
  (.block 0 (.loop (.seq (.reg [⟨(some 9), none, 0, .see (.bin .lss (.t 8) (.c (.r (.v (.int .i64 2)))))⟩])
  (.seq (.cond (.t 9)
    .skip
    (.exit 0))
  (.seq (.block 1 (.seq (.reg [⟨(some 10), none, 0, .see (.mov (.t 8))⟩,
    ⟨(some 7), none, 0, .see (.mov (.t 10))⟩])
  (.seq (.seq (.drw [⟨(some 11), none, 0, .see (.mov (.t 7))⟩,
    ⟨(some 12), none, 0, .see (.iaa 2 1 (.t 2) (.t 11))⟩,
    ⟨(some 13), none, 0, .see (.ld none (.t 12))⟩,
    ⟨(some 14), none, 0, .see (.bin .lss (.t 13) (.c (.r (.v (.int .i64 (-2147483648))))))⟩,
    ⟨(some 15), none, 0, .see (.mov (.t 14))⟩,
    ⟨(some 16), (some (15, false)), 0, .see (.mov (.t 7))⟩,
    ⟨(some 17), (some (15, false)), 0, .see (.iaa 2 1 (.t 3) (.t 16))⟩,
    ⟨(some 18), (some (15, false)), 0, .see (.ld none (.t 17))⟩,
    ⟨(some 19), (some (15, false)), 0, .see (.bin .gtr (.t 18) (.c (.r (.v (.int .i64 2147483648)))))⟩,
    ⟨(some 20), none, 0, .see (.pick (.t 15) (.c (.r (.v (.bool true)))) (.t 19))⟩,
    ⟨(some 21), none, 0, .see (.mov (.t 20))⟩,
    ⟨(some 22), (some (21, false)), 0, .see (.mov (.t 7))⟩,
    ⟨(some 23), (some (21, false)), 0, .see (.iaa 2 1 (.t 3) (.t 22))⟩,
    ⟨(some 24), (some (21, false)), 0, .see (.ld none (.t 23))⟩,
    ⟨(some 25), (some (21, false)), 0, .see (.mov (.t 7))⟩,
    ⟨(some 26), (some (21, false)), 0, .see (.iaa 2 1 (.t 2) (.t 25))⟩,
    ⟨(some 27), (some (21, false)), 0, .see (.ld none (.t 26))⟩,
    ⟨(some 28), (some (21, false)), 0, .see (.bin .lss (.t 24) (.t 27))⟩,
    ⟨(some 29), none, 0, .see (.pick (.t 21) (.c (.r (.v (.bool true)))) (.t 28))⟩]
    [[], [0], [0, 1], [0, 1, 2], [0, 1, 2, 3], [0, 1, 2, 3, 4], [0, 1, 2, 3, 4, 5], [0, 1, 2, 3, 4, 5, 6], [0, 1, 2, 3, 4, 5, 6, 7], [0, 1, 2, 3, 4, 5, 6, 7, 8], [0, 1, 2, 3, 4, 5, 6, 7, 8, 9], [0, 1, 2, 3, 4, 5, 6, 7, 8, 9, 10], [0, 1, 2, 3, 4, 5, 6, 7, 8, 9, 10, 11], [0, 1, 2, 3, 4, 5, 6, 7, 8, 9, 10, 11, 12], [0, 1, 2, 3, 4, 5, 6, 7, 8, 9, 10], [0, 1, 2, 3, 4, 5, 6, 7, 8, 9, 10, 14], [0, 1, 2, 3, 4, 5, 6, 7, 8, 9, 10, 14, 15], [0, 1, 2, 3, 4, 5, 6, 7, 8, 9, 10, 11, 12, 13, 14, 15, 16], [0, 1, 2, 3, 4, 5, 6, 7, 8, 9, 10, 11, 12, 13, 14, 15, 16, 17]])
  (.cond (.t 29)
    (.seq (.reg [⟨(some 30), none, 0, .see (.ld (some 4) (.t 6))⟩,
    ⟨none, none, 0, .act (.st 4 (.t 4) (.t 30))⟩,
    ⟨(some 5), none, 0, .see (.mov (.c (.r (.v (.bool false)))))⟩])
    .ret)
    .skip))
  (.drw [⟨(some 31), none, 0, .see (.mov (.t 7))⟩,
    ⟨(some 32), none, 0, .see (.mov (.t 7))⟩,
    ⟨(some 33), none, 0, .see (.mov (.t 7))⟩,
    ⟨(some 34), none, 0, .see (.iaa 2 1 (.t 2) (.t 33))⟩,
    ⟨(some 35), none, 0, .see (.ld none (.t 34))⟩,
    ⟨(some 36), none, 0, .see (.bin .mul (.c (.r (.v (.int .i64 3)))) (.t 35))⟩,
    ⟨(some 37), none, 0, .see (.mov (.t 7))⟩,
    ⟨(some 38), none, 0, .see (.iaa 2 1 (.t 3) (.t 37))⟩,
    ⟨(some 39), none, 0, .see (.ld none (.t 38))⟩,
    ⟨(some 40), none, 0, .see (.bin .mul (.c (.r (.v (.int .i64 3)))) (.t 39))⟩,
    ⟨(some 41), none, 0, .see (.fa 0 (.t 6))⟩,
    ⟨(some 42), none, 0, .see (.iaa 2 1 (.t 41) (.t 31))⟩,
    ⟨none, none, 0, .act (.st 1 (.t 42) (.t 36))⟩,
    ⟨(some 43), none, 0, .see (.fa 2 (.t 6))⟩,
    ⟨(some 44), none, 0, .see (.iaa 2 1 (.t 43) (.t 32))⟩,
    ⟨none, none, 0, .act (.st 1 (.t 44) (.t 40))⟩]
    [[], [], [], [2], [2, 3], [2, 3, 4], [], [6], [6, 7], [6, 7, 8], [], [0, 2, 3, 4, 5, 10], [0, 2, 3, 4, 5, 10, 11], [], [0, 1, 2, 3, 4, 5, 6, 7, 8, 9, 10, 11, 12, 13], [0, 1, 2, 3, 4, 5, 6, 7, 8, 9, 10, 11, 12, 13, 14]]))))
  (.reg [⟨(some 45), none, 0, .see (.bin .add (.t 8) (.c (.r (.v (.int .i64 1)))))⟩,
    ⟨(some 8), none, 0, .see (.mov (.t 45))⟩])))))))
  (.seq (.reg [⟨(some 46), none, 0, .see (.ld (some 4) (.t 6))⟩,
    ⟨none, none, 0, .act (.st 4 (.t 4) (.t 46))⟩,
    ⟨(some 5), none, 0, .see (.mov (.c (.r (.v (.bool true)))))⟩])
  .ret))))
noncomputable abbrev cover_inThirds_code : Code := (Go.Proofs.Try.f81.body).getD .skip
theorem cover_inThirds_chk : chkC Go.Proofs.Try.prog 47 cover_inThirds_code cover_inThirds_pc = true := by kernel_rfl
theorem cover_inThirds_triple {args : List AV} {po ro : List Ob} {res : AV} (hal : args.length = 2) (hpo : po.length ≤ 1000)
    (h : run Go.Proofs.Try.prog po.length (RetP po.length [(4, false, some (112, (some 4))), (5, false, none)] fun v os => v = res ∧ os = ro) [.c cover_inThirds_pc] ⟨argE 0 args, ob0 po⟩) : Triple Go.Proofs.Try.prog 81 args po res ro :=
  triple_of_W (fn := Go.Proofs.Try.f81) (c := cover_inThirds_code) (pc := cover_inThirds_pc) (rs := [(4, false, some (112, (some 4))), (5, false, none)]) Go.Proofs.Try.func81 rfl (by decide) (by have := cover_inThirds_chk; exact this) (by rw [hal]; decide) rfl (by kernel_rfl) (by kernel_rfl) (by decide) hpo (W_of_run h)

noncomputable def cover_box_corners_pc : PC :=
  (.seq (.reg [⟨(some 1), none, 0, .act (.box (.t 0))⟩,
    ⟨(some 2), none, 0, .see (.mov (.c (.nils 2 (.agg [(.v (.int .i64 0)), (.v (.int .i64 0))]))))⟩])
  (.seq (.reg [⟨(some 3), none, 0, .see (.fa 0 (.t 1))⟩,
    ⟨(some 4), none, 0, .see (.ld (some 2) (.t 3))⟩,
    ⟨(some 5), none, 0, .see (.fa 2 (.t 1))⟩,
    ⟨(some 6), none, 0, .see (.iaa 2 1 (.t 5) (.c (.r (.v (.int .i64 0)))))⟩,
    ⟨(some 7), none, 0, .see (.ld none (.t 6))⟩,
    ⟨(some 8), none, 0, .see (.fa 0 (.t 1))⟩,
    ⟨(some 9), none, 0, .see (.iaa 2 1 (.t 8) (.c (.r (.v (.int .i64 1)))))⟩,
    ⟨(some 10), none, 0, .see (.ld none (.t 9))⟩,
    ⟨(some 11), none, 0, .see (.build [(.r (.v (.int .i64 0))), (.r (.v (.int .i64 0)))] [(0, 1, (.t 7)), (1, 1, (.t 10))])⟩,
    ⟨(some 12), none, 0, .see (.fa 2 (.t 1))⟩,
    ⟨(some 13), none, 0, .see (.ld (some 2) (.t 12))⟩,
    ⟨(some 14), none, 0, .see (.fa 0 (.t 1))⟩,
    ⟨(some 15), none, 0, .see (.iaa 2 1 (.t 14) (.c (.r (.v (.int .i64 0)))))⟩,
    ⟨(some 16), none, 0, .see (.ld none (.t 15))⟩,
    ⟨(some 17), none, 0, .see (.fa 2 (.t 1))⟩,
    ⟨(some 18), none, 0, .see (.iaa 2 1 (.t 17) (.c (.r (.v (.int .i64 1)))))⟩,
    ⟨(some 19), none, 0, .see (.ld none (.t 18))⟩,
    ⟨(some 20), none, 0, .see (.build [(.r (.v (.int .i64 0))), (.r (.v (.int .i64 0)))] [(0, 1, (.t 16)), (1, 1, (.t 19))])⟩,
    ⟨(some 21), none, 0, .act (.bsl 2 (.agg [(.v (.int .i64 0)), (.v (.int .i64 0))]) [(.t 4), (.t 11), (.t 13), (.t 20)])⟩,
    ⟨(some 2), none, 0, .see (.mov (.t 21))⟩])
  .ret))
noncomputable abbrev cover_box_corners_code : Code := (Go.Proofs.Try.f96.body).getD .skip
theorem cover_box_corners_chk : chkC Go.Proofs.Try.prog 22 cover_box_corners_code cover_box_corners_pc = true := by kernel_rfl
theorem cover_box_corners_triple {args : List AV} {po ro : List Ob} {res : AV} (hal : args.length = 1) (hpo : po.length ≤ 1000)
    (h : run Go.Proofs.Try.prog po.length (RetP po.length [(2, false, none)] fun v os => v = res ∧ os = ro) [.c cover_box_corners_pc] ⟨argE 0 args, ob0 po⟩) : Triple Go.Proofs.Try.prog 96 args po res ro :=
  triple_of_W (fn := Go.Proofs.Try.f96) (c := cover_box_corners_code) (pc := cover_box_corners_pc) (rs := [(2, false, none)]) Go.Proofs.Try.func96 rfl (by decide) (by have := cover_box_corners_chk; exact this) (by rw [hal]; decide) rfl (by kernel_rfl) (by kernel_rfl) (by decide) hpo (W_of_run h)

noncomputable def cover_box_beside_pc : PC :=
  (.seq (.reg [⟨(some 2), none, 0, .act (.box (.t 0))⟩,
    ⟨(some 4), none, 0, .see (.mov (.c (.r (.v (.bool false)))))⟩])
  (.seq (.seq (.reg [⟨(some 10), none, 0, .see (.mov (.c (.r (.v (.int .i64 0)))))⟩])
  (.block 0 (.loop (.seq (.reg [⟨(some 11), none, 0, .see (.bin .lss (.t 10) (.c (.r (.v (.int .i64 2)))))⟩])
  (.seq (.cond (.t 11)
    .skip
    (.exit 0))
  (.seq (.block 1 (.seq (.reg [⟨(some 12), none, 0, .see (.mov (.t 10))⟩,
    ⟨(some 5), none, 0, .see (.mov (.t 12))⟩])
  (.seq (.drw [⟨(some 13), none, 0, .see (.mov (.t 1))⟩,
    ⟨(some 14), none, 0, .see (.mov (.t 5))⟩,
    ⟨(some 15), none, 0, .see (.ia 2 (.agg [(.v (.int .i64 0)), (.v (.int .i64 0))]) (.t 13) (.c (.r (.v (.int .i64 0)))))⟩,
    ⟨(some 16), none, 0, .see (.iaa 2 1 (.t 15) (.t 14))⟩,
    ⟨(some 17), none, 0, .see (.ld none (.t 16))⟩,
    ⟨(some 18), none, 0, .see (.mov (.t 1))⟩,
    ⟨(some 19), none, 0, .see (.mov (.t 5))⟩,
    ⟨(some 20), none, 0, .see (.ia 2 (.agg [(.v (.int .i64 0)), (.v (.int .i64 0))]) (.t 18) (.c (.r (.v (.int .i64 0)))))⟩,
    ⟨(some 21), none, 0, .see (.iaa 2 1 (.t 20) (.t 19))⟩,
    ⟨(some 22), none, 0, .see (.ld none (.t 21))⟩,
    ⟨(some 6), none, 0, .see (.mov (.t 17))⟩,
    ⟨(some 7), none, 0, .see (.mov (.t 22))⟩]
    [[], [], [0], [0, 1, 2], [0, 1, 2, 3], [], [], [5], [5, 6, 7], [5, 6, 7, 8], [0, 1, 2, 3, 4], [0, 1, 2, 3, 4, 5, 6, 7, 8, 9, 10]])
  (.seq (.seq (.reg [⟨(some 23), none, 0, .see (.mov (.t 1))⟩,
    ⟨(some 24), none, 0, .see (.len false (.t 23))⟩,
    ⟨(some 25), none, 0, .see (.mov (.c (.r (.v (.int .i64 0)))))⟩])
  (.block 2 (.loop (.seq (.reg [⟨(some 26), none, 0, .see (.bin .lss (.t 25) (.t 24))⟩])
  (.seq (.cond (.t 26)
    .skip
    (.exit 2))
  (.seq (.block 3 (.seq (.reg [⟨(some 27), none, 0, .see (.ia 2 (.agg [(.v (.int .i64 0)), (.v (.int .i64 0))]) (.t 23) (.t 25))⟩,
    ⟨(some 28), none, 0, .see (.ld (some 2) (.t 27))⟩,
    ⟨(some 9), none, 0, .act (.new [(.r (.v (.int .i64 0))), (.r (.v (.int .i64 0)))])⟩,
    ⟨none, none, 0, .act (.st 2 (.t 9) (.t 28))⟩])
  (.drw [⟨(some 29), none, 0, .see (.mov (.t 6))⟩,
    ⟨(some 30), none, 0, .see (.mov (.t 5))⟩,
    ⟨(some 31), none, 0, .see (.iaa 2 1 (.t 9) (.t 30))⟩,
    ⟨(some 32), none, 0, .see (.ld none (.t 31))⟩,
    ⟨(some 33), none, 0, .see (.mm false (.t 29) [(.t 32)])⟩,
    ⟨(some 34), none, 0, .see (.mov (.t 7))⟩,
    ⟨(some 35), none, 0, .see (.mov (.t 5))⟩,
    ⟨(some 36), none, 0, .see (.iaa 2 1 (.t 9) (.t 35))⟩,
    ⟨(some 37), none, 0, .see (.ld none (.t 36))⟩,
    ⟨(some 38), none, 0, .see (.mm true (.t 34) [(.t 37)])⟩,
    ⟨(some 6), none, 0, .see (.mov (.t 33))⟩,
    ⟨(some 7), none, 0, .see (.mov (.t 38))⟩]
    [[], [], [1], [1, 2], [0, 1, 2, 3], [], [], [6], [6, 7], [5, 6, 7, 8], [0, 1, 2, 3, 4], [0, 1, 2, 3, 4, 5, 6, 7, 8, 9, 10]])))
  (.reg [⟨(some 39), none, 0, .see (.bin .add (.t 25) (.c (.r (.v (.int .i64 1)))))⟩,
    ⟨(some 25), none, 0, .see (.mov (.t 39))⟩])))))))
  (.seq (.reg [⟨(some 40), none, 0, .see (.mov (.t 7))⟩,
    ⟨(some 41), none, 0, .see (.mov (.t 5))⟩,
    ⟨(some 42), none, 0, .see (.fa 0 (.t 2))⟩,
    ⟨(some 43), none, 0, .see (.iaa 2 1 (.t 42) (.t 41))⟩,
    ⟨(some 44), none, 0, .see (.ld none (.t 43))⟩,
    ⟨(some 45), none, 0, .see (.bin .lss (.t 40) (.t 44))⟩,
    ⟨(some 46), none, 0, .see (.mov (.t 45))⟩,
    ⟨(some 47), (some (46, false)), 0, .see (.mov (.t 6))⟩,
    ⟨(some 48), (some (46, false)), 0, .see (.mov (.t 5))⟩,
    ⟨(some 49), (some (46, false)), 0, .see (.fa 2 (.t 2))⟩,
    ⟨(some 50), (some (46, false)), 0, .see (.iaa 2 1 (.t 49) (.t 48))⟩,
    ⟨(some 51), (some (46, false)), 0, .see (.ld none (.t 50))⟩,
    ⟨(some 52), (some (46, false)), 0, .see (.bin .gtr (.t 47) (.t 51))⟩,
    ⟨(some 53), none, 0, .see (.pick (.t 46) (.c (.r (.v (.bool true)))) (.t 52))⟩])
  (.cond (.t 53)
    (.seq (.reg [⟨(some 4), none, 0, .see (.mov (.c (.r (.v (.bool true)))))⟩])
    .ret)
    .skip))))))
  (.reg [⟨(some 54), none, 0, .see (.bin .add (.t 10) (.c (.r (.v (.int .i64 1)))))⟩,
    ⟨(some 10), none, 0, .see (.mov (.t 54))⟩])))))))
  (.seq (.reg [⟨(some 4), none, 0, .see (.mov (.c (.r (.v (.bool false)))))⟩])
  .ret)))
noncomputable abbrev cover_box_beside_code : Code := (Go.Proofs.Try.f90.body).getD .skip
theorem cover_box_beside_chk : chkC Go.Proofs.Try.prog 55 cover_box_beside_code cover_box_beside_pc = true := by kernel_rfl
theorem cover_box_beside_triple {args : List AV} {po ro : List Ob} {res : AV} (hal : args.length = 2) (hpo : po.length ≤ 1000)
    (h : run Go.Proofs.Try.prog po.length (RetP po.length [(4, false, none)] fun v os => v = res ∧ os = ro) [.c cover_box_beside_pc] ⟨argE 0 args, ob0 po⟩) : Triple Go.Proofs.Try.prog 90 args po res ro :=
  triple_of_W (fn := Go.Proofs.Try.f90) (c := cover_box_beside_code) (pc := cover_box_beside_pc) (rs := [(4, false, none)]) Go.Proofs.Try.func90 rfl (by decide) (by have := cover_box_beside_chk; exact this) (by rw [hal]; decide) rfl (by kernel_rfl) (by kernel_rfl) (by decide) hpo (W_of_run h)

noncomputable def cover_box_outside_pc : PC :=
  (.seq (.reg [⟨(some 3), none, 0, .act (.box (.t 0))⟩,
    ⟨(some 4), none, 0, .act (.box (.t 1))⟩,
    ⟨(some 5), none, 0, .act (.box (.t 2))⟩,
    ⟨(some 6), none, 0, .see (.mov (.c (.r (.v (.bool false)))))⟩])
  (.seq (.seq (.reg [⟨(some 9), none, 0, .see (.ld (some 4) (.t 3))⟩,
    ⟨(some 10), none, 1, .call 96 [(.t 9)]⟩,
    ⟨(some 11), none, 0, .see (.len false (.t 10))⟩,
    ⟨(some 12), none, 0, .see (.mov (.c (.r (.v (.int .i64 0)))))⟩])
  (.block 0 (.loop (.seq (.reg [⟨(some 13), none, 0, .see (.bin .lss (.t 12) (.t 11))⟩])
  (.seq (.cond (.t 13)
    .skip
    (.exit 0))
  (.seq (.block 1 (.seq (.reg [⟨(some 14), none, 0, .see (.ia 2 (.agg [(.v (.int .i64 0)), (.v (.int .i64 0))]) (.t 10) (.t 12))⟩,
    ⟨(some 15), none, 0, .see (.ld (some 2) (.t 14))⟩,
    ⟨(some 8), none, 0, .act (.new [(.r (.v (.int .i64 0))), (.r (.v (.int .i64 0)))])⟩,
    ⟨none, none, 0, .act (.st 2 (.t 8) (.t 15))⟩])
  (.seq (.reg [⟨(some 16), none, 0, .see (.iaa 2 1 (.t 5) (.c (.r (.v (.int .i64 0)))))⟩,
    ⟨(some 17), none, 0, .see (.ld none (.t 16))⟩,
    ⟨(some 18), none, 0, .see (.iaa 2 1 (.t 4) (.c (.r (.v (.int .i64 0)))))⟩,
    ⟨(some 19), none, 0, .see (.ld none (.t 18))⟩,
    ⟨(some 20), none, 0, .see (.bin .sub (.t 17) (.t 19))⟩,
    ⟨(some 21), none, 0, .see (.iaa 2 1 (.t 8) (.c (.r (.v (.int .i64 1)))))⟩,
    ⟨(some 22), none, 0, .see (.ld none (.t 21))⟩,
    ⟨(some 23), none, 0, .see (.iaa 2 1 (.t 4) (.c (.r (.v (.int .i64 1)))))⟩,
    ⟨(some 24), none, 0, .see (.ld none (.t 23))⟩,
    ⟨(some 25), none, 0, .see (.bin .sub (.t 22) (.t 24))⟩,
    ⟨(some 26), none, 0, .see (.bin .mul (.t 20) (.t 25))⟩,
    ⟨(some 27), none, 0, .see (.iaa 2 1 (.t 5) (.c (.r (.v (.int .i64 1)))))⟩,
    ⟨(some 28), none, 0, .see (.ld none (.t 27))⟩,
    ⟨(some 29), none, 0, .see (.iaa 2 1 (.t 4) (.c (.r (.v (.int .i64 1)))))⟩,
    ⟨(some 30), none, 0, .see (.ld none (.t 29))⟩,
    ⟨(some 31), none, 0, .see (.bin .sub (.t 28) (.t 30))⟩,
    ⟨(some 32), none, 0, .see (.iaa 2 1 (.t 8) (.c (.r (.v (.int .i64 0)))))⟩,
    ⟨(some 33), none, 0, .see (.ld none (.t 32))⟩,
    ⟨(some 34), none, 0, .see (.iaa 2 1 (.t 4) (.c (.r (.v (.int .i64 0)))))⟩,
    ⟨(some 35), none, 0, .see (.ld none (.t 34))⟩,
    ⟨(some 36), none, 0, .see (.bin .sub (.t 33) (.t 35))⟩,
    ⟨(some 37), none, 0, .see (.bin .mul (.t 31) (.t 36))⟩,
    ⟨(some 38), none, 0, .see (.bin .sub (.t 26) (.t 37))⟩,
    ⟨(some 39), none, 0, .see (.bin .geq (.t 38) (.c (.r (.v (.int .i64 0)))))⟩])
  (.cond (.t 39)
    (.seq (.reg [⟨(some 6), none, 0, .see (.mov (.c (.r (.v (.bool false)))))⟩])
    .ret)
    .skip))))
  (.reg [⟨(some 40), none, 0, .see (.bin .add (.t 12) (.c (.r (.v (.int .i64 1)))))⟩,
    ⟨(some 12), none, 0, .see (.mov (.t 40))⟩])))))))
  (.seq (.reg [⟨(some 6), none, 0, .see (.mov (.c (.r (.v (.bool true)))))⟩])
  .ret)))
noncomputable abbrev cover_box_outside_code : Code := (Go.Proofs.Try.f91.body).getD .skip
theorem cover_box_outside_chk : chkC Go.Proofs.Try.prog 41 cover_box_outside_code cover_box_outside_pc = true := by kernel_rfl
theorem cover_box_outside_triple {args : List AV} {po ro : List Ob} {res : AV} (hal : args.length = 3) (hpo : po.length ≤ 1000)
    (h : run Go.Proofs.Try.prog po.length (RetP po.length [(6, false, none)] fun v os => v = res ∧ os = ro) [.c cover_box_outside_pc] ⟨argE 0 args, ob0 po⟩) : Triple Go.Proofs.Try.prog 91 args po res ro :=
  triple_of_W (fn := Go.Proofs.Try.f91) (c := cover_box_outside_code) (pc := cover_box_outside_pc) (rs := [(6, false, none)]) Go.Proofs.Try.func91 rfl (by decide) (by have := cover_box_outside_chk; exact this) (by rw [hal]; decide) rfl (by kernel_rfl) (by kernel_rfl) (by decide) hpo (W_of_run h)

noncomputable def cover_box_touches_pc : PC :=
  (.seq (.reg [⟨(some 2), none, 0, .act (.box (.t 0))⟩,
    ⟨(some 4), none, 0, .see (.mov (.c (.r (.v (.bool false)))))⟩])
  (.seq (.seq (.reg [⟨(some 7), none, 0, .see (.ld (some 4) (.t 2))⟩,
    ⟨(some 8), none, 0, .see (.mov (.t 1))⟩,
    ⟨(some 9), none, 1, .call 90 [(.t 7), (.t 8)]⟩])
  (.cond (.t 9)
    (.seq (.reg [⟨(some 4), none, 0, .see (.mov (.c (.r (.v (.bool false)))))⟩])
    .ret)
    .skip))
  (.seq (.seq (.reg [⟨(some 10), none, 0, .see (.mov (.t 1))⟩,
    ⟨(some 11), none, 0, .see (.len false (.t 10))⟩,
    ⟨(some 12), none, 0, .see (.mov (.c (.r (.v (.int .i64 0)))))⟩])
  (.block 0 (.loop (.seq (.reg [⟨(some 13), none, 0, .see (.bin .lss (.t 12) (.t 11))⟩])
  (.seq (.cond (.t 13)
    .skip
    (.exit 0))
  (.seq (.block 1 (.seq (.reg [⟨(some 14), none, 0, .see (.mov (.t 12))⟩,
    ⟨(some 15), none, 0, .see (.ia 2 (.agg [(.v (.int .i64 0)), (.v (.int .i64 0))]) (.t 10) (.t 12))⟩,
    ⟨(some 16), none, 0, .see (.ld (some 2) (.t 15))⟩,
    ⟨(some 6), none, 0, .act (.new [(.r (.v (.int .i64 0))), (.r (.v (.int .i64 0)))])⟩,
    ⟨(some 5), none, 0, .see (.mov (.t 14))⟩,
    ⟨none, none, 0, .act (.st 2 (.t 6) (.t 16))⟩])
  (.seq (.drw [⟨(some 17), none, 0, .see (.ld (some 4) (.t 2))⟩,
    ⟨(some 18), none, 0, .see (.ld (some 2) (.t 6))⟩,
    ⟨(some 19), none, 0, .see (.mov (.t 1))⟩,
    ⟨(some 20), none, 0, .see (.mov (.t 5))⟩,
    ⟨(some 21), none, 0, .see (.bin .add (.t 20) (.c (.r (.v (.int .i64 1)))))⟩,
    ⟨(some 22), none, 0, .see (.mov (.t 1))⟩,
    ⟨(some 23), none, 0, .see (.len false (.t 22))⟩,
    ⟨(some 24), none, 0, .see (.bin .rem (.t 21) (.t 23))⟩,
    ⟨(some 25), none, 0, .see (.ia 2 (.agg [(.v (.int .i64 0)), (.v (.int .i64 0))]) (.t 19) (.t 24))⟩,
    ⟨(some 26), none, 0, .see (.ld (some 2) (.t 25))⟩,
    ⟨(some 27), none, 2, .call 91 [(.t 17), (.t 18), (.t 26)]⟩]
    [[], [], [], [], [3], [], [5], [3, 4, 5, 6], [2, 3, 4, 5, 6, 7], [2, 3, 4, 5, 6, 7, 8], [0, 1, 2, 3, 4, 5, 6, 7, 8, 9]])
  (.cond (.t 27)
    (.seq (.reg [⟨(some 4), none, 0, .see (.mov (.c (.r (.v (.bool false)))))⟩])
    .ret)
    .skip))))
  (.reg [⟨(some 28), none, 0, .see (.bin .add (.t 12) (.c (.r (.v (.int .i64 1)))))⟩,
    ⟨(some 12), none, 0, .see (.mov (.t 28))⟩])))))))
  (.seq (.reg [⟨(some 4), none, 0, .see (.mov (.c (.r (.v (.bool true)))))⟩])
  .ret))))
noncomputable abbrev cover_box_touches_code : Code := (Go.Proofs.Try.f83.body).getD .skip
theorem cover_box_touches_chk : chkC Go.Proofs.Try.prog 29 cover_box_touches_code cover_box_touches_pc = true := by kernel_rfl
theorem cover_box_touches_triple {args : List AV} {po ro : List Ob} {res : AV} (hal : args.length = 2) (hpo : po.length ≤ 1000)
    (h : run Go.Proofs.Try.prog po.length (RetP po.length [(4, false, none)] fun v os => v = res ∧ os = ro) [.c cover_box_touches_pc] ⟨argE 0 args, ob0 po⟩) : Triple Go.Proofs.Try.prog 83 args po res ro :=
  triple_of_W (fn := Go.Proofs.Try.f83) (c := cover_box_touches_code) (pc := cover_box_touches_pc) (rs := [(4, false, none)]) Go.Proofs.Try.func83 rfl (by decide) (by have := cover_box_touches_chk; exact this) (by rw [hal]; decide) rfl (by kernel_rfl) (by kernel_rfl) (by decide) hpo (W_of_run h)

noncomputable def cover_Touches_pc : PC :=
  (.seq (.reg [⟨(some 3), none, 0, .act (.box (.t 0))⟩,
    ⟨(some 4), none, 0, .act (.box (.t 1))⟩,
    ⟨(some 5), none, 0, .act (.box (.t 2))⟩,
    ⟨(some 6), none, 0, .see (.mov (.c (.r (.v (.bool false)))))⟩])
  (.seq (.reg [⟨(some 12), none, 0, .see (.ld (some 2) (.t 4))⟩,
    ⟨(some 13), none, 0, .see (.ld (some 2) (.t 5))⟩,
    ⟨(some 14), none, 1, .call 81 [(.t 12), (.t 13)]⟩,
    ⟨(some 11), none, 0, .see (.mov (.t 14))⟩,
    ⟨(some 15), none, 0, .see (.ext (.t 11) 0)⟩,
    ⟨(some 16), none, 0, .see (.ext (.t 11) 1)⟩,
    ⟨(some 7), none, 0, .act (.new [(.r (.v (.int .i64 0))), (.r (.v (.int .i64 0))), (.r (.v (.int .i64 0))), (.r (.v (.int .i64 0)))])⟩,
    ⟨none, none, 0, .act (.st 4 (.t 7) (.t 15))⟩,
    ⟨(some 8), none, 0, .see (.mov (.t 16))⟩])
  (.seq (.seq (.reg [⟨(some 17), none, 0, .see (.mov (.t 8))⟩,
    ⟨(some 18), none, 0, .see (.un .not (.t 17))⟩,
    ⟨(some 19), none, 0, .see (.mov (.t 18))⟩,
    ⟨(some 20), (some (19, false)), 0, .see (.ld (some 3) (.t 3))⟩,
    ⟨(some 21), (some (19, false)), 2, .call 82 [(.t 20)]⟩,
    ⟨(some 22), (some (19, false)), 0, .see (.un .not (.t 21))⟩,
    ⟨(some 23), none, 0, .see (.pick (.t 19) (.c (.r (.v (.bool true)))) (.t 22))⟩])
  (.cond (.t 23)
    (.seq (.reg [⟨(some 6), none, 0, .see (.mov (.c (.r (.v (.bool false)))))⟩])
    .ret)
    .skip))
  (.seq (.reg [⟨(some 25), none, 0, .see (.fa 1 (.t 3))⟩,
    ⟨(some 26), none, 0, .see (.ld (some 2) (.t 25))⟩,
    ⟨(some 27), none, 0, .see (.fa 0 (.t 3))⟩,
    ⟨(some 28), none, 0, .see (.ld none (.t 27))⟩,
    ⟨(some 29), none, 3, .call 21 [(.t 26), (.t 28)]⟩,
    ⟨(some 24), none, 0, .see (.mov (.t 29))⟩,
    ⟨(some 30), none, 0, .see (.ext (.t 24) 0)⟩,
    ⟨(some 31), none, 0, .see (.ext (.t 24) 1)⟩,
    ⟨(some 9), none, 0, .see (.mov (.t 30))⟩,
    ⟨(some 10), none, 0, .see (.mov (.t 31))⟩])
  (.seq (.reg [⟨(some 32), none, 0, .see (.ld (some 4) (.t 7))⟩,
    ⟨(some 33), none, 0, .see (.mov (.t 9))⟩,
    ⟨(some 34), none, 4, .call 83 [(.t 32), (.t 33)]⟩,
    ⟨(some 6), none, 0, .see (.mov (.t 34))⟩])
  .ret)))))
noncomputable abbrev cover_Touches_code : Code := (Go.Proofs.Try.f64.body).getD .skip
theorem cover_Touches_chk : chkC Go.Proofs.Try.prog 35 cover_Touches_code cover_Touches_pc = true := by kernel_rfl
theorem cover_Touches_triple {args : List AV} {po ro : List Ob} {res : AV} (hal : args.length = 3) (hpo : po.length ≤ 1000)
    (h : run Go.Proofs.Try.prog po.length (RetP po.length [(6, false, none)] fun v os => v = res ∧ os = ro) [.c cover_Touches_pc] ⟨argE 0 args, ob0 po⟩) : Triple Go.Proofs.Try.prog 64 args po res ro :=
  triple_of_W (fn := Go.Proofs.Try.f64) (c := cover_Touches_code) (pc := cover_Touches_pc) (rs := [(6, false, none)]) Go.Proofs.Try.func64 rfl (by decide) (by have := cover_Touches_chk; exact this) (by rw [hal]; decide) rfl (by kernel_rfl) (by kernel_rfl) (by decide) hpo (W_of_run h)

/-- A point. -/
def pv (x y : Int) : AV := .r (pnt x y)
/-- A box. -/
def bxv (lx ly ux uy : Int) : AV := .r (.agg [.v (.int .i64 lx), .v (.int .i64 ly), .v (.int .i64 ux), .v (.int .i64 uy)])
def in31 (x : Int) : Prop := -2147483648 ≤ x ∧ x ≤ 2147483648
def ibx (lx ly ux uy i : Int) : List AV := if i = 0 then [int .i64 0, int .i64 0, int .i64 0, int .i64 0] else if i = 1 then [int .i64 (3 * lx), int .i64 0, int .i64 (3 * ux), int .i64 0] else [int .i64 (3 * lx), int .i64 (3 * ly), int .i64 (3 * ux), int .i64 (3 * uy)]
theorem ibx_0 (lx ly ux uy : Int) : ibx lx ly ux uy 0 = [int .i64 0, int .i64 0, int .i64 0, int .i64 0] := rfl
theorem ibx_1 (lx ly ux uy : Int) : ibx lx ly ux uy 1 = [int .i64 (3 * lx), int .i64 0, int .i64 (3 * ux), int .i64 0] := rfl
theorem ibx_2 (lx ly ux uy : Int) : ibx lx ly ux uy 2 = [int .i64 (3 * lx), int .i64 (3 * ly), int .i64 (3 * ux), int .i64 (3 * uy)] := rfl
set_option maxRecDepth 100000 in
theorem inThirds_t (lx ly ux uy : Int) (h1 : in31 lx) (h2 : in31 ly) (h3 : in31 ux) (h4 : in31 uy) (hx : lx ≤ ux) (hy : ly ≤ uy) : Triple Go.Proofs.Try.prog 81 [pv lx ly, pv ux uy] [] (.tup [bxv (3 * lx) (3 * ly) (3 * ux) (3 * uy), bl true]) [] := by
  refine cover_inThirds_triple rfl (by decide) ?_
  simp only [cover_inThirds_pc, pv, pnt, bxv, List.length_nil, push_cast, ↓reduceIte, reduceCtorEq, Nat.reduceBEq, Nat.reduceEqDiff, Nat.reduceAdd, Nat.reduceSub, Nat.reduceLT, Nat.reduceLeDiff, Nat.reduceMul]
  unfold in31 at h1 h2 h3 h4
  refine run_loop [(8, false), (6, false), (4, false), (3, false), (2, false)] (fun vs pos los => ∃ i : Int, (i = 0 ∨ i = 1 ∨ i = 2) ∧ vs = [int .i64 i, .ptr 2000000 0 0, .ptr 2000001 0 0, .ptr 2000002 0 0, .ptr 2000003 0 0] ∧ pos = [] ∧
    los = [.box (ibx lx ly ux uy i), .box [int .i64 0, int .i64 0, int .i64 0, int .i64 0], .box [int .i64 ux, int .i64 uy], .box [int .i64 lx, int .i64 ly]])
    (fun vs _ _ => match vs with | .r (.v (.int _ j)) :: _ => (2 - j).toNat | _ => 0) rfl ?_ ?_
  · simp only [push_cast, ↓reduceIte, reduceCtorEq, Nat.reduceBEq, Nat.reduceEqDiff, Nat.reduceAdd, Nat.reduceSub, Nat.reduceLT, Nat.reduceLeDiff, Nat.reduceMul]
    exact ⟨0, by omega, rfl, rfl⟩
  · rintro vs pos los ⟨i, rfl | rfl | rfl, rfl, rfl, rfl⟩
    · have g1 : decide (lx < -2147483648) = false := by simp; omega
      have g2 : decide (ux > 2147483648) = false := by simp; omega
      have g3 : decide (ux < lx) = false := by simp; omega
      have g0 : decide ((0 : Int) < 2) = true := rfl
      have e1 : IntKind.i64.wrap (3 * lx) = 3 * lx := wrap_id (by omega)
      have e2 : IntKind.i64.wrap (3 * ux) = 3 * ux := wrap_id (by omega)
      have e3 : IntKind.i64.wrap (0 + 1) = 1 := by decide
      simp only [ibx_0, g0, g1, g2, g3, e1, e2, e3, Int.reduceToNat, push_cast, ↓reduceIte, reduceCtorEq, Nat.reduceBEq, Nat.reduceEqDiff, Nat.reduceAdd, Nat.reduceSub, Nat.reduceLT, Nat.reduceLeDiff, Nat.reduceMul]
      repeat refine And.intro (by first | decide | kernel_rfl) ?_
      exact ⟨⟨1, by omega, rfl, rfl⟩, by decide⟩
    · have g1 : decide (ly < -2147483648) = false := by simp; omega
      have g2 : decide (uy > 2147483648) = false := by simp; omega
      have g3 : decide (uy < ly) = false := by simp; omega
      have g0 : decide ((1 : Int) < 2) = true := rfl
      have e1 : IntKind.i64.wrap (3 * ly) = 3 * ly := wrap_id (by omega)
      have e2 : IntKind.i64.wrap (3 * uy) = 3 * uy := wrap_id (by omega)
      have e3 : IntKind.i64.wrap (1 + 1) = 2 := by decide
      simp only [ibx_1, g0, g1, g2, g3, e1, e2, e3, Int.reduceToNat, push_cast, ↓reduceIte, reduceCtorEq, Nat.reduceBEq, Nat.reduceEqDiff, Nat.reduceAdd, Nat.reduceSub, Nat.reduceLT, Nat.reduceLeDiff, Nat.reduceMul]
      repeat refine And.intro (by first | decide | kernel_rfl) ?_
      exact ⟨⟨2, by omega, rfl, rfl⟩, by decide⟩
    · have g0 : decide ((2 : Int) < 2) = false := rfl
      simp only [ibx_2, g0, Int.reduceToNat, push_cast, ↓reduceIte, reduceCtorEq, Nat.reduceBEq, Nat.reduceEqDiff, Nat.reduceAdd, Nat.reduceSub, Nat.reduceLT, Nat.reduceLeDiff, Nat.reduceMul]
set_option maxRecDepth 100000 in
theorem corners_t (lx ly ux uy : Int) : Triple Go.Proofs.Try.prog 96 [bxv lx ly ux uy] [] (.own 1000000 0 0 4) [.row 2 (pnt 0 0) true true [pnt lx ly, pnt ux ly, pnt ux uy, pnt lx uy]] := by
  refine cover_box_corners_triple rfl (by decide) ?_
  simp only [cover_box_corners_pc, pnt, bxv, List.length_nil, Int.reduceToNat, push_cast, ↓reduceIte, reduceCtorEq, Nat.reduceBEq, Nat.reduceEqDiff, Nat.reduceAdd, Nat.reduceSub, Nat.reduceLT, Nat.reduceLeDiff, Nat.reduceMul]
  decide
theorem hexL_lenI (z : Ei) (r : Nat) : ((hexL z r 6).length : Int) = 6 := by rw [hexL_len]; rfl
theorem hexL_at (z : Ei) (r n i : Nat) (h : i < n) (d : RV) : (hexL z r n).getD i d = .agg [.v (.int .i64 (hx z r i)), .v (.int .i64 (hy z r i))] := by
  rw [List.getD_eq_getElem?_getD]
  simp [hexL, h, hexP, pnt]
/-- The corners are no farther than this. -/
def hexIn (z : Ei) (r : Nat) : Prop := ∀ i, i < 6 → (-4294967296 ≤ hx z r i ∧ hx z r i ≤ 4294967296) ∧ (-4294967296 ≤ hy z r i ∧ hy z r i ≤ 4294967296)
abbrev hexS (z : Ei) (r : Nat) : AV := .r (.sl 2 (hexL z r 6))
set_option maxRecDepth 100000 in
theorem beside_t (z : Ei) (r : Nat) (lx ly ux uy : Int) (hb : hexIn z r) : Triple Go.Proofs.Try.prog 90 [bxv lx ly ux uy, hexS z r] [] (bl (decide (beside z r lx ly ux uy))) [] := by
  refine cover_box_beside_triple rfl (by decide) ?_
  simp only [cover_box_beside_pc, bxv, List.length_nil, push_cast, ↓reduceIte, reduceCtorEq, Nat.reduceBEq, Nat.reduceEqDiff, Nat.reduceAdd, Nat.reduceSub, Nat.reduceLT, Nat.reduceLeDiff, Nat.reduceMul]
  refine run_loop [(10, false), (2, false), (1, false)] (fun vs pos los => ∃ i : Int, (i = 0 ∨ (i = 1 ∧ ¬ (mxN (hx z r) 6 < lx ∨ ux < mnN (hx z r) 6)) ∨ (i = 2 ∧ ¬ beside z r lx ly ux uy)) ∧ vs = [int .i64 i, .ptr 2000000 0 0, hexS z r] ∧ pos = [] ∧
    los = [.box [int .i64 lx, int .i64 ly, int .i64 ux, int .i64 uy]])
    (fun vs _ _ => match vs with | .r (.v (.int _ j)) :: _ => (2 - j).toNat | _ => 0) rfl ?_ ?_
  · simp only [push_cast, ↓reduceIte, reduceCtorEq, Nat.reduceBEq, Nat.reduceEqDiff, Nat.reduceAdd, Nat.reduceSub, Nat.reduceLT, Nat.reduceLeDiff, Nat.reduceMul]
    exact ⟨0, by omega, rfl⟩
  · rintro vs pos los ⟨i, hi | hi | hi, rfl, rfl, rfl⟩
    · obtain rfl := hi
      have g0 : decide ((0 : Int) < 2) = true := rfl
      simp only [g0, hexL_lenI, hexL_at z r 6 0 (by decide), Int.reduceToNat, push_cast, ↓reduceIte, reduceCtorEq, Nat.reduceBEq, Nat.reduceEqDiff, Nat.reduceAdd, Nat.reduceSub, Nat.reduceLT, Nat.reduceLeDiff, Nat.reduceMul]
      repeat refine And.intro (by first | decide | kernel_rfl) ?_
      refine run_loop [(25, false), (24, false), (23, false), (6, false), (7, false), (5, false), (2, false), (1, false), (10, false)] (fun vs pos los => ∃ k : Nat, k ≤ 6 ∧ vs = [int .i64 k, int .i64 6, hexS z r, int .i64 (mnN (hx z r) k), int .i64 (mxN (hx z r) k), int .i64 0, .ptr 2000000 0 0, hexS z r, int .i64 0] ∧ pos = [] ∧
        los = [.box [int .i64 lx, int .i64 ly, int .i64 ux, int .i64 uy]])
        (fun vs _ _ => match vs with | .r (.v (.int _ j)) :: _ => (6 - j).toNat | _ => 0) rfl ?_ ?_
      · simp only [push_cast, ↓reduceIte, reduceCtorEq, Nat.reduceBEq, Nat.reduceEqDiff, Nat.reduceAdd, Nat.reduceSub, Nat.reduceLT, Nat.reduceLeDiff, Nat.reduceMul]
        exact ⟨0, by omega, rfl⟩
      · rintro vs pos los ⟨k, hk, rfl, rfl, rfl⟩
        simp only [push_cast, ↓reduceIte, reduceCtorEq, Nat.reduceBEq, Nat.reduceEqDiff, Nat.reduceAdd, Nat.reduceSub, Nat.reduceLT, Nat.reduceLeDiff, Nat.reduceMul]
        refine cnd_mk (fun h => ?_) (fun h => ?_)
        · have hi : k < 6 := by simp at h; omega
          simp only [hexL_lenI, Int.toNat_natCast, hexL_at z r 6 k hi, Int.reduceToNat, push_cast, ↓reduceIte, reduceCtorEq, Nat.reduceBEq, Nat.reduceEqDiff, Nat.reduceAdd, Nat.reduceSub, Nat.reduceLT, Nat.reduceLeDiff, Nat.reduceMul]
          rw [show IntKind.i64.wrap ((k : Int) + 1) = ((k + 1 : Nat) : Int) by rw [wrap_id (by omega)]; omega]
          refine ⟨by omega, by decide, by decide, by kernel_rfl, ⟨k + 1, by omega, rfl⟩, by omega⟩
        · have hi : k = 6 := by simp at h; omega
          subst hi
          simp only [Int.reduceToNat, push_cast, ↓reduceIte, reduceCtorEq, Nat.reduceBEq, Nat.reduceEqDiff, Nat.reduceAdd, Nat.reduceSub, Nat.reduceLT, Nat.reduceLeDiff, Nat.reduceMul]
          repeat refine And.intro (by first | decide | exact fun _ => by decide | (simp +contextual; done) | kernel_rfl) ?_
          refine cnd_mk (fun h => ?_) (fun h => ?_)
          · have hbe : mxN (hx z r) 6 < lx ∨ ux < mnN (hx z r) 6 := by simpa using h
            simp only [push_cast, ↓reduceIte, reduceCtorEq, Nat.reduceBEq, Nat.reduceEqDiff, Nat.reduceAdd, Nat.reduceSub, Nat.reduceLT, Nat.reduceLeDiff, Nat.reduceMul]
            rw [decide_eq_true (show beside z r lx ly ux uy from .inl hbe)]
          · have hne : ¬ (mxN (hx z r) 6 < lx ∨ ux < mnN (hx z r) 6) := by
              have := h
              simp at this
              omega
            simp only [push_cast, ↓reduceIte, reduceCtorEq, Nat.reduceBEq, Nat.reduceEqDiff, Nat.reduceAdd, Nat.reduceSub, Nat.reduceLT, Nat.reduceLeDiff, Nat.reduceMul]
            refine ⟨⟨1, .inr (.inl ⟨rfl, hne⟩), rfl⟩, by decide⟩
    · obtain ⟨rfl, hn⟩ := hi
      have g0 : decide ((1 : Int) < 2) = true := rfl
      simp only [g0, hexL_lenI, hexL_at z r 6 0 (by decide), Int.reduceToNat, push_cast, ↓reduceIte, reduceCtorEq, Nat.reduceBEq, Nat.reduceEqDiff, Nat.reduceAdd, Nat.reduceSub, Nat.reduceLT, Nat.reduceLeDiff, Nat.reduceMul]
      repeat refine And.intro (by first | decide | kernel_rfl) ?_
      refine run_loop [(25, false), (24, false), (23, false), (6, false), (7, false), (5, false), (2, false), (1, false), (10, false)] (fun vs pos los => ∃ k : Nat, k ≤ 6 ∧ vs = [int .i64 k, int .i64 6, hexS z r, int .i64 (mnN (hy z r) k), int .i64 (mxN (hy z r) k), int .i64 1, .ptr 2000000 0 0, hexS z r, int .i64 1] ∧ pos = [] ∧
        los = [.box [int .i64 lx, int .i64 ly, int .i64 ux, int .i64 uy]])
        (fun vs _ _ => match vs with | .r (.v (.int _ j)) :: _ => (6 - j).toNat | _ => 0) rfl ?_ ?_
      · simp only [push_cast, ↓reduceIte, reduceCtorEq, Nat.reduceBEq, Nat.reduceEqDiff, Nat.reduceAdd, Nat.reduceSub, Nat.reduceLT, Nat.reduceLeDiff, Nat.reduceMul]
        exact ⟨0, by omega, rfl⟩
      · rintro vs pos los ⟨k, hk, rfl, rfl, rfl⟩
        simp only [push_cast, ↓reduceIte, reduceCtorEq, Nat.reduceBEq, Nat.reduceEqDiff, Nat.reduceAdd, Nat.reduceSub, Nat.reduceLT, Nat.reduceLeDiff, Nat.reduceMul]
        refine cnd_mk (fun h => ?_) (fun h => ?_)
        · have hi : k < 6 := by simp at h; omega
          simp only [hexL_lenI, Int.toNat_natCast, hexL_at z r 6 k hi, Int.reduceToNat, push_cast, ↓reduceIte, reduceCtorEq, Nat.reduceBEq, Nat.reduceEqDiff, Nat.reduceAdd, Nat.reduceSub, Nat.reduceLT, Nat.reduceLeDiff, Nat.reduceMul]
          rw [show IntKind.i64.wrap ((k : Int) + 1) = ((k + 1 : Nat) : Int) by rw [wrap_id (by omega)]; omega]
          refine ⟨by omega, by decide, by decide, by kernel_rfl, ⟨k + 1, by omega, rfl⟩, by omega⟩
        · have hi : k = 6 := by simp at h; omega
          subst hi
          simp only [Int.reduceToNat, push_cast, ↓reduceIte, reduceCtorEq, Nat.reduceBEq, Nat.reduceEqDiff, Nat.reduceAdd, Nat.reduceSub, Nat.reduceLT, Nat.reduceLeDiff, Nat.reduceMul]
          repeat refine And.intro (by first | decide | exact fun _ => by decide | (simp +contextual; done) | kernel_rfl) ?_
          refine cnd_mk (fun h => ?_) (fun h => ?_)
          · have hbe : mxN (hy z r) 6 < ly ∨ uy < mnN (hy z r) 6 := by simpa using h
            simp only [push_cast, ↓reduceIte, reduceCtorEq, Nat.reduceBEq, Nat.reduceEqDiff, Nat.reduceAdd, Nat.reduceSub, Nat.reduceLT, Nat.reduceLeDiff, Nat.reduceMul]
            rw [decide_eq_true (show beside z r lx ly ux uy from .inr hbe)]
          · have hne : ¬ (mxN (hy z r) 6 < ly ∨ uy < mnN (hy z r) 6) := by
              have := h
              simp at this
              omega
            simp only [push_cast, ↓reduceIte, reduceCtorEq, Nat.reduceBEq, Nat.reduceEqDiff, Nat.reduceAdd, Nat.reduceSub, Nat.reduceLT, Nat.reduceLeDiff, Nat.reduceMul]
            refine ⟨⟨2, .inr (.inr ⟨rfl, fun hc => hc.elim hn hne⟩), rfl⟩, by decide⟩
    · obtain ⟨rfl, hn⟩ := hi
      have g0 : decide ((2 : Int) < 2) = false := rfl
      simp only [g0, push_cast, ↓reduceIte, reduceCtorEq, Nat.reduceBEq, Nat.reduceEqDiff, Nat.reduceAdd, Nat.reduceSub, Nat.reduceLT, Nat.reduceLeDiff, Nat.reduceMul]
      rw [decide_eq_false hn]
def in32 (x : Int) : Prop := -4294967296 ≤ x ∧ x ≤ 4294967296
def in28 (x : Int) : Prop := -268435456 ≤ x ∧ x ≤ 268435456
/-- Which side of the way from p to q a point lies on. -/
def crP (p0 p1 q0 q1 x y : Int) : Int := (q0 - p0) * (y - p1) - (q1 - p1) * (x - p0)
theorem crP_in {p0 p1 q0 q1 x y : Int} (h0 : in32 p0) (h1 : in32 p1) (d0 : in28 (q0 - p0)) (d1 : in28 (q1 - p1)) (hx : in32 x) (hy : in32 y) :
    IntKind.i64.wrap (IntKind.i64.wrap (IntKind.i64.wrap (q0 - p0) * IntKind.i64.wrap (y - p1)) - IntKind.i64.wrap (IntKind.i64.wrap (q1 - p1) * IntKind.i64.wrap (x - p0))) = crP p0 p1 q0 q1 x y := by
  unfold in32 at h0 h1 hx hy
  unfold in28 at d0 d1
  have m1 := mul_in (n := 268435456) (m := 8589934592) d0 (y := y - p1) (by omega)
  have m2 := mul_in (n := 268435456) (m := 8589934592) d1 (y := x - p0) (by omega)
  unfold crP
  rw [show IntKind.i64.wrap (q0 - p0) = q0 - p0 from wrap_id (by omega), show IntKind.i64.wrap (q1 - p1) = q1 - p1 from wrap_id (by omega), show IntKind.i64.wrap (y - p1) = y - p1 from wrap_id (by omega), show IntKind.i64.wrap (x - p0) = x - p0 from wrap_id (by omega)]
  generalize (q0 - p0) * (y - p1) = A at *
  generalize (q1 - p1) * (x - p0) = B at *
  rw [show IntKind.i64.wrap A = A from wrap_id (by omega), show IntKind.i64.wrap B = B from wrap_id (by omega), wrap_id (by omega)]
/-- The four corners. -/
def cnx (lx ux : Int) (i : Nat) : Int := if i = 0 ∨ i = 3 then lx else ux
def cny (ly uy : Int) (i : Nat) : Int := if i = 0 ∨ i = 1 then ly else uy
def cnL (lx ly ux uy : Int) : List RV := [pnt lx ly, pnt ux ly, pnt ux uy, pnt lx uy]
theorem cnL_at (lx ly ux uy : Int) (i : Nat) (h : i < 4) (d : RV) : (cnL lx ly ux uy).getD i d = .agg [.v (.int .i64 (cnx lx ux i)), .v (.int .i64 (cny ly uy i))] := by
  rcases (show i = 0 ∨ i = 1 ∨ i = 2 ∨ i = 3 by omega) with rfl | rfl | rfl | rfl <;> rfl
def outP (p0 p1 q0 q1 lx ly ux uy : Int) : Prop := ∀ i, i < 4 → crP p0 p1 q0 q1 (cnx lx ux i) (cny ly uy i) < 0
instance (p0 p1 q0 q1 lx ly ux uy : Int) : Decidable (outP p0 p1 q0 q1 lx ly ux uy) := inferInstanceAs (Decidable (∀ i, i < 4 → _))
set_option maxRecDepth 100000 in
theorem outside_t (lx ly ux uy p0 p1 q0 q1 : Int) (h1 : in32 lx) (h2 : in32 ly) (h3 : in32 ux) (h4 : in32 uy) (h5 : in32 p0) (h6 : in32 p1) (d0 : in28 (q0 - p0)) (d1 : in28 (q1 - p1)) :
    Triple Go.Proofs.Try.prog 91 [bxv lx ly ux uy, pv p0 p1, pv q0 q1] [] (bl (decide (outP p0 p1 q0 q1 lx ly ux uy))) [] := by
  refine cover_box_outside_triple rfl (by decide) ?_
  simp only [cover_box_outside_pc, bxv, pv, pnt, List.length_nil, push_cast, ↓reduceIte, reduceCtorEq, Nat.reduceBEq, Nat.reduceEqDiff, Nat.reduceAdd, Nat.reduceSub, Nat.reduceLT, Nat.reduceLeDiff, Nat.reduceMul]
  refine call_as (as' := [bxv lx ly ux uy]) rfl ?_
  refine call_mk (corners_t lx ly ux uy) rfl trivial ?_
  simp only [pnt, push_cast, ↓reduceIte, reduceCtorEq, Nat.reduceBEq, Nat.reduceEqDiff, Nat.reduceAdd, Nat.reduceSub, Nat.reduceLT, Nat.reduceLeDiff, Nat.reduceMul]
  refine run_loop [(12, false), (11, false), (10, false), (5, false), (4, false)] (fun vs pos los => ∃ i : Nat, i ≤ 4 ∧ (∀ j, j < i → crP p0 p1 q0 q1 (cnx lx ux j) (cny ly uy j) < 0) ∧ vs = [int .i64 i, int .i64 4, .own 2000000 0 0 4, .ptr 2000001 0 0, .ptr 2000002 0 0] ∧ pos = [] ∧
    los = [.row 2 (.agg [.v (.int .i64 0), .v (.int .i64 0)]) true true (cnL lx ly ux uy), .box [int .i64 q0, int .i64 q1], .box [int .i64 p0, int .i64 p1]])
    (fun vs _ _ => match vs with | .r (.v (.int _ j)) :: _ => (4 - j).toNat | _ => 0) rfl ?_ ?_
  · simp only [push_cast, ↓reduceIte, reduceCtorEq, Nat.reduceBEq, Nat.reduceEqDiff, Nat.reduceAdd, Nat.reduceSub, Nat.reduceLT, Nat.reduceLeDiff, Nat.reduceMul]
    exact ⟨0, by omega, fun j hj => by omega, rfl, rfl⟩
  · rintro vs pos los ⟨i, i4, hj, rfl, rfl, rfl⟩
    simp only [push_cast, ↓reduceIte, reduceCtorEq, Nat.reduceBEq, Nat.reduceEqDiff, Nat.reduceAdd, Nat.reduceSub, Nat.reduceLT, Nat.reduceLeDiff, Nat.reduceMul]
    refine cnd_mk (fun h => ?_) (fun h => ?_)
    · have hi : i < 4 := by simp at h; omega
      have hcx : in32 (cnx lx ux i) := by unfold cnx; split <;> assumption
      have hcy : in32 (cny ly uy i) := by unfold cny; split <;> assumption
      simp only [Int.toNat_natCast, Nat.zero_add, cnL_at lx ly ux uy i hi, crP_in h5 h6 d0 d1 hcx hcy, Int.reduceToNat, push_cast, ↓reduceIte, reduceCtorEq, Nat.reduceBEq, Nat.reduceEqDiff, Nat.reduceAdd, Nat.reduceSub, Nat.reduceLT, Nat.reduceLeDiff, Nat.reduceMul]
      refine ⟨by omega, ?_⟩
      repeat refine And.intro (by first | decide | omega | kernel_rfl) ?_
      refine cnd_mk (fun h' => ?_) (fun h' => ?_)
      · have hc : ¬ crP p0 p1 q0 q1 (cnx lx ux i) (cny ly uy i) < 0 := by simp at h'; omega
        simp only [push_cast, ↓reduceIte, reduceCtorEq, Nat.reduceBEq, Nat.reduceEqDiff, Nat.reduceAdd, Nat.reduceSub, Nat.reduceLT, Nat.reduceLeDiff, Nat.reduceMul]
        rw [decide_eq_false (show ¬ outP p0 p1 q0 q1 lx ly ux uy from fun c => hc (c i hi))]
      · have hc : crP p0 p1 q0 q1 (cnx lx ux i) (cny ly uy i) < 0 := by simp at h'; omega
        simp only [push_cast, ↓reduceIte, reduceCtorEq, Nat.reduceBEq, Nat.reduceEqDiff, Nat.reduceAdd, Nat.reduceSub, Nat.reduceLT, Nat.reduceLeDiff, Nat.reduceMul]
        rw [show IntKind.i64.wrap ((i : Int) + 1) = ((i + 1 : Nat) : Int) by rw [wrap_id (by omega)]; omega]
        refine ⟨⟨i + 1, by omega, fun j hj' => ?_, rfl⟩, by omega⟩
        by_cases hji : j = i
        · subst hji; exact hc
        · exact hj j (by omega)
    · have hi : i = 4 := by simp at h; omega
      subst hi
      simp only [push_cast, ↓reduceIte, reduceCtorEq, Nat.reduceBEq, Nat.reduceEqDiff, Nat.reduceAdd, Nat.reduceSub, Nat.reduceLT, Nat.reduceLeDiff, Nat.reduceMul]
      rw [decide_eq_true (show outP p0 p1 q0 q1 lx ly ux uy from hj)]
theorem outP_iff (z : Ei) (r i j : Nat) (lx ly ux uy : Int) (hj : j = (i + 1) % 6) : outP (hx z r i) (hy z r i) (hx z r j) (hy z r j) lx ly ux uy ↔ outs z r lx ly ux uy i := by
  subst hj
  have e : ∀ x y, crP (hx z r i) (hy z r i) (hx z r ((i + 1) % 6)) (hy z r ((i + 1) % 6)) x y = crs z r i ((i + 1) % 6) x y := fun x y => by
    simp only [crP, crs]
    rw [show hx z r ((i + 1) % 6) - hx z r i = kx r ((i + 1) % 6) - kx r i by rw [hx_eq, hx_eq]; omega, show hy z r ((i + 1) % 6) - hy z r i = ky r ((i + 1) % 6) - ky r i by rw [hy_eq, hy_eq]; omega]
  simp only [outP, outs, e]
  constructor
  · intro h
    exact ⟨h 0 (by decide), h 1 (by decide), h 2 (by decide), h 3 (by decide)⟩
  · rintro ⟨h0, h1, h2, h3⟩ k hk
    rcases (show k = 0 ∨ k = 1 ∨ k = 2 ∨ k = 3 by omega) with rfl | rfl | rfl | rfl
    · exact h0
    · exact h1
    · exact h2
    · exact h3
set_option maxRecDepth 100000 in
theorem btouches_t (z : Ei) (r : Nat) (hr : r ≤ 12) (lx ly ux uy : Int) (hb : hexIn z r) (h1 : in32 lx) (h2 : in32 ly) (h3 : in32 ux) (h4 : in32 uy) : Triple Go.Proofs.Try.prog 83 [bxv lx ly ux uy, hexS z r] [] (bl (touch z r lx ly ux uy)) [] := by
  refine cover_box_touches_triple rfl (by decide) ?_
  simp only [cover_box_touches_pc, bxv, List.length_nil, push_cast, ↓reduceIte, reduceCtorEq, Nat.reduceBEq, Nat.reduceEqDiff, Nat.reduceAdd, Nat.reduceSub, Nat.reduceLT, Nat.reduceLeDiff, Nat.reduceMul]
  refine call_as (as' := [bxv lx ly ux uy, hexS z r]) rfl ?_
  refine call_mk (beside_t z r lx ly ux uy hb) rfl trivial ?_
  by_cases hbe : beside z r lx ly ux uy
  · rw [decide_eq_true hbe]
    simp only [push_cast, ↓reduceIte, reduceCtorEq, Nat.reduceBEq, Nat.reduceEqDiff, Nat.reduceAdd, Nat.reduceSub, Nat.reduceLT, Nat.reduceLeDiff, Nat.reduceMul]
    rw [beside_no hbe]
  · rw [decide_eq_false hbe]
    simp only [hexL_lenI, push_cast, ↓reduceIte, reduceCtorEq, Nat.reduceBEq, Nat.reduceEqDiff, Nat.reduceAdd, Nat.reduceSub, Nat.reduceLT, Nat.reduceLeDiff, Nat.reduceMul]
    refine run_loop [(12, false), (11, false), (10, false), (2, false), (1, false)] (fun vs pos los => ∃ i : Nat, i ≤ 6 ∧ (∀ j, j < i → ¬ outs z r lx ly ux uy j) ∧ vs = [int .i64 i, int .i64 6, hexS z r, .ptr 2000000 0 0, hexS z r] ∧ pos = [] ∧
      los = [.box [int .i64 lx, int .i64 ly, int .i64 ux, int .i64 uy]])
      (fun vs _ _ => match vs with | .r (.v (.int _ j)) :: _ => (6 - j).toNat | _ => 0) rfl ?_ ?_
    · simp only [push_cast, ↓reduceIte, reduceCtorEq, Nat.reduceBEq, Nat.reduceEqDiff, Nat.reduceAdd, Nat.reduceSub, Nat.reduceLT, Nat.reduceLeDiff, Nat.reduceMul]
      exact ⟨0, by omega, fun j hj => by omega, rfl⟩
    · rintro vs pos los ⟨i, i6, hj, rfl, rfl, rfl⟩
      simp only [push_cast, ↓reduceIte, reduceCtorEq, Nat.reduceBEq, Nat.reduceEqDiff, Nat.reduceAdd, Nat.reduceSub, Nat.reduceLT, Nat.reduceLeDiff, Nat.reduceMul]
      refine cnd_mk (fun h => ?_) (fun h => ?_)
      · have hi : i < 6 := by simp at h; omega
        obtain ⟨J, hJ⟩ : ∃ J, J = (i + 1) % 6 := ⟨_, rfl⟩
        have hJ6 : J < 6 := by omega
        have hm : (IntKind.i64.wrap ((i : Int) + 1)).tmod 6 = (J : Int) := by
          rw [wrap_id (by omega), Int.tmod_eq_emod_of_nonneg (by omega)]; omega
        simp only [hexL_lenI, hm, Int.toNat_natCast, hexL_at z r 6 i hi, hexL_at z r 6 J hJ6, Int.reduceToNat, push_cast, ↓reduceIte, reduceCtorEq, Nat.reduceBEq, Nat.reduceEqDiff, Nat.reduceAdd, Nat.reduceSub, Nat.reduceLT, Nat.reduceLeDiff, Nat.reduceMul]
        refine ⟨by omega, ?_⟩
        repeat refine And.intro (by first | decide | omega | kernel_rfl) ?_
        refine dcall_as (as' := [bxv lx ly ux uy, pv (hx z r i) (hy z r i), pv (hx z r J) (hy z r J)]) rfl ?_
        have k1 := k_in r i hr hi
        have k2 := k_in r J hr hJ6
        refine dcall_mk (outside_t lx ly ux uy _ _ _ _ h1 h2 h3 h4 (hb i hi).1 (hb i hi).2 (by rw [hx_eq, hx_eq]; unfold in28; omega) (by rw [hy_eq, hy_eq]; unfold in28; omega)) rfl trivial ?_
        simp only [push_cast, ↓reduceIte, reduceCtorEq, Nat.reduceBEq, Nat.reduceEqDiff, Nat.reduceAdd, Nat.reduceSub, Nat.reduceLT, Nat.reduceLeDiff, Nat.reduceMul]
        repeat refine And.intro (by first | decide | omega | kernel_rfl) ?_
        have hio := outP_iff z r i J lx ly ux uy hJ
        refine cnd_mk (fun h' => ?_) (fun h' => ?_)
        · have ho : outs z r lx ly ux uy i := hio.1 (by simpa using h')
          simp only [push_cast, ↓reduceIte, reduceCtorEq, Nat.reduceBEq, Nat.reduceEqDiff, Nat.reduceAdd, Nat.reduceSub, Nat.reduceLT, Nat.reduceLeDiff, Nat.reduceMul]
          have : touch z r lx ly ux uy = false := by
            simp only [touch, hbe, decide_false, Bool.not_false, Bool.true_and]
            rw [List.all_eq_false]
            exact ⟨i, List.mem_range.2 hi, by simp [ho]⟩
          rw [this]
        · have ho : ¬ outs z r lx ly ux uy i := fun c => by
            have := hio.2 c
            simp [this] at h'
          simp only [push_cast, ↓reduceIte, reduceCtorEq, Nat.reduceBEq, Nat.reduceEqDiff, Nat.reduceAdd, Nat.reduceSub, Nat.reduceLT, Nat.reduceLeDiff, Nat.reduceMul]
          rw [show IntKind.i64.wrap ((i : Int) + 1) = ((i + 1 : Nat) : Int) by rw [wrap_id (by omega)]; omega]
          refine ⟨⟨i + 1, by omega, fun j hj' => ?_, rfl⟩, by omega⟩
          by_cases hji : j = i
          · subst hji; exact ho
          · exact hj j (by omega)
      · have hi : i = 6 := by simp at h; omega
        subst hi
        simp only [push_cast, ↓reduceIte, reduceCtorEq, Nat.reduceBEq, Nat.reduceEqDiff, Nat.reduceAdd, Nat.reduceSub, Nat.reduceLT, Nat.reduceLeDiff, Nat.reduceMul]
        have : touch z r lx ly ux uy = true := by
          simp only [touch, hbe, decide_false, Bool.not_false, Bool.true_and, List.all_eq_true, List.mem_range, Bool.not_eq_true', decide_eq_false_iff_not]
          exact hj
        rw [this]
theorem take_hexL (z : Ei) (r : Nat) : List.take 6 (hexL z r 6) = hexL z r 6 := rfl
attribute [push_cast high] take_hexL
set_option maxRecDepth 100000 in
/-- A cell of a point, and a box of the world. -/
theorem ctouches_t (z : Ei) (r : Int) (h0 : 0 ≤ r) (hk : okc r.toNat z) (lx ly ux uy : Int) (hb : hexIn z r.toNat) (h1 : 0 ≤ lx ∧ lx ≤ ux ∧ ux ≤ 1073741824) (h2 : 0 ≤ ly ∧ ly ≤ uy ∧ uy ≤ 1073741824) :
    Triple Go.Proofs.Try.prog 64 [cel r z, pv lx ly, pv ux uy] [] (bl (touch z r.toNat (3 * lx) (3 * ly) (3 * ux) (3 * uy))) [] := by
  refine cover_Touches_triple rfl (by decide) ?_
  simp only [cover_Touches_pc, cel, pv, pnt, List.length_nil, push_cast, ↓reduceIte, reduceCtorEq, Nat.reduceBEq, Nat.reduceEqDiff, Nat.reduceAdd, Nat.reduceSub, Nat.reduceLT, Nat.reduceLeDiff, Nat.reduceMul]
  refine call_as (as' := [pv lx ly, pv ux uy]) rfl ?_
  refine call_mk (inThirds_t lx ly ux uy (by unfold in31; omega) (by unfold in31; omega) (by unfold in31; omega) (by unfold in31; omega) h1.2.1 h2.2.1) rfl trivial ?_
  simp only [bxv, push_cast, ↓reduceIte, reduceCtorEq, Nat.reduceBEq, Nat.reduceEqDiff, Nat.reduceAdd, Nat.reduceSub, Nat.reduceLT, Nat.reduceLeDiff, Nat.reduceMul]
  refine call_as (as' := [cel r z]) rfl ?_
  refine call_mk (cok_t r z h0 hk) rfl trivial ?_
  simp only [push_cast, ↓reduceIte, reduceCtorEq, Nat.reduceBEq, Nat.reduceEqDiff, Nat.reduceAdd, Nat.reduceSub, Nat.reduceLT, Nat.reduceLeDiff, Nat.reduceMul]
  have hr : r ≤ 12 := by have := hk.1; omega
  refine call_as (as' := [z.v, int .i64 r]) rfl ?_
  refine call_mk (hex_t z r hk.2.1 ⟨h0, hr⟩) rfl trivial ?_
  simp only [pnt, push_cast, ↓reduceIte, reduceCtorEq, Nat.reduceBEq, Nat.reduceEqDiff, Nat.reduceAdd, Nat.reduceSub, Nat.reduceLT, Nat.reduceLeDiff, Nat.reduceMul]
  refine callA_give ?_
  simp only [push_cast, ↓reduceIte, reduceCtorEq, Nat.reduceBEq, Nat.reduceEqDiff, Nat.reduceAdd, Nat.reduceSub, Nat.reduceLT, Nat.reduceLeDiff, Nat.reduceMul]
  refine call_as (as' := [bxv (3 * lx) (3 * ly) (3 * ux) (3 * uy), hexS z r.toNat]) rfl ?_
  refine call_mk (btouches_t z r.toNat hk.1 _ _ _ _ hb (by unfold in32; omega) (by unfold in32; omega) (by unfold in32; omega) (by unfold in32; omega)) rfl trivial ?_
  simp only [push_cast, ↓reduceIte, reduceCtorEq, Nat.reduceBEq, Nat.reduceEqDiff, Nat.reduceAdd, Nat.reduceSub, Nat.reduceLT, Nat.reduceLeDiff, Nat.reduceMul]
end Go.Ev
