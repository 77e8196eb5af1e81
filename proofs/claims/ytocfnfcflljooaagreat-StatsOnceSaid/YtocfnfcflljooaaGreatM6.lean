import Derived.Test.YtocfnfcflljooaaGreatChecked
import Derived.WalkKit
import Derived.Test.YtocfnfcflljooaaGreatM5
namespace Go.Ev
set_option maxRecDepth 100000
open Go
set_option linter.unusedSectionVars false
set_option linter.unnecessarySimpa false
open Nat (reduceEqDiff reduceAdd reduceSub reduceLT reduceLeDiff reduceMul)
set_option linter.unusedSimpArgs false
set_option linter.unusedVariables false
noncomputable def apiaryref1_Floor_pc : PC :=
  (.seq (.reg [p_s 4 (.mov (o_i 0)), p_s 5 (.mov (o_i 0)), p_s 6 (.mov (.c (.r (.v (.bool false)))))])
 (.seq (.seq (.reg [p_m 9 1, p_s 10 (.bin .leq (.t 9) (o_i 0))])
 (.cond (.t 10)
 (.seq (.reg [p_s 4 (.mov (o_i 0)), p_s 5 (.mov (o_i 0)), p_s 6 (.mov (.c (.r (.v (.bool false)))))])
 .ret)
 .skip))
 (.seq (.drw [p_m 11 0, p_m 12 1, p_s 13 (.bin .quo (.t 11) (.t 12)), p_m 14 0, p_m 15 1, p_s 16 (.bin .rem (.t 14) (.t 15)), p_m 7 13, p_m 8 16]
 [[], [], [0, 1], [], [], [3, 4], [0, 1, 2], [0, 1, 2, 3, 4, 5, 6]])
 (.seq (.seq (.reg [p_m 17 8, p_s 18 (.bin .lss (.t 17) (o_i 0))])
 (.cond (.t 18)
 (.reg [p_m 19 7, p_s 20 (.bin .sub (.t 19) (o_i 1)), p_m 21 8, p_m 22 1, p_s 23 (.bin .add (.t 21) (.t 22)), p_m 7 20, p_m 8 23])
 .skip))
 (.seq (.reg [p_m 24 7, p_m 25 8, p_m 4 24, p_m 5 25, p_s 6 (.mov (.c (.r (.v (.bool true)))))])
 .ret)))))
theorem apiaryref1_Floor_triple : Fun Go.Proofs.Tryz.prog 107 2 [(4, false, none), (5, false, none), (6, false, none)] apiaryref1_Floor_pc := fun_mk Go.Proofs.Tryz.func107 rfl (by decide) (by kernel_rfl) (by decide) rfl (by kernel_rfl) (by kernel_rfl) (by decide)
noncomputable def apiaryref1_Two_pc : PC :=
  (.seq (.reg [p_a 2 (.box (.t 0)), p_a 3 (.box (.t 1)), p_a 4 (.new [(.r (.v (.int .i64 0))), (.r (.v (.int .i64 0)))]), p_s 5 (.mov (.c (.r (.v (.bool false)))))])
 (.seq (.reg [p_s 11 (.ld (some 2) (.t 2)), p_c 12 1 132 [.t 11], p_m 10 12, p_s 13 (.ext (.t 10) 0), p_s 14 (.ext (.t 10) 1), p_m 6 13, p_m 7 14])
 (.seq (.reg [p_s 16 (.ld (some 2) (.t 3)), p_c 17 2 132 [.t 16], p_m 15 17, p_s 18 (.ext (.t 15) 0), p_s 19 (.ext (.t 15) 1), p_m 8 18, p_m 9 19])
 (.seq (.seq (.reg [p_m 20 7, p_s 21 (.un .not (.t 20)), p_m 22 21, p_g 23 22 false (.mov (.t 9)), p_g 24 22 false (.un .not (.t 23)), p_s 25 (.pick (.t 22) (.c (.r (.v (.bool true)))) (.t 24))])
 (.cond (.t 25)
 (.seq (.reg [p_s 26 (.build [(.r (.v (.int .i64 0))), (.r (.v (.int .i64 0)))] []), ⟨none, none, 0, .act (.st 2 (.t 4) (.t 26))⟩, p_s 5 (.mov (.c (.r (.v (.bool false)))))])
 .ret)
 .skip))
 (.seq (.reg [p_m 27 6, p_m 28 8, p_s 29 (.build [(.r (.v (.int .i64 0))), (.r (.v (.int .i64 0)))] [(0, 1, (.t 27)), (1, 1, (.t 28))]), ⟨none, none, 0, .act (.st 2 (.t 4) (.t 29))⟩,
 p_s 5 (.mov (.c (.r (.v (.bool true)))))])
 .ret)))))
theorem apiaryref1_Two_triple : Fun Go.Proofs.Tryz.prog 103 2 [(4, false, some (74, (some 2))), (5, false, none)] apiaryref1_Two_pc := fun_mk Go.Proofs.Tryz.func103 rfl (by decide) (by kernel_rfl) (by decide) rfl (by kernel_rfl) (by kernel_rfl) (by decide)
noncomputable def apiaryref1_Mul_pc : PC :=
  (.seq (.reg [p_a 2 (.box (.t 0)), p_a 3 (.box (.t 1)), p_a 4 (.new [(.r (.v (.int .i64 0))), (.r (.v (.int .i64 0)))]), p_s 5 (.mov (.c (.r (.v (.bool false)))))])
 (.seq (.reg [p_s 7 (.fa 1 (.t 2)), p_s 8 (.ld none (.t 7)), p_s 9 (.fa 1 (.t 3)), p_s 10 (.ld none (.t 9)), p_c 11 1 102 [.t 8, .t 10], p_a 6 (.new [(.r (.v (.int .u64 0))), (.r (.v (.int .u64 0)))]),
 ⟨none, none, 0, .act (.st 2 (.t 6) (.t 11))⟩])
 (.seq (.drw [p_s 12 (.fa 0 (.t 2)), p_s 13 (.ld none (.t 12)), p_s 14 (.fa 0 (.t 3)), p_s 15 (.ld none (.t 14)), p_c 16 2 102 [.t 13, .t 15], p_s 17 (.ld (some 2) (.t 6)), p_c 18 3 105 [.t 17],
 p_c 19 4 104 [.t 16, .t 18], p_s 20 (.fa 0 (.t 2)), p_s 21 (.ld none (.t 20)), p_s 22 (.fa 1 (.t 3)), p_s 23 (.ld none (.t 22)), p_c 24 5 102 [.t 21, .t 23], p_s 25 (.fa 1 (.t 2)),
 p_s 26 (.ld none (.t 25)), p_s 27 (.fa 0 (.t 3)), p_s 28 (.ld none (.t 27)), p_c 29 6 102 [.t 26, .t 28], p_c 30 7 104 [.t 24, .t 29], p_s 31 (.ld (some 2) (.t 6)),
 p_c 32 8 104 [.t 30, .t 31], p_c 33 9 103 [.t 19, .t 32], p_s 34 (.ext (.t 33) 0), p_s 35 (.ext (.t 33) 1), ⟨none, none, 0, .act (.st 2 (.t 4) (.t 34))⟩, p_m 5 35]
 [[], [0], [], [2], [0, 1, 2, 3], [], [0, 1, 2, 3, 4, 5], [0, 1, 2, 3, 4, 5, 6], [], [8], [], [10], [0, 1, 2, 3, 4, 5, 6, 7, 8, 9, 10, 11], [], [13], [], [15], [0, 1, 2, 3, 4, 5, 6, 7, 8, 9, 10, 11, 12, 13, 14, 15, 16], [0, 1, 2, 3, 4, 5, 6, 7, 8, 9, 10, 11, 12, 13, 14, 15, 16, 17], [], [0, 1, 2, 3, 4, 5, 6, 7, 8, 9, 10, 11, 12, 13, 14, 15, 16, 17, 18, 19], [0, 1, 2, 3, 4, 5, 6, 7, 8, 9, 10, 11, 12, 13, 14, 15, 16, 17, 18, 19, 20], [0, 1, 2, 3, 4, 5, 6, 7, 8, 9, 10, 11, 12, 13, 14, 15, 16, 17, 18, 19, 20, 21], [0, 1, 2, 3, 4, 5, 6, 7, 8, 9, 10, 11, 12, 13, 14, 15, 16, 17, 18, 19, 20, 21], [0, 1, 2, 3, 4, 5, 6, 7, 8, 9, 10, 11, 12, 13, 14, 15, 16, 17, 18, 19, 20, 21, 22, 23], [0, 1, 2, 3, 4, 5, 6, 7, 8, 9, 10, 11, 12, 13, 14, 15, 16, 17, 18, 19, 20, 21, 22, 23, 24]])
 .ret)))
theorem apiaryref1_Mul_triple : Fun Go.Proofs.Tryz.prog 69 2 [(4, false, some (74, (some 2))), (5, false, none)] apiaryref1_Mul_pc := fun_mk Go.Proofs.Tryz.func69 rfl (by decide) (by kernel_rfl) (by decide) rfl (by kernel_rfl) (by kernel_rfl) (by decide)
noncomputable def apiaryref1_Beta_pc : PC :=
  (.seq (.reg [p_a 2 (.new [(.r (.v (.int .i64 0))), (.r (.v (.int .i64 0)))]), p_s 3 (.mov (.c (.r (.v (.bool false)))))])
 (.seq (.seq (.reg [p_m 6 0, p_s 7 (.bin .lss (.t 6) (o_i 0)), p_m 8 7, p_g 9 8 false (.mov (.t 0)), p_g 10 8 false (.bin .gtr (.t 9) (o_i 20)), p_s 11 (.pick (.t 8) (.c (.r (.v (.bool true)))) (.t 10))])
 (.cond (.t 11)
 (.seq (.reg [p_s 12 (.build [(.r (.v (.int .i64 0))), (.r (.v (.int .i64 0)))] []), ⟨none, none, 0, .act (.st 2 (.t 2) (.t 12))⟩, p_s 3 (.mov (.c (.r (.v (.bool false)))))])
 .ret)
 .skip))
 (.seq (.reg [p_s 13 (.build [(.r (.v (.int .i64 0))), (.r (.v (.int .i64 0)))] [(0, 1, (o_i 1))]), p_a 4 (.new [(.r (.v (.int .i64 0))), (.r (.v (.int .i64 0)))]), ⟨none, none, 0, .act (.st 2 (.t 4) (.t 13))⟩])
 (.seq (.seq (.reg [p_s 5 (.mov (o_i 0))])
 (.block 0 (.loop (.seq (.seq (.reg [p_m 14 5, p_m 15 0, p_s 16 (.bin .lss (.t 14) (.t 15))])
 (.cond (.t 16)
 .skip
 (.exit 0)))
 (.seq (.block 1 (.reg [p_s 20 (.ld (some 2) (.t 4)), p_s 21 (.build [(.r (.v (.int .i64 0))), (.r (.v (.int .i64 0)))] [(0, 1, (o_i 2)), (1, 1, (o_i 1))]), p_c 22 1 69 [.t 20, .t 21],
 p_m 19 22, p_s 23 (.ext (.t 19) 0), p_s 24 (.ext (.t 19) 1), ⟨none, none, 0, .act (.st 2 (.t 4) (.t 23))⟩]))
 (.reg [p_m 17 5, p_s 18 (.bin .add (.t 17) (o_i 1)), p_m 5 18]))))))
 (.seq (.reg [p_s 25 (.ld (some 2) (.t 4)), ⟨none, none, 0, .act (.st 2 (.t 2) (.t 25))⟩, p_s 3 (.mov (.c (.r (.v (.bool true)))))])
 .ret)))))
theorem apiaryref1_Beta_triple : Fun Go.Proofs.Tryz.prog 106 1 [(2, false, some (74, (some 2))), (3, false, none)] apiaryref1_Beta_pc := fun_mk Go.Proofs.Tryz.func106 rfl (by decide) (by kernel_rfl) (by decide) rfl (by kernel_rfl) (by kernel_rfl) (by decide)
noncomputable def apiaryref1_conj_pc : PC :=
  (.seq (.reg [p_a 2 (.new [(.r (.v (.int .i64 0))), (.r (.v (.int .i64 0)))])])
 (.seq (.reg [p_m 6 0, p_c 7 1 106 [.t 6], p_m 5 7, p_s 8 (.ext (.t 5) 0), p_s 9 (.ext (.t 5) 1), p_a 3 (.new [(.r (.v (.int .i64 0))), (.r (.v (.int .i64 0)))]), ⟨none, none, 0, .act (.st 2 (.t 3) (.t 8))⟩,
 p_m 4 9])
 (.seq (.reg [p_s 10 (.fa 0 (.t 3)), p_s 11 (.ld none (.t 10)), p_s 12 (.fa 1 (.t 3)), p_s 13 (.ld none (.t 12)), p_s 14 (.bin .add (.t 11) (.t 13)), p_s 15 (.fa 1 (.t 3)), p_s 16 (.ld none (.t 15)),
 p_s 17 (.un .neg (.t 16)), p_s 18 (.build [(.r (.v (.int .i64 0))), (.r (.v (.int .i64 0)))] [(0, 1, (.t 14)), (1, 1, (.t 17))]), ⟨none, none, 0, .act (.st 2 (.t 2) (.t 18))⟩])
 .ret)))
theorem apiaryref1_conj_triple : Fun Go.Proofs.Tryz.prog 70 1 [(2, false, some (74, (some 2)))] apiaryref1_conj_pc := fun_mk Go.Proofs.Tryz.func70 rfl (by decide) (by kernel_rfl) (by decide) rfl (by kernel_rfl) (by kernel_rfl) (by decide)
noncomputable def apiaryref1_size_pc : PC :=
  (.seq (.reg [p_s 2 (.mov (o_i 0))])
 (.seq (.seq (.reg [p_m 3 0, p_s 4 (.bin .lss (.t 3) (o_i 0))])
 (.cond (.t 4)
 (.seq (.reg [p_m 5 0, p_s 6 (.un .neg (.t 5)), p_m 2 6])
 .ret)
 .skip))
 (.seq (.reg [p_m 7 0, p_m 2 7])
 .ret)))
theorem apiaryref1_size_triple : Fun Go.Proofs.Tryz.prog 134 1 [(2, false, none)] apiaryref1_size_pc := fun_mk Go.Proofs.Tryz.func134 rfl (by decide) (by kernel_rfl) (by decide) rfl (by kernel_rfl) (by kernel_rfl) (by decide)
noncomputable def apiaryref1_holds_pc : PC :=
  (.seq (.reg [p_s 6 (.mov (.c (.r (.v (.bool false)))))])
 (.seq (.reg [p_m 7 0, p_s 8 (.bin .mul (o_i 2) (.t 7)), p_m 9 1, p_s 10 (.bin .add (.t 8) (.t 9)), p_c 11 1 134 [.t 10], p_m 12 2, p_s 13 (.bin .leq (.t 11) (.t 12)), p_m 14 13,
 p_g 15 14 true (.mov (.t 0)), p_g 16 14 true (.mov (.t 1)), p_g 17 14 true (.bin .mul (o_i 2) (.t 16)), p_g 18 14 true (.bin .add (.t 15) (.t 17)), ⟨(some 19), (some (14, true)), 2, .call 134 [(.t 18)]⟩,
 p_g 20 14 true (.mov (.t 2)), p_g 21 14 true (.bin .leq (.t 19) (.t 20)), p_s 22 (.pick (.t 14) (.t 21) (.c (.r (.v (.bool false))))), p_m 23 22, p_g 24 23 true (.mov (.t 0)),
 p_g 25 23 true (.mov (.t 1)), p_g 26 23 true (.bin .sub (.t 24) (.t 25)), ⟨(some 27), (some (23, true)), 3, .call 134 [(.t 26)]⟩, p_g 28 23 true (.mov (.t 2)), p_g 29 23 true (.bin .leq (.t 27) (.t 28)),
 p_s 30 (.pick (.t 23) (.t 29) (.c (.r (.v (.bool false))))), p_m 6 30])
 .ret))
theorem apiaryref1_holds_triple : Fun Go.Proofs.Tryz.prog 108 3 [(6, false, none)] apiaryref1_holds_pc := fun_mk Go.Proofs.Tryz.func108 rfl (by decide) (by kernel_rfl) (by decide) rfl (by kernel_rfl) (by kernel_rfl) (by decide)
noncomputable def apiaryref1_Round_pc : PC :=
  (.seq (.reg [p_a 2 (.box (.t 0)), p_a 4 (.new [(.r (.v (.int .i64 0))), (.r (.v (.int .i64 0)))]), p_s 5 (.mov (.c (.r (.v (.bool false)))))])
 (.seq (.seq (.reg [p_m 14 1, p_s 15 (.bin .lss (.t 14) (o_i 1)), p_m 16 15, p_g 17 16 false (.mov (.t 1)), p_g 18 16 false (.bin .gtr (.t 17) (o_i 1125899906842624)), p_s 19 (.pick (.t 16) (.c (.r (.v (.bool true)))) (.t 18)),
 p_m 20 19, p_g 21 20 false (.fa 0 (.t 2)), p_g 22 20 false (.ld none (.t 21)), p_g 23 20 false (.bin .lss (.t 22) (o_i (-1152921504606846976))), p_s 24 (.pick (.t 20) (.c (.r (.v (.bool true)))) (.t 23)),
 p_m 25 24, p_g 26 25 false (.fa 0 (.t 2)), p_g 27 25 false (.ld none (.t 26)), p_g 28 25 false (.bin .gtr (.t 27) (o_i 1152921504606846976)), p_s 29 (.pick (.t 25) (.c (.r (.v (.bool true)))) (.t 28)),
 p_m 30 29, p_g 31 30 false (.fa 1 (.t 2)), p_g 32 30 false (.ld none (.t 31)), p_g 33 30 false (.bin .lss (.t 32) (o_i (-1152921504606846976))), p_s 34 (.pick (.t 30) (.c (.r (.v (.bool true)))) (.t 33)),
 p_m 35 34, p_g 36 35 false (.fa 1 (.t 2)), p_g 37 35 false (.ld none (.t 36)), p_g 38 35 false (.bin .gtr (.t 37) (o_i 1152921504606846976)), p_s 39 (.pick (.t 35) (.c (.r (.v (.bool true)))) (.t 38))])
 (.cond (.t 39)
 (.seq (.reg [p_s 40 (.build [(.r (.v (.int .i64 0))), (.r (.v (.int .i64 0)))] []), ⟨none, none, 0, .act (.st 2 (.t 4) (.t 40))⟩, p_s 5 (.mov (.c (.r (.v (.bool false)))))])
 .ret)
 .skip))
 (.seq (.reg [p_s 42 (.fa 0 (.t 2)), p_s 43 (.ld none (.t 42)), p_m 44 1, p_c 45 1 107 [.t 43, .t 44], p_m 41 45, p_s 46 (.ext (.t 41) 0), p_s 47 (.ext (.t 41) 1), p_s 48 (.ext (.t 41) 2),
 p_m 6 46, p_m 7 47, p_m 8 48])
 (.seq (.reg [p_s 50 (.fa 1 (.t 2)), p_s 51 (.ld none (.t 50)), p_m 52 1, p_c 53 2 107 [.t 51, .t 52], p_m 49 53, p_s 54 (.ext (.t 49) 0), p_s 55 (.ext (.t 49) 1), p_s 56 (.ext (.t 49) 2),
 p_m 9 54, p_m 10 55, p_m 11 56])
 (.seq (.seq (.reg [p_s 12 (.mov (o_i (-1)))])
 (.block 0 (.loop (.seq (.seq (.reg [p_m 57 12, p_s 58 (.bin .leq (.t 57) (o_i 2))])
 (.cond (.t 58)
 .skip
 (.exit 0)))
 (.seq (.block 1 (.seq (.reg [p_s 13 (.mov (o_i (-1)))])
 (.block 2 (.loop (.seq (.seq (.reg [p_m 61 13, p_s 62 (.bin .leq (.t 61) (o_i 2))])
 (.cond (.t 62)
 .skip
 (.exit 2)))
 (.seq (.block 3 (.seq (.reg [p_m 65 7, p_m 66 12, p_m 67 1, p_s 68 (.bin .mul (.t 66) (.t 67)), p_s 69 (.bin .sub (.t 65) (.t 68)), p_m 70 10, p_m 71 13, p_m 72 1, p_s 73 (.bin .mul (.t 71) (.t 72)),
 p_s 74 (.bin .sub (.t 70) (.t 73)), p_m 75 1, p_c 76 3 108 [.t 69, .t 74, .t 75]])
 (.cond (.t 76)
 (.seq (.reg [p_m 77 6, p_m 78 12, p_s 79 (.bin .add (.t 77) (.t 78)), p_m 80 9, p_m 81 13, p_s 82 (.bin .add (.t 80) (.t 81)), p_s 83 (.build [(.r (.v (.int .i64 0))), (.r (.v (.int .i64 0)))] [(0, 1, (.t 79)), (1, 1, (.t 82))]),
 ⟨none, none, 0, .act (.st 2 (.t 4) (.t 83))⟩, p_s 5 (.mov (.c (.r (.v (.bool true)))))])
 .ret)
 .skip)))
 (.reg [p_m 63 13, p_s 64 (.bin .add (.t 63) (o_i 1)), p_m 13 64])))))))
 (.reg [p_m 59 12, p_s 60 (.bin .add (.t 59) (o_i 1)), p_m 12 60]))))))
 (.seq (.reg [p_s 84 (.build [(.r (.v (.int .i64 0))), (.r (.v (.int .i64 0)))] []), ⟨none, none, 0, .act (.st 2 (.t 4) (.t 84))⟩, p_s 5 (.mov (.c (.r (.v (.bool false)))))])
 .ret))))))
theorem apiaryref1_Round_triple : Fun Go.Proofs.Tryz.prog 71 2 [(4, false, some (74, (some 2))), (5, false, none)] apiaryref1_Round_pc := fun_mk Go.Proofs.Tryz.func71 rfl (by decide) (by kernel_rfl) (by decide) rfl (by kernel_rfl) (by kernel_rfl) (by decide)
noncomputable def apiaryref1_World_pc : PC :=
  (.seq (.reg [p_s 4 (.mov (.c (.r (.v (.bool false)))))])
 (.seq (.reg [p_m 5 0, p_s 6 (.bin .geq (.t 5) (o_i 0)), p_m 7 6, p_g 8 7 true (.mov (.t 0)), p_g 9 7 true (.bin .lss (.t 8) (o_i 1073741824)), p_s 10 (.pick (.t 7) (.t 9) (.c (.r (.v (.bool false))))),
 p_m 11 10, p_g 12 11 true (.mov (.t 1)), p_g 13 11 true (.bin .geq (.t 12) (o_i 0)), p_s 14 (.pick (.t 11) (.t 13) (.c (.r (.v (.bool false))))), p_m 15 14, p_g 16 15 true (.mov (.t 1)),
 p_g 17 15 true (.bin .lss (.t 16) (o_i 1073741824)), p_s 18 (.pick (.t 15) (.t 17) (.c (.r (.v (.bool false))))), p_m 4 18])
 .ret))
theorem apiaryref1_World_triple : Fun Go.Proofs.Tryz.prog 38 2 [(4, false, none)] apiaryref1_World_pc := fun_mk Go.Proofs.Tryz.func38 rfl (by decide) (by kernel_rfl) (by decide) rfl (by kernel_rfl) (by kernel_rfl) (by decide)
noncomputable def apiaryref1_Near_pc : PC :=
  (.seq (.reg [p_a 6 (.new [(.r (.v (.int .i64 0))), (.r (.v (.int .i64 0)))]), p_s 7 (.mov (.c (.r (.v (.bool false)))))])
 (.seq (.seq (.reg [p_m 10 0, p_m 11 1, p_c 12 1 38 [.t 10, .t 11], p_s 13 (.un .not (.t 12)), p_m 14 13, p_g 15 14 false (.mov (.t 2)), p_g 16 14 false (.bin .lss (.t 15) (o_i 0)),
 p_s 17 (.pick (.t 14) (.c (.r (.v (.bool true)))) (.t 16)), p_m 18 17, p_g 19 18 false (.mov (.t 2)), p_g 20 18 false (.bin .gtr (.t 19) (o_i 12)), p_s 21 (.pick (.t 18) (.c (.r (.v (.bool true)))) (.t 20))])
 (.cond (.t 21)
 (.seq (.reg [p_s 22 (.build [(.r (.v (.int .i64 0))), (.r (.v (.int .i64 0)))] []), ⟨none, none, 0, .act (.st 2 (.t 6) (.t 22))⟩, p_s 7 (.mov (.c (.r (.v (.bool false)))))])
 .ret)
 .skip))
 (.seq (.reg [p_m 24 0, p_s 25 (.bin .mul (o_i 45) (.t 24)), p_m 26 1, p_s 27 (.bin .mul (o_i 26) (.t 26)), p_s 28 (.bin .sub (.t 25) (.t 27)), p_m 29 1, p_s 30 (.bin .mul (o_i 52) (.t 29)),
 p_s 31 (.build [(.r (.v (.int .i64 0))), (.r (.v (.int .i64 0)))] [(0, 1, (.t 28)), (1, 1, (.t 30))]), p_m 32 2, p_s 33 (.bin .sub (o_i 12) (.t 32)), p_c 34 2 70 [.t 33],
 p_c 35 3 69 [.t 31, .t 34], p_m 23 35, p_s 36 (.ext (.t 23) 0), p_s 37 (.ext (.t 23) 1), p_a 8 (.new [(.r (.v (.int .i64 0))), (.r (.v (.int .i64 0)))]), ⟨none, none, 0, .act (.st 2 (.t 8) (.t 36))⟩,
 p_m 9 37])
 (.seq (.drw [p_s 38 (.ld (some 2) (.t 8)), p_m 39 2, p_s 40 (.bin .sub (o_i 12) (.t 39)), p_c 41 4 72 [.t 40], p_s 42 (.bin .mul (o_i 2340) (.t 41)), p_c 43 5 71 [.t 38, .t 42],
 p_s 44 (.ext (.t 43) 0), p_s 45 (.ext (.t 43) 1), ⟨none, none, 0, .act (.st 2 (.t 6) (.t 44))⟩, p_m 7 45]
 [[], [], [1], [1, 2], [1, 2, 3], [0, 1, 2, 3, 4], [0, 1, 2, 3, 4, 5], [0, 1, 2, 3, 4, 5], [0, 1, 2, 3, 4, 5, 6, 7], [0, 1, 2, 3, 4, 5, 6, 7, 8]])
 .ret))))
theorem apiaryref1_Near_triple : Fun Go.Proofs.Tryz.prog 43 3 [(6, false, some (74, (some 2))), (7, false, none)] apiaryref1_Near_pc := fun_mk Go.Proofs.Tryz.func43 rfl (by decide) (by kernel_rfl) (by decide) rfl (by kernel_rfl) (by kernel_rfl) (by decide)
theorem rfloor_t (a b : Int) (ha : in64 a) (hb : in64 b) : Triple Go.Proofs.Tryz.prog 107 [int .i64 a, int .i64 b] [] (.tup [int .i64 (if 0 < b then a / b else 0), int .i64 (if 0 < b then a % b else 0), bl (decide (0 < b))]) [] := by
 refine apiaryref1_Floor_triple rfl (by decide) ?_
 simp only [apiaryref1_Floor_pc, List.length_nil, push_cast, ↓reduceIte, reduceCtorEq, Nat.reduceBEq, reduceEqDiff, reduceAdd, reduceSub, reduceLT, reduceLeDiff, reduceMul]
 refine cnd_mk (fun h => ?_) (fun h => ?_)
 ·simp only [push_cast, ↓reduceIte, reduceCtorEq, Nat.reduceBEq, reduceEqDiff, reduceAdd, reduceSub, reduceLT, reduceLeDiff, reduceMul]
  simp at h
  have : ¬ 0 < b := by omega
  simp [this]
 ·simp only [push_cast, ↓reduceIte, reduceCtorEq, Nat.reduceBEq, reduceEqDiff, reduceAdd, reduceSub, reduceLT, reduceLeDiff, reduceMul]
  simp at h
  refine ⟨by omega, by omega, by kernel_rfl, ?_⟩
  obtain ⟨q1, q2, q3⟩ := floor_facts ha h
  have hw : IntKind.i64.wrap (a.tdiv b) = a.tdiv b := wrap_i64_tdiv a b ha.1 ha.2 (by omega)
  rw [hw]
  refine cnd_mk (fun h' => ?_) (fun h' => ?_)
  ·simp only [push_cast, ↓reduceIte, reduceCtorEq, Nat.reduceBEq, reduceEqDiff, reduceAdd, reduceSub, reduceLT, reduceLeDiff, reduceMul]
   simp at h'
   obtain ⟨e1, e2⟩ := q2 h'
   refine tup3 (int_eq ?_) (int_eq ?_) (bl_eq ?_)
   ·rw [if_pos h, ← e1, wrap_id]
    unfold in64 at ha; rw [e1]; omega
   ·rw [if_pos h, ← e2, wrap_id]
    have h5 := Int.emod_lt_of_pos a h
    have h6 := Int.emod_nonneg a (show b ≠ 0 by omega)
    rw [e2]
    unfold in64 at hb; omega
   ·simp [h]
  ·simp only [push_cast, ↓reduceIte, reduceCtorEq, Nat.reduceBEq, reduceEqDiff, reduceAdd, reduceSub, reduceLT, reduceLeDiff, reduceMul]
   simp at h'
   obtain ⟨e1, e2⟩ := q3 h'
   refine tup3 (int_eq ?_) (int_eq ?_) (bl_eq ?_)
   ·rw [if_pos h, e1]
   ·rw [if_pos h, e2]
   ·simp [h]
theorem rtwo_t (a b : Int) (ha : in64 a) (hb : in64 b) : Triple Go.Proofs.Tryz.prog 103 [wide a, wide b] [] (.tup [Ei.v ⟨a, b⟩, bl true]) [] := by
 refine apiaryref1_Two_triple rfl (by decide) ?_
 simp only [apiaryref1_Two_pc, wide, List.length_nil, push_cast, ↓reduceIte, reduceCtorEq, Nat.reduceBEq, reduceEqDiff, reduceAdd, reduceSub, reduceLT, reduceLeDiff, reduceMul]
 have ha' := ha
 have hb' := hb
 unfold in64 at ha' hb'
 refine call_as (as' := [wide a]) rfl ?_
 refine call_mk (small_t a (by omega)) rfl trivial ?_
 rw [sm_in ha]
 simp only [push_cast, ↓reduceIte, reduceCtorEq, Nat.reduceBEq, reduceEqDiff, reduceAdd, reduceSub, reduceLT, reduceLeDiff, reduceMul]
 refine call_as (as' := [wide b]) rfl ?_
 refine call_mk (small_t b (by omega)) rfl trivial ?_
 rw [sm_in hb]
 simp only [Ei.v, Ei.rv, push_cast, ↓reduceIte, reduceCtorEq, Nat.reduceBEq, reduceEqDiff, reduceAdd, reduceSub, reduceLT, reduceLeDiff, reduceMul]
theorem rmul_t (x y : Ei) (hx : x.In M63) (hy : y.In M63) (hz : (x.mul y).In M63) : Triple Go.Proofs.Tryz.prog 69 [x.v, y.v] [] (.tup [(x.mul y).v, bl true]) [] := by
 refine apiaryref1_Mul_triple rfl (by decide) ?_
 simp only [apiaryref1_Mul_pc, Ei.v, Ei.rv, List.length_nil, push_cast, ↓reduceIte, reduceCtorEq, Nat.reduceBEq, reduceEqDiff, reduceAdd, reduceSub, reduceLT, reduceLeDiff, reduceMul]
 refine call_mk (times_t x.b y.b hx.ok.2 hy.ok.2) rfl trivial ?_
 simp only [wide, push_cast, ↓reduceIte, reduceCtorEq, Nat.reduceBEq, reduceEqDiff, reduceAdd, reduceSub, reduceLT, reduceLeDiff, reduceMul]
 refine dcall_mk (times_t x.a y.a hx.ok.1 hy.ok.1) rfl trivial ?_
 simp only [wide, push_cast, ↓reduceIte, reduceCtorEq, Nat.reduceBEq, reduceEqDiff, reduceAdd, reduceSub, reduceLT, reduceLeDiff, reduceMul]
 refine dcall_as (as' := [wide (x.b * y.b)]) rfl ?_
 refine dcall_mk (turned_t _) rfl trivial ?_
 simp only [wide, push_cast, ↓reduceIte, reduceCtorEq, Nat.reduceBEq, reduceEqDiff, reduceAdd, reduceSub, reduceLT, reduceLeDiff, reduceMul]
 refine dcall_as (as' := [wide (x.a * y.a), wide (-(x.b * y.b))]) rfl ?_
 refine dcall_mk (plus_t _ _) rfl trivial ?_
 simp only [wide, push_cast, ↓reduceIte, reduceCtorEq, Nat.reduceBEq, reduceEqDiff, reduceAdd, reduceSub, reduceLT, reduceLeDiff, reduceMul]
 refine dcall_mk (times_t x.a y.b hx.ok.1 hy.ok.2) rfl trivial ?_
 simp only [wide, push_cast, ↓reduceIte, reduceCtorEq, Nat.reduceBEq, reduceEqDiff, reduceAdd, reduceSub, reduceLT, reduceLeDiff, reduceMul]
 refine dcall_mk (times_t x.b y.a hx.ok.2 hy.ok.1) rfl trivial ?_
 simp only [wide, push_cast, ↓reduceIte, reduceCtorEq, Nat.reduceBEq, reduceEqDiff, reduceAdd, reduceSub, reduceLT, reduceLeDiff, reduceMul]
 refine dcall_as (as' := [wide (x.a * y.b), wide (x.b * y.a)]) rfl ?_
 refine dcall_mk (plus_t _ _) rfl trivial ?_
 simp only [wide, push_cast, ↓reduceIte, reduceCtorEq, Nat.reduceBEq, reduceEqDiff, reduceAdd, reduceSub, reduceLT, reduceLeDiff, reduceMul]
 refine dcall_as (as' := [wide (x.a * y.b + x.b * y.a), wide (x.b * y.b)]) rfl ?_
 refine dcall_mk (plus_t _ _) rfl trivial ?_
 simp only [wide, push_cast, ↓reduceIte, reduceCtorEq, Nat.reduceBEq, reduceEqDiff, reduceAdd, reduceSub, reduceLT, reduceLeDiff, reduceMul]
 refine dcall_as (as' := [wide (x.a * y.a + -(x.b * y.b)), wide (x.a * y.b + x.b * y.a + x.b * y.b)]) rfl ?_
 have e : x.a * y.a + -(x.b * y.b) = (x.mul y).a := by simp only [Ei.mul]; omega
 have e' : x.a * y.b + x.b * y.a + x.b * y.b = (x.mul y).b := rfl
 rw [e, e']
 refine dcall_mk (rtwo_t _ _ hz.ok.1 hz.ok.2) rfl trivial ?_
 simp only [Ei.v, Ei.rv, push_cast, ↓reduceIte, reduceCtorEq, Nat.reduceBEq, reduceEqDiff, reduceAdd, reduceSub, reduceLT, reduceLeDiff, reduceMul]
 kernel_rfl
theorem rbeta_t (k : Int) (hk : 0 ≤ k ∧ k ≤ 12) : Triple Go.Proofs.Tryz.prog 106 [int .i64 k] [] (.tup [(betaN k.toNat).v, bl true]) [] := by
 refine apiaryref1_Beta_triple rfl (by decide) ?_
 have c1 : decide (k < 0) = false := by simp; omega
 have c2 : decide (k > 20) = false := by simp; omega
 simp only [apiaryref1_Beta_pc, List.length_nil, c1, c2, push_cast, ↓reduceIte, reduceCtorEq, Nat.reduceBEq, reduceEqDiff, reduceAdd, reduceSub, reduceLT, reduceLeDiff, reduceMul]
 refine run_loop [(5, false), (0, false), (4, false), (2, false)] (fun vs pos los => ∃ i : Int, 0 ≤ i ∧ i ≤ k ∧ vs = [int .i64 i, int .i64 k, .ptr 2000000 0 0, .ptr 2000001 0 0] ∧ pos = [] ∧ los = [.box [int .i64 (betaN i.toNat).a, int .i64 (betaN i.toNat).b], .box [int .i64 0, int .i64 0]])
  (fun vs _ _ => match vs with | .r (.v (.int _ j)) :: _ => (k - j).toNat | _ => 0) rfl ?_ ?_
 ·simp only [push_cast, ↓reduceIte, reduceCtorEq, Nat.reduceBEq, reduceEqDiff, reduceAdd, reduceSub, reduceLT, reduceLeDiff, reduceMul]
  exact ⟨0, by omega, by omega, rfl, rfl⟩
 ·rintro vs pos los ⟨i, i0, ik, rfl, rfl, rfl⟩
  simp only [push_cast, ↓reduceIte, reduceCtorEq, Nat.reduceBEq, reduceEqDiff, reduceAdd, reduceSub, reduceLT, reduceLeDiff, reduceMul]
  refine cnd_mk (fun h => ?_) (fun h => ?_)
  ·simp only [decide_eq_true_eq] at h
   simp only [push_cast, ↓reduceIte, reduceCtorEq, Nat.reduceBEq, reduceEqDiff, reduceAdd, reduceSub, reduceLT, reduceLeDiff, reduceMul]
   have h1 := betaN_in i.toNat (by omega)
   have h2 := betaN_in (i.toNat + 1) (by omega)
   refine call_as (as' := [(betaN i.toNat).v, beta.v]) rfl ?_
   refine call_mk (rmul_t _ _ (h1.mono (by decide)) (by unfold Ei.In; decide) (h2.mono (by decide))) rfl trivial ?_
   simp only [Ei.v, Ei.rv, push_cast, ↓reduceIte, reduceCtorEq, Nat.reduceBEq, reduceEqDiff, reduceAdd, reduceSub, reduceLT, reduceLeDiff, reduceMul]
   rw [show IntKind.i64.wrap (i + 1) = i + 1 from wrap_id (by omega)]
   refine ⟨⟨i + 1, by omega, by omega, rfl, ?_⟩, by omega⟩
   rw [show (i + 1).toNat = i.toNat + 1 by omega]
   rfl
  ·simp only [decide_eq_false_iff_not] at h
   have : i = k := by omega
   subst this
   simp only [Ei.v, Ei.rv, push_cast, ↓reduceIte, reduceCtorEq, Nat.reduceBEq, reduceEqDiff, reduceAdd, reduceSub, reduceLT, reduceLeDiff, reduceMul]
theorem rconj_t (k : Int) (hk : 0 ≤ k ∧ k ≤ 12) : Triple Go.Proofs.Tryz.prog 70 [int .i64 k] [] ((betaN k.toNat).conj.v) [] := by
 refine apiaryref1_conj_triple rfl (by decide) ?_
 simp only [apiaryref1_conj_pc, List.length_nil, push_cast, ↓reduceIte, reduceCtorEq, Nat.reduceBEq, reduceEqDiff, reduceAdd, reduceSub, reduceLT, reduceLeDiff, reduceMul]
 refine call_mk (rbeta_t k hk) rfl trivial ?_
 have hb := betaN_in k.toNat (by omega)
 unfold Ei.In at hb
 simp only [Ei.v, Ei.rv, Ei.conj, push_cast, ↓reduceIte, reduceCtorEq, Nat.reduceBEq, reduceEqDiff, reduceAdd, reduceSub, reduceLT, reduceLeDiff, reduceMul]
 rw [wrap_id (by omega), wrap_id (by omega), Int.zero_sub]
theorem rsize_t (n : Int) (h : in64 n) (h' : n ≠ -9223372036854775808) : Triple Go.Proofs.Tryz.prog 134 [int .i64 n] [] (int .i64 n.natAbs) [] := by
 refine apiaryref1_size_triple rfl (by decide) ?_
 simp only [apiaryref1_size_pc, List.length_nil, push_cast, ↓reduceIte, reduceCtorEq, Nat.reduceBEq, reduceEqDiff, reduceAdd, reduceSub, reduceLT, reduceLeDiff, reduceMul]
 unfold in64 at h
 refine cnd_mk (fun hc => ?_) (fun hc => ?_)
 ·simp at hc
  simp only [push_cast, ↓reduceIte, reduceCtorEq, Nat.reduceBEq, reduceEqDiff, reduceAdd, reduceSub, reduceLT, reduceLeDiff, reduceMul]
  rw [wrap_id (by omega)]
  rw [show 0 - n = (n.natAbs : Int) by omega]
 ·simp at hc
  simp only [push_cast, ↓reduceIte, reduceCtorEq, Nat.reduceBEq, reduceEqDiff, reduceAdd, reduceSub, reduceLT, reduceLeDiff, reduceMul]
  rw [show n = (n.natAbs : Int) by omega]
  simp
theorem rholds_t (s t d : Int) (hs : -9007199254740992 ≤ s ∧ s ≤ 9007199254740992) (ht : -9007199254740992 ≤ t ∧ t ≤ 9007199254740992) : Triple Go.Proofs.Tryz.prog 108 [int .i64 s, int .i64 t, int .i64 d] [] (bl (decide (holds d s t))) [] := by
 refine apiaryref1_holds_triple rfl (by decide) ?_
 simp only [apiaryref1_holds_pc, List.length_nil, push_cast, ↓reduceIte, reduceCtorEq, Nat.reduceBEq, reduceEqDiff, reduceAdd, reduceSub, reduceLT, reduceLeDiff, reduceMul]
 rw [show IntKind.i64.wrap (2 * s) = 2 * s from wrap_id (by omega), show IntKind.i64.wrap (2 * s + t) = 2 * s + t from wrap_id (by omega)]
 refine call_mk (rsize_t _ (by unfold in64; omega) (by omega)) rfl trivial ?_
 by_cases h1 : ((2 * s + t).natAbs : Int) ≤ d
 ·have g1 : decide (((2 * s + t).natAbs : Int) ≤ d) = true := decide_eq_true h1
  simp only [g1, push_cast, ↓reduceIte, reduceCtorEq, Nat.reduceBEq, reduceEqDiff, reduceAdd, reduceSub, reduceLT, reduceLeDiff, reduceMul]
  rw [show IntKind.i64.wrap (2 * t) = 2 * t from wrap_id (by omega), show IntKind.i64.wrap (s + 2 * t) = s + 2 * t from wrap_id (by omega)]
  refine call_mk (rsize_t _ (by unfold in64; omega) (by omega)) rfl trivial ?_
  by_cases h2 : ((s + 2 * t).natAbs : Int) ≤ d
  ·have g2 : decide (((s + 2 * t).natAbs : Int) ≤ d) = true := decide_eq_true h2
   simp only [g2, push_cast, ↓reduceIte, reduceCtorEq, Nat.reduceBEq, reduceEqDiff, reduceAdd, reduceSub, reduceLT, reduceLeDiff, reduceMul]
   rw [show IntKind.i64.wrap (s - t) = s - t from wrap_id (by omega)]
   refine call_mk (rsize_t _ (by unfold in64; omega) (by omega)) rfl trivial ?_
   simp only [push_cast, ↓reduceIte, reduceCtorEq, Nat.reduceBEq, reduceEqDiff, reduceAdd, reduceSub, reduceLT, reduceLeDiff, reduceMul]
   refine bl_iff ?_
   simp only [decide_eq_true_eq]
   unfold holds
   omega
  ·have g2 : decide (((s + 2 * t).natAbs : Int) ≤ d) = false := decide_eq_false h2
   simp only [g2, push_cast, ↓reduceIte, reduceCtorEq, Nat.reduceBEq, reduceEqDiff, reduceAdd, reduceSub, reduceLT, reduceLeDiff, reduceMul]
   rw [decide_eq_false (show ¬ holds d s t by unfold holds; omega)]
 ·have g1 : decide (((2 * s + t).natAbs : Int) ≤ d) = false := decide_eq_false h1
  simp only [g1, push_cast, ↓reduceIte, reduceCtorEq, Nat.reduceBEq, reduceEqDiff, reduceAdd, reduceSub, reduceLT, reduceLeDiff, reduceMul]
  rw [decide_eq_false (show ¬ holds d s t by unfold holds; omega)]
theorem rround_t (u : Ei) (d : Int) (hu : u.In 1152921504606846976) (hd : 1 ≤ d ∧ d ≤ 1125899906842624) : Triple Go.Proofs.Tryz.prog 71 [u.v, int .i64 d] [] (.tup [(u.round d).v, bl true]) [] := by
 refine apiaryref1_Round_triple rfl (by decide) ?_
 have hu' := hu
 unfold Ei.In at hu'
 have c1 : decide (d < 1) = false := by simp; omega
 have c2 : decide (d > 1125899906842624) = false := by simp; omega
 have c3 : decide (u.a < -1152921504606846976) = false := by simp; omega
 have c4 : decide (u.a > 1152921504606846976) = false := by simp; omega
 have c5 : decide (u.b < -1152921504606846976) = false := by simp; omega
 have c6 : decide (u.b > 1152921504606846976) = false := by simp; omega
 have ia : in64 u.a := by unfold in64; omega
 have ib : in64 u.b := by unfold in64; omega
 have ed : in64 d := by unfold in64; omega
 simp only [apiaryref1_Round_pc, Ei.v, Ei.rv, List.length_nil, c1, c2, c3, c4, c5, c6, push_cast, ↓reduceIte, reduceCtorEq, Nat.reduceBEq, reduceEqDiff, reduceAdd, reduceSub, reduceLT, reduceLeDiff, reduceMul]
 refine call_mk (rfloor_t _ _ ia ed) rfl trivial ?_
 have hd0 : 0 < d := by omega
 simp only [hd0, if_true, push_cast, ↓reduceIte, reduceCtorEq, Nat.reduceBEq, reduceEqDiff, reduceAdd, reduceSub, reduceLT, reduceLeDiff, reduceMul]
 refine call_mk (rfloor_t _ _ ib ed) rfl trivial ?_
 simp only [hd0, if_true, push_cast, ↓reduceIte, reduceCtorEq, Nat.reduceBEq, reduceEqDiff, reduceAdd, reduceSub, reduceLT, reduceLeDiff, reduceMul]
 have ha : 0 ≤ u.a % d ∧ u.a % d < d := ⟨Int.emod_nonneg _ (by omega), Int.emod_lt_of_pos _ hd0⟩
 have hb : 0 ≤ u.b % d ∧ u.b % d < d := ⟨Int.emod_nonneg _ (by omega), Int.emod_lt_of_pos _ hd0⟩
 have hqa : -1152921504606846976 ≤ u.a / d ∧ u.a / d ≤ 1152921504606846976 := div_in hu'.1 hd.1
 have hqb : -1152921504606846976 ≤ u.b / d ∧ u.b / d ≤ 1152921504606846976 := div_in hu'.2 hd.1
 have hround : u.round d = ⟨u.a / d + (near0 d (u.a % d) (u.b % d)).a, u.b / d + (near0 d (u.a % d) (u.b % d)).b⟩ := rfl
 generalize u.a % d = a at *
 generalize u.b % d = b at *
 generalize u.a / d = qa at *
 generalize u.b / d = qb at *
 have hmul : ∀ i : Int, -1 ≤ i → i ≤ 2 → -1125899906842624 ≤ i * d ∧ i * d ≤ 2251799813685248 := fun i h1 h2 => by
  rcases (show i = -1 ∨ i = 0 ∨ i = 1 ∨ i = 2 by omega) with rfl | rfl | rfl | rfl <;> omega
 refine run_loop [(12, false), (1, false), (6, false), (7, false), (9, false), (10, false), (4, false)] (fun vs pos los => ∃ i : Int, (-1 ≤ i ∧ i ≤ 3) ∧ (∀ i' k' : Int, -1 ≤ i' → i' < i → -1 ≤ k' → k' ≤ 2 → ¬ holds d (a - i' * d) (b - k' * d)) ∧ vs = [int .i64 i, int .i64 d, int .i64 qa, int .i64 a, int .i64 qb, int .i64 b, .ptr 2000000 0 0] ∧ pos = [] ∧ los = [.box [int .i64 0, int .i64 0]])
  (fun vs _ _ => match vs with | .r (.v (.int _ j)) :: _ => (3 - j).toNat | _ => 0) rfl ?_ ?_
 ·simp only [push_cast, ↓reduceIte, reduceCtorEq, Nat.reduceBEq, reduceEqDiff, reduceAdd, reduceSub, reduceLT, reduceLeDiff, reduceMul]
  exact ⟨-1, by omega, fun i' k' h1 h2 => by omega, rfl⟩
 ·rintro vs pos los ⟨i, i3, hno, rfl, rfl, rfl⟩
  simp only [push_cast, ↓reduceIte, reduceCtorEq, Nat.reduceBEq, reduceEqDiff, reduceAdd, reduceSub, reduceLT, reduceLeDiff, reduceMul]
  refine cnd_mk (fun h => ?_) (fun h => ?_)
  ·have hi : i ≤ 2 := by simpa using h
   have mi := hmul i i3.1 hi
   simp only [push_cast, ↓reduceIte, reduceCtorEq, Nat.reduceBEq, reduceEqDiff, reduceAdd, reduceSub, reduceLT, reduceLeDiff, reduceMul]
   refine run_loop [(13, false), (12, false), (1, false), (6, false), (7, false), (9, false), (10, false), (4, false)] (fun vs pos los => ∃ k : Int, (-1 ≤ k ∧ k ≤ 3) ∧ (∀ k' : Int, -1 ≤ k' → k' < k → ¬ holds d (a - i * d) (b - k' * d)) ∧ vs = [int .i64 k, int .i64 i, int .i64 d, int .i64 qa, int .i64 a, int .i64 qb, int .i64 b, .ptr 2000000 0 0] ∧ pos = [] ∧ los = [.box [int .i64 0, int .i64 0]])
    (fun vs _ _ => match vs with | .r (.v (.int _ j)) :: _ => (3 - j).toNat | _ => 0) rfl ?_ ?_
   ·simp only [push_cast, ↓reduceIte, reduceCtorEq, Nat.reduceBEq, reduceEqDiff, reduceAdd, reduceSub, reduceLT, reduceLeDiff, reduceMul]
    exact ⟨-1, by omega, fun k' h1 h2 => by omega, rfl⟩
   ·rintro vs pos los ⟨k, k3, hnk, rfl, rfl, rfl⟩
    simp only [push_cast, ↓reduceIte, reduceCtorEq, Nat.reduceBEq, reduceEqDiff, reduceAdd, reduceSub, reduceLT, reduceLeDiff, reduceMul]
    refine cnd_mk (fun h => ?_) (fun h => ?_)
    ·have hk : k ≤ 2 := by simpa using h
     have mk := hmul k k3.1 hk
     simp only [push_cast, ↓reduceIte, reduceCtorEq, Nat.reduceBEq, reduceEqDiff, reduceAdd, reduceSub, reduceLT, reduceLeDiff, reduceMul]
     rw [show IntKind.i64.wrap (i * d) = i * d from wrap_id (by omega), show IntKind.i64.wrap (k * d) = k * d from wrap_id (by omega), show IntKind.i64.wrap (a - i * d) = a - i * d from wrap_id (by omega), show IntKind.i64.wrap (b - k * d) = b - k * d from wrap_id (by omega)]
     refine call_mk (rholds_t _ _ d (by omega) (by omega)) rfl trivial ?_
     simp only [push_cast, ↓reduceIte, reduceCtorEq, Nat.reduceBEq, reduceEqDiff, reduceAdd, reduceSub, reduceLT, reduceLeDiff, reduceMul]
     refine cnd_mk (fun h => ?_) (fun h => ?_)
     ·have hh : holds d (a - i * d) (b - k * d) := by simpa using h
      have hn := near0_first ha hb ⟨i3.1, hi⟩ ⟨k3.1, hk⟩ hh (fun k' h1 h2 => hnk k' h1 h2) (fun i' k' h1 h2 h3 h4 => hno i' k' h1 h2 h3 h4)
      rw [hn] at hround
      simp only [hround, Ei.v, Ei.rv, push_cast, ↓reduceIte, reduceCtorEq, Nat.reduceBEq, reduceEqDiff, reduceAdd, reduceSub, reduceLT, reduceLeDiff, reduceMul]
      rw [wrap_id (by omega), wrap_id (by omega)]
     ·have hh : ¬ holds d (a - i * d) (b - k * d) := by simpa using h
      simp only [push_cast, ↓reduceIte, reduceCtorEq, Nat.reduceBEq, reduceEqDiff, reduceAdd, reduceSub, reduceLT, reduceLeDiff, reduceMul]
      rw [wrap_id (by omega)]
      refine ⟨⟨k + 1, by omega, fun k' h1 h2 => ?_, rfl⟩, by omega⟩
      by_cases hkk : k' = k
      ·subst hkk; exact hh
      ·exact hnk k' h1 (by omega)
    ·have hk : k = 3 := by simp at h; omega
     subst hk
     simp only [push_cast, ↓reduceIte, reduceCtorEq, Nat.reduceBEq, reduceEqDiff, reduceAdd, reduceSub, reduceLT, reduceLeDiff, reduceMul]
     rw [wrap_id (by omega)]
     refine ⟨⟨i + 1, by omega, fun i' k' h1 h2 h3 h4 => ?_, rfl⟩, by omega⟩
     by_cases hii : i' = i
     ·subst hii; exact hnk k' h3 (by omega)
     ·exact hno i' k' h1 (by omega) h3 h4
  ·have hi : i = 3 := by simp at h; omega
   subst hi
   exact (near0_ex ha hb hno).elim
theorem rworld_t (x y : Int) : Triple Go.Proofs.Tryz.prog 38 [int .i64 x, int .i64 y] [] (bl (decide (inW x y))) [] := by
 refine apiaryref1_World_triple rfl (by decide) ?_
 simp only [apiaryref1_World_pc, List.length_nil, push_cast, ↓reduceIte, reduceCtorEq, Nat.reduceBEq, reduceEqDiff, reduceAdd, reduceSub, reduceLT, reduceLeDiff, reduceMul]
 repeat refine And.intro (by simp +contextual) ?_
 refine bl_iff ?_
 unfold inW
 by_cases h1 : 0 ≤ x <;> by_cases h2 : x < 1073741824 <;> by_cases h3 : 0 ≤ y <;> by_cases h4 : y < 1073741824 <;> simp [h1, h2, h3, h4]
theorem rnear_t (x y r : Int) (h : inW x y) (hr : 0 ≤ r ∧ r ≤ 12) : Triple Go.Proofs.Tryz.prog 43 [int .i64 x, int .i64 y, int .i64 r] [] (.tup [(near x y r.toNat).v, bl true]) [] := by
 refine apiaryref1_Near_triple rfl (by decide) ?_
 have c1 : decide (r < 0) = false := by simp; omega
 have c2 : decide (r > 12) = false := by simp; omega
 simp only [apiaryref1_Near_pc, List.length_nil, push_cast, ↓reduceIte, reduceCtorEq, Nat.reduceBEq, reduceEqDiff, reduceAdd, reduceSub, reduceLT, reduceLeDiff, reduceMul]
 refine call_mk (rworld_t x y) rfl trivial ?_
 rw [decide_eq_true h]
 simp only [c1, c2, push_cast, ↓reduceIte, reduceCtorEq, Nat.reduceBEq, reduceEqDiff, reduceAdd, reduceSub, reduceLT, reduceLeDiff, reduceMul]
 have hk : (12 - r).toNat = 12 - r.toNat := by omega
 have hk2 : (12 - r).toNat ≤ 12 := by omega
 have h' := h
 unfold inW at h'
 rw [show IntKind.i64.wrap (45 * x) = 45 * x from wrap_id (by omega), show IntKind.i64.wrap (26 * y) = 26 * y from wrap_id (by omega), show IntKind.i64.wrap (52 * y) = 52 * y from wrap_id (by omega), show IntKind.i64.wrap (45 * x - 26 * y) = 45 * x - 26 * y from wrap_id (by omega), show IntKind.i64.wrap (12 - r) = 12 - r from wrap_id (by omega)]
 refine call_mk (rconj_t (12 - r) (by omega)) rfl trivial ?_
 have hb := betaN_in (12 - r).toNat hk2
 have hm := axm_In h hk2
 simp only [Ei.v, Ei.rv, push_cast, ↓reduceIte, reduceCtorEq, Nat.reduceBEq, reduceEqDiff, reduceAdd, reduceSub, reduceLT, reduceLeDiff, reduceMul]
 refine call_as (as' := [(ax x y).v, (betaN (12 - r).toNat).conj.v]) rfl ?_
 refine call_mk (rmul_t _ _ ((ax_In h).mono (by decide)) ((conj_In hb).mono (by decide)) (hm.mono (by decide))) rfl trivial ?_
 simp only [Ei.v, Ei.rv, push_cast, ↓reduceIte, reduceCtorEq, Nat.reduceBEq, reduceEqDiff, reduceAdd, reduceSub, reduceLT, reduceLeDiff, reduceMul]
 rw [show IntKind.i64.wrap (12 - r) = 12 - r from wrap_id (by omega)]
 refine dcall_mk (seven_t (12 - r) (by omega) (by omega)) rfl trivial ?_
 simp only [push_cast, ↓reduceIte, reduceCtorEq, Nat.reduceBEq, reduceEqDiff, reduceAdd, reduceSub, reduceLT, reduceLeDiff, reduceMul]
 have hp := p7 (12 - r).toNat hk2
 rw [show IntKind.i64.wrap (2340 * 7 ^ (12 - r).toNat) = 2340 * 7 ^ (12 - r).toNat from wrap_id (by omega)]
 refine dcall_as (as' := [((ax x y).mul (betaN (12 - r).toNat).conj).v, int .i64 (2340 * 7 ^ (12 - r).toNat)]) rfl ?_
 refine dcall_mk (rround_t _ _ (hm.mono (by decide)) (by omega)) rfl trivial ?_
 simp only [Ei.v, Ei.rv, near, hk, push_cast, ↓reduceIte, reduceCtorEq, Nat.reduceBEq, reduceEqDiff, reduceAdd, reduceSub, reduceLT, reduceLeDiff, reduceMul]
 kernel_rfl

noncomputable def apiaryref1_Unit_pc : PC :=
  (.seq (.reg [p_a 2 (.new [(.r (.v (.int .i64 0))), (.r (.v (.int .i64 0)))])])
 (.seq (.reg [p_s 4 (.build [(.r (.v (.int .i64 0))), (.r (.v (.int .i64 0)))] [(0, 1, (o_i 1))]), p_s 5 (.build [(.r (.v (.int .i64 0))), (.r (.v (.int .i64 0)))] [(1, 1, (o_i 1))]),
 p_s 6 (.build [(.r (.v (.int .i64 0))), (.r (.v (.int .i64 0)))] [(0, 1, (o_i (-1))), (1, 1, (o_i 1))]), p_s 7 (.build [(.r (.v (.int .i64 0))), (.r (.v (.int .i64 0)))] [(0, 1, (o_i (-1)))]),
 p_s 8 (.build [(.r (.v (.int .i64 0))), (.r (.v (.int .i64 0)))] [(1, 1, (o_i (-1)))]), p_s 9 (.build [(.r (.v (.int .i64 0))), (.r (.v (.int .i64 0)))] [(0, 1, (o_i 1)), (1, 1, (o_i (-1)))]),
 p_s 10 (.build [(.r (.v (.int .i64 0))), (.r (.v (.int .i64 0))), (.r (.v (.int .i64 0))), (.r (.v (.int .i64 0))), (.r (.v (.int .i64 0))), (.r (.v (.int .i64 0))), (.r (.v (.int .i64 0))), (.r (.v (.int .i64 0))), (.r (.v (.int .i64 0))), (.r (.v (.int .i64 0))), (.r (.v (.int .i64 0))), (.r (.v (.int .i64 0)))] [(0, 2, (.t 4)), (2, 2, (.t 5)), (4, 2, (.t 6)), (6, 2, (.t 7)), (8, 2, (.t 8)), (10, 2, (.t 9))]),
 p_a 3 (.new [(.r (.v (.int .i64 0))), (.r (.v (.int .i64 0))), (.r (.v (.int .i64 0))), (.r (.v (.int .i64 0))), (.r (.v (.int .i64 0))), (.r (.v (.int .i64 0))), (.r (.v (.int .i64 0))), (.r (.v (.int .i64 0))), (.r (.v (.int .i64 0))), (.r (.v (.int .i64 0))), (.r (.v (.int .i64 0))), (.r (.v (.int .i64 0)))]),
 ⟨none, none, 0, .act (.st 12 (.t 3) (.t 10))⟩])
 (.seq (.reg [p_m 11 0, p_s 12 (.bin .rem (.t 11) (o_i 6)), p_s 13 (.bin .add (.t 12) (o_i 6)), p_s 14 (.bin .rem (.t 13) (o_i 6)), p_s 15 (.iaa 6 2 (.t 3) (.t 14)), p_s 16 (.ld (some 2) (.t 15)),
 ⟨none, none, 0, .act (.st 2 (.t 2) (.t 16))⟩])
 .ret)))
theorem apiaryref1_Unit_triple : Fun Go.Proofs.Tryz.prog 92 1 [(2, false, some (74, (some 2)))] apiaryref1_Unit_pc := fun_mk Go.Proofs.Tryz.func92 rfl (by decide) (by kernel_rfl) (by decide) rfl (by kernel_rfl) (by kernel_rfl) (by decide)
noncomputable def apiaryref1_parent_pc : PC :=
  (.seq (.reg [p_a 1 (.box (.t 0)), p_a 2 (.new [(.r (.v (.int .i64 0))), (.r (.v (.int .i64 0)))]), p_s 3 (.mov (o_i 0))])
 (.seq (.reg [p_s 13 (.ld (some 2) (.t 1)), p_s 14 (.build [(.r (.v (.int .i64 0))), (.r (.v (.int .i64 0)))] [(0, 1, (o_i 3)), (1, 1, (o_i (-1)))]), p_c 15 1 69 [.t 13, .t 14],
 p_m 12 15, p_s 16 (.ext (.t 12) 0), p_s 17 (.ext (.t 12) 1), p_a 4 (.new [(.r (.v (.int .i64 0))), (.r (.v (.int .i64 0)))]), ⟨none, none, 0, .act (.st 2 (.t 4) (.t 16))⟩,
 p_m 5 17])
 (.seq (.reg [p_s 19 (.ld (some 2) (.t 4)), p_c 20 2 71 [(.t 19), (o_i 7)], p_m 18 20, p_s 21 (.ext (.t 18) 0), p_s 22 (.ext (.t 18) 1), p_a 6 (.new [(.r (.v (.int .i64 0))), (.r (.v (.int .i64 0)))]),
 ⟨none, none, 0, .act (.st 2 (.t 6) (.t 21))⟩, p_m 7 22])
 (.seq (.reg [p_s 24 (.ld (some 2) (.t 6)), p_s 25 (.build [(.r (.v (.int .i64 0))), (.r (.v (.int .i64 0)))] [(0, 1, (o_i 2)), (1, 1, (o_i 1))]), p_c 26 3 69 [.t 24, .t 25],
 p_m 23 26, p_s 27 (.ext (.t 23) 0), p_s 28 (.ext (.t 23) 1), p_a 8 (.new [(.r (.v (.int .i64 0))), (.r (.v (.int .i64 0)))]), ⟨none, none, 0, .act (.st 2 (.t 8) (.t 27))⟩,
 p_m 9 28])
 (.seq (.reg [p_s 29 (.fa 0 (.t 1)), p_s 30 (.ld none (.t 29)), p_s 31 (.fa 0 (.t 8)), p_s 32 (.ld none (.t 31)), p_s 33 (.bin .sub (.t 30) (.t 32)), p_s 34 (.fa 1 (.t 1)), p_s 35 (.ld none (.t 34)),
 p_s 36 (.fa 1 (.t 8)), p_s 37 (.ld none (.t 36)), p_s 38 (.bin .sub (.t 35) (.t 37)), p_s 39 (.build [(.r (.v (.int .i64 0))), (.r (.v (.int .i64 0)))] [(0, 1, (.t 33)), (1, 1, (.t 38))]),
 p_a 10 (.new [(.r (.v (.int .i64 0))), (.r (.v (.int .i64 0)))]), ⟨none, none, 0, .act (.st 2 (.t 10) (.t 39))⟩])
 (.seq (.seq (.reg [p_s 11 (.mov (o_i 0))])
 (.block 0 (.loop (.seq (.seq (.reg [p_m 40 11, p_s 41 (.bin .lss (.t 40) (o_i 6))])
 (.cond (.t 41)
 .skip
 (.exit 0)))
 (.seq (.block 1 (.seq (.drw [p_m 44 11, p_c 45 4 92 [.t 44], p_s 46 (.ld (some 2) (.t 10)), p_s 47 (.eqa false [0, 0] (.t 45) (.t 46))]
 [[], [0], [], [0, 1, 2]])
 (.cond (.t 47)
 (.seq (.reg [p_s 48 (.ld (some 2) (.t 6)), p_m 49 11, p_s 50 (.bin .add (.t 49) (o_i 1)), ⟨none, none, 0, .act (.st 2 (.t 2) (.t 48))⟩, p_m 3 50])
 .ret)
 .skip)))
 (.reg [p_m 42 11, p_s 43 (.bin .add (.t 42) (o_i 1)), p_m 11 43]))))))
 (.seq (.reg [p_s 51 (.ld (some 2) (.t 6)), ⟨none, none, 0, .act (.st 2 (.t 2) (.t 51))⟩, p_s 3 (.mov (o_i 0))])
 .ret)))))))
theorem apiaryref1_parent_triple : Fun Go.Proofs.Tryz.prog 56 1 [(2, false, some (74, (some 2))), (3, false, none)] apiaryref1_parent_pc := fun_mk Go.Proofs.Tryz.func56 rfl (by decide) (by kernel_rfl) (by decide) rfl (by kernel_rfl) (by kernel_rfl) (by decide)
noncomputable def apiaryref1_Ok_pc : PC :=
  (.seq (.reg [p_a 1 (.box (.t 0)), p_s 2 (.mov (.c (.r (.v (.bool false)))))])
 (.seq (.seq (.reg [p_s 5 (.fa 0 (.t 1)), p_s 6 (.ld none (.t 5)), p_s 7 (.bin .lss (.t 6) (o_i 0)), p_m 8 7, p_g 9 8 false (.fa 0 (.t 1)), p_g 10 8 false (.ld none (.t 9)), p_g 11 8 false (.bin .gtr (.t 10) (o_i 12)),
 p_s 12 (.pick (.t 8) (.c (.r (.v (.bool true)))) (.t 11)), p_m 13 12, p_g 14 13 false (.fa 1 (.t 1)), p_g 15 13 false (.fa 0 (.t 14)), p_g 16 13 false (.ld none (.t 15)),
 p_g 17 13 false (.bin .lss (.t 16) (o_i (-1073741824))), p_s 18 (.pick (.t 13) (.c (.r (.v (.bool true)))) (.t 17)), p_m 19 18, p_g 20 19 false (.fa 1 (.t 1)), p_g 21 19 false (.fa 0 (.t 20)),
 p_g 22 19 false (.ld none (.t 21)), p_g 23 19 false (.bin .gtr (.t 22) (o_i 1073741824)), p_s 24 (.pick (.t 19) (.c (.r (.v (.bool true)))) (.t 23)), p_m 25 24,
 p_g 26 25 false (.fa 1 (.t 1)), p_g 27 25 false (.fa 1 (.t 26)), p_g 28 25 false (.ld none (.t 27)), p_g 29 25 false (.bin .lss (.t 28) (o_i (-1073741824))), p_s 30 (.pick (.t 25) (.c (.r (.v (.bool true)))) (.t 29)),
 p_m 31 30, p_g 32 31 false (.fa 1 (.t 1)), p_g 33 31 false (.fa 1 (.t 32)), p_g 34 31 false (.ld none (.t 33)), p_g 35 31 false (.bin .gtr (.t 34) (o_i 1073741824)),
 p_s 36 (.pick (.t 31) (.c (.r (.v (.bool true)))) (.t 35))])
 (.cond (.t 36)
 (.seq (.reg [p_s 2 (.mov (.c (.r (.v (.bool false)))))])
 .ret)
 .skip))
 (.seq (.reg [p_s 37 (.fa 1 (.t 1)), p_s 38 (.ld (some 2) (.t 37)), p_a 3 (.new [(.r (.v (.int .i64 0))), (.r (.v (.int .i64 0)))]), ⟨none, none, 0, .act (.st 2 (.t 3) (.t 38))⟩])
 (.seq (.seq (.reg [p_s 4 (.mov (o_i 0))])
 (.block 0 (.loop (.seq (.seq (.reg [p_m 39 4, p_s 40 (.fa 0 (.t 1)), p_s 41 (.ld none (.t 40)), p_s 42 (.bin .lss (.t 39) (.t 41))])
 (.cond (.t 42)
 .skip
 (.exit 0)))
 (.seq (.block 1 (.reg [p_s 46 (.ld (some 2) (.t 3)), p_c 47 1 56 [.t 46], p_m 45 47, p_s 48 (.ext (.t 45) 0), p_s 49 (.ext (.t 45) 1), ⟨none, none, 0, .act (.st 2 (.t 3) (.t 48))⟩]))
 (.reg [p_m 43 4, p_s 44 (.bin .add (.t 43) (o_i 1)), p_m 4 44]))))))
 (.seq (.reg [p_s 50 (.fa 0 (.t 3)), p_s 51 (.ld none (.t 50)), p_s 52 (.bin .geq (.t 51) (o_i (-512))), p_m 53 52, p_g 54 53 true (.fa 0 (.t 3)), p_g 55 53 true (.ld none (.t 54)),
 p_g 56 53 true (.bin .leq (.t 55) (o_i 511)), p_s 57 (.pick (.t 53) (.t 56) (.c (.r (.v (.bool false))))), p_m 58 57, p_g 59 58 true (.fa 1 (.t 3)), p_g 60 58 true (.ld none (.t 59)),
 p_g 61 58 true (.bin .geq (.t 60) (o_i (-512))), p_s 62 (.pick (.t 58) (.t 61) (.c (.r (.v (.bool false))))), p_m 63 62, p_g 64 63 true (.fa 1 (.t 3)), p_g 65 63 true (.ld none (.t 64)),
 p_g 66 63 true (.bin .leq (.t 65) (o_i 511)), p_s 67 (.pick (.t 63) (.t 66) (.c (.r (.v (.bool false))))), p_m 2 67])
 .ret)))))
theorem apiaryref1_Ok_triple : Fun Go.Proofs.Tryz.prog 55 1 [(2, false, none)] apiaryref1_Ok_pc := fun_mk Go.Proofs.Tryz.func55 rfl (by decide) (by kernel_rfl) (by decide) rfl (by kernel_rfl) (by kernel_rfl) (by decide)
def vvB : List AV := [int .i64 1, int .i64 1, int .i64 (-1), int .i64 2, int .i64 (-2), int .i64 1, int .i64 (-1), int .i64 (-1), int .i64 1, int .i64 (-2), int .i64 2, int .i64 (-1)]
theorem runit_t (k : Int) (hk : 0 ≤ k ∧ k < 6) : Triple Go.Proofs.Tryz.prog 92 [int .i64 k] [] ((uni k.toNat).v) [] := by
 refine apiaryref1_Unit_triple rfl (by decide) ?_
 have hm : (IntKind.i64.wrap (Int.tmod k 6 + 6)).tmod 6 = k := by
  rw [Int.tmod_eq_emod_of_nonneg hk.1, wrap_id (by omega), Int.tmod_eq_emod_of_nonneg (by omega)]; omega
 simp only [apiaryref1_Unit_pc, List.length_nil, hm, Ei.v, Ei.rv, push_cast, ↓reduceIte, reduceCtorEq, Nat.reduceBEq, reduceEqDiff, reduceAdd, reduceSub, reduceLT, reduceLeDiff, reduceMul]
 refine ⟨by decide, by decide, hk, by omega, ?_⟩
 rcases (show k = 0 ∨ k = 1 ∨ k = 2 ∨ k = 3 ∨ k = 4 ∨ k = 5 by omega) with rfl | rfl | rfl | rfl | rfl | rfl
 all_goals
  simp only [Int.reduceToNat, Nat.zero_mul, Nat.add_zero, Nat.zero_add, uni_0, uni_1, uni_2, uni_3, uni_4, uni_5, push_cast, ↓reduceIte, reduceCtorEq, Nat.reduceBEq, reduceEqDiff, reduceAdd, reduceSub, reduceLT, reduceLeDiff, reduceMul]
theorem rparent_t (z : Ei) (h : z.In 1073741824) : Triple Go.Proofs.Tryz.prog 56 [z.v] [] (.tup [(pr z).v, int .i64 (dg z)]) [] := by
 refine apiaryref1_parent_triple rfl (by decide) ?_
 simp only [apiaryref1_parent_pc, Ei.v, Ei.rv, List.length_nil, push_cast, ↓reduceIte, reduceCtorEq, Nat.reduceBEq, reduceEqDiff, reduceAdd, reduceSub, reduceLT, reduceLeDiff, reduceMul]
 have h1 : (z.mul ⟨3, -1⟩).In 9663676416 := (mul_In h (show (⟨3, -1⟩ : Ei).In 3 by unfold Ei.In; decide)).mono (by decide)
 have h2 : (pr z).In 1073741824 := pr_In h (by decide)
 have h3 : ((pr z).mul beta).In 6442450944 := (mul_In h2 (show beta.In 2 by unfold Ei.In; decide)).mono (by decide)
 have hl := lft_In z
 refine call_as (as' := [z.v, Ei.v ⟨3, -1⟩]) rfl ?_
 refine call_mk (rmul_t _ _ (h.mono (by decide)) (show (⟨3, -1⟩ : Ei).In _ by unfold Ei.In; decide) (h1.mono (by decide))) rfl trivial ?_
 simp only [Ei.v, Ei.rv, push_cast, ↓reduceIte, reduceCtorEq, Nat.reduceBEq, reduceEqDiff, reduceAdd, reduceSub, reduceLT, reduceLeDiff, reduceMul]
 refine call_as (as' := [(z.mul ⟨3, -1⟩).v, int .i64 7]) rfl ?_
 refine call_mk (rround_t _ 7 (h1.mono (by decide)) (by decide)) rfl trivial ?_
 rw [show (z.mul ⟨3, -1⟩).round 7 = pr z from rfl]
 simp only [Ei.v, Ei.rv, push_cast, ↓reduceIte, reduceCtorEq, Nat.reduceBEq, reduceEqDiff, reduceAdd, reduceSub, reduceLT, reduceLeDiff, reduceMul]
 refine call_as (as' := [(pr z).v, beta.v]) rfl ?_
 refine call_mk (rmul_t _ _ (h2.mono (by decide)) (show beta.In _ by unfold Ei.In; decide) (h3.mono (by decide))) rfl trivial ?_
 have e1 : z.a - ((pr z).mul beta).a = (lft z).a := rfl
 have e2 : z.b - ((pr z).mul beta).b = (lft z).b := rfl
 unfold Ei.In at hl
 rw [← e1, ← e2] at hl
 simp only [Ei.v, Ei.rv, push_cast, ↓reduceIte, reduceCtorEq, Nat.reduceBEq, reduceEqDiff, reduceAdd, reduceSub, reduceLT, reduceLeDiff, reduceMul]
 rw [show IntKind.i64.wrap (z.a - ((pr z).mul beta).a) = (lft z).a by rw [← e1]; exact wrap_id (by omega), show IntKind.i64.wrap (z.b - ((pr z).mul beta).b) = (lft z).b by rw [← e2]; exact wrap_id (by omega)]
 rw [show dg z = dgOf (lft z) from rfl]
 generalize lft z = l at *
 generalize pr z = q at *
 refine run_loop [(11, false), (10, false), (6, false), (2, false)] (fun vs pos los => ∃ i : Int, (0 ≤ i ∧ i ≤ 6) ∧ (∀ j : Nat, (j : Int) < i → uni j ≠ l) ∧ vs = [int .i64 i, .ptr 2000000 0 0, .ptr 2000001 0 0, .ptr 2000002 0 0] ∧ pos = [] ∧ los = [.box [int .i64 l.a, int .i64 l.b], .box [int .i64 q.a, int .i64 q.b], .box [int .i64 0, int .i64 0]])
  (fun vs _ _ => match vs with | .r (.v (.int _ j)) :: _ => (6 - j).toNat | _ => 0) rfl ?_ ?_
 ·simp only [push_cast, ↓reduceIte, reduceCtorEq, Nat.reduceBEq, reduceEqDiff, reduceAdd, reduceSub, reduceLT, reduceLeDiff, reduceMul]
  exact ⟨0, by omega, fun j hj => by omega, rfl⟩
 ·rintro vs pos los ⟨i, i6, hj, rfl, rfl, rfl⟩
  simp only [push_cast, ↓reduceIte, reduceCtorEq, Nat.reduceBEq, reduceEqDiff, reduceAdd, reduceSub, reduceLT, reduceLeDiff, reduceMul]
  refine cnd_mk (fun h => ?_) (fun h => ?_)
  ·simp only [decide_eq_true_eq] at h
   simp only [push_cast, ↓reduceIte, reduceCtorEq, Nat.reduceBEq, reduceEqDiff, reduceAdd, reduceSub, reduceLT, reduceLeDiff, reduceMul]
   refine dcall_mk (runit_t i ⟨i6.1, h⟩) rfl trivial ?_
   simp only [Ei.v, Ei.rv, push_cast, ↓reduceIte, reduceCtorEq, Nat.reduceBEq, reduceEqDiff, reduceAdd, reduceSub, reduceLT, reduceLeDiff, reduceMul]
   refine ⟨by kernel_rfl, cnd_mk (fun h' => ?_) (fun h' => ?_)⟩
   ·have e : uni i.toNat = l := by
     simp only [Bool.and_eq_true, beq_iff_eq] at h'
     exact Ei.ext' h'.1 h'.2
    simp only [push_cast, ↓reduceIte, reduceCtorEq, Nat.reduceBEq, reduceEqDiff, reduceAdd, reduceSub, reduceLT, reduceLeDiff, reduceMul]
    rw [← e, dgOf_uni _ (by omega), wrap_id (by omega), show ((i.toNat + 1 : Nat) : Int) = i + 1 by omega]
   ·have e : uni i.toNat ≠ l := fun e => by rw [e] at h'; simp at h'
    simp only [push_cast, ↓reduceIte, reduceCtorEq, Nat.reduceBEq, reduceEqDiff, reduceAdd, reduceSub, reduceLT, reduceLeDiff, reduceMul]
    rw [wrap_id (by omega)]
    refine ⟨⟨i + 1, by omega, fun j hj' => ?_, rfl⟩, by omega⟩
    by_cases hji : (j : Int) = i
    ·rw [show j = i.toNat by omega]; exact e
    ·exact hj j (by omega)
  ·have hi : i = 6 := by simp at h; omega
   subst hi
   simp only [push_cast, ↓reduceIte, reduceCtorEq, Nat.reduceBEq, reduceEqDiff, reduceAdd, reduceSub, reduceLT, reduceLeDiff, reduceMul]
   rw [dgOf_no l fun j h6 => hj j (by omega)]
   rfl
theorem rokc_t (r : Int) (z : Ei) (h0 : 0 ≤ r) (h : okc r.toNat z) : Triple Go.Proofs.Tryz.prog 55 [cel r z] [] (bl true) [] := by
 refine apiaryref1_Ok_triple rfl (by decide) ?_
 obtain ⟨r12, hz, ha, hb⟩ := h
 have hz' := hz
 unfold Ei.In at hz'
 have c1 : decide (r < 0) = false := by simp; omega
 have c2 : decide (r > 12) = false := by simp; omega
 have c3 : decide (z.a < -1073741824) = false := by simp; omega
 have c4 : decide (z.a > 1073741824) = false := by simp; omega
 have c5 : decide (z.b < -1073741824) = false := by simp; omega
 have c6 : decide (z.b > 1073741824) = false := by simp; omega
 simp only [apiaryref1_Ok_pc, cel, List.length_nil, c1, c2, c3, c4, c5, c6, push_cast, ↓reduceIte, reduceCtorEq, Nat.reduceBEq, reduceEqDiff, reduceAdd, reduceSub, reduceLT, reduceLeDiff, reduceMul]
 refine run_loop [(4, false), (1, false), (3, false)] (fun vs pos los => ∃ i : Int, (0 ≤ i ∧ i ≤ r) ∧ vs = [int .i64 i, .ptr 2000000 0 0, .ptr 2000001 0 0] ∧ pos = [] ∧ los = [.box [int .i64 r, int .i64 z.a, int .i64 z.b], .box [int .i64 (anc i.toNat z).a, int .i64 (anc i.toNat z).b]])
  (fun vs _ _ => match vs with | .r (.v (.int _ j)) :: _ => (r - j).toNat | _ => 0) rfl ?_ ?_
 ·simp only [push_cast, ↓reduceIte, reduceCtorEq, Nat.reduceBEq, reduceEqDiff, reduceAdd, reduceSub, reduceLT, reduceLeDiff, reduceMul]
  exact ⟨0, by omega, rfl, rfl⟩
 ·rintro vs pos los ⟨i, i6, rfl, rfl, rfl⟩
  simp only [push_cast, ↓reduceIte, reduceCtorEq, Nat.reduceBEq, reduceEqDiff, reduceAdd, reduceSub, reduceLT, reduceLeDiff, reduceMul]
  refine cnd_mk (fun h => ?_) (fun h => ?_)
  ·simp only [decide_eq_true_eq] at h
   simp only [push_cast, ↓reduceIte, reduceCtorEq, Nat.reduceBEq, reduceEqDiff, reduceAdd, reduceSub, reduceLT, reduceLeDiff, reduceMul]
   have hp := anc_In i.toNat hz (by decide)
   refine call_as (as' := [(anc i.toNat z).v]) rfl ?_
   refine call_mk (rparent_t _ hp) rfl trivial ?_
   simp only [Ei.v, Ei.rv, push_cast, ↓reduceIte, reduceCtorEq, Nat.reduceBEq, reduceEqDiff, reduceAdd, reduceSub, reduceLT, reduceLeDiff, reduceMul]
   rw [show IntKind.i64.wrap (i + 1) = i + 1 from wrap_id (by omega)]
   refine ⟨⟨i + 1, by omega, rfl, ?_⟩, by omega⟩
   rw [show (i + 1).toNat = i.toNat + 1 by omega, anc_succ]
  ·have hi : i = r := by simp at h; omega
   subst hi
   simp only [ge_iff_le, ha.1, ha.2, hb.1, hb.2, decide_true, push_cast, ↓reduceIte, reduceCtorEq, Nat.reduceBEq, reduceEqDiff, reduceAdd, reduceSub, reduceLT, reduceLeDiff, reduceMul]

noncomputable def apiaryref1_Word_pc : PC :=
  (.seq (.reg [p_a 1 (.box (.t 0)), p_s 2 (.mov (.c (.r (.v (.int .u64 0))))), p_s 3 (.mov (o_i 0))])
 (.seq (.seq (.reg [p_s 10 (.ld (some 3) (.t 1)), p_c 11 1 55 [.t 10], p_s 12 (.un .not (.t 11))])
 (.cond (.t 12)
 (.seq (.reg [p_s 2 (.mov (.c (.r (.v (.int .u64 0))))), p_s 3 (.mov (o_i 2))])
 .ret)
 .skip))
 (.seq (.reg [p_s 13 (.fa 1 (.t 1)), p_s 14 (.ld (some 2) (.t 13)), p_a 4 (.new [(.r (.v (.int .i64 0))), (.r (.v (.int .i64 0)))]), ⟨none, none, 0, .act (.st 2 (.t 4) (.t 14))⟩])
 (.seq (.reg [p_s 5 (.mov (.c (.r (.v (.int .u64 68719476735)))))])
 (.seq (.seq (.reg [p_s 15 (.fa 0 (.t 1)), p_s 16 (.ld none (.t 15)), p_m 6 16])
 (.block 0 (.loop (.seq (.seq (.reg [p_m 17 6, p_s 18 (.bin .gtr (.t 17) (o_i 0))])
 (.cond (.t 18)
 .skip
 (.exit 0)))
 (.seq (.block 1 (.seq (.reg [p_s 22 (.ld (some 2) (.t 4)), p_c 23 2 56 [.t 22], p_m 21 23, p_s 24 (.ext (.t 21) 0), p_s 25 (.ext (.t 21) 1), p_a 7 (.new [(.r (.v (.int .i64 0))), (.r (.v (.int .i64 0)))]),
 ⟨none, none, 0, .act (.st 2 (.t 7) (.t 24))⟩, p_m 8 25])
 (.seq (.reg [p_m 26 6, p_s 27 (.bin .mul (o_i 3) (.t 26)), p_s 28 (.bin .sub (o_i 36) (.t 27)), p_m 9 28])
 (.seq (.drw [p_m 29 5, p_m 30 9, p_s 31 (.bin .shl (.c (.r (.v (.int .u64 7)))) (.t 30)), p_s 32 (.bin .andNot (.t 29) (.t 31)), p_m 33 8, p_s 34 (.conv .u64 (.t 33)), p_m 35 9,
 p_s 36 (.bin .shl (.t 34) (.t 35)), p_s 37 (.bin .or (.t 32) (.t 36)), p_m 5 37]
 [[], [], [1], [0, 1, 2], [], [4], [], [4, 5, 6], [0, 1, 2, 3, 4, 5, 6, 7], [0, 1, 2, 3, 4, 5, 6, 7, 8]])
 (.reg [p_s 38 (.ld (some 2) (.t 7)), ⟨none, none, 0, .act (.st 2 (.t 4) (.t 38))⟩])))))
 (.reg [p_m 19 6, p_s 20 (.bin .sub (.t 19) (o_i 1)), p_m 6 20]))))))
 (.seq (.reg [p_m 39 5, p_s 40 (.bin .or (.t 39) (.c (.r (.v (.int .u64 1152921504606846976))))), p_s 41 (.fa 0 (.t 1)), p_s 42 (.ld none (.t 41)), p_s 43 (.conv .u64 (.t 42)),
 p_s 44 (.bin .shl (.t 43) (.c (.r (.v (.int .u64 56))))), p_s 45 (.bin .or (.t 40) (.t 44)), p_s 46 (.fa 0 (.t 4)), p_s 47 (.ld none (.t 46)), p_s 48 (.bin .add (.t 47) (o_i 512)),
 p_s 49 (.conv .u64 (.t 48)), p_s 50 (.bin .shl (.t 49) (.c (.r (.v (.int .u64 46))))), p_s 51 (.bin .or (.t 45) (.t 50)), p_s 52 (.fa 1 (.t 4)), p_s 53 (.ld none (.t 52)),
 p_s 54 (.bin .add (.t 53) (o_i 512)), p_s 55 (.conv .u64 (.t 54)), p_s 56 (.bin .shl (.t 55) (.c (.r (.v (.int .u64 36))))), p_s 57 (.bin .or (.t 51) (.t 56)), p_m 2 57,
 p_s 3 (.mov (o_i 0))])
 .ret))))))
theorem apiaryref1_Word_triple : Fun Go.Proofs.Tryz.prog 32 1 [(2, false, none), (3, false, none)] apiaryref1_Word_pc := fun_mk Go.Proofs.Tryz.func32 rfl (by decide) (by kernel_rfl) (by decide) rfl (by kernel_rfl) (by kernel_rfl) (by decide)
theorem un64 {a : Nat} (h : a < 18446744073709551616) : IntKind.u64.wrap (a : Int) = a := by rw [IntKind.wrap_u64]; omega
theorem ofI (a : Nat) (h : a < 18446744073709551616) : (BitVec.ofInt IntKind.u64.bits (a : Int)).toNat = a := by
 rw [show IntKind.u64.bits = 64 from rfl, BitVec.toNat_ofInt]
 omega
theorem or_u {a b : Nat} (ha : a < 18446744073709551616) (hb : b < 18446744073709551616) : IntKind.u64.wrap (BitVec.ofInt IntKind.u64.bits (a : Int) ||| BitVec.ofInt IntKind.u64.bits (b : Int)).toNat = ((a ||| b : Nat) : Int) := by
 rw [BitVec.toNat_or, ofI a ha, ofI b hb]
 exact un64 (Nat.or_lt_two_pow (n := 64) ha hb)
theorem not_toNat (x : BitVec 64) : (~~~ x).toNat = 2 ^ 64 - 1 - x.toNat := BitVec.toNat_not
theorem andnot_u {a b : Nat} (ha : a < 18446744073709551616) (hb : b < 18446744073709551616) : IntKind.u64.wrap (BitVec.ofInt IntKind.u64.bits (a : Int) &&& ~~~ BitVec.ofInt IntKind.u64.bits (b : Int)).toNat = ((a &&& (2 ^ 64 - 1 - b) : Nat) : Int) := by
 rw [BitVec.toNat_and, ofI a ha, show (~~~ BitVec.ofInt IntKind.u64.bits (b : Int)).toNat = 2 ^ 64 - 1 - (BitVec.ofInt IntKind.u64.bits (b : Int)).toNat from not_toNat _, ofI b hb]
 exact un64 (Nat.lt_of_le_of_lt Nat.and_le_left ha)
theorem shl_u {a k : Nat} {s : Int} (hs : s.toNat = k) (hk : k ≤ 63) (h : a * 2 ^ k < 18446744073709551616) : IntKind.u64.wrap ((a : Int) * 2 ^ min s.toNat IntKind.u64.bits) = ((a * 2 ^ k : Nat) : Int) := by
 rw [hs, show min k IntKind.u64.bits = k from Nat.min_eq_left (by simp [IntKind.bits]; omega), show (a : Int) * 2 ^ k = ((a * 2 ^ k : Nat) : Int) by simp]
 exact un64 h
def uw (n : Nat) : AV := int .u64 n
theorem rword_t (r : Int) (z : Ei) (h0 : 0 ≤ r) (h_ : okc r.toNat z) : Triple Go.Proofs.Tryz.prog 32 [cel r z] [] (.tup [uw (word r.toNat z), int .i64 0]) [] := by
 refine apiaryref1_Word_triple rfl (by decide) ?_
 have h' := h_
 obtain ⟨r12, hz, ha, hb⟩ := h'
 simp only [apiaryref1_Word_pc, cel, List.length_nil, push_cast, ↓reduceIte, reduceCtorEq, Nat.reduceBEq, reduceEqDiff, reduceAdd, reduceSub, reduceLT, reduceLeDiff, reduceMul]
 refine call_as (as' := [cel r z]) rfl ?_
 refine call_mk (rokc_t r z h0 h_) rfl trivial ?_
 simp only [push_cast, ↓reduceIte, reduceCtorEq, Nat.reduceBEq, reduceEqDiff, reduceAdd, reduceSub, reduceLT, reduceLeDiff, reduceMul]
 have hw0 := wordI_r r.toNat z (by omega)
 refine run_loop [(6, false), (1, false), (4, false), (5, false)] (fun vs pos los => ∃ i : Int, (0 ≤ i ∧ i ≤ r) ∧ vs = [int .i64 i, .ptr 2000000 0 0, .ptr 2000001 0 0, int .u64 (wordI r.toNat z i.toNat)] ∧ pos = [] ∧ los = [.box [int .i64 r, int .i64 z.a, int .i64 z.b], .box [int .i64 (anc (r - i).toNat z).a, int .i64 (anc (r - i).toNat z).b]])
  (fun vs _ _ => match vs with | .r (.v (.int _ j)) :: _ => j.toNat | _ => 0) rfl ?_ ?_
 ·simp only [push_cast, ↓reduceIte, reduceCtorEq, Nat.reduceBEq, reduceEqDiff, reduceAdd, reduceSub, reduceLT, reduceLeDiff, reduceMul]
  refine ⟨r, by omega, ?_⟩
  rw [hw0, Int.sub_self]
  exact ⟨rfl, rfl⟩
 ·rintro vs pos los ⟨i, i6, rfl, rfl, rfl⟩
  simp only [push_cast, ↓reduceIte, reduceCtorEq, Nat.reduceBEq, reduceEqDiff, reduceAdd, reduceSub, reduceLT, reduceLeDiff, reduceMul]
  refine cnd_mk (fun h => ?_) (fun h => ?_)
  ·simp only [decide_eq_true_eq] at h
   have hp := anc_In (r - i).toNat hz (by decide)
   simp only [push_cast, ↓reduceIte, reduceCtorEq, Nat.reduceBEq, reduceEqDiff, reduceAdd, reduceSub, reduceLT, reduceLeDiff, reduceMul]
   refine call_as (as' := [(anc (r - i).toNat z).v]) rfl ?_
   refine call_mk (rparent_t _ hp) rfl trivial ?_
   simp only [Ei.v, Ei.rv, push_cast, ↓reduceIte, reduceCtorEq, Nat.reduceBEq, reduceEqDiff, reduceAdd, reduceSub, reduceLT, reduceLeDiff, reduceMul]
   rw [show IntKind.i64.wrap (3 * i) = 3 * i from wrap_id (by omega), show IntKind.i64.wrap (36 - 3 * i) = 36 - 3 * i from wrap_id (by omega), show IntKind.i64.wrap (i - 1) = i - 1 from wrap_id (by omega)]
   have hl := wordI_lt r.toNat z i.toNat (by omega) r12
   have hst := wordI_step r.toNat z i.toNat (by omega) (by omega) r12
   have hd := dg_lt (anc (r - i).toNat z)
   have hat : (36 - 3 * i).toNat = 36 - 3 * i.toNat := by omega
   have hp2 : 2 ^ (36 - 3 * i.toNat) ≤ 2 ^ 33 := Nat.pow_le_pow_right (by decide) (by omega)
   have hd2 : dg (anc (r - i).toNat z) * 2 ^ (36 - 3 * i.toNat) ≤ 6 * 2 ^ (36 - 3 * i.toNat) := Nat.mul_le_mul_right _ (by omega)
   rw [un64 (show dg (anc (r - i).toNat z) < 18446744073709551616 by omega), show (7 : Int) = ((7 : Nat) : Int) from rfl, shl_u hat (by omega) (by omega), shl_u hat (by omega) (by omega), andnot_u (by omega) (by omega), or_u (Nat.lt_of_le_of_lt Nat.and_le_left (by omega)) (by omega)]
   rw [show (r - i).toNat = r.toNat - i.toNat by omega] at *
   rw [hst]
   refine ⟨by omega, by omega, by kernel_rfl, ⟨i - 1, by omega, ?_, ?_⟩, by omega⟩
   ·rw [show (i - 1).toNat = i.toNat - 1 by omega]
   ·rw [show (r - (i - 1)).toNat = r.toNat - i.toNat + 1 by omega, anc_succ]
  ·have hi : i = 0 := by simp at h; omega
   subst hi
   simp only [push_cast, ↓reduceIte, reduceCtorEq, Nat.reduceBEq, reduceEqDiff, reduceAdd, reduceSub, reduceLT, reduceLeDiff, reduceMul]
   refine ⟨by decide, by decide, by decide, ?_⟩
   have hl := wordI_lt r.toNat z 0 (by omega) r12
   rw [show (r - 0).toNat = r.toNat by omega]
   obtain ⟨A, hA⟩ : ∃ A : Nat, (anc r.toNat z).a + 512 = A := ⟨((anc r.toNat z).a + 512).toNat, by omega⟩
   obtain ⟨B, hB⟩ : ∃ B : Nat, (anc r.toNat z).b + 512 = B := ⟨((anc r.toNat z).b + 512).toNat, by omega⟩
   have ho := word_or r.toNat z r12 A B (by omega) (by omega) hA hB
   have hwl := word_lt r.toNat z h_
   obtain ⟨R, rfl⟩ : ∃ R : Nat, r = R := ⟨r.toNat, by omega⟩
   rw [Int.toNat_natCast] at *
   rw [hA, hB, show IntKind.i64.wrap (A : Int) = A from wrap_id (by omega), show IntKind.i64.wrap (B : Int) = B from wrap_id (by omega), un64 (show A < 18446744073709551616 by omega), un64 (show B < 18446744073709551616 by omega), un64 (show R < 18446744073709551616 by omega)]
   rw [shl_u (k := 56) rfl (by decide) (by omega), shl_u (k := 46) rfl (by decide) (by omega), shl_u (k := 36) rfl (by decide) (by omega), show (1152921504606846976 : Int) = ((1152921504606846976 : Nat) : Int) from rfl, Int.toNat_zero]
   have l1 : wordI R z 0 ||| 1152921504606846976 < 18446744073709551616 := Nat.or_lt_two_pow (n := 64) (by omega) (by omega)
   have l2 : wordI R z 0 ||| 1152921504606846976 ||| R * 2 ^ 56 < 18446744073709551616 := Nat.or_lt_two_pow (n := 64) l1 (by omega)
   have l3 : wordI R z 0 ||| 1152921504606846976 ||| R * 2 ^ 56 ||| A * 2 ^ 46 < 18446744073709551616 := Nat.or_lt_two_pow (n := 64) l2 (by omega)
   rw [or_u (by omega) (by omega), or_u l1 (by omega), or_u l2 (by omega), or_u l3 (by omega), ho]
   rfl
def isWB (w : Nat) : Bool := decide (w / 1152921504606846976 = 1) && decide (resW w ≤ 12) && (List.range 13).all fun i => decide (i = 0) || (decide (dgt w i = 7) == decide (resW w < i))
theorem isWB_iff (w : Nat) : isWB w = true ↔ isW w := by
 simp only [isWB, isW, Bool.and_eq_true, decide_eq_true_eq, List.all_eq_true, List.mem_range, Bool.or_eq_true, beq_iff_eq, decide_eq_decide]
 constructor
 ·rintro ⟨⟨h1, h2⟩, h3⟩
  refine ⟨h1, h2, fun i i1 i2 => ?_⟩
  rcases h3 i (by omega) with h | h
  ·omega
  ·exact h
 ·rintro ⟨h1, h2, h3⟩
  refine ⟨⟨h1, h2⟩, fun i hi => ?_⟩
  by_cases h0 : i = 0
  ·exact .inl h0
  ·exact .inr (h3 i (by omega) (by omega))
theorem isWB_word {r : Nat} {z : Ei} (h : okc r z) : isWB (word r z) = true := (isWB_iff _).2 (word_isW r z h).1

noncomputable def apiaryref9_WordOf_pc : PC :=
  (.seq (.reg [p_s 6 (.mov (.c (.r (.v (.int .u64 0)))))])
 (.seq (.reg [p_m 12 0, p_m 13 1, p_m 14 2, p_c 15 1 43 [.t 12, .t 13, .t 14], p_m 11 15, p_s 16 (.ext (.t 11) 0), p_s 17 (.ext (.t 11) 1), p_a 7 (.new [(.r (.v (.int .i64 0))), (.r (.v (.int .i64 0)))]),
 ⟨none, none, 0, .act (.st 2 (.t 7) (.t 16))⟩, p_m 8 17])
 (.seq (.reg [p_m 19 2, p_s 20 (.ld (some 2) (.t 7)), p_s 21 (.build [(.r (.v (.int .i64 0))), (.r (.v (.int .i64 0))), (.r (.v (.int .i64 0)))] [(0, 1, (.t 19)), (1, 2, (.t 20))]),
 p_c 22 2 32 [.t 21], p_m 18 22, p_s 23 (.ext (.t 18) 0), p_s 24 (.ext (.t 18) 1), p_m 9 23, p_m 10 24])
 (.seq (.reg [p_m 25 9, p_m 6 25])
 .ret))))
theorem apiaryref9_WordOf_triple : Fun Go.Proofs.Tryz.prog 23 3 [(6, false, none)] apiaryref9_WordOf_pc := fun_mk Go.Proofs.Tryz.func23 rfl (by decide) (by kernel_rfl) (by decide) rfl (by kernel_rfl) (by kernel_rfl) (by decide)
noncomputable def ident_writer_put_pc : PC :=
  (.reg [p_m 6 0, p_s 7 (.nck (.t 6)), p_s 8 (.fa 0 (.t 7)), p_s 9 (.ld none (.t 8)), p_m 10 2, p_m 11 1, p_s 12 (.bin .sub (.t 11) (o_i 1)), p_s 13 (.bin .mul (o_i 3) (.t 12)),
 p_s 14 (.bin .sub (o_i 33) (.t 13)), p_s 15 (.conv .u64 (.t 14)), p_s 16 (.bin .shl (.t 10) (.t 15)), p_s 17 (.bin .or (.t 9) (.t 16)), p_s 18 (.nck (.t 6)), p_s 19 (.fa 0 (.t 18)),
 ⟨none, none, 0, .act (.st 1 (.t 19) (.t 17))⟩])
theorem ident_writer_put_triple : Fun Go.Proofs.Tryz.prog 80 3 [] ident_writer_put_pc := fun_mk Go.Proofs.Tryz.func80 rfl (by decide) (by kernel_rfl) (by decide) rfl (by kernel_rfl) (by kernel_rfl) (by decide)
noncomputable def ident_Of_pc : PC :=
  (.seq (.reg [p_a 1 (.box (.t 0)), p_s 2 (.mov (.c (.r (.v (.int .u64 0))))), p_s 3 (.mov (o_i 0))])
 (.seq (.reg [p_s 11 (.ld (some 3) (.t 1)), p_c 12 1 79 [.t 11], p_m 10 12, p_s 13 (.ext (.t 10) 0), p_s 14 (.ext (.t 10) 1), p_s 15 (.ext (.t 10) 2), p_a 4 (.new [(.r (.v (.int .i64 0))), (.r (.v (.int .i64 0)))]),
 p_a 5 (.new [(.r (.v (.int .i64 0))), (.r (.v (.int .i64 0))), (.r (.v (.int .i64 0))), (.r (.v (.int .i64 0))), (.r (.v (.int .i64 0))), (.r (.v (.int .i64 0))), (.r (.v (.int .i64 0))), (.r (.v (.int .i64 0))), (.r (.v (.int .i64 0))), (.r (.v (.int .i64 0))), (.r (.v (.int .i64 0))), (.r (.v (.int .i64 0))), (.r (.v (.int .i64 0)))]),
 ⟨none, none, 0, .act (.st 2 (.t 4) (.t 13))⟩, ⟨none, none, 0, .act (.st 13 (.t 5) (.t 14))⟩, p_m 6 15])
 (.seq (.seq (.reg [p_m 16 6, p_s 17 (.un .not (.t 16))])
 (.cond (.t 17)
 (.seq (.reg [p_s 2 (.mov (.c (.r (.v (.int .u64 0))))), p_s 3 (.mov (o_i 2))])
 .ret)
 .skip))
 (.seq (.reg [p_s 18 (.fa 0 (.t 1)), p_s 19 (.ld none (.t 18)), p_s 20 (.conv .u64 (.t 19)), p_s 21 (.bin .shl (.t 20) (.c (.r (.v (.int .u64 56))))), p_s 22 (.bin .or (.c (.r (.v (.int .u64 1152921504606846976)))) (.t 21)),
 p_s 23 (.fa 0 (.t 4)), p_s 24 (.ld none (.t 23)), p_s 25 (.bin .add (.t 24) (o_i 512)), p_s 26 (.conv .u64 (.t 25)), p_s 27 (.bin .shl (.t 26) (.c (.r (.v (.int .u64 46))))),
 p_s 28 (.bin .or (.t 22) (.t 27)), p_s 29 (.fa 1 (.t 4)), p_s 30 (.ld none (.t 29)), p_s 31 (.bin .add (.t 30) (o_i 512)), p_s 32 (.conv .u64 (.t 31)), p_s 33 (.bin .shl (.t 32) (.c (.r (.v (.int .u64 36))))),
 p_s 34 (.bin .or (.t 28) (.t 33)), p_s 35 (.build [(.r (.v (.int .u64 0)))] [(0, 1, (.t 34))]), p_a 36 (.box (.t 35)), p_m 7 36])
 (.seq (.reg [p_m 37 7, p_s 38 (.mkf (.func 80) [(.t 37)] 1), p_m 8 38])
 (.seq (.seq (.reg [p_s 9 (.mov (o_i 1))])
 (.block 0 (.loop (.seq (.seq (.reg [p_m 39 9, p_s 40 (.bin .leq (.t 39) (o_i 12))])
 (.cond (.t 40)
 .skip
 (.exit 0)))
 (.seq (.block 1 (.seq (.reg [p_m 43 9, p_s 44 (.fa 0 (.t 1)), p_s 45 (.ld none (.t 44)), p_s 46 (.bin .gtr (.t 43) (.t 45))])
 (.cond (.t 46)
 (.reg [p_m 47 8, p_m 48 9, ⟨(some 49), none, 2, .callv (.t 47) [(.t 48), (.c (.r (.v (.int .u64 7))))]⟩])
 (.reg [p_m 50 8, p_m 51 9, p_m 52 9, p_s 53 (.iaa 13 1 (.t 5) (.t 52)), p_s 54 (.ld none (.t 53)), p_s 55 (.conv .u64 (.t 54)), ⟨(some 56), none, 3, .callv (.t 50) [(.t 51), (.t 55)]⟩]))))
 (.reg [p_m 41 9, p_s 42 (.bin .add (.t 41) (o_i 1)), p_m 9 42]))))))
 (.seq (.reg [p_m 57 7, p_s 58 (.nck (.t 57)), p_s 59 (.fa 0 (.t 58)), p_s 60 (.ld none (.t 59)), p_m 2 60, p_s 3 (.mov (o_i 0))])
 .ret)))))))
theorem ident_Of_triple : Fun Go.Proofs.Tryz.prog 50 1 [(2, false, none), (3, false, none)] ident_Of_pc := fun_mk Go.Proofs.Tryz.func50 rfl (by decide) (by kernel_rfl) (by decide) rfl (by kernel_rfl) (by kernel_rfl) (by decide)
def wordOf (x y : Int) (r : Nat) : Nat := word r (near x y r)
theorem rwordOf_t (x y r : Int) (h : inW x y) (hr : 0 ≤ r ∧ r ≤ 12) : Triple Go.Proofs.Tryz.prog 23 [int .i64 x, int .i64 y, int .i64 r] [] (uw (wordOf x y r.toNat)) [] := by
 refine apiaryref9_WordOf_triple rfl (by decide) ?_
 simp only [apiaryref9_WordOf_pc, List.length_nil, push_cast, ↓reduceIte, reduceCtorEq, Nat.reduceBEq, reduceEqDiff, reduceAdd, reduceSub, reduceLT, reduceLeDiff, reduceMul]
 refine call_mk (rnear_t x y r h hr) rfl trivial ?_
 simp only [Ei.v, Ei.rv, push_cast, ↓reduceIte, reduceCtorEq, Nat.reduceBEq, reduceEqDiff, reduceAdd, reduceSub, reduceLT, reduceLeDiff, reduceMul]
 refine call_as (as' := [cel r (near x y r.toNat)]) rfl ?_
 refine call_mk (rword_t r (near x y r.toNat) hr.1 (near_okc x y r.toNat h.1 h.2 (by omega))) rfl trivial ?_
 simp only [uw, push_cast, ↓reduceIte, reduceCtorEq, Nat.reduceBEq, reduceEqDiff, reduceAdd, reduceSub, reduceLT, reduceLeDiff, reduceMul]
 rfl
def wordU (w i : Nat) : Nat := w / 8 ^ (13 - i) * 8 ^ (13 - i)
theorem wordU_step (w i : Nat) (h1 : 1 ≤ i) (hi : i ≤ 12) : wordU w i ||| dgt w i * 2 ^ (36 - 3 * i) = wordU w (i + 1) := by
 unfold wordU dgt
 have e1 : 13 - (i + 1) = 12 - i := by omega
 have e2 : 13 - i = 12 - i + 1 := by omega
 have e3 : 2 ^ (36 - 3 * i) = 8 ^ (12 - i) := by rw [show (8 : Nat) = 2 ^ 3 from rfl, ← Nat.pow_mul]; congr 1; omega
 have e4 : (8 : Nat) ^ (12 - i + 1) = 2 ^ (3 * (12 - i + 1)) := by rw [show (8 : Nat) = 2 ^ 3 from rfl, ← Nat.pow_mul]
 rw [e1, e2, e3, Nat.or_comm, show w / 8 ^ (12 - i + 1) * 8 ^ (12 - i + 1) = w / 8 ^ (12 - i + 1) * 2 ^ (3 * (12 - i + 1)) by rw [e4], or_high]
 ·rw [← e4, Nat.pow_succ, ← Nat.div_div_eq_div_mul]
  have hq := Nat.div_add_mod (w / 8 ^ (12 - i)) 8
  generalize w / 8 ^ (12 - i) = q at *
  generalize 8 ^ (12 - i) = m at *
  rw [Nat.mul_comm m 8, ← Nat.mul_assoc, ← Nat.add_mul, Nat.mul_comm (q / 8) 8, hq]
 ·rw [← e4, Nat.pow_succ, Nat.mul_comm]
  exact Nat.mul_lt_mul_of_pos_left (Nat.mod_lt _ (by decide)) (p8 _)
theorem wordU_end (w : Nat) : wordU w 13 = w := by simp [wordU]
theorem wordU_one (r : Nat) (z : Ei) (hr : r ≤ 12) (A B : Nat) (hA : A < 1024) (hB : B < 1024) (hA' : (anc r z).a + 512 = A) (hB' : (anc r z).b + 512 = B) :
  (((1152921504606846976 ||| r * 2 ^ 56) ||| A * 2 ^ 46) ||| B * 2 ^ 36) = wordU (word r z) 1 := by
 unfold wordU
 rw [show 13 - 1 = 12 by rfl, show (8 : Nat) ^ 12 = 68719476736 by decide, word_top r z hr, hd36, hA', hB', Int.toNat_natCast, Int.toNat_natCast]
 have s1 : 1152921504606846976 ||| r * 2 ^ 56 = (16 + r) * 2 ^ 56 := by
  rw [Nat.or_comm, show (1152921504606846976 : Nat) = 1 * 2 ^ 60 by decide, or_high (show r * 2 ^ 56 < 2 ^ 60 by omega)]
  omega
 have s2 : (16 + r) * 2 ^ 56 ||| A * 2 ^ 46 = ((16 + r) * 1024 + A) * 2 ^ 46 := by
  rw [Nat.or_comm, or_high (show A * 2 ^ 46 < 2 ^ 56 by omega)]
  omega
 have s3 : ((16 + r) * 1024 + A) * 2 ^ 46 ||| B * 2 ^ 36 = (((16 + r) * 1024 + A) * 1024 + B) * 2 ^ 36 := by
  rw [Nat.or_comm, or_high (show B * 2 ^ 36 < 2 ^ 46 by omega)]
  omega
 rw [s1, s2, s3]
theorem wordU_lt {w : Nat} (h : w < 18446744073709551616) (i : Nat) : wordU w i < 18446744073709551616 := Nat.lt_of_le_of_lt (Nat.div_mul_le_self _ _) h
theorem put_w (w d r : Nat) (hw : w < 18446744073709551616) (hd : d < 8) (h1 : 1 ≤ r) (hr : r ≤ 12) : Triple Go.Proofs.Tryz.prog 80 [.ptr 1000000 0 0, int .i64 r, int .u64 d] [.box [uw w]] (.tup []) [.box [uw (w ||| d * 2 ^ (36 - 3 * r))]] := by
 refine ident_writer_put_triple rfl (by simp) ?_
 simp only [ident_writer_put_pc, uw, List.length_cons, List.length_nil, push_cast, ↓reduceIte, reduceCtorEq, Nat.reduceBEq, reduceEqDiff, reduceAdd, reduceSub, reduceLT, reduceLeDiff, reduceMul]
 have e1 : IntKind.i64.wrap ((r : Int) - 1) = (r : Int) - 1 := wrap_id (by omega)
 have e2 : IntKind.i64.wrap (3 * ((r : Int) - 1)) = 3 * ((r : Int) - 1) := wrap_id (by omega)
 have e3 : IntKind.i64.wrap (33 - 3 * ((r : Int) - 1)) = ((36 - 3 * r : Nat) : Int) := by rw [wrap_id (by omega)]; omega
 have hp : 2 ^ (36 - 3 * r) ≤ 2 ^ 33 := Nat.pow_le_pow_right (by decide) (by omega)
 have hm : d * 2 ^ (36 - 3 * r) ≤ 7 * 2 ^ (36 - 3 * r) := Nat.mul_le_mul_right _ (by omega)
 rw [e1, e2, e3, show IntKind.u64.wrap ((36 - 3 * r : Nat) : Int) = ((36 - 3 * r : Nat) : Int) from un64 (by omega), shl_u (Int.toNat_natCast _) (by omega) (by omega), or_u hw (by omega)]
 repeat refine And.intro (by first | decide | omega | exact fun _ => by decide | (simp +contextual; done) | kernel_rfl) ?_
 rfl
theorem digs_box (r : Nat) (z : Ei) (l : List AV) (h : l.length ≤ 13) : List.map AV.r (digsR r z 0) ++ List.drop (0 + (digsR r z 0).length) l = digs r z 0 := by
 rw [List.drop_of_length_le (by simp [digsR]; omega), List.append_nil]
 simp [digsR, digs]
theorem digs_get (r : Nat) (z : Ei) (j : Nat) (h1 : 1 ≤ j) (h2 : j ≤ r) (hr : r ≤ 12) : (digs r z 0).getD j AV.undef = int .i64 (dg (anc (r - j) z)) := by
 rw [List.getD_eq_getElem?_getD]
 unfold digs
 rw [List.getElem?_map, List.getElem?_range (by omega)]
 simp only [Option.map_some, Option.getD_some]
 rw [if_pos (by omega)]
theorem word_t (r : Int) (z : Ei) (h0 : 0 ≤ r) (hk : okc r.toNat z) : Triple Go.Proofs.Tryz.prog 50 [cel r z] [] (.tup [uw (word r.toNat z), int .i64 0]) [] := by
 refine ident_Of_triple rfl (by decide) ?_
 obtain ⟨hs, hbb⟩ := okc_B h0 hk
 have hwl := word_lt r.toNat z hk
 obtain ⟨r12, hz, ha, hb⟩ := id hk
 simp only [ident_Of_pc, cel, List.length_nil, push_cast, ↓reduceIte, reduceCtorEq, Nat.reduceBEq, reduceEqDiff, reduceAdd, reduceSub, reduceLT, reduceLeDiff, reduceMul]
 refine call_as (as' := [cel r z]) rfl ?_
 refine call_mk (way_t r z hs) rfl trivial ?_
 rw [hbb]
 simp only [Ei.v, Ei.rv, push_cast, ↓reduceIte, reduceCtorEq, Nat.reduceBEq, reduceEqDiff, reduceAdd, reduceSub, reduceLT, reduceLeDiff, reduceMul]
 obtain ⟨A, hA⟩ : ∃ A : Nat, (anc r.toNat z).a + 512 = A := ⟨((anc r.toNat z).a + 512).toNat, by omega⟩
 obtain ⟨B, hB⟩ : ∃ B : Nat, (anc r.toNat z).b + 512 = B := ⟨((anc r.toNat z).b + 512).toNat, by omega⟩
 have hone := wordU_one r.toNat z r12 A B (by omega) (by omega) hA hB
 obtain ⟨R, rfl⟩ : ∃ R : Nat, r = R := ⟨r.toNat, by omega⟩
 rw [Int.toNat_natCast] at *
 rw [hA, hB, show IntKind.i64.wrap (A : Int) = A from wrap_id (by omega), show IntKind.i64.wrap (B : Int) = B from wrap_id (by omega), un64 (show A < 18446744073709551616 by omega), un64 (show B < 18446744073709551616 by omega), un64 (show R < 18446744073709551616 by omega)]
 rw [shl_u (k := 56) rfl (by decide) (by omega), shl_u (k := 46) rfl (by decide) (by omega), shl_u (k := 36) rfl (by decide) (by omega), show (1152921504606846976 : Int) = ((1152921504606846976 : Nat) : Int) from rfl]
 have l1 : 1152921504606846976 ||| R * 2 ^ 56 < 18446744073709551616 := Nat.or_lt_two_pow (n := 64) (by omega) (by omega)
 have l2 : 1152921504606846976 ||| R * 2 ^ 56 ||| A * 2 ^ 46 < 18446744073709551616 := Nat.or_lt_two_pow (n := 64) l1 (by omega)
 rw [or_u (by omega) (by omega), or_u l1 (by omega), or_u l2 (by omega), hone]
 have hdl := digs_len R z 0
 simp only [digs_box R z [AV.r (RV.v (Value.int IntKind.i64 0)), AV.r (RV.v (Value.int IntKind.i64 0)), AV.r (RV.v (Value.int IntKind.i64 0)), AV.r (RV.v (Value.int IntKind.i64 0)), AV.r (RV.v (Value.int IntKind.i64 0)), AV.r (RV.v (Value.int IntKind.i64 0)), AV.r (RV.v (Value.int IntKind.i64 0)), AV.r (RV.v (Value.int IntKind.i64 0)), AV.r (RV.v (Value.int IntKind.i64 0)), AV.r (RV.v (Value.int IntKind.i64 0)), AV.r (RV.v (Value.int IntKind.i64 0)), AV.r (RV.v (Value.int IntKind.i64 0)), AV.r (RV.v (Value.int IntKind.i64 0))] (by simp)]
 repeat refine And.intro (by first | decide | (simp [digsR]; done) | kernel_rfl) ?_
 refine run_loop [(9, false), (1, false), (5, false), (7, false), (8, false)] (fun vs pos los => ∃ i : Nat, (1 ≤ i ∧ i ≤ 13) ∧ vs = [int .i64 i, .ptr 2000000 0 0, .ptr 2000001 0 0, .ptr 2000002 0 0, .fn (.func 80) [.ptr 2000002 0 0] 1] ∧ pos = [] ∧
  los = [.box [int .i64 R, int .i64 z.a, int .i64 z.b], .box (digs R z 0), .box [uw (wordU (word R z) i)]])
  (fun vs _ _ => match vs with | .r (.v (.int _ j)) :: _ => (13 - j).toNat | _ => 0) rfl ?_ ?_
 ·simp only [hidL_digs, imL_digs, uw, push_cast, ↓reduceIte, reduceCtorEq, Nat.reduceBEq, reduceEqDiff, reduceAdd, reduceSub, reduceLT, reduceLeDiff, reduceMul]
  exact ⟨1, by omega, rfl, rfl⟩
 ·rintro vs pos los ⟨i, hi, rfl, rfl, rfl⟩
  simp only [uw, push_cast, ↓reduceIte, reduceCtorEq, Nat.reduceBEq, reduceEqDiff, reduceAdd, reduceSub, reduceLT, reduceLeDiff, reduceMul]
  refine cnd_mk (fun h => ?_) (fun h => ?_)
  ·have hi12 : i ≤ 12 := by simp at h; omega
   have hul := wordU_lt hwl i
   have hst := wordU_step (word R z) i hi.1 hi12
   simp only [push_cast, ↓reduceIte, reduceCtorEq, Nat.reduceBEq, reduceEqDiff, reduceAdd, reduceSub, reduceLT, reduceLeDiff, reduceMul]
   refine cnd_mk (fun hc => ?_) (fun hc => ?_)
   ·have hc' : R < i := by simp at hc; omega
    simp only [push_cast, ↓reduceIte, reduceCtorEq, Nat.reduceBEq, reduceEqDiff, reduceAdd, reduceSub, reduceLT, reduceLeDiff, reduceMul]
    refine ⟨by kernel_rfl, ?_⟩
    refine call_as (as' := [.ptr 1000000 0 0, int .i64 i, int .u64 (7 : Nat)]) rfl ?_
    refine call_mk (put_w (wordU (word R z) i) 7 i hul (by decide) hi.1 hi12) rfl ⟨rfl, trivial⟩ ?_
    rw [word_seven R i z hc' hi12] at hst
    rw [hst]
    simp only [hidL_digs, imL_digs, uw, push_cast, ↓reduceIte, reduceCtorEq, Nat.reduceBEq, reduceEqDiff, reduceAdd, reduceSub, reduceLT, reduceLeDiff, reduceMul]
    rw [show IntKind.i64.wrap ((i : Int) + 1) = ((i + 1 : Nat) : Int) by rw [wrap_id (by omega)]; omega]
    exact ⟨⟨i + 1, by omega, rfl, rfl⟩, by omega⟩
   ·have hc' : i ≤ R := by simp at hc; omega
    have hd := dg_lt (anc (R - i) z)
    simp only [Int.toNat_natCast, Nat.zero_add, Nat.mul_one, digs_get R z i hi.1 hc' r12, hdl, push_cast, ↓reduceIte, reduceCtorEq, Nat.reduceBEq, reduceEqDiff, reduceAdd, reduceSub, reduceLT, reduceLeDiff, reduceMul]
    rw [un64 (show dg (anc (R - i) z) < 18446744073709551616 by omega)]
    repeat refine And.intro (by first | decide | omega | exact fun _ => by decide | (simp +contextual; done) | kernel_rfl) ?_
    refine call_mk (put_w (wordU (word R z) i) (dg (anc (R - i) z)) i hul (by omega) hi.1 hi12) rfl ⟨rfl, trivial⟩ ?_
    rw [word_dgt R i z r12 hi.1 hc'] at hst
    rw [hst]
    simp only [hidL_digs, imL_digs, uw, push_cast, ↓reduceIte, reduceCtorEq, Nat.reduceBEq, reduceEqDiff, reduceAdd, reduceSub, reduceLT, reduceLeDiff, reduceMul]
    rw [show IntKind.i64.wrap ((i : Int) + 1) = ((i + 1 : Nat) : Int) by rw [wrap_id (by omega)]; omega]
    exact ⟨⟨i + 1, by omega, rfl, rfl⟩, by omega⟩
  ·have hi13 : i = 13 := by simp at h; omega
   subst hi13
   simp only [wordU_end, uw, push_cast, ↓reduceIte, reduceCtorEq, Nat.reduceBEq, reduceEqDiff, reduceAdd, reduceSub, reduceLT, reduceLeDiff, reduceMul]

noncomputable def tree_Less_pc : PC :=
  (.seq (.reg [p_a 2 (.box (.t 0)), p_a 3 (.box (.t 1)), p_s 4 (.mov (.c (.r (.v (.bool false)))))])
 (.seq (.block 0 (.seq (.reg [p_s 6 (.fa 0 (.t 2)), p_s 7 (.ld none (.t 6)), p_s 8 (.fa 0 (.t 3)), p_s 9 (.ld none (.t 8)), p_s 10 (.bin .neq (.t 7) (.t 9)), p_m 5 10])
 (.cond (.t 5)
 (.seq (.reg [p_s 11 (.fa 0 (.t 2)), p_s 12 (.ld none (.t 11)), p_s 13 (.fa 0 (.t 3)), p_s 14 (.ld none (.t 13)), p_s 15 (.bin .lss (.t 12) (.t 14)), p_m 4 15])
 .ret)
 (.seq (.reg [p_s 17 (.fa 1 (.t 2)), p_s 18 (.ld none (.t 17)), p_s 19 (.fa 1 (.t 3)), p_s 20 (.ld none (.t 19)), p_s 21 (.bin .neq (.t 18) (.t 20)), p_m 16 21])
 (.cond (.t 16)
 (.seq (.reg [p_s 22 (.fa 1 (.t 2)), p_s 23 (.ld none (.t 22)), p_s 24 (.fa 1 (.t 3)), p_s 25 (.ld none (.t 24)), p_s 26 (.bin .lss (.t 23) (.t 25)), p_m 4 26])
 .ret)
 .skip)))))
 (.seq (.reg [p_s 27 (.fa 2 (.t 2)), p_s 28 (.ld none (.t 27)), p_s 29 (.fa 2 (.t 3)), p_s 30 (.ld none (.t 29)), p_s 31 (.bin .lss (.t 28) (.t 30)), p_m 4 31])
 .ret)))
theorem tree_Less_triple : Fun Go.Proofs.Tryz.prog 75 2 [(4, false, none)] tree_Less_pc := fun_mk Go.Proofs.Tryz.func75 rfl (by decide) (by kernel_rfl) (by decide) rfl (by kernel_rfl) (by kernel_rfl) (by decide)
noncomputable def sort_Search_pc : PC :=
  (.seq (.reg [p_s 4 (.mov (o_i 0))])
 (.seq (.reg [p_m 8 0, p_s 5 (.mov (o_i 0)), p_m 6 8])
 (.seq (.block 0 (.loop (.seq (.seq (.reg [p_m 9 5, p_m 10 6, p_s 11 (.bin .lss (.t 9) (.t 10))])
 (.cond (.t 11)
 .skip
 (.exit 0)))
 (.block 1 (.seq (.reg [p_m 12 5, p_m 13 6, p_s 14 (.bin .add (.t 12) (.t 13)), p_s 15 (.conv .u64 (.t 14)), p_s 16 (.bin .shr (.t 15) (.c (.r (.v (.int .u64 1))))), p_s 17 (.conv .i64 (.t 16)),
 p_m 7 17])
 (.seq (.reg [p_m 18 1, p_m 19 7, ⟨(some 20), none, 1, .callv (.t 18) [(.t 19)]⟩, p_s 21 (.un .not (.t 20))])
 (.cond (.t 21)
 (.reg [p_m 22 7, p_s 23 (.bin .add (.t 22) (o_i 1)), p_m 5 23])
 (.reg [p_m 24 7, p_m 6 24]))))))))
 (.seq (.reg [p_m 25 5, p_m 4 25])
 .ret))))
theorem sort_Search_triple : Fun Go.Proofs.Tryz.prog 73 2 [(4, false, none)] sort_Search_pc := fun_mk Go.Proofs.Tryz.func73 rfl (by decide) (by kernel_rfl) (by decide) rfl (by kernel_rfl) (by kernel_rfl) (by decide)
noncomputable def tree_find_1_pc : PC :=
  (.seq (.reg [p_s 4 (.mov (.c (.r (.v (.bool false)))))])
 (.seq (.drw [p_s 5 (.ld none (.t 1)), p_m 6 0, p_s 7 (.ia 3 (.agg [(.v (.int .u64 0)), (.v (.int .i64 0)), (.v (.int .i64 0))]) (.t 5) (.t 6)), p_s 8 (.ld (some 3) (.t 7)), p_s 9 (.ld (some 3) (.t 2)),
 p_c 10 1 75 [.t 8, .t 9], p_s 11 (.un .not (.t 10)), p_m 4 11]
 [[], [], [0, 1], [0, 1, 2], [], [0, 1, 2, 3, 4], [0, 1, 2, 3, 4, 5], [0, 1, 2, 3, 4, 5, 6]])
 .ret))
theorem tree_find_1_triple : Fun Go.Proofs.Tryz.prog 76 3 [(4, false, none)] tree_find_1_pc := fun_mk Go.Proofs.Tryz.func76 rfl (by decide) (by kernel_rfl) (by decide) rfl (by kernel_rfl) (by kernel_rfl) (by decide)
noncomputable def tree_find_pc : PC :=
  (.seq (.reg [p_a 2 (.box (.t 0)), p_a 3 (.box (.t 1)), p_s 4 (.mov (o_i 0)), p_s 5 (.mov (.c (.r (.v (.bool false)))))])
 (.seq (.reg [p_s 7 (.ld none (.t 2)), p_s 8 (.len false (.t 7)), p_s 9 (.mkf (.func 76) [(.t 2), (.t 3)]), p_c 10 1 73 [.t 8, .t 9], p_m 6 10])
 (.seq (.drw [p_m 11 6, p_m 12 6, p_s 13 (.ld none (.t 2)), p_s 14 (.len false (.t 13)), p_s 15 (.bin .lss (.t 12) (.t 14)), p_m 16 15, p_g 17 16 true (.ld none (.t 2)), p_g 18 16 true (.mov (.t 6)),
 p_g 19 16 true (.ia 3 (.agg [(.v (.int .u64 0)), (.v (.int .i64 0)), (.v (.int .i64 0))]) (.t 17) (.t 18)), p_g 20 16 true (.ld (some 3) (.t 19)), p_g 21 16 true (.ld (some 3) (.t 3)),
 p_g 22 16 true (.eqa false [0, 0, 0] (.t 20) (.t 21)), p_s 23 (.pick (.t 16) (.t 22) (.c (.r (.v (.bool false))))), p_m 4 11, p_m 5 23]
 [[], [], [], [2], [1, 2, 3], [1, 2, 3, 4], [1, 2, 3, 4, 5], [1, 2, 3, 4, 5], [1, 2, 3, 4, 5, 6, 7], [1, 2, 3, 4, 5, 6, 7, 8], [1, 2, 3, 4, 5], [1, 2, 3, 4, 5, 6, 7, 8, 9, 10], [1, 2, 3, 4, 5, 6, 7, 8, 9, 10, 11], [0, 1, 2, 3, 4, 5], [0, 1, 2, 3, 4, 5, 6, 7, 8, 9, 10, 11, 12, 13]])
 .ret)))
theorem tree_find_triple : Fun Go.Proofs.Tryz.prog 47 2 [(4, false, none), (5, false, none)] tree_find_pc := fun_mk Go.Proofs.Tryz.func47 rfl (by decide) (by kernel_rfl) (by decide) rfl (by kernel_rfl) (by kernel_rfl) (by decide)
structure Ky where
 c : Int
 v : Int
 d : Int
deriving DecidableEq
def Ky.rv (k : Ky) : RV := .agg [.v (.int .u64 k.c), .v (.int .i64 k.v), .v (.int .i64 k.d)]
def Ky.av (k : Ky) : AV := .r k.rv
def kl (a b : Ky) : Bool := if a.c ≠ b.c then decide (a.c < b.c) else if a.v ≠ b.v then decide (a.v < b.v) else decide (a.d < b.d)
theorem less_t (a b : Ky) : Triple Go.Proofs.Tryz.prog 75 [a.av, b.av] [] (bl (kl a b)) [] := by
 refine tree_Less_triple rfl (by decide) ?_
 simp only [tree_Less_pc, Ky.av, Ky.rv, kl, List.length_nil, push_cast, ↓reduceIte, reduceCtorEq, Nat.reduceBEq, reduceEqDiff, reduceAdd, reduceSub, reduceLT, reduceLeDiff, reduceMul]
 refine cnd_mk (fun h1 => ?_) (fun h1 => ?_)
 ·simp only [push_cast, ↓reduceIte, reduceCtorEq, Nat.reduceBEq, reduceEqDiff, reduceAdd, reduceSub, reduceLT, reduceLeDiff, reduceMul]
  simp at h1
  refine bl_iff ?_
  simp [h1]
 ·simp only [push_cast, ↓reduceIte, reduceCtorEq, Nat.reduceBEq, reduceEqDiff, reduceAdd, reduceSub, reduceLT, reduceLeDiff, reduceMul]
  simp at h1
  refine cnd_mk (fun h2 => ?_) (fun h2 => ?_)
  ·simp only [push_cast, ↓reduceIte, reduceCtorEq, Nat.reduceBEq, reduceEqDiff, reduceAdd, reduceSub, reduceLT, reduceLeDiff, reduceMul]
   simp at h2
   refine bl_iff ?_
   simp [h1, h2]
  ·simp only [push_cast, ↓reduceIte, reduceCtorEq, Nat.reduceBEq, reduceEqDiff, reduceAdd, reduceSub, reduceLT, reduceLeDiff, reduceMul]
   simp at h2
   refine bl_iff ?_
   simp [h1, h2]

theorem search_t (F : FuncId) (A B : List AV) (hA : hidL A = []) (hB : hidL B = []) (hfn : isFn Go.Proofs.Tryz.prog F = true) (p : Nat → Bool) (n r : Nat) (hn : n ≤ maxLen) (hr : r ≤ n)
  (h0 : ∀ i, i < r → p i = false) (h1 : ∀ i, r ≤ i → i < n → p i = true)
  (hF : ∀ i : Nat, i < n → Triple Go.Proofs.Tryz.prog F [int .i64 i, .ptr 1000000 0 0, .ptr 1000001 0 0] [.box A, .box B] (bl (p i)) [.box A, .box B]) :
  Triple Go.Proofs.Tryz.prog 73 [int .i64 n, .fn (.func F) [.ptr 1000000 0 0, .ptr 1000001 0 0] 0] [.box A, .box B] (int .i64 r) [.box A, .box B] := by
 refine sort_Search_triple rfl (by simp) ?_
 simp only [sort_Search_pc, List.length_nil, push_cast, ↓reduceIte, reduceCtorEq, Nat.reduceBEq, reduceEqDiff, reduceAdd, reduceSub, reduceLT, reduceLeDiff, reduceMul]
 have hmax := maxLen_big
 have iA : ∀ F, imL F A = A := fun F => imL_free F A hA
 have iB : ∀ F, imL F B = B := fun F => imL_free F B hB
 refine run_loop [(1, false), (5, false), (6, false)] (fun vs pos los => ∃ (lo hi : Int), 0 ≤ lo ∧ lo ≤ r ∧ (r : Int) ≤ hi ∧ hi ≤ n ∧
  vs = [.fn (.func F) [.ptr 1000000 0 0, .ptr 1000001 0 0] 0, int .i64 lo, int .i64 hi] ∧ pos = [.box A, .box B] ∧ los = [])
  (fun vs _ _ => match vs with | [_, .r (.v (.int _ a)), .r (.v (.int _ b))] => (b - a).toNat | _ => 0) rfl ?_ ?_
 ·simp only [hA, hB, iA, iB, hfn, List.nil_append, push_cast, ↓reduceIte, reduceCtorEq, Nat.reduceBEq, reduceEqDiff, reduceAdd, reduceSub, reduceLT, reduceLeDiff, reduceMul]
  refine ⟨0, n, by omega, by omega, by omega, by omega, ?_⟩
  simp
 ·rintro vs pos los ⟨lo, hi, l0, lr, rh, hn', rfl, rfl, rfl⟩
  simp only [hA, hB, iA, iB, hfn, List.nil_append, push_cast, ↓reduceIte, reduceCtorEq, Nat.reduceBEq, reduceEqDiff, reduceAdd, reduceSub, reduceLT, reduceLeDiff, reduceMul]
  refine cnd_mk (fun h => ?_) (fun h => ?_)
  ·simp only [hA, hB, iA, iB, hfn, List.nil_append, push_cast, ↓reduceIte, reduceCtorEq, Nat.reduceBEq, reduceEqDiff, reduceAdd, reduceSub, reduceLT, reduceLeDiff, reduceMul]
   have hlt : lo < hi := by simpa using h
   have hmx : (n : Int) ≤ 9223372036854775807 := by have := hn; simp only [maxLen] at this; omega
   have hw2 : IntKind.u64.wrap (IntKind.i64.wrap (lo + hi)) = lo + hi := by rw [IntKind.wrap_i64, IntKind.wrap_u64]; omega
   have hs : (lo + hi).fdiv (2 ^ min (Int.toNat 1) IntKind.u64.bits) = (lo + hi) / 2 := shr_u (lo + hi) 1 (by decide)
   have hw3 : IntKind.i64.wrap ((lo + hi) / 2) = (lo + hi) / 2 := wrap_id ⟨by omega, by omega⟩
   obtain ⟨M, hM⟩ : ∃ M : Nat, (lo + hi) / 2 = M := ⟨((lo + hi) / 2).toNat, by omega⟩
   rw [hM] at hw3
   simp only [hw2, hs, hM, hw3]
   refine ⟨by decide, call_mk (hF M (by omega)) rfl ⟨rfl, rfl, trivial⟩ ?_⟩
   simp only [hA, hB, iA, iB, hfn, List.nil_append, push_cast, ↓reduceIte, reduceCtorEq, Nat.reduceBEq, reduceEqDiff, reduceAdd, reduceSub, reduceLT, reduceLeDiff, reduceMul]
   have hw4 : IntKind.i64.wrap ((M : Int) + 1) = M + 1 := wrap_id ⟨by omega, by omega⟩
   refine cnd_mk (fun h2 => ?_) (fun h2 => ?_)
   ·simp only [hA, hB, iA, iB, hfn, hw4, List.nil_append, push_cast, ↓reduceIte, reduceCtorEq, Nat.reduceBEq, reduceEqDiff, reduceAdd, reduceSub, reduceLT, reduceLeDiff, reduceMul]
    have hp : p M = false := by simpa using h2
    have hMr : M < r := Nat.lt_of_not_le fun hle => by rw [h1 M hle (by omega)] at hp; cases hp
    refine ⟨⟨M + 1, hi, by omega, by omega, by omega, by omega, ?_⟩, by omega⟩
    simp
   ·simp only [hA, hB, iA, iB, hfn, List.nil_append, push_cast, ↓reduceIte, reduceCtorEq, Nat.reduceBEq, reduceEqDiff, reduceAdd, reduceSub, reduceLT, reduceLeDiff, reduceMul]
    have hp : p M = true := by simpa using h2
    have hMr : r ≤ M := Nat.le_of_not_lt fun hlt => by rw [h0 M hlt] at hp; cases hp
    refine ⟨⟨lo, M, by omega, by omega, by omega, by omega, ?_⟩, by omega⟩
    simp
  ·simp only [hA, hB, iA, iB, hfn, List.nil_append, push_cast, ↓reduceIte, reduceCtorEq, Nat.reduceBEq, reduceEqDiff, reduceAdd, reduceSub, reduceLT, reduceLeDiff, reduceMul]
   have hlt : ¬ lo < hi := by simpa using h
   have e : lo = r := by omega
   rw [e]

def keys (l : List Ky) : RV := .sl 3 (l.map Ky.rv)
def Ky.cs (k : Ky) : List AV := [int .u64 k.c, int .i64 k.v, int .i64 k.d]
theorem find1_t (l : List Ky) (k q : Ky) (i : Nat) (hi : i < l.length) (hq : l[i]? = some q) (hl : l.length ≤ maxLen) : Triple Go.Proofs.Tryz.prog 76 [int .i64 i, .ptr 1000000 0 0, .ptr 1000001 0 0] [.box [.r (keys l)], .box k.cs]
  (bl (!kl q k)) [.box [.r (keys l)], .box k.cs] := by
 refine tree_find_1_triple rfl (by simp) ?_
 have hg : (l.map Ky.rv).getD ((i : Int)).toNat (.agg [.v (.int .u64 0), .v (.int .i64 0), .v (.int .i64 0)]) = .agg [.v (.int .u64 q.c), .v (.int .i64 q.v), .v (.int .i64 q.d)] := by
  simp [List.getD, hq, Ky.rv]
 simp only [tree_find_1_pc, keys, Ky.cs, List.length_nil, List.length_map, hg, push_cast, ↓reduceIte, reduceCtorEq, Nat.reduceBEq, reduceEqDiff, reduceAdd, reduceSub, reduceLT, reduceLeDiff, reduceMul]
 refine And.intro ⟨by omega, by omega⟩ ?_
 refine dcall_mk (less_t q k) rfl trivial ?_
 simp only [push_cast, ↓reduceIte, reduceCtorEq, Nat.reduceBEq, reduceEqDiff, reduceAdd, reduceSub, reduceLT, reduceLeDiff, reduceMul]
 kernel_rfl
structure Plc (l : List Ky) (k : Ky) (r : Nat) : Prop where
 le : r ≤ l.length
 lo : ∀ (i : Nat) (q : Ky), i < r → l[i]? = some q → kl q k = true
 hi : ∀ (i : Nat) (q : Ky), r ≤ i → l[i]? = some q → kl q k = false
theorem find_t (l : List Ky) (k : Ky) (r : Nat) (hp : Plc l k r) (hl : l.length ≤ maxLen) : Triple Go.Proofs.Tryz.prog 47 [.r (keys l), k.av] []
  (.tup [int .i64 r, bl (decide (l[r]? = some k))]) [] := by
 refine tree_find_triple rfl (by decide) ?_
 have hF : ∀ i : Nat, i < l.length → Triple Go.Proofs.Tryz.prog 76 [int .i64 i, .ptr 1000000 0 0, .ptr 1000001 0 0] [.box [.r (keys l)], .box k.cs] (bl ((fun i => match l[i]? with | some q => !kl q k | none => true) i)) [.box [.r (keys l)], .box k.cs] := fun i hi => by
  have hq : l[i]? = some l[i] := by simp [hi]
  simp only [hq]
  exact find1_t l k _ i hi hq hl
 have hS := search_t 76 [.r (keys l)] k.cs rfl rfl rfl (fun i => match l[i]? with | some q => !kl q k | none => true) l.length r hl hp.le (fun i hi => by
  have hq : l[i]? = some (l[i]'(by have := hp.le; omega)) := by simp [show i < l.length by have := hp.le; omega]
  simp only [hq, hp.lo i _ hi hq]; rfl) (fun i hi hn => by
  have hq : l[i]? = some l[i] := by simp [hn]
  simp only [hq, hp.hi i _ hi hq]; rfl) hF
 simp only [tree_find_pc, keys, Ky.av, Ky.rv, List.length_nil, List.length_map, push_cast, ↓reduceIte, reduceCtorEq, Nat.reduceBEq, reduceEqDiff, reduceAdd, reduceSub, reduceLT, reduceLeDiff, reduceMul]
 refine call_mk hS rfl ⟨rfl, rfl, trivial⟩ ?_
 obtain ⟨q, hqd⟩ : ∃ q : Ky, q = (l[r]?).getD ⟨0, 0, 0⟩ := ⟨_, rfl⟩
 have hg : (l.map Ky.rv).getD ((r : Int)).toNat (.agg [.v (.int .u64 0), .v (.int .i64 0), .v (.int .i64 0)]) = .agg [.v (.int .u64 q.c), .v (.int .i64 q.v), .v (.int .i64 q.d)] := by
  rw [hqd]
  rcases hr : l[r]? with _ | q0 <;> simp [List.getD, hr, Ky.rv]
 simp only [keys, Ky.cs, List.length_map, hg, push_cast, ↓reduceIte, reduceCtorEq, Nat.reduceBEq, reduceEqDiff, reduceAdd, reduceSub, reduceLT, reduceLeDiff, reduceMul]
 refine ⟨fun h => ⟨by omega, by simpa using h⟩, by kernel_rfl, ?_⟩
 congr 4
 rcases hr : l[r]? with _ | q0
 ·have : ¬ r < l.length := fun h => by simp [h] at hr
  simp [this]
 ·have h1 := (List.getElem?_eq_some_iff.1 hr).1
  have h2 : q = q0 := by rw [hqd, hr]; rfl
  subst h2
  simp [h1]
  cases q; cases k
  simp
  rfl

noncomputable def tree_Tree_node_1_pc : PC :=
  (.seq (.reg [p_s 4 (.mov (.c (.r (.v (.bool false)))))])
 (.seq (.drw [p_s 5 (.ld (some 3) (.t 1)), p_s 6 (.ld none (.t 2)), p_s 7 (.nck (.t 6)), p_s 8 (.fa 0 (.t 7)), p_s 9 (.ld none (.t 8)), p_m 10 0, p_s 11 (.ia 1 (.sl 3 []) (.t 9) (.t 10)),
 p_s 12 (.ld none (.t 11)), p_s 13 (.ia 3 (.agg [(.v (.int .u64 0)), (.v (.int .i64 0)), (.v (.int .i64 0))]) (.t 12) (o_i 0)), p_s 14 (.ld (some 3) (.t 13)), p_c 15 1 75 [.t 5, .t 14],
 p_m 4 15]
 [[], [], [1], [1, 2], [1, 2, 3], [], [1, 2, 3, 4, 5], [1, 2, 3, 4, 5, 6], [1, 2, 3, 4, 5, 6, 7], [1, 2, 3, 4, 5, 6, 7, 8], [0, 1, 2, 3, 4, 5, 6, 7, 8, 9], [0, 1, 2, 3, 4, 5, 6, 7, 8, 9, 10]])
 .ret))
theorem tree_Tree_node_1_triple : Fun Go.Proofs.Tryz.prog 74 3 [(4, false, none)] tree_Tree_node_1_pc := fun_mk Go.Proofs.Tryz.func74 rfl (by decide) (by kernel_rfl) (by decide) rfl (by kernel_rfl) (by kernel_rfl) (by decide)
noncomputable def tree_Tree_node_pc : PC :=
  (.seq (.reg [p_a 2 (.box (.t 0)), p_a 3 (.box (.t 1)), p_s 4 (.mov (o_i 0))])
 (.seq (.reg [p_s 6 (.ld none (.t 2)), p_s 7 (.nck (.t 6)), p_s 8 (.fa 0 (.t 7)), p_s 9 (.ld none (.t 8)), p_s 10 (.len false (.t 9)), p_s 11 (.mkf (.func 74) [(.t 3), (.t 2)]),
 p_c 12 1 73 [.t 10, .t 11], p_m 5 12])
 (.seq (.reg [p_m 13 5, p_s 14 (.bin .sub (.t 13) (o_i 1)), p_s 15 (.mm true (.t 14) [(o_i 0)]), p_m 4 15])
 .ret)))
theorem tree_Tree_node_triple : Fun Go.Proofs.Tryz.prog 46 2 [(4, false, none)] tree_Tree_node_pc := fun_mk Go.Proofs.Tryz.func46 rfl (by decide) (by kernel_rfl) (by decide) rfl (by kernel_rfl) (by kernel_rfl) (by decide)
def tview (ns : List (List Ky)) (n : Int) : List RV := [.sl 1 (ns.map keys), .v (.int .i64 n)]
theorem node1_t (ns : List (List Ky)) (n : Int) (k q : Ky) (x : List Ky) (i : Nat) (hi : i < ns.length) (hx : ns[i]? = some (q :: x)) (hl : ns.length ≤ maxLen) (hl2 : (q :: x).length ≤ maxLen) :
  Triple Go.Proofs.Tryz.prog 74 [int .i64 i, .ptr 1000000 0 0, .ptr 1000001 0 0] [.box k.cs, .box [.rp (tview ns n)]] (bl (kl k q)) [.box k.cs, .box [.rp (tview ns n)]] := by
 refine tree_Tree_node_1_triple rfl (by simp) ?_
 have hg : (ns.map keys).getD ((i : Int)).toNat (.sl 3 []) = .sl 3 (q.rv :: x.map Ky.rv) := by
  simp [List.getD, hx, keys]
 have hg2 : (q.rv :: x.map Ky.rv).getD (Int.toNat 0) (.agg [.v (.int .u64 0), .v (.int .i64 0), .v (.int .i64 0)]) = .agg [.v (.int .u64 q.c), .v (.int .i64 q.v), .v (.int .i64 q.d)] := rfl
 simp only [tree_Tree_node_1_pc, tview, Ky.cs, List.length_nil, List.length_map, hg, hg2, push_cast, ↓reduceIte, reduceCtorEq, Nat.reduceBEq, reduceEqDiff, reduceAdd, reduceSub, reduceLT, reduceLeDiff, reduceMul]
 refine And.intro ⟨by omega, by omega⟩ (And.intro ⟨by omega, by omega⟩ ?_)
 refine dcall_mk (less_t k q) rfl trivial ?_
 simp only [push_cast, ↓reduceIte, reduceCtorEq, Nat.reduceBEq, reduceEqDiff, reduceAdd, reduceSub, reduceLT, reduceLeDiff, reduceMul]
 kernel_rfl
structure Nod (ns : List (List Ky)) (k : Ky) (r : Nat) : Prop where
 le : r ≤ ns.length
 len : ns.length ≤ maxLen
 ne : ∀ (i : Nat) (l : List Ky), ns[i]? = some l → l ≠ [] ∧ l.length ≤ maxLen
 lo : ∀ (i : Nat) (q : Ky) (x : List Ky), i < r → ns[i]? = some (q :: x) → kl k q = false
 hi : ∀ (i : Nat) (q : Ky) (x : List Ky), r ≤ i → ns[i]? = some (q :: x) → kl k q = true
def nodP (ns : List (List Ky)) (k : Ky) (i : Nat) : Bool := match ns[i]? with
 | some (q :: _) => kl k q
 | _ => true
theorem Nod.at_ {ns : List (List Ky)} {k : Ky} {r : Nat} (h : Nod ns k r) {i : Nat} (hi : i < ns.length) : ∃ q x, ns[i]? = some (q :: x) ∧ (q :: x).length ≤ maxLen := by
 have hq : ns[i]? = some ns[i] := by simp [hi]
 obtain ⟨h1, h2⟩ := h.ne i _ hq
 rcases hx : ns[i] with _ | ⟨q, x⟩
 ·exact absurd hx h1
 ·rw [hx] at hq h2
  exact ⟨q, x, hq, h2⟩
theorem node_t (ns : List (List Ky)) (n : Int) (k : Ky) (r : Nat) (h : Nod ns k r) : Triple Go.Proofs.Tryz.prog 46 [.rp (tview ns n), k.av] [] (int .i64 ((r - 1 : Nat) : Int)) [] := by
 refine tree_Tree_node_triple rfl (by decide) ?_
 have hS := search_t 74 k.cs [.rp (tview ns n)] rfl rfl rfl (nodP ns k) ns.length r h.len h.le (fun i hi => by
  obtain ⟨q, x, h1, _⟩ := h.at_ (i := i) (by have := h.le; omega)
  simp only [nodP, h1, h.lo i q x hi h1]) (fun i hi hn => by
  obtain ⟨q, x, h1, _⟩ := h.at_ hn
  simp only [nodP, h1, h.hi i q x hi h1]) (fun i hn => by
  obtain ⟨q, x, h1, h2⟩ := h.at_ hn
  simp only [nodP, h1]
  exact node1_t ns n k q x i hn h1 h.len h2)
 simp only [tree_Tree_node_pc, tview, Ky.av, Ky.rv, List.length_nil, List.length_map, push_cast, ↓reduceIte, reduceCtorEq, Nat.reduceBEq, reduceEqDiff, reduceAdd, reduceSub, reduceLT, reduceLeDiff, reduceMul]
 refine call_mk hS rfl ⟨rfl, rfl, trivial⟩ ?_
 simp only [tview, Ky.cs, List.length_map, push_cast, ↓reduceIte, reduceCtorEq, Nat.reduceBEq, reduceEqDiff, reduceAdd, reduceSub, reduceLT, reduceLeDiff, reduceMul]
 have hm : (ns.length : Int) ≤ 9223372036854775807 := by have := h.len; simp only [maxLen] at this; omega
 have hle := h.le
 rw [wrap_id ⟨by omega, by omega⟩, show max ((r : Int) - 1) 0 = ((r - 1 : Nat) : Int) by omega]


section
variable {P : Program} {w : World} {o : Oper} {a : Act} {K : Act → World → Prop} {Q : Exit → Act → World → Prop}
theorem fc_block {w : World} {g off size m m' c : Nat} {cs : Array Value} {e : TypeId} {fr : Nat × Nat} {news : List Value} (hg : w.heap[g]? = some (.cells cs e fr)) (hn : news.length = m * size)
  (hj : ∀ (j : Nat) (u : Value), news[j]? = some u → cs[off + j]? = some u) : ∀ W : World, W.heap = w.heap → (Builtin.firstCells size m (.slice (some ⟨g, off, none⟩) m' c)).run P W = .ok news.toArray W := fun W hW => by
 refine run_firstCells_some W size m ⟨g, off, none⟩ m' c news hn fun j u hu => ?_
 rw [addr_add]
 simp only [World.cell?, hW, hg, Option.isSome_none, Bool.false_eq_true, if_false]
 exact hj j u hu
theorem fc_none {w : World} {size m' c : Nat} {A : Option Addr} : ∀ W : World, W.heap = w.heap → (Builtin.firstCells size 0 (.slice A m' c)).run P W = .ok #[] W := fun W hW => by
 cases A <;> simp [Builtin.firstCells, loadCells, loadCellsFrom]
theorem keeps_row {g : Nat} {old cs : Array Value} {t : TypeId} {fr : Nat × Nat} (hg : w.heap[g]? = some (.cells old t fr)) : Keeps (· = g) w (w.setRow g cs) :=
  have h := mods_setRow (cs := cs) hg
  ⟨rfl, rfl, rfl, by simp [World.setRow], fun k hk hn => setRow_other w g k cs hn⟩
theorem keeps_one {w' : World} {x : Obj} {I : Nat → Prop} (h : OneMore w w' x) : Keeps I w w' := ⟨h.os, h.tape, h.output, by rw [h.heap]; simp, fun k hk _ => by rw [h.heap]; simp [Array.getElem?_push, Nat.ne_of_lt hk]⟩
theorem wp_app (x v : Operand) (t u : TypeId) (ho : o.op = .call { callee := .builtin .append, args := #[x, v], argTypes := #[t, u] }) {e d : TypeId} {inf : TypeInfo} {z : Value} {size bytes : Nat} (ht : P.underlying t = some (.slice e)) (hu : P.underlying u = some (.slice d))
    (hi : P.info? e = some inf) (hz : inf.zero = some z) (hzs : z.cells.size = inf.size) (hs : inf.size = size) (hby : inf.bytes = bytes) (g len cap : Nat) (hx : a.eval x = .slice (some ⟨g, 0, none⟩) len cap) (hc : 0 < cap) {cs : Array Value} {e' : TypeId} (hg : w.heap[g]? = some (.cells cs e' (0, 0)))
    (hsz : cap * size ≤ cs.size) (hlc : len ≤ cap) {A2 : Option Addr} {m c2 : Nat} (hv : a.eval v = .slice A2 m c2) (news : List Value) (hnew : ∀ W : World, W.heap = w.heap → (Builtin.firstCells size m (.slice A2 m c2)).run P W = .ok news.toArray W)
    (hn : news.length = m * size) (h1 : ∀ u ∈ news, u.oneCell' = true) (hmax : len + m ≤ maxLen) (hcap : cap ≤ maxLen) (hb : (len + m) * bytes ≤ 140737488355328)
    (h : ∀ (g' cap' : Nat) (cs' : Array Value) (e2 : TypeId) (w' : World), (g' = g ∨ g' = w.heap.size) → 0 < cap' → len + m ≤ cap' → cap' ≤ maxLen → w'.heap[g']? = some (.cells cs' e2 (0, 0)) → cap' * size ≤ cs'.size →
      (∀ j, j < (len + m) * size → cs'[j]? = (cs.toList.take (len * size) ++ news)[j]?) → Keeps (· = g) w w' → K (a.put o.dst (.slice (some ⟨g', 0, none⟩) (len + m) cap')) w') : o.wp P a w K Q := by
  subst hs; subst hby
  have hlt : len * inf.size ≤ cs.size := Nat.le_trans (Nat.mul_le_mul_right _ hlc) hsz
  have hol : (cs.toList.take (len * inf.size)).length = len * inf.size := by simp only [List.length_take, Array.length_toList]; exact Nat.min_eq_left hlt
  have hold := fc_block (P := P) (off := 0) (size := inf.size) (m := len) (m' := len) (c := cap) (news := cs.toList.take (len * inf.size)) hg hol (fun j u hu => by
    rw [List.getElem?_take] at hu
    split at hu
    · simpa using hu
    · cases hu)
  have hrun0 : ∀ r, (Builtin.append_ #[t, u] o.type #[.slice (some ⟨g, 0, none⟩) len cap, .slice A2 m c2]).run P w = r → (execOp a.eval o).run P w = r.andThen fun q w' => .ok (.value q) w' := by
    rintro r rfl
    simp [execOp, ho, resolve, invoke, builtin, hx, hv]
  unfold Oper.wp
  rcases run_app (P := P) (w := w) (ty := o.type) (A := some ⟨g, 0, none⟩) (A2 := A2) (len := len) (cap := cap) (m := m) (c2 := c2) (g := g) (cur := cs) (e' := e') (olds := cs.toList.take (len * inf.size)) (news := news) ht hu hi hz hzs hlc (fun _ => ⟨rfl, hg, hsz⟩)
      hold hol hnew hn h1 hmax hb with ⟨hroom, hr⟩ | ⟨hgrow, K', w', rest, hr, hK1, hK2, hom, hlen⟩
  · rw [hrun0 _ hr, if_pos hc]
    have hfit : len * inf.size + news.length ≤ cs.toList.length := by
      rw [hn, ← Nat.add_mul]; simp; exact Nat.le_trans (Nat.mul_le_mul_right _ hroom) hsz
    refine h g cap _ e' _ (.inl rfl) hc hroom hcap (setRow_heap w g cs _ e' _ hg) ?_ (fun j hj => ?_) (keeps_row hg)
    · simp only [List.size_toArray, splice_length hfit, Array.length_toList]; exact hsz
    · rw [List.getElem?_toArray, splice_at hfit, hn]
      rw [Nat.add_mul] at hj
      by_cases hj1 : len * inf.size ≤ j
      · rw [if_pos ⟨hj1, hj⟩, List.getElem?_append_right (by rw [hol]; exact hj1), hol]
      · rw [if_neg (fun q => hj1 q.1), List.getElem?_append_left (by rw [hol]; omega), List.getElem?_take, if_pos (by omega)]
  · rw [hrun0 _ hr]
    refine h w.heap.size K' _ e w' (.inr rfl) (by omega) hK1 hK2 hom.new ?_ (fun j hj => ?_) (keeps_one hom)
    · simp only [List.size_toArray, hlen]; exact Nat.le_refl _
    · rw [List.getElem?_toArray, List.getElem?_append_left]
      simp only [List.length_append, hol, hn, ← Nat.add_mul]
      exact hj
theorem wp_app0 (x v : Operand) (t u : TypeId) (ho : o.op = .call { callee := .builtin .append, args := #[x, v], argTypes := #[t, u] }) {e d : TypeId} {inf : TypeInfo} {z : Value} {size bytes : Nat} (ht : P.underlying t = some (.slice e)) (hu : P.underlying u = some (.slice d))
  (hi : P.info? e = some inf) (hz : inf.zero = some z) (hzs : z.cells.size = inf.size) (hs : inf.size = size) (hby : inf.bytes = bytes) {A : Option Addr} (hx : a.eval x = .slice A 0 0)
  {A2 : Option Addr} {m c2 : Nat} (hv : a.eval v = .slice A2 m c2) (hm : 0 < m) (news : List Value) (hnew : ∀ W : World, W.heap = w.heap → (Builtin.firstCells size m (.slice A2 m c2)).run P W = .ok news.toArray W)
  (hn : news.length = m * size) (h1 : ∀ u ∈ news, u.oneCell' = true) (hmax : m ≤ maxLen) (hb : m * bytes ≤ 140737488355328)
  (h : ∀ (cap' : Nat) (cs' : Array Value) (w' : World), m ≤ cap' → cap' ≤ maxLen → w'.heap[w.heap.size]? = some (.cells cs' e (0, 0)) → cap' * size ≤ cs'.size →
   (∀ j, j < m * size → cs'[j]? = news[j]?) → (∀ I, Keeps I w w') → K (a.put o.dst (.slice (some ⟨w.heap.size, 0, none⟩) m cap')) w') : o.wp P a w K Q := by
 subst hs; subst hby
 have hrun0 : ∀ r, (Builtin.append_ #[t, u] o.type #[.slice A 0 0, .slice A2 m c2]).run P w = r → (execOp a.eval o).run P w = r.andThen fun q w' => .ok (.value q) w' := by
  rintro r rfl
  simp [execOp, ho, resolve, invoke, builtin, hx, hv]
 unfold Oper.wp
 rcases run_app (P := P) (w := w) (ty := o.type) (A := A) (A2 := A2) (len := 0) (cap := 0) (m := m) (c2 := c2) (g := 0) (cur := #[]) (e' := 0) (olds := []) (news := news) ht hu hi hz hzs (Nat.le_refl _) (by simp)
   (fun W hW => fc_none (w := W) W rfl) (by simp) hnew hn h1 (by omega) (by rw [Nat.zero_add]; exact hb) with ⟨hroom, hr⟩ | ⟨hgrow, K', w', rest, hr, hK1, hK2, hom, hlen⟩
 ·omega
 ·rw [hrun0 _ hr]
  simp only [Nat.zero_add] at hK1
  refine (show K (a.put o.dst (.slice (some ⟨w.heap.size, 0, none⟩) (0 + m) K')) w' from ?_)
  rw [Nat.zero_add]
  refine h K' _ w' hK1 hK2 hom.new ?_ (fun j hj => ?_) fun I => keeps_one hom
  ·simp only [List.size_toArray, hlen]; exact Nat.le_refl _
  ·rw [List.getElem?_toArray, List.nil_append, List.getElem?_append_left]
   rw [hn]
   exact hj
theorem wp_cpy (x v : Operand) (t u : TypeId) (ho : o.op = .call { callee := .builtin .copy, args := #[x, v], argTypes := #[t, u] }) {e : TypeId} {inf : TypeInfo} {size : Nat} (ht : P.underlying t = some (.slice e))
    (hi : P.info? e = some inf) (hs : inf.size = size) (g d s m : Nat) {cs : Array Value} {e' : TypeId} (hg : w.heap[g]? = some (.cells cs e' (0, 0))) {D S : Option Addr} {dl dc sl sc : Nat} (hx : a.eval x = .slice D dl dc) (hv : a.eval v = .slice S sl sc)
    (hm : m = Nat.min sl dl) (hpos : 0 < m → D = some ⟨g, d, none⟩ ∧ S = some ⟨g, s, none⟩) (hd : d + m * size ≤ cs.size) (hsr : s + m * size ≤ cs.size) (h1 : ∀ u ∈ (cs.toList.drop s).take (m * size), u.oneCell' = true)
    (h : ∀ w', w'.heap[g]? = some (.cells (splice cs.toList d ((cs.toList.drop s).take (m * size))).toArray e' (0, 0)) → Keeps (· = g) w w' → K (a.put o.dst (goInt m)) w') : o.wp P a w K Q := by
  subst hs
  unfold Oper.wp
  have hrun0 : ∀ r, (Builtin.copy_ #[t, u] o.type #[.slice D dl dc, .slice S sl sc]).run P w = r → (execOp a.eval o).run P w = r.andThen fun q w' => .ok (.value q) w' := by
    rintro r rfl
    simp [execOp, ho, resolve, invoke, builtin, hx, hv]
  by_cases h0 : m = 0
  · subst h0
    have hr : (Builtin.copy_ #[t, u] o.type #[.slice D dl dc, .slice S sl sc]).run P w = .ok (goInt 0) w := by
      have hl : ∀ (x : Addr), (loadCells x 0).run P w = .ok #[] w := fun x => by simpa using run_loadCells_list (P := P) w x [] (by simp)
      cases D <;> cases S <;> simp [Builtin.copy_, run_underlying ht, Builtin.lenOf, Builtin.firstCells, sizeOf, typeInfo, hi, ← hm, storeCells, hl]
    rw [hrun0 _ hr]
    refine h w ?_ (Keeps.refl _ _)
    simp [splice, hg]
  · obtain ⟨rfl, rfl⟩ := hpos (by omega)
    have hln : ((cs.toList.drop s).take (m * inf.size)).length = m * inf.size := by simp; omega
    have hf := fc_block (P := P) (w := w) (off := s) (size := inf.size) (m := m) (m' := sl) (c := sc) (news := (cs.toList.drop s).take (m * inf.size)) hg hln (fun j u hu => by
      rw [List.getElem?_take] at hu
      split at hu
      · rw [List.getElem?_drop] at hu; simpa using hu
      · cases hu) w rfl
    have hst := run_sts (P := P) g d e' (0, 0) ((cs.toList.drop s).take (m * inf.size)) 0 cs w hg (by simp) (by rw [hln]; omega) h1
    have hr : (Builtin.copy_ #[t, u] o.type #[.slice (some ⟨g, d, none⟩) dl dc, .slice (some ⟨g, s, none⟩) sl sc]).run P w = .ok (goInt m) (w.setRow g (splice cs.toList d ((cs.toList.drop s).take (m * inf.size))).toArray) := by
      simp only [Nat.add_zero] at hst
      simp [Builtin.copy_, run_underlying ht, Builtin.lenOf, sizeOf, typeInfo, hi, ← hm, hf, hst, splice]
    rw [hrun0 _ hr]
    exact h _ (setRow_heap w g cs _ e' _ hg) (keeps_row hg)
end

def kc (k : Ky) : List Value := [.int .u64 k.c, .int .i64 k.v, .int .i64 k.d]
def flat (l : List Ky) : List Value := l.flatMap kc
theorem flat_length (l : List Ky) : (flat l).length = l.length * 3 := by
 induction l with
 | nil => rfl
 | cons k l ih => simp only [flat, List.flatMap_cons, List.length_append, List.length_cons] at ih ⊢; rw [ih]; simp [kc]; omega
theorem flat_get {l : List Ky} {i j : Nat} {k : Ky} (h : l[i]? = some k) (hj : j < 3) : (flat l)[i * 3 + j]? = (kc k)[j]? := by
 have : ∀ (l : List Ky) (i : Nat), l[i]? = some k → (flat l)[i * 3 + j]? = (kc k)[j]? := fun l => by
  induction l with
  | nil => intro i h; simp at h
  | cons q l ih =>
   intro i h
   cases i with
   | zero =>
    simp at h
    subst h
    simp only [flat, List.flatMap_cons]
    rw [List.getElem?_append_left (by simp [kc]; omega)]
    simp
   | succ i =>
    simp at h
    simp only [flat, List.flatMap_cons]
    rw [List.getElem?_append_right (by simp [kc]; omega), ← ih i h]
    congr 1
    simp [kc]
    omega
 exact this l i h
theorem flat_one {l : List Ky} : ∀ u ∈ flat l, u.oneCell' = true := fun u hu => by
 simp only [flat, List.mem_flatMap, kc] at hu
 obtain ⟨k, _, hk⟩ := hu
 simp at hk
 rcases hk with rfl | rfl | rfl <;> rfl
def RowK (w : World) (g : Nat) (l : List Ky) (c : Nat) : Prop := ∃ (cs : Array Value) (e : TypeId), w.heap[g]? = some (.cells cs e (0, 0)) ∧ c * 3 ≤ cs.size ∧ (∀ (j : Nat) (u : Value), (flat l)[j]? = some u → cs[j]? = some u) ∧ l.length ≤ c ∧ 0 < c ∧ c ≤ maxLen
theorem RowK.loc {w w' : World} {g c : Nat} {l : List Ky} (h : RowK w g l c) (hw : w'.heap[g]? = w.heap[g]?) : RowK w' g l c := by
 obtain ⟨cs, e, h1, h2⟩ := h
 exact ⟨cs, e, by rw [hw]; exact h1, h2⟩
theorem RowK.lt {w : World} {g c : Nat} {l : List Ky} (h : RowK w g l c) : g < w.heap.size := by
 obtain ⟨cs, e, h1, h2⟩ := h
 exact (Array.getElem?_eq_some_iff.1 h1).1
theorem RowK.rel {w : World} {g c : Nat} {l : List Ky} (h : RowK w g l c) {R : Nat → Prop} (hR : R g) : RelV w R (keys l) (.slice (some ⟨g, 0, none⟩) l.length c) := by
 obtain ⟨cs, e, h1, h2, h3, h4, h5, h6⟩ := h
 have key := RelV.sl (w := w) (R := R) 3 (l.map Ky.rv) (some ⟨g, 0, none⟩) c (by simpa using h4) h6 g 0 (fun i j => (cs[i * 3 + j]?).getD undef) (fun _ => ⟨rfl, hR⟩)
 have cell : ∀ (i : Nat) (x : RV) (j : Nat) (y : RV), (l.map Ky.rv)[i]? = some x → x.cells[j]? = some y → ∃ u, y = .v u ∧ cs[i * 3 + j]? = some u ∧ u.oneCell' = true := fun i x j y hi hj => by
  rw [List.getElem?_map, Option.map_eq_some_iff] at hi
  obtain ⟨k, hk, rfl⟩ := hi
  have hj3 : j < 3 := by have := (List.getElem?_eq_some_iff.1 hj).1; simpa [Ky.rv, RV.cells] using this
  have hf := flat_get hk hj3
  match j, hj3, hj, hf with
  | 0, _, hj, hf => simp [Ky.rv, RV.cells] at hj; subst hj; exact ⟨_, rfl, h3 _ _ hf, rfl⟩
  | 1, _, hj, hf => simp [Ky.rv, RV.cells] at hj; subst hj; exact ⟨_, rfl, h3 _ _ hf, rfl⟩
  | 2, _, hj, hf => simp [Ky.rv, RV.cells] at hj; subst hj; exact ⟨_, rfl, h3 _ _ hf, rfl⟩
 have := key (fun i x hi => by
   rw [List.getElem?_map, Option.map_eq_some_iff] at hi
   obtain ⟨k, hk, rfl⟩ := hi
   rfl) (fun i x j y hi hj => by
   obtain ⟨u, rfl, h, h'⟩ := cell i x j y hi hj
   simp only [World.cell?, h1, Option.isSome_none, Bool.false_eq_true, if_false, Nat.zero_add, h, Option.getD_some]
   exact ⟨trivial, h'⟩) (fun i x j y hi hj => by
   obtain ⟨u, rfl, h, h'⟩ := cell i x j y hi hj
   simp only [h, Option.getD_some]
   exact .v u)
 simpa [keys] using this
def adr (og : Option Nat) : Option Addr := og.map fun g => ⟨g, 0, none⟩
structure TL (w : World) (b : Nat) (og : Option Nat) (gs : List Nat) (cap : Nat) (ns : List (List Ky)) (n : Int) : Prop where
 hd : ∃ e, w.heap[b]? = some (.cells #[.slice (adr og) ns.length cap, .int .i64 n] e (0, 0))
 le : ns.length ≤ cap
 mx : cap ≤ maxLen
 no : og = none → cap = 0
 out : ∀ g, og = some g → 0 < cap ∧ ∃ cs e, w.heap[g]? = some (.cells cs e (0, 0)) ∧ cap ≤ cs.size ∧ ∀ (i g' : Nat) (l : List Ky), gs[i]? = some g' → ns[i]? = some l → ∃ c, cs[i]? = some (.slice (some ⟨g', 0, none⟩) l.length c) ∧ RowK w g' l c
 len : gs.length = ns.length
 nb : (b :: (og.toList ++ gs)).Nodup
def Ft (b : Nat) (og : Option Nat) (gs : List Nat) (x : Nat) : Prop := x = b ∨ og = some x ∨ x ∈ gs
section
variable {w w' : World} {b cap : Nat} {og : Option Nat} {gs : List Nat} {ns : List (List Ky)} {n : Int}
theorem TL.loc (h : TL w b og gs cap ns n) (hw : ∀ x, Ft b og gs x → w'.heap[x]? = w.heap[x]?) : TL w' b og gs cap ns n := by
 refine ⟨?_, h.le, h.mx, h.no, fun g hg => ?_, h.len, h.nb⟩
 ·obtain ⟨e, he⟩ := h.hd
  exact ⟨e, by rw [hw b (.inl rfl)]; exact he⟩
 ·obtain ⟨h0, cs, e, h1, h2, h4⟩ := h.out g hg
  refine ⟨h0, cs, e, by rw [hw g (.inr (.inl hg))]; exact h1, h2, fun i g' l hi hl => ?_⟩
  obtain ⟨c, h5, h6⟩ := h4 i g' l hi hl
  exact ⟨c, h5, h6.loc (hw g' (.inr (.inr (List.mem_of_getElem? hi))))⟩
theorem TL.lt (h : TL w b og gs cap ns n) : ∀ x, Ft b og gs x → x < w.heap.size := fun x hx => by
 rcases hx with rfl | hx | hx
 ·obtain ⟨e, he⟩ := h.hd
  exact (Array.getElem?_eq_some_iff.1 he).1
 ·obtain ⟨h0, cs, e, h1, _⟩ := h.out x hx
  exact (Array.getElem?_eq_some_iff.1 h1).1
 ·obtain ⟨i, hi⟩ := List.mem_iff_getElem?.1 hx
  have hin := (List.getElem?_eq_some_iff.1 hi).1
  rw [h.len] at hin
  rcases og with _ | g
  ·have := h.no rfl; have := h.le; omega
  ·obtain ⟨h0, cs, e, h1, h2, h4⟩ := h.out g rfl
   obtain ⟨c, _, h6⟩ := h4 i x ns[i] hi (by simp [hin])
   exact h6.lt
theorem TL.rel (h : TL w b og gs cap ns n) {R : Nat → Prop} (hR : ∀ x, Ft b og gs x → R x) : RelV w R (.sl 1 (ns.map keys)) (.slice (adr og) ns.length cap) := by
 rcases og with _ | g
 ·have h0 := h.no rfl
  have h1 := h.le
  have h2 : ns = [] := List.eq_nil_of_length_eq_zero (by omega)
  subst h2
  subst h0
  exact .sl 1 [] none 0 (by simp) (by simp) 0 0 (fun _ _ => undef) (by simp) (by simp) (by simp) (by simp)
 ·obtain ⟨h0, cs, e, h1, h2, h4⟩ := h.out g rfl
  have node : ∀ (i : Nat) (x : RV), (ns.map keys)[i]? = some x → ∃ l g' c, ns[i]? = some l ∧ x = keys l ∧ gs[i]? = some g' ∧ cs[i]? = some (.slice (some ⟨g', 0, none⟩) l.length c) ∧ RowK w g' l c := fun i x hi => by
   rw [List.getElem?_map, Option.map_eq_some_iff] at hi
   obtain ⟨l, hl, rfl⟩ := hi
   have hlt := (List.getElem?_eq_some_iff.1 hl).1
   have hg' : gs[i]? = some (gs[i]'(by rw [h.len]; exact hlt)) := by simp [h.len, hlt]
   obtain ⟨c, h5, h6⟩ := h4 i _ l hg' hl
   exact ⟨l, _, c, hl, rfl, hg', h5, h6⟩
  have key := RelV.sl (w := w) (R := R) 1 (ns.map keys) (some ⟨g, 0, none⟩) cap (by simpa using h.le) h.mx g 0 (fun i _ => (cs[i]?).getD undef) (fun _ => ⟨rfl, hR g (.inr (.inl rfl))⟩) (fun i x hi => by
    obtain ⟨l, g', c, _, rfl, _⟩ := node i x hi
    rfl) (fun i x j y hi hj => by
    obtain ⟨l, g', c, _, rfl, _, h5, _⟩ := node i x hi
    have : j = 0 := by have := (List.getElem?_eq_some_iff.1 hj).1; simp [keys, RV.cells] at this; exact this
    subst this
    simp only [World.cell?, h1, Option.isSome_none, Bool.false_eq_true, if_false, Nat.zero_add, Nat.mul_one, Nat.add_zero, h5, Option.getD_some]
    exact ⟨trivial, rfl⟩) (fun i x j y hi hj => by
    obtain ⟨l, g', c, _, rfl, h7, h5, h6⟩ := node i x hi
    have : j = 0 := by have := (List.getElem?_eq_some_iff.1 hj).1; simp [keys, RV.cells] at this; exact this
    subst this
    simp [keys, RV.cells] at hj
    subst hj
    simp only [h5, Option.getD_some]
    exact h6.rel (hR g' (.inr (.inr (List.mem_of_getElem? h7)))))
  simpa [adr] using key
theorem TL.rp (h : TL w b og gs cap ns n) {R : Nat → Prop} (hR : ∀ x, Ft b og gs x → R x) :
  ∃ g : Nat → Value, ∀ (j : Nat) (y : RV), (tview ns n)[j]? = some y → w.cell? ⟨b, 0 + j, none⟩ = some (g j) ∧ (g j).oneCell' = true ∧ RelV w R y (g j) := by
 obtain ⟨e, he⟩ := h.hd
 refine ⟨fun j => (#[Value.slice (adr og) ns.length cap, .int .i64 n][j]?).getD undef, fun j y hj => ?_⟩
 match j, hj with
 | 0, hj =>
  simp [tview] at hj
  subst hj
  refine ⟨by simp [World.cell?, he], rfl, h.rel hR⟩
 | 1, hj =>
  simp [tview] at hj
  subst hj
  exact ⟨by simp [World.cell?, he], rfl, .v _⟩
 | j + 2, hj => simp [tview] at hj
def fpt (og : Option Nat) (gs : List Nat) : Nat → Option Nat
 | 0 => og
 | j + 1 => gs[j]?
theorem fpt_iff {x : Nat} : (∃ j, fpt og gs j = some x) ↔ (og = some x ∨ x ∈ gs) := by
 constructor
 ·rintro ⟨j, hj⟩
  cases j with
  | zero => exact .inl hj
  | succ j => exact .inr (List.mem_of_getElem? hj)
 ·rintro (h | h)
  ·exact ⟨0, h⟩
  ·obtain ⟨i, hi⟩ := List.mem_iff_getElem?.1 h
   exact ⟨i + 1, hi⟩
end
def treeT (ns : List (List Ky)) (n : Int) : AbsT where
 size := 2
 Q w b φ := ∃ og gs cap, TL w b og gs cap ns n ∧ φ = fpt og gs
 loc := by
  rintro w w' b φ ⟨og, gs, cap, h, rfl⟩ hb hj
  refine ⟨og, gs, cap, h.loc fun x hx => ?_, rfl⟩
  rcases hx with rfl | hx
  ·exact hb
  ·obtain ⟨j, hj'⟩ := fpt_iff.2 hx
   exact hj j x hj'
 root := by
  rintro w b φ ⟨og, gs, cap, h, rfl⟩
  obtain ⟨e, he⟩ := h.hd
  exact ⟨_, e, he, rfl⟩
 lt := by
  rintro w b φ ⟨og, gs, cap, h, rfl⟩ j c hj
  exact h.lt c (.inr (fpt_iff.1 ⟨j, hj⟩))
 view := tview ns n
 rp := by
  rintro w b φ R ⟨og, gs, cap, h, rfl⟩ hb hj
  refine h.rp fun x hx => ?_
  rcases hx with rfl | hx
  ·exact hb
  ·obtain ⟨j, hj'⟩ := fpt_iff.2 hx
   exact hj j x hj'

theorem glT (w : World) : Gl Go.Proofs.Tryz.prog w fun _ => False := gl_none (by kernel_rfl) (fun _ => by kernel_rfl) (fun _ => by kernel_rfl) w
def Ky.val (k : Ky) : Value := .agg #[.int .u64 k.c, .int .i64 k.v, .int .i64 k.d]
theorem Ky.rel {w : World} {R : Nat → Prop} (k : Ky) : RelV w R k.rv k.val := by
 refine .agg _ _ rfl fun i x c hx hc => ?_
 match i, hx, hc with
 | 0, hx, hc => simp [Ky.val] at hx hc; subst hx; subst hc; exact .v _
 | 1, hx, hc => simp [Ky.val] at hx hc; subst hx; subst hc; exact .v _
 | 2, hx, hc => simp [Ky.val] at hx hc; subst hx; subst hc; exact .v _
 | i + 3, hx, hc => simp at hx
theorem all0 {w : World} {x : Nat} (h : x < w.heap.size) : All0 w x := ⟨h, fun ⟨id, v, o, h1, _⟩ => by simp [ob0, obs] at h1, trivial⟩
theorem keeps_below {w w' : World} {I : Nat → Prop} (h : Go.RowKit.Below w.heap.size w w') : Keeps I w w' := ⟨h.os, h.tape, h.output, h.size, fun b hb _ => h.block b hb⟩
section
variable {w : World} {b cap : Nat} {og : Option Nat} {gs : List Nat} {ns : List (List Ky)} {n : Int}
theorem node_w (h : TL w b og gs cap ns n) (k : Ky) (r : Nat) (hN : Nod ns k r) : Calls Go.Proofs.Tryz.prog 46 #[.pointer (some ⟨b, 0, none⟩), k.val] w fun e w' => e = .returned (.int .i64 ((r - 1 : Nat) : Int)) ∧ ∀ I, Keeps I w w' := by
 obtain ⟨g, hg⟩ := h.rp (R := All0 w) fun x hx => all0 (h.lt x hx)
 refine (calls_of_triple (node_t ns n k r hN) w (glT w) rfl (rel0_cons (.rp _ b 0 g (all0 (h.lt b (.inl rfl))) hg) (rel0_cons (.r k.rel) rel0_nil))).mono ?_
 rintro e w' ⟨c, rfl, hb, ρ', hR⟩
 cases hR with
 | r hv => cases hv; exact ⟨rfl, fun I => keeps_below hb⟩
theorem find_w {g c : Nat} {l : List Ky} (h : RowK w g l c) (k : Ky) (r : Nat) (hP : Plc l k r) : Calls Go.Proofs.Tryz.prog 47 #[.slice (some ⟨g, 0, none⟩) l.length c, k.val] w fun e w' =>
  e = .returned (.tuple #[.int .i64 r, .bool (decide (l[r]? = some k))]) ∧ ∀ I, Keeps I w w' := by
 have hl : l.length ≤ maxLen := by obtain ⟨_, _, _, _, _, h4, _, h6⟩ := h; omega
 refine (calls_of_triple (find_t l k r hP hl) w (glT w) rfl (rel0_cons (.r (h.rel (all0 h.lt))) (rel0_cons (.r k.rel) rel0_nil))).mono ?_
 rintro e w' ⟨c, rfl, hb, ρ', hR⟩
 cases hR with
 | tup _ cs hl h =>
  have h0 := h 0 _ (cs[0]'(by rw [hl]; simp)) rfl (by simp [hl])
  have h1 := h 1 _ (cs[1]'(by rw [hl]; simp)) rfl (by simp [hl])
  refine ⟨?_, fun I => keeps_below hb⟩
  congr 2
  have inv : ∀ {v c : Value}, RelA w' (Free (fun _ => True) (ob0 []) ρ' w') (ob0 []) ρ' (.r (.v v)) c → c = v := fun h => by cases h with | r h => cases h; rfl
  have e0 := inv h0
  have e1 := inv h1
  apply Array.ext (by simp [hl])
  intro i h2 h3
  match i, h2, h3 with
  | 0, h2, h3 => simpa using e0
  | 1, h2, h3 => simpa using e1
  | i + 2, h2, h3 => rw [hl] at h2; exact absurd (show i + 2 < 2 from h2) (by omega)
end
theorem triple_abs {f : FuncId} {T T' : AbsT} {k : Ky} {res : Value} (hs : T'.size = T.size) (h : ∀ (w : World) (b : Nat) (φ : Nat → Option Nat), T.Q w b φ → Calls Go.Proofs.Tryz.prog f #[.pointer (some ⟨b, 0, none⟩), k.val] w fun e w' =>
  e = .returned res ∧ ∃ φ', T'.Q w' b φ' ∧ Keeps (fun x => x = b ∨ ∃ j, φ j = some x) w w' ∧ (∀ j c, φ' j = some c → (∃ j', φ j' = some c) ∨ w.heap.size ≤ c)) :
  Triple Go.Proofs.Tryz.prog f [.ptr 1000000 0 0, k.av] [.abs T] (.r (.v res)) [.abs T'] := by
 intro w cargs ρ B hgl hB hM hcs hargs
 have hob : ob0 [Ob.abs T] 1000000 = some (0, .abs T) := by simp [ob0, obs, upd]
 obtain ⟨b, hρ, hQ⟩ := hM.obj 1000000 0 (.abs T) hob
 have hid : ∀ (T0 : AbsT) id x, ob0 [Ob.abs T0] id = some x → id = 1000000 ∧ x = (0, .abs T0) := fun T0 id x hx => by
  obtain ⟨h1, h2, h3⟩ := ob0_some hx
  have : id - 1000000 = 0 := by
   have := (List.getElem?_eq_some_iff.1 h2).1
   simpa using this
  have hid : id = 1000000 := by omega
  subst hid
  have hob0 : ob0 [Ob.abs T0] 1000000 = some (0, .abs T0) := by simp [ob0, obs, upd]
  rw [hob0] at hx
  exact ⟨rfl, (Option.some.inj hx).symm⟩
 have hheld : ∀ x, Held (ob0 [.abs T]) ρ x ↔ (x = b ∨ ∃ j, ρ (.s 1000000 j) = some x) := fun x => by
  constructor
  ·rintro ⟨id, y, h1, h2⟩
   obtain ⟨rfl, rfl⟩ := hid T id _ h1
   rcases h2 with h2 | ⟨_, j, h2⟩
   ·rw [hρ] at h2; cases h2; exact .inl rfl
   ·exact .inr ⟨j, h2⟩
  ·rintro (rfl | ⟨j, h2⟩)
   ·exact ⟨1000000, (0, .abs T), hob, .inl hρ⟩
   ·exact ⟨1000000, (0, .abs T), hob, .inr ⟨rfl, j, h2⟩⟩
 have hc : cargs = #[.pointer (some ⟨b, 0, none⟩), k.val] := by
  simp at hcs
  apply Array.ext (by simpa using hcs)
  intro i h1 h2
  match i, h1, h2 with
  | 0, h1, h2 =>
   have h0 := hargs 0 _ cargs[0] rfl (by simp [h1])
   generalize cargs[0] = c0 at h0
   cases h0 with
   | ptr _ _ _ _ hc1 hat =>
    obtain ⟨b', hb', rfl⟩ := hat.live hob
    rw [hρ] at hb'
    cases hb'
    rfl
  | 1, h1, h2 =>
   have h0 := hargs 1 _ cargs[1] rfl (by simp [h1])
   generalize cargs[1] = c1 at h0
   cases h0 with
   | r h0 =>
    cases h0 with
    | agg xs cs hl h0 =>
     have inv : ∀ {v c : Value}, RelV w (Free B (ob0 [.abs T]) ρ w) (.v v) c → c = v := fun h => by cases h; rfl
     simp only [Ky.val, List.getElem_toArray, List.getElem_cons_succ, List.getElem_cons_zero]
     congr 1
     apply Array.ext (by simpa using hl)
     intro j g1 g2
     match j, g1, g2 with
     | 0, g1, g2 => exact inv (h0 0 _ cs[0] rfl (by simp [g1]))
     | 1, g1, g2 => exact inv (h0 1 _ cs[1] rfl (by simp [g1]))
     | 2, g1, g2 => exact inv (h0 2 _ cs[2] rfl (by simp [g1]))
     | j + 3, g1, g2 => exact absurd (show j + 3 < 3 from g2) (by omega)
  | i + 2, h1, h2 => exact absurd (show i + 2 < 2 from h2) (by omega)
 subst hc
 refine (h w b _ hQ).mono ?_
 rintro e w' ⟨rfl, φ', hQ', hK, hφ⟩
 obtain ⟨ρ', h1, h2⟩ : ∃ ρ' : Pl → Option Nat, ρ' (.o 1000000) = some b ∧ ∀ j, ρ' (.s 1000000 j) = φ' j := ⟨fun | .o i => if i = 1000000 then some b else none | .s i j => if i = 1000000 then φ' j else none, by simp, by simp⟩
 refine ⟨_, ρ', rfl, ⟨fun id v o hx => ?_, fun id id' x x' c hx hx' _ _ => ?_, ⟨hK.os, hK.tape, hK.output, hK.size, fun c hc hn => hK.block c hc fun hx => hn ((hheld c).2 hx)⟩, fun id v o c hx hf => ?_, fun id c hp => ?_⟩, .r (.v _)⟩
 ·obtain ⟨rfl, hx⟩ := hid T' id _ hx
  cases hx
  refine ⟨b, h1, ?_⟩
  rw [show (fun j => ρ' (.s 1000000 j)) = φ' from funext h2]
  exact hQ'
 ·rw [(hid T' id _ hx).1, (hid T' id' _ hx').1]
 ·obtain ⟨rfl, hx⟩ := hid T' id _ hx
  cases hx
  rcases hf with hf | ⟨_, j, hf⟩
  ·rw [h1] at hf; cases hf; exact .inl ((hheld b).2 (.inl rfl))
  ·rw [h2] at hf
   rcases hφ j c hf with ⟨j', hj'⟩ | h
   ·exact .inl ((hheld c).2 (.inr ⟨j', hj'⟩))
   ·exact .inr h
 ·simp only [pinOf] at hp
  split at hp
  ·rename_i v o hx
   split at hp
   ·rename_i ho
    obtain ⟨rfl, hx'⟩ := hid T id _ hx
    refine ⟨?_, _, by simp [ob0, obs, upd]; rfl, rfl⟩
    rw [h1, ← hp, hρ]
   ·cases hp
  ·cases hp

open Go Go.RowKit
set_option maxRecDepth 100000
theorem al_old {w : World} {x : Obj} {k : Nat} (h : k < w.heap.size) : (w.alloc x).heap[k]? = w.heap[k]? := by
 show (w.heap.push x)[k]? = _
 simp [Array.getElem?_push, Nat.ne_of_lt h]
theorem al_new {w : World} {x : Obj} {k : Nat} (h : k = w.heap.size) : (w.alloc x).heap[k]? = some x := by
 subst h
 show (w.heap.push x)[w.heap.size]? = _
 simp
theorem keeps_al {w : World} {x : Obj} {I : Nat → Prop} : Keeps I w (w.alloc x) := keeps_one (one_more x)
theorem Keeps.mono {I J : Nat → Prop} {w w' : World} (h : Keeps I w w') (hi : ∀ x, I x → J x) : Keeps J w w' := ⟨h.os, h.tape, h.output, h.size, fun b hb hn => h.block b hb fun hx => hn (hi b hx)⟩
theorem put0_w {w : World} {b cap : Nat} {og : Option Nat} {gs : List Nat} {n : Int} (h : TL w b og gs cap [] n) (k : Ky) : Calls Go.Proofs.Tryz.prog 26 #[.pointer (some ⟨b, 0, none⟩), k.val] w fun e w' => e = .returned (.bool true) ∧
    ∃ og' gs' cap', TL w' b og' gs' cap' [[k]] 1 ∧ Keeps (Ft b og gs) w w' ∧ ∀ x, Ft b og' gs' x → Ft b og gs x ∨ w.heap.size ≤ x := by
  obtain ⟨e, he⟩ := h.hd
  have hlt := h.lt b (.inl rfl)
  have hc : w.cell? ⟨b, 0, none⟩ = some (.slice (adr og) 0 cap) := by simp [World.cell?, he]
  have hc1 : w.cell? ⟨b, 1, none⟩ = some (.int .i64 n) := by simp [World.cell?, he]
  have hf0 : w.frozen? ⟨b, 0, none⟩ = false := by simp [World.frozen?, he]
  have hf1 : w.frozen? ⟨b, 1, none⟩ = false := by simp [World.frozen?, he]
  have hb01 : b < w.heap.size + 1 := by omega
  have hb02 : b < w.heap.size + 1 + 1 := by omega
  have hb0 : ¬ b = w.heap.size := by omega
  have hb1 : ¬ b = w.heap.size + 1 := by omega
  have hb2 : ¬ b = w.heap.size + 1 + 1 := by omega
  simp only [Ky.val]
  go_enter Go.Proofs.Tryz.func26, Go.Proofs.Tryz.ntmps26
  go_wp2_with fail
  go_ret
  rw [setCell_eq_setRow w b 0 _ _ _ _ he, setCell_eq_setRow _ b 1 _ _ _ _ (setRow_heap w b _ _ _ _ he), setRow_setRow]
  generalize hw1 : w.setRow b _ = w1
  have hh : w1.heap[b]? = some (.cells #[.slice (some ⟨w.heap.size + 1 + 1, 0, none⟩) 1 1, .int .i64 1] e) := by rw [← hw1]; exact setRow_heap w b _ _ _ _ he
  have hk : Keeps (· = b) w w1 := by rw [← hw1]; exact keeps_row he
  have hs : w1.heap.size = w.heap.size := by rw [← hw1]; simp [World.setRow]
  refine ⟨rfl, some (w.heap.size + 1 + 1), [w.heap.size + 1], 1, ⟨⟨e, ?_⟩, by simp, by simp [maxLen], by simp, fun g hg => ?_, rfl, ?_⟩, ?_, fun x hx => ?_⟩
  · rw [al_old (by simp [hs]; omega), al_old (by simp [hs]; omega), al_old (by simp [hs]; omega), hh]
    rfl
  · cases hg
    refine ⟨by omega, _, _, al_new (by simp [hs]), by simp, fun i g' l hi hl => ?_⟩
    have hi0 : i = 0 := by have := (List.getElem?_eq_some_iff.1 hi).1; simp at this; exact this
    subst hi0
    simp at hi hl
    subst hi; subst hl
    refine ⟨1, rfl, _, _, by rw [al_old (by simp [hs])]; exact al_new (by simp [hs]), by simp, ?_, by simp, by simp, by simp [maxLen]⟩
    intro j u hj
    simpa [flat, kc] using hj
  · simp
    omega
  · exact (hk.mono fun x hx => .inl hx).trans ((keeps_al.trans keeps_al).trans keeps_al)
  · rcases hx with h | h | h
    · exact .inl (.inl h)
    · simp at h; omega
    · simp at h; omega

open Go Go.RowKit
set_option maxRecDepth 100000
section
variable {w : World} {b g cap : Nat} {og : Option Nat} {gs : List Nat} {ns : List (List Ky)} {n : Int}
theorem TL.root (h : TL w b (some g) gs cap ns n) : w.cell? ⟨b, 0, none⟩ = some (.slice (some ⟨g, 0, none⟩) ns.length cap) ∧ w.cell? ⟨b, 1, none⟩ = some (.int .i64 n) ∧ w.frozen? ⟨b, 0, none⟩ = false ∧ w.frozen? ⟨b, 1, none⟩ = false ∧ b < w.heap.size := by
 obtain ⟨e, he⟩ := h.hd
 exact ⟨by simp [World.cell?, he, adr], by simp [World.cell?, he], by simp [World.frozen?, he], by simp [World.frozen?, he], h.lt b (.inl rfl)⟩
theorem TL.some_ (h : TL w b og gs cap ns n) {i : Nat} {l : List Ky} (hl : ns[i]? = some l) : ∃ g, og = some g := by
 rcases og with _ | g
 ·have := h.no rfl
  have := h.le
  have := (List.getElem?_eq_some_iff.1 hl).1
  omega
 ·exact ⟨g, rfl⟩
theorem TL.node (h : TL w b (some g) gs cap ns n) {i : Nat} {l : List Ky} (hl : ns[i]? = some l) : ∃ g' c, gs[i]? = some g' ∧ RowK w g' l c ∧ w.cell? ⟨g, i, none⟩ = some (.slice (some ⟨g', 0, none⟩) l.length c) ∧ w.frozen? ⟨g, i, none⟩ = false := by
 obtain ⟨h0, cs, e, h1, h2, h4⟩ := h.out g rfl
 have hlt := (List.getElem?_eq_some_iff.1 hl).1
 have hg' : gs[i]? = some (gs[i]'(by rw [h.len]; exact hlt)) := by simp [h.len, hlt]
 obtain ⟨c, h5, h6⟩ := h4 i _ l hg' hl
 exact ⟨_, c, hg', h6, by simp [World.cell?, h1, h5], by simp [World.frozen?, h1]⟩
end
def KB (w : World) (B : Nat) (k : Ky) : Prop := w.heap[B]? = some (.cells #[.int .u64 k.c, .int .i64 k.v, .int .i64 k.d] 55 (0, 0))
theorem KB.cells {w : World} {B : Nat} {k : Ky} (h : KB w B k) : w.cell? ⟨B, 0, none⟩ = some (.int .u64 k.c) ∧ w.cell? ⟨B, 1, none⟩ = some (.int .i64 k.v) ∧ w.cell? ⟨B, 2, none⟩ = some (.int .i64 k.d) := by
 unfold KB at h
 exact ⟨by simp [World.cell?, h], by simp [World.cell?, h], by simp [World.cell?, h]⟩
theorem KB.keeps {w w' : World} {B : Nat} {k : Ky} {I : Nat → Prop} (h : KB w B k) (hk : Keeps I w w') (hn : ¬ I B) : KB w' B k := by
 unfold KB at h ⊢
 rw [hk.block B (Array.getElem?_eq_some_iff.1 h).1 hn]
 exact h
theorem TL.keeps {w w' : World} {b cap : Nat} {og : Option Nat} {gs : List Nat} {ns : List (List Ky)} {n : Int} {I : Nat → Prop} (h : TL w b og gs cap ns n) (hk : Keeps I w w') (hn : ∀ x, Ft b og gs x → ¬ I x) : TL w' b og gs cap ns n :=
 h.loc fun x hx => hk.block x (h.lt x hx) (hn x hx)
theorem put1_w {w : World} {b cap : Nat} {og : Option Nat} {gs : List Nat} {ns : List (List Ky)} {n : Int} (h : TL w b og gs cap ns n) (k : Ky) (r s : Nat) (l : List Ky) (hN : Nod ns k r) (hl : ns[r - 1]? = some l) (hP : Plc l k s) (hs : l[s]? = some k) : Calls Go.Proofs.Tryz.prog 26 #[.pointer (some ⟨b, 0, none⟩), k.val] w fun e w' => e = .returned (.bool false) ∧
  TL w' b og gs cap ns n ∧ ∀ I, Keeps I w w' := by
 obtain ⟨g, rfl⟩ := h.some_ hl
 have hat : r - 1 < ns.length := (List.getElem?_eq_some_iff.1 hl).1
 generalize hr : r - 1 = i at *
 obtain ⟨c0, c1, f0, f1, hlt⟩ := h.root
 have hne : ((ns.length : Int) == 0) = false := by rw [beq_eq_false_iff_ne]; omega
 have hk0 : ∀ x, Keeps (fun _ => False) w (w.alloc x) := fun x => keeps_al
 have i0 : (0 : Int) ≤ (i : Int) := by omega
 have i1 : (i : Int) < (ns.length : Int) := by omega
 simp only [Ky.val]
 go_enter Go.Proofs.Tryz.func26, Go.Proofs.Tryz.ntmps26
 go_wp2_with fail
 have h1 := h.keeps (hk0 (.cells #[.int .u64 k.c, .int .i64 k.v, .int .i64 k.d] 55)) (fun _ _ q => q)
 have b1 : KB (w.alloc (.cells #[.int .u64 k.c, .int .i64 k.v, .int .i64 k.d] 55)) w.heap.size k := al_new rfl
 refine (node_w h1 k r hN).mono ?_
 rintro e w2 ⟨rfl, hK2⟩
 rw [hr]
 have h2 := h1.keeps (hK2 fun _ => False) (fun _ _ q => q)
 have b2 := b1.keeps (hK2 fun _ => False) (fun q => q)
 obtain ⟨d0, d1, f2, f3, _⟩ := h2.root
 obtain ⟨g', c, hg', hrow, d2, f4⟩ := h2.node hl
 obtain ⟨k0, k1, k2⟩ := b2.cells
 go_wp2_with fail
 refine (find_w hrow k s hP).mono ?_
 rintro e w3 ⟨rfl, hK3⟩
 rw [decide_eq_true hs]
 go_wp2_with fail
 go_ret
 refine ⟨rfl, h2.keeps (hK3 fun _ => False) (fun _ _ q => q), fun I => (keeps_al.trans (hK2 I)).trans (hK3 I)⟩

open Go Go.RowKit
theorem flat_append (a b : List Ky) : flat (a ++ b) = flat a ++ flat b := by simp [flat]
theorem flat_cons (k : Ky) (b : List Ky) : flat (k :: b) = kc k ++ flat b := by simp [flat]
theorem set3 {α : Type} (L : List α) (i : Nat) (a b c : α) (h : i + 3 ≤ L.length) : ((L.set i a).set (i + 1) b).set (i + 2) c = splice L i [a, b, c] := by
 apply List.ext_getElem?
 intro j
 rw [splice_at (by simpa using h)]
 simp only [List.getElem?_set, List.length_set, List.length_cons, List.length_nil]
 by_cases h0 : j = i
 ·subst h0; simp; omega
 by_cases h1 : j = i + 1
 ·subst h1; simp; omega
 by_cases h2 : j = i + 2
 ·subst h2; simp; omega
 rw [if_neg (by omega), if_neg (by omega), if_neg (by omega), if_neg (by omega)]
theorem ins_cells {cs : List Value} {l : List Ky} {k : Ky} {s : Nat} (hs : s ≤ l.length) (hp : (flat l ++ kc k) <+: cs) :
  flat (l.take s ++ k :: l.drop s) <+: splice (splice cs ((s + 1) * 3) ((cs.drop (s * 3)).take ((l.length - s) * 3))) (s * 3) (kc k) := by
 obtain ⟨t, rfl⟩ := hp
 obtain ⟨A, hA⟩ : ∃ A, A = flat (l.take s) := ⟨_, rfl⟩
 obtain ⟨D, hD⟩ : ∃ D, D = flat (l.drop s) := ⟨_, rfl⟩
 have hl : flat l = A ++ D := by rw [hA, hD, ← flat_append, List.take_append_drop]
 have lA : A.length = s * 3 := by rw [hA, flat_length, List.length_take, Nat.min_eq_left hs]
 have lD : D.length = (l.length - s) * 3 := by rw [hD, flat_length, List.length_drop]
 have lk : (kc k).length = 3 := rfl
 rw [flat_append, flat_cons, ← hA, ← hD, hl, ← lA, ← lD, show (s + 1) * 3 = A.length + 3 by omega]
 refine ⟨t, ?_⟩
 obtain ⟨E, hE⟩ : ∃ E, E = (D ++ kc k ++ t).take 3 := ⟨_, rfl⟩
 have lE : E.length = 3 := by rw [hE]; simp; omega
 have e1 : (A ++ D ++ kc k ++ t).take (A.length + 3) = A ++ E := by
  rw [hE, List.append_assoc A D, List.append_assoc A, List.take_length_add_append]
 have e2 : ((A ++ D ++ kc k ++ t).drop A.length).take D.length = D := by
  rw [List.append_assoc A D, List.append_assoc A, List.drop_left, List.append_assoc D, List.take_left]
 have e3 : (A ++ D ++ kc k ++ t).drop (A.length + 3 + D.length) = t := by
  have : A.length + 3 + D.length = (A ++ D ++ kc k).length := by simp [lk]; omega
  rw [this, List.drop_left]
 have e4 : splice (A ++ D ++ kc k ++ t) (A.length + 3) D = A ++ (E ++ (D ++ t)) := by
  unfold splice
  rw [e1, e3]
  simp
 rw [e2, e4]
 unfold splice
 have e5 : (A ++ (E ++ (D ++ t))).drop (A.length + 3) = D ++ t := by
  have : A.length + 3 = (A ++ E).length := by simp [lE]
  rw [this, ← List.append_assoc, List.drop_left]
 rw [List.take_left, lk, e5]
 simp
theorem pre_of {cs2 : Array Value} {X : List Value} (h : ∀ j, j < X.length → cs2[j]? = X[j]?) (hl : X.length ≤ cs2.size) : X <+: cs2.toList := by
 rw [List.prefix_iff_eq_take]
 apply List.ext_getElem?
 intro j
 rw [List.getElem?_take]
 by_cases hj : j < X.length
 ·rw [if_pos hj, ← h j hj]
  simp
 ·rw [if_neg hj]
  simp
  omega
theorem cell_same {w w' : World} {x : Nat} (h : w'.heap[x]? = w.heap[x]?) (o : Nat) : w'.cell? ⟨x, o, none⟩ = w.cell? ⟨x, o, none⟩ := by simp only [World.cell?, h]
theorem frozen_same {w w' : World} {x : Nat} (h : w'.heap[x]? = w.heap[x]?) (o : Nat) : w'.frozen? ⟨x, o, none⟩ = w.frozen? ⟨x, o, none⟩ := by simp only [World.frozen?, h]
theorem cell_in {w : World} {g o : Nat} {cs : Array Value} {e : TypeId} {fr : Nat × Nat} (h : w.heap[g]? = some (.cells cs e fr)) (ho : o < cs.size) : ∃ v, w.cell? ⟨g, o, none⟩ = some v := ⟨cs[o], by simp [World.cell?, h, ho]⟩
theorem frozen_in {w : World} {g o : Nat} {cs : Array Value} {e : TypeId} (h : w.heap[g]? = some (.cells cs e (0, 0))) : w.frozen? ⟨g, o, none⟩ = false := by simp [World.frozen?, h]
theorem sz_al {w : World} {x : Obj} : (w.alloc x).heap.size = w.heap.size + 1 := by simp
theorem sc_same {w : World} {g o : Nat} {cs : Array Value} {e : TypeId} {fr : Nat × Nat} {v : Value} (h : w.heap[g]? = some (.cells cs e fr)) : (w.setCell ⟨g, o, none⟩ v).heap[g]? = some (.cells (cs.setIfInBounds o v) e fr) := by
 rw [setCell_eq_setRow w g o cs e fr v h]
 exact setRow_heap w g _ _ _ _ h
theorem sc_other {w : World} {g o x : Nat} {cs : Array Value} {e : TypeId} {fr : Nat × Nat} {v : Value} (h : w.heap[g]? = some (.cells cs e fr)) (hx : x ≠ g) : (w.setCell ⟨g, o, none⟩ v).heap[x]? = w.heap[x]? := by
 rw [setCell_eq_setRow w g o cs e fr v h]
 exact setRow_other w g x _ hx
theorem sc_keeps {w : World} {g o : Nat} {cs : Array Value} {e : TypeId} {fr : Nat × Nat} {v : Value} {I : Nat → Prop} (h : w.heap[g]? = some (.cells cs e fr)) (hI : I g) : Keeps I w (w.setCell ⟨g, o, none⟩ v) := by
 rw [setCell_eq_setRow w g o cs e fr v h]
 have hk := keeps_row (cs := cs.setIfInBounds o v) h
 exact ⟨hk.os, hk.tape, hk.output, hk.size, fun b hb hn => hk.block b hb fun q => hn (q ▸ hI)⟩
theorem keeps_old {w w' : World} {I : Nat → Prop} (h : Keeps (fun x => I x ∨ w.heap.size ≤ x) w w') : Keeps I w w' := ⟨h.os, h.tape, h.output, h.size, fun b hb hn => h.block b hb fun q => by rcases q with q | q; exact hn q; omega⟩
theorem flat_drop_get {l : List Ky} {a j : Nat} (ha : a ≤ l.length) : (flat l)[a * 3 + j]? = (flat (l.drop a))[j]? := by
 have : flat l = flat (l.take a) ++ flat (l.drop a) := by rw [← flat_append, List.take_append_drop]
 have hl : (flat (l.take a)).length = a * 3 := by rw [flat_length, List.length_take, Nat.min_eq_left ha]
 rw [this, List.getElem?_append_right (by omega), hl]
 congr 1
 omega
theorem flat_take_get {l : List Ky} {a j : Nat} {u : Value} (h : (flat (l.take a))[j]? = some u) : (flat l)[j]? = some u := by
 have : flat l = flat (l.take a) ++ flat (l.drop a) := by rw [← flat_append, List.take_append_drop]
 rw [this, List.getElem?_append_left (List.getElem?_eq_some_iff.1 h).1]
 exact h
theorem pre_take {cs : Array Value} {A : List Value} (hf : ∀ (j : Nat) (u : Value), A[j]? = some u → cs[j]? = some u) : cs.toList.take A.length = A := by
 apply List.ext_getElem?
 intro j
 rw [List.getElem?_take]
 by_cases hj : j < A.length
 ·have hq : A[j]? = some A[j] := by simp [hj]
  rw [if_pos hj, hq, ← hf j _ hq]
  simp
 ·rw [if_neg hj, eq_comm, List.getElem?_eq_none_iff]
  omega
theorem pre_app {cs cs2 : Array Value} {A B : List Value} {N : Nat} (hN : A.length = N) (hf : ∀ (j : Nat) (u : Value), A[j]? = some u → cs[j]? = some u) (h : ∀ j, j < N + B.length → cs2[j]? = (cs.toList.take N ++ B)[j]?) (hl : N + B.length ≤ cs2.size) : (A ++ B) <+: cs2.toList := by
 subst hN
 rw [pre_take hf] at h
 exact pre_of (fun j hj => h j (by simpa using hj)) (by simpa using hl)
theorem seg_one {L X : List Value} (hp : X <+: L) (h1 : ∀ u ∈ X, u.oneCell' = true) {a m : Nat} (h : a + m ≤ X.length) : ∀ u ∈ (L.drop a).take m, u.oneCell' = true := fun u hu => by
 obtain ⟨t, rfl⟩ := hp
 obtain ⟨j, hj⟩ := List.mem_iff_getElem?.1 hu
 rw [List.getElem?_take] at hj
 split at hj
 ·rw [List.getElem?_drop, List.getElem?_append_left (by omega)] at hj
  exact h1 u (List.mem_of_getElem? hj)
 ·cases hj
theorem ins2 {α : Type} {L : List α} {i : Nat} {x y : α} (h : i < L.length) (j : Nat) : (L.take i ++ x :: y :: L.drop (i + 1))[j]? = if j < i then L[j]? else if j = i then some x else if j = i + 1 then some y else L[j - 1]? := by
 have hl : (L.take i).length = i := by simp; omega
 rw [List.getElem?_append, hl]
 by_cases h1 : j < i
 ·rw [if_pos h1, if_pos h1, List.getElem?_take, if_pos h1]
 ·rw [if_neg h1, if_neg h1]
  by_cases h2 : j = i
  ·subst h2; simp
  ·rw [if_neg h2]
   by_cases h3 : j = i + 1
   ·subst h3; simp
   ·rw [if_neg h3]
    obtain ⟨m, rfl⟩ : ∃ m, j = i + 2 + m := ⟨j - (i + 2), by omega⟩
    rw [show i + 2 + m - i = m + 2 by omega]
    simp only [List.getElem?_cons_succ, List.getElem?_drop]
    congr 1
    omega
section
variable {w w' : World} {b g cap : Nat} {gs : List Nat} {ns : List (List Ky)} {n n' : Int}
theorem TL.put (h : TL w b (some g) gs cap ns n) {i : Nat} (hi : i < ns.length) {g2 c2 : Nat} {l' : List Ky} (hb : ∃ e, w'.heap[b]? = some (.cells #[.slice (some ⟨g, 0, none⟩) ns.length cap, .int .i64 n'] e (0, 0)))
  (hg : ∃ cs e, w.heap[g]? = some (.cells cs e (0, 0)) ∧ w'.heap[g]? = some (.cells (cs.setIfInBounds i (.slice (some ⟨g2, 0, none⟩) l'.length c2)) e (0, 0))) (hrow : RowK w' g2 l' c2)
  (ho : ∀ (j x : Nat), j ≠ i → gs[j]? = some x → w'.heap[x]? = w.heap[x]?) (hg2 : gs[i]? = some g2 ∨ (g2 ≠ b ∧ g2 ≠ g ∧ g2 ∉ gs)) : TL w' b (some g) (gs.set i g2) cap (ns.set i l') n' := by
 obtain ⟨h0, cs, e, h1, h2, h4⟩ := h.out g rfl
 obtain ⟨cs', e', q1, q2⟩ := hg
 rw [h1] at q1
 cases q1
 refine ⟨?_, by simpa using h.le, h.mx, by simp, fun g0 hg0 => ?_, by simp [h.len], ?_⟩
 ·obtain ⟨e, he⟩ := hb
  exact ⟨e, by rw [he]; simp [adr]⟩
 ·cases hg0
  refine ⟨h0, _, _, q2, by simpa using h2, fun j x l hj hl => ?_⟩
  ·rw [List.getElem?_set] at hj hl
   by_cases hij : i = j
   ·subst hij
    simp [h.len, hi] at hj hl
    subst hj; subst hl
    refine ⟨c2, ?_, hrow⟩
    have : i < cs.size := by have := h.le; omega
    simp [this]
   ·rw [if_neg hij] at hj hl
    obtain ⟨c, h5, h6⟩ := h4 j x l hj hl
    refine ⟨c, ?_, h6.loc (ho j x (Ne.symm hij) hj)⟩
    rw [Array.getElem?_setIfInBounds, if_neg hij]
    exact h5
 ·have hnd := h.nb
  simp only [Option.toList_some, List.cons_append, List.nil_append] at hnd ⊢
  rcases hg2 with hg2 | ⟨p1, p2, p3⟩
  ·have : gs.set i g2 = gs := by
    apply List.ext_getElem?
    intro j
    rw [List.getElem?_set]
    split
    ·rename_i hij; subst hij; rw [hg2]; simp; exact (List.getElem?_eq_some_iff.1 hg2).1
    ·rfl
   rw [this]
   exact hnd
  ·simp only [List.nodup_cons, List.mem_cons, not_or] at hnd ⊢
   obtain ⟨⟨a1, a2⟩, a3, a4⟩ := hnd
   refine ⟨⟨a1, fun hm => ?_⟩, fun hm => ?_, ?_⟩
   ·rcases List.mem_or_eq_of_mem_set hm with hm | hm
    ·exact a2 hm
    ·exact p1 hm.symm
   ·rcases List.mem_or_eq_of_mem_set hm with hm | hm
    ·exact a3 hm
    ·exact p2 hm.symm
   ·rw [List.Nodup, List.pairwise_iff_getElem] at a4 ⊢
    intro x y hx hy hxy
    rw [List.length_set] at hx hy
    simp only [List.getElem_set]
    have nm : ∀ z (hz : z < gs.length), gs[z] ≠ g2 := fun z hz q => p3 (q ▸ List.getElem_mem hz)
    split
    ·rw [if_neg (by omega)]
     exact fun q => nm y hy q.symm
    ·split
     ·exact nm x hx
     ·exact a4 x y hx hy hxy
end

end Go.Ev
