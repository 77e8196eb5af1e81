import Derived.Test.YtjpejkfhkbaakaaGreatChecked
import Derived.WalkKit
import Derived.Test.YtjpejkfhkbaakaaGreatM5
namespace Go.Ev
set_option maxRecDepth 100000
open Go
set_option linter.unusedSectionVars false
set_option linter.unnecessarySimpa false
open Nat (reduceEqDiff reduceAdd reduceSub reduceLT reduceLeDiff reduceMul)
set_option linter.unusedSimpArgs false
set_option linter.unusedVariables false
noncomputable def cell_split_pc : PC :=
  (.seq (.reg [p_a 1 (.box (.t 0)), p_a 2 (.new [(.r (.v (.int .i64 0))), (.r (.v (.int .i64 0)))]), p_a 3 (.new [(.r (.v (.int .i64 0))), (.r (.v (.int .i64 0)))])])
 (.seq (.reg [p_s 11 (.build [(.r (.v (.int .i64 0))), (.r (.v (.int .i64 0)))] [(0, 1, (o_i 2)), (1, 1, (o_i 1))]), p_c 12 1 167 [.t 11], p_m 10 12, p_s 13 (.ext (.t 10) 0),
 p_s 14 (.ext (.t 10) 1), p_a 4 (.new [(.r (.v (.int .i64 0))), (.r (.v (.int .i64 0)))]), ⟨none, none, 0, .act (.st 2 (.t 4) (.t 13))⟩, p_m 5 14])
 (.seq (.reg [p_s 16 (.ld (some 2) (.t 1)), p_s 17 (.ld (some 2) (.t 4)), p_c 18 2 52 [.t 16, .t 17], p_m 15 18, p_s 19 (.ext (.t 15) 0), p_s 20 (.ext (.t 15) 1), p_a 6 (.new [(.r (.v (.int .i64 0))), (.r (.v (.int .i64 0)))]),
 ⟨none, none, 0, .act (.st 2 (.t 6) (.t 19))⟩, p_m 7 20])
 (.seq (.reg [p_s 22 (.ld (some 2) (.t 6)), p_c 23 3 168 [(.t 22), (o_i 7)], p_m 21 23, p_s 24 (.ext (.t 21) 0), p_s 25 (.ext (.t 21) 1), ⟨none, none, 0, .act (.st 2 (.t 2) (.t 24))⟩])
 (.seq (.reg [p_s 27 (.ld (some 2) (.t 2)), p_s 28 (.build [(.r (.v (.int .i64 0))), (.r (.v (.int .i64 0)))] [(0, 1, (o_i 2)), (1, 1, (o_i 1))]), p_c 29 4 52 [.t 27, .t 28],
 p_m 26 29, p_s 30 (.ext (.t 26) 0), p_s 31 (.ext (.t 26) 1), p_a 8 (.new [(.r (.v (.int .i64 0))), (.r (.v (.int .i64 0)))]), ⟨none, none, 0, .act (.st 2 (.t 8) (.t 30))⟩,
 p_m 9 31])
 (.seq (.reg [p_s 33 (.ld (some 2) (.t 1)), p_s 34 (.ld (some 2) (.t 8)), p_c 35 5 180 [.t 33, .t 34], p_m 32 35, p_s 36 (.ext (.t 32) 0), p_s 37 (.ext (.t 32) 1), ⟨none, none, 0, .act (.st 2 (.t 3) (.t 36))⟩])
 (.seq (.drw [p_s 38 (.ld (some 2) (.t 2)), p_s 39 (.ld (some 2) (.t 3)), ⟨none, none, 0, .act (.st 2 (.t 2) (.t 38))⟩, ⟨none, none, 0, .act (.st 2 (.t 3) (.t 39))⟩]
 [[], [], [0], [0, 1, 2]])
 .ret)))))))
theorem cell_split_triple : Fun Go.Proofs.Tryz.prog 170 1 [(2, false, some (53, (some 2))), (3, false, some (53, (some 2)))] cell_split_pc := fun_mk Go.Proofs.Tryz.func170 rfl (by decide) (by kernel_rfl) (by decide) rfl (by kernel_rfl) (by kernel_rfl) (by decide)
noncomputable def cell_shape_pc : PC :=
  (.seq (.reg [p_a 1 (.box (.t 0)), p_s 2 (.mov (.c (.r (.v (.bool false)))))])
 (.seq (.reg [p_s 3 (.fa 0 (.t 1)), p_s 4 (.ld none (.t 3)), p_s 5 (.bin .geq (.t 4) (o_i 0)), p_m 6 5, p_g 7 6 true (.fa 0 (.t 1)), p_g 8 6 true (.ld none (.t 7)), p_g 9 6 true (.bin .leq (.t 8) (o_i 12)),
 p_s 10 (.pick (.t 6) (.t 9) (.c (.r (.v (.bool false))))), p_m 11 10, p_g 12 11 true (.fa 1 (.t 1)), p_g 13 11 true (.fa 0 (.t 12)), p_g 14 11 true (.ld none (.t 13)),
 ⟨(some 15), (some (11, true)), 1, .call 94 [(.t 14), (o_i 1073741824)]⟩, p_s 16 (.pick (.t 11) (.t 15) (.c (.r (.v (.bool false))))), p_m 17 16, p_g 18 17 true (.fa 1 (.t 1)),
 p_g 19 17 true (.fa 1 (.t 18)), p_g 20 17 true (.ld none (.t 19)), ⟨(some 21), (some (17, true)), 2, .call 94 [(.t 20), (o_i 1073741824)]⟩, p_s 22 (.pick (.t 17) (.t 21) (.c (.r (.v (.bool false))))),
 p_m 2 22])
 .ret))
theorem cell_shape_triple : Fun Go.Proofs.Tryz.prog 169 1 [(2, false, none)] cell_shape_pc := fun_mk Go.Proofs.Tryz.func169 rfl (by decide) (by kernel_rfl) (by decide) rfl (by kernel_rfl) (by kernel_rfl) (by decide)
noncomputable def cell_digit_pc : PC :=
  (.seq (.reg [p_a 1 (.box (.t 0)), p_s 2 (.mov (o_i 0))])
 (.seq (.seq (.reg [p_s 4 (.mov (o_i 0))])
 (.block 0 (.loop (.seq (.reg [p_s 5 (.bin .lss (.t 4) (o_i 6))])
 (.seq (.cond (.t 5)
 .skip
 (.exit 0))
 (.seq (.block 1 (.seq (.reg [p_m 6 4, p_m 3 6])
 (.seq (.drw [p_m 7 3, p_c 8 1 54 [.t 7], p_s 9 (.ld (some 2) (.t 1)), p_s 10 (.eqa false [0, 0] (.t 8) (.t 9))]
 [[], [0], [], [0, 1, 2]])
 (.cond (.t 10)
 (.seq (.reg [p_m 11 3, p_s 12 (.bin .add (.t 11) (o_i 1)), p_m 2 12])
 .ret)
 .skip))))
 (.reg [p_s 13 (.bin .add (.t 4) (o_i 1)), p_m 4 13])))))))
 (.seq (.reg [p_s 2 (.mov (o_i 0))])
 .ret)))
theorem cell_digit_triple : Fun Go.Proofs.Tryz.prog 171 1 [(2, false, none)] cell_digit_pc := fun_mk Go.Proofs.Tryz.func171 rfl (by decide) (by kernel_rfl) (by decide) rfl (by kernel_rfl) (by kernel_rfl) (by decide)
noncomputable def cell_Way_1_pc : PC :=
  (.seq (.reg [p_s 2 (.mov (.c (.r (.v (.bool false)))))])
 (.seq (.reg [p_m 3 0, p_s 4 (.bin .geq (.t 3) (o_i (-512))), p_m 5 4, p_g 6 5 true (.mov (.t 0)), p_g 7 5 true (.bin .lss (.t 6) (o_i 512)), p_s 8 (.pick (.t 5) (.t 7) (.c (.r (.v (.bool false))))),
 p_m 2 8])
 .ret))
theorem cell_Way_1_triple : Fun Go.Proofs.Tryz.prog 172 1 [(2, false, none)] cell_Way_1_pc := fun_mk Go.Proofs.Tryz.func172 rfl (by decide) (by kernel_rfl) (by decide) rfl (by kernel_rfl) (by kernel_rfl) (by decide)
noncomputable def cell_Way_pc : PC :=
  (.seq (.reg [p_a 1 (.box (.t 0)), p_a 2 (.new [(.r (.v (.int .i64 0))), (.r (.v (.int .i64 0)))]), p_a 3 (.new [(.r (.v (.int .i64 0))), (.r (.v (.int .i64 0))), (.r (.v (.int .i64 0))), (.r (.v (.int .i64 0))), (.r (.v (.int .i64 0))), (.r (.v (.int .i64 0))), (.r (.v (.int .i64 0))), (.r (.v (.int .i64 0))), (.r (.v (.int .i64 0))), (.r (.v (.int .i64 0))), (.r (.v (.int .i64 0))), (.r (.v (.int .i64 0))), (.r (.v (.int .i64 0)))]),
 p_s 4 (.mov (.c (.r (.v (.bool false)))))])
 (.seq (.seq (.reg [p_s 10 (.ld (some 3) (.t 1)), p_c 11 1 169 [.t 10], p_s 12 (.un .not (.t 11))])
 (.cond (.t 12)
 (.seq (.drw [p_s 13 (.ld (some 2) (.t 2)), p_s 14 (.ld (some 13) (.t 3)), ⟨none, none, 0, .act (.st 2 (.t 2) (.t 13))⟩, ⟨none, none, 0, .act (.st 13 (.t 3) (.t 14))⟩, p_s 4 (.mov (.c (.r (.v (.bool false)))))]
 [[], [], [0], [0, 1, 2], [0, 1, 2, 3]])
 .ret)
 .skip))
 (.seq (.reg [p_s 15 (.fa 1 (.t 1)), p_s 16 (.ld (some 2) (.t 15)), p_a 5 (.new [(.r (.v (.int .i64 0))), (.r (.v (.int .i64 0)))]), ⟨none, none, 0, .act (.st 2 (.t 5) (.t 16))⟩])
 (.seq (.seq (.reg [p_s 17 (.fa 0 (.t 1)), p_s 18 (.ld none (.t 17)), p_m 6 18])
 (.block 0 (.loop (.seq (.seq (.reg [p_m 19 6, p_s 20 (.bin .gtr (.t 19) (o_i 0))])
 (.cond (.t 20)
 .skip
 (.exit 0)))
 (.seq (.block 1 (.seq (.reg [p_s 24 (.ld (some 2) (.t 5)), p_c 25 2 170 [.t 24], p_m 23 25, p_s 26 (.ext (.t 23) 0), p_s 27 (.ext (.t 23) 1), p_a 7 (.new [(.r (.v (.int .i64 0))), (.r (.v (.int .i64 0)))]),
 p_a 8 (.new [(.r (.v (.int .i64 0))), (.r (.v (.int .i64 0)))]), ⟨none, none, 0, .act (.st 2 (.t 7) (.t 26))⟩, ⟨none, none, 0, .act (.st 2 (.t 8) (.t 27))⟩])
 (.drw [p_m 28 6, p_s 29 (.ld (some 2) (.t 8)), p_c 30 3 171 [.t 29], p_s 31 (.ld (some 2) (.t 7)), p_s 32 (.iaa 13 1 (.t 3) (.t 28)), ⟨none, none, 0, .act (.st 1 (.t 32) (.t 30))⟩,
 ⟨none, none, 0, .act (.st 2 (.t 5) (.t 31))⟩]
 [[], [], [1], [], [0, 1, 2], [0, 1, 2, 4], [0, 1, 2, 3, 4, 5]])))
 (.reg [p_m 21 6, p_s 22 (.bin .sub (.t 21) (o_i 1)), p_m 6 22]))))))
 (.seq (.reg [p_s 9 (.mov (.c (.fn (.func 172) [])))])
 (.seq (.drw [p_s 33 (.ld (some 2) (.t 5)), p_s 34 (.ld (some 13) (.t 3)), p_m 35 9, p_s 36 (.fa 0 (.t 5)), p_s 37 (.ld none (.t 36)), ⟨(some 38), none, 4, .callv (.t 35) [(.t 37)]⟩,
 p_m 39 38, p_g 40 39 true (.mov (.t 9)), p_g 41 39 true (.fa 1 (.t 5)), p_g 42 39 true (.ld none (.t 41)), ⟨(some 43), (some (39, true)), 5, .callv (.t 40) [(.t 42)]⟩,
 p_s 44 (.pick (.t 39) (.t 43) (.c (.r (.v (.bool false))))), ⟨none, none, 0, .act (.st 2 (.t 2) (.t 33))⟩, ⟨none, none, 0, .act (.st 13 (.t 3) (.t 34))⟩, p_m 4 44]
 [[], [], [], [], [3], [2, 3, 4], [2, 3, 4, 5], [2, 3, 4, 5, 6], [2, 3, 4, 5, 6], [2, 3, 4, 5, 6, 8], [2, 3, 4, 5, 6, 7, 8, 9], [2, 3, 4, 5, 6, 7, 8, 9, 10], [0, 2, 3, 4, 5, 6, 7, 8, 9, 10], [0, 1, 2, 3, 4, 5, 6, 7, 8, 9, 10, 12], [0, 1, 2, 3, 4, 5, 6, 7, 8, 9, 10, 11, 12, 13]])
 .ret))))))
theorem cell_Way_triple : Fun Go.Proofs.Tryz.prog 145 1 [(2, false, some (53, (some 2))), (3, false, some (189, (some 13))), (4, false, none)] cell_Way_pc := fun_mk Go.Proofs.Tryz.func145 rfl (by decide) (by kernel_rfl) (by decide) rfl (by kernel_rfl) (by kernel_rfl) (by decide)
noncomputable def cell_Ok_pc : PC :=
  (.seq (.reg [p_a 1 (.box (.t 0)), p_s 2 (.mov (.c (.r (.v (.bool false)))))])
 (.seq (.reg [p_s 7 (.ld (some 3) (.t 1)), p_c 8 1 145 [.t 7], p_m 6 8, p_s 9 (.ext (.t 6) 0), p_s 10 (.ext (.t 6) 1), p_s 11 (.ext (.t 6) 2), p_a 3 (.new [(.r (.v (.int .i64 0))), (.r (.v (.int .i64 0)))]),
 p_a 4 (.new [(.r (.v (.int .i64 0))), (.r (.v (.int .i64 0))), (.r (.v (.int .i64 0))), (.r (.v (.int .i64 0))), (.r (.v (.int .i64 0))), (.r (.v (.int .i64 0))), (.r (.v (.int .i64 0))), (.r (.v (.int .i64 0))), (.r (.v (.int .i64 0))), (.r (.v (.int .i64 0))), (.r (.v (.int .i64 0))), (.r (.v (.int .i64 0))), (.r (.v (.int .i64 0)))]),
 ⟨none, none, 0, .act (.st 2 (.t 3) (.t 9))⟩, ⟨none, none, 0, .act (.st 13 (.t 4) (.t 10))⟩, p_m 5 11])
 (.seq (.reg [p_m 12 5, p_m 2 12])
 .ret)))
theorem cell_Ok_triple : Fun Go.Proofs.Tryz.prog 115 1 [(2, false, none)] cell_Ok_pc := fun_mk Go.Proofs.Tryz.func115 rfl (by decide) (by kernel_rfl) (by decide) rfl (by kernel_rfl) (by kernel_rfl) (by decide)
noncomputable def cell_Of_pc : PC :=
  (.seq (.reg [p_a 6 (.new [(.r (.v (.int .i64 0))), (.r (.v (.int .i64 0))), (.r (.v (.int .i64 0)))]), p_s 7 (.mov (o_i 0))])
 (.seq (.seq (.reg [p_m 10 0, p_m 11 1, p_c 12 1 143 [.t 10, .t 11], p_s 13 (.un .not (.t 12))])
 (.cond (.t 13)
 (.seq (.reg [p_s 14 (.build [(.r (.v (.int .i64 0))), (.r (.v (.int .i64 0))), (.r (.v (.int .i64 0)))] []), ⟨none, none, 0, .act (.st 3 (.t 6) (.t 14))⟩, p_s 7 (.mov (o_i 4))])
 .ret)
 .skip))
 (.seq (.reg [p_m 16 0, p_m 17 1, p_m 18 2, p_c 19 2 144 [.t 16, .t 17, .t 18], p_m 15 19, p_s 20 (.ext (.t 15) 0), p_s 21 (.ext (.t 15) 1), p_a 8 (.new [(.r (.v (.int .i64 0))), (.r (.v (.int .i64 0)))]),
 ⟨none, none, 0, .act (.st 2 (.t 8) (.t 20))⟩, p_m 9 21])
 (.seq (.seq (.reg [p_m 22 9, p_s 23 (.un .not (.t 22))])
 (.cond (.t 23)
 (.seq (.reg [p_s 24 (.build [(.r (.v (.int .i64 0))), (.r (.v (.int .i64 0))), (.r (.v (.int .i64 0)))] []), ⟨none, none, 0, .act (.st 3 (.t 6) (.t 24))⟩, p_s 7 (.mov (o_i 1))])
 .ret)
 .skip))
 (.seq (.reg [p_m 25 2, p_s 26 (.ld (some 2) (.t 8)), p_s 27 (.build [(.r (.v (.int .i64 0))), (.r (.v (.int .i64 0))), (.r (.v (.int .i64 0)))] [(0, 1, (.t 25)), (1, 2, (.t 26))]),
 ⟨none, none, 0, .act (.st 3 (.t 6) (.t 27))⟩, p_s 7 (.mov (o_i 0))])
 .ret)))))
theorem cell_Of_triple : Fun Go.Proofs.Tryz.prog 110 3 [(6, false, some (59, (some 3))), (7, false, none)] cell_Of_pc := fun_mk Go.Proofs.Tryz.func110 rfl (by decide) (by kernel_rfl) (by decide) rfl (by kernel_rfl) (by kernel_rfl) (by decide)
theorem pr_In {z : Ei} {n : Int} (h : z.In n) (h1 : 2 ≤ n) : (pr z).In n := by
 obtain ⟨l, _, g1, e1, f1⟩ := pr_spec z
 generalize pr z = q at *
 unfold Ei.H at g1
 unfold Ei.In at *
 omega
theorem anc_In {z : Ei} {n : Int} (k : Nat) (h : z.In n) (h1 : 2 ≤ n) : (anc k z).In n := by
 induction k generalizing z with
 | zero => exact h
 | succ k ih => exact ih (pr_In h h1)
theorem lft_In (z : Ei) : (lft z).In 1 := by
 obtain ⟨l, e, g1, _⟩ := pr_spec z
 rw [e]
 exact g1.in
theorem split_t (z : Ei) (h : z.In 1073741824) : Triple Go.Proofs.Tryz.prog 170 [z.v] [] (.tup [(pr z).v, (lft z).v]) [] := by
 refine cell_split_triple rfl (by decide) ?_
 simp only [cell_split_pc, Ei.v, Ei.rv, List.length_nil, push_cast, ↓reduceIte, reduceCtorEq, Nat.reduceBEq, reduceEqDiff, reduceAdd, reduceSub, reduceLT, reduceLeDiff, reduceMul]
 refine call_as (as' := [beta.v]) rfl ?_
 refine call_mk (econj_t beta (by unfold Ei.In; decide)) rfl trivial ?_
 simp only [Ei.v, Ei.rv, push_cast, ↓reduceIte, reduceCtorEq, Nat.reduceBEq, reduceEqDiff, reduceAdd, reduceSub, reduceLT, reduceLeDiff, reduceMul]
 have h1 : (z.mul ⟨3, -1⟩).In 9663676416 := (mul_In h (show (⟨3, -1⟩ : Ei).In 3 by unfold Ei.In; decide)).mono (by decide)
 refine call_as (as' := [z.v, Ei.v ⟨3, -1⟩]) rfl ?_
 refine call_mk (emul_t _ _ (h.mono (by decide)) (show (⟨3, -1⟩ : Ei).In _ by unfold Ei.In; decide) (h1.mono (by decide))) rfl trivial ?_
 simp only [Ei.v, Ei.rv, push_cast, ↓reduceIte, reduceCtorEq, Nat.reduceBEq, reduceEqDiff, reduceAdd, reduceSub, reduceLT, reduceLeDiff, reduceMul]
 refine call_as (as' := [(z.mul ⟨3, -1⟩).v, int .i64 7]) rfl ?_
 refine call_mk (eround_t _ 7 (h1.mono (by decide)) (by decide)) rfl trivial ?_
 rw [show (z.mul ⟨3, -1⟩).round 7 = pr z from rfl]
 have h2 : (pr z).In 1073741824 := pr_In h (by decide)
 have h3 : ((pr z).mul beta).In 6442450944 := (mul_In h2 (show beta.In 2 by unfold Ei.In; decide)).mono (by decide)
 simp only [Ei.v, Ei.rv, push_cast, ↓reduceIte, reduceCtorEq, Nat.reduceBEq, reduceEqDiff, reduceAdd, reduceSub, reduceLT, reduceLeDiff, reduceMul]
 refine call_as (as' := [(pr z).v, beta.v]) rfl ?_
 refine call_mk (emul_t _ _ (h2.mono (by decide)) (show beta.In _ by unfold Ei.In; decide) (h3.mono (by decide))) rfl trivial ?_
 simp only [Ei.v, Ei.rv, push_cast, ↓reduceIte, reduceCtorEq, Nat.reduceBEq, reduceEqDiff, reduceAdd, reduceSub, reduceLT, reduceLeDiff, reduceMul]
 refine call_as (as' := [z.v, ((pr z).mul beta).v]) rfl ?_
 refine call_mk (esub_t _ _ (h.mono (by decide)) (h3.mono (by decide)) ((lft_In z).mono (by decide))) rfl trivial ?_
 rw [show z.sub ((pr z).mul beta) = lft z from rfl]
 simp only [Ei.v, Ei.rv, push_cast, ↓reduceIte, reduceCtorEq, Nat.reduceBEq, reduceEqDiff, reduceAdd, reduceSub, reduceLT, reduceLeDiff, reduceMul]
 kernel_rfl
def cel (r : Int) (z : Ei) : AV := .r (.agg [.v (.int .i64 r), .v (.int .i64 z.a), .v (.int .i64 z.b)])
instance (z : Ei) (n : Int) : Decidable (z.In n) := inferInstanceAs (Decidable (_ ∧ _))
def shapeB (r : Int) (z : Ei) : Bool := decide ((0 ≤ r ∧ r ≤ 12) ∧ z.In 1073741824)
theorem shape_t (r : Int) (z : Ei) (hz : z.In M63) : Triple Go.Proofs.Tryz.prog 169 [cel r z] [] (bl (shapeB r z)) [] := by
 refine cell_shape_triple rfl (by decide) ?_
 simp only [cell_shape_pc, cel, List.length_nil, push_cast, ↓reduceIte, reduceCtorEq, Nat.reduceBEq, reduceEqDiff, reduceAdd, reduceSub, reduceLT, reduceLeDiff, reduceMul]
 by_cases h1 : 0 ≤ r
 ·by_cases h2 : r ≤ 12
  ·have g1 : decide (r ≥ 0) = true := by simp; omega
   have g2 : decide (r ≤ 12) = true := by simp; omega
   simp only [g1, g2, push_cast, ↓reduceIte, reduceCtorEq, Nat.reduceBEq, reduceEqDiff, reduceAdd, reduceSub, reduceLT, reduceLeDiff, reduceMul]
   refine call_mk (within_t _ _ hz.ok.1 (by decide)) rfl trivial ?_
   by_cases h3 : -1073741824 ≤ z.a ∧ z.a ≤ 1073741824
   ·rw [decide_eq_true h3]
    simp only [push_cast, ↓reduceIte, reduceCtorEq, Nat.reduceBEq, reduceEqDiff, reduceAdd, reduceSub, reduceLT, reduceLeDiff, reduceMul]
    refine call_mk (within_t _ _ hz.ok.2 (by decide)) rfl trivial ?_
    simp only [push_cast, ↓reduceIte, reduceCtorEq, Nat.reduceBEq, reduceEqDiff, reduceAdd, reduceSub, reduceLT, reduceLeDiff, reduceMul]
    refine bl_iff ?_
    simp [shapeB, Ei.In, h1, h2, h3.1, h3.2]
   ·rw [decide_eq_false h3]
    simp only [push_cast, ↓reduceIte, reduceCtorEq, Nat.reduceBEq, reduceEqDiff, reduceAdd, reduceSub, reduceLT, reduceLeDiff, reduceMul]
    have : shapeB r z = false := by simp only [shapeB, Ei.In]; exact decide_eq_false fun c => h3 c.2.1
    rw [this]
  ·have g1 : decide (r ≥ 0) = true := by simp; omega
   have g2 : decide (r ≤ 12) = false := by simp; omega
   simp only [g1, g2, push_cast, ↓reduceIte, reduceCtorEq, Nat.reduceBEq, reduceEqDiff, reduceAdd, reduceSub, reduceLT, reduceLeDiff, reduceMul]
   have : shapeB r z = false := by simp only [shapeB, decide_eq_false_iff_not]; omega
   rw [this]
 ·have g1 : decide (r ≥ 0) = false := by simp; omega
  simp only [g1, push_cast, ↓reduceIte, reduceCtorEq, Nat.reduceBEq, reduceEqDiff, reduceAdd, reduceSub, reduceLT, reduceLeDiff, reduceMul]
  have : shapeB r z = false := by simp only [shapeB, decide_eq_false_iff_not]; omega
  rw [this]
theorem dgOf_uni (i : Nat) (h : i < 6) : dgOf (uni i) = i + 1 := by
 rcases lt6 h with rfl | rfl | rfl | rfl | rfl | rfl <;> decide
theorem dgOf_no (l : Ei) (h : ∀ j : Nat, j < 6 → uni j ≠ l) : dgOf l = 0 := by
 have h0 := h 0 (by decide); have h1 := h 1 (by decide); have h2 := h 2 (by decide); have h3 := h 3 (by decide); have h4 := h 4 (by decide); have h5 := h 5 (by decide)
 unfold dgOf
 rw [if_neg (show ¬ l = ⟨1, 0⟩ from Ne.symm h0), if_neg (show ¬ l = ⟨0, 1⟩ from Ne.symm h1), if_neg (show ¬ l = ⟨-1, 1⟩ from Ne.symm h2), if_neg (show ¬ l = ⟨-1, 0⟩ from Ne.symm h3), if_neg (show ¬ l = ⟨0, -1⟩ from Ne.symm h4), if_neg (show ¬ l = ⟨1, -1⟩ from Ne.symm h5)]
theorem digit_t (l : Ei) : Triple Go.Proofs.Tryz.prog 171 [l.v] [] (int .i64 (dgOf l)) [] := by
 refine cell_digit_triple rfl (by decide) ?_
 simp only [cell_digit_pc, Ei.v, Ei.rv, List.length_nil, push_cast, ↓reduceIte, reduceCtorEq, Nat.reduceBEq, reduceEqDiff, reduceAdd, reduceSub, reduceLT, reduceLeDiff, reduceMul]
 refine run_loop [(4, false), (1, false)] (fun vs pos los => ∃ i : Int, (0 ≤ i ∧ i ≤ 6) ∧ (∀ j : Nat, (j : Int) < i → uni j ≠ l) ∧ vs = [int .i64 i, .ptr 2000000 0 0] ∧ pos = [] ∧ los = [.box [int .i64 l.a, int .i64 l.b]])
  (fun vs _ _ => match vs with | .r (.v (.int _ j)) :: _ => (6 - j).toNat | _ => 0) rfl ?_ ?_
 ·simp only [push_cast, ↓reduceIte, reduceCtorEq, Nat.reduceBEq, reduceEqDiff, reduceAdd, reduceSub, reduceLT, reduceLeDiff, reduceMul]
  exact ⟨0, by omega, fun j hj => by omega, rfl⟩
 ·rintro vs pos los ⟨i, i6, hj, rfl, rfl, rfl⟩
  simp only [push_cast, ↓reduceIte, reduceCtorEq, Nat.reduceBEq, reduceEqDiff, reduceAdd, reduceSub, reduceLT, reduceLeDiff, reduceMul]
  refine cnd_mk (fun h => ?_) (fun h => ?_)
  ·simp only [decide_eq_true_eq] at h
   simp only [push_cast, ↓reduceIte, reduceCtorEq, Nat.reduceBEq, reduceEqDiff, reduceAdd, reduceSub, reduceLT, reduceLeDiff, reduceMul]
   refine dcall_mk (eunit_t i ⟨i6.1, h⟩) rfl trivial ?_
   simp only [Ei.v, Ei.rv, push_cast, ↓reduceIte, reduceCtorEq, Nat.reduceBEq, reduceEqDiff, reduceAdd, reduceSub, reduceLT, reduceLeDiff, reduceMul]
   refine ⟨by kernel_rfl, cnd_mk (fun h' => ?_) (fun h' => ?_)⟩
   ·have e : uni i.toNat = l := by
     simp only [Bool.and_eq_true, beq_iff_eq] at h'
     exact Ei.ext' h'.1 h'.2
    simp only [push_cast, ↓reduceIte, reduceCtorEq, Nat.reduceBEq, reduceEqDiff, reduceAdd, reduceSub, reduceLT, reduceLeDiff, reduceMul]
    rw [← e, dgOf_uni _ (by omega), wrap_id (by omega), show ((i.toNat + 1 : Nat) : Int) = i + 1 by omega]
   ·have e : uni i.toNat ≠ l := fun e => by rw [e] at h'; simp at h'
    simp only [push_cast, ↓reduceIte, reduceCtorEq, Nat.reduceBEq, reduceEqDiff, reduceAdd, reduceSub, reduceLT, reduceLeDiff, reduceMul]
    rw [wrap_id (by omega)]
    refine ⟨⟨i + 1, by omega, fun j hj' => ?_, rfl⟩, by omega⟩
    by_cases hji : (j : Int) = i
    ·rw [show j = i.toNat by omega]; exact e
    ·exact hj j (by omega)
  ·have hi : i = 6 := by simp at h; omega
   subst hi
   simp only [push_cast, ↓reduceIte, reduceCtorEq, Nat.reduceBEq, reduceEqDiff, reduceAdd, reduceSub, reduceLT, reduceLeDiff, reduceMul]
   rw [dgOf_no l fun j h6 => hj j (by omega)]
   rfl
theorem in_t (n : Int) : Triple Go.Proofs.Tryz.prog 172 [int .i64 n] [] (bl (decide (-512 ≤ n ∧ n ≤ 511))) [] := by
 refine cell_Way_1_triple rfl (by decide) ?_
 simp only [cell_Way_1_pc, List.length_nil, push_cast, ↓reduceIte, reduceCtorEq, Nat.reduceBEq, reduceEqDiff, reduceAdd, reduceSub, reduceLT, reduceLeDiff, reduceMul]
 refine bl_iff ?_
 by_cases h1 : -512 ≤ n <;> by_cases h2 : n < 512 <;> simp [h1, h2] <;> omega
def digs (r : Nat) (z : Ei) (i : Nat) : List AV := (List.range 13).map fun j => int .i64 (if i < j ∧ j ≤ r then (dg (anc (r - j) z) : Int) else 0)
theorem digs_len (r : Nat) (z : Ei) (i : Nat) : (digs r z i).length = 13 := by simp [digs]
theorem digs_zero (r : Nat) (z : Ei) : digs r z r = [int .i64 0, int .i64 0, int .i64 0, int .i64 0, int .i64 0, int .i64 0, int .i64 0, int .i64 0, int .i64 0, int .i64 0, int .i64 0, int .i64 0, int .i64 0] := by
 have : ∀ j, ¬ (r < j ∧ j ≤ r) := fun j => by omega
 simp only [digs, this, if_false]
 rfl
theorem digs_step (r : Nat) (z : Ei) (i : Nat) (h1 : 1 ≤ i) (h2 : i ≤ r) (hr : r ≤ 12) : splice (digs r z i) i [int .i64 (dg (anc (r - i) z))] = digs r z (i - 1) := by
 have hl := digs_len r z i
 apply List.ext_getElem
 ·simp [splice, hl, digs_len]; omega
 ·intro j j1 j2
  rw [digs_len] at j2
  have e : ∀ (k : Nat) (hk : k < (digs r z i).length), (digs r z i)[k] = int .i64 (if i < k ∧ k ≤ r then (dg (anc (r - k) z) : Int) else 0) := fun k hk => by simp [digs]
  have e' : ∀ (k : Nat) (hk : k < (digs r z (i - 1)).length), (digs r z (i - 1))[k] = int .i64 (if i - 1 < k ∧ k ≤ r then (dg (anc (r - k) z) : Int) else 0) := fun k hk => by simp [digs]
  rw [e']
  have hm : min i 13 = i := by omega
  simp only [splice, List.getElem_append, List.length_append, List.length_take, List.length_singleton, hl, List.getElem_take, List.getElem_drop, e, hm]
  by_cases c1 : j < i
  ·rw [dif_pos (by omega), dif_pos c1, if_neg (by omega), if_neg (by omega)]
  ·by_cases c2 : j = i
   ·subst c2
    rw [dif_pos (by omega), dif_neg (by omega), if_pos (by omega)]
    simp
   ·rw [dif_neg (by omega)]
    rw [show i + 1 + (j - (i + 1)) = j by omega]
    by_cases c3 : j ≤ r
    ·rw [if_pos (by omega), if_pos (by omega)]
    ·rw [if_neg (by omega), if_neg (by omega)]
theorem hidL_ints (f : Nat → Int) (l : List Nat) : hidL (l.map fun j => int .i64 (f j)) = [] := by
 induction l with
 | nil => rfl
 | cons a l ih => show hids _ ++ hidL _ = []; rw [ih]; rfl
theorem imL_ints (F : Ren) (f : Nat → Int) (l : List Nat) : imL F (l.map fun j => int .i64 (f j)) = l.map fun j => int .i64 (f j) := by
 induction l with
 | nil => rfl
 | cons a l ih => show imV F _ :: imL F _ = _; rw [ih]; rfl
theorem hidL_digs (r : Nat) (z : Ei) (i : Nat) : hidL (digs r z i) = [] := hidL_ints _ _
theorem imL_digs (F : Ren) (r : Nat) (z : Ei) (i : Nat) : imL F (digs r z i) = digs r z i := imL_ints F _ _
theorem take_digs (r : Nat) (z : Ei) (i : Nat) : List.take 13 (digs r z i) = digs r z i := List.take_of_length_le (by rw [digs_len]; exact Nat.le_refl _)
def digsR (r : Nat) (z : Ei) (i : Nat) : List RV := (List.range 13).map fun j => .v (.int .i64 (if i < j ∧ j ≤ r then (dg (anc (r - j) z) : Int) else 0))
theorem rvs_ints (ob : Obs) (f : Nat → Int) (l : List Nat) : rvs ob (l.map fun j => int .i64 (f j)) = some (l.map fun j => .v (.int .i64 (f j)), []) := by
 induction l with
 | nil => rfl
 | cons a l ih => show rvs ob (_ :: _) = _; simp only [rvs, AV.rv, ih]; rfl
theorem rvs_digs (ob : Obs) (r : Nat) (z : Ei) (i : Nat) : rvs ob (digs r z i) = some (digsR r z i, []) := rvs_ints ob _ _
theorem over_digs (r : Nat) (z : Ei) (i : Nat) : digs r z i ++ List.drop 13 (digs r z i) = digs r z i := by
 rw [List.drop_of_length_le (by rw [digs_len]; exact Nat.le_refl _), List.append_nil]
attribute [push_cast high] rvs_digs over_digs
attribute [push_cast high] hidL_digs imL_digs take_digs digs_len
theorem digs_put (r : Nat) (z : Ei) (i : Nat) (h1 : 1 ≤ i) (h2 : i ≤ r) (hr : r ≤ 12) : List.take (0 + i * 1) (digs r z i) ++ [int .i64 (dgOf (lft (anc (r - i) z)))] ++ List.drop (0 + i * 1 + 1) (digs r z i) = digs r z (i - 1) := by
 rw [← digs_step r z i h1 h2 hr, splice, Nat.mul_one, Nat.zero_add]
 rfl
def baseB (q : Ei) : Bool := decide ((-512 ≤ q.a ∧ q.a ≤ 511) ∧ (-512 ≤ q.b ∧ q.b ≤ 511))
theorem way_t (r : Int) (z : Ei) (h : shapeB r z = true) : Triple Go.Proofs.Tryz.prog 145 [cel r z] [] (.tup [(anc r.toNat z).v, .r (.agg (digsR r.toNat z 0)), bl (baseB (anc r.toNat z))]) [] := by
 refine cell_Way_triple rfl (by decide) ?_
 have h' := h
 simp only [shapeB, decide_eq_true_eq] at h'
 simp only [cell_Way_pc, cel, List.length_nil, push_cast, ↓reduceIte, reduceCtorEq, Nat.reduceBEq, reduceEqDiff, reduceAdd, reduceSub, reduceLT, reduceLeDiff, reduceMul]
 refine call_as (as' := [cel r z]) rfl ?_
 refine call_mk (shape_t r z (h'.2.mono (by decide))) rfl trivial ?_
 rw [h]
 simp only [push_cast, ↓reduceIte, reduceCtorEq, Nat.reduceBEq, reduceEqDiff, reduceAdd, reduceSub, reduceLT, reduceLeDiff, reduceMul]
 obtain ⟨⟨r0, r12⟩, hz⟩ := h'
 refine run_loop [(6, false), (5, false), (3, false), (2, false)] (fun vs pos los => ∃ i : Int, (0 ≤ i ∧ i ≤ r) ∧ vs = [int .i64 i, .ptr 2000000 0 0, .ptr 2000001 0 0, .ptr 2000002 0 0] ∧ pos = [] ∧ los = [.box [int .i64 (anc (r - i).toNat z).a, int .i64 (anc (r - i).toNat z).b], .box (digs r.toNat z i.toNat), .box [int .i64 0, int .i64 0]])
  (fun vs _ _ => match vs with | .r (.v (.int _ j)) :: _ => j.toNat | _ => 0) rfl ?_ ?_
 ·simp only [push_cast, ↓reduceIte, reduceCtorEq, Nat.reduceBEq, reduceEqDiff, reduceAdd, reduceSub, reduceLT, reduceLeDiff, reduceMul]
  refine ⟨r, by omega, ?_⟩
  rw [digs_zero, Int.sub_self]
  exact ⟨rfl, rfl⟩
 ·rintro vs pos los ⟨i, i6, rfl, rfl, rfl⟩
  simp only [push_cast, ↓reduceIte, reduceCtorEq, Nat.reduceBEq, reduceEqDiff, reduceAdd, reduceSub, reduceLT, reduceLeDiff, reduceMul]
  refine cnd_mk (fun h => ?_) (fun h => ?_)
  ·simp only [decide_eq_true_eq] at h
   simp only [push_cast, ↓reduceIte, reduceCtorEq, Nat.reduceBEq, reduceEqDiff, reduceAdd, reduceSub, reduceLT, reduceLeDiff, reduceMul]
   have ha := anc_In (r - i).toNat hz (by decide)
   refine call_as (as' := [(anc (r - i).toNat z).v]) rfl ?_
   refine call_mk (split_t _ ha) rfl trivial ?_
   simp only [Ei.v, Ei.rv, push_cast, ↓reduceIte, reduceCtorEq, Nat.reduceBEq, reduceEqDiff, reduceAdd, reduceSub, reduceLT, reduceLeDiff, reduceMul]
   refine dcall_as (as' := [(lft (anc (r - i).toNat z)).v]) rfl ?_
   refine dcall_mk (digit_t _) rfl trivial ?_
   have hst := digs_put r.toNat z i.toNat (by omega) (by omega) (by omega)
   rw [show r.toNat - i.toNat = (r - i).toNat by omega] at hst
   have hpr : pr (anc (r - i).toNat z) = anc (r - (i - 1)).toNat z := by rw [← anc_succ, show (r - i).toNat + 1 = (r - (i - 1)).toNat by omega]
   simp only [Ei.v, Ei.rv, hst, push_cast, ↓reduceIte, reduceCtorEq, Nat.reduceBEq, reduceEqDiff, reduceAdd, reduceSub, reduceLT, reduceLeDiff, reduceMul]
   rw [show IntKind.i64.wrap (i - 1) = i - 1 from wrap_id (by omega), hpr]
   refine ⟨by omega, by omega, by kernel_rfl, ⟨i - 1, by omega, rfl, ?_⟩, by omega⟩
   rw [show (i - 1).toNat = i.toNat - 1 by omega]
  ·have hi : i = 0 := by simp at h; omega
   subst hi
   have ha := anc_In r.toNat hz (by decide)
   simp only [push_cast, ↓reduceIte, reduceCtorEq, Nat.reduceBEq, reduceEqDiff, reduceAdd, reduceSub, reduceLT, reduceLeDiff, reduceMul]
   rw [show (r - 0).toNat = r.toNat by omega, show Int.toNat 0 = 0 from rfl]
   refine ⟨by kernel_rfl, ?_⟩
   refine dcall_mk (in_t _) rfl trivial ?_
   by_cases c : -512 ≤ (anc r.toNat z).a ∧ (anc r.toNat z).a ≤ 511
   ·rw [decide_eq_true c]
    simp only [push_cast, ↓reduceIte, reduceCtorEq, Nat.reduceBEq, reduceEqDiff, reduceAdd, reduceSub, reduceLT, reduceLeDiff, reduceMul]
    refine ⟨by kernel_rfl, ?_⟩
    refine dcall_mk (in_t _) rfl trivial ?_
    simp only [Ei.v, Ei.rv, push_cast, ↓reduceIte, reduceCtorEq, Nat.reduceBEq, reduceEqDiff, reduceAdd, reduceSub, reduceLT, reduceLeDiff, reduceMul]
    refine ⟨by kernel_rfl, ?_⟩
    simp [baseB, c.1, c.2]
    kernel_rfl
   ·rw [decide_eq_false c]
    simp only [Ei.v, Ei.rv, push_cast, ↓reduceIte, reduceCtorEq, Nat.reduceBEq, reduceEqDiff, reduceAdd, reduceSub, reduceLT, reduceLeDiff, reduceMul]
    refine ⟨by kernel_rfl, ?_⟩
    simp only [baseB, c, false_and, decide_false]
    exact ⟨by kernel_rfl, trivial⟩
def okB' (r : Int) (z : Ei) : Bool := shapeB r z && baseB (anc r.toNat z)
theorem okc_B {r : Int} {z : Ei} (h0 : 0 ≤ r) (h : okc r.toNat z) : shapeB r z = true ∧ baseB (anc r.toNat z) = true := by
 obtain ⟨h1, h2, h3, h4⟩ := h
 simp only [shapeB, baseB, decide_eq_true_eq]
 exact ⟨⟨⟨h0, by omega⟩, h2⟩, h3, h4⟩
theorem cok_t (r : Int) (z : Ei) (h0 : 0 ≤ r) (h : okc r.toNat z) : Triple Go.Proofs.Tryz.prog 115 [cel r z] [] (bl true) [] := by
 refine cell_Ok_triple rfl (by decide) ?_
 simp only [cell_Ok_pc, cel, List.length_nil, push_cast, ↓reduceIte, reduceCtorEq, Nat.reduceBEq, reduceEqDiff, reduceAdd, reduceSub, reduceLT, reduceLeDiff, reduceMul]
 refine call_as (as' := [cel r z]) rfl ?_
 refine call_mk (way_t r z (okc_B h0 h).1) rfl trivial ?_
 rw [(okc_B h0 h).2]
 simp only [Ei.v, Ei.rv, push_cast, ↓reduceIte, reduceCtorEq, Nat.reduceBEq, reduceEqDiff, reduceAdd, reduceSub, reduceLT, reduceLeDiff, reduceMul]
 refine ⟨by simp [digsR], ?_⟩
 simp only [digsR, List.map_map, List.all_map]
 rw [List.all_eq_true]
 intro x hx
 rfl
theorem cof_t (x y r : Int) (h : inW x y) (hr : 0 ≤ r ∧ r ≤ 12) : Triple Go.Proofs.Tryz.prog 110 [int .i64 x, int .i64 y, int .i64 r] [] (.tup [cel r (near x y r.toNat), int .i64 0]) [] := by
 refine cell_Of_triple rfl (by decide) ?_
 simp only [cell_Of_pc, cel, List.length_nil, push_cast, ↓reduceIte, reduceCtorEq, Nat.reduceBEq, reduceEqDiff, reduceAdd, reduceSub, reduceLT, reduceLeDiff, reduceMul]
 refine call_mk (pok_t x y) rfl trivial ?_
 rw [decide_eq_true h]
 simp only [push_cast, ↓reduceIte, reduceCtorEq, Nat.reduceBEq, reduceEqDiff, reduceAdd, reduceSub, reduceLT, reduceLeDiff, reduceMul]
 refine call_mk (near_t x y r h hr) rfl trivial ?_
 simp only [Ei.v, Ei.rv, push_cast, ↓reduceIte, reduceCtorEq, Nat.reduceBEq, reduceEqDiff, reduceAdd, reduceSub, reduceLT, reduceLeDiff, reduceMul]

theorem or_high {a b k : Nat} (h : a < 2 ^ k) : a ||| b * 2 ^ k = b * 2 ^ k + a := by
 rw [Nat.or_comm, ← Nat.shiftLeft_eq, Nat.shiftLeft_add_eq_or_of_lt h]
theorem p8 (n : Nat) : 0 < 8 ^ n := Nat.pow_pos (by decide)
def wordI (r : Nat) (z : Ei) (i : Nat) : Nat := ((8 ^ i - 1) * 8 ^ (r - i) + val (r - i) z) * 8 ^ (12 - r) + (8 ^ (12 - r) - 1)

noncomputable def plane_Width_pc : PC :=
  (.seq (.reg [p_s 2 (.mov (o_i 0)), p_s 3 (.mov (.c (.r (.v (.bool false)))))])
 (.seq (.seq (.reg [p_m 6 0, p_c 7 1 74 [.t 6], p_s 8 (.un .not (.t 7))])
 (.cond (.t 8)
 (.seq (.reg [p_s 2 (.mov (o_i 0)), p_s 3 (.mov (.c (.r (.v (.bool false)))))])
 .ret)
 .skip))
 (.seq (.reg [p_m 10 0, p_s 11 (.bin .sub (o_i 12) (.t 10)), p_c 12 2 75 [(o_i 7), (.t 11)], p_m 9 12, p_s 13 (.ext (.t 9) 0), p_s 14 (.ext (.t 9) 1), p_m 4 13, p_m 5 14])
 (.seq (.reg [p_m 15 4, p_s 16 (.bin .mul (o_i 169) (.t 15)), p_m 2 16, p_s 3 (.mov (.c (.r (.v (.bool true)))))])
 .ret))))
theorem plane_Width_triple : Fun Go.Proofs.Tryz.prog 38 1 [(2, false, none), (3, false, none)] plane_Width_pc := fun_mk Go.Proofs.Tryz.func38 rfl (by decide) (by kernel_rfl) (by decide) rfl (by kernel_rfl) (by kernel_rfl) (by decide)
noncomputable def apiaryref1_Seven_pc : PC :=
  (.seq (.reg [p_s 2 (.mov (o_i 0))])
 (.seq (.reg [p_m 6 0, p_c 7 1 78 [(o_i 7), (.t 6)], p_m 5 7, p_s 8 (.ext (.t 5) 0), p_s 9 (.ext (.t 5) 1), p_m 3 8, p_m 4 9])
 (.seq (.reg [p_m 10 3, p_m 2 10])
 .ret)))
theorem apiaryref1_Seven_triple : Fun Go.Proofs.Tryz.prog 43 1 [(2, false, none)] apiaryref1_Seven_pc := fun_mk Go.Proofs.Tryz.func43 rfl (by decide) (by kernel_rfl) (by decide) rfl (by kernel_rfl) (by kernel_rfl) (by decide)
noncomputable def apiaryref9_shift_pc : PC :=
  (.seq (.reg [p_s 2 (.mov (o_i 0))])
 (.seq (.reg [p_m 3 0, p_s 4 (.bin .shl (o_i 1) (.t 3)), p_m 2 4])
 .ret))
theorem apiaryref9_shift_triple : Fun Go.Proofs.Tryz.prog 44 1 [(2, false, none)] apiaryref9_shift_pc := fun_mk Go.Proofs.Tryz.func44 rfl (by decide) (by kernel_rfl) (by decide) rfl (by kernel_rfl) (by kernel_rfl) (by decide)
noncomputable def apiaryref9_tile_pc : PC :=
  (.seq (.reg [p_a 1 (.box (.t 0)), p_s 2 (.mov (.c (.r (.v (.bool false)))))])
 (.seq (.drw [p_s 3 (.fa 0 (.t 1)), p_s 4 (.ld none (.t 3)), p_s 5 (.bin .geq (.t 4) (o_i 0)), p_m 6 5, p_g 7 6 true (.fa 0 (.t 1)), p_g 8 6 true (.ld none (.t 7)), p_g 9 6 true (.bin .leq (.t 8) (o_i 18)),
 p_s 10 (.pick (.t 6) (.t 9) (.c (.r (.v (.bool false))))), p_m 11 10, p_g 12 11 true (.fa 1 (.t 1)), p_g 13 11 true (.ld none (.t 12)), p_g 14 11 true (.bin .geq (.t 13) (o_i 0)),
 p_s 15 (.pick (.t 11) (.t 14) (.c (.r (.v (.bool false))))), p_m 16 15, p_g 17 16 true (.fa 1 (.t 1)), p_g 18 16 true (.ld none (.t 17)), p_g 19 16 true (.fa 0 (.t 1)),
 p_g 20 16 true (.ld none (.t 19)), ⟨(some 21), (some (16, true)), 1, .call 44 [(.t 20)]⟩, p_g 22 16 true (.bin .lss (.t 18) (.t 21)), p_s 23 (.pick (.t 16) (.t 22) (.c (.r (.v (.bool false))))),
 p_m 24 23, p_g 25 24 true (.fa 2 (.t 1)), p_g 26 24 true (.ld none (.t 25)), p_g 27 24 true (.bin .geq (.t 26) (o_i 0)), p_s 28 (.pick (.t 24) (.t 27) (.c (.r (.v (.bool false))))),
 p_m 29 28, p_g 30 29 true (.fa 2 (.t 1)), p_g 31 29 true (.ld none (.t 30)), p_g 32 29 true (.fa 0 (.t 1)), p_g 33 29 true (.ld none (.t 32)), ⟨(some 34), (some (29, true)), 2, .call 44 [(.t 33)]⟩,
 p_g 35 29 true (.bin .lss (.t 31) (.t 34)), p_s 36 (.pick (.t 29) (.t 35) (.c (.r (.v (.bool false))))), p_m 37 36, p_g 38 37 true (.fa 3 (.t 1)), p_g 39 37 true (.ld none (.t 38)),
 p_g 40 37 true (.bin .geq (.t 39) (o_i 0)), p_s 41 (.pick (.t 37) (.t 40) (.c (.r (.v (.bool false))))), p_m 42 41, p_g 43 42 true (.fa 3 (.t 1)), p_g 44 42 true (.ld none (.t 43)),
 p_g 45 42 true (.bin .leq (.t 44) (o_i 12)), p_s 46 (.pick (.t 42) (.t 45) (.c (.r (.v (.bool false))))), p_m 2 46]
 [[], [0], [0, 1], [0, 1, 2], [0, 1, 2, 3], [0, 1, 2, 3, 4], [0, 1, 2, 3, 4, 5], [0, 1, 2, 3, 4, 5, 6], [0, 1, 2, 3, 4, 5, 6, 7], [0, 1, 2, 3, 4, 5, 6, 7, 8], [0, 1, 2, 3, 4, 5, 6, 7, 8, 9], [0, 1, 2, 3, 4, 5, 6, 7, 8, 9, 10], [0, 1, 2, 3, 4, 5, 6, 7, 8, 9, 10, 11], [0, 1, 2, 3, 4, 5, 6, 7, 8, 9, 10, 11, 12], [0, 1, 2, 3, 4, 5, 6, 7, 8, 9, 10, 11, 12, 13], [0, 1, 2, 3, 4, 5, 6, 7, 8, 9, 10, 11, 12, 13, 14], [0, 1, 2, 3, 4, 5, 6, 7, 8, 9, 10, 11, 12, 13], [0, 1, 2, 3, 4, 5, 6, 7, 8, 9, 10, 11, 12, 13, 16], [0, 1, 2, 3, 4, 5, 6, 7, 8, 9, 10, 11, 12, 13, 16, 17], [0, 1, 2, 3, 4, 5, 6, 7, 8, 9, 10, 11, 12, 13, 14, 15, 16, 17, 18], [0, 1, 2, 3, 4, 5, 6, 7, 8, 9, 10, 11, 12, 13, 14, 15, 16, 17, 18, 19], [0, 1, 2, 3, 4, 5, 6, 7, 8, 9, 10, 11, 12, 13, 14, 15, 16, 17, 18, 19, 20], [0, 1, 2, 3, 4, 5, 6, 7, 8, 9, 10, 11, 12, 13, 14, 15, 16, 17, 18, 19, 20, 21], [0, 1, 2, 3, 4, 5, 6, 7, 8, 9, 10, 11, 12, 13, 14, 15, 16, 17, 18, 19, 20, 21, 22], [0, 1, 2, 3, 4, 5, 6, 7, 8, 9, 10, 11, 12, 13, 14, 15, 16, 17, 18, 19, 20, 21, 22, 23], [0, 1, 2, 3, 4, 5, 6, 7, 8, 9, 10, 11, 12, 13, 14, 15, 16, 17, 18, 19, 20, 21, 22, 23, 24], [0, 1, 2, 3, 4, 5, 6, 7, 8, 9, 10, 11, 12, 13, 14, 15, 16, 17, 18, 19, 20, 21, 22, 23, 24, 25], [0, 1, 2, 3, 4, 5, 6, 7, 8, 9, 10, 11, 12, 13, 14, 15, 16, 17, 18, 19, 20, 21, 22, 23, 24, 25, 26], [0, 1, 2, 3, 4, 5, 6, 7, 8, 9, 10, 11, 12, 13, 14, 15, 16, 17, 18, 19, 20, 21, 22, 23, 24, 25, 26, 27], [0, 1, 2, 3, 4, 5, 6, 7, 8, 9, 10, 11, 12, 13, 14, 15, 16, 17, 18, 19, 20, 21, 22, 23, 24, 25, 26], [0, 1, 2, 3, 4, 5, 6, 7, 8, 9, 10, 11, 12, 13, 14, 15, 16, 17, 18, 19, 20, 21, 22, 23, 24, 25, 26, 29], [0, 1, 2, 3, 4, 5, 6, 7, 8, 9, 10, 11, 12, 13, 14, 15, 16, 17, 18, 19, 20, 21, 22, 23, 24, 25, 26, 29, 30], [0, 1, 2, 3, 4, 5, 6, 7, 8, 9, 10, 11, 12, 13, 14, 15, 16, 17, 18, 19, 20, 21, 22, 23, 24, 25, 26, 27, 28, 29, 30, 31], [0, 1, 2, 3, 4, 5, 6, 7, 8, 9, 10, 11, 12, 13, 14, 15, 16, 17, 18, 19, 20, 21, 22, 23, 24, 25, 26, 27, 28, 29, 30, 31, 32], [0, 1, 2, 3, 4, 5, 6, 7, 8, 9, 10, 11, 12, 13, 14, 15, 16, 17, 18, 19, 20, 21, 22, 23, 24, 25, 26, 27, 28, 29, 30, 31, 32, 33], [0, 1, 2, 3, 4, 5, 6, 7, 8, 9, 10, 11, 12, 13, 14, 15, 16, 17, 18, 19, 20, 21, 22, 23, 24, 25, 26, 27, 28, 29, 30, 31, 32, 33, 34], [0, 1, 2, 3, 4, 5, 6, 7, 8, 9, 10, 11, 12, 13, 14, 15, 16, 17, 18, 19, 20, 21, 22, 23, 24, 25, 26, 27, 28, 29, 30, 31, 32, 33, 34, 35], [0, 1, 2, 3, 4, 5, 6, 7, 8, 9, 10, 11, 12, 13, 14, 15, 16, 17, 18, 19, 20, 21, 22, 23, 24, 25, 26, 27, 28, 29, 30, 31, 32, 33, 34, 35, 36], [0, 1, 2, 3, 4, 5, 6, 7, 8, 9, 10, 11, 12, 13, 14, 15, 16, 17, 18, 19, 20, 21, 22, 23, 24, 25, 26, 27, 28, 29, 30, 31, 32, 33, 34, 35, 36, 37], [0, 1, 2, 3, 4, 5, 6, 7, 8, 9, 10, 11, 12, 13, 14, 15, 16, 17, 18, 19, 20, 21, 22, 23, 24, 25, 26, 27, 28, 29, 30, 31, 32, 33, 34, 35, 36, 37, 38], [0, 1, 2, 3, 4, 5, 6, 7, 8, 9, 10, 11, 12, 13, 14, 15, 16, 17, 18, 19, 20, 21, 22, 23, 24, 25, 26, 27, 28, 29, 30, 31, 32, 33, 34, 35, 36, 37, 38, 39], [0, 1, 2, 3, 4, 5, 6, 7, 8, 9, 10, 11, 12, 13, 14, 15, 16, 17, 18, 19, 20, 21, 22, 23, 24, 25, 26, 27, 28, 29, 30, 31, 32, 33, 34, 35, 36, 37, 38, 39, 40], [0, 1, 2, 3, 4, 5, 6, 7, 8, 9, 10, 11, 12, 13, 14, 15, 16, 17, 18, 19, 20, 21, 22, 23, 24, 25, 26, 27, 28, 29, 30, 31, 32, 33, 34, 35, 36, 37, 38, 39, 40, 41], [0, 1, 2, 3, 4, 5, 6, 7, 8, 9, 10, 11, 12, 13, 14, 15, 16, 17, 18, 19, 20, 21, 22, 23, 24, 25, 26, 27, 28, 29, 30, 31, 32, 33, 34, 35, 36, 37, 38, 39, 40, 41, 42], [0, 1, 2, 3, 4, 5, 6, 7, 8, 9, 10, 11, 12, 13, 14, 15, 16, 17, 18, 19, 20, 21, 22, 23, 24, 25, 26, 27, 28, 29, 30, 31, 32, 33, 34, 35, 36, 37, 38, 39, 40, 41, 42, 43]])
 .ret))
theorem apiaryref9_tile_triple : Fun Go.Proofs.Tryz.prog 42 1 [(2, false, none)] apiaryref9_tile_pc := fun_mk Go.Proofs.Tryz.func42 rfl (by decide) (by kernel_rfl) (by decide) rfl (by kernel_rfl) (by kernel_rfl) (by decide)
noncomputable def apiaryref9_Fine_pc : PC :=
  (.seq (.reg [p_a 1 (.box (.t 0)), p_s 2 (.mov (.c (.r (.v (.bool false)))))])
 (.seq (.drw [p_s 3 (.ld (some 4) (.t 1)), p_c 4 1 42 [.t 3], p_m 5 4, p_g 6 5 true (.fa 3 (.t 1)), p_g 7 5 true (.ld none (.t 6)), p_g 8 5 true (.bin .sub (o_i 12) (.t 7)), ⟨(some 9), (some (5, true)), 2, .call 43 [(.t 8)]⟩,
 p_g 10 5 true (.bin .mul (o_i 169) (.t 9)), p_g 11 5 true (.fa 0 (.t 1)), p_g 12 5 true (.ld none (.t 11)), p_g 13 5 true (.bin .sub (o_i 18) (.t 12)), p_g 14 5 true (.bin .mul (o_i 2) (.t 13)),
 ⟨(some 15), (some (5, true)), 3, .call 44 [(.t 14)]⟩, p_g 16 5 true (.bin .mul (o_i 16) (.t 15)), p_g 17 5 true (.bin .lss (.t 10) (.t 16)), p_s 18 (.pick (.t 5) (.t 17) (.c (.r (.v (.bool false))))),
 p_m 2 18]
 [[], [0], [0, 1], [0, 1, 2], [0, 1, 2, 3], [0, 1, 2, 3, 4], [0, 1, 2, 3, 4, 5], [0, 1, 2, 3, 4, 5, 6], [0, 1, 2], [0, 1, 2, 8], [0, 1, 2, 8, 9], [0, 1, 2, 8, 9, 10], [0, 1, 2, 3, 4, 5, 6, 8, 9, 10, 11], [0, 1, 2, 3, 4, 5, 6, 8, 9, 10, 11, 12], [0, 1, 2, 3, 4, 5, 6, 7, 8, 9, 10, 11, 12, 13], [0, 1, 2, 3, 4, 5, 6, 7, 8, 9, 10, 11, 12, 13, 14], [0, 1, 2, 3, 4, 5, 6, 7, 8, 9, 10, 11, 12, 13, 14, 15]])
 .ret))
theorem apiaryref9_Fine_triple : Fun Go.Proofs.Tryz.prog 20 1 [(2, false, none)] apiaryref9_Fine_pc := fun_mk Go.Proofs.Tryz.func20 rfl (by decide) (by kernel_rfl) (by decide) rfl (by kernel_rfl) (by kernel_rfl) (by decide)
noncomputable def view_is_pc : PC :=
  (.seq (.reg [p_a 1 (.box (.t 0)), p_s 2 (.mov (.c (.r (.v (.bool false)))))])
 (.seq (.seq (.reg [p_s 4 (.fa 0 (.t 1)), p_s 5 (.ld none (.t 4)), p_s 6 (.bin .lss (.t 5) (o_i 0)), p_m 7 6, p_g 8 7 false (.fa 0 (.t 1)), p_g 9 7 false (.ld none (.t 8)), p_g 10 7 false (.bin .gtr (.t 9) (o_i 18)),
 p_s 11 (.pick (.t 7) (.c (.r (.v (.bool true)))) (.t 10)), p_m 12 11, p_g 13 12 false (.fa 3 (.t 1)), p_g 14 12 false (.ld none (.t 13)), p_g 15 12 false (.bin .lss (.t 14) (o_i 0)),
 p_s 16 (.pick (.t 12) (.c (.r (.v (.bool true)))) (.t 15)), p_m 17 16, p_g 18 17 false (.fa 3 (.t 1)), p_g 19 17 false (.ld none (.t 18)), p_g 20 17 false (.bin .gtr (.t 19) (o_i 12)),
 p_s 21 (.pick (.t 17) (.c (.r (.v (.bool true)))) (.t 20))])
 (.cond (.t 21)
 (.seq (.reg [p_s 2 (.mov (.c (.r (.v (.bool false)))))])
 .ret)
 .skip))
 (.seq (.reg [p_s 22 (.fa 0 (.t 1)), p_s 23 (.ld none (.t 22)), p_s 24 (.conv .u64 (.t 23)), p_s 25 (.bin .shl (o_i 1) (.t 24)), p_m 3 25])
 (.seq (.reg [p_s 26 (.fa 1 (.t 1)), p_s 27 (.ld none (.t 26)), p_s 28 (.bin .geq (.t 27) (o_i 0)), p_m 29 28, p_g 30 29 true (.fa 1 (.t 1)), p_g 31 29 true (.ld none (.t 30)),
 p_g 32 29 true (.mov (.t 3)), p_g 33 29 true (.bin .lss (.t 31) (.t 32)), p_s 34 (.pick (.t 29) (.t 33) (.c (.r (.v (.bool false))))), p_m 35 34, p_g 36 35 true (.fa 2 (.t 1)),
 p_g 37 35 true (.ld none (.t 36)), p_g 38 35 true (.bin .geq (.t 37) (o_i 0)), p_s 39 (.pick (.t 35) (.t 38) (.c (.r (.v (.bool false))))), p_m 40 39, p_g 41 40 true (.fa 2 (.t 1)),
 p_g 42 40 true (.ld none (.t 41)), p_g 43 40 true (.mov (.t 3)), p_g 44 40 true (.bin .lss (.t 42) (.t 43)), p_s 45 (.pick (.t 40) (.t 44) (.c (.r (.v (.bool false))))),
 p_m 2 45])
 .ret))))
theorem view_is_triple : Fun Go.Proofs.Tryz.prog 23 1 [(2, false, none)] view_is_pc := fun_mk Go.Proofs.Tryz.func23 rfl (by decide) (by kernel_rfl) (by decide) rfl (by kernel_rfl) (by kernel_rfl) (by decide)
noncomputable def view_unit_pc : PC :=
  (.seq (.reg [p_a 1 (.box (.t 0)), p_s 2 (.mov (o_i 0))])
 (.seq (.reg [p_s 3 (.fa 0 (.t 1)), p_s 4 (.ld none (.t 3)), p_s 5 (.bin .sub (o_i 18) (.t 4)), p_s 6 (.conv .u64 (.t 5)), p_s 7 (.bin .shl (o_i 1) (.t 6)), p_m 2 7])
 .ret))
theorem view_unit_triple : Fun Go.Proofs.Tryz.prog 28 1 [(2, false, none)] view_unit_pc := fun_mk Go.Proofs.Tryz.func28 rfl (by decide) (by kernel_rfl) (by decide) rfl (by kernel_rfl) (by kernel_rfl) (by decide)
noncomputable def view_Fine_pc : PC :=
  (.seq (.reg [p_a 1 (.box (.t 0)), p_s 2 (.mov (.c (.r (.v (.bool false)))))])
 (.seq (.reg [p_s 6 (.fa 3 (.t 1)), p_s 7 (.ld none (.t 6)), p_c 8 1 38 [.t 7], p_m 5 8, p_s 9 (.ext (.t 5) 0), p_s 10 (.ext (.t 5) 1), p_m 3 9, p_m 4 10])
 (.seq (.drw [p_s 11 (.ld (some 4) (.t 1)), p_c 12 2 23 [.t 11], p_m 13 12, p_g 14 13 true (.mov (.t 3)), p_g 15 13 true (.ld (some 4) (.t 1)), ⟨(some 16), (some (13, true)), 3, .call 28 [(.t 15)]⟩,
 p_g 17 13 true (.bin .mul (o_i 16) (.t 16)), p_g 18 13 true (.ld (some 4) (.t 1)), ⟨(some 19), (some (13, true)), 4, .call 28 [(.t 18)]⟩, p_g 20 13 true (.bin .mul (.t 17) (.t 19)),
 p_g 21 13 true (.bin .lss (.t 14) (.t 20)), p_s 22 (.pick (.t 13) (.t 21) (.c (.r (.v (.bool false))))), p_m 2 22]
 [[], [0], [0, 1], [0, 1, 2], [0, 1, 2], [0, 1, 2, 4], [0, 1, 2, 4, 5], [0, 1, 2], [0, 1, 2, 4, 5, 7], [0, 1, 2, 4, 5, 6, 7, 8], [0, 1, 2, 3, 4, 5, 6, 7, 8, 9], [0, 1, 2, 3, 4, 5, 6, 7, 8, 9, 10], [0, 1, 2, 3, 4, 5, 6, 7, 8, 9, 10, 11]])
 .ret)))
theorem view_Fine_triple : Fun Go.Proofs.Tryz.prog 16 1 [(2, false, none)] view_Fine_pc := fun_mk Go.Proofs.Tryz.func16 rfl (by decide) (by kernel_rfl) (by decide) rfl (by kernel_rfl) (by kernel_rfl) (by decide)
noncomputable def view_Ok_pc : PC :=
  (.seq (.reg [p_a 1 (.box (.t 0)), p_s 2 (.mov (o_i 0))])
 (.seq (.block 0 (.seq (.reg [p_s 4 (.ld (some 4) (.t 1)), p_c 5 1 23 [.t 4], p_s 6 (.un .not (.t 5)), p_m 3 6])
 (.cond (.t 3)
 (.seq (.reg [p_s 2 (.mov (o_i 1))])
 .ret)
 (.seq (.reg [p_s 8 (.ld (some 4) (.t 1)), p_c 9 2 16 [.t 8], p_m 7 9])
 (.cond (.t 7)
 (.seq (.reg [p_s 2 (.mov (o_i 14))])
 .ret)
 .skip)))))
 (.seq (.reg [p_s 2 (.mov (o_i 0))])
 .ret)))
theorem view_Ok_triple : Fun Go.Proofs.Tryz.prog 8 1 [(2, false, none)] view_Ok_pc := fun_mk Go.Proofs.Tryz.func8 rfl (by decide) (by kernel_rfl) (by decide) rfl (by kernel_rfl) (by kernel_rfl) (by decide)
noncomputable def view_Origin_pc : PC :=
  (.seq (.reg [p_a 1 (.box (.t 0)), p_s 2 (.mov (o_i 0)), p_s 3 (.mov (o_i 0)), p_s 4 (.mov (o_i 0))])
 (.seq (.seq (.reg [p_s 5 (.ld (some 4) (.t 1)), p_c 6 1 23 [.t 5], p_s 7 (.un .not (.t 6))])
 (.cond (.t 7)
 (.seq (.reg [p_s 2 (.mov (o_i 0)), p_s 3 (.mov (o_i 0)), p_s 4 (.mov (o_i 0))])
 .ret)
 .skip))
 (.seq (.reg [p_s 8 (.fa 0 (.t 1)), p_s 9 (.ld none (.t 8)), p_s 10 (.bin .sub (o_i 30) (.t 9)), p_s 11 (.conv .u64 (.t 10)), p_s 12 (.bin .shl (o_i 1) (.t 11)), p_m 4 12])
 (.seq (.drw [p_s 13 (.fa 1 (.t 1)), p_s 14 (.ld none (.t 13)), p_m 15 4, p_s 16 (.bin .mul (.t 14) (.t 15)), p_s 17 (.fa 2 (.t 1)), p_s 18 (.ld none (.t 17)), p_m 19 4, p_s 20 (.bin .mul (.t 18) (.t 19)),
 p_m 21 4, p_m 2 16, p_m 3 20, p_m 4 21]
 [[], [0], [], [0, 1, 2], [], [4], [], [4, 5, 6], [], [0, 1, 2, 3], [0, 1, 2, 3, 4, 5, 6, 7, 9], [0, 1, 2, 3, 4, 5, 6, 7, 8, 9, 10]])
 .ret))))
theorem view_Origin_triple : Fun Go.Proofs.Tryz.prog 24 1 [(2, false, none), (3, false, none), (4, false, none)] view_Origin_pc := fun_mk Go.Proofs.Tryz.func24 rfl (by decide) (by kernel_rfl) (by decide) rfl (by kernel_rfl) (by kernel_rfl) (by decide)
noncomputable def apiarylaw22_awake_pc : PC :=
  (.seq (.reg [p_s 0 (.mov (.c (.r (.v (.bool false)))))])
 (.seq (.reg [p_s 5 (.build [(.r (.v (.int .i64 0))), (.r (.v (.int .i64 0))), (.r (.v (.int .i64 0))), (.r (.v (.int .i64 0)))] [(0, 1, (o_i 1)), (1, 1, (o_i 1))]), p_c 6 1 24 [.t 5],
 p_m 4 6, p_s 7 (.ext (.t 4) 0), p_s 8 (.ext (.t 4) 1), p_s 9 (.ext (.t 4) 2), p_m 1 7, p_m 2 8, p_m 3 9])
 (.seq (.reg [p_m 10 1, p_s 11 (.bin .eql (.t 10) (o_i 536870912)), p_m 12 11, p_g 13 12 true (.mov (.t 2)), p_g 14 12 true (.bin .eql (.t 13) (o_i 0)), p_s 15 (.pick (.t 12) (.t 14) (.c (.r (.v (.bool false))))),
 p_m 16 15, p_g 17 16 true (.mov (.t 3)), p_g 18 16 true (.bin .eql (.t 17) (o_i 536870912)), p_s 19 (.pick (.t 16) (.t 18) (.c (.r (.v (.bool false))))), p_m 20 19,
 p_g 21 20 true (.build [(.r (.v (.int .i64 0))), (.r (.v (.int .i64 0))), (.r (.v (.int .i64 0))), (.r (.v (.int .i64 0)))] []), ⟨(some 22), (some (20, true)), 2, .call 8 [(.t 21)]⟩,
 p_g 23 20 true (.bin .eql (.t 22) (o_i 0)), p_s 24 (.pick (.t 20) (.t 23) (.c (.r (.v (.bool false))))), p_m 25 24, p_g 26 25 true (.build [(.r (.v (.int .i64 0))), (.r (.v (.int .i64 0))), (.r (.v (.int .i64 0))), (.r (.v (.int .i64 0)))] [(3, 1, (o_i 12))]),
 ⟨(some 27), (some (25, true)), 3, .call 8 [(.t 26)]⟩, p_g 28 25 true (.bin .eql (.t 27) (o_i 14)), p_s 29 (.pick (.t 25) (.t 28) (.c (.r (.v (.bool false))))), p_m 30 29,
 p_g 31 30 true (.build [(.r (.v (.int .i64 0))), (.r (.v (.int .i64 0))), (.r (.v (.int .i64 0))), (.r (.v (.int .i64 0)))] [(3, 1, (o_i 12))]), ⟨(some 32), (some (30, true)), 4, .call 16 [(.t 31)]⟩,
 p_s 33 (.pick (.t 30) (.t 32) (.c (.r (.v (.bool false))))), p_m 34 33, p_g 35 34 true (.build [(.r (.v (.int .i64 0))), (.r (.v (.int .i64 0))), (.r (.v (.int .i64 0))), (.r (.v (.int .i64 0)))] [(0, 1, (o_i 18)), (3, 1, (o_i 12))]),
 ⟨(some 36), (some (34, true)), 5, .call 16 [(.t 35)]⟩, p_g 37 34 true (.un .not (.t 36)), p_s 38 (.pick (.t 34) (.t 37) (.c (.r (.v (.bool false))))), p_m 0 38])
 .ret)))
theorem apiarylaw22_awake_triple : Fun Go.Proofs.Tryz.prog 9 0 [(0, false, none)] apiarylaw22_awake_pc := fun_mk Go.Proofs.Tryz.func9 rfl (by decide) (by kernel_rfl) (by decide) rfl (by kernel_rfl) (by kernel_rfl) (by decide)
noncomputable def apiarylaw22_Tile_pc : PC :=
  (.seq (.reg [p_a 8 (.new [(.r (.v (.int .i64 0))), (.r (.v (.int .i64 0))), (.r (.v (.int .i64 0))), (.r (.v (.int .i64 0)))])])
 (.seq (.reg [p_m 9 2, p_s 10 (.bin .rem (.t 9) (o_i 19)), p_s 11 (.bin .add (.t 10) (o_i 19)), p_s 12 (.bin .rem (.t 11) (o_i 19)), p_m 13 3, p_s 14 (.bin .rem (.t 13) (o_i 13)),
 p_s 15 (.bin .add (.t 14) (o_i 13)), p_s 16 (.bin .rem (.t 15) (o_i 13)), p_m 2 12, p_m 3 16])
 (.seq (.block 0 (.loop (.seq (.seq (.reg [p_m 17 3, p_s 18 (.bin .gtr (.t 17) (o_i 0)), p_m 19 18, p_g 20 19 true (.mov (.t 2)), p_g 21 19 true (.mov (.t 3)), p_g 22 19 true (.build [(.r (.v (.int .i64 0))), (.r (.v (.int .i64 0))), (.r (.v (.int .i64 0))), (.r (.v (.int .i64 0)))] [(0, 1, (.t 20)), (3, 1, (.t 21))]),
 ⟨(some 23), (some (19, true)), 1, .call 20 [(.t 22)]⟩, p_s 24 (.pick (.t 19) (.t 23) (.c (.r (.v (.bool false)))))])
 (.cond (.t 24)
 .skip
 (.exit 0)))
 (.block 1 (.reg [p_m 25 3, p_s 26 (.bin .sub (.t 25) (o_i 1)), p_m 3 26])))))
 (.seq (.reg [p_m 27 0, p_s 28 (.bin .and (.t 27) (o_i 1073741823)), p_m 29 1, p_s 30 (.bin .and (.t 29) (o_i 1073741823)), p_m 0 28, p_m 1 30])
 (.seq (.drw [p_m 31 2, p_m 32 0, p_m 33 2, p_s 34 (.bin .sub (o_i 30) (.t 33)), p_s 35 (.bin .shr (.t 32) (.t 34)), p_m 36 1, p_m 37 2, p_s 38 (.bin .sub (o_i 30) (.t 37)), p_s 39 (.bin .shr (.t 36) (.t 38)),
 p_m 40 3, p_s 41 (.build [(.r (.v (.int .i64 0))), (.r (.v (.int .i64 0))), (.r (.v (.int .i64 0))), (.r (.v (.int .i64 0)))] [(0, 1, (.t 31)), (1, 1, (.t 35)), (2, 1, (.t 39)), (3, 1, (.t 40))]),
 ⟨none, none, 0, .act (.st 4 (.t 8) (.t 41))⟩]
 [[], [], [], [2], [1, 2, 3], [], [], [6], [5, 6, 7], [], [0, 1, 2, 3, 4, 5, 6, 7, 8, 9], [0, 1, 2, 3, 4, 5, 6, 7, 8, 9, 10]])
 .ret)))))
theorem apiarylaw22_Tile_triple : Fun Go.Proofs.Tryz.prog 6 4 [(8, false, some (23, (some 4)))] apiarylaw22_Tile_pc := fun_mk Go.Proofs.Tryz.func6 rfl (by decide) (by kernel_rfl) (by decide) rfl (by kernel_rfl) (by kernel_rfl) (by decide)
structure Til where
 z : Int
 x : Int
 y : Int
 r : Int
def Til.v (t : Til) : AV := .r (.agg [.v (.int .i64 t.z), .v (.int .i64 t.x), .v (.int .i64 t.y), .v (.int .i64 t.r)])
def Til.ok (t : Til) : Prop := in64 t.z ∧ in64 t.x ∧ in64 t.y ∧ in64 t.r
def tis (t : Til) : Bool := decide (0 ≤ t.z ∧ t.z ≤ 18 ∧ 0 ≤ t.r ∧ t.r ≤ 12 ∧ 0 ≤ t.x ∧ t.x < 2 ^ t.z.toNat ∧ 0 ≤ t.y ∧ t.y < 2 ^ t.z.toNat)
theorem is_t (t : Til) : Triple Go.Proofs.Tryz.prog 23 [t.v] [] (bl (tis t)) [] := by
 refine view_is_triple rfl (by decide) ?_
 simp only [view_is_pc, Til.v, List.length_nil, push_cast, ↓reduceIte, reduceCtorEq, Nat.reduceBEq, reduceEqDiff, reduceAdd, reduceSub, reduceLT, reduceLeDiff, reduceMul]
 repeat refine And.intro (by simp +contextual) ?_
 refine cnd_mk (fun h => ?_) (fun h => ?_)
 ·simp only [push_cast, ↓reduceIte, reduceCtorEq, Nat.reduceBEq, reduceEqDiff, reduceAdd, reduceSub, reduceLT, reduceLeDiff, reduceMul]
  refine bl_iff ?_
  simp [tis] at h ⊢
  omega
 ·have hz : 0 ≤ t.z ∧ t.z ≤ 18 ∧ 0 ≤ t.r ∧ t.r ≤ 12 := by simp at h; omega
  simp only [push_cast, ↓reduceIte, reduceCtorEq, Nat.reduceBEq, reduceEqDiff, reduceAdd, reduceSub, reduceLT, reduceLeDiff, reduceMul]
  refine And.intro ?_ ?_
  ·rw [IntKind.wrap_u64]; omega
  rw [shl1 _ hz.1 (by omega)]
  repeat refine And.intro (by simp +contextual) ?_
  refine bl_iff ?_
  simp [tis]
  omega
theorem unit_t (t : Til) (h0 : 0 ≤ t.z) (h1 : t.z ≤ 18) : Triple Go.Proofs.Tryz.prog 28 [t.v] [] (int .i64 (2 ^ (18 - t.z).toNat)) [] := by
 refine view_unit_triple rfl (by decide) ?_
 simp only [view_unit_pc, Til.v, List.length_nil, push_cast, ↓reduceIte, reduceCtorEq, Nat.reduceBEq, reduceEqDiff, reduceAdd, reduceSub, reduceLT, reduceLeDiff, reduceMul]
 rw [show IntKind.i64.wrap (18 - t.z) = 18 - t.z from wrap_id (by omega)]
 refine And.intro ?_ ?_
 ·rw [IntKind.wrap_u64]; omega
 ·rw [shl1 _ (by omega) (by omega)]
def rok (r : Int) : Bool := decide (0 ≤ r ∧ r ≤ 12)
theorem width_t (r : Int) (hr : in64 r) : Triple Go.Proofs.Tryz.prog 38 [int .i64 r] [] (.tup [int .i64 (if rok r then 169 * 7 ^ (12 - r).toNat else 0), bl (rok r)]) [] := by
 refine plane_Width_triple rfl (by decide) ?_
 simp only [plane_Width_pc, List.length_nil, push_cast, ↓reduceIte, reduceCtorEq, Nat.reduceBEq, reduceEqDiff, reduceAdd, reduceSub, reduceLT, reduceLeDiff, reduceMul]
 refine call_mk (isRes_t r) rfl trivial ?_
 simp only [push_cast, ↓reduceIte, reduceCtorEq, Nat.reduceBEq, reduceEqDiff, reduceAdd, reduceSub, reduceLT, reduceLeDiff, reduceMul]
 refine cnd_mk (fun h => ?_) (fun h => ?_)
 ·simp only [push_cast, ↓reduceIte, reduceCtorEq, Nat.reduceBEq, reduceEqDiff, reduceAdd, reduceSub, reduceLT, reduceLeDiff, reduceMul]
  have : rok r = false := by simp [rok] at h ⊢; omega
  simp [this]
 ·have h : rok r = true := by simpa [rok] using h
  have h' : 0 ≤ r ∧ r ≤ 12 := by simpa [rok] using h
  simp only [push_cast, ↓reduceIte, reduceCtorEq, Nat.reduceBEq, reduceEqDiff, reduceAdd, reduceSub, reduceLT, reduceLeDiff, reduceMul]
  rw [show IntKind.i64.wrap (12 - r) = 12 - r from wrap_id (by omega)]
  have hp := p7 (12 - r).toNat (by omega)
  have ht := pow_t 7 (12 - r) (by decide) (by unfold in64; omega)
  rw [if_neg (show ¬ 12 - r < 0 by omega)] at ht
  refine call_mk ht rfl trivial ?_
  simp only [sm, if_pos (show in64 (7 ^ (12 - r).toNat) by unfold in64; omega), push_cast, ↓reduceIte, reduceCtorEq, Nat.reduceBEq, reduceEqDiff, reduceAdd, reduceSub, reduceLT, reduceLeDiff, reduceMul]
  rw [wrap_id (by omega)]
  simp [h]
theorem seven_t (k : Int) (h0 : 0 ≤ k) (h1 : k ≤ 12) : Triple Go.Proofs.Tryz.prog 43 [int .i64 k] [] (int .i64 (7 ^ k.toNat)) [] := by
 refine apiaryref1_Seven_triple rfl (by decide) ?_
 simp only [apiaryref1_Seven_pc, List.length_nil, push_cast, ↓reduceIte, reduceCtorEq, Nat.reduceBEq, reduceEqDiff, reduceAdd, reduceSub, reduceLT, reduceLeDiff, reduceMul]
 have hp := p7 k.toNat (by omega)
 have ht := rpow_t 7 k (by decide) (by unfold in64; omega)
 rw [if_neg (show ¬ k < 0 by omega)] at ht
 refine call_mk ht rfl trivial ?_
 simp only [sm, if_pos (show in64 (7 ^ k.toNat) by unfold in64; omega), push_cast, ↓reduceIte, reduceCtorEq, Nat.reduceBEq, reduceEqDiff, reduceAdd, reduceSub, reduceLT, reduceLeDiff, reduceMul]
theorem shift_t (k : Int) (h0 : 0 ≤ k) (h1 : k ≤ 36) : Triple Go.Proofs.Tryz.prog 44 [int .i64 k] [] (int .i64 (2 ^ k.toNat)) [] := by
 refine apiaryref9_shift_triple rfl (by decide) ?_
 simp only [apiaryref9_shift_pc, List.length_nil, push_cast, ↓reduceIte, reduceCtorEq, Nat.reduceBEq, reduceEqDiff, reduceAdd, reduceSub, reduceLT, reduceLeDiff, reduceMul]
 refine ⟨by omega, ?_⟩
 rw [shl2 k h0 h1]
def fine (t : Til) : Bool := tis t && decide (169 * 7 ^ (12 - t.r).toNat < 16 * 2 ^ (18 - t.z).toNat * (2 : Int) ^ (18 - t.z).toNat)
theorem fine_t (t : Til) (ht : t.ok) : Triple Go.Proofs.Tryz.prog 16 [t.v] [] (bl (fine t)) [] := by
 refine view_Fine_triple rfl (by decide) ?_
 simp only [view_Fine_pc, Til.v, List.length_nil, push_cast, ↓reduceIte, reduceCtorEq, Nat.reduceBEq, reduceEqDiff, reduceAdd, reduceSub, reduceLT, reduceLeDiff, reduceMul]
 refine call_mk (width_t t.r ht.2.2.2) rfl trivial ?_
 simp only [push_cast, ↓reduceIte, reduceCtorEq, Nat.reduceBEq, reduceEqDiff, reduceAdd, reduceSub, reduceLT, reduceLeDiff, reduceMul]
 refine dcall_as (as' := [t.v]) rfl ?_
 refine dcall_mk (is_t t) rfl trivial ?_
 cases hti : tis t with
 | false =>
  simp only [push_cast, ↓reduceIte, reduceCtorEq, Nat.reduceBEq, reduceEqDiff, reduceAdd, reduceSub, reduceLT, reduceLeDiff, reduceMul]
  exact ⟨by kernel_rfl, by simp [fine, hti]⟩
 | true =>
  have hr : 0 ≤ t.z ∧ t.z ≤ 18 ∧ 0 ≤ t.r ∧ t.r ≤ 12 := by simp [tis] at hti; omega
  have hrok : rok t.r = true := by simp [rok]; omega
  have hp := p2 (18 - t.z).toNat (by omega)
  have hu := unit_t t hr.1 hr.2.1
  simp only [hrok, push_cast, ↓reduceIte, reduceCtorEq, Nat.reduceBEq, reduceEqDiff, reduceAdd, reduceSub, reduceLT, reduceLeDiff, reduceMul]
  refine dcall_as (as' := [t.v]) rfl ?_
  refine dcall_mk hu rfl trivial ?_
  simp only [push_cast, ↓reduceIte, reduceCtorEq, Nat.reduceBEq, reduceEqDiff, reduceAdd, reduceSub, reduceLT, reduceLeDiff, reduceMul]
  refine dcall_as (as' := [t.v]) rfl ?_
  refine dcall_mk hu rfl trivial ?_
  simp only [push_cast, ↓reduceIte, reduceCtorEq, Nat.reduceBEq, reduceEqDiff, reduceAdd, reduceSub, reduceLT, reduceLeDiff, reduceMul]
  refine ⟨by kernel_rfl, ?_⟩
  have hq : (18 - t.z).toNat ≤ 18 := by omega
  have hq2 : (2 : Int) ^ (18 - t.z).toNat ≤ 262144 := by
   have h1 : 2 ^ (18 - t.z).toNat ≤ 2 ^ 18 := Nat.pow_le_pow_right (by decide) hq
   have h3 : ((2 ^ (18 - t.z).toNat : Nat) : Int) = (2 : Int) ^ (18 - t.z).toNat := by simp
   omega
  rw [show IntKind.i64.wrap (16 * 2 ^ (18 - t.z).toNat) = 16 * 2 ^ (18 - t.z).toNat from wrap_id (by omega)]
  have hm : 16 * (2 : Int) ^ (18 - t.z).toNat * 2 ^ (18 - t.z).toNat ≤ 4194304 * 262144 := Int.mul_le_mul (by omega) hq2 (by omega) (by omega)
  have hm0 : 0 ≤ 16 * (2 : Int) ^ (18 - t.z).toNat * 2 ^ (18 - t.z).toNat := Int.mul_nonneg (by omega) (by omega)
  rw [wrap_id (by omega)]
  refine bl_iff ?_
  simp [fine, hti]
theorem ok_t (t : Til) (ht : t.ok) : Triple Go.Proofs.Tryz.prog 8 [t.v] [] (int .i64 (if tis t then (if fine t then 14 else 0) else 1)) [] := by
 refine view_Ok_triple rfl (by decide) ?_
 simp only [view_Ok_pc, Til.v, List.length_nil, push_cast, ↓reduceIte, reduceCtorEq, Nat.reduceBEq, reduceEqDiff, reduceAdd, reduceSub, reduceLT, reduceLeDiff, reduceMul]
 refine call_as (as' := [t.v]) rfl ?_
 refine call_mk (is_t t) rfl trivial ?_
 cases hti : tis t with
 | false =>
  simp only [push_cast, ↓reduceIte, reduceCtorEq, Nat.reduceBEq, reduceEqDiff, reduceAdd, reduceSub, reduceLT, reduceLeDiff, reduceMul]
 | true =>
  simp only [push_cast, ↓reduceIte, reduceCtorEq, Nat.reduceBEq, reduceEqDiff, reduceAdd, reduceSub, reduceLT, reduceLeDiff, reduceMul]
  refine call_as (as' := [t.v]) rfl ?_
  refine call_mk (fine_t t ht) rfl trivial ?_
  cases hf : fine t <;> simp only [push_cast, ↓reduceIte, reduceCtorEq, Nat.reduceBEq, reduceEqDiff, reduceAdd, reduceSub, reduceLT, reduceLeDiff, reduceMul]
theorem origin_t (t : Til) (hi : tis t = true) : Triple Go.Proofs.Tryz.prog 24 [t.v] [] (.tup [int .i64 (t.x * 2 ^ (30 - t.z).toNat), int .i64 (t.y * 2 ^ (30 - t.z).toNat), int .i64 (2 ^ (30 - t.z).toNat)]) [] := by
 refine view_Origin_triple rfl (by decide) ?_
 simp only [view_Origin_pc, Til.v, List.length_nil, push_cast, ↓reduceIte, reduceCtorEq, Nat.reduceBEq, reduceEqDiff, reduceAdd, reduceSub, reduceLT, reduceLeDiff, reduceMul]
 refine call_as (as' := [t.v]) rfl ?_
 refine call_mk (is_t t) rfl trivial ?_
 rw [hi]
 simp only [push_cast, ↓reduceIte, reduceCtorEq, Nat.reduceBEq, reduceEqDiff, reduceAdd, reduceSub, reduceLT, reduceLeDiff, reduceMul]
 simp only [tis, decide_eq_true_eq] at hi
 obtain ⟨z0, z1, r0, r1, x0, x1, y0, y1⟩ := hi
 have hp := p2 t.z.toNat (by omega)
 have hq := p2 (30 - t.z).toNat (by omega)
 have hpq : (2 : Int) ^ t.z.toNat * 2 ^ (30 - t.z).toNat = 1073741824 := by
  rw [← Int.pow_add, show t.z.toNat + (30 - t.z).toNat = 30 by omega]; rfl
 have hx : t.x * 2 ^ (30 - t.z).toNat ≤ 1073741824 := by rw [← hpq]; exact Int.mul_le_mul_of_nonneg_right (by omega) (by omega)
 have hy : t.y * 2 ^ (30 - t.z).toNat ≤ 1073741824 := by rw [← hpq]; exact Int.mul_le_mul_of_nonneg_right (by omega) (by omega)
 have hx0 : 0 ≤ t.x * 2 ^ (30 - t.z).toNat := Int.mul_nonneg x0 (by omega)
 have hy0 : 0 ≤ t.y * 2 ^ (30 - t.z).toNat := Int.mul_nonneg y0 (by omega)
 rw [show IntKind.i64.wrap (30 - t.z) = 30 - t.z from wrap_id (by omega), shl1 _ (by omega) (by omega)]
 refine ⟨by rw [IntKind.wrap_u64]; omega, by kernel_rfl, ?_⟩
 rw [wrap_id (by omega), wrap_id (by omega)]


def vvB : List AV := [int .i64 1, int .i64 1, int .i64 (-1), int .i64 2, int .i64 (-2), int .i64 1, int .i64 (-1), int .i64 (-1), int .i64 1, int .i64 (-2), int .i64 2, int .i64 (-1)]

theorem un64 {a : Nat} (h : a < 18446744073709551616) : IntKind.u64.wrap (a : Int) = a := by rw [IntKind.wrap_u64]; omega
theorem ofI (a : Nat) (h : a < 18446744073709551616) : (BitVec.ofInt IntKind.u64.bits (a : Int)).toNat = a := by
 rw [show IntKind.u64.bits = 64 from rfl, BitVec.toNat_ofInt]
 omega
theorem or_u {a b : Nat} (ha : a < 18446744073709551616) (hb : b < 18446744073709551616) : IntKind.u64.wrap (BitVec.ofInt IntKind.u64.bits (a : Int) ||| BitVec.ofInt IntKind.u64.bits (b : Int)).toNat = ((a ||| b : Nat) : Int) := by
 rw [BitVec.toNat_or, ofI a ha, ofI b hb]
 exact un64 (Nat.or_lt_two_pow (n := 64) ha hb)
theorem and_u {a n : Nat} (m : Int) (hm : m = 2 ^ n - 1) (hn : n ≤ 62) (ha : a < 18446744073709551616) : IntKind.u64.wrap (BitVec.ofInt IntKind.u64.bits (a : Int) &&& BitVec.ofInt IntKind.u64.bits m).toNat = ((a % 2 ^ n : Nat) : Int) := by
 have h1 : 2 ^ n ≤ 2 ^ 62 := Nat.pow_le_pow_right (by decide) hn
 have h2 := Nat.two_pow_pos n
 have h3 : ((2 ^ n : Nat) : Int) = (2 : Int) ^ n := by simp
 have h4 : m = ((2 ^ n - 1 : Nat) : Int) := by rw [hm, ← h3]; omega
 rw [h4, BitVec.toNat_and, ofI a ha, ofI _ (by omega), Nat.and_two_pow_sub_one_eq_mod]
 exact un64 (Nat.lt_of_le_of_lt (Nat.mod_le _ _) ha)
theorem shl_u {a k : Nat} {s : Int} (hs : s.toNat = k) (hk : k ≤ 63) (h : a * 2 ^ k < 18446744073709551616) : IntKind.u64.wrap ((a : Int) * 2 ^ min s.toNat IntKind.u64.bits) = ((a * 2 ^ k : Nat) : Int) := by
 rw [hs, show min k IntKind.u64.bits = k from Nat.min_eq_left (by simp [IntKind.bits]; omega), show (a : Int) * 2 ^ k = ((a * 2 ^ k : Nat) : Int) by simp]
 exact un64 h
def uw (n : Nat) : AV := int .u64 n
def isWB (w : Nat) : Bool := decide (w / 1152921504606846976 = 1) && decide (resW w ≤ 12) && (List.range 13).all fun i => decide (i = 0) || (decide (dgt w i = 7) == decide (resW w < i))
theorem isWB_iff (w : Nat) : isWB w = true ↔ isW w := by
 simp only [isWB, isW, Bool.and_eq_true, decide_eq_true_eq, List.all_eq_true, List.mem_range, Bool.or_eq_true, beq_iff_eq, decide_eq_decide]
 constructor
 ·rintro ⟨⟨h1, h2⟩, h3⟩
  refine ⟨h1, h2, fun i i1 i2 => ?_⟩
  rcases h3 i (by omega) with h | h
  ·omega
  ·exact h
 ·rintro ⟨h1, h2, h3⟩
  refine ⟨⟨h1, h2⟩, fun i hi => ?_⟩
  by_cases h0 : i = 0
  ·exact .inl h0
  ·exact .inr (h3 i (by omega) (by omega))
theorem isWB_word {r : Nat} {z : Ei} (h : okc r z) : isWB (word r z) = true := (isWB_iff _).2 (word_isW r z h).1
theorem shru {a k : Nat} {s : Int} (hs : s.toNat = k) (hk : k ≤ 63) : (a : Int).fdiv (2 ^ min s.toNat IntKind.u64.bits) = ((a / 2 ^ k : Nat) : Int) := by
 rw [hs, show min k IntKind.u64.bits = k from Nat.min_eq_left (by simp [IntKind.bits]; omega)]
 rw [Int.fdiv_eq_ediv_of_nonneg _ (by have := Int.pow_pos (n := 2) (m := k) (by decide); omega)]
 simp
theorem shr_and {a k n : Nat} {s m : Int} (hs : s.toNat = k) (hk : k ≤ 63) (hm : m = 2 ^ n - 1) (hn : n ≤ 62) (ha : a < 18446744073709551616) :
  IntKind.u64.wrap (BitVec.ofInt IntKind.u64.bits ((a : Int).fdiv (2 ^ min s.toNat IntKind.u64.bits)) &&& BitVec.ofInt IntKind.u64.bits m).toNat = ((a / 2 ^ k % 2 ^ n : Nat) : Int) := by
 rw [shru hs hk, and_u m hm hn (Nat.lt_of_le_of_lt (Nat.div_le_self _ _) ha)]
theorem down_In (w : Nat) (i : Nat) (hi : i ≤ 12) : (down w i).In 1000000000000 := by
 have h : ∀ i : Nat, ∀ n : Int, (down w i).In n → 1 ≤ n → (down w (i + 1)).In (5 * n) := fun i n hn h1 => by
  have hd : ∀ d, (uni d).In 1 := fun d => by unfold uni; split <;> unfold Ei.In <;> decide
  have hu := hd (dgt w (i + 1) - 1)
  unfold Ei.In at hn hu ⊢
  rw [down, child]
  split <;> simp only [Ei.mul, beta, Ei.add] <;> omega
 have h0 : (down w 0).In 512 := by
  unfold Ei.In down baseW
  dsimp only
  omega
 have h1 := h 0 _ h0 (by decide)
 have h2 := h 1 _ h1 (by decide)
 have h3 := h 2 _ h2 (by decide)
 have h4 := h 3 _ h3 (by decide)
 have h5 := h 4 _ h4 (by decide)
 have h6 := h 5 _ h5 (by decide)
 have h7 := h 6 _ h6 (by decide)
 have h8 := h 7 _ h7 (by decide)
 have h9 := h 8 _ h8 (by decide)
 have h10 := h 9 _ h9 (by decide)
 have h11 := h 10 _ h10 (by decide)
 have h12 := h 11 _ h11 (by decide)
 rcases (show i = 0 ∨ i = 1 ∨ i = 2 ∨ i = 3 ∨ i = 4 ∨ i = 5 ∨ i = 6 ∨ i = 7 ∨ i = 8 ∨ i = 9 ∨ i = 10 ∨ i = 11 ∨ i = 12 by omega) with rfl | rfl | rfl | rfl | rfl | rfl | rfl | rfl | rfl | rfl | rfl | rfl | rfl
 ·exact h0.mono (by decide)
 ·exact h1.mono (by decide)
 ·exact h2.mono (by decide)
 ·exact h3.mono (by decide)
 ·exact h4.mono (by decide)
 ·exact h5.mono (by decide)
 ·exact h6.mono (by decide)
 ·exact h7.mono (by decide)
 ·exact h8.mono (by decide)
 ·exact h9.mono (by decide)
 ·exact h10.mono (by decide)
 ·exact h11.mono (by decide)
 ·exact h12.mono (by decide)

noncomputable def ident_writer_put_pc : PC :=
  (.reg [p_m 6 0, p_s 7 (.nck (.t 6)), p_s 8 (.fa 0 (.t 7)), p_s 9 (.ld none (.t 8)), p_m 10 2, p_m 11 1, p_s 12 (.bin .sub (.t 11) (o_i 1)), p_s 13 (.bin .mul (o_i 3) (.t 12)),
 p_s 14 (.bin .sub (o_i 33) (.t 13)), p_s 15 (.conv .u64 (.t 14)), p_s 16 (.bin .shl (.t 10) (.t 15)), p_s 17 (.bin .or (.t 9) (.t 16)), p_s 18 (.nck (.t 6)), p_s 19 (.fa 0 (.t 18)),
 ⟨none, none, 0, .act (.st 1 (.t 19) (.t 17))⟩])
theorem ident_writer_put_triple : Fun Go.Proofs.Tryz.prog 146 3 [] ident_writer_put_pc := fun_mk Go.Proofs.Tryz.func146 rfl (by decide) (by kernel_rfl) (by decide) rfl (by kernel_rfl) (by kernel_rfl) (by decide)
noncomputable def ident_Of_pc : PC :=
  (.seq (.reg [p_a 1 (.box (.t 0)), p_s 2 (.mov (.c (.r (.v (.int .u64 0))))), p_s 3 (.mov (o_i 0))])
 (.seq (.reg [p_s 11 (.ld (some 3) (.t 1)), p_c 12 1 145 [.t 11], p_m 10 12, p_s 13 (.ext (.t 10) 0), p_s 14 (.ext (.t 10) 1), p_s 15 (.ext (.t 10) 2), p_a 4 (.new [(.r (.v (.int .i64 0))), (.r (.v (.int .i64 0)))]),
 p_a 5 (.new [(.r (.v (.int .i64 0))), (.r (.v (.int .i64 0))), (.r (.v (.int .i64 0))), (.r (.v (.int .i64 0))), (.r (.v (.int .i64 0))), (.r (.v (.int .i64 0))), (.r (.v (.int .i64 0))), (.r (.v (.int .i64 0))), (.r (.v (.int .i64 0))), (.r (.v (.int .i64 0))), (.r (.v (.int .i64 0))), (.r (.v (.int .i64 0))), (.r (.v (.int .i64 0)))]),
 ⟨none, none, 0, .act (.st 2 (.t 4) (.t 13))⟩, ⟨none, none, 0, .act (.st 13 (.t 5) (.t 14))⟩, p_m 6 15])
 (.seq (.seq (.reg [p_m 16 6, p_s 17 (.un .not (.t 16))])
 (.cond (.t 17)
 (.seq (.reg [p_s 2 (.mov (.c (.r (.v (.int .u64 0))))), p_s 3 (.mov (o_i 2))])
 .ret)
 .skip))
 (.seq (.reg [p_s 18 (.fa 0 (.t 1)), p_s 19 (.ld none (.t 18)), p_s 20 (.conv .u64 (.t 19)), p_s 21 (.bin .shl (.t 20) (.c (.r (.v (.int .u64 56))))), p_s 22 (.bin .or (.c (.r (.v (.int .u64 1152921504606846976)))) (.t 21)),
 p_s 23 (.fa 0 (.t 4)), p_s 24 (.ld none (.t 23)), p_s 25 (.bin .add (.t 24) (o_i 512)), p_s 26 (.conv .u64 (.t 25)), p_s 27 (.bin .shl (.t 26) (.c (.r (.v (.int .u64 46))))),
 p_s 28 (.bin .or (.t 22) (.t 27)), p_s 29 (.fa 1 (.t 4)), p_s 30 (.ld none (.t 29)), p_s 31 (.bin .add (.t 30) (o_i 512)), p_s 32 (.conv .u64 (.t 31)), p_s 33 (.bin .shl (.t 32) (.c (.r (.v (.int .u64 36))))),
 p_s 34 (.bin .or (.t 28) (.t 33)), p_s 35 (.build [(.r (.v (.int .u64 0)))] [(0, 1, (.t 34))]), p_a 36 (.box (.t 35)), p_m 7 36])
 (.seq (.reg [p_m 37 7, p_s 38 (.mkf (.func 146) [(.t 37)] 1), p_m 8 38])
 (.seq (.seq (.reg [p_s 9 (.mov (o_i 1))])
 (.block 0 (.loop (.seq (.seq (.reg [p_m 39 9, p_s 40 (.bin .leq (.t 39) (o_i 12))])
 (.cond (.t 40)
 .skip
 (.exit 0)))
 (.seq (.block 1 (.seq (.reg [p_m 43 9, p_s 44 (.fa 0 (.t 1)), p_s 45 (.ld none (.t 44)), p_s 46 (.bin .gtr (.t 43) (.t 45))])
 (.cond (.t 46)
 (.reg [p_m 47 8, p_m 48 9, ⟨(some 49), none, 2, .callv (.t 47) [(.t 48), (.c (.r (.v (.int .u64 7))))]⟩])
 (.reg [p_m 50 8, p_m 51 9, p_m 52 9, p_s 53 (.iaa 13 1 (.t 5) (.t 52)), p_s 54 (.ld none (.t 53)), p_s 55 (.conv .u64 (.t 54)), ⟨(some 56), none, 3, .callv (.t 50) [(.t 51), (.t 55)]⟩]))))
 (.reg [p_m 41 9, p_s 42 (.bin .add (.t 41) (o_i 1)), p_m 9 42]))))))
 (.seq (.reg [p_m 57 7, p_s 58 (.nck (.t 57)), p_s 59 (.fa 0 (.t 58)), p_s 60 (.ld none (.t 59)), p_m 2 60, p_s 3 (.mov (o_i 0))])
 .ret)))))))
theorem ident_Of_triple : Fun Go.Proofs.Tryz.prog 111 1 [(2, false, none), (3, false, none)] ident_Of_pc := fun_mk Go.Proofs.Tryz.func111 rfl (by decide) (by kernel_rfl) (by decide) rfl (by kernel_rfl) (by kernel_rfl) (by decide)
def wordOf (x y : Int) (r : Nat) : Nat := word r (near x y r)
def wordU (w i : Nat) : Nat := w / 8 ^ (13 - i) * 8 ^ (13 - i)
theorem wordU_step (w i : Nat) (h1 : 1 ≤ i) (hi : i ≤ 12) : wordU w i ||| dgt w i * 2 ^ (36 - 3 * i) = wordU w (i + 1) := by
 unfold wordU dgt
 have e1 : 13 - (i + 1) = 12 - i := by omega
 have e2 : 13 - i = 12 - i + 1 := by omega
 have e3 : 2 ^ (36 - 3 * i) = 8 ^ (12 - i) := by rw [show (8 : Nat) = 2 ^ 3 from rfl, ← Nat.pow_mul]; congr 1; omega
 have e4 : (8 : Nat) ^ (12 - i + 1) = 2 ^ (3 * (12 - i + 1)) := by rw [show (8 : Nat) = 2 ^ 3 from rfl, ← Nat.pow_mul]
 rw [e1, e2, e3, Nat.or_comm, show w / 8 ^ (12 - i + 1) * 8 ^ (12 - i + 1) = w / 8 ^ (12 - i + 1) * 2 ^ (3 * (12 - i + 1)) by rw [e4], or_high]
 ·rw [← e4, Nat.pow_succ, ← Nat.div_div_eq_div_mul]
  have hq := Nat.div_add_mod (w / 8 ^ (12 - i)) 8
  generalize w / 8 ^ (12 - i) = q at *
  generalize 8 ^ (12 - i) = m at *
  rw [Nat.mul_comm m 8, ← Nat.mul_assoc, ← Nat.add_mul, Nat.mul_comm (q / 8) 8, hq]
 ·rw [← e4, Nat.pow_succ, Nat.mul_comm]
  exact Nat.mul_lt_mul_of_pos_left (Nat.mod_lt _ (by decide)) (p8 _)
theorem wordU_end (w : Nat) : wordU w 13 = w := by simp [wordU]
theorem wordU_one (r : Nat) (z : Ei) (hr : r ≤ 12) (A B : Nat) (hA : A < 1024) (hB : B < 1024) (hA' : (anc r z).a + 512 = A) (hB' : (anc r z).b + 512 = B) :
  (((1152921504606846976 ||| r * 2 ^ 56) ||| A * 2 ^ 46) ||| B * 2 ^ 36) = wordU (word r z) 1 := by
 unfold wordU
 rw [show 13 - 1 = 12 by rfl, show (8 : Nat) ^ 12 = 68719476736 by decide, word_top r z hr, hd36, hA', hB', Int.toNat_natCast, Int.toNat_natCast]
 have s1 : 1152921504606846976 ||| r * 2 ^ 56 = (16 + r) * 2 ^ 56 := by
  rw [Nat.or_comm, show (1152921504606846976 : Nat) = 1 * 2 ^ 60 by decide, or_high (show r * 2 ^ 56 < 2 ^ 60 by omega)]
  omega
 have s2 : (16 + r) * 2 ^ 56 ||| A * 2 ^ 46 = ((16 + r) * 1024 + A) * 2 ^ 46 := by
  rw [Nat.or_comm, or_high (show A * 2 ^ 46 < 2 ^ 56 by omega)]
  omega
 have s3 : ((16 + r) * 1024 + A) * 2 ^ 46 ||| B * 2 ^ 36 = (((16 + r) * 1024 + A) * 1024 + B) * 2 ^ 36 := by
  rw [Nat.or_comm, or_high (show B * 2 ^ 36 < 2 ^ 46 by omega)]
  omega
 rw [s1, s2, s3]
theorem wordU_lt {w : Nat} (h : w < 18446744073709551616) (i : Nat) : wordU w i < 18446744073709551616 := Nat.lt_of_le_of_lt (Nat.div_mul_le_self _ _) h
theorem put_w (w d r : Nat) (hw : w < 18446744073709551616) (hd : d < 8) (h1 : 1 ≤ r) (hr : r ≤ 12) : Triple Go.Proofs.Tryz.prog 146 [.ptr 1000000 0 0, int .i64 r, int .u64 d] [.box [uw w]] (.tup []) [.box [uw (w ||| d * 2 ^ (36 - 3 * r))]] := by
 refine ident_writer_put_triple rfl (by simp) ?_
 simp only [ident_writer_put_pc, uw, List.length_cons, List.length_nil, push_cast, ↓reduceIte, reduceCtorEq, Nat.reduceBEq, reduceEqDiff, reduceAdd, reduceSub, reduceLT, reduceLeDiff, reduceMul]
 have e1 : IntKind.i64.wrap ((r : Int) - 1) = (r : Int) - 1 := wrap_id (by omega)
 have e2 : IntKind.i64.wrap (3 * ((r : Int) - 1)) = 3 * ((r : Int) - 1) := wrap_id (by omega)
 have e3 : IntKind.i64.wrap (33 - 3 * ((r : Int) - 1)) = ((36 - 3 * r : Nat) : Int) := by rw [wrap_id (by omega)]; omega
 have hp : 2 ^ (36 - 3 * r) ≤ 2 ^ 33 := Nat.pow_le_pow_right (by decide) (by omega)
 have hm : d * 2 ^ (36 - 3 * r) ≤ 7 * 2 ^ (36 - 3 * r) := Nat.mul_le_mul_right _ (by omega)
 rw [e1, e2, e3, show IntKind.u64.wrap ((36 - 3 * r : Nat) : Int) = ((36 - 3 * r : Nat) : Int) from un64 (by omega), shl_u (Int.toNat_natCast _) (by omega) (by omega), or_u hw (by omega)]
 repeat refine And.intro (by first | decide | omega | exact fun _ => by decide | (simp +contextual; done) | kernel_rfl) ?_
 rfl
theorem digs_box (r : Nat) (z : Ei) (l : List AV) (h : l.length ≤ 13) : List.map AV.r (digsR r z 0) ++ List.drop (0 + (digsR r z 0).length) l = digs r z 0 := by
 rw [List.drop_of_length_le (by simp [digsR]; omega), List.append_nil]
 simp [digsR, digs]
theorem digs_get (r : Nat) (z : Ei) (j : Nat) (h1 : 1 ≤ j) (h2 : j ≤ r) (hr : r ≤ 12) : (digs r z 0).getD j AV.undef = int .i64 (dg (anc (r - j) z)) := by
 rw [List.getD_eq_getElem?_getD]
 unfold digs
 rw [List.getElem?_map, List.getElem?_range (by omega)]
 simp only [Option.map_some, Option.getD_some]
 rw [if_pos (by omega)]
theorem word_t (r : Int) (z : Ei) (h0 : 0 ≤ r) (hk : okc r.toNat z) : Triple Go.Proofs.Tryz.prog 111 [cel r z] [] (.tup [uw (word r.toNat z), int .i64 0]) [] := by
 refine ident_Of_triple rfl (by decide) ?_
 obtain ⟨hs, hbb⟩ := okc_B h0 hk
 have hwl := word_lt r.toNat z hk
 obtain ⟨r12, hz, ha, hb⟩ := id hk
 simp only [ident_Of_pc, cel, List.length_nil, push_cast, ↓reduceIte, reduceCtorEq, Nat.reduceBEq, reduceEqDiff, reduceAdd, reduceSub, reduceLT, reduceLeDiff, reduceMul]
 refine call_as (as' := [cel r z]) rfl ?_
 refine call_mk (way_t r z hs) rfl trivial ?_
 rw [hbb]
 simp only [Ei.v, Ei.rv, push_cast, ↓reduceIte, reduceCtorEq, Nat.reduceBEq, reduceEqDiff, reduceAdd, reduceSub, reduceLT, reduceLeDiff, reduceMul]
 obtain ⟨A, hA⟩ : ∃ A : Nat, (anc r.toNat z).a + 512 = A := ⟨((anc r.toNat z).a + 512).toNat, by omega⟩
 obtain ⟨B, hB⟩ : ∃ B : Nat, (anc r.toNat z).b + 512 = B := ⟨((anc r.toNat z).b + 512).toNat, by omega⟩
 have hone := wordU_one r.toNat z r12 A B (by omega) (by omega) hA hB
 obtain ⟨R, rfl⟩ : ∃ R : Nat, r = R := ⟨r.toNat, by omega⟩
 rw [Int.toNat_natCast] at *
 rw [hA, hB, show IntKind.i64.wrap (A : Int) = A from wrap_id (by omega), show IntKind.i64.wrap (B : Int) = B from wrap_id (by omega), un64 (show A < 18446744073709551616 by omega), un64 (show B < 18446744073709551616 by omega), un64 (show R < 18446744073709551616 by omega)]
 rw [shl_u (k := 56) rfl (by decide) (by omega), shl_u (k := 46) rfl (by decide) (by omega), shl_u (k := 36) rfl (by decide) (by omega), show (1152921504606846976 : Int) = ((1152921504606846976 : Nat) : Int) from rfl]
 have l1 : 1152921504606846976 ||| R * 2 ^ 56 < 18446744073709551616 := Nat.or_lt_two_pow (n := 64) (by omega) (by omega)
 have l2 : 1152921504606846976 ||| R * 2 ^ 56 ||| A * 2 ^ 46 < 18446744073709551616 := Nat.or_lt_two_pow (n := 64) l1 (by omega)
 rw [or_u (by omega) (by omega), or_u l1 (by omega), or_u l2 (by omega), hone]
 have hdl := digs_len R z 0
 simp only [digs_box R z [AV.r (RV.v (Value.int IntKind.i64 0)), AV.r (RV.v (Value.int IntKind.i64 0)), AV.r (RV.v (Value.int IntKind.i64 0)), AV.r (RV.v (Value.int IntKind.i64 0)), AV.r (RV.v (Value.int IntKind.i64 0)), AV.r (RV.v (Value.int IntKind.i64 0)), AV.r (RV.v (Value.int IntKind.i64 0)), AV.r (RV.v (Value.int IntKind.i64 0)), AV.r (RV.v (Value.int IntKind.i64 0)), AV.r (RV.v (Value.int IntKind.i64 0)), AV.r (RV.v (Value.int IntKind.i64 0)), AV.r (RV.v (Value.int IntKind.i64 0)), AV.r (RV.v (Value.int IntKind.i64 0))] (by simp)]
 repeat refine And.intro (by first | decide | (simp [digsR]; done) | kernel_rfl) ?_
 refine run_loop [(9, false), (1, false), (5, false), (7, false), (8, false)] (fun vs pos los => ∃ i : Nat, (1 ≤ i ∧ i ≤ 13) ∧ vs = [int .i64 i, .ptr 2000000 0 0, .ptr 2000001 0 0, .ptr 2000002 0 0, .fn (.func 146) [.ptr 2000002 0 0] 1] ∧ pos = [] ∧
  los = [.box [int .i64 R, int .i64 z.a, int .i64 z.b], .box (digs R z 0), .box [uw (wordU (word R z) i)]])
  (fun vs _ _ => match vs with | .r (.v (.int _ j)) :: _ => (13 - j).toNat | _ => 0) rfl ?_ ?_
 ·simp only [hidL_digs, imL_digs, uw, push_cast, ↓reduceIte, reduceCtorEq, Nat.reduceBEq, reduceEqDiff, reduceAdd, reduceSub, reduceLT, reduceLeDiff, reduceMul]
  exact ⟨1, by omega, rfl, rfl⟩
 ·rintro vs pos los ⟨i, hi, rfl, rfl, rfl⟩
  simp only [uw, push_cast, ↓reduceIte, reduceCtorEq, Nat.reduceBEq, reduceEqDiff, reduceAdd, reduceSub, reduceLT, reduceLeDiff, reduceMul]
  refine cnd_mk (fun h => ?_) (fun h => ?_)
  ·have hi12 : i ≤ 12 := by simp at h; omega
   have hul := wordU_lt hwl i
   have hst := wordU_step (word R z) i hi.1 hi12
   simp only [push_cast, ↓reduceIte, reduceCtorEq, Nat.reduceBEq, reduceEqDiff, reduceAdd, reduceSub, reduceLT, reduceLeDiff, reduceMul]
   refine cnd_mk (fun hc => ?_) (fun hc => ?_)
   ·have hc' : R < i := by simp at hc; omega
    simp only [push_cast, ↓reduceIte, reduceCtorEq, Nat.reduceBEq, reduceEqDiff, reduceAdd, reduceSub, reduceLT, reduceLeDiff, reduceMul]
    refine ⟨by kernel_rfl, ?_⟩
    refine call_as (as' := [.ptr 1000000 0 0, int .i64 i, int .u64 (7 : Nat)]) rfl ?_
    refine call_mk (put_w (wordU (word R z) i) 7 i hul (by decide) hi.1 hi12) rfl ⟨rfl, trivial⟩ ?_
    rw [word_seven R i z hc' hi12] at hst
    rw [hst]
    simp only [hidL_digs, imL_digs, uw, push_cast, ↓reduceIte, reduceCtorEq, Nat.reduceBEq, reduceEqDiff, reduceAdd, reduceSub, reduceLT, reduceLeDiff, reduceMul]
    rw [show IntKind.i64.wrap ((i : Int) + 1) = ((i + 1 : Nat) : Int) by rw [wrap_id (by omega)]; omega]
    exact ⟨⟨i + 1, by omega, rfl, rfl⟩, by omega⟩
   ·have hc' : i ≤ R := by simp at hc; omega
    have hd := dg_lt (anc (R - i) z)
    simp only [Int.toNat_natCast, Nat.zero_add, Nat.mul_one, digs_get R z i hi.1 hc' r12, hdl, push_cast, ↓reduceIte, reduceCtorEq, Nat.reduceBEq, reduceEqDiff, reduceAdd, reduceSub, reduceLT, reduceLeDiff, reduceMul]
    rw [un64 (show dg (anc (R - i) z) < 18446744073709551616 by omega)]
    repeat refine And.intro (by first | decide | omega | exact fun _ => by decide | (simp +contextual; done) | kernel_rfl) ?_
    refine call_mk (put_w (wordU (word R z) i) (dg (anc (R - i) z)) i hul (by omega) hi.1 hi12) rfl ⟨rfl, trivial⟩ ?_
    rw [word_dgt R i z r12 hi.1 hc'] at hst
    rw [hst]
    simp only [hidL_digs, imL_digs, uw, push_cast, ↓reduceIte, reduceCtorEq, Nat.reduceBEq, reduceEqDiff, reduceAdd, reduceSub, reduceLT, reduceLeDiff, reduceMul]
    rw [show IntKind.i64.wrap ((i : Int) + 1) = ((i + 1 : Nat) : Int) by rw [wrap_id (by omega)]; omega]
    exact ⟨⟨i + 1, by omega, rfl, rfl⟩, by omega⟩
  ·have hi13 : i = 13 := by simp at h; omega
   subst hi13
   simp only [wordU_end, uw, push_cast, ↓reduceIte, reduceCtorEq, Nat.reduceBEq, reduceEqDiff, reduceAdd, reduceSub, reduceLT, reduceLeDiff, reduceMul]

theorem awake22_t : Triple Go.Proofs.Tryz.prog 9 [] [] (bl true) [] := by
 refine apiarylaw22_awake_triple rfl (by decide) ?_
 simp only [apiarylaw22_awake_pc, List.length_nil, push_cast, ↓reduceIte, reduceCtorEq, Nat.reduceBEq, reduceEqDiff, reduceAdd, reduceSub, reduceLT, reduceLeDiff, reduceMul]
 refine call_as (as' := [Til.v ⟨1, 1, 0, 0⟩]) rfl ?_
 refine call_mk (origin_t ⟨1, 1, 0, 0⟩ (by decide)) rfl trivial ?_
 simp only [push_cast, ↓reduceIte, reduceCtorEq, Nat.reduceBEq, reduceEqDiff, reduceAdd, reduceSub, reduceLT, reduceLeDiff, reduceMul]
 rw [show (1 : Int) * 2 ^ (30 - (1 : Int)).toNat = 536870912 by decide, show (0 : Int) * 2 ^ (30 - (1 : Int)).toNat = 0 by decide, show (2 : Int) ^ (30 - (1 : Int)).toNat = 536870912 by decide]
 simp only [push_cast, ↓reduceIte, reduceCtorEq, Nat.reduceBEq, reduceEqDiff, reduceAdd, reduceSub, reduceLT, reduceLeDiff, reduceMul]
 have k0 : Til.ok ⟨0, 0, 0, 0⟩ := ⟨by decide, by decide, by decide, by decide⟩
 have k1 : Til.ok ⟨0, 0, 0, 12⟩ := ⟨by decide, by decide, by decide, by decide⟩
 have k2 : Til.ok ⟨18, 0, 0, 12⟩ := ⟨by decide, by decide, by decide, by decide⟩
 have t0 : tis ⟨0, 0, 0, 0⟩ = true := by decide
 have t1 : tis ⟨0, 0, 0, 12⟩ = true := by decide
 have f0 : fine ⟨0, 0, 0, 0⟩ = false := by decide +kernel
 have f1 : fine ⟨0, 0, 0, 12⟩ = true := by decide +kernel
 have f2 : fine ⟨18, 0, 0, 12⟩ = false := by decide +kernel
 refine call_as (as' := [Til.v ⟨0, 0, 0, 0⟩]) rfl ?_
 refine call_mk (ok_t ⟨0, 0, 0, 0⟩ k0) rfl trivial ?_
 simp only [t0, f0, push_cast, ↓reduceIte, reduceCtorEq, Nat.reduceBEq, reduceEqDiff, reduceAdd, reduceSub, reduceLT, reduceLeDiff, reduceMul]
 refine call_as (as' := [Til.v ⟨0, 0, 0, 12⟩]) rfl ?_
 refine call_mk (ok_t ⟨0, 0, 0, 12⟩ k1) rfl trivial ?_
 simp only [t1, f1, push_cast, ↓reduceIte, reduceCtorEq, Nat.reduceBEq, reduceEqDiff, reduceAdd, reduceSub, reduceLT, reduceLeDiff, reduceMul]
 refine call_as (as' := [Til.v ⟨0, 0, 0, 12⟩]) rfl ?_
 refine call_mk (fine_t ⟨0, 0, 0, 12⟩ k1) rfl trivial ?_
 simp only [f1, push_cast, ↓reduceIte, reduceCtorEq, Nat.reduceBEq, reduceEqDiff, reduceAdd, reduceSub, reduceLT, reduceLeDiff, reduceMul]
 refine call_as (as' := [Til.v ⟨18, 0, 0, 12⟩]) rfl ?_
 refine call_mk (fine_t ⟨18, 0, 0, 12⟩ k2) rfl trivial ?_
 simp only [f2, push_cast, ↓reduceIte, reduceCtorEq, Nat.reduceBEq, reduceEqDiff, reduceAdd, reduceSub, reduceLT, reduceLeDiff, reduceMul]

theorem rtile_t (t : Til) : Triple Go.Proofs.Tryz.prog 42 [t.v] [] (bl (tis t)) [] := by
 refine apiaryref9_tile_triple rfl (by decide) ?_
 by_cases h1 : 0 ≤ t.z ∧ t.z ≤ 18
 ·have e1 : decide (t.z ≥ 0) = true := by simp [h1.1]
  have e2 : decide (t.z ≤ 18) = true := by simp [h1.2]
  have hs := shift_t t.z h1.1 (by omega)
  by_cases h2 : 0 ≤ t.x
  ·have e3 : decide (t.x ≥ 0) = true := by simp [h2]
   by_cases h3 : t.x < 2 ^ t.z.toNat
   ·have e4 : decide (t.x < 2 ^ t.z.toNat) = true := by simp [h3]
    by_cases h4 : 0 ≤ t.y
    ·have e5 : decide (t.y ≥ 0) = true := by simp [h4]
     simp only [apiaryref9_tile_pc, Til.v, List.length_nil, e1, e2, e3, push_cast, ↓reduceIte, reduceCtorEq, Nat.reduceBEq, reduceEqDiff, reduceAdd, reduceSub, reduceLT, reduceLeDiff, reduceMul]
     refine dcall_mk hs rfl trivial ?_
     simp only [e4, e5, push_cast, ↓reduceIte, reduceCtorEq, Nat.reduceBEq, reduceEqDiff, reduceAdd, reduceSub, reduceLT, reduceLeDiff, reduceMul]
     refine dcall_mk hs rfl trivial ?_
     simp only [e4, e5, push_cast, ↓reduceIte, reduceCtorEq, Nat.reduceBEq, reduceEqDiff, reduceAdd, reduceSub, reduceLT, reduceLeDiff, reduceMul]
     refine ⟨by kernel_rfl, ?_⟩
     refine bl_iff ?_
     simp [tis]
     omega
    ·have e5 : decide (t.y ≥ 0) = false := by simp; omega
     have e6 : tis t = false := by simp [tis]; omega
     simp only [apiaryref9_tile_pc, Til.v, List.length_nil, e1, e2, e3, push_cast, ↓reduceIte, reduceCtorEq, Nat.reduceBEq, reduceEqDiff, reduceAdd, reduceSub, reduceLT, reduceLeDiff, reduceMul]
     refine dcall_mk hs rfl trivial ?_
     simp only [e4, e5, e6, push_cast, ↓reduceIte, reduceCtorEq, Nat.reduceBEq, reduceEqDiff, reduceAdd, reduceSub, reduceLT, reduceLeDiff, reduceMul]
     (show _ = true); kernel_rfl
   ·have e4 : decide (t.x < 2 ^ t.z.toNat) = false := by simp; omega
    have e6 : tis t = false := by simp [tis]; omega
    simp only [apiaryref9_tile_pc, Til.v, List.length_nil, e1, e2, e3, push_cast, ↓reduceIte, reduceCtorEq, Nat.reduceBEq, reduceEqDiff, reduceAdd, reduceSub, reduceLT, reduceLeDiff, reduceMul]
    refine dcall_mk hs rfl trivial ?_
    simp only [e4, e6, push_cast, ↓reduceIte, reduceCtorEq, Nat.reduceBEq, reduceEqDiff, reduceAdd, reduceSub, reduceLT, reduceLeDiff, reduceMul]
    (show _ = true); kernel_rfl
  ·have e3 : decide (t.x ≥ 0) = false := by simp; omega
   have e6 : tis t = false := by simp [tis]; omega
   simp only [apiaryref9_tile_pc, Til.v, List.length_nil, e1, e2, e3, e6, push_cast, ↓reduceIte, reduceCtorEq, Nat.reduceBEq, reduceEqDiff, reduceAdd, reduceSub, reduceLT, reduceLeDiff, reduceMul]
   (show _ = true); kernel_rfl
 ·have e6 : tis t = false := by simp [tis]; omega
  by_cases h0 : 0 ≤ t.z
  ·have e1 : decide (t.z ≥ 0) = true := by simp [h0]
   have e2 : decide (t.z ≤ 18) = false := by simp; omega
   simp only [apiaryref9_tile_pc, Til.v, List.length_nil, e1, e2, e6, push_cast, ↓reduceIte, reduceCtorEq, Nat.reduceBEq, reduceEqDiff, reduceAdd, reduceSub, reduceLT, reduceLeDiff, reduceMul]
   (show _ = true); kernel_rfl
  ·have e1 : decide (t.z ≥ 0) = false := by simp; omega
   simp only [apiaryref9_tile_pc, Til.v, List.length_nil, e1, e6, push_cast, ↓reduceIte, reduceCtorEq, Nat.reduceBEq, reduceEqDiff, reduceAdd, reduceSub, reduceLT, reduceLeDiff, reduceMul]
   (show _ = true); kernel_rfl

theorem rfine_t (t : Til) (ht : t.ok) : Triple Go.Proofs.Tryz.prog 20 [t.v] [] (bl (fine t)) [] := by
 refine apiaryref9_Fine_triple rfl (by decide) ?_
 simp only [apiaryref9_Fine_pc, Til.v, List.length_nil, push_cast, ↓reduceIte, reduceCtorEq, Nat.reduceBEq, reduceEqDiff, reduceAdd, reduceSub, reduceLT, reduceLeDiff, reduceMul]
 refine dcall_as (as' := [t.v]) rfl ?_
 refine dcall_mk (rtile_t t) rfl trivial ?_
 cases hti : tis t with
 | false =>
  simp only [push_cast, ↓reduceIte, reduceCtorEq, Nat.reduceBEq, reduceEqDiff, reduceAdd, reduceSub, reduceLT, reduceLeDiff, reduceMul]
  exact ⟨by kernel_rfl, by simp [fine, hti]⟩
 | true =>
  have hr : 0 ≤ t.z ∧ t.z ≤ 18 ∧ 0 ≤ t.r ∧ t.r ≤ 12 := by simp [tis] at hti; omega
  have w1 : IntKind.i64.wrap (12 - t.r) = 12 - t.r := wrap_id (by omega)
  have w2 : IntKind.i64.wrap (18 - t.z) = 18 - t.z := wrap_id (by omega)
  have w3 : IntKind.i64.wrap (2 * (18 - t.z)) = 2 * (18 - t.z) := wrap_id (by omega)
  have h7 := p7 (12 - t.r).toNat (by omega)
  have h2 := p2 (2 * (18 - t.z)).toNat (by omega)
  have hq : (2 : Int) ^ (2 * (18 - t.z)).toNat = 2 ^ (18 - t.z).toNat * 2 ^ (18 - t.z).toNat := by
   rw [← Int.pow_add]; congr 1; omega
  simp only [w1, w2, w3, push_cast, ↓reduceIte, reduceCtorEq, Nat.reduceBEq, reduceEqDiff, reduceAdd, reduceSub, reduceLT, reduceLeDiff, reduceMul]
  refine dcall_mk (seven_t (12 - t.r) (by omega) (by omega)) rfl trivial ?_
  simp only [w1, w2, w3, push_cast, ↓reduceIte, reduceCtorEq, Nat.reduceBEq, reduceEqDiff, reduceAdd, reduceSub, reduceLT, reduceLeDiff, reduceMul]
  refine dcall_mk (shift_t (2 * (18 - t.z)) (by omega) (by omega)) rfl trivial ?_
  simp only [w1, w2, w3, push_cast, ↓reduceIte, reduceCtorEq, Nat.reduceBEq, reduceEqDiff, reduceAdd, reduceSub, reduceLT, reduceLeDiff, reduceMul]
  refine ⟨by kernel_rfl, ?_⟩
  rw [wrap_id (by omega), wrap_id (by omega)]
  refine bl_iff ?_
  rw [hq, ← Int.mul_assoc]
  simp [fine, hti]
theorem tmod_in (a n : Int) (hn : 0 < n) : -n < a.tmod n ∧ a.tmod n < n ∧ (a.tmod n + n) % n = a % n := by
 have h0 := Int.emod_nonneg a (show n ≠ 0 by omega)
 have h1 := Int.emod_lt_of_pos a hn
 rw [Int.tmod_eq_emod]
 split
 ·refine ⟨by omega, by omega, ?_⟩
  rw [show a % n - ((0 : Nat) : Int) + n = a % n + n by omega, Int.add_emod_right, Int.emod_emod]
 ·rename_i h
  have h2 : a % n ≠ 0 := fun h3 => h (.inr (Int.dvd_of_emod_eq_zero h3))
  refine ⟨by omega, by omega, ?_⟩
  rw [show a % n - (n.natAbs : Int) + n = a % n by omega, Int.emod_emod]
def coarse (z : Int) : Nat → Nat
 | 0 => 0
 | n + 1 => if fine ⟨z, 0, 0, (n + 1 : Nat)⟩ then coarse z n else n + 1
def tileOf (x y z r : Int) : Til := ⟨z % 19, (x % 1073741824) / 2 ^ (30 - z % 19).toNat, (y % 1073741824) / 2 ^ (30 - z % 19).toNat, coarse (z % 19) (r % 13).toNat⟩
theorem coarse_le (z : Int) : ∀ n, coarse z n ≤ n
 | 0 => Nat.le_refl _
 | n + 1 => by
  have := coarse_le z n
  unfold coarse
  split <;> omega
theorem tis_of (x y z r : Int) : tis (tileOf x y z r) = true := by
 have h1 := coarse_le (z % 19) (r % 13).toNat
 have hz : 0 ≤ z % 19 ∧ z % 19 ≤ 18 := by omega
 have hp := p2 (30 - z % 19).toNat (by omega)
 have hq := p2 (z % 19).toNat (by omega)
 have hpq : (2 : Int) ^ (30 - z % 19).toNat * 2 ^ (z % 19).toNat = 1073741824 := by
  rw [← Int.pow_add, show (30 - z % 19).toNat + (z % 19).toNat = 30 by omega]; rfl
 have key : ∀ a : Int, 0 ≤ (a % 1073741824) / 2 ^ (30 - z % 19).toNat ∧ (a % 1073741824) / 2 ^ (30 - z % 19).toNat < 2 ^ (z % 19).toNat := fun a => by
  refine ⟨Int.ediv_nonneg (by omega) (by omega), ?_⟩
  rw [Int.ediv_lt_iff_lt_mul (by omega), Int.mul_comm, hpq]
  omega
 have kx := key x
 have ky := key y
 have hc : (0 : Int) ≤ (coarse (z % 19) (r % 13).toNat : Nat) ∧ ((coarse (z % 19) (r % 13).toNat : Nat) : Int) ≤ 12 := by omega
 exact decide_eq_true ⟨hz.1, hz.2, hc.1, hc.2, kx.1, kx.2, ky.1, ky.2⟩
theorem coarse_not (z : Int) : ∀ n, (coarse z n = 0) ∨ fine ⟨z, 0, 0, (coarse z n : Nat)⟩ = false
 | 0 => .inl rfl
 | n + 1 => by
  unfold coarse
  split
  ·exact coarse_not z n
  ·rename_i h
   right
   simpa using h
theorem fine_xy {a b : Til} (hz : a.z = b.z) (hr : a.r = b.r) (ha : tis a = true) (hb : tis b = true) : fine a = fine b := by
 simp only [fine, ha, hb, hz, hr]
theorem fine_zero {t : Til} (h : t.r = 0) : fine t = false := by
 cases hti : tis t with
 | false => simp [fine, hti]
 | true =>
  have hr : 0 ≤ t.z ∧ t.z ≤ 18 := by simp [tis] at hti; omega
  have hq : (2 : Int) ^ (18 - t.z).toNat ≤ 262144 := by
   have h1 : 2 ^ (18 - t.z).toNat ≤ 2 ^ 18 := Nat.pow_le_pow_right (by decide) (by omega)
   have h3 : ((2 ^ (18 - t.z).toNat : Nat) : Int) = (2 : Int) ^ (18 - t.z).toNat := by simp
   omega
  have hp := p2 (18 - t.z).toNat (by omega)
  have hm : 16 * (2 : Int) ^ (18 - t.z).toNat * 2 ^ (18 - t.z).toNat ≤ 4194304 * 262144 := Int.mul_le_mul (by omega) hq (by omega) (by omega)
  simp only [fine, hti, h, Bool.true_and, decide_eq_false_iff_not]
  have : (7 : Int) ^ (12 - (0 : Int)).toNat = 13841287201 := by decide
  omega
theorem fine_of (x y z r : Int) : fine (tileOf x y z r) = false := by
 rcases coarse_not (z % 19) (r % 13).toNat with h | h
 ·exact fine_zero (by simp [tileOf, h])
 ·by_cases h0 : coarse (z % 19) (r % 13).toNat = 0
  ·exact fine_zero (by simp [tileOf, h0])
  ·rw [← h]
   have h1 := coarse_le (z % 19) (r % 13).toNat
   have hp := p2 (z % 19).toNat (by omega)
   refine fine_xy rfl rfl (tis_of x y z r) ?_
   simp only [tis, decide_eq_true_eq]
   omega
theorem and30 (x : Int) (hx : in64 x) : IntKind.i64.wrap ((BitVec.ofInt IntKind.i64.bits x &&& BitVec.ofInt IntKind.i64.bits 1073741823).toNat) = x % 1073741824 := by
 have e : (BitVec.ofInt 64 1073741823).toNat = 2 ^ 30 - 1 := by decide
 rw [show IntKind.i64.bits = 64 from rfl, BitVec.toNat_and, e, Nat.and_two_pow_sub_one_eq_mod, BitVec.toNat_ofInt]
 rw [wrap_id (by unfold in64 at hx; omega)]
 omega
theorem tile_t (x y z r : Int) (hx : in64 x) (hy : in64 y) (hz : in64 z) (hr : in64 r) : Triple Go.Proofs.Tryz.prog 6 [int .i64 x, int .i64 y, int .i64 z, int .i64 r] [] (tileOf x y z r).v [] := by
 refine apiarylaw22_Tile_triple rfl (by decide) ?_
 have m1 : IntKind.i64.wrap (z.tmod 19 + 19) = z.tmod 19 + 19 := wrap_id (by have := tmod_in z 19 (by decide); omega)
 have m2 : (z.tmod 19 + 19).tmod 19 = z % 19 := by
  have := tmod_in z 19 (by decide)
  rw [Int.tmod_eq_emod_of_nonneg (by omega), this.2.2]
 have m3 : IntKind.i64.wrap (r.tmod 13 + 13) = r.tmod 13 + 13 := wrap_id (by have := tmod_in r 13 (by decide); omega)
 have m4 : (r.tmod 13 + 13).tmod 13 = r % 13 := by
  have := tmod_in r 13 (by decide)
  rw [Int.tmod_eq_emod_of_nonneg (by omega), this.2.2]
 simp only [apiarylaw22_Tile_pc, List.length_nil, m1, m2, m3, m4, push_cast, ↓reduceIte, reduceCtorEq, Nat.reduceBEq, reduceEqDiff, reduceAdd, reduceSub, reduceLT, reduceLeDiff, reduceMul]
 refine ⟨by decide, by decide, by decide, by decide, ?_⟩
 generalize hzz : z % 19 = z'
 have hz' : 0 ≤ z' ∧ z' ≤ 18 := by omega
 have hp := p2 z'.toNat (by omega)
 refine run_loop [(0, false), (1, false), (2, false), (3, false), (8, false)] (fun vs pos los => ∃ n : Nat, n ≤ 12 ∧ coarse z' n = coarse z' (r % 13).toNat ∧
  vs = [int .i64 x, int .i64 y, int .i64 z', int .i64 n, .ptr 2000000 0 0] ∧ pos = [] ∧ los = [.box [int .i64 0, int .i64 0, int .i64 0, int .i64 0]])
  (fun vs _ _ => match vs with | _ :: _ :: _ :: .r (.v (.int _ j)) :: _ => j.toNat | _ => 0) rfl ?_ ?_
 ·simp only [push_cast, ↓reduceIte, reduceCtorEq, Nat.reduceBEq, reduceEqDiff, reduceAdd, reduceSub, reduceLT, reduceLeDiff, reduceMul]
  exact ⟨(r % 13).toNat, by omega, rfl, by rw [Int.toNat_of_nonneg (by omega)]⟩
 ·rintro vs pos los ⟨n, hn, hc, rfl, rfl, rfl⟩
  have fin : tileOf x y z r = ⟨z', (x % 1073741824) / 2 ^ (30 - z').toNat, (y % 1073741824) / 2 ^ (30 - z').toNat, (coarse z' n : Nat)⟩ := by
   simp only [tileOf, hzz, hc]
  have w1 : IntKind.i64.wrap (30 - z') = 30 - z' := wrap_id (by omega)
  have sh : ∀ a : Int, a.fdiv (2 ^ min (30 - z').toNat IntKind.i64.bits) = a / 2 ^ (30 - z').toNat := fun a => by
   rw [show min (30 - z').toNat IntKind.i64.bits = (30 - z').toNat from Nat.min_eq_left (by simp [IntKind.bits]; omega)]
   exact Int.fdiv_eq_ediv_of_nonneg _ (Int.le_of_lt (Int.pow_pos (by decide)))
  cases n with
  | zero =>
   simp only [Int.reduceLT, gt_iff_lt, Int.lt_irrefl, and30 x hx, and30 y hy, w1, sh, fin, Til.v, coarse, push_cast, ↓reduceIte, reduceCtorEq, Nat.reduceBEq, reduceEqDiff, reduceAdd, reduceSub, reduceLT, reduceLeDiff, reduceMul]
   refine ⟨by omega, by omega, ?_⟩
   (show _ = true); kernel_rfl
  | succ n =>
   have e1 : decide (((n + 1 : Nat) : Int) > 0) = true := by simp
   have w2 : IntKind.i64.wrap (((n + 1 : Nat) : Int) - 1) = n := by rw [wrap_id (by omega)]; omega
   generalize hm : ((n + 1 : Nat) : Int) = m
   rw [hm] at e1 w2
   simp only [e1, push_cast, ↓reduceIte, reduceCtorEq, Nat.reduceBEq, reduceEqDiff, reduceAdd, reduceSub, reduceLT, reduceLeDiff, reduceMul]
   refine call_as (as' := [Til.v ⟨z', 0, 0, m⟩]) rfl ?_
   refine call_mk (rfine_t ⟨z', 0, 0, m⟩ ⟨by unfold in64; dsimp; omega, by show in64 0; decide, by show in64 0; decide, by unfold in64; dsimp; omega⟩) rfl trivial ?_
   cases hf : fine ⟨z', 0, 0, m⟩ with
   | true =>
    simp only [w2, push_cast, ↓reduceIte, reduceCtorEq, Nat.reduceBEq, reduceEqDiff, reduceAdd, reduceSub, reduceLT, reduceLeDiff, reduceMul]
    refine ⟨⟨n, by omega, ?_, rfl⟩, by omega⟩
    rw [← hc]
    simp only [coarse, hm, hf, if_true]
   | false =>
    have hk : coarse z' (n + 1) = n + 1 := by simp [coarse, hm, hf]
    rw [hk, hm] at fin
    simp only [and30 x hx, and30 y hy, w1, sh, fin, Til.v, push_cast, ↓reduceIte, reduceCtorEq, Nat.reduceBEq, reduceEqDiff, reduceAdd, reduceSub, reduceLT, reduceLeDiff, reduceMul]
    refine ⟨by omega, by omega, ?_⟩
    (show _ = true); kernel_rfl

theorem fine_down {t u : Til} (ht : tis t = true) (hf : fine t = false) (hr : u.r ≤ t.r) (hr0 : 0 ≤ u.r) (hz : t.z ≤ u.z) (hz1 : u.z ≤ 18) : fine u = false := by
 cases hu : tis u with
 | false => simp [fine, hu]
 | true =>
  have h0 : 0 ≤ t.z ∧ t.r ≤ 12 := by simp [tis] at ht; omega
  simp only [fine, ht, hu, Bool.true_and, decide_eq_false_iff_not, Int.not_lt] at hf ⊢
  have h1 : 7 ^ (12 - t.r).toNat ≤ 7 ^ (12 - u.r).toNat := Nat.pow_le_pow_right (by decide) (by omega)
  have h2 : 2 ^ (18 - u.z).toNat ≤ 2 ^ (18 - t.z).toNat := Nat.pow_le_pow_right (by decide) (by omega)
  have h3 := Nat.mul_le_mul h2 h2
  have e1 : ((7 ^ (12 - t.r).toNat : Nat) : Int) = (7 : Int) ^ (12 - t.r).toNat := by simp
  have e2 : ((7 ^ (12 - u.r).toNat : Nat) : Int) = (7 : Int) ^ (12 - u.r).toNat := by simp
  have e3 : ((2 ^ (18 - t.z).toNat * 2 ^ (18 - t.z).toNat : Nat) : Int) = (2 : Int) ^ (18 - t.z).toNat * 2 ^ (18 - t.z).toNat := by simp
  have e4 : ((2 ^ (18 - u.z).toNat * 2 ^ (18 - u.z).toNat : Nat) : Int) = (2 : Int) ^ (18 - u.z).toNat * 2 ^ (18 - u.z).toNat := by simp
  rw [Int.mul_assoc] at hf ⊢
  omega

def mnN (f : Nat → Int) : Nat → Int
 | 0 => f 0
 | k + 1 => min (mnN f k) (f k)
def mxN (f : Nat → Int) : Nat → Int
 | 0 => f 0
 | k + 1 => max (mxN f k) (f k)
theorem mnN_le (f : Nat → Int) (k i : Nat) (h : i < k) : mnN f k ≤ f i := by
 induction k with
 | zero => omega
 | succ k ih =>
  rw [mnN]
  by_cases hi : i = k
  ·subst hi; omega
  ·have := ih (by omega); omega
theorem mxN_ge (f : Nat → Int) (k i : Nat) (h : i < k) : f i ≤ mxN f k := by
 induction k with
 | zero => omega
 | succ k ih =>
  rw [mxN]
  by_cases hi : i = k
  ·subst hi; omega
  ·have := ih (by omega); omega
def beside (z : Ei) (r : Nat) (lx ly ux uy : Int) : Prop := (mxN (hx z r) 6 < lx ∨ ux < mnN (hx z r) 6) ∨ (mxN (hy z r) 6 < ly ∨ uy < mnN (hy z r) 6)
instance (z : Ei) (r : Nat) (lx ly ux uy : Int) : Decidable (beside z r lx ly ux uy) := inferInstanceAs (Decidable (_ ∨ _))
def outs (z : Ei) (r : Nat) (lx ly ux uy : Int) (i : Nat) : Prop := crs z r i ((i + 1) % 6) lx ly < 0 ∧ crs z r i ((i + 1) % 6) ux ly < 0 ∧ crs z r i ((i + 1) % 6) ux uy < 0 ∧ crs z r i ((i + 1) % 6) lx uy < 0
instance (z : Ei) (r : Nat) (lx ly ux uy : Int) (i : Nat) : Decidable (outs z r lx ly ux uy i) := inferInstanceAs (Decidable (_ ∧ _))
def touch (z : Ei) (r : Nat) (lx ly ux uy : Int) : Bool := !decide (beside z r lx ly ux uy) && (List.range 6).all fun i => !decide (outs z r lx ly ux uy i)
theorem beside_no {z : Ei} {r : Nat} {lx ly ux uy : Int} (h : beside z r lx ly ux uy) : touch z r lx ly ux uy = false := by simp [touch, h]
theorem corner_up (A B x y lx ly ux uy : Int) (h1 : lx ≤ x ∧ x ≤ ux) (h2 : ly ≤ y ∧ y ≤ uy) :
  A * y - B * x ≤ A * ly - B * lx ∨ A * y - B * x ≤ A * ly - B * ux ∨ A * y - B * x ≤ A * uy - B * ux ∨ A * y - B * x ≤ A * uy - B * lx := by
 have ay : A * y ≤ A * ly ∨ A * y ≤ A * uy := by
  rcases Int.le_total 0 A with h | h
  ·exact .inr (Int.mul_le_mul_of_nonneg_left h2.2 h)
  ·exact .inl (Int.mul_le_mul_of_nonpos_left h h2.1)
 have bx : B * lx ≤ B * x ∨ B * ux ≤ B * x := by
  rcases Int.le_total 0 B with h | h
  ·exact .inl (Int.mul_le_mul_of_nonneg_left h1.1 h)
  ·exact .inr (Int.mul_le_mul_of_nonpos_left h h1.2)
 omega
theorem crs_eq (z : Ei) (r i j : Nat) (x y : Int) : crs z r i j x y = ((kx r j - kx r i) * y - (ky r j - ky r i) * x) - ((kx r j - kx r i) * hy z r i - (ky r j - ky r i) * hx z r i) := by
 unfold crs
 rw [Int.mul_sub, Int.mul_sub]
 omega
def rng (a b : Int) : List Int := (List.range (b + 1 - a).toNat).map fun i : Nat => a + (i : Int)
def rowT (p : Int → Int → Bool) (a b k : Int) : List (Int × Int) := ((rng a b).filter fun i => p i k).map fun i => (i, k)
def rowsT (p : Int → Int → Bool) (a b c d : Int) : List (Int × Int) := (rng c d).flatMap (rowT p a b)
def tlo (m s last : Int) : Int := min (max (m.tdiv (3 * s) - 1) 0) last
def thi (m s last : Int) : Int := min (max (m.tdiv (3 * s) + 1) 0) last
def dlo (m s : Int) : Int := max (m.tdiv (3 * s) - 2) 0
def dhi (m s last : Int) : Int := min (m.tdiv (3 * s) + 2) last
def tch (z : Ei) (r : Nat) (s i k : Int) : Bool := touch z r (3 * (i * s)) (3 * (k * s)) (3 * ((i + 1) * s)) (3 * ((k + 1) * s))
def progT (z : Ei) (r : Nat) (s last : Int) : List (Int × Int) := rowsT (tch z r s) (tlo (mnN (hx z r) 6) s last) (thi (mxN (hx z r) 6) s last) (tlo (mnN (hy z r) 6) s last) (thi (mxN (hy z r) 6) s last)
def docT (z : Ei) (r : Nat) (s last : Int) : List (Int × Int) := rowsT (tch z r s) (dlo (mnN (hx z r) 6) s) (dhi (mxN (hx z r) 6) s last) (dlo (mnN (hy z r) 6) s) (dhi (mxN (hy z r) 6) s last)

noncomputable def cover_inThirds_pc : PC :=
  (.seq (.reg [p_a 2 (.box (.t 0)), p_a 3 (.box (.t 1)), p_a 4 (.new [(.r (.v (.int .i64 0))), (.r (.v (.int .i64 0))), (.r (.v (.int .i64 0))), (.r (.v (.int .i64 0)))]), p_s 5 (.mov (.c (.r (.v (.bool false)))))])
 (.seq (.reg [p_a 6 (.new [(.r (.v (.int .i64 0))), (.r (.v (.int .i64 0))), (.r (.v (.int .i64 0))), (.r (.v (.int .i64 0)))])])
 (.seq (.seq (.reg [p_s 8 (.mov (o_i 0))])
 (.block 0 (.loop (.seq (.reg [p_s 9 (.bin .lss (.t 8) (o_i 2))])
 (.seq (.cond (.t 9)
 .skip
 (.exit 0))
 (.seq (.block 1 (.seq (.reg [p_m 10 8, p_m 7 10])
 (.seq (.seq (.drw [p_m 11 7, p_s 12 (.iaa 2 1 (.t 2) (.t 11)), p_s 13 (.ld none (.t 12)), p_s 14 (.bin .lss (.t 13) (o_i (-2147483648))), p_m 15 14, p_g 16 15 false (.mov (.t 7)),
 p_g 17 15 false (.iaa 2 1 (.t 3) (.t 16)), p_g 18 15 false (.ld none (.t 17)), p_g 19 15 false (.bin .gtr (.t 18) (o_i 2147483648)), p_s 20 (.pick (.t 15) (.c (.r (.v (.bool true)))) (.t 19)),
 p_m 21 20, p_g 22 21 false (.mov (.t 7)), p_g 23 21 false (.iaa 2 1 (.t 3) (.t 22)), p_g 24 21 false (.ld none (.t 23)), p_g 25 21 false (.mov (.t 7)), p_g 26 21 false (.iaa 2 1 (.t 2) (.t 25)),
 p_g 27 21 false (.ld none (.t 26)), p_g 28 21 false (.bin .lss (.t 24) (.t 27)), p_s 29 (.pick (.t 21) (.c (.r (.v (.bool true)))) (.t 28))]
 [[], [0], [0, 1], [0, 1, 2], [0, 1, 2, 3], [0, 1, 2, 3, 4], [0, 1, 2, 3, 4, 5], [0, 1, 2, 3, 4, 5, 6], [0, 1, 2, 3, 4, 5, 6, 7], [0, 1, 2, 3, 4, 5, 6, 7, 8], [0, 1, 2, 3, 4, 5, 6, 7, 8, 9], [0, 1, 2, 3, 4, 5, 6, 7, 8, 9, 10], [0, 1, 2, 3, 4, 5, 6, 7, 8, 9, 10, 11], [0, 1, 2, 3, 4, 5, 6, 7, 8, 9, 10, 11, 12], [0, 1, 2, 3, 4, 5, 6, 7, 8, 9, 10], [0, 1, 2, 3, 4, 5, 6, 7, 8, 9, 10, 14], [0, 1, 2, 3, 4, 5, 6, 7, 8, 9, 10, 14, 15], [0, 1, 2, 3, 4, 5, 6, 7, 8, 9, 10, 11, 12, 13, 14, 15, 16], [0, 1, 2, 3, 4, 5, 6, 7, 8, 9, 10, 11, 12, 13, 14, 15, 16, 17]])
 (.cond (.t 29)
 (.seq (.reg [p_s 30 (.ld (some 4) (.t 6)), ⟨none, none, 0, .act (.st 4 (.t 4) (.t 30))⟩, p_s 5 (.mov (.c (.r (.v (.bool false)))))])
 .ret)
 .skip))
 (.drw [p_m 31 7, p_m 32 7, p_m 33 7, p_s 34 (.iaa 2 1 (.t 2) (.t 33)), p_s 35 (.ld none (.t 34)), p_s 36 (.bin .mul (o_i 3) (.t 35)), p_m 37 7, p_s 38 (.iaa 2 1 (.t 3) (.t 37)),
 p_s 39 (.ld none (.t 38)), p_s 40 (.bin .mul (o_i 3) (.t 39)), p_s 41 (.fa 0 (.t 6)), p_s 42 (.iaa 2 1 (.t 41) (.t 31)), ⟨none, none, 0, .act (.st 1 (.t 42) (.t 36))⟩,
 p_s 43 (.fa 2 (.t 6)), p_s 44 (.iaa 2 1 (.t 43) (.t 32)), ⟨none, none, 0, .act (.st 1 (.t 44) (.t 40))⟩]
 [[], [], [], [2], [2, 3], [2, 3, 4], [], [6], [6, 7], [6, 7, 8], [], [0, 2, 3, 4, 5, 10], [0, 2, 3, 4, 5, 10, 11], [], [0, 1, 2, 3, 4, 5, 6, 7, 8, 9, 10, 11, 12, 13], [0, 1, 2, 3, 4, 5, 6, 7, 8, 9, 10, 11, 12, 13, 14]]))))
 (.reg [p_s 45 (.bin .add (.t 8) (o_i 1)), p_m 8 45])))))))
 (.seq (.reg [p_s 46 (.ld (some 4) (.t 6)), ⟨none, none, 0, .act (.st 4 (.t 4) (.t 46))⟩, p_s 5 (.mov (.c (.r (.v (.bool true)))))])
 .ret))))
theorem cover_inThirds_triple : Fun Go.Proofs.Tryz.prog 114 2 [(4, false, some (167, (some 4))), (5, false, none)] cover_inThirds_pc := fun_mk Go.Proofs.Tryz.func114 rfl (by decide) (by kernel_rfl) (by decide) rfl (by kernel_rfl) (by kernel_rfl) (by decide)
noncomputable def cover_box_corners_pc : PC :=
  (.seq (.reg [p_a 1 (.box (.t 0)), p_s 2 (.mov (.c (.nils 2 (.agg [(.v (.int .i64 0)), (.v (.int .i64 0))]))))])
 (.seq (.reg [p_s 3 (.fa 0 (.t 1)), p_s 4 (.ld (some 2) (.t 3)), p_s 5 (.fa 2 (.t 1)), p_s 6 (.iaa 2 1 (.t 5) (o_i 0)), p_s 7 (.ld none (.t 6)), p_s 8 (.fa 0 (.t 1)), p_s 9 (.iaa 2 1 (.t 8) (o_i 1)),
 p_s 10 (.ld none (.t 9)), p_s 11 (.build [(.r (.v (.int .i64 0))), (.r (.v (.int .i64 0)))] [(0, 1, (.t 7)), (1, 1, (.t 10))]), p_s 12 (.fa 2 (.t 1)), p_s 13 (.ld (some 2) (.t 12)),
 p_s 14 (.fa 0 (.t 1)), p_s 15 (.iaa 2 1 (.t 14) (o_i 0)), p_s 16 (.ld none (.t 15)), p_s 17 (.fa 2 (.t 1)), p_s 18 (.iaa 2 1 (.t 17) (o_i 1)), p_s 19 (.ld none (.t 18)),
 p_s 20 (.build [(.r (.v (.int .i64 0))), (.r (.v (.int .i64 0)))] [(0, 1, (.t 16)), (1, 1, (.t 19))]), p_a 21 (.bsl 2 (.agg [(.v (.int .i64 0)), (.v (.int .i64 0))]) [(.t 4), (.t 11), (.t 13), (.t 20)]),
 p_m 2 21])
 .ret))
theorem cover_box_corners_triple : Fun Go.Proofs.Tryz.prog 173 1 [(2, false, none)] cover_box_corners_pc := fun_mk Go.Proofs.Tryz.func173 rfl (by decide) (by kernel_rfl) (by decide) rfl (by kernel_rfl) (by kernel_rfl) (by decide)
noncomputable def cover_box_beside_pc : PC :=
  (.seq (.reg [p_a 2 (.box (.t 0)), p_s 4 (.mov (.c (.r (.v (.bool false)))))])
 (.seq (.seq (.reg [p_s 10 (.mov (o_i 0))])
 (.block 0 (.loop (.seq (.reg [p_s 11 (.bin .lss (.t 10) (o_i 2))])
 (.seq (.cond (.t 11)
 .skip
 (.exit 0))
 (.seq (.block 1 (.seq (.reg [p_m 12 10, p_m 5 12])
 (.seq (.drw [p_m 13 1, p_m 14 5, p_s 15 (.ia 2 (.agg [(.v (.int .i64 0)), (.v (.int .i64 0))]) (.t 13) (o_i 0)), p_s 16 (.iaa 2 1 (.t 15) (.t 14)), p_s 17 (.ld none (.t 16)),
 p_m 18 1, p_m 19 5, p_s 20 (.ia 2 (.agg [(.v (.int .i64 0)), (.v (.int .i64 0))]) (.t 18) (o_i 0)), p_s 21 (.iaa 2 1 (.t 20) (.t 19)), p_s 22 (.ld none (.t 21)),
 p_m 6 17, p_m 7 22]
 [[], [], [0], [0, 1, 2], [0, 1, 2, 3], [], [], [5], [5, 6, 7], [5, 6, 7, 8], [0, 1, 2, 3, 4], [0, 1, 2, 3, 4, 5, 6, 7, 8, 9, 10]])
 (.seq (.seq (.reg [p_m 23 1, p_s 24 (.len false (.t 23)), p_s 25 (.mov (o_i 0))])
 (.block 2 (.loop (.seq (.reg [p_s 26 (.bin .lss (.t 25) (.t 24))])
 (.seq (.cond (.t 26)
 .skip
 (.exit 2))
 (.seq (.block 3 (.seq (.reg [p_s 27 (.ia 2 (.agg [(.v (.int .i64 0)), (.v (.int .i64 0))]) (.t 23) (.t 25)), p_s 28 (.ld (some 2) (.t 27)), p_a 9 (.new [(.r (.v (.int .i64 0))), (.r (.v (.int .i64 0)))]),
 ⟨none, none, 0, .act (.st 2 (.t 9) (.t 28))⟩])
 (.drw [p_m 29 6, p_m 30 5, p_s 31 (.iaa 2 1 (.t 9) (.t 30)), p_s 32 (.ld none (.t 31)), p_s 33 (.mm false (.t 29) [(.t 32)]), p_m 34 7, p_m 35 5, p_s 36 (.iaa 2 1 (.t 9) (.t 35)),
 p_s 37 (.ld none (.t 36)), p_s 38 (.mm true (.t 34) [(.t 37)]), p_m 6 33, p_m 7 38]
 [[], [], [1], [1, 2], [0, 1, 2, 3], [], [], [6], [6, 7], [5, 6, 7, 8], [0, 1, 2, 3, 4], [0, 1, 2, 3, 4, 5, 6, 7, 8, 9, 10]])))
 (.reg [p_s 39 (.bin .add (.t 25) (o_i 1)), p_m 25 39])))))))
 (.seq (.reg [p_m 40 7, p_m 41 5, p_s 42 (.fa 0 (.t 2)), p_s 43 (.iaa 2 1 (.t 42) (.t 41)), p_s 44 (.ld none (.t 43)), p_s 45 (.bin .lss (.t 40) (.t 44)), p_m 46 45, p_g 47 46 false (.mov (.t 6)),
 p_g 48 46 false (.mov (.t 5)), p_g 49 46 false (.fa 2 (.t 2)), p_g 50 46 false (.iaa 2 1 (.t 49) (.t 48)), p_g 51 46 false (.ld none (.t 50)), p_g 52 46 false (.bin .gtr (.t 47) (.t 51)),
 p_s 53 (.pick (.t 46) (.c (.r (.v (.bool true)))) (.t 52))])
 (.cond (.t 53)
 (.seq (.reg [p_s 4 (.mov (.c (.r (.v (.bool true)))))])
 .ret)
 .skip))))))
 (.reg [p_s 54 (.bin .add (.t 10) (o_i 1)), p_m 10 54])))))))
 (.seq (.reg [p_s 4 (.mov (.c (.r (.v (.bool false)))))])
 .ret)))
theorem cover_box_beside_triple : Fun Go.Proofs.Tryz.prog 148 2 [(4, false, none)] cover_box_beside_pc := fun_mk Go.Proofs.Tryz.func148 rfl (by decide) (by kernel_rfl) (by decide) rfl (by kernel_rfl) (by kernel_rfl) (by decide)
noncomputable def cover_box_outside_pc : PC :=
  (.seq (.reg [p_a 3 (.box (.t 0)), p_a 4 (.box (.t 1)), p_a 5 (.box (.t 2)), p_s 6 (.mov (.c (.r (.v (.bool false)))))])
 (.seq (.seq (.reg [p_s 9 (.ld (some 4) (.t 3)), p_c 10 1 173 [.t 9], p_s 11 (.len false (.t 10)), p_s 12 (.mov (o_i 0))])
 (.block 0 (.loop (.seq (.reg [p_s 13 (.bin .lss (.t 12) (.t 11))])
 (.seq (.cond (.t 13)
 .skip
 (.exit 0))
 (.seq (.block 1 (.seq (.reg [p_s 14 (.ia 2 (.agg [(.v (.int .i64 0)), (.v (.int .i64 0))]) (.t 10) (.t 12)), p_s 15 (.ld (some 2) (.t 14)), p_a 8 (.new [(.r (.v (.int .i64 0))), (.r (.v (.int .i64 0)))]),
 ⟨none, none, 0, .act (.st 2 (.t 8) (.t 15))⟩])
 (.seq (.reg [p_s 16 (.iaa 2 1 (.t 5) (o_i 0)), p_s 17 (.ld none (.t 16)), p_s 18 (.iaa 2 1 (.t 4) (o_i 0)), p_s 19 (.ld none (.t 18)), p_s 20 (.bin .sub (.t 17) (.t 19)), p_s 21 (.iaa 2 1 (.t 8) (o_i 1)),
 p_s 22 (.ld none (.t 21)), p_s 23 (.iaa 2 1 (.t 4) (o_i 1)), p_s 24 (.ld none (.t 23)), p_s 25 (.bin .sub (.t 22) (.t 24)), p_s 26 (.bin .mul (.t 20) (.t 25)), p_s 27 (.iaa 2 1 (.t 5) (o_i 1)),
 p_s 28 (.ld none (.t 27)), p_s 29 (.iaa 2 1 (.t 4) (o_i 1)), p_s 30 (.ld none (.t 29)), p_s 31 (.bin .sub (.t 28) (.t 30)), p_s 32 (.iaa 2 1 (.t 8) (o_i 0)), p_s 33 (.ld none (.t 32)),
 p_s 34 (.iaa 2 1 (.t 4) (o_i 0)), p_s 35 (.ld none (.t 34)), p_s 36 (.bin .sub (.t 33) (.t 35)), p_s 37 (.bin .mul (.t 31) (.t 36)), p_s 38 (.bin .sub (.t 26) (.t 37)),
 p_s 39 (.bin .geq (.t 38) (o_i 0))])
 (.cond (.t 39)
 (.seq (.reg [p_s 6 (.mov (.c (.r (.v (.bool false)))))])
 .ret)
 .skip))))
 (.reg [p_s 40 (.bin .add (.t 12) (o_i 1)), p_m 12 40])))))))
 (.seq (.reg [p_s 6 (.mov (.c (.r (.v (.bool true)))))])
 .ret)))
theorem cover_box_outside_triple : Fun Go.Proofs.Tryz.prog 149 3 [(6, false, none)] cover_box_outside_pc := fun_mk Go.Proofs.Tryz.func149 rfl (by decide) (by kernel_rfl) (by decide) rfl (by kernel_rfl) (by kernel_rfl) (by decide)
noncomputable def cover_box_touches_pc : PC :=
  (.seq (.reg [p_a 2 (.box (.t 0)), p_s 4 (.mov (.c (.r (.v (.bool false)))))])
 (.seq (.seq (.reg [p_s 7 (.ld (some 4) (.t 2)), p_m 8 1, p_c 9 1 148 [.t 7, .t 8]])
 (.cond (.t 9)
 (.seq (.reg [p_s 4 (.mov (.c (.r (.v (.bool false)))))])
 .ret)
 .skip))
 (.seq (.seq (.reg [p_m 10 1, p_s 11 (.len false (.t 10)), p_s 12 (.mov (o_i 0))])
 (.block 0 (.loop (.seq (.reg [p_s 13 (.bin .lss (.t 12) (.t 11))])
 (.seq (.cond (.t 13)
 .skip
 (.exit 0))
 (.seq (.block 1 (.seq (.reg [p_m 14 12, p_s 15 (.ia 2 (.agg [(.v (.int .i64 0)), (.v (.int .i64 0))]) (.t 10) (.t 12)), p_s 16 (.ld (some 2) (.t 15)), p_a 6 (.new [(.r (.v (.int .i64 0))), (.r (.v (.int .i64 0)))]),
 p_m 5 14, ⟨none, none, 0, .act (.st 2 (.t 6) (.t 16))⟩])
 (.seq (.drw [p_s 17 (.ld (some 4) (.t 2)), p_s 18 (.ld (some 2) (.t 6)), p_m 19 1, p_m 20 5, p_s 21 (.bin .add (.t 20) (o_i 1)), p_m 22 1, p_s 23 (.len false (.t 22)), p_s 24 (.bin .rem (.t 21) (.t 23)),
 p_s 25 (.ia 2 (.agg [(.v (.int .i64 0)), (.v (.int .i64 0))]) (.t 19) (.t 24)), p_s 26 (.ld (some 2) (.t 25)), p_c 27 2 149 [.t 17, .t 18, .t 26]]
 [[], [], [], [], [3], [], [5], [3, 4, 5, 6], [2, 3, 4, 5, 6, 7], [2, 3, 4, 5, 6, 7, 8], [0, 1, 2, 3, 4, 5, 6, 7, 8, 9]])
 (.cond (.t 27)
 (.seq (.reg [p_s 4 (.mov (.c (.r (.v (.bool false)))))])
 .ret)
 .skip))))
 (.reg [p_s 28 (.bin .add (.t 12) (o_i 1)), p_m 12 28])))))))
 (.seq (.reg [p_s 4 (.mov (.c (.r (.v (.bool true)))))])
 .ret))))
theorem cover_box_touches_triple : Fun Go.Proofs.Tryz.prog 116 2 [(4, false, none)] cover_box_touches_pc := fun_mk Go.Proofs.Tryz.func116 rfl (by decide) (by kernel_rfl) (by decide) rfl (by kernel_rfl) (by kernel_rfl) (by decide)
noncomputable def cover_Touches_pc : PC :=
  (.seq (.reg [p_a 3 (.box (.t 0)), p_a 4 (.box (.t 1)), p_a 5 (.box (.t 2)), p_s 6 (.mov (.c (.r (.v (.bool false)))))])
 (.seq (.reg [p_s 12 (.ld (some 2) (.t 4)), p_s 13 (.ld (some 2) (.t 5)), p_c 14 1 114 [.t 12, .t 13], p_m 11 14, p_s 15 (.ext (.t 11) 0), p_s 16 (.ext (.t 11) 1), p_a 7 (.new [(.r (.v (.int .i64 0))), (.r (.v (.int .i64 0))), (.r (.v (.int .i64 0))), (.r (.v (.int .i64 0)))]),
 ⟨none, none, 0, .act (.st 4 (.t 7) (.t 15))⟩, p_m 8 16])
 (.seq (.seq (.reg [p_m 17 8, p_s 18 (.un .not (.t 17)), p_m 19 18, p_g 20 19 false (.ld (some 3) (.t 3)), ⟨(some 21), (some (19, false)), 2, .call 115 [(.t 20)]⟩, p_g 22 19 false (.un .not (.t 21)),
 p_s 23 (.pick (.t 19) (.c (.r (.v (.bool true)))) (.t 22))])
 (.cond (.t 23)
 (.seq (.reg [p_s 6 (.mov (.c (.r (.v (.bool false)))))])
 .ret)
 .skip))
 (.seq (.reg [p_s 25 (.fa 1 (.t 3)), p_s 26 (.ld (some 2) (.t 25)), p_s 27 (.fa 0 (.t 3)), p_s 28 (.ld none (.t 27)), p_c 29 3 27 [.t 26, .t 28], p_m 24 29, p_s 30 (.ext (.t 24) 0),
 p_s 31 (.ext (.t 24) 1), p_m 9 30, p_m 10 31])
 (.seq (.reg [p_s 32 (.ld (some 4) (.t 7)), p_m 33 9, p_c 34 4 116 [.t 32, .t 33], p_m 6 34])
 .ret)))))
theorem cover_Touches_triple : Fun Go.Proofs.Tryz.prog 76 3 [(6, false, none)] cover_Touches_pc := fun_mk Go.Proofs.Tryz.func76 rfl (by decide) (by kernel_rfl) (by decide) rfl (by kernel_rfl) (by kernel_rfl) (by decide)
def pv (x y : Int) : AV := .r (pnt x y)
def bxv (lx ly ux uy : Int) : AV := .r (.agg [.v (.int .i64 lx), .v (.int .i64 ly), .v (.int .i64 ux), .v (.int .i64 uy)])
def in31 (x : Int) : Prop := -2147483648 ≤ x ∧ x ≤ 2147483648
def ibx (lx ly ux uy i : Int) : List AV := if i = 0 then [int .i64 0, int .i64 0, int .i64 0, int .i64 0] else if i = 1 then [int .i64 (3 * lx), int .i64 0, int .i64 (3 * ux), int .i64 0] else [int .i64 (3 * lx), int .i64 (3 * ly), int .i64 (3 * ux), int .i64 (3 * uy)]
theorem ibx_0 (lx ly ux uy : Int) : ibx lx ly ux uy 0 = [int .i64 0, int .i64 0, int .i64 0, int .i64 0] := rfl
theorem ibx_1 (lx ly ux uy : Int) : ibx lx ly ux uy 1 = [int .i64 (3 * lx), int .i64 0, int .i64 (3 * ux), int .i64 0] := rfl
theorem ibx_2 (lx ly ux uy : Int) : ibx lx ly ux uy 2 = [int .i64 (3 * lx), int .i64 (3 * ly), int .i64 (3 * ux), int .i64 (3 * uy)] := rfl
theorem inThirds_t (lx ly ux uy : Int) (h1 : in31 lx) (h2 : in31 ly) (h3 : in31 ux) (h4 : in31 uy) (hx : lx ≤ ux) (hy : ly ≤ uy) : Triple Go.Proofs.Tryz.prog 114 [pv lx ly, pv ux uy] [] (.tup [bxv (3 * lx) (3 * ly) (3 * ux) (3 * uy), bl true]) [] := by
 refine cover_inThirds_triple rfl (by decide) ?_
 simp only [cover_inThirds_pc, pv, pnt, bxv, List.length_nil, push_cast, ↓reduceIte, reduceCtorEq, Nat.reduceBEq, reduceEqDiff, reduceAdd, reduceSub, reduceLT, reduceLeDiff, reduceMul]
 unfold in31 at h1 h2 h3 h4
 refine run_loop [(8, false), (6, false), (4, false), (3, false), (2, false)] (fun vs pos los => ∃ i : Int, (i = 0 ∨ i = 1 ∨ i = 2) ∧ vs = [int .i64 i, .ptr 2000000 0 0, .ptr 2000001 0 0, .ptr 2000002 0 0, .ptr 2000003 0 0] ∧ pos = [] ∧
  los = [.box (ibx lx ly ux uy i), .box [int .i64 0, int .i64 0, int .i64 0, int .i64 0], .box [int .i64 ux, int .i64 uy], .box [int .i64 lx, int .i64 ly]])
  (fun vs _ _ => match vs with | .r (.v (.int _ j)) :: _ => (2 - j).toNat | _ => 0) rfl ?_ ?_
 ·simp only [push_cast, ↓reduceIte, reduceCtorEq, Nat.reduceBEq, reduceEqDiff, reduceAdd, reduceSub, reduceLT, reduceLeDiff, reduceMul]
  exact ⟨0, by omega, rfl, rfl⟩
 ·rintro vs pos los ⟨i, rfl | rfl | rfl, rfl, rfl, rfl⟩
  ·have g1 : decide (lx < -2147483648) = false := by simp; omega
   have g2 : decide (ux > 2147483648) = false := by simp; omega
   have g3 : decide (ux < lx) = false := by simp; omega
   have g0 : decide ((0 : Int) < 2) = true := rfl
   have e1 : IntKind.i64.wrap (3 * lx) = 3 * lx := wrap_id (by omega)
   have e2 : IntKind.i64.wrap (3 * ux) = 3 * ux := wrap_id (by omega)
   have e3 : IntKind.i64.wrap (0 + 1) = 1 := by decide
   simp only [ibx_0, g0, g1, g2, g3, e1, e2, e3, Int.reduceToNat, push_cast, ↓reduceIte, reduceCtorEq, Nat.reduceBEq, reduceEqDiff, reduceAdd, reduceSub, reduceLT, reduceLeDiff, reduceMul]
   repeat refine And.intro (by first | decide | kernel_rfl) ?_
   exact ⟨⟨1, by omega, rfl, rfl⟩, by decide⟩
  ·have g1 : decide (ly < -2147483648) = false := by simp; omega
   have g2 : decide (uy > 2147483648) = false := by simp; omega
   have g3 : decide (uy < ly) = false := by simp; omega
   have g0 : decide ((1 : Int) < 2) = true := rfl
   have e1 : IntKind.i64.wrap (3 * ly) = 3 * ly := wrap_id (by omega)
   have e2 : IntKind.i64.wrap (3 * uy) = 3 * uy := wrap_id (by omega)
   have e3 : IntKind.i64.wrap (1 + 1) = 2 := by decide
   simp only [ibx_1, g0, g1, g2, g3, e1, e2, e3, Int.reduceToNat, push_cast, ↓reduceIte, reduceCtorEq, Nat.reduceBEq, reduceEqDiff, reduceAdd, reduceSub, reduceLT, reduceLeDiff, reduceMul]
   repeat refine And.intro (by first | decide | kernel_rfl) ?_
   exact ⟨⟨2, by omega, rfl, rfl⟩, by decide⟩
  ·have g0 : decide ((2 : Int) < 2) = false := rfl
   simp only [ibx_2, g0, Int.reduceToNat, push_cast, ↓reduceIte, reduceCtorEq, Nat.reduceBEq, reduceEqDiff, reduceAdd, reduceSub, reduceLT, reduceLeDiff, reduceMul]
theorem corners_t (lx ly ux uy : Int) : Triple Go.Proofs.Tryz.prog 173 [bxv lx ly ux uy] [] (.own 1000000 0 0 4) [.row 2 (pnt 0 0) true true [pnt lx ly, pnt ux ly, pnt ux uy, pnt lx uy]] := by
 refine cover_box_corners_triple rfl (by decide) ?_
 simp only [cover_box_corners_pc, pnt, bxv, List.length_nil, Int.reduceToNat, push_cast, ↓reduceIte, reduceCtorEq, Nat.reduceBEq, reduceEqDiff, reduceAdd, reduceSub, reduceLT, reduceLeDiff, reduceMul]
 decide
theorem hexL_lenI (z : Ei) (r : Nat) : ((hexL z r 6).length : Int) = 6 := by rw [hexL_len]; rfl
theorem hexL_at (z : Ei) (r n i : Nat) (h : i < n) (d : RV) : (hexL z r n).getD i d = .agg [.v (.int .i64 (hx z r i)), .v (.int .i64 (hy z r i))] := by
 rw [List.getD_eq_getElem?_getD]
 simp [hexL, h, hexP, pnt]
def hexIn (z : Ei) (r : Nat) : Prop := ∀ i, i < 6 → (-4294967296 ≤ hx z r i ∧ hx z r i ≤ 4294967296) ∧ (-4294967296 ≤ hy z r i ∧ hy z r i ≤ 4294967296)
abbrev hexS (z : Ei) (r : Nat) : AV := .r (.sl 2 (hexL z r 6))
theorem beside_t (z : Ei) (r : Nat) (lx ly ux uy : Int) (hb : hexIn z r) : Triple Go.Proofs.Tryz.prog 148 [bxv lx ly ux uy, hexS z r] [] (bl (decide (beside z r lx ly ux uy))) [] := by
 refine cover_box_beside_triple rfl (by decide) ?_
 simp only [cover_box_beside_pc, bxv, List.length_nil, push_cast, ↓reduceIte, reduceCtorEq, Nat.reduceBEq, reduceEqDiff, reduceAdd, reduceSub, reduceLT, reduceLeDiff, reduceMul]
 refine run_loop [(10, false), (2, false), (1, false)] (fun vs pos los => ∃ i : Int, (i = 0 ∨ (i = 1 ∧ ¬ (mxN (hx z r) 6 < lx ∨ ux < mnN (hx z r) 6)) ∨ (i = 2 ∧ ¬ beside z r lx ly ux uy)) ∧ vs = [int .i64 i, .ptr 2000000 0 0, hexS z r] ∧ pos = [] ∧
  los = [.box [int .i64 lx, int .i64 ly, int .i64 ux, int .i64 uy]])
  (fun vs _ _ => match vs with | .r (.v (.int _ j)) :: _ => (2 - j).toNat | _ => 0) rfl ?_ ?_
 ·simp only [push_cast, ↓reduceIte, reduceCtorEq, Nat.reduceBEq, reduceEqDiff, reduceAdd, reduceSub, reduceLT, reduceLeDiff, reduceMul]
  exact ⟨0, by omega, rfl⟩
 ·rintro vs pos los ⟨i, hi | hi | hi, rfl, rfl, rfl⟩
  ·obtain rfl := hi
   have g0 : decide ((0 : Int) < 2) = true := rfl
   simp only [g0, hexL_lenI, hexL_at z r 6 0 (by decide), Int.reduceToNat, push_cast, ↓reduceIte, reduceCtorEq, Nat.reduceBEq, reduceEqDiff, reduceAdd, reduceSub, reduceLT, reduceLeDiff, reduceMul]
   repeat refine And.intro (by first | decide | kernel_rfl) ?_
   refine run_loop [(25, false), (24, false), (23, false), (6, false), (7, false), (5, false), (2, false), (1, false), (10, false)] (fun vs pos los => ∃ k : Nat, k ≤ 6 ∧ vs = [int .i64 k, int .i64 6, hexS z r, int .i64 (mnN (hx z r) k), int .i64 (mxN (hx z r) k), int .i64 0, .ptr 2000000 0 0, hexS z r, int .i64 0] ∧ pos = [] ∧
    los = [.box [int .i64 lx, int .i64 ly, int .i64 ux, int .i64 uy]])
    (fun vs _ _ => match vs with | .r (.v (.int _ j)) :: _ => (6 - j).toNat | _ => 0) rfl ?_ ?_
   ·simp only [push_cast, ↓reduceIte, reduceCtorEq, Nat.reduceBEq, reduceEqDiff, reduceAdd, reduceSub, reduceLT, reduceLeDiff, reduceMul]
    exact ⟨0, by omega, rfl⟩
   ·rintro vs pos los ⟨k, hk, rfl, rfl, rfl⟩
    simp only [push_cast, ↓reduceIte, reduceCtorEq, Nat.reduceBEq, reduceEqDiff, reduceAdd, reduceSub, reduceLT, reduceLeDiff, reduceMul]
    refine cnd_mk (fun h => ?_) (fun h => ?_)
    ·have hi : k < 6 := by simp at h; omega
     simp only [hexL_lenI, Int.toNat_natCast, hexL_at z r 6 k hi, Int.reduceToNat, push_cast, ↓reduceIte, reduceCtorEq, Nat.reduceBEq, reduceEqDiff, reduceAdd, reduceSub, reduceLT, reduceLeDiff, reduceMul]
     rw [show IntKind.i64.wrap ((k : Int) + 1) = ((k + 1 : Nat) : Int) by rw [wrap_id (by omega)]; omega]
     refine ⟨by omega, by decide, by decide, by kernel_rfl, ⟨k + 1, by omega, rfl⟩, by omega⟩
    ·have hi : k = 6 := by simp at h; omega
     subst hi
     simp only [Int.reduceToNat, push_cast, ↓reduceIte, reduceCtorEq, Nat.reduceBEq, reduceEqDiff, reduceAdd, reduceSub, reduceLT, reduceLeDiff, reduceMul]
     repeat refine And.intro (by first | decide | exact fun _ => by decide | (simp +contextual; done) | kernel_rfl) ?_
     refine cnd_mk (fun h => ?_) (fun h => ?_)
     ·have hbe : mxN (hx z r) 6 < lx ∨ ux < mnN (hx z r) 6 := by simpa using h
      simp only [push_cast, ↓reduceIte, reduceCtorEq, Nat.reduceBEq, reduceEqDiff, reduceAdd, reduceSub, reduceLT, reduceLeDiff, reduceMul]
      rw [decide_eq_true (show beside z r lx ly ux uy from .inl hbe)]
     ·have hne : ¬ (mxN (hx z r) 6 < lx ∨ ux < mnN (hx z r) 6) := by
       have := h
       simp at this
       omega
      simp only [push_cast, ↓reduceIte, reduceCtorEq, Nat.reduceBEq, reduceEqDiff, reduceAdd, reduceSub, reduceLT, reduceLeDiff, reduceMul]
      refine ⟨⟨1, .inr (.inl ⟨rfl, hne⟩), rfl⟩, by decide⟩
  ·obtain ⟨rfl, hn⟩ := hi
   have g0 : decide ((1 : Int) < 2) = true := rfl
   simp only [g0, hexL_lenI, hexL_at z r 6 0 (by decide), Int.reduceToNat, push_cast, ↓reduceIte, reduceCtorEq, Nat.reduceBEq, reduceEqDiff, reduceAdd, reduceSub, reduceLT, reduceLeDiff, reduceMul]
   repeat refine And.intro (by first | decide | kernel_rfl) ?_
   refine run_loop [(25, false), (24, false), (23, false), (6, false), (7, false), (5, false), (2, false), (1, false), (10, false)] (fun vs pos los => ∃ k : Nat, k ≤ 6 ∧ vs = [int .i64 k, int .i64 6, hexS z r, int .i64 (mnN (hy z r) k), int .i64 (mxN (hy z r) k), int .i64 1, .ptr 2000000 0 0, hexS z r, int .i64 1] ∧ pos = [] ∧
    los = [.box [int .i64 lx, int .i64 ly, int .i64 ux, int .i64 uy]])
    (fun vs _ _ => match vs with | .r (.v (.int _ j)) :: _ => (6 - j).toNat | _ => 0) rfl ?_ ?_
   ·simp only [push_cast, ↓reduceIte, reduceCtorEq, Nat.reduceBEq, reduceEqDiff, reduceAdd, reduceSub, reduceLT, reduceLeDiff, reduceMul]
    exact ⟨0, by omega, rfl⟩
   ·rintro vs pos los ⟨k, hk, rfl, rfl, rfl⟩
    simp only [push_cast, ↓reduceIte, reduceCtorEq, Nat.reduceBEq, reduceEqDiff, reduceAdd, reduceSub, reduceLT, reduceLeDiff, reduceMul]
    refine cnd_mk (fun h => ?_) (fun h => ?_)
    ·have hi : k < 6 := by simp at h; omega
     simp only [hexL_lenI, Int.toNat_natCast, hexL_at z r 6 k hi, Int.reduceToNat, push_cast, ↓reduceIte, reduceCtorEq, Nat.reduceBEq, reduceEqDiff, reduceAdd, reduceSub, reduceLT, reduceLeDiff, reduceMul]
     rw [show IntKind.i64.wrap ((k : Int) + 1) = ((k + 1 : Nat) : Int) by rw [wrap_id (by omega)]; omega]
     refine ⟨by omega, by decide, by decide, by kernel_rfl, ⟨k + 1, by omega, rfl⟩, by omega⟩
    ·have hi : k = 6 := by simp at h; omega
     subst hi
     simp only [Int.reduceToNat, push_cast, ↓reduceIte, reduceCtorEq, Nat.reduceBEq, reduceEqDiff, reduceAdd, reduceSub, reduceLT, reduceLeDiff, reduceMul]
     repeat refine And.intro (by first | decide | exact fun _ => by decide | (simp +contextual; done) | kernel_rfl) ?_
     refine cnd_mk (fun h => ?_) (fun h => ?_)
     ·have hbe : mxN (hy z r) 6 < ly ∨ uy < mnN (hy z r) 6 := by simpa using h
      simp only [push_cast, ↓reduceIte, reduceCtorEq, Nat.reduceBEq, reduceEqDiff, reduceAdd, reduceSub, reduceLT, reduceLeDiff, reduceMul]
      rw [decide_eq_true (show beside z r lx ly ux uy from .inr hbe)]
     ·have hne : ¬ (mxN (hy z r) 6 < ly ∨ uy < mnN (hy z r) 6) := by
       have := h
       simp at this
       omega
      simp only [push_cast, ↓reduceIte, reduceCtorEq, Nat.reduceBEq, reduceEqDiff, reduceAdd, reduceSub, reduceLT, reduceLeDiff, reduceMul]
      refine ⟨⟨2, .inr (.inr ⟨rfl, fun hc => hc.elim hn hne⟩), rfl⟩, by decide⟩
  ·obtain ⟨rfl, hn⟩ := hi
   have g0 : decide ((2 : Int) < 2) = false := rfl
   simp only [g0, push_cast, ↓reduceIte, reduceCtorEq, Nat.reduceBEq, reduceEqDiff, reduceAdd, reduceSub, reduceLT, reduceLeDiff, reduceMul]
   rw [decide_eq_false hn]
def in32 (x : Int) : Prop := -4294967296 ≤ x ∧ x ≤ 4294967296
def in28 (x : Int) : Prop := -268435456 ≤ x ∧ x ≤ 268435456
def crP (p0 p1 q0 q1 x y : Int) : Int := (q0 - p0) * (y - p1) - (q1 - p1) * (x - p0)
theorem crP_in {p0 p1 q0 q1 x y : Int} (h0 : in32 p0) (h1 : in32 p1) (d0 : in28 (q0 - p0)) (d1 : in28 (q1 - p1)) (hx : in32 x) (hy : in32 y) :
  IntKind.i64.wrap (IntKind.i64.wrap (IntKind.i64.wrap (q0 - p0) * IntKind.i64.wrap (y - p1)) - IntKind.i64.wrap (IntKind.i64.wrap (q1 - p1) * IntKind.i64.wrap (x - p0))) = crP p0 p1 q0 q1 x y := by
 unfold in32 at h0 h1 hx hy
 unfold in28 at d0 d1
 have m1 := mul_in (n := 268435456) (m := 8589934592) d0 (y := y - p1) (by omega)
 have m2 := mul_in (n := 268435456) (m := 8589934592) d1 (y := x - p0) (by omega)
 unfold crP
 rw [show IntKind.i64.wrap (q0 - p0) = q0 - p0 from wrap_id (by omega), show IntKind.i64.wrap (q1 - p1) = q1 - p1 from wrap_id (by omega), show IntKind.i64.wrap (y - p1) = y - p1 from wrap_id (by omega), show IntKind.i64.wrap (x - p0) = x - p0 from wrap_id (by omega)]
 generalize (q0 - p0) * (y - p1) = A at *
 generalize (q1 - p1) * (x - p0) = B at *
 rw [show IntKind.i64.wrap A = A from wrap_id (by omega), show IntKind.i64.wrap B = B from wrap_id (by omega), wrap_id (by omega)]
def cnx (lx ux : Int) (i : Nat) : Int := if i = 0 ∨ i = 3 then lx else ux
def cny (ly uy : Int) (i : Nat) : Int := if i = 0 ∨ i = 1 then ly else uy
def cnL (lx ly ux uy : Int) : List RV := [pnt lx ly, pnt ux ly, pnt ux uy, pnt lx uy]
theorem cnL_at (lx ly ux uy : Int) (i : Nat) (h : i < 4) (d : RV) : (cnL lx ly ux uy).getD i d = .agg [.v (.int .i64 (cnx lx ux i)), .v (.int .i64 (cny ly uy i))] := by
 rcases (show i = 0 ∨ i = 1 ∨ i = 2 ∨ i = 3 by omega) with rfl | rfl | rfl | rfl <;> rfl
def outP (p0 p1 q0 q1 lx ly ux uy : Int) : Prop := ∀ i, i < 4 → crP p0 p1 q0 q1 (cnx lx ux i) (cny ly uy i) < 0
instance (p0 p1 q0 q1 lx ly ux uy : Int) : Decidable (outP p0 p1 q0 q1 lx ly ux uy) := inferInstanceAs (Decidable (∀ i, i < 4 → _))
theorem outside_t (lx ly ux uy p0 p1 q0 q1 : Int) (h1 : in32 lx) (h2 : in32 ly) (h3 : in32 ux) (h4 : in32 uy) (h5 : in32 p0) (h6 : in32 p1) (d0 : in28 (q0 - p0)) (d1 : in28 (q1 - p1)) :
  Triple Go.Proofs.Tryz.prog 149 [bxv lx ly ux uy, pv p0 p1, pv q0 q1] [] (bl (decide (outP p0 p1 q0 q1 lx ly ux uy))) [] := by
 refine cover_box_outside_triple rfl (by decide) ?_
 simp only [cover_box_outside_pc, bxv, pv, pnt, List.length_nil, push_cast, ↓reduceIte, reduceCtorEq, Nat.reduceBEq, reduceEqDiff, reduceAdd, reduceSub, reduceLT, reduceLeDiff, reduceMul]
 refine call_as (as' := [bxv lx ly ux uy]) rfl ?_
 refine call_mk (corners_t lx ly ux uy) rfl trivial ?_
 simp only [pnt, push_cast, ↓reduceIte, reduceCtorEq, Nat.reduceBEq, reduceEqDiff, reduceAdd, reduceSub, reduceLT, reduceLeDiff, reduceMul]
 refine run_loop [(12, false), (11, false), (10, false), (5, false), (4, false)] (fun vs pos los => ∃ i : Nat, i ≤ 4 ∧ (∀ j, j < i → crP p0 p1 q0 q1 (cnx lx ux j) (cny ly uy j) < 0) ∧ vs = [int .i64 i, int .i64 4, .own 2000000 0 0 4, .ptr 2000001 0 0, .ptr 2000002 0 0] ∧ pos = [] ∧
  los = [.row 2 (.agg [.v (.int .i64 0), .v (.int .i64 0)]) true true (cnL lx ly ux uy), .box [int .i64 q0, int .i64 q1], .box [int .i64 p0, int .i64 p1]])
  (fun vs _ _ => match vs with | .r (.v (.int _ j)) :: _ => (4 - j).toNat | _ => 0) rfl ?_ ?_
 ·simp only [push_cast, ↓reduceIte, reduceCtorEq, Nat.reduceBEq, reduceEqDiff, reduceAdd, reduceSub, reduceLT, reduceLeDiff, reduceMul]
  exact ⟨0, by omega, fun j hj => by omega, rfl, rfl⟩
 ·rintro vs pos los ⟨i, i4, hj, rfl, rfl, rfl⟩
  simp only [push_cast, ↓reduceIte, reduceCtorEq, Nat.reduceBEq, reduceEqDiff, reduceAdd, reduceSub, reduceLT, reduceLeDiff, reduceMul]
  refine cnd_mk (fun h => ?_) (fun h => ?_)
  ·have hi : i < 4 := by simp at h; omega
   have hcx : in32 (cnx lx ux i) := by unfold cnx; split <;> assumption
   have hcy : in32 (cny ly uy i) := by unfold cny; split <;> assumption
   simp only [Int.toNat_natCast, Nat.zero_add, cnL_at lx ly ux uy i hi, crP_in h5 h6 d0 d1 hcx hcy, Int.reduceToNat, push_cast, ↓reduceIte, reduceCtorEq, Nat.reduceBEq, reduceEqDiff, reduceAdd, reduceSub, reduceLT, reduceLeDiff, reduceMul]
   refine ⟨by omega, ?_⟩
   repeat refine And.intro (by first | decide | omega | kernel_rfl) ?_
   refine cnd_mk (fun h' => ?_) (fun h' => ?_)
   ·have hc : ¬ crP p0 p1 q0 q1 (cnx lx ux i) (cny ly uy i) < 0 := by simp at h'; omega
    simp only [push_cast, ↓reduceIte, reduceCtorEq, Nat.reduceBEq, reduceEqDiff, reduceAdd, reduceSub, reduceLT, reduceLeDiff, reduceMul]
    rw [decide_eq_false (show ¬ outP p0 p1 q0 q1 lx ly ux uy from fun c => hc (c i hi))]
   ·have hc : crP p0 p1 q0 q1 (cnx lx ux i) (cny ly uy i) < 0 := by simp at h'; omega
    simp only [push_cast, ↓reduceIte, reduceCtorEq, Nat.reduceBEq, reduceEqDiff, reduceAdd, reduceSub, reduceLT, reduceLeDiff, reduceMul]
    rw [show IntKind.i64.wrap ((i : Int) + 1) = ((i + 1 : Nat) : Int) by rw [wrap_id (by omega)]; omega]
    refine ⟨⟨i + 1, by omega, fun j hj' => ?_, rfl⟩, by omega⟩
    by_cases hji : j = i
    ·subst hji; exact hc
    ·exact hj j (by omega)
  ·have hi : i = 4 := by simp at h; omega
   subst hi
   simp only [push_cast, ↓reduceIte, reduceCtorEq, Nat.reduceBEq, reduceEqDiff, reduceAdd, reduceSub, reduceLT, reduceLeDiff, reduceMul]
   rw [decide_eq_true (show outP p0 p1 q0 q1 lx ly ux uy from hj)]
theorem outP_iff (z : Ei) (r i j : Nat) (lx ly ux uy : Int) (hj : j = (i + 1) % 6) : outP (hx z r i) (hy z r i) (hx z r j) (hy z r j) lx ly ux uy ↔ outs z r lx ly ux uy i := by
 subst hj
 have e : ∀ x y, crP (hx z r i) (hy z r i) (hx z r ((i + 1) % 6)) (hy z r ((i + 1) % 6)) x y = crs z r i ((i + 1) % 6) x y := fun x y => by
  simp only [crP, crs]
  rw [show hx z r ((i + 1) % 6) - hx z r i = kx r ((i + 1) % 6) - kx r i by rw [hx_eq, hx_eq]; omega, show hy z r ((i + 1) % 6) - hy z r i = ky r ((i + 1) % 6) - ky r i by rw [hy_eq, hy_eq]; omega]
 simp only [outP, outs, e]
 constructor
 ·intro h
  exact ⟨h 0 (by decide), h 1 (by decide), h 2 (by decide), h 3 (by decide)⟩
 ·rintro ⟨h0, h1, h2, h3⟩ k hk
  rcases (show k = 0 ∨ k = 1 ∨ k = 2 ∨ k = 3 by omega) with rfl | rfl | rfl | rfl
  ·exact h0
  ·exact h1
  ·exact h2
  ·exact h3
theorem btouches_t (z : Ei) (r : Nat) (hr : r ≤ 12) (lx ly ux uy : Int) (hb : hexIn z r) (h1 : in32 lx) (h2 : in32 ly) (h3 : in32 ux) (h4 : in32 uy) : Triple Go.Proofs.Tryz.prog 116 [bxv lx ly ux uy, hexS z r] [] (bl (touch z r lx ly ux uy)) [] := by
 refine cover_box_touches_triple rfl (by decide) ?_
 simp only [cover_box_touches_pc, bxv, List.length_nil, push_cast, ↓reduceIte, reduceCtorEq, Nat.reduceBEq, reduceEqDiff, reduceAdd, reduceSub, reduceLT, reduceLeDiff, reduceMul]
 refine call_as (as' := [bxv lx ly ux uy, hexS z r]) rfl ?_
 refine call_mk (beside_t z r lx ly ux uy hb) rfl trivial ?_
 by_cases hbe : beside z r lx ly ux uy
 ·rw [decide_eq_true hbe]
  simp only [push_cast, ↓reduceIte, reduceCtorEq, Nat.reduceBEq, reduceEqDiff, reduceAdd, reduceSub, reduceLT, reduceLeDiff, reduceMul]
  rw [beside_no hbe]
 ·rw [decide_eq_false hbe]
  simp only [hexL_lenI, push_cast, ↓reduceIte, reduceCtorEq, Nat.reduceBEq, reduceEqDiff, reduceAdd, reduceSub, reduceLT, reduceLeDiff, reduceMul]
  refine run_loop [(12, false), (11, false), (10, false), (2, false), (1, false)] (fun vs pos los => ∃ i : Nat, i ≤ 6 ∧ (∀ j, j < i → ¬ outs z r lx ly ux uy j) ∧ vs = [int .i64 i, int .i64 6, hexS z r, .ptr 2000000 0 0, hexS z r] ∧ pos = [] ∧
   los = [.box [int .i64 lx, int .i64 ly, int .i64 ux, int .i64 uy]])
   (fun vs _ _ => match vs with | .r (.v (.int _ j)) :: _ => (6 - j).toNat | _ => 0) rfl ?_ ?_
  ·simp only [push_cast, ↓reduceIte, reduceCtorEq, Nat.reduceBEq, reduceEqDiff, reduceAdd, reduceSub, reduceLT, reduceLeDiff, reduceMul]
   exact ⟨0, by omega, fun j hj => by omega, rfl⟩
  ·rintro vs pos los ⟨i, i6, hj, rfl, rfl, rfl⟩
   simp only [push_cast, ↓reduceIte, reduceCtorEq, Nat.reduceBEq, reduceEqDiff, reduceAdd, reduceSub, reduceLT, reduceLeDiff, reduceMul]
   refine cnd_mk (fun h => ?_) (fun h => ?_)
   ·have hi : i < 6 := by simp at h; omega
    obtain ⟨J, hJ⟩ : ∃ J, J = (i + 1) % 6 := ⟨_, rfl⟩
    have hJ6 : J < 6 := by omega
    have hm : (IntKind.i64.wrap ((i : Int) + 1)).tmod 6 = (J : Int) := by
     rw [wrap_id (by omega), Int.tmod_eq_emod_of_nonneg (by omega)]; omega
    simp only [hexL_lenI, hm, Int.toNat_natCast, hexL_at z r 6 i hi, hexL_at z r 6 J hJ6, Int.reduceToNat, push_cast, ↓reduceIte, reduceCtorEq, Nat.reduceBEq, reduceEqDiff, reduceAdd, reduceSub, reduceLT, reduceLeDiff, reduceMul]
    refine ⟨by omega, ?_⟩
    repeat refine And.intro (by first | decide | omega | kernel_rfl) ?_
    refine dcall_as (as' := [bxv lx ly ux uy, pv (hx z r i) (hy z r i), pv (hx z r J) (hy z r J)]) rfl ?_
    have k1 := k_in r i hr hi
    have k2 := k_in r J hr hJ6
    refine dcall_mk (outside_t lx ly ux uy _ _ _ _ h1 h2 h3 h4 (hb i hi).1 (hb i hi).2 (by rw [hx_eq, hx_eq]; unfold in28; omega) (by rw [hy_eq, hy_eq]; unfold in28; omega)) rfl trivial ?_
    simp only [push_cast, ↓reduceIte, reduceCtorEq, Nat.reduceBEq, reduceEqDiff, reduceAdd, reduceSub, reduceLT, reduceLeDiff, reduceMul]
    repeat refine And.intro (by first | decide | omega | kernel_rfl) ?_
    have hio := outP_iff z r i J lx ly ux uy hJ
    refine cnd_mk (fun h' => ?_) (fun h' => ?_)
    ·have ho : outs z r lx ly ux uy i := hio.1 (by simpa using h')
     simp only [push_cast, ↓reduceIte, reduceCtorEq, Nat.reduceBEq, reduceEqDiff, reduceAdd, reduceSub, reduceLT, reduceLeDiff, reduceMul]
     have : touch z r lx ly ux uy = false := by
      simp only [touch, hbe, decide_false, Bool.not_false, Bool.true_and]
      rw [List.all_eq_false]
      exact ⟨i, List.mem_range.2 hi, by simp [ho]⟩
     rw [this]
    ·have ho : ¬ outs z r lx ly ux uy i := fun c => by
      have := hio.2 c
      simp [this] at h'
     simp only [push_cast, ↓reduceIte, reduceCtorEq, Nat.reduceBEq, reduceEqDiff, reduceAdd, reduceSub, reduceLT, reduceLeDiff, reduceMul]
     rw [show IntKind.i64.wrap ((i : Int) + 1) = ((i + 1 : Nat) : Int) by rw [wrap_id (by omega)]; omega]
     refine ⟨⟨i + 1, by omega, fun j hj' => ?_, rfl⟩, by omega⟩
     by_cases hji : j = i
     ·subst hji; exact ho
     ·exact hj j (by omega)
   ·have hi : i = 6 := by simp at h; omega
    subst hi
    simp only [push_cast, ↓reduceIte, reduceCtorEq, Nat.reduceBEq, reduceEqDiff, reduceAdd, reduceSub, reduceLT, reduceLeDiff, reduceMul]
    have : touch z r lx ly ux uy = true := by
     simp only [touch, hbe, decide_false, Bool.not_false, Bool.true_and, List.all_eq_true, List.mem_range, Bool.not_eq_true', decide_eq_false_iff_not]
     exact hj
    rw [this]
theorem take_hexL (z : Ei) (r : Nat) : List.take 6 (hexL z r 6) = hexL z r 6 := rfl
attribute [push_cast high] take_hexL
theorem ctouches_t (z : Ei) (r : Int) (h0 : 0 ≤ r) (hk : okc r.toNat z) (lx ly ux uy : Int) (hb : hexIn z r.toNat) (h1 : 0 ≤ lx ∧ lx ≤ ux ∧ ux ≤ 1073741824) (h2 : 0 ≤ ly ∧ ly ≤ uy ∧ uy ≤ 1073741824) :
  Triple Go.Proofs.Tryz.prog 76 [cel r z, pv lx ly, pv ux uy] [] (bl (touch z r.toNat (3 * lx) (3 * ly) (3 * ux) (3 * uy))) [] := by
 refine cover_Touches_triple rfl (by decide) ?_
 simp only [cover_Touches_pc, cel, pv, pnt, List.length_nil, push_cast, ↓reduceIte, reduceCtorEq, Nat.reduceBEq, reduceEqDiff, reduceAdd, reduceSub, reduceLT, reduceLeDiff, reduceMul]
 refine call_as (as' := [pv lx ly, pv ux uy]) rfl ?_
 refine call_mk (inThirds_t lx ly ux uy (by unfold in31; omega) (by unfold in31; omega) (by unfold in31; omega) (by unfold in31; omega) h1.2.1 h2.2.1) rfl trivial ?_
 simp only [bxv, push_cast, ↓reduceIte, reduceCtorEq, Nat.reduceBEq, reduceEqDiff, reduceAdd, reduceSub, reduceLT, reduceLeDiff, reduceMul]
 refine call_as (as' := [cel r z]) rfl ?_
 refine call_mk (cok_t r z h0 hk) rfl trivial ?_
 simp only [push_cast, ↓reduceIte, reduceCtorEq, Nat.reduceBEq, reduceEqDiff, reduceAdd, reduceSub, reduceLT, reduceLeDiff, reduceMul]
 have hr : r ≤ 12 := by have := hk.1; omega
 refine call_as (as' := [z.v, int .i64 r]) rfl ?_
 refine call_mk (hex_t z r hk.2.1 ⟨h0, hr⟩) rfl trivial ?_
 simp only [pnt, push_cast, ↓reduceIte, reduceCtorEq, Nat.reduceBEq, reduceEqDiff, reduceAdd, reduceSub, reduceLT, reduceLeDiff, reduceMul]
 refine callA_give ?_
 simp only [push_cast, ↓reduceIte, reduceCtorEq, Nat.reduceBEq, reduceEqDiff, reduceAdd, reduceSub, reduceLT, reduceLeDiff, reduceMul]
 refine call_as (as' := [bxv (3 * lx) (3 * ly) (3 * ux) (3 * uy), hexS z r.toNat]) rfl ?_
 refine call_mk (btouches_t z r.toNat hk.1 _ _ _ _ hb (by unfold in32; omega) (by unfold in32; omega) (by unfold in32; omega) (by unfold in32; omega)) rfl trivial ?_
 simp only [push_cast, ↓reduceIte, reduceCtorEq, Nat.reduceBEq, reduceEqDiff, reduceAdd, reduceSub, reduceLT, reduceLeDiff, reduceMul]

noncomputable def view_framed_pc : PC :=
  (.seq (.reg [p_a 1 (.box (.t 0)), p_a 2 (.new [(.r (.v (.int .i64 0))), (.r (.v (.int .i64 0))), (.r (.v (.int .i64 0))), (.r (.v (.int .i64 0)))])])
 (.seq (.reg [p_s 7 (.ld (some 4) (.t 1)), p_c 8 1 24 [.t 7], p_m 6 8, p_s 9 (.ext (.t 6) 0), p_s 10 (.ext (.t 6) 1), p_s 11 (.ext (.t 6) 2), p_m 3 9, p_m 4 10, p_m 5 11])
 (.seq (.reg [p_m 12 3, p_m 13 4, p_s 14 (.build [(.r (.v (.int .i64 0))), (.r (.v (.int .i64 0)))] [(0, 1, (.t 12)), (1, 1, (.t 13))]), p_m 15 3, p_m 16 5, p_s 17 (.bin .add (.t 15) (.t 16)),
 p_m 18 4, p_m 19 5, p_s 20 (.bin .add (.t 18) (.t 19)), p_s 21 (.build [(.r (.v (.int .i64 0))), (.r (.v (.int .i64 0)))] [(0, 1, (.t 17)), (1, 1, (.t 20))]), p_s 22 (.build [(.r (.v (.int .i64 0))), (.r (.v (.int .i64 0))), (.r (.v (.int .i64 0))), (.r (.v (.int .i64 0)))] [(0, 2, (.t 14)), (2, 2, (.t 21))]),
 ⟨none, none, 0, .act (.st 4 (.t 2) (.t 22))⟩])
 .ret)))
theorem view_framed_triple : Fun Go.Proofs.Tryz.prog 39 1 [(2, false, some (80, (some 4)))] view_framed_pc := fun_mk Go.Proofs.Tryz.func39 rfl (by decide) (by kernel_rfl) (by decide) rfl (by kernel_rfl) (by kernel_rfl) (by decide)
noncomputable def view_frame_touches_pc : PC :=
  (.seq (.reg [p_a 2 (.box (.t 0)), p_a 3 (.box (.t 1)), p_s 4 (.mov (.c (.r (.v (.bool false)))))])
 (.seq (.reg [p_s 5 (.ld (some 3) (.t 3)), p_s 6 (.fa 0 (.t 2)), p_s 7 (.ld (some 2) (.t 6)), p_s 8 (.fa 2 (.t 2)), p_s 9 (.ld (some 2) (.t 8)), p_c 10 1 76 [.t 5, .t 7, .t 9],
 p_m 4 10])
 .ret))
theorem view_frame_touches_triple : Fun Go.Proofs.Tryz.prog 40 2 [(4, false, none)] view_frame_touches_pc := fun_mk Go.Proofs.Tryz.func40 rfl (by decide) (by kernel_rfl) (by decide) rfl (by kernel_rfl) (by kernel_rfl) (by decide)
theorem side_in {z : Int} (h : 0 ≤ z ∧ z ≤ 18) : 4096 ≤ (2 : Int) ^ (30 - z).toNat ∧ (2 : Int) ^ (30 - z).toNat ≤ 1073741824 := by
 have h1 : 2 ^ (30 - z).toNat ≤ 2 ^ 30 := Nat.pow_le_pow_right (by decide) (by omega)
 have h2 : 2 ^ 12 ≤ 2 ^ (30 - z).toNat := Nat.pow_le_pow_right (by decide) (by omega)
 have h3 : ((2 ^ (30 - z).toNat : Nat) : Int) = (2 : Int) ^ (30 - z).toNat := by simp
 omega
theorem tile_in {t : Til} (h : tis t = true) : (0 ≤ t.x * 2 ^ (30 - t.z).toNat ∧ (t.x + 1) * 2 ^ (30 - t.z).toNat ≤ 1073741824) ∧ (0 ≤ t.y * 2 ^ (30 - t.z).toNat ∧ (t.y + 1) * 2 ^ (30 - t.z).toNat ≤ 1073741824) := by
 simp only [tis, decide_eq_true_eq] at h
 obtain ⟨z0, z1, r0, r1, x0, x1, y0, y1⟩ := h
 have hs := side_in ⟨z0, z1⟩
 have hpq : (2 : Int) ^ t.z.toNat * 2 ^ (30 - t.z).toNat = 1073741824 := by
  rw [← Int.pow_add, show t.z.toNat + (30 - t.z).toNat = 30 by omega]; rfl
 have hx : (t.x + 1) * 2 ^ (30 - t.z).toNat ≤ 1073741824 := by rw [← hpq]; exact Int.mul_le_mul_of_nonneg_right (by omega) (by omega)
 have hy : (t.y + 1) * 2 ^ (30 - t.z).toNat ≤ 1073741824 := by rw [← hpq]; exact Int.mul_le_mul_of_nonneg_right (by omega) (by omega)
 exact ⟨⟨Int.mul_nonneg x0 (by omega), hx⟩, Int.mul_nonneg y0 (by omega), hy⟩
theorem framed_t (t : Til) (h : tis t = true) : Triple Go.Proofs.Tryz.prog 39 [t.v] [] (bxv (t.x * 2 ^ (30 - t.z).toNat) (t.y * 2 ^ (30 - t.z).toNat) ((t.x + 1) * 2 ^ (30 - t.z).toNat) ((t.y + 1) * 2 ^ (30 - t.z).toNat)) [] := by
 refine view_framed_triple rfl (by decide) ?_
 have hi := tile_in h
 have hs := side_in (show 0 ≤ t.z ∧ t.z ≤ 18 by simp only [tis, decide_eq_true_eq] at h; omega)
 simp only [view_framed_pc, Til.v, bxv, List.length_nil, push_cast, ↓reduceIte, reduceCtorEq, Nat.reduceBEq, reduceEqDiff, reduceAdd, reduceSub, reduceLT, reduceLeDiff, reduceMul]
 refine call_as (as' := [t.v]) rfl ?_
 refine call_mk (origin_t t h) rfl trivial ?_
 simp only [push_cast, ↓reduceIte, reduceCtorEq, Nat.reduceBEq, reduceEqDiff, reduceAdd, reduceSub, reduceLT, reduceLeDiff, reduceMul]
 rw [Int.add_mul, Int.one_mul, Int.add_mul, Int.one_mul] at *
 rw [wrap_id (by omega), wrap_id (by omega)]
theorem ftouches_t (z : Ei) (r : Int) (h0 : 0 ≤ r) (hk : okc r.toNat z) (lx ly ux uy : Int) (hb : hexIn z r.toNat) (h1 : 0 ≤ lx ∧ lx ≤ ux ∧ ux ≤ 1073741824) (h2 : 0 ≤ ly ∧ ly ≤ uy ∧ uy ≤ 1073741824) :
  Triple Go.Proofs.Tryz.prog 40 [bxv lx ly ux uy, cel r z] [] (bl (touch z r.toNat (3 * lx) (3 * ly) (3 * ux) (3 * uy))) [] := by
 refine view_frame_touches_triple rfl (by decide) ?_
 simp only [view_frame_touches_pc, cel, bxv, List.length_nil, push_cast, ↓reduceIte, reduceCtorEq, Nat.reduceBEq, reduceEqDiff, reduceAdd, reduceSub, reduceLT, reduceLeDiff, reduceMul]
 refine call_as (as' := [cel r z, pv lx ly, pv ux uy]) rfl ?_
 refine call_mk (ctouches_t z r h0 hk lx ly ux uy hb h1 h2) rfl trivial ?_
 simp only [push_cast, ↓reduceIte, reduceCtorEq, Nat.reduceBEq, reduceEqDiff, reduceAdd, reduceSub, reduceLT, reduceLeDiff, reduceMul]
def tilR (z r : Int) (p : Int × Int) : RV := .agg [.v (.int .i64 z), .v (.int .i64 p.1), .v (.int .i64 p.2), .v (.int .i64 r)]
abbrev tilZ : RV := .agg [.v (.int .i64 0), .v (.int .i64 0), .v (.int .i64 0), .v (.int .i64 0)]
def tilsA (n : Nat) : AV := if n = 0 ∨ 10000 < n then .nils 4 tilZ else .own 1000000 0 0 n
def tilsO (z r : Int) (l : List (Int × Int)) : List Ob := if l.length = 0 ∨ 10000 < l.length then [] else [.row 4 tilZ true true (l.map (tilR z r))]
def pair2 (a c i : Int) : List AV := if i = 0 then [int .i64 0, int .i64 0] else if i = 1 then [int .i64 a, int .i64 0] else [int .i64 a, int .i64 c]

def in125 (x : Int) : Prop := -42535295865117307932921825928971026432 ≤ x ∧ x ≤ 42535295865117307932921825928971026432
def sg (x : Int) : Int := if x < 0 then -1 else if 0 < x then 1 else 0

def bxC (lx ly ux uy : Int) : List AV := [int .i64 (3 * lx), int .i64 (3 * ly), int .i64 (3 * ux), int .i64 (3 * ly), int .i64 (3 * ux), int .i64 (3 * uy), int .i64 (3 * lx), int .i64 (3 * uy)]

theorem word_cell (r : Nat) (z : Ei) (h : okc r z) : isWB (word r z) = true ∧ resW (word r z) = r ∧ down (word r z) r = z ∧ word r z < 18446744073709551616 := by
 refine ⟨isWB_word h, (word_isW r z h).2, ?_, word_lt r z h⟩
 rw [word_down r r z h (Nat.le_refl _), Nat.sub_self]
 rfl
theorem lies_hexIn {x y : Int} {z : Ei} {r : Nat} (hr : r ≤ 12) (hw : inW x y) (h : Lies x y z r) : hexIn z r := fun i hi => by
 have h1 := h.1
 have h2 := k_in r i hr hi
 unfold inW at hw
 rw [hx_eq, hy_eq]
 omega
structure TilF (x y : Int) (t : Til) (Z : Ei) (s last : Int) : Prop where
 b : 0 ≤ t.z ∧ t.z ≤ 18 ∧ 0 ≤ t.r ∧ t.r ≤ 12
 w : inW x y
 k : okc t.r.toNat Z
 l : Lies x y Z t.r.toNat
 h : hexIn Z t.r.toNat
 s1 : 4096 ≤ s ∧ s ≤ 1073741824
 l1 : 0 ≤ last ∧ last ≤ 262143
 same : docT Z t.r.toNat s last = progT Z t.r.toNat s last
 own : (t.x, t.y) ∈ progT Z t.r.toNat s last

theorem mnN_at (f : Nat → Int) : ∀ k, 0 < k → ∃ j, j < k ∧ mnN f k = f j
 | 0, h => by omega
 | 1, _ => ⟨0, by omega, by rw [mnN, mnN]; omega⟩
 | k + 2, _ => by
  obtain ⟨j, hj, e⟩ := mnN_at f (k + 1) (by omega)
  rw [mnN]
  rcases Int.le_total (mnN f (k + 1)) (f (k + 1)) with h | h
  ·exact ⟨j, by omega, by omega⟩
  ·exact ⟨k + 1, by omega, by omega⟩
theorem mxN_at (f : Nat → Int) : ∀ k, 0 < k → ∃ j, j < k ∧ mxN f k = f j
 | 0, h => by omega
 | 1, _ => ⟨0, by omega, by rw [mxN, mxN]; omega⟩
 | k + 2, _ => by
  obtain ⟨j, hj, e⟩ := mxN_at f (k + 1) (by omega)
  rw [mxN]
  rcases Int.le_total (mxN f (k + 1)) (f (k + 1)) with h | h
  ·exact ⟨k + 1, by omega, by omega⟩
  ·exact ⟨j, by omega, by omega⟩
section
variable (X Y A B C : Nat → Int)
def sd (i : Nat) (x y : Int) : Int := A i * y - B i * x - C i
def Tch (lx ly ux uy : Int) : Prop := ¬ (mxN X 6 < lx ∨ ux < mnN X 6) ∧ ¬ (mxN Y 6 < ly ∨ uy < mnN Y 6) ∧
 ∀ i, i < 6 → ¬ (sd A B C i lx ly < 0 ∧ sd A B C i ux ly < 0 ∧ sd A B C i ux uy < 0 ∧ sd A B C i lx uy < 0)
variable {X Y A B C}
theorem stripe (hc : ∀ i, i < 6 → ∀ j, j < 6 → 0 ≤ sd A B C i (X j) (Y j)) {ly uy : Int} (hy : ly ≤ uy) (h : ¬ (mxN Y 6 < ly ∨ uy < mnN Y 6)) :
  ∃ P Q W : Int, 0 < W ∧ (∀ i, i < 6 → 0 ≤ A i * Q - B i * P - C i * W) ∧ mnN X 6 * W ≤ P ∧ P ≤ mxN X 6 * W ∧ ly * W ≤ Q ∧ Q ≤ uy * W := by
 obtain ⟨j1, h1, e1⟩ := mnN_at Y 6 (by decide)
 obtain ⟨j2, h2, e2⟩ := mxN_at Y 6 (by decide)
 have a1 := mnN_le X 6 j1 h1
 have a2 := mnN_le X 6 j2 h2
 have b1 := mxN_ge X 6 j1 h1
 have b2 := mxN_ge X 6 j2 h2
 by_cases c1 : ly ≤ Y j1
 ·refine ⟨X j1, Y j1, 1, by omega, fun i hi => ?_, by omega, by omega, by omega, by omega⟩
  have := hc i hi j1 h1
  unfold sd at this
  omega
 ·by_cases c2 : Y j2 ≤ uy
  ·refine ⟨X j2, Y j2, 1, by omega, fun i hi => ?_, by omega, by omega, by omega, by omega⟩
   have := hc i hi j2 h2
   unfold sd at this
   omega
  ·obtain ⟨s, hs⟩ : ∃ s, Y j2 - ly = s := ⟨_, rfl⟩
   obtain ⟨t, ht⟩ : ∃ t, ly - Y j1 = t := ⟨_, rfl⟩
   have s0 : 0 ≤ s := by omega
   have t0 : 0 ≤ t := by omega
   refine ⟨s * X j1 + t * X j2, ly * (s + t), s + t, by omega, fun i hi => ?_, ?_, ?_, by omega, ?_⟩
   ·have g1 := Int.mul_nonneg s0 (hc i hi j1 h1)
    have g2 := Int.mul_nonneg t0 (hc i hi j2 h2)
    unfold sd at g1 g2
    have e : A i * (ly * (s + t)) - B i * (s * X j1 + t * X j2) - C i * (s + t) = s * (A i * Y j1 - B i * X j1 - C i) + t * (A i * Y j2 - B i * X j2 - C i) := by
     rw [show Y j1 = ly - t by omega, show Y j2 = ly + s by omega]
     simp only [Int.mul_add, Int.mul_sub, Int.add_mul, Int.sub_mul]
     simp only [Int.mul_comm, Int.mul_left_comm, Int.mul_assoc]
     omega
    rw [e]
    omega
   ·have g1 := Int.mul_le_mul_of_nonneg_left a1 s0
    have g2 := Int.mul_le_mul_of_nonneg_left a2 t0
    rw [Int.mul_add, Int.mul_comm _ s, Int.mul_comm _ t]
    omega
   ·have g1 := Int.mul_le_mul_of_nonneg_left b1 s0
    have g2 := Int.mul_le_mul_of_nonneg_left b2 t0
    rw [Int.mul_add, Int.mul_comm _ s, Int.mul_comm _ t]
    omega
   ·exact Int.mul_le_mul_of_nonneg_right hy (by omega)
theorem ends_neg {a k ly uy W Q : Int} (hW : 0 < W) (h1 : ly * W ≤ Q) (h2 : Q ≤ uy * W) (n1 : a * ly + k < 0) (n2 : a * uy + k < 0) : a * Q + k * W < 0 := by
 have m1 := Int.mul_lt_mul_of_pos_right n1 hW
 have m2 := Int.mul_lt_mul_of_pos_right n2 hW
 rw [Int.zero_mul, Int.add_mul, Int.mul_assoc] at m1 m2
 rcases Int.le_total 0 a with h | h
 ·have := Int.mul_le_mul_of_nonneg_left h2 h
  omega
 ·have := Int.mul_le_mul_of_nonpos_left h h1
  omega
theorem split_box (hc : ∀ i, i < 6 → ∀ j, j < 6 → 0 ≤ sd A B C i (X j) (Y j)) {lx ly m ux uy : Int} (h1 : lx ≤ m) (h2 : m ≤ ux) (hy : ly ≤ uy) (hT : Tch X Y A B C lx ly ux uy) :
  Tch X Y A B C lx ly m uy ∨ Tch X Y A B C m ly ux uy := by
 obtain ⟨t1, t2, t3⟩ := hT
 obtain ⟨P, Q, W, hW, hf, x1, x2, y1, y2⟩ := stripe hc hy t2
 apply Classical.byContradiction
 intro hn
 rw [not_or] at hn
 obtain ⟨n1, n2⟩ := hn
 have hl : m * W < P := by
  unfold Tch at n1
  by_cases c : mxN X 6 < lx ∨ m < mnN X 6
  ·have c' : m < mnN X 6 := by omega
   have := Int.mul_lt_mul_of_pos_right c' hW
   omega
  ·have : ∃ i, i < 6 ∧ (sd A B C i lx ly < 0 ∧ sd A B C i m ly < 0 ∧ sd A B C i m uy < 0 ∧ sd A B C i lx uy < 0) := by
    apply Classical.byContradiction
    intro hh
    exact n1 ⟨c, t2, fun i hi hq => hh ⟨i, hi, hq⟩⟩
   obtain ⟨i, hi, q1, q2, q3, q4⟩ := this
   have ho := t3 i hi
   have hfi := hf i hi
   unfold sd at *
   have hB : B i < 0 := by
    rcases Int.lt_or_le (B i) 0 with hb | hb
    ·exact hb
    ·have := Int.mul_le_mul_of_nonneg_left h2 hb
     omega
   rcases Int.lt_or_le (m * W) P with hp | hp
   ·exact hp
   ·have e1 := Int.mul_le_mul_of_nonpos_left (Int.le_of_lt hB) hp
    have e2 := ends_neg (a := A i) (k := - B i * m - C i) hW y1 y2 (by rw [Int.neg_mul]; omega) (by rw [Int.neg_mul]; omega)
    rw [Int.sub_mul, Int.neg_mul, Int.neg_mul, Int.mul_assoc] at e2
    omega
 have hr : P < m * W := by
  unfold Tch at n2
  by_cases c : mxN X 6 < m ∨ ux < mnN X 6
  ·have c' : mxN X 6 < m := by omega
   have := Int.mul_lt_mul_of_pos_right c' hW
   omega
  ·have : ∃ i, i < 6 ∧ (sd A B C i m ly < 0 ∧ sd A B C i ux ly < 0 ∧ sd A B C i ux uy < 0 ∧ sd A B C i m uy < 0) := by
    apply Classical.byContradiction
    intro hh
    exact n2 ⟨c, t2, fun i hi hq => hh ⟨i, hi, hq⟩⟩
   obtain ⟨i, hi, q1, q2, q3, q4⟩ := this
   have ho := t3 i hi
   have hfi := hf i hi
   unfold sd at *
   have hB : 0 < B i := by
    rcases Int.lt_or_le 0 (B i) with hb | hb
    ·exact hb
    ·have := Int.mul_le_mul_of_nonpos_left hb h1
     omega
   rcases Int.lt_or_le P (m * W) with hp | hp
   ·exact hp
   ·have e1 := Int.mul_le_mul_of_nonneg_left hp (Int.le_of_lt hB)
    have e2 := ends_neg (a := A i) (k := - B i * m - C i) hW y1 y2 (by rw [Int.neg_mul]; omega) (by rw [Int.neg_mul]; omega)
    rw [Int.sub_mul, Int.neg_mul, Int.neg_mul, Int.mul_assoc] at e2
    omega
 omega
theorem Tch.mono {lx ly ux uy lx' ly' ux' uy' : Int} (h : Tch X Y A B C lx' ly' ux' uy') (h1 : lx ≤ lx') (h2 : ux' ≤ ux) (h3 : ly ≤ ly') (h4 : uy' ≤ uy) (hx : lx' ≤ ux') (hy : ly' ≤ uy') : Tch X Y A B C lx ly ux uy := by
 obtain ⟨t1, t2, t3⟩ := h
 refine ⟨by omega, by omega, fun i hi hq => t3 i hi ?_⟩
 obtain ⟨q1, q2, q3, q4⟩ := hq
 have key : ∀ x y, lx ≤ x → x ≤ ux → ly ≤ y → y ≤ uy → sd A B C i x y < 0 := fun x y a b c d => by
  have := corner_up (A i) (B i) x y lx ly ux uy ⟨a, b⟩ ⟨c, d⟩
  unfold sd at *
  omega
 exact ⟨key _ _ (by omega) (by omega) (by omega) (by omega), key _ _ (by omega) (by omega) (by omega) (by omega), key _ _ (by omega) (by omega) (by omega) (by omega), key _ _ (by omega) (by omega) (by omega) (by omega)⟩
end

def eA (r i : Nat) : Int := kx r ((i + 1) % 6) - kx r i
def eB (r i : Nat) : Int := ky r ((i + 1) % 6) - ky r i
def eC (z : Ei) (r i : Nat) : Int := eA r i * hy z r i - eB r i * hx z r i
theorem convex0 : ∀ r, r < 13 → ∀ i, i < 6 → ∀ j, j < 6 → 0 ≤ eA r i * (ky r j - ky r i) - eB r i * (kx r j - kx r i) := by decide +kernel
theorem convex {z : Ei} {r : Nat} (hr : r < 13) : ∀ i, i < 6 → ∀ j, j < 6 → 0 ≤ sd (eA r) (eB r) (eC z r) i (hx z r j) (hy z r j) := fun i hi j hj => by
 have := convex0 r hr i hi j hj
 unfold sd eC
 rw [hx_eq z r j, hx_eq z r i, hy_eq z r j, hy_eq z r i, Int.mul_add, Int.mul_add, Int.mul_add, Int.mul_add]
 rw [Int.mul_sub, Int.mul_sub] at this
 omega
theorem touch_iff {z : Ei} {r : Nat} {lx ly ux uy : Int} : touch z r lx ly ux uy = true ↔ Tch (hx z r) (hy z r) (eA r) (eB r) (eC z r) lx ly ux uy := by
 unfold touch Tch
 rw [Bool.and_eq_true, Bool.not_eq_true', decide_eq_false_iff_not, List.all_eq_true]
 unfold beside
 simp only [Bool.not_eq_true', decide_eq_false_iff_not, List.mem_range, outs, crs_eq]
 unfold sd eC eA eB
 rw [not_or, and_assoc]
theorem swap_iff {X Y A B C : Nat → Int} {lx ly ux uy : Int} : Tch X Y A B C lx ly ux uy ↔ Tch Y X (fun i => - B i) (fun i => - A i) C ly lx uy ux := by
 unfold Tch sd
 simp only [Int.neg_mul]
 constructor
 ·rintro ⟨h1, h2, h3⟩
  exact ⟨h2, h1, fun i hi hq => h3 i hi (by omega)⟩
 ·rintro ⟨h1, h2, h3⟩
  exact ⟨h2, h1, fun i hi hq => h3 i hi (by omega)⟩
theorem touch_x {z : Ei} {r : Nat} (hr : r < 13) {lx ly m ux uy : Int} (h1 : lx ≤ m) (h2 : m ≤ ux) (hy : ly ≤ uy) (h : touch z r lx ly ux uy = true) : touch z r lx ly m uy = true ∨ touch z r m ly ux uy = true := by
 rw [touch_iff] at h ⊢
 rw [touch_iff]
 exact split_box (convex hr) h1 h2 hy h
theorem touch_y {z : Ei} {r : Nat} (hr : r < 13) {lx ly m ux uy : Int} (h1 : ly ≤ m) (h2 : m ≤ uy) (hx' : lx ≤ ux) (h : touch z r lx ly ux uy = true) : touch z r lx ly ux m = true ∨ touch z r lx m ux uy = true := by
 have hc : ∀ i, i < 6 → ∀ j, j < 6 → 0 ≤ sd (fun i => - eB r i) (fun i => - eA r i) (eC z r) i (hy z r j) (hx z r j) := fun i hi j hj => by
  have := convex (z := z) hr i hi j hj
  unfold sd at *
  rw [Int.neg_mul, Int.neg_mul]
  omega
 rcases split_box hc h1 h2 hx' (swap_iff.1 (touch_iff.1 h)) with h | h
 ·exact .inl (touch_iff.2 (swap_iff.2 h))
 ·exact .inr (touch_iff.2 (swap_iff.2 h))
theorem touch_mono {z : Ei} {r : Nat} {lx ly ux uy lx' ly' ux' uy' : Int} (h : touch z r lx' ly' ux' uy' = true) (h1 : lx ≤ lx') (h2 : ux' ≤ ux) (h3 : ly ≤ ly') (h4 : uy' ≤ uy) (hx : lx' ≤ ux') (hy : ly' ≤ uy') : touch z r lx ly ux uy = true := by
 rw [touch_iff] at h ⊢
 exact h.mono h1 h2 h3 h4 hx hy
theorem tch_kids {z : Ei} {r : Nat} (hr : r < 13) {h i k : Int} (hh : 0 < h) :
  tch z r (2 * h) i k = (tch z r h (2 * i) (2 * k) || tch z r h (2 * i + 1) (2 * k) || tch z r h (2 * i) (2 * k + 1) || tch z r h (2 * i + 1) (2 * k + 1)) := by
 have e : ∀ a : Int, a * (2 * h) = 2 * (a * h) := fun a => by rw [Int.mul_left_comm]
 have e1 : ∀ a : Int, 2 * a * h = 2 * (a * h) := fun a => Int.mul_assoc ..
 rw [Bool.eq_iff_iff]
 simp only [Bool.or_eq_true]
 unfold tch
 simp only [Int.add_mul, Int.one_mul, e, e1]
 generalize i * h = I
 generalize k * h = K
 constructor
 ·intro ht
  rcases touch_x hr (m := 3 * (2 * I + h)) (by omega) (by omega) (by omega) ht with ht | ht
  ·rcases touch_y hr (m := 3 * (2 * K + h)) (by omega) (by omega) (by omega) ht with ht | ht
   ·exact .inl (.inl (.inl ht))
   ·refine .inl (.inr ?_)
    rw [show 3 * (2 * K + h + h) = 3 * (2 * (K + h)) by omega]
    exact ht
  ·rcases touch_y hr (m := 3 * (2 * K + h)) (by omega) (by omega) (by omega) ht with ht | ht
   ·refine .inl (.inl (.inr ?_))
    rw [show 3 * (2 * I + h + h) = 3 * (2 * (I + h)) by omega]
    exact ht
   ·refine .inr ?_
    rw [show 3 * (2 * I + h + h) = 3 * (2 * (I + h)) by omega, show 3 * (2 * K + h + h) = 3 * (2 * (K + h)) by omega]
    exact ht
 ·rintro (((ht | ht) | ht) | ht) <;> exact touch_mono ht (by omega) (by omega) (by omega) (by omega) (by omega) (by omega)

noncomputable def tree_Less_pc : PC :=
  (.seq (.reg [p_a 2 (.box (.t 0)), p_a 3 (.box (.t 1)), p_s 4 (.mov (.c (.r (.v (.bool false)))))])
 (.seq (.block 0 (.seq (.reg [p_s 6 (.fa 0 (.t 2)), p_s 7 (.ld none (.t 6)), p_s 8 (.fa 0 (.t 3)), p_s 9 (.ld none (.t 8)), p_s 10 (.bin .neq (.t 7) (.t 9)), p_m 5 10])
 (.cond (.t 5)
 (.seq (.reg [p_s 11 (.fa 0 (.t 2)), p_s 12 (.ld none (.t 11)), p_s 13 (.fa 0 (.t 3)), p_s 14 (.ld none (.t 13)), p_s 15 (.bin .lss (.t 12) (.t 14)), p_m 4 15])
 .ret)
 (.seq (.reg [p_s 17 (.fa 1 (.t 2)), p_s 18 (.ld none (.t 17)), p_s 19 (.fa 1 (.t 3)), p_s 20 (.ld none (.t 19)), p_s 21 (.bin .neq (.t 18) (.t 20)), p_m 16 21])
 (.cond (.t 16)
 (.seq (.reg [p_s 22 (.fa 1 (.t 2)), p_s 23 (.ld none (.t 22)), p_s 24 (.fa 1 (.t 3)), p_s 25 (.ld none (.t 24)), p_s 26 (.bin .lss (.t 23) (.t 25)), p_m 4 26])
 .ret)
 .skip)))))
 (.seq (.reg [p_s 27 (.fa 2 (.t 2)), p_s 28 (.ld none (.t 27)), p_s 29 (.fa 2 (.t 3)), p_s 30 (.ld none (.t 29)), p_s 31 (.bin .lss (.t 28) (.t 30)), p_m 4 31])
 .ret)))
theorem tree_Less_triple : Fun Go.Proofs.Tryz.prog 141 2 [(4, false, none)] tree_Less_pc := fun_mk Go.Proofs.Tryz.func141 rfl (by decide) (by kernel_rfl) (by decide) rfl (by kernel_rfl) (by kernel_rfl) (by decide)
noncomputable def sort_Search_pc : PC :=
  (.seq (.reg [p_s 4 (.mov (o_i 0))])
 (.seq (.reg [p_m 8 0, p_s 5 (.mov (o_i 0)), p_m 6 8])
 (.seq (.block 0 (.loop (.seq (.seq (.reg [p_m 9 5, p_m 10 6, p_s 11 (.bin .lss (.t 9) (.t 10))])
 (.cond (.t 11)
 .skip
 (.exit 0)))
 (.block 1 (.seq (.reg [p_m 12 5, p_m 13 6, p_s 14 (.bin .add (.t 12) (.t 13)), p_s 15 (.conv .u64 (.t 14)), p_s 16 (.bin .shr (.t 15) (.c (.r (.v (.int .u64 1))))), p_s 17 (.conv .i64 (.t 16)),
 p_m 7 17])
 (.seq (.reg [p_m 18 1, p_m 19 7, ⟨(some 20), none, 1, .callv (.t 18) [(.t 19)]⟩, p_s 21 (.un .not (.t 20))])
 (.cond (.t 21)
 (.reg [p_m 22 7, p_s 23 (.bin .add (.t 22) (o_i 1)), p_m 5 23])
 (.reg [p_m 24 7, p_m 6 24]))))))))
 (.seq (.reg [p_m 25 5, p_m 4 25])
 .ret))))
theorem sort_Search_triple : Fun Go.Proofs.Tryz.prog 139 2 [(4, false, none)] sort_Search_pc := fun_mk Go.Proofs.Tryz.func139 rfl (by decide) (by kernel_rfl) (by decide) rfl (by kernel_rfl) (by kernel_rfl) (by decide)
noncomputable def tree_find_1_pc : PC :=
  (.seq (.reg [p_s 4 (.mov (.c (.r (.v (.bool false)))))])
 (.seq (.drw [p_s 5 (.ld none (.t 1)), p_m 6 0, p_s 7 (.ia 3 (.agg [(.v (.int .u64 0)), (.v (.int .i64 0)), (.v (.int .i64 0))]) (.t 5) (.t 6)), p_s 8 (.ld (some 3) (.t 7)), p_s 9 (.ld (some 3) (.t 2)),
 p_c 10 1 141 [.t 8, .t 9], p_s 11 (.un .not (.t 10)), p_m 4 11]
 [[], [], [0, 1], [0, 1, 2], [], [0, 1, 2, 3, 4], [0, 1, 2, 3, 4, 5], [0, 1, 2, 3, 4, 5, 6]])
 .ret))
theorem tree_find_1_triple : Fun Go.Proofs.Tryz.prog 142 3 [(4, false, none)] tree_find_1_pc := fun_mk Go.Proofs.Tryz.func142 rfl (by decide) (by kernel_rfl) (by decide) rfl (by kernel_rfl) (by kernel_rfl) (by decide)
noncomputable def tree_find_pc : PC :=
  (.seq (.reg [p_a 2 (.box (.t 0)), p_a 3 (.box (.t 1)), p_s 4 (.mov (o_i 0)), p_s 5 (.mov (.c (.r (.v (.bool false)))))])
 (.seq (.reg [p_s 7 (.ld none (.t 2)), p_s 8 (.len false (.t 7)), p_s 9 (.mkf (.func 142) [(.t 2), (.t 3)]), p_c 10 1 139 [.t 8, .t 9], p_m 6 10])
 (.seq (.drw [p_m 11 6, p_m 12 6, p_s 13 (.ld none (.t 2)), p_s 14 (.len false (.t 13)), p_s 15 (.bin .lss (.t 12) (.t 14)), p_m 16 15, p_g 17 16 true (.ld none (.t 2)), p_g 18 16 true (.mov (.t 6)),
 p_g 19 16 true (.ia 3 (.agg [(.v (.int .u64 0)), (.v (.int .i64 0)), (.v (.int .i64 0))]) (.t 17) (.t 18)), p_g 20 16 true (.ld (some 3) (.t 19)), p_g 21 16 true (.ld (some 3) (.t 3)),
 p_g 22 16 true (.eqa false [0, 0, 0] (.t 20) (.t 21)), p_s 23 (.pick (.t 16) (.t 22) (.c (.r (.v (.bool false))))), p_m 4 11, p_m 5 23]
 [[], [], [], [2], [1, 2, 3], [1, 2, 3, 4], [1, 2, 3, 4, 5], [1, 2, 3, 4, 5], [1, 2, 3, 4, 5, 6, 7], [1, 2, 3, 4, 5, 6, 7, 8], [1, 2, 3, 4, 5], [1, 2, 3, 4, 5, 6, 7, 8, 9, 10], [1, 2, 3, 4, 5, 6, 7, 8, 9, 10, 11], [0, 1, 2, 3, 4, 5], [0, 1, 2, 3, 4, 5, 6, 7, 8, 9, 10, 11, 12, 13]])
 .ret)))
theorem tree_find_triple : Fun Go.Proofs.Tryz.prog 108 2 [(4, false, none), (5, false, none)] tree_find_pc := fun_mk Go.Proofs.Tryz.func108 rfl (by decide) (by kernel_rfl) (by decide) rfl (by kernel_rfl) (by kernel_rfl) (by decide)
structure Ky where
 c : Int
 v : Int
 d : Int
deriving DecidableEq
def Ky.rv (k : Ky) : RV := .agg [.v (.int .u64 k.c), .v (.int .i64 k.v), .v (.int .i64 k.d)]
def Ky.av (k : Ky) : AV := .r k.rv
def kl (a b : Ky) : Bool := if a.c ≠ b.c then decide (a.c < b.c) else if a.v ≠ b.v then decide (a.v < b.v) else decide (a.d < b.d)
theorem less_t (a b : Ky) : Triple Go.Proofs.Tryz.prog 141 [a.av, b.av] [] (bl (kl a b)) [] := by
 refine tree_Less_triple rfl (by decide) ?_
 simp only [tree_Less_pc, Ky.av, Ky.rv, kl, List.length_nil, push_cast, ↓reduceIte, reduceCtorEq, Nat.reduceBEq, reduceEqDiff, reduceAdd, reduceSub, reduceLT, reduceLeDiff, reduceMul]
 refine cnd_mk (fun h1 => ?_) (fun h1 => ?_)
 ·simp only [push_cast, ↓reduceIte, reduceCtorEq, Nat.reduceBEq, reduceEqDiff, reduceAdd, reduceSub, reduceLT, reduceLeDiff, reduceMul]
  simp at h1
  refine bl_iff ?_
  simp [h1]
 ·simp only [push_cast, ↓reduceIte, reduceCtorEq, Nat.reduceBEq, reduceEqDiff, reduceAdd, reduceSub, reduceLT, reduceLeDiff, reduceMul]
  simp at h1
  refine cnd_mk (fun h2 => ?_) (fun h2 => ?_)
  ·simp only [push_cast, ↓reduceIte, reduceCtorEq, Nat.reduceBEq, reduceEqDiff, reduceAdd, reduceSub, reduceLT, reduceLeDiff, reduceMul]
   simp at h2
   refine bl_iff ?_
   simp [h1, h2]
  ·simp only [push_cast, ↓reduceIte, reduceCtorEq, Nat.reduceBEq, reduceEqDiff, reduceAdd, reduceSub, reduceLT, reduceLeDiff, reduceMul]
   simp at h2
   refine bl_iff ?_
   simp [h1, h2]

theorem search_t (F : FuncId) (A B : List AV) (hA : hidL A = []) (hB : hidL B = []) (hfn : isFn Go.Proofs.Tryz.prog F = true) (p : Nat → Bool) (n r : Nat) (hn : n ≤ maxLen) (hr : r ≤ n)
  (h0 : ∀ i, i < r → p i = false) (h1 : ∀ i, r ≤ i → i < n → p i = true)
  (hF : ∀ i : Nat, i < n → Triple Go.Proofs.Tryz.prog F [int .i64 i, .ptr 1000000 0 0, .ptr 1000001 0 0] [.box A, .box B] (bl (p i)) [.box A, .box B]) :
  Triple Go.Proofs.Tryz.prog 139 [int .i64 n, .fn (.func F) [.ptr 1000000 0 0, .ptr 1000001 0 0] 0] [.box A, .box B] (int .i64 r) [.box A, .box B] := by
 refine sort_Search_triple rfl (by simp) ?_
 simp only [sort_Search_pc, List.length_nil, push_cast, ↓reduceIte, reduceCtorEq, Nat.reduceBEq, reduceEqDiff, reduceAdd, reduceSub, reduceLT, reduceLeDiff, reduceMul]
 have hmax := maxLen_big
 have iA : ∀ F, imL F A = A := fun F => imL_free F A hA
 have iB : ∀ F, imL F B = B := fun F => imL_free F B hB
 refine run_loop [(1, false), (5, false), (6, false)] (fun vs pos los => ∃ (lo hi : Int), 0 ≤ lo ∧ lo ≤ r ∧ (r : Int) ≤ hi ∧ hi ≤ n ∧
  vs = [.fn (.func F) [.ptr 1000000 0 0, .ptr 1000001 0 0] 0, int .i64 lo, int .i64 hi] ∧ pos = [.box A, .box B] ∧ los = [])
  (fun vs _ _ => match vs with | [_, .r (.v (.int _ a)), .r (.v (.int _ b))] => (b - a).toNat | _ => 0) rfl ?_ ?_
 ·simp only [hA, hB, iA, iB, hfn, List.nil_append, push_cast, ↓reduceIte, reduceCtorEq, Nat.reduceBEq, reduceEqDiff, reduceAdd, reduceSub, reduceLT, reduceLeDiff, reduceMul]
  refine ⟨0, n, by omega, by omega, by omega, by omega, ?_⟩
  simp
 ·rintro vs pos los ⟨lo, hi, l0, lr, rh, hn', rfl, rfl, rfl⟩
  simp only [hA, hB, iA, iB, hfn, List.nil_append, push_cast, ↓reduceIte, reduceCtorEq, Nat.reduceBEq, reduceEqDiff, reduceAdd, reduceSub, reduceLT, reduceLeDiff, reduceMul]
  refine cnd_mk (fun h => ?_) (fun h => ?_)
  ·simp only [hA, hB, iA, iB, hfn, List.nil_append, push_cast, ↓reduceIte, reduceCtorEq, Nat.reduceBEq, reduceEqDiff, reduceAdd, reduceSub, reduceLT, reduceLeDiff, reduceMul]
   have hlt : lo < hi := by simpa using h
   have hmx : (n : Int) ≤ 9223372036854775807 := by have := hn; simp only [maxLen] at this; omega
   have hw2 : IntKind.u64.wrap (IntKind.i64.wrap (lo + hi)) = lo + hi := by rw [IntKind.wrap_i64, IntKind.wrap_u64]; omega
   have hs : (lo + hi).fdiv (2 ^ min (Int.toNat 1) IntKind.u64.bits) = (lo + hi) / 2 := shr_u (lo + hi) 1 (by decide)
   have hw3 : IntKind.i64.wrap ((lo + hi) / 2) = (lo + hi) / 2 := wrap_id ⟨by omega, by omega⟩
   obtain ⟨M, hM⟩ : ∃ M : Nat, (lo + hi) / 2 = M := ⟨((lo + hi) / 2).toNat, by omega⟩
   rw [hM] at hw3
   simp only [hw2, hs, hM, hw3]
   refine ⟨by decide, call_mk (hF M (by omega)) rfl ⟨rfl, rfl, trivial⟩ ?_⟩
   simp only [hA, hB, iA, iB, hfn, List.nil_append, push_cast, ↓reduceIte, reduceCtorEq, Nat.reduceBEq, reduceEqDiff, reduceAdd, reduceSub, reduceLT, reduceLeDiff, reduceMul]
   have hw4 : IntKind.i64.wrap ((M : Int) + 1) = M + 1 := wrap_id ⟨by omega, by omega⟩
   refine cnd_mk (fun h2 => ?_) (fun h2 => ?_)
   ·simp only [hA, hB, iA, iB, hfn, hw4, List.nil_append, push_cast, ↓reduceIte, reduceCtorEq, Nat.reduceBEq, reduceEqDiff, reduceAdd, reduceSub, reduceLT, reduceLeDiff, reduceMul]
    have hp : p M = false := by simpa using h2
    have hMr : M < r := Nat.lt_of_not_le fun hle => by rw [h1 M hle (by omega)] at hp; cases hp
    refine ⟨⟨M + 1, hi, by omega, by omega, by omega, by omega, ?_⟩, by omega⟩
    simp
   ·simp only [hA, hB, iA, iB, hfn, List.nil_append, push_cast, ↓reduceIte, reduceCtorEq, Nat.reduceBEq, reduceEqDiff, reduceAdd, reduceSub, reduceLT, reduceLeDiff, reduceMul]
    have hp : p M = true := by simpa using h2
    have hMr : r ≤ M := Nat.le_of_not_lt fun hlt => by rw [h0 M hlt] at hp; cases hp
    refine ⟨⟨lo, M, by omega, by omega, by omega, by omega, ?_⟩, by omega⟩
    simp
  ·simp only [hA, hB, iA, iB, hfn, List.nil_append, push_cast, ↓reduceIte, reduceCtorEq, Nat.reduceBEq, reduceEqDiff, reduceAdd, reduceSub, reduceLT, reduceLeDiff, reduceMul]
   have hlt : ¬ lo < hi := by simpa using h
   have e : lo = r := by omega
   rw [e]

def keys (l : List Ky) : RV := .sl 3 (l.map Ky.rv)
def Ky.cs (k : Ky) : List AV := [int .u64 k.c, int .i64 k.v, int .i64 k.d]
theorem find1_t (l : List Ky) (k q : Ky) (i : Nat) (hi : i < l.length) (hq : l[i]? = some q) (hl : l.length ≤ maxLen) : Triple Go.Proofs.Tryz.prog 142 [int .i64 i, .ptr 1000000 0 0, .ptr 1000001 0 0] [.box [.r (keys l)], .box k.cs]
  (bl (!kl q k)) [.box [.r (keys l)], .box k.cs] := by
 refine tree_find_1_triple rfl (by simp) ?_
 have hg : (l.map Ky.rv).getD ((i : Int)).toNat (.agg [.v (.int .u64 0), .v (.int .i64 0), .v (.int .i64 0)]) = .agg [.v (.int .u64 q.c), .v (.int .i64 q.v), .v (.int .i64 q.d)] := by
  simp [List.getD, hq, Ky.rv]
 simp only [tree_find_1_pc, keys, Ky.cs, List.length_nil, List.length_map, hg, push_cast, ↓reduceIte, reduceCtorEq, Nat.reduceBEq, reduceEqDiff, reduceAdd, reduceSub, reduceLT, reduceLeDiff, reduceMul]
 refine And.intro ⟨by omega, by omega⟩ ?_
 refine dcall_mk (less_t q k) rfl trivial ?_
 simp only [push_cast, ↓reduceIte, reduceCtorEq, Nat.reduceBEq, reduceEqDiff, reduceAdd, reduceSub, reduceLT, reduceLeDiff, reduceMul]
 kernel_rfl
structure Plc (l : List Ky) (k : Ky) (r : Nat) : Prop where
 le : r ≤ l.length
 lo : ∀ (i : Nat) (q : Ky), i < r → l[i]? = some q → kl q k = true
 hi : ∀ (i : Nat) (q : Ky), r ≤ i → l[i]? = some q → kl q k = false
theorem find_t (l : List Ky) (k : Ky) (r : Nat) (hp : Plc l k r) (hl : l.length ≤ maxLen) : Triple Go.Proofs.Tryz.prog 108 [.r (keys l), k.av] []
  (.tup [int .i64 r, bl (decide (l[r]? = some k))]) [] := by
 refine tree_find_triple rfl (by decide) ?_
 have hF : ∀ i : Nat, i < l.length → Triple Go.Proofs.Tryz.prog 142 [int .i64 i, .ptr 1000000 0 0, .ptr 1000001 0 0] [.box [.r (keys l)], .box k.cs] (bl ((fun i => match l[i]? with | some q => !kl q k | none => true) i)) [.box [.r (keys l)], .box k.cs] := fun i hi => by
  have hq : l[i]? = some l[i] := by simp [hi]
  simp only [hq]
  exact find1_t l k _ i hi hq hl
 have hS := search_t 142 [.r (keys l)] k.cs rfl rfl rfl (fun i => match l[i]? with | some q => !kl q k | none => true) l.length r hl hp.le (fun i hi => by
  have hq : l[i]? = some (l[i]'(by have := hp.le; omega)) := by simp [show i < l.length by have := hp.le; omega]
  simp only [hq, hp.lo i _ hi hq]; rfl) (fun i hi hn => by
  have hq : l[i]? = some l[i] := by simp [hn]
  simp only [hq, hp.hi i _ hi hq]; rfl) hF
 simp only [tree_find_pc, keys, Ky.av, Ky.rv, List.length_nil, List.length_map, push_cast, ↓reduceIte, reduceCtorEq, Nat.reduceBEq, reduceEqDiff, reduceAdd, reduceSub, reduceLT, reduceLeDiff, reduceMul]
 refine call_mk hS rfl ⟨rfl, rfl, trivial⟩ ?_
 obtain ⟨q, hqd⟩ : ∃ q : Ky, q = (l[r]?).getD ⟨0, 0, 0⟩ := ⟨_, rfl⟩
 have hg : (l.map Ky.rv).getD ((r : Int)).toNat (.agg [.v (.int .u64 0), .v (.int .i64 0), .v (.int .i64 0)]) = .agg [.v (.int .u64 q.c), .v (.int .i64 q.v), .v (.int .i64 q.d)] := by
  rw [hqd]
  rcases hr : l[r]? with _ | q0 <;> simp [List.getD, hr, Ky.rv]
 simp only [keys, Ky.cs, List.length_map, hg, push_cast, ↓reduceIte, reduceCtorEq, Nat.reduceBEq, reduceEqDiff, reduceAdd, reduceSub, reduceLT, reduceLeDiff, reduceMul]
 refine ⟨fun h => ⟨by omega, by simpa using h⟩, by kernel_rfl, ?_⟩
 congr 4
 rcases hr : l[r]? with _ | q0
 ·have : ¬ r < l.length := fun h => by simp [h] at hr
  simp [this]
 ·have h1 := (List.getElem?_eq_some_iff.1 hr).1
  have h2 : q = q0 := by rw [hqd, hr]; rfl
  subst h2
  simp [h1]
  cases q; cases k
  simp
  rfl

noncomputable def tree_Tree_node_1_pc : PC :=
  (.seq (.reg [p_s 4 (.mov (.c (.r (.v (.bool false)))))])
 (.seq (.drw [p_s 5 (.ld (some 3) (.t 1)), p_s 6 (.ld none (.t 2)), p_s 7 (.nck (.t 6)), p_s 8 (.fa 0 (.t 7)), p_s 9 (.ld none (.t 8)), p_m 10 0, p_s 11 (.ia 1 (.sl 3 []) (.t 9) (.t 10)),
 p_s 12 (.ld none (.t 11)), p_s 13 (.ia 3 (.agg [(.v (.int .u64 0)), (.v (.int .i64 0)), (.v (.int .i64 0))]) (.t 12) (o_i 0)), p_s 14 (.ld (some 3) (.t 13)), p_c 15 1 141 [.t 5, .t 14],
 p_m 4 15]
 [[], [], [1], [1, 2], [1, 2, 3], [], [1, 2, 3, 4, 5], [1, 2, 3, 4, 5, 6], [1, 2, 3, 4, 5, 6, 7], [1, 2, 3, 4, 5, 6, 7, 8], [0, 1, 2, 3, 4, 5, 6, 7, 8, 9], [0, 1, 2, 3, 4, 5, 6, 7, 8, 9, 10]])
 .ret))
theorem tree_Tree_node_1_triple : Fun Go.Proofs.Tryz.prog 140 3 [(4, false, none)] tree_Tree_node_1_pc := fun_mk Go.Proofs.Tryz.func140 rfl (by decide) (by kernel_rfl) (by decide) rfl (by kernel_rfl) (by kernel_rfl) (by decide)
noncomputable def tree_Tree_node_pc : PC :=
  (.seq (.reg [p_a 2 (.box (.t 0)), p_a 3 (.box (.t 1)), p_s 4 (.mov (o_i 0))])
 (.seq (.reg [p_s 6 (.ld none (.t 2)), p_s 7 (.nck (.t 6)), p_s 8 (.fa 0 (.t 7)), p_s 9 (.ld none (.t 8)), p_s 10 (.len false (.t 9)), p_s 11 (.mkf (.func 140) [(.t 3), (.t 2)]),
 p_c 12 1 139 [.t 10, .t 11], p_m 5 12])
 (.seq (.reg [p_m 13 5, p_s 14 (.bin .sub (.t 13) (o_i 1)), p_s 15 (.mm true (.t 14) [(o_i 0)]), p_m 4 15])
 .ret)))
theorem tree_Tree_node_triple : Fun Go.Proofs.Tryz.prog 107 2 [(4, false, none)] tree_Tree_node_pc := fun_mk Go.Proofs.Tryz.func107 rfl (by decide) (by kernel_rfl) (by decide) rfl (by kernel_rfl) (by kernel_rfl) (by decide)
def tview (ns : List (List Ky)) (n : Int) : List RV := [.sl 1 (ns.map keys), .v (.int .i64 n)]
theorem node1_t (ns : List (List Ky)) (n : Int) (k q : Ky) (x : List Ky) (i : Nat) (hi : i < ns.length) (hx : ns[i]? = some (q :: x)) (hl : ns.length ≤ maxLen) (hl2 : (q :: x).length ≤ maxLen) :
  Triple Go.Proofs.Tryz.prog 140 [int .i64 i, .ptr 1000000 0 0, .ptr 1000001 0 0] [.box k.cs, .box [.rp (tview ns n)]] (bl (kl k q)) [.box k.cs, .box [.rp (tview ns n)]] := by
 refine tree_Tree_node_1_triple rfl (by simp) ?_
 have hg : (ns.map keys).getD ((i : Int)).toNat (.sl 3 []) = .sl 3 (q.rv :: x.map Ky.rv) := by
  simp [List.getD, hx, keys]
 have hg2 : (q.rv :: x.map Ky.rv).getD (Int.toNat 0) (.agg [.v (.int .u64 0), .v (.int .i64 0), .v (.int .i64 0)]) = .agg [.v (.int .u64 q.c), .v (.int .i64 q.v), .v (.int .i64 q.d)] := rfl
 simp only [tree_Tree_node_1_pc, tview, Ky.cs, List.length_nil, List.length_map, hg, hg2, push_cast, ↓reduceIte, reduceCtorEq, Nat.reduceBEq, reduceEqDiff, reduceAdd, reduceSub, reduceLT, reduceLeDiff, reduceMul]
 refine And.intro ⟨by omega, by omega⟩ (And.intro ⟨by omega, by omega⟩ ?_)
 refine dcall_mk (less_t k q) rfl trivial ?_
 simp only [push_cast, ↓reduceIte, reduceCtorEq, Nat.reduceBEq, reduceEqDiff, reduceAdd, reduceSub, reduceLT, reduceLeDiff, reduceMul]
 kernel_rfl
structure Nod (ns : List (List Ky)) (k : Ky) (r : Nat) : Prop where
 le : r ≤ ns.length
 len : ns.length ≤ maxLen
 ne : ∀ (i : Nat) (l : List Ky), ns[i]? = some l → l ≠ [] ∧ l.length ≤ maxLen
 lo : ∀ (i : Nat) (q : Ky) (x : List Ky), i < r → ns[i]? = some (q :: x) → kl k q = false
 hi : ∀ (i : Nat) (q : Ky) (x : List Ky), r ≤ i → ns[i]? = some (q :: x) → kl k q = true
def nodP (ns : List (List Ky)) (k : Ky) (i : Nat) : Bool := match ns[i]? with
 | some (q :: _) => kl k q
 | _ => true
theorem Nod.at_ {ns : List (List Ky)} {k : Ky} {r : Nat} (h : Nod ns k r) {i : Nat} (hi : i < ns.length) : ∃ q x, ns[i]? = some (q :: x) ∧ (q :: x).length ≤ maxLen := by
 have hq : ns[i]? = some ns[i] := by simp [hi]
 obtain ⟨h1, h2⟩ := h.ne i _ hq
 rcases hx : ns[i] with _ | ⟨q, x⟩
 ·exact absurd hx h1
 ·rw [hx] at hq h2
  exact ⟨q, x, hq, h2⟩
theorem node_t (ns : List (List Ky)) (n : Int) (k : Ky) (r : Nat) (h : Nod ns k r) : Triple Go.Proofs.Tryz.prog 107 [.rp (tview ns n), k.av] [] (int .i64 ((r - 1 : Nat) : Int)) [] := by
 refine tree_Tree_node_triple rfl (by decide) ?_
 have hS := search_t 140 k.cs [.rp (tview ns n)] rfl rfl rfl (nodP ns k) ns.length r h.len h.le (fun i hi => by
  obtain ⟨q, x, h1, _⟩ := h.at_ (i := i) (by have := h.le; omega)
  simp only [nodP, h1, h.lo i q x hi h1]) (fun i hi hn => by
  obtain ⟨q, x, h1, _⟩ := h.at_ hn
  simp only [nodP, h1, h.hi i q x hi h1]) (fun i hn => by
  obtain ⟨q, x, h1, h2⟩ := h.at_ hn
  simp only [nodP, h1]
  exact node1_t ns n k q x i hn h1 h.len h2)
 simp only [tree_Tree_node_pc, tview, Ky.av, Ky.rv, List.length_nil, List.length_map, push_cast, ↓reduceIte, reduceCtorEq, Nat.reduceBEq, reduceEqDiff, reduceAdd, reduceSub, reduceLT, reduceLeDiff, reduceMul]
 refine call_mk hS rfl ⟨rfl, rfl, trivial⟩ ?_
 simp only [tview, Ky.cs, List.length_map, push_cast, ↓reduceIte, reduceCtorEq, Nat.reduceBEq, reduceEqDiff, reduceAdd, reduceSub, reduceLT, reduceLeDiff, reduceMul]
 have hm : (ns.length : Int) ≤ 9223372036854775807 := by have := h.len; simp only [maxLen] at this; omega
 have hle := h.le
 rw [wrap_id ⟨by omega, by omega⟩, show max ((r : Int) - 1) 0 = ((r - 1 : Nat) : Int) by omega]


section
variable {P : Program} {w : World} {o : Oper} {a : Act} {K : Act → World → Prop} {Q : Exit → Act → World → Prop}
theorem fc_block {w : World} {g off size m m' c : Nat} {cs : Array Value} {e : TypeId} {fr : Nat × Nat} {news : List Value} (hg : w.heap[g]? = some (.cells cs e fr)) (hn : news.length = m * size)
  (hj : ∀ (j : Nat) (u : Value), news[j]? = some u → cs[off + j]? = some u) : ∀ W : World, W.heap = w.heap → (Builtin.firstCells size m (.slice (some ⟨g, off, none⟩) m' c)).run P W = .ok news.toArray W := fun W hW => by
 refine run_firstCells_some W size m ⟨g, off, none⟩ m' c news hn fun j u hu => ?_
 rw [addr_add]
 simp only [World.cell?, hW, hg, Option.isSome_none, Bool.false_eq_true, if_false]
 exact hj j u hu
theorem fc_none {w : World} {size m' c : Nat} {A : Option Addr} : ∀ W : World, W.heap = w.heap → (Builtin.firstCells size 0 (.slice A m' c)).run P W = .ok #[] W := fun W hW => by
 cases A <;> simp [Builtin.firstCells, loadCells, loadCellsFrom]
theorem keeps_row {g : Nat} {old cs : Array Value} {t : TypeId} {fr : Nat × Nat} (hg : w.heap[g]? = some (.cells old t fr)) : Keeps (· = g) w (w.setRow g cs) :=
  have h := mods_setRow (cs := cs) hg
  ⟨rfl, rfl, rfl, by simp [World.setRow], fun k hk hn => setRow_other w g k cs hn⟩
theorem keeps_one {w' : World} {x : Obj} {I : Nat → Prop} (h : OneMore w w' x) : Keeps I w w' := ⟨h.os, h.tape, h.output, by rw [h.heap]; simp, fun k hk _ => by rw [h.heap]; simp [Array.getElem?_push, Nat.ne_of_lt hk]⟩
theorem wp_app (x v : Operand) (t u : TypeId) (ho : o.op = .call { callee := .builtin .append, args := #[x, v], argTypes := #[t, u] }) {e d : TypeId} {inf : TypeInfo} {z : Value} {size bytes : Nat} (ht : P.underlying t = some (.slice e)) (hu : P.underlying u = some (.slice d))
    (hi : P.info? e = some inf) (hz : inf.zero = some z) (hzs : z.cells.size = inf.size) (hs : inf.size = size) (hby : inf.bytes = bytes) (g len cap : Nat) (hx : a.eval x = .slice (some ⟨g, 0, none⟩) len cap) (hc : 0 < cap) {cs : Array Value} {e' : TypeId} (hg : w.heap[g]? = some (.cells cs e' (0, 0)))
    (hsz : cap * size ≤ cs.size) (hlc : len ≤ cap) {A2 : Option Addr} {m c2 : Nat} (hv : a.eval v = .slice A2 m c2) (news : List Value) (hnew : ∀ W : World, W.heap = w.heap → (Builtin.firstCells size m (.slice A2 m c2)).run P W = .ok news.toArray W)
    (hn : news.length = m * size) (h1 : ∀ u ∈ news, u.oneCell' = true) (hmax : len + m ≤ maxLen) (hcap : cap ≤ maxLen) (hb : (len + m) * bytes ≤ 140737488355328)
    (h : ∀ (g' cap' : Nat) (cs' : Array Value) (e2 : TypeId) (w' : World), (g' = g ∨ g' = w.heap.size) → 0 < cap' → len + m ≤ cap' → cap' ≤ maxLen → w'.heap[g']? = some (.cells cs' e2 (0, 0)) → cap' * size ≤ cs'.size →
      (∀ j, j < (len + m) * size → cs'[j]? = (cs.toList.take (len * size) ++ news)[j]?) → Keeps (· = g) w w' → K (a.put o.dst (.slice (some ⟨g', 0, none⟩) (len + m) cap')) w') : o.wp P a w K Q := by
  subst hs; subst hby
  have hlt : len * inf.size ≤ cs.size := Nat.le_trans (Nat.mul_le_mul_right _ hlc) hsz
  have hol : (cs.toList.take (len * inf.size)).length = len * inf.size := by simp only [List.length_take, Array.length_toList]; exact Nat.min_eq_left hlt
  have hold := fc_block (P := P) (off := 0) (size := inf.size) (m := len) (m' := len) (c := cap) (news := cs.toList.take (len * inf.size)) hg hol (fun j u hu => by
    rw [List.getElem?_take] at hu
    split at hu
    · simpa using hu
    · cases hu)
  have hrun0 : ∀ r, (Builtin.append_ #[t, u] o.type #[.slice (some ⟨g, 0, none⟩) len cap, .slice A2 m c2]).run P w = r → (execOp a.eval o).run P w = r.andThen fun q w' => .ok (.value q) w' := by
    rintro r rfl
    simp [execOp, ho, resolve, invoke, builtin, hx, hv]
  unfold Oper.wp
  rcases run_app (P := P) (w := w) (ty := o.type) (A := some ⟨g, 0, none⟩) (A2 := A2) (len := len) (cap := cap) (m := m) (c2 := c2) (g := g) (cur := cs) (e' := e') (olds := cs.toList.take (len * inf.size)) (news := news) ht hu hi hz hzs hlc (fun _ => ⟨rfl, hg, hsz⟩)
      hold hol hnew hn h1 hmax hb with ⟨hroom, hr⟩ | ⟨hgrow, K', w', rest, hr, hK1, hK2, hom, hlen⟩
  · rw [hrun0 _ hr, if_pos hc]
    have hfit : len * inf.size + news.length ≤ cs.toList.length := by
      rw [hn, ← Nat.add_mul]; simp; exact Nat.le_trans (Nat.mul_le_mul_right _ hroom) hsz
    refine h g cap _ e' _ (.inl rfl) hc hroom hcap (setRow_heap w g cs _ e' _ hg) ?_ (fun j hj => ?_) (keeps_row hg)
    · simp only [List.size_toArray, splice_length hfit, Array.length_toList]; exact hsz
    · rw [List.getElem?_toArray, splice_at hfit, hn]
      rw [Nat.add_mul] at hj
      by_cases hj1 : len * inf.size ≤ j
      · rw [if_pos ⟨hj1, hj⟩, List.getElem?_append_right (by rw [hol]; exact hj1), hol]
      · rw [if_neg (fun q => hj1 q.1), List.getElem?_append_left (by rw [hol]; omega), List.getElem?_take, if_pos (by omega)]
  · rw [hrun0 _ hr]
    refine h w.heap.size K' _ e w' (.inr rfl) (by omega) hK1 hK2 hom.new ?_ (fun j hj => ?_) (keeps_one hom)
    · simp only [List.size_toArray, hlen]; exact Nat.le_refl _
    · rw [List.getElem?_toArray, List.getElem?_append_left]
      simp only [List.length_append, hol, hn, ← Nat.add_mul]
      exact hj
theorem wp_app0 (x v : Operand) (t u : TypeId) (ho : o.op = .call { callee := .builtin .append, args := #[x, v], argTypes := #[t, u] }) {e d : TypeId} {inf : TypeInfo} {z : Value} {size bytes : Nat} (ht : P.underlying t = some (.slice e)) (hu : P.underlying u = some (.slice d))
  (hi : P.info? e = some inf) (hz : inf.zero = some z) (hzs : z.cells.size = inf.size) (hs : inf.size = size) (hby : inf.bytes = bytes) {A : Option Addr} (hx : a.eval x = .slice A 0 0)
  {A2 : Option Addr} {m c2 : Nat} (hv : a.eval v = .slice A2 m c2) (hm : 0 < m) (news : List Value) (hnew : ∀ W : World, W.heap = w.heap → (Builtin.firstCells size m (.slice A2 m c2)).run P W = .ok news.toArray W)
  (hn : news.length = m * size) (h1 : ∀ u ∈ news, u.oneCell' = true) (hmax : m ≤ maxLen) (hb : m * bytes ≤ 140737488355328)
  (h : ∀ (cap' : Nat) (cs' : Array Value) (w' : World), m ≤ cap' → cap' ≤ maxLen → w'.heap[w.heap.size]? = some (.cells cs' e (0, 0)) → cap' * size ≤ cs'.size →
   (∀ j, j < m * size → cs'[j]? = news[j]?) → (∀ I, Keeps I w w') → K (a.put o.dst (.slice (some ⟨w.heap.size, 0, none⟩) m cap')) w') : o.wp P a w K Q := by
 subst hs; subst hby
 have hrun0 : ∀ r, (Builtin.append_ #[t, u] o.type #[.slice A 0 0, .slice A2 m c2]).run P w = r → (execOp a.eval o).run P w = r.andThen fun q w' => .ok (.value q) w' := by
  rintro r rfl
  simp [execOp, ho, resolve, invoke, builtin, hx, hv]
 unfold Oper.wp
 rcases run_app (P := P) (w := w) (ty := o.type) (A := A) (A2 := A2) (len := 0) (cap := 0) (m := m) (c2 := c2) (g := 0) (cur := #[]) (e' := 0) (olds := []) (news := news) ht hu hi hz hzs (Nat.le_refl _) (by simp)
   (fun W hW => fc_none (w := W) W rfl) (by simp) hnew hn h1 (by omega) (by rw [Nat.zero_add]; exact hb) with ⟨hroom, hr⟩ | ⟨hgrow, K', w', rest, hr, hK1, hK2, hom, hlen⟩
 ·omega
 ·rw [hrun0 _ hr]
  simp only [Nat.zero_add] at hK1
  refine (show K (a.put o.dst (.slice (some ⟨w.heap.size, 0, none⟩) (0 + m) K')) w' from ?_)
  rw [Nat.zero_add]
  refine h K' _ w' hK1 hK2 hom.new ?_ (fun j hj => ?_) fun I => keeps_one hom
  ·simp only [List.size_toArray, hlen]; exact Nat.le_refl _
  ·rw [List.getElem?_toArray, List.nil_append, List.getElem?_append_left]
   rw [hn]
   exact hj
theorem wp_cpy (x v : Operand) (t u : TypeId) (ho : o.op = .call { callee := .builtin .copy, args := #[x, v], argTypes := #[t, u] }) {e : TypeId} {inf : TypeInfo} {size : Nat} (ht : P.underlying t = some (.slice e))
    (hi : P.info? e = some inf) (hs : inf.size = size) (g d s m : Nat) {cs : Array Value} {e' : TypeId} (hg : w.heap[g]? = some (.cells cs e' (0, 0))) {D S : Option Addr} {dl dc sl sc : Nat} (hx : a.eval x = .slice D dl dc) (hv : a.eval v = .slice S sl sc)
    (hm : m = Nat.min sl dl) (hpos : 0 < m → D = some ⟨g, d, none⟩ ∧ S = some ⟨g, s, none⟩) (hd : d + m * size ≤ cs.size) (hsr : s + m * size ≤ cs.size) (h1 : ∀ u ∈ (cs.toList.drop s).take (m * size), u.oneCell' = true)
    (h : ∀ w', w'.heap[g]? = some (.cells (splice cs.toList d ((cs.toList.drop s).take (m * size))).toArray e' (0, 0)) → Keeps (· = g) w w' → K (a.put o.dst (goInt m)) w') : o.wp P a w K Q := by
  subst hs
  unfold Oper.wp
  have hrun0 : ∀ r, (Builtin.copy_ #[t, u] o.type #[.slice D dl dc, .slice S sl sc]).run P w = r → (execOp a.eval o).run P w = r.andThen fun q w' => .ok (.value q) w' := by
    rintro r rfl
    simp [execOp, ho, resolve, invoke, builtin, hx, hv]
  by_cases h0 : m = 0
  · subst h0
    have hr : (Builtin.copy_ #[t, u] o.type #[.slice D dl dc, .slice S sl sc]).run P w = .ok (goInt 0) w := by
      have hl : ∀ (x : Addr), (loadCells x 0).run P w = .ok #[] w := fun x => by simpa using run_loadCells_list (P := P) w x [] (by simp)
      cases D <;> cases S <;> simp [Builtin.copy_, run_underlying ht, Builtin.lenOf, Builtin.firstCells, sizeOf, typeInfo, hi, ← hm, storeCells, hl]
    rw [hrun0 _ hr]
    refine h w ?_ (Keeps.refl _ _)
    simp [splice, hg]
  · obtain ⟨rfl, rfl⟩ := hpos (by omega)
    have hln : ((cs.toList.drop s).take (m * inf.size)).length = m * inf.size := by simp; omega
    have hf := fc_block (P := P) (w := w) (off := s) (size := inf.size) (m := m) (m' := sl) (c := sc) (news := (cs.toList.drop s).take (m * inf.size)) hg hln (fun j u hu => by
      rw [List.getElem?_take] at hu
      split at hu
      · rw [List.getElem?_drop] at hu; simpa using hu
      · cases hu) w rfl
    have hst := run_sts (P := P) g d e' (0, 0) ((cs.toList.drop s).take (m * inf.size)) 0 cs w hg (by simp) (by rw [hln]; omega) h1
    have hr : (Builtin.copy_ #[t, u] o.type #[.slice (some ⟨g, d, none⟩) dl dc, .slice (some ⟨g, s, none⟩) sl sc]).run P w = .ok (goInt m) (w.setRow g (splice cs.toList d ((cs.toList.drop s).take (m * inf.size))).toArray) := by
      simp only [Nat.add_zero] at hst
      simp [Builtin.copy_, run_underlying ht, Builtin.lenOf, sizeOf, typeInfo, hi, ← hm, hf, hst, splice]
    rw [hrun0 _ hr]
    exact h _ (setRow_heap w g cs _ e' _ hg) (keeps_row hg)
end

def kc (k : Ky) : List Value := [.int .u64 k.c, .int .i64 k.v, .int .i64 k.d]
def flat (l : List Ky) : List Value := l.flatMap kc
theorem flat_length (l : List Ky) : (flat l).length = l.length * 3 := by
 induction l with
 | nil => rfl
 | cons k l ih => simp only [flat, List.flatMap_cons, List.length_append, List.length_cons] at ih ⊢; rw [ih]; simp [kc]; omega
theorem flat_get {l : List Ky} {i j : Nat} {k : Ky} (h : l[i]? = some k) (hj : j < 3) : (flat l)[i * 3 + j]? = (kc k)[j]? := by
 have : ∀ (l : List Ky) (i : Nat), l[i]? = some k → (flat l)[i * 3 + j]? = (kc k)[j]? := fun l => by
  induction l with
  | nil => intro i h; simp at h
  | cons q l ih =>
   intro i h
   cases i with
   | zero =>
    simp at h
    subst h
    simp only [flat, List.flatMap_cons]
    rw [List.getElem?_append_left (by simp [kc]; omega)]
    simp
   | succ i =>
    simp at h
    simp only [flat, List.flatMap_cons]
    rw [List.getElem?_append_right (by simp [kc]; omega), ← ih i h]
    congr 1
    simp [kc]
    omega
 exact this l i h
theorem flat_one {l : List Ky} : ∀ u ∈ flat l, u.oneCell' = true := fun u hu => by
 simp only [flat, List.mem_flatMap, kc] at hu
 obtain ⟨k, _, hk⟩ := hu
 simp at hk
 rcases hk with rfl | rfl | rfl <;> rfl
def RowK (w : World) (g : Nat) (l : List Ky) (c : Nat) : Prop := ∃ (cs : Array Value) (e : TypeId), w.heap[g]? = some (.cells cs e (0, 0)) ∧ c * 3 ≤ cs.size ∧ (∀ (j : Nat) (u : Value), (flat l)[j]? = some u → cs[j]? = some u) ∧ l.length ≤ c ∧ 0 < c ∧ c ≤ maxLen
theorem RowK.loc {w w' : World} {g c : Nat} {l : List Ky} (h : RowK w g l c) (hw : w'.heap[g]? = w.heap[g]?) : RowK w' g l c := by
 obtain ⟨cs, e, h1, h2⟩ := h
 exact ⟨cs, e, by rw [hw]; exact h1, h2⟩
theorem RowK.lt {w : World} {g c : Nat} {l : List Ky} (h : RowK w g l c) : g < w.heap.size := by
 obtain ⟨cs, e, h1, h2⟩ := h
 exact (Array.getElem?_eq_some_iff.1 h1).1
theorem RowK.rel {w : World} {g c : Nat} {l : List Ky} (h : RowK w g l c) {R : Nat → Prop} (hR : R g) : RelV w R (keys l) (.slice (some ⟨g, 0, none⟩) l.length c) := by
 obtain ⟨cs, e, h1, h2, h3, h4, h5, h6⟩ := h
 have key := RelV.sl (w := w) (R := R) 3 (l.map Ky.rv) (some ⟨g, 0, none⟩) c (by simpa using h4) h6 g 0 (fun i j => (cs[i * 3 + j]?).getD undef) (fun _ => ⟨rfl, hR⟩)
 have cell : ∀ (i : Nat) (x : RV) (j : Nat) (y : RV), (l.map Ky.rv)[i]? = some x → x.cells[j]? = some y → ∃ u, y = .v u ∧ cs[i * 3 + j]? = some u ∧ u.oneCell' = true := fun i x j y hi hj => by
  rw [List.getElem?_map, Option.map_eq_some_iff] at hi
  obtain ⟨k, hk, rfl⟩ := hi
  have hj3 : j < 3 := by have := (List.getElem?_eq_some_iff.1 hj).1; simpa [Ky.rv, RV.cells] using this
  have hf := flat_get hk hj3
  match j, hj3, hj, hf with
  | 0, _, hj, hf => simp [Ky.rv, RV.cells] at hj; subst hj; exact ⟨_, rfl, h3 _ _ hf, rfl⟩
  | 1, _, hj, hf => simp [Ky.rv, RV.cells] at hj; subst hj; exact ⟨_, rfl, h3 _ _ hf, rfl⟩
  | 2, _, hj, hf => simp [Ky.rv, RV.cells] at hj; subst hj; exact ⟨_, rfl, h3 _ _ hf, rfl⟩
 have := key (fun i x hi => by
   rw [List.getElem?_map, Option.map_eq_some_iff] at hi
   obtain ⟨k, hk, rfl⟩ := hi
   rfl) (fun i x j y hi hj => by
   obtain ⟨u, rfl, h, h'⟩ := cell i x j y hi hj
   simp only [World.cell?, h1, Option.isSome_none, Bool.false_eq_true, if_false, Nat.zero_add, h, Option.getD_some]
   exact ⟨trivial, h'⟩) (fun i x j y hi hj => by
   obtain ⟨u, rfl, h, h'⟩ := cell i x j y hi hj
   simp only [h, Option.getD_some]
   exact .v u)
 simpa [keys] using this
def adr (og : Option Nat) : Option Addr := og.map fun g => ⟨g, 0, none⟩
structure TL (w : World) (b : Nat) (og : Option Nat) (gs : List Nat) (cap : Nat) (ns : List (List Ky)) (n : Int) : Prop where
 hd : ∃ e, w.heap[b]? = some (.cells #[.slice (adr og) ns.length cap, .int .i64 n] e (0, 0))
 le : ns.length ≤ cap
 mx : cap ≤ maxLen
 no : og = none → cap = 0
 out : ∀ g, og = some g → 0 < cap ∧ ∃ cs e, w.heap[g]? = some (.cells cs e (0, 0)) ∧ cap ≤ cs.size ∧ ∀ (i g' : Nat) (l : List Ky), gs[i]? = some g' → ns[i]? = some l → ∃ c, cs[i]? = some (.slice (some ⟨g', 0, none⟩) l.length c) ∧ RowK w g' l c
 len : gs.length = ns.length
 nb : (b :: (og.toList ++ gs)).Nodup
def Ft (b : Nat) (og : Option Nat) (gs : List Nat) (x : Nat) : Prop := x = b ∨ og = some x ∨ x ∈ gs
section
variable {w w' : World} {b cap : Nat} {og : Option Nat} {gs : List Nat} {ns : List (List Ky)} {n : Int}
theorem TL.loc (h : TL w b og gs cap ns n) (hw : ∀ x, Ft b og gs x → w'.heap[x]? = w.heap[x]?) : TL w' b og gs cap ns n := by
 refine ⟨?_, h.le, h.mx, h.no, fun g hg => ?_, h.len, h.nb⟩
 ·obtain ⟨e, he⟩ := h.hd
  exact ⟨e, by rw [hw b (.inl rfl)]; exact he⟩
 ·obtain ⟨h0, cs, e, h1, h2, h4⟩ := h.out g hg
  refine ⟨h0, cs, e, by rw [hw g (.inr (.inl hg))]; exact h1, h2, fun i g' l hi hl => ?_⟩
  obtain ⟨c, h5, h6⟩ := h4 i g' l hi hl
  exact ⟨c, h5, h6.loc (hw g' (.inr (.inr (List.mem_of_getElem? hi))))⟩
theorem TL.lt (h : TL w b og gs cap ns n) : ∀ x, Ft b og gs x → x < w.heap.size := fun x hx => by
 rcases hx with rfl | hx | hx
 ·obtain ⟨e, he⟩ := h.hd
  exact (Array.getElem?_eq_some_iff.1 he).1
 ·obtain ⟨h0, cs, e, h1, _⟩ := h.out x hx
  exact (Array.getElem?_eq_some_iff.1 h1).1
 ·obtain ⟨i, hi⟩ := List.mem_iff_getElem?.1 hx
  have hin := (List.getElem?_eq_some_iff.1 hi).1
  rw [h.len] at hin
  rcases og with _ | g
  ·have := h.no rfl; have := h.le; omega
  ·obtain ⟨h0, cs, e, h1, h2, h4⟩ := h.out g rfl
   obtain ⟨c, _, h6⟩ := h4 i x ns[i] hi (by simp [hin])
   exact h6.lt
theorem TL.rel (h : TL w b og gs cap ns n) {R : Nat → Prop} (hR : ∀ x, Ft b og gs x → R x) : RelV w R (.sl 1 (ns.map keys)) (.slice (adr og) ns.length cap) := by
 rcases og with _ | g
 ·have h0 := h.no rfl
  have h1 := h.le
  have h2 : ns = [] := List.eq_nil_of_length_eq_zero (by omega)
  subst h2
  subst h0
  exact .sl 1 [] none 0 (by simp) (by simp) 0 0 (fun _ _ => undef) (by simp) (by simp) (by simp) (by simp)
 ·obtain ⟨h0, cs, e, h1, h2, h4⟩ := h.out g rfl
  have node : ∀ (i : Nat) (x : RV), (ns.map keys)[i]? = some x → ∃ l g' c, ns[i]? = some l ∧ x = keys l ∧ gs[i]? = some g' ∧ cs[i]? = some (.slice (some ⟨g', 0, none⟩) l.length c) ∧ RowK w g' l c := fun i x hi => by
   rw [List.getElem?_map, Option.map_eq_some_iff] at hi
   obtain ⟨l, hl, rfl⟩ := hi
   have hlt := (List.getElem?_eq_some_iff.1 hl).1
   have hg' : gs[i]? = some (gs[i]'(by rw [h.len]; exact hlt)) := by simp [h.len, hlt]
   obtain ⟨c, h5, h6⟩ := h4 i _ l hg' hl
   exact ⟨l, _, c, hl, rfl, hg', h5, h6⟩
  have key := RelV.sl (w := w) (R := R) 1 (ns.map keys) (some ⟨g, 0, none⟩) cap (by simpa using h.le) h.mx g 0 (fun i _ => (cs[i]?).getD undef) (fun _ => ⟨rfl, hR g (.inr (.inl rfl))⟩) (fun i x hi => by
    obtain ⟨l, g', c, _, rfl, _⟩ := node i x hi
    rfl) (fun i x j y hi hj => by
    obtain ⟨l, g', c, _, rfl, _, h5, _⟩ := node i x hi
    have : j = 0 := by have := (List.getElem?_eq_some_iff.1 hj).1; simp [keys, RV.cells] at this; exact this
    subst this
    simp only [World.cell?, h1, Option.isSome_none, Bool.false_eq_true, if_false, Nat.zero_add, Nat.mul_one, Nat.add_zero, h5, Option.getD_some]
    exact ⟨trivial, rfl⟩) (fun i x j y hi hj => by
    obtain ⟨l, g', c, _, rfl, h7, h5, h6⟩ := node i x hi
    have : j = 0 := by have := (List.getElem?_eq_some_iff.1 hj).1; simp [keys, RV.cells] at this; exact this
    subst this
    simp [keys, RV.cells] at hj
    subst hj
    simp only [h5, Option.getD_some]
    exact h6.rel (hR g' (.inr (.inr (List.mem_of_getElem? h7)))))
  simpa [adr] using key
theorem TL.rp (h : TL w b og gs cap ns n) {R : Nat → Prop} (hR : ∀ x, Ft b og gs x → R x) :
  ∃ g : Nat → Value, ∀ (j : Nat) (y : RV), (tview ns n)[j]? = some y → w.cell? ⟨b, 0 + j, none⟩ = some (g j) ∧ (g j).oneCell' = true ∧ RelV w R y (g j) := by
 obtain ⟨e, he⟩ := h.hd
 refine ⟨fun j => (#[Value.slice (adr og) ns.length cap, .int .i64 n][j]?).getD undef, fun j y hj => ?_⟩
 match j, hj with
 | 0, hj =>
  simp [tview] at hj
  subst hj
  refine ⟨by simp [World.cell?, he], rfl, h.rel hR⟩
 | 1, hj =>
  simp [tview] at hj
  subst hj
  exact ⟨by simp [World.cell?, he], rfl, .v _⟩
 | j + 2, hj => simp [tview] at hj
def fpt (og : Option Nat) (gs : List Nat) : Nat → Option Nat
 | 0 => og
 | j + 1 => gs[j]?
theorem fpt_iff {x : Nat} : (∃ j, fpt og gs j = some x) ↔ (og = some x ∨ x ∈ gs) := by
 constructor
 ·rintro ⟨j, hj⟩
  cases j with
  | zero => exact .inl hj
  | succ j => exact .inr (List.mem_of_getElem? hj)
 ·rintro (h | h)
  ·exact ⟨0, h⟩
  ·obtain ⟨i, hi⟩ := List.mem_iff_getElem?.1 h
   exact ⟨i + 1, hi⟩
end
def treeT (ns : List (List Ky)) (n : Int) : AbsT where
 size := 2
 Q w b φ := ∃ og gs cap, TL w b og gs cap ns n ∧ φ = fpt og gs
 loc := by
  rintro w w' b φ ⟨og, gs, cap, h, rfl⟩ hb hj
  refine ⟨og, gs, cap, h.loc fun x hx => ?_, rfl⟩
  rcases hx with rfl | hx
  ·exact hb
  ·obtain ⟨j, hj'⟩ := fpt_iff.2 hx
   exact hj j x hj'
 root := by
  rintro w b φ ⟨og, gs, cap, h, rfl⟩
  obtain ⟨e, he⟩ := h.hd
  exact ⟨_, e, he, rfl⟩
 lt := by
  rintro w b φ ⟨og, gs, cap, h, rfl⟩ j c hj
  exact h.lt c (.inr (fpt_iff.1 ⟨j, hj⟩))
 view := tview ns n
 rp := by
  rintro w b φ R ⟨og, gs, cap, h, rfl⟩ hb hj
  refine h.rp fun x hx => ?_
  rcases hx with rfl | hx
  ·exact hb
  ·obtain ⟨j, hj'⟩ := fpt_iff.2 hx
   exact hj j x hj'

theorem glT (w : World) : Gl Go.Proofs.Tryz.prog w fun _ => False := gl_none (by kernel_rfl) (fun _ => by kernel_rfl) (fun _ => by kernel_rfl) w
def Ky.val (k : Ky) : Value := .agg #[.int .u64 k.c, .int .i64 k.v, .int .i64 k.d]
theorem Ky.rel {w : World} {R : Nat → Prop} (k : Ky) : RelV w R k.rv k.val := by
 refine .agg _ _ rfl fun i x c hx hc => ?_
 match i, hx, hc with
 | 0, hx, hc => simp [Ky.val] at hx hc; subst hx; subst hc; exact .v _
 | 1, hx, hc => simp [Ky.val] at hx hc; subst hx; subst hc; exact .v _
 | 2, hx, hc => simp [Ky.val] at hx hc; subst hx; subst hc; exact .v _
 | i + 3, hx, hc => simp at hx
theorem all0 {w : World} {x : Nat} (h : x < w.heap.size) : All0 w x := ⟨h, fun ⟨id, v, o, h1, _⟩ => by simp [ob0, obs] at h1, trivial⟩
theorem keeps_below {w w' : World} {I : Nat → Prop} (h : Go.RowKit.Below w.heap.size w w') : Keeps I w w' := ⟨h.os, h.tape, h.output, h.size, fun b hb _ => h.block b hb⟩
section
variable {w : World} {b cap : Nat} {og : Option Nat} {gs : List Nat} {ns : List (List Ky)} {n : Int}
theorem node_w (h : TL w b og gs cap ns n) (k : Ky) (r : Nat) (hN : Nod ns k r) : Calls Go.Proofs.Tryz.prog 107 #[.pointer (some ⟨b, 0, none⟩), k.val] w fun e w' => e = .returned (.int .i64 ((r - 1 : Nat) : Int)) ∧ ∀ I, Keeps I w w' := by
 obtain ⟨g, hg⟩ := h.rp (R := All0 w) fun x hx => all0 (h.lt x hx)
 refine (calls_of_triple (node_t ns n k r hN) w (glT w) rfl (rel0_cons (.rp _ b 0 g (all0 (h.lt b (.inl rfl))) hg) (rel0_cons (.r k.rel) rel0_nil))).mono ?_
 rintro e w' ⟨c, rfl, hb, ρ', hR⟩
 cases hR with
 | r hv => cases hv; exact ⟨rfl, fun I => keeps_below hb⟩
theorem find_w {g c : Nat} {l : List Ky} (h : RowK w g l c) (k : Ky) (r : Nat) (hP : Plc l k r) : Calls Go.Proofs.Tryz.prog 108 #[.slice (some ⟨g, 0, none⟩) l.length c, k.val] w fun e w' =>
  e = .returned (.tuple #[.int .i64 r, .bool (decide (l[r]? = some k))]) ∧ ∀ I, Keeps I w w' := by
 have hl : l.length ≤ maxLen := by obtain ⟨_, _, _, _, _, h4, _, h6⟩ := h; omega
 refine (calls_of_triple (find_t l k r hP hl) w (glT w) rfl (rel0_cons (.r (h.rel (all0 h.lt))) (rel0_cons (.r k.rel) rel0_nil))).mono ?_
 rintro e w' ⟨c, rfl, hb, ρ', hR⟩
 cases hR with
 | tup _ cs hl h =>
  have h0 := h 0 _ (cs[0]'(by rw [hl]; simp)) rfl (by simp [hl])
  have h1 := h 1 _ (cs[1]'(by rw [hl]; simp)) rfl (by simp [hl])
  refine ⟨?_, fun I => keeps_below hb⟩
  congr 2
  have inv : ∀ {v c : Value}, RelA w' (Free (fun _ => True) (ob0 []) ρ' w') (ob0 []) ρ' (.r (.v v)) c → c = v := fun h => by cases h with | r h => cases h; rfl
  have e0 := inv h0
  have e1 := inv h1
  apply Array.ext (by simp [hl])
  intro i h2 h3
  match i, h2, h3 with
  | 0, h2, h3 => simpa using e0
  | 1, h2, h3 => simpa using e1
  | i + 2, h2, h3 => rw [hl] at h2; exact absurd (show i + 2 < 2 from h2) (by omega)
end
theorem triple_abs {f : FuncId} {T T' : AbsT} {k : Ky} {res : Value} (hs : T'.size = T.size) (h : ∀ (w : World) (b : Nat) (φ : Nat → Option Nat), T.Q w b φ → Calls Go.Proofs.Tryz.prog f #[.pointer (some ⟨b, 0, none⟩), k.val] w fun e w' =>
  e = .returned res ∧ ∃ φ', T'.Q w' b φ' ∧ Keeps (fun x => x = b ∨ ∃ j, φ j = some x) w w' ∧ (∀ j c, φ' j = some c → (∃ j', φ j' = some c) ∨ w.heap.size ≤ c)) :
  Triple Go.Proofs.Tryz.prog f [.ptr 1000000 0 0, k.av] [.abs T] (.r (.v res)) [.abs T'] := by
 intro w cargs ρ B hgl hB hM hcs hargs
 have hob : ob0 [Ob.abs T] 1000000 = some (0, .abs T) := by simp [ob0, obs, upd]
 obtain ⟨b, hρ, hQ⟩ := hM.obj 1000000 0 (.abs T) hob
 have hid : ∀ (T0 : AbsT) id x, ob0 [Ob.abs T0] id = some x → id = 1000000 ∧ x = (0, .abs T0) := fun T0 id x hx => by
  obtain ⟨h1, h2, h3⟩ := ob0_some hx
  have : id - 1000000 = 0 := by
   have := (List.getElem?_eq_some_iff.1 h2).1
   simpa using this
  have hid : id = 1000000 := by omega
  subst hid
  have hob0 : ob0 [Ob.abs T0] 1000000 = some (0, .abs T0) := by simp [ob0, obs, upd]
  rw [hob0] at hx
  exact ⟨rfl, (Option.some.inj hx).symm⟩
 have hheld : ∀ x, Held (ob0 [.abs T]) ρ x ↔ (x = b ∨ ∃ j, ρ (.s 1000000 j) = some x) := fun x => by
  constructor
  ·rintro ⟨id, y, h1, h2⟩
   obtain ⟨rfl, rfl⟩ := hid T id _ h1
   rcases h2 with h2 | ⟨_, j, h2⟩
   ·rw [hρ] at h2; cases h2; exact .inl rfl
   ·exact .inr ⟨j, h2⟩
  ·rintro (rfl | ⟨j, h2⟩)
   ·exact ⟨1000000, (0, .abs T), hob, .inl hρ⟩
   ·exact ⟨1000000, (0, .abs T), hob, .inr ⟨rfl, j, h2⟩⟩
 have hc : cargs = #[.pointer (some ⟨b, 0, none⟩), k.val] := by
  simp at hcs
  apply Array.ext (by simpa using hcs)
  intro i h1 h2
  match i, h1, h2 with
  | 0, h1, h2 =>
   have h0 := hargs 0 _ cargs[0] rfl (by simp [h1])
   generalize cargs[0] = c0 at h0
   cases h0 with
   | ptr _ _ _ _ hc1 hat =>
    obtain ⟨b', hb', rfl⟩ := hat.live hob
    rw [hρ] at hb'
    cases hb'
    rfl
  | 1, h1, h2 =>
   have h0 := hargs 1 _ cargs[1] rfl (by simp [h1])
   generalize cargs[1] = c1 at h0
   cases h0 with
   | r h0 =>
    cases h0 with
    | agg xs cs hl h0 =>
     have inv : ∀ {v c : Value}, RelV w (Free B (ob0 [.abs T]) ρ w) (.v v) c → c = v := fun h => by cases h; rfl
     simp only [Ky.val, List.getElem_toArray, List.getElem_cons_succ, List.getElem_cons_zero]
     congr 1
     apply Array.ext (by simpa using hl)
     intro j g1 g2
     match j, g1, g2 with
     | 0, g1, g2 => exact inv (h0 0 _ cs[0] rfl (by simp [g1]))
     | 1, g1, g2 => exact inv (h0 1 _ cs[1] rfl (by simp [g1]))
     | 2, g1, g2 => exact inv (h0 2 _ cs[2] rfl (by simp [g1]))
     | j + 3, g1, g2 => exact absurd (show j + 3 < 3 from g2) (by omega)
  | i + 2, h1, h2 => exact absurd (show i + 2 < 2 from h2) (by omega)
 subst hc
 refine (h w b _ hQ).mono ?_
 rintro e w' ⟨rfl, φ', hQ', hK, hφ⟩
 obtain ⟨ρ', h1, h2⟩ : ∃ ρ' : Pl → Option Nat, ρ' (.o 1000000) = some b ∧ ∀ j, ρ' (.s 1000000 j) = φ' j := ⟨fun | .o i => if i = 1000000 then some b else none | .s i j => if i = 1000000 then φ' j else none, by simp, by simp⟩
 refine ⟨_, ρ', rfl, ⟨fun id v o hx => ?_, fun id id' x x' c hx hx' _ _ => ?_, ⟨hK.os, hK.tape, hK.output, hK.size, fun c hc hn => hK.block c hc fun hx => hn ((hheld c).2 hx)⟩, fun id v o c hx hf => ?_, fun id c hp => ?_⟩, .r (.v _)⟩
 ·obtain ⟨rfl, hx⟩ := hid T' id _ hx
  cases hx
  refine ⟨b, h1, ?_⟩
  rw [show (fun j => ρ' (.s 1000000 j)) = φ' from funext h2]
  exact hQ'
 ·rw [(hid T' id _ hx).1, (hid T' id' _ hx').1]
 ·obtain ⟨rfl, hx⟩ := hid T' id _ hx
  cases hx
  rcases hf with hf | ⟨_, j, hf⟩
  ·rw [h1] at hf; cases hf; exact .inl ((hheld b).2 (.inl rfl))
  ·rw [h2] at hf
   rcases hφ j c hf with ⟨j', hj'⟩ | h
   ·exact .inl ((hheld c).2 (.inr ⟨j', hj'⟩))
   ·exact .inr h
 ·simp only [pinOf] at hp
  split at hp
  ·rename_i v o hx
   split at hp
   ·rename_i ho
    obtain ⟨rfl, hx'⟩ := hid T id _ hx
    refine ⟨?_, _, by simp [ob0, obs, upd]; rfl, rfl⟩
    rw [h1, ← hp, hρ]
   ·cases hp
  ·cases hp

open Go Go.RowKit
set_option maxRecDepth 100000
theorem al_old {w : World} {x : Obj} {k : Nat} (h : k < w.heap.size) : (w.alloc x).heap[k]? = w.heap[k]? := by
 show (w.heap.push x)[k]? = _
 simp [Array.getElem?_push, Nat.ne_of_lt h]
theorem al_new {w : World} {x : Obj} {k : Nat} (h : k = w.heap.size) : (w.alloc x).heap[k]? = some x := by
 subst h
 show (w.heap.push x)[w.heap.size]? = _
 simp
theorem keeps_al {w : World} {x : Obj} {I : Nat → Prop} : Keeps I w (w.alloc x) := keeps_one (one_more x)
theorem Keeps.mono {I J : Nat → Prop} {w w' : World} (h : Keeps I w w') (hi : ∀ x, I x → J x) : Keeps J w w' := ⟨h.os, h.tape, h.output, h.size, fun b hb hn => h.block b hb fun hx => hn (hi b hx)⟩
theorem put0_w {w : World} {b cap : Nat} {og : Option Nat} {gs : List Nat} {n : Int} (h : TL w b og gs cap [] n) (k : Ky) : Calls Go.Proofs.Tryz.prog 72 #[.pointer (some ⟨b, 0, none⟩), k.val] w fun e w' => e = .returned (.bool true) ∧
    ∃ og' gs' cap', TL w' b og' gs' cap' [[k]] 1 ∧ Keeps (Ft b og gs) w w' ∧ ∀ x, Ft b og' gs' x → Ft b og gs x ∨ w.heap.size ≤ x := by
  obtain ⟨e, he⟩ := h.hd
  have hlt := h.lt b (.inl rfl)
  have hc : w.cell? ⟨b, 0, none⟩ = some (.slice (adr og) 0 cap) := by simp [World.cell?, he]
  have hc1 : w.cell? ⟨b, 1, none⟩ = some (.int .i64 n) := by simp [World.cell?, he]
  have hf0 : w.frozen? ⟨b, 0, none⟩ = false := by simp [World.frozen?, he]
  have hf1 : w.frozen? ⟨b, 1, none⟩ = false := by simp [World.frozen?, he]
  have hb01 : b < w.heap.size + 1 := by omega
  have hb02 : b < w.heap.size + 1 + 1 := by omega
  have hb0 : ¬ b = w.heap.size := by omega
  have hb1 : ¬ b = w.heap.size + 1 := by omega
  have hb2 : ¬ b = w.heap.size + 1 + 1 := by omega
  simp only [Ky.val]
  go_enter Go.Proofs.Tryz.func72, Go.Proofs.Tryz.ntmps72
  go_wp2_with fail
  go_ret
  rw [setCell_eq_setRow w b 0 _ _ _ _ he, setCell_eq_setRow _ b 1 _ _ _ _ (setRow_heap w b _ _ _ _ he), setRow_setRow]
  generalize hw1 : w.setRow b _ = w1
  have hh : w1.heap[b]? = some (.cells #[.slice (some ⟨w.heap.size + 1 + 1, 0, none⟩) 1 1, .int .i64 1] e) := by rw [← hw1]; exact setRow_heap w b _ _ _ _ he
  have hk : Keeps (· = b) w w1 := by rw [← hw1]; exact keeps_row he
  have hs : w1.heap.size = w.heap.size := by rw [← hw1]; simp [World.setRow]
  refine ⟨rfl, some (w.heap.size + 1 + 1), [w.heap.size + 1], 1, ⟨⟨e, ?_⟩, by simp, by simp [maxLen], by simp, fun g hg => ?_, rfl, ?_⟩, ?_, fun x hx => ?_⟩
  · rw [al_old (by simp [hs]; omega), al_old (by simp [hs]; omega), al_old (by simp [hs]; omega), hh]
    rfl
  · cases hg
    refine ⟨by omega, _, _, al_new (by simp [hs]), by simp, fun i g' l hi hl => ?_⟩
    have hi0 : i = 0 := by have := (List.getElem?_eq_some_iff.1 hi).1; simp at this; exact this
    subst hi0
    simp at hi hl
    subst hi; subst hl
    refine ⟨1, rfl, _, _, by rw [al_old (by simp [hs])]; exact al_new (by simp [hs]), by simp, ?_, by simp, by simp, by simp [maxLen]⟩
    intro j u hj
    simpa [flat, kc] using hj
  · simp
    omega
  · exact (hk.mono fun x hx => .inl hx).trans ((keeps_al.trans keeps_al).trans keeps_al)
  · rcases hx with h | h | h
    · exact .inl (.inl h)
    · simp at h; omega
    · simp at h; omega

open Go Go.RowKit
set_option maxRecDepth 100000
section
variable {w : World} {b g cap : Nat} {og : Option Nat} {gs : List Nat} {ns : List (List Ky)} {n : Int}
theorem TL.root (h : TL w b (some g) gs cap ns n) : w.cell? ⟨b, 0, none⟩ = some (.slice (some ⟨g, 0, none⟩) ns.length cap) ∧ w.cell? ⟨b, 1, none⟩ = some (.int .i64 n) ∧ w.frozen? ⟨b, 0, none⟩ = false ∧ w.frozen? ⟨b, 1, none⟩ = false ∧ b < w.heap.size := by
 obtain ⟨e, he⟩ := h.hd
 exact ⟨by simp [World.cell?, he, adr], by simp [World.cell?, he], by simp [World.frozen?, he], by simp [World.frozen?, he], h.lt b (.inl rfl)⟩
theorem TL.some_ (h : TL w b og gs cap ns n) {i : Nat} {l : List Ky} (hl : ns[i]? = some l) : ∃ g, og = some g := by
 rcases og with _ | g
 ·have := h.no rfl
  have := h.le
  have := (List.getElem?_eq_some_iff.1 hl).1
  omega
 ·exact ⟨g, rfl⟩
theorem TL.node (h : TL w b (some g) gs cap ns n) {i : Nat} {l : List Ky} (hl : ns[i]? = some l) : ∃ g' c, gs[i]? = some g' ∧ RowK w g' l c ∧ w.cell? ⟨g, i, none⟩ = some (.slice (some ⟨g', 0, none⟩) l.length c) ∧ w.frozen? ⟨g, i, none⟩ = false := by
 obtain ⟨h0, cs, e, h1, h2, h4⟩ := h.out g rfl
 have hlt := (List.getElem?_eq_some_iff.1 hl).1
 have hg' : gs[i]? = some (gs[i]'(by rw [h.len]; exact hlt)) := by simp [h.len, hlt]
 obtain ⟨c, h5, h6⟩ := h4 i _ l hg' hl
 exact ⟨_, c, hg', h6, by simp [World.cell?, h1, h5], by simp [World.frozen?, h1]⟩
end
def KB (w : World) (B : Nat) (k : Ky) : Prop := w.heap[B]? = some (.cells #[.int .u64 k.c, .int .i64 k.v, .int .i64 k.d] 126 (0, 0))
theorem KB.cells {w : World} {B : Nat} {k : Ky} (h : KB w B k) : w.cell? ⟨B, 0, none⟩ = some (.int .u64 k.c) ∧ w.cell? ⟨B, 1, none⟩ = some (.int .i64 k.v) ∧ w.cell? ⟨B, 2, none⟩ = some (.int .i64 k.d) := by
 unfold KB at h
 exact ⟨by simp [World.cell?, h], by simp [World.cell?, h], by simp [World.cell?, h]⟩
theorem KB.keeps {w w' : World} {B : Nat} {k : Ky} {I : Nat → Prop} (h : KB w B k) (hk : Keeps I w w') (hn : ¬ I B) : KB w' B k := by
 unfold KB at h ⊢
 rw [hk.block B (Array.getElem?_eq_some_iff.1 h).1 hn]
 exact h
theorem TL.keeps {w w' : World} {b cap : Nat} {og : Option Nat} {gs : List Nat} {ns : List (List Ky)} {n : Int} {I : Nat → Prop} (h : TL w b og gs cap ns n) (hk : Keeps I w w') (hn : ∀ x, Ft b og gs x → ¬ I x) : TL w' b og gs cap ns n :=
 h.loc fun x hx => hk.block x (h.lt x hx) (hn x hx)
theorem put1_w {w : World} {b cap : Nat} {og : Option Nat} {gs : List Nat} {ns : List (List Ky)} {n : Int} (h : TL w b og gs cap ns n) (k : Ky) (r s : Nat) (l : List Ky) (hN : Nod ns k r) (hl : ns[r - 1]? = some l) (hP : Plc l k s) (hs : l[s]? = some k) : Calls Go.Proofs.Tryz.prog 72 #[.pointer (some ⟨b, 0, none⟩), k.val] w fun e w' => e = .returned (.bool false) ∧
  TL w' b og gs cap ns n ∧ ∀ I, Keeps I w w' := by
 obtain ⟨g, rfl⟩ := h.some_ hl
 have hat : r - 1 < ns.length := (List.getElem?_eq_some_iff.1 hl).1
 generalize hr : r - 1 = i at *
 obtain ⟨c0, c1, f0, f1, hlt⟩ := h.root
 have hne : ((ns.length : Int) == 0) = false := by rw [beq_eq_false_iff_ne]; omega
 have hk0 : ∀ x, Keeps (fun _ => False) w (w.alloc x) := fun x => keeps_al
 have i0 : (0 : Int) ≤ (i : Int) := by omega
 have i1 : (i : Int) < (ns.length : Int) := by omega
 simp only [Ky.val]
 go_enter Go.Proofs.Tryz.func72, Go.Proofs.Tryz.ntmps72
 go_wp2_with fail
 have h1 := h.keeps (hk0 (.cells #[.int .u64 k.c, .int .i64 k.v, .int .i64 k.d] 126)) (fun _ _ q => q)
 have b1 : KB (w.alloc (.cells #[.int .u64 k.c, .int .i64 k.v, .int .i64 k.d] 126)) w.heap.size k := al_new rfl
 refine (node_w h1 k r hN).mono ?_
 rintro e w2 ⟨rfl, hK2⟩
 rw [hr]
 have h2 := h1.keeps (hK2 fun _ => False) (fun _ _ q => q)
 have b2 := b1.keeps (hK2 fun _ => False) (fun q => q)
 obtain ⟨d0, d1, f2, f3, _⟩ := h2.root
 obtain ⟨g', c, hg', hrow, d2, f4⟩ := h2.node hl
 obtain ⟨k0, k1, k2⟩ := b2.cells
 go_wp2_with fail
 refine (find_w hrow k s hP).mono ?_
 rintro e w3 ⟨rfl, hK3⟩
 rw [decide_eq_true hs]
 go_wp2_with fail
 go_ret
 refine ⟨rfl, h2.keeps (hK3 fun _ => False) (fun _ _ q => q), fun I => (keeps_al.trans (hK2 I)).trans (hK3 I)⟩

open Go Go.RowKit
theorem flat_append (a b : List Ky) : flat (a ++ b) = flat a ++ flat b := by simp [flat]
theorem flat_cons (k : Ky) (b : List Ky) : flat (k :: b) = kc k ++ flat b := by simp [flat]
theorem set3 {α : Type} (L : List α) (i : Nat) (a b c : α) (h : i + 3 ≤ L.length) : ((L.set i a).set (i + 1) b).set (i + 2) c = splice L i [a, b, c] := by
 apply List.ext_getElem?
 intro j
 rw [splice_at (by simpa using h)]
 simp only [List.getElem?_set, List.length_set, List.length_cons, List.length_nil]
 by_cases h0 : j = i
 ·subst h0; simp; omega
 by_cases h1 : j = i + 1
 ·subst h1; simp; omega
 by_cases h2 : j = i + 2
 ·subst h2; simp; omega
 rw [if_neg (by omega), if_neg (by omega), if_neg (by omega), if_neg (by omega)]
theorem ins_cells {cs : List Value} {l : List Ky} {k : Ky} {s : Nat} (hs : s ≤ l.length) (hp : (flat l ++ kc k) <+: cs) :
  flat (l.take s ++ k :: l.drop s) <+: splice (splice cs ((s + 1) * 3) ((cs.drop (s * 3)).take ((l.length - s) * 3))) (s * 3) (kc k) := by
 obtain ⟨t, rfl⟩ := hp
 obtain ⟨A, hA⟩ : ∃ A, A = flat (l.take s) := ⟨_, rfl⟩
 obtain ⟨D, hD⟩ : ∃ D, D = flat (l.drop s) := ⟨_, rfl⟩
 have hl : flat l = A ++ D := by rw [hA, hD, ← flat_append, List.take_append_drop]
 have lA : A.length = s * 3 := by rw [hA, flat_length, List.length_take, Nat.min_eq_left hs]
 have lD : D.length = (l.length - s) * 3 := by rw [hD, flat_length, List.length_drop]
 have lk : (kc k).length = 3 := rfl
 rw [flat_append, flat_cons, ← hA, ← hD, hl, ← lA, ← lD, show (s + 1) * 3 = A.length + 3 by omega]
 refine ⟨t, ?_⟩
 obtain ⟨E, hE⟩ : ∃ E, E = (D ++ kc k ++ t).take 3 := ⟨_, rfl⟩
 have lE : E.length = 3 := by rw [hE]; simp; omega
 have e1 : (A ++ D ++ kc k ++ t).take (A.length + 3) = A ++ E := by
  rw [hE, List.append_assoc A D, List.append_assoc A, List.take_length_add_append]
 have e2 : ((A ++ D ++ kc k ++ t).drop A.length).take D.length = D := by
  rw [List.append_assoc A D, List.append_assoc A, List.drop_left, List.append_assoc D, List.take_left]
 have e3 : (A ++ D ++ kc k ++ t).drop (A.length + 3 + D.length) = t := by
  have : A.length + 3 + D.length = (A ++ D ++ kc k).length := by simp [lk]; omega
  rw [this, List.drop_left]
 have e4 : splice (A ++ D ++ kc k ++ t) (A.length + 3) D = A ++ (E ++ (D ++ t)) := by
  unfold splice
  rw [e1, e3]
  simp
 rw [e2, e4]
 unfold splice
 have e5 : (A ++ (E ++ (D ++ t))).drop (A.length + 3) = D ++ t := by
  have : A.length + 3 = (A ++ E).length := by simp [lE]
  rw [this, ← List.append_assoc, List.drop_left]
 rw [List.take_left, lk, e5]
 simp
theorem pre_of {cs2 : Array Value} {X : List Value} (h : ∀ j, j < X.length → cs2[j]? = X[j]?) (hl : X.length ≤ cs2.size) : X <+: cs2.toList := by
 rw [List.prefix_iff_eq_take]
 apply List.ext_getElem?
 intro j
 rw [List.getElem?_take]
 by_cases hj : j < X.length
 ·rw [if_pos hj, ← h j hj]
  simp
 ·rw [if_neg hj]
  simp
  omega
theorem cell_same {w w' : World} {x : Nat} (h : w'.heap[x]? = w.heap[x]?) (o : Nat) : w'.cell? ⟨x, o, none⟩ = w.cell? ⟨x, o, none⟩ := by simp only [World.cell?, h]
theorem frozen_same {w w' : World} {x : Nat} (h : w'.heap[x]? = w.heap[x]?) (o : Nat) : w'.frozen? ⟨x, o, none⟩ = w.frozen? ⟨x, o, none⟩ := by simp only [World.frozen?, h]
theorem cell_in {w : World} {g o : Nat} {cs : Array Value} {e : TypeId} {fr : Nat × Nat} (h : w.heap[g]? = some (.cells cs e fr)) (ho : o < cs.size) : ∃ v, w.cell? ⟨g, o, none⟩ = some v := ⟨cs[o], by simp [World.cell?, h, ho]⟩
theorem frozen_in {w : World} {g o : Nat} {cs : Array Value} {e : TypeId} (h : w.heap[g]? = some (.cells cs e (0, 0))) : w.frozen? ⟨g, o, none⟩ = false := by simp [World.frozen?, h]
theorem sz_al {w : World} {x : Obj} : (w.alloc x).heap.size = w.heap.size + 1 := by simp
theorem sc_same {w : World} {g o : Nat} {cs : Array Value} {e : TypeId} {fr : Nat × Nat} {v : Value} (h : w.heap[g]? = some (.cells cs e fr)) : (w.setCell ⟨g, o, none⟩ v).heap[g]? = some (.cells (cs.setIfInBounds o v) e fr) := by
 rw [setCell_eq_setRow w g o cs e fr v h]
 exact setRow_heap w g _ _ _ _ h
theorem sc_other {w : World} {g o x : Nat} {cs : Array Value} {e : TypeId} {fr : Nat × Nat} {v : Value} (h : w.heap[g]? = some (.cells cs e fr)) (hx : x ≠ g) : (w.setCell ⟨g, o, none⟩ v).heap[x]? = w.heap[x]? := by
 rw [setCell_eq_setRow w g o cs e fr v h]
 exact setRow_other w g x _ hx
theorem sc_keeps {w : World} {g o : Nat} {cs : Array Value} {e : TypeId} {fr : Nat × Nat} {v : Value} {I : Nat → Prop} (h : w.heap[g]? = some (.cells cs e fr)) (hI : I g) : Keeps I w (w.setCell ⟨g, o, none⟩ v) := by
 rw [setCell_eq_setRow w g o cs e fr v h]
 have hk := keeps_row (cs := cs.setIfInBounds o v) h
 exact ⟨hk.os, hk.tape, hk.output, hk.size, fun b hb hn => hk.block b hb fun q => hn (q ▸ hI)⟩
theorem keeps_old {w w' : World} {I : Nat → Prop} (h : Keeps (fun x => I x ∨ w.heap.size ≤ x) w w') : Keeps I w w' := ⟨h.os, h.tape, h.output, h.size, fun b hb hn => h.block b hb fun q => by rcases q with q | q; exact hn q; omega⟩
theorem flat_drop_get {l : List Ky} {a j : Nat} (ha : a ≤ l.length) : (flat l)[a * 3 + j]? = (flat (l.drop a))[j]? := by
 have : flat l = flat (l.take a) ++ flat (l.drop a) := by rw [← flat_append, List.take_append_drop]
 have hl : (flat (l.take a)).length = a * 3 := by rw [flat_length, List.length_take, Nat.min_eq_left ha]
 rw [this, List.getElem?_append_right (by omega), hl]
 congr 1
 omega
theorem flat_take_get {l : List Ky} {a j : Nat} {u : Value} (h : (flat (l.take a))[j]? = some u) : (flat l)[j]? = some u := by
 have : flat l = flat (l.take a) ++ flat (l.drop a) := by rw [← flat_append, List.take_append_drop]
 rw [this, List.getElem?_append_left (List.getElem?_eq_some_iff.1 h).1]
 exact h
theorem pre_take {cs : Array Value} {A : List Value} (hf : ∀ (j : Nat) (u : Value), A[j]? = some u → cs[j]? = some u) : cs.toList.take A.length = A := by
 apply List.ext_getElem?
 intro j
 rw [List.getElem?_take]
 by_cases hj : j < A.length
 ·have hq : A[j]? = some A[j] := by simp [hj]
  rw [if_pos hj, hq, ← hf j _ hq]
  simp
 ·rw [if_neg hj, eq_comm, List.getElem?_eq_none_iff]
  omega
theorem pre_app {cs cs2 : Array Value} {A B : List Value} {N : Nat} (hN : A.length = N) (hf : ∀ (j : Nat) (u : Value), A[j]? = some u → cs[j]? = some u) (h : ∀ j, j < N + B.length → cs2[j]? = (cs.toList.take N ++ B)[j]?) (hl : N + B.length ≤ cs2.size) : (A ++ B) <+: cs2.toList := by
 subst hN
 rw [pre_take hf] at h
 exact pre_of (fun j hj => h j (by simpa using hj)) (by simpa using hl)
theorem seg_one {L X : List Value} (hp : X <+: L) (h1 : ∀ u ∈ X, u.oneCell' = true) {a m : Nat} (h : a + m ≤ X.length) : ∀ u ∈ (L.drop a).take m, u.oneCell' = true := fun u hu => by
 obtain ⟨t, rfl⟩ := hp
 obtain ⟨j, hj⟩ := List.mem_iff_getElem?.1 hu
 rw [List.getElem?_take] at hj
 split at hj
 ·rw [List.getElem?_drop, List.getElem?_append_left (by omega)] at hj
  exact h1 u (List.mem_of_getElem? hj)
 ·cases hj
theorem ins2 {α : Type} {L : List α} {i : Nat} {x y : α} (h : i < L.length) (j : Nat) : (L.take i ++ x :: y :: L.drop (i + 1))[j]? = if j < i then L[j]? else if j = i then some x else if j = i + 1 then some y else L[j - 1]? := by
 have hl : (L.take i).length = i := by simp; omega
 rw [List.getElem?_append, hl]
 by_cases h1 : j < i
 ·rw [if_pos h1, if_pos h1, List.getElem?_take, if_pos h1]
 ·rw [if_neg h1, if_neg h1]
  by_cases h2 : j = i
  ·subst h2; simp
  ·rw [if_neg h2]
   by_cases h3 : j = i + 1
   ·subst h3; simp
   ·rw [if_neg h3]
    obtain ⟨m, rfl⟩ : ∃ m, j = i + 2 + m := ⟨j - (i + 2), by omega⟩
    rw [show i + 2 + m - i = m + 2 by omega]
    simp only [List.getElem?_cons_succ, List.getElem?_drop]
    congr 1
    omega
section
variable {w w' : World} {b g cap : Nat} {gs : List Nat} {ns : List (List Ky)} {n n' : Int}
theorem TL.put (h : TL w b (some g) gs cap ns n) {i : Nat} (hi : i < ns.length) {g2 c2 : Nat} {l' : List Ky} (hb : ∃ e, w'.heap[b]? = some (.cells #[.slice (some ⟨g, 0, none⟩) ns.length cap, .int .i64 n'] e (0, 0)))
  (hg : ∃ cs e, w.heap[g]? = some (.cells cs e (0, 0)) ∧ w'.heap[g]? = some (.cells (cs.setIfInBounds i (.slice (some ⟨g2, 0, none⟩) l'.length c2)) e (0, 0))) (hrow : RowK w' g2 l' c2)
  (ho : ∀ (j x : Nat), j ≠ i → gs[j]? = some x → w'.heap[x]? = w.heap[x]?) (hg2 : gs[i]? = some g2 ∨ (g2 ≠ b ∧ g2 ≠ g ∧ g2 ∉ gs)) : TL w' b (some g) (gs.set i g2) cap (ns.set i l') n' := by
 obtain ⟨h0, cs, e, h1, h2, h4⟩ := h.out g rfl
 obtain ⟨cs', e', q1, q2⟩ := hg
 rw [h1] at q1
 cases q1
 refine ⟨?_, by simpa using h.le, h.mx, by simp, fun g0 hg0 => ?_, by simp [h.len], ?_⟩
 ·obtain ⟨e, he⟩ := hb
  exact ⟨e, by rw [he]; simp [adr]⟩
 ·cases hg0
  refine ⟨h0, _, _, q2, by simpa using h2, fun j x l hj hl => ?_⟩
  ·rw [List.getElem?_set] at hj hl
   by_cases hij : i = j
   ·subst hij
    simp [h.len, hi] at hj hl
    subst hj; subst hl
    refine ⟨c2, ?_, hrow⟩
    have : i < cs.size := by have := h.le; omega
    simp [this]
   ·rw [if_neg hij] at hj hl
    obtain ⟨c, h5, h6⟩ := h4 j x l hj hl
    refine ⟨c, ?_, h6.loc (ho j x (Ne.symm hij) hj)⟩
    rw [Array.getElem?_setIfInBounds, if_neg hij]
    exact h5
 ·have hnd := h.nb
  simp only [Option.toList_some, List.cons_append, List.nil_append] at hnd ⊢
  rcases hg2 with hg2 | ⟨p1, p2, p3⟩
  ·have : gs.set i g2 = gs := by
    apply List.ext_getElem?
    intro j
    rw [List.getElem?_set]
    split
    ·rename_i hij; subst hij; rw [hg2]; simp; exact (List.getElem?_eq_some_iff.1 hg2).1
    ·rfl
   rw [this]
   exact hnd
  ·simp only [List.nodup_cons, List.mem_cons, not_or] at hnd ⊢
   obtain ⟨⟨a1, a2⟩, a3, a4⟩ := hnd
   refine ⟨⟨a1, fun hm => ?_⟩, fun hm => ?_, ?_⟩
   ·rcases List.mem_or_eq_of_mem_set hm with hm | hm
    ·exact a2 hm
    ·exact p1 hm.symm
   ·rcases List.mem_or_eq_of_mem_set hm with hm | hm
    ·exact a3 hm
    ·exact p2 hm.symm
   ·rw [List.Nodup, List.pairwise_iff_getElem] at a4 ⊢
    intro x y hx hy hxy
    rw [List.length_set] at hx hy
    simp only [List.getElem_set]
    have nm : ∀ z (hz : z < gs.length), gs[z] ≠ g2 := fun z hz q => p3 (q ▸ List.getElem_mem hz)
    split
    ·rw [if_neg (by omega)]
     exact fun q => nm y hy q.symm
    ·split
     ·exact nm x hx
     ·exact a4 x y hx hy hxy
end

end Go.Ev
