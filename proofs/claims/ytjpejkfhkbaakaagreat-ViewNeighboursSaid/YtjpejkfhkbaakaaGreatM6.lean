import Derived.Test.YtjpejkfhkbaakaaGreatChecked
import Derived.KernelRfl
import Derived.Test.YtjpejkfhkbaakaaGreatM5
open Nat renaming reduceBEq → zB, reduceEqDiff → zE, reduceAdd → zA, reduceSub → zS, reduceLT → zL, reduceLeDiff → zD, reduceMul → zM
open Go.Proofs.Tryz renaming prog → P0
open List renaming length_nil → zaa, append_nil → zab, length_append → zac, range_zero → zae, length_cons → zah, length_map → zai, map_cons → zaj, map_nil → zak, getD_cons_zero → zal, getD_cons_succ → zam, take_succ_cons → zan, take_zero → zao, drop_succ_cons → zap, drop_zero → zaq, cons_append → zar, nil_append → zas, all_cons → zat, all_nil → zau, contains_cons → zbf, contains_nil → zbg, filter_cons → zbh, filter_nil → zbi, getElem?_cons_zero → zbl, getElem?_cons_succ → zbm, getElem?_nil → zbn, take_nil → zbo, drop_nil → zbp
open BitVec renaming ofInt → zad, ofNat → zbz, toNat_ofNat → zcm
open Option renaming getD_some → zaf, getD_none → zag, map_some → zbj, map_none → zbk
open Bool renaming and_true → zav, true_and → zaw, false_and → zax, and_self → zay, or_true → zaz, true_or → zba, false_or → zbb, or_false → zbc, not_true → zbd, not_false → zbe, false_eq_true → zbq
open Nat renaming reduceEqDiff → zbr, reduceAdd → zbs, reduceSub → zbt, reduceLT → zbu, reduceLeDiff → zbv, reduceMul → zbw, mul_le_mul → zca, pow_pos → zcf, mul_assoc → zcg, add_mul_div_right → zci, div_eq_of_lt → zcl, div_div_eq_div_mul → zcn
open Int renaming emod_lt_of_pos → zbx, emod_nonneg → zby, lt_or_le → zcb, mul_add → zcc, pow_succ → zcd, one_mul → zce, natAbs_mul → zch, mul_ediv_add_emod → zcj, tmod_eq_emod_of_nonneg → zck
namespace Go.Ev
set_option maxRecDepth 100000
open Go
set_option linter.unusedSectionVars false
set_option linter.unnecessarySimpa false
set_option linter.unusedSimpArgs false
set_option linter.unusedVariables false
noncomputable def num_Add_pc : PC :=
  (.seq (.reg [p_s 4 (.mov (o_i 0)), p_s 5 (.mov (.c (.r (.v (.bool false)))))])
 (.seq (.reg [p_m 7 0, p_m 8 1, p_s 9 (.bin .add (.t 7) (.t 8)), p_m 6 9])
 (.seq (.seq (.reg [p_m 10 6, p_m 11 0, p_s 12 (.bin .gtr (.t 10) (.t 11)), p_m 13 1, p_s 14 (.bin .gtr (.t 13) (o_i 0)), p_s 15 (.beq true (.t 12) (.t 14)), p_m 16 15, p_g 17 16 true (.mov (.t 1)),
 p_g 18 16 true (.bin .neq (.t 17) (o_i 0)), p_s 19 (.pick (.t 16) (.t 18) (.c (.r (.v (.bool false)))))])
 (.cond (.t 19)
 (.seq (.reg [p_s 4 (.mov (o_i 0)), p_s 5 (.mov (.c (.r (.v (.bool false)))))])
 .ret)
 .skip))
 (.seq (.reg [p_m 20 6, p_m 4 20, p_s 5 (.mov (.c (.r (.v (.bool true)))))])
 .ret))))
theorem num_Add_triple : Fun P0 93 2 [(4, false, none), (5, false, none)] num_Add_pc := fun_mk Go.Proofs.Tryz.func93 rfl (by decide) (by kernel_rfl) (by decide) rfl (by kernel_rfl) (by kernel_rfl) (by decide)
noncomputable def num_Sub_pc : PC :=
  (.seq (.reg [p_s 4 (.mov (o_i 0)), p_s 5 (.mov (.c (.r (.v (.bool false)))))])
 (.seq (.reg [p_m 7 0, p_m 8 1, p_s 9 (.bin .sub (.t 7) (.t 8)), p_m 6 9])
 (.seq (.seq (.reg [p_m 10 6, p_m 11 0, p_s 12 (.bin .lss (.t 10) (.t 11)), p_m 13 1, p_s 14 (.bin .gtr (.t 13) (o_i 0)), p_s 15 (.beq true (.t 12) (.t 14)), p_m 16 15, p_g 17 16 true (.mov (.t 1)),
 p_g 18 16 true (.bin .neq (.t 17) (o_i 0)), p_s 19 (.pick (.t 16) (.t 18) (.c (.r (.v (.bool false)))))])
 (.cond (.t 19)
 (.seq (.reg [p_s 4 (.mov (o_i 0)), p_s 5 (.mov (.c (.r (.v (.bool false)))))])
 .ret)
 .skip))
 (.seq (.reg [p_m 20 6, p_m 4 20, p_s 5 (.mov (.c (.r (.v (.bool true)))))])
 .ret))))
theorem num_Sub_triple : Fun P0 182 2 [(4, false, none), (5, false, none)] num_Sub_pc := fun_mk Go.Proofs.Tryz.func182 rfl (by decide) (by kernel_rfl) (by decide) rfl (by kernel_rfl) (by kernel_rfl) (by decide)
noncomputable def num_Neg_pc : PC :=
  (.seq (.reg [p_s 2 (.mov (o_i 0)), p_s 3 (.mov (.c (.r (.v (.bool false)))))])
 (.seq (.reg [p_m 4 0, p_c 5 1 182 [(o_i 0), (.t 4)], p_s 6 (.ext (.t 5) 0), p_s 7 (.ext (.t 5) 1), p_m 2 6, p_m 3 7])
 .ret))
theorem num_Neg_triple : Fun P0 179 1 [(2, false, none), (3, false, none)] num_Neg_pc := fun_mk Go.Proofs.Tryz.func179 rfl (by decide) (by kernel_rfl) (by decide) rfl (by kernel_rfl) (by kernel_rfl) (by decide)
noncomputable def num_size_pc : PC :=
  (.seq (.reg [p_s 2 (.mov (.c (.r (.v (.int .u64 0)))))])
 (.seq (.seq (.reg [p_m 3 0, p_s 4 (.bin .lss (.t 3) (o_i 0))])
 (.cond (.t 4)
 (.seq (.reg [p_m 5 0, p_s 6 (.conv .u64 (.t 5)), p_s 7 (.un .neg (.t 6)), p_m 2 7])
 .ret)
 .skip))
 (.seq (.reg [p_m 8 0, p_s 9 (.conv .u64 (.t 8)), p_m 2 9])
 .ret)))
theorem num_size_triple : Fun P0 147 1 [(2, false, none)] num_size_pc := fun_mk Go.Proofs.Tryz.func147 rfl (by decide) (by kernel_rfl) (by decide) rfl (by kernel_rfl) (by kernel_rfl) (by decide)
noncomputable def bits_Mul64_pc : PC :=
  (.seq (.reg [p_s 4 (.mov (.c (.r (.v (.int .u64 0))))), p_s 5 (.mov (.c (.r (.v (.int .u64 0)))))])
 (.seq (.reg [p_m 14 0, p_s 15 (.bin .and (.t 14) (.c (.r (.v (.int .u64 4294967295))))), p_m 6 15])
 (.seq (.reg [p_m 16 0, p_s 17 (.bin .shr (.t 16) (.c (.r (.v (.int .u64 32))))), p_m 7 17])
 (.seq (.reg [p_m 18 1, p_s 19 (.bin .and (.t 18) (.c (.r (.v (.int .u64 4294967295))))), p_m 8 19])
 (.seq (.reg [p_m 20 1, p_s 21 (.bin .shr (.t 20) (.c (.r (.v (.int .u64 32))))), p_m 9 21])
 (.seq (.reg [p_m 22 6, p_m 23 8, p_s 24 (.bin .mul (.t 22) (.t 23)), p_m 10 24])
 (.seq (.reg [p_m 25 7, p_m 26 8, p_s 27 (.bin .mul (.t 25) (.t 26)), p_m 28 10, p_s 29 (.bin .shr (.t 28) (.c (.r (.v (.int .u64 32))))), p_s 30 (.bin .add (.t 27) (.t 29)),
 p_m 11 30])
 (.seq (.reg [p_m 31 11, p_s 32 (.bin .and (.t 31) (.c (.r (.v (.int .u64 4294967295))))), p_m 12 32])
 (.seq (.reg [p_m 33 11, p_s 34 (.bin .shr (.t 33) (.c (.r (.v (.int .u64 32))))), p_m 13 34])
 (.seq (.reg [p_m 35 12, p_m 36 6, p_m 37 9, p_s 38 (.bin .mul (.t 36) (.t 37)), p_s 39 (.bin .add (.t 35) (.t 38)), p_m 12 39])
 (.seq (.reg [p_m 40 7, p_m 41 9, p_s 42 (.bin .mul (.t 40) (.t 41)), p_m 43 13, p_s 44 (.bin .add (.t 42) (.t 43)), p_m 45 12, p_s 46 (.bin .shr (.t 45) (.c (.r (.v (.int .u64 32))))),
 p_s 47 (.bin .add (.t 44) (.t 46)), p_m 4 47])
 (.seq (.reg [p_m 48 0, p_m 49 1, p_s 50 (.bin .mul (.t 48) (.t 49)), p_m 5 50])
 .ret))))))))))))
theorem bits_Mul64_triple : Fun P0 119 2 [(4, false, none), (5, false, none)] bits_Mul64_pc := fun_mk Go.Proofs.Tryz.func119 rfl (by decide) (by kernel_rfl) (by decide) rfl (by kernel_rfl) (by kernel_rfl) (by decide)
noncomputable def num_Mul_pc : PC :=
  (.seq (.reg [p_s 4 (.mov (o_i 0)), p_s 5 (.mov (.c (.r (.v (.bool false)))))])
 (.seq (.reg [p_m 10 0, p_c 11 1 147 [.t 10], p_m 12 1, p_c 13 2 147 [.t 12], p_c 14 3 119 [.t 11, .t 13], p_m 9 14, p_s 15 (.ext (.t 9) 0), p_s 16 (.ext (.t 9) 1), p_m 6 15,
 p_m 7 16])
 (.seq (.reg [p_m 17 0, p_s 18 (.bin .lss (.t 17) (o_i 0)), p_m 19 1, p_s 20 (.bin .lss (.t 19) (o_i 0)), p_s 21 (.beq true (.t 18) (.t 20)), p_m 8 21])
 (.seq (.block 0 (.seq (.reg [p_m 23 6, p_s 24 (.bin .neq (.t 23) (.c (.r (.v (.int .u64 0))))), p_m 25 24, p_g 26 25 false (.mov (.t 7)), p_g 27 25 false (.bin .gtr (.t 26) (.c (.r (.v (.int .u64 9223372036854775808))))),
 p_s 28 (.pick (.t 25) (.c (.r (.v (.bool true)))) (.t 27)), p_m 29 28, p_g 30 29 false (.mov (.t 7)), p_g 31 29 false (.bin .eql (.t 30) (.c (.r (.v (.int .u64 9223372036854775808))))),
 p_g 32 29 false (.mov (.t 31)), p_g 33 32 true (.mov (.t 8)), p_g 34 32 true (.un .not (.t 33)), p_g 35 29 false (.pick (.t 32) (.t 34) (.c (.r (.v (.bool false))))),
 p_s 36 (.pick (.t 29) (.c (.r (.v (.bool true)))) (.t 35)), p_m 22 36])
 (.cond (.t 22)
 (.seq (.reg [p_s 4 (.mov (o_i 0)), p_s 5 (.mov (.c (.r (.v (.bool false)))))])
 .ret)
 (.seq (.reg [p_m 38 8, p_m 37 38])
 (.cond (.t 37)
 (.seq (.reg [p_m 39 7, p_s 40 (.conv .i64 (.t 39)), p_s 41 (.un .neg (.t 40)), p_m 4 41, p_s 5 (.mov (.c (.r (.v (.bool true)))))])
 .ret)
 .skip)))))
 (.seq (.reg [p_m 42 7, p_s 43 (.conv .i64 (.t 42)), p_m 4 43, p_s 5 (.mov (.c (.r (.v (.bool true)))))])
 .ret)))))
theorem num_Mul_triple : Fun P0 113 2 [(4, false, none), (5, false, none)] num_Mul_pc := fun_mk Go.Proofs.Tryz.func113 rfl (by decide) (by kernel_rfl) (by decide) rfl (by kernel_rfl) (by kernel_rfl) (by decide)
noncomputable def num_Floor_pc : PC :=
  (.seq (.reg [p_s 4 (.mov (o_i 0)), p_s 5 (.mov (o_i 0)), p_s 6 (.mov (.c (.r (.v (.bool false)))))])
 (.seq (.seq (.reg [p_m 7 1, p_s 8 (.bin .leq (.t 7) (o_i 0))])
 (.cond (.t 8)
 (.seq (.reg [p_s 4 (.mov (o_i 0)), p_s 5 (.mov (o_i 0)), p_s 6 (.mov (.c (.r (.v (.bool false)))))])
 .ret)
 .skip))
 (.seq (.drw [p_m 9 0, p_m 10 1, p_s 11 (.bin .quo (.t 9) (.t 10)), p_m 12 0, p_m 13 1, p_s 14 (.bin .rem (.t 12) (.t 13)), p_m 4 11, p_m 5 14]
 [[], [], [0, 1], [], [], [3, 4], [0, 1, 2], [0, 1, 2, 3, 4, 5, 6]])
 (.seq (.seq (.reg [p_m 15 5, p_s 16 (.bin .lss (.t 15) (o_i 0))])
 (.cond (.t 16)
 (.reg [p_m 17 4, p_s 18 (.bin .sub (.t 17) (o_i 1)), p_m 19 5, p_m 20 1, p_s 21 (.bin .add (.t 19) (.t 20)), p_m 4 18, p_m 5 21])
 .skip))
 (.seq (.reg [p_m 22 4, p_m 23 5, p_m 4 22, p_m 5 23, p_s 6 (.mov (.c (.r (.v (.bool true)))))])
 .ret)))))
theorem num_Floor_triple : Fun P0 66 2 [(4, false, none), (5, false, none), (6, false, none)] num_Floor_pc := fun_mk Go.Proofs.Tryz.func66 rfl (by decide) (by kernel_rfl) (by decide) rfl (by kernel_rfl) (by kernel_rfl) (by decide)
def sm (x : Int) : AV := .tup [int .i64 (if in64 x then x else 0), bl (decide (in64 x))]
theorem sm_yes {x y : Int} (h : x = y) (hx : in64 y) : AV.tup [int .i64 x, bl true] = sm y := by simp [sm, hx, h]
theorem sm_no {y : Int} (hx : ¬ in64 y) : AV.tup [int .i64 0, bl false] = sm y := by simp [sm, hx]
theorem shr32 (n : Nat) : (n : Int).fdiv (2 ^ min (Int.toNat 32) IntKind.u64.bits) = ((n / 4294967296 : Nat) : Int) := by
 have : (2 : Int) ^ min (Int.toNat 32) IntKind.u64.bits = 4294967296 := by decide
 rw [this, Int.fdiv_eq_ediv_of_nonneg _ (by decide)]
 omega
theorem wrapN (n : Nat) : IntKind.u64.wrap (n : Int) = ((n % 18446744073709551616 : Nat) : Int) := by
 rw [IntKind.wrap_u64]; omega
theorem and32 (n : Nat) : (zad IntKind.u64.bits (n : Int) &&& zad IntKind.u64.bits 4294967295).toNat = n % 4294967296 := by
 have h1 : zad IntKind.u64.bits (n : Int) = zbz 64 n := by simp [IntKind.bits]
 have h2 : zad IntKind.u64.bits 4294967295 = zbz 64 (2 ^ 32 - 1) := rfl
 rw [h1, h2]
 show (zbz 64 n &&& zbz 64 (2 ^ 32 - 1)).toNat = _
 rw [BitVec.toNat_and, zcm, zcm, show (2 ^ 32 - 1) % 2 ^ 64 = 2 ^ 32 - 1 by decide, Nat.and_two_pow_sub_one_eq_mod]
 omega
theorem nat_parts {x y a b c d : Nat} (hx : x = a * 4294967296 + b) (hy : y = c * 4294967296 + d) : x * y = (a * c) * 18446744073709551616 + (a * d + b * c) * 4294967296 + b * d := by
 subst hx; subst hy
 rw [Nat.add_mul, Nat.mul_add, Nat.mul_add]
 have e1 : a * 4294967296 * (c * 4294967296) = (a * c) * 18446744073709551616 := by
  rw [Nat.mul_mul_mul_comm]
 have e2 : a * 4294967296 * d = (a * d) * 4294967296 := Nat.mul_right_comm _ _ _
 have e3 : b * (c * 4294967296) = (b * c) * 4294967296 := (zcg _ _ _).symm
 rw [e1, e2, e3]
 omega
theorem mul_bound {a b : Nat} (ha : a < 4294967296) (hb : b < 4294967296) : a * b ≤ 18446744065119617025 := by
 have : a * b ≤ 4294967295 * 4294967295 := zca (by omega) (by omega)
 omega
theorem add_t (a b : Int) (ha : in64 a) (hb : in64 b) : Triple P0 93 [int .i64 a, int .i64 b] [] (sm (a + b)) [] := by
 refine num_Add_triple rfl (by decide) ?_
 simp only [num_Add_pc, push_cast, ↓reduceIte, reduceCtorEq, zB, zE, zA, zS, zL, zD, zM]
 unfold in64 at ha hb
 refine cnd_mk (fun h => ?_) (fun h => ?_)
 ·simp only [push_cast, ↓reduceIte, reduceCtorEq, zB, zE, zA, zS, zL, zD, zM]
  refine sm_no ?_
  rw [IntKind.wrap_i64] at h
  unfold in64; by_cases h1 : (a + b + 9223372036854775808) % 18446744073709551616 - 9223372036854775808 > a <;> by_cases h2 : b > 0 <;> by_cases h3 : b = 0 <;> simp only [h1, h2, h3, decide_true, decide_false] at h <;> first | omega | (simp at h; done) | (simp at h; omega)
 ·simp only [push_cast, ↓reduceIte, reduceCtorEq, zB, zE, zA, zS, zL, zD, zM]
  rw [IntKind.wrap_i64] at h ⊢
  have : in64 (a + b) := by
   unfold in64; by_cases h1 : (a + b + 9223372036854775808) % 18446744073709551616 - 9223372036854775808 > a <;> by_cases h2 : b > 0 <;> by_cases h3 : b = 0 <;> simp only [h1, h2, h3, decide_true, decide_false] at h <;> first | omega | (simp at h; done) | (simp at h; omega)
  exact sm_yes (by unfold in64 at this; omega) this
theorem sub_t (a b : Int) (ha : in64 a) (hb : in64 b) : Triple P0 182 [int .i64 a, int .i64 b] [] (sm (a - b)) [] := by
 refine num_Sub_triple rfl (by decide) ?_
 simp only [num_Sub_pc, push_cast, ↓reduceIte, reduceCtorEq, zB, zE, zA, zS, zL, zD, zM]
 unfold in64 at ha hb
 refine cnd_mk (fun h => ?_) (fun h => ?_)
 ·simp only [push_cast, ↓reduceIte, reduceCtorEq, zB, zE, zA, zS, zL, zD, zM]
  refine sm_no ?_
  rw [IntKind.wrap_i64] at h
  unfold in64; by_cases h1 : (a - b + 9223372036854775808) % 18446744073709551616 - 9223372036854775808 < a <;> by_cases h2 : b > 0 <;> by_cases h3 : b = 0 <;> simp only [h1, h2, h3, decide_true, decide_false] at h <;> first | omega | (simp at h; done) | (simp at h; omega)
 ·simp only [push_cast, ↓reduceIte, reduceCtorEq, zB, zE, zA, zS, zL, zD, zM]
  rw [IntKind.wrap_i64] at h ⊢
  have : in64 (a - b) := by
   unfold in64; by_cases h1 : (a - b + 9223372036854775808) % 18446744073709551616 - 9223372036854775808 < a <;> by_cases h2 : b > 0 <;> by_cases h3 : b = 0 <;> simp only [h1, h2, h3, decide_true, decide_false] at h <;> first | omega | (simp at h; done) | (simp at h; omega)
  exact sm_yes (by unfold in64 at this; omega) this
theorem neg_t (a : Int) (ha : in64 a) : Triple P0 179 [int .i64 a] [] (sm (-a)) [] := by
 refine num_Neg_triple rfl (by decide) ?_
 simp only [num_Neg_pc, push_cast, ↓reduceIte, reduceCtorEq, zB, zE, zA, zS, zL, zD, zM]
 refine call_mk (sub_t 0 a (by decide) ha) rfl trivial ?_
 simp only [sm, push_cast, ↓reduceIte, reduceCtorEq, zB, zE, zA, zS, zL, zD, zM]
 simp
theorem size_t (a : Int) (ha : in64 a) : Triple P0 147 [int .i64 a] [] (int .u64 a.natAbs) [] := by
 refine num_size_triple rfl (by decide) ?_
 simp only [num_size_pc, push_cast, ↓reduceIte, reduceCtorEq, zB, zE, zA, zS, zL, zD, zM]
 unfold in64 at ha
 refine cnd_mk (fun h => ?_) (fun h => ?_)
 ·simp only [push_cast, ↓reduceIte, reduceCtorEq, zB, zE, zA, zS, zL, zD, zM]
  simp at h
  rw [IntKind.wrap_u64, IntKind.wrap_u64]
  congr 3
  omega
 ·simp only [push_cast, ↓reduceIte, reduceCtorEq, zB, zE, zA, zS, zL, zD, zM]
  simp at h
  rw [IntKind.wrap_u64]
  congr 3
  omega
theorem mul64_t (x y : Nat) (hx : x < 18446744073709551616) (hy : y < 18446744073709551616) : Triple P0 119 [int .u64 x, int .u64 y] [] (.tup [int .u64 (x * y / 18446744073709551616 : Nat), int .u64 (x * y % 18446744073709551616 : Nat)]) [] := by
 refine bits_Mul64_triple rfl (by decide) ?_
 simp only [bits_Mul64_pc, push_cast, ↓reduceIte, reduceCtorEq, zB, zE, zA, zS, zL, zD, zM]
 refine ⟨by decide, by decide, by decide, by decide, by decide, ?_⟩
 simp only [shr32, and32, wrapN, ← Int.natCast_mul, ← Int.natCast_add]
 have hm : ∀ n : Nat, n % 4294967296 % 18446744073709551616 = n % 4294967296 := fun n => by omega
 simp only [hm]
 have key := nat_parts (x := x) (y := y) (a := x / 4294967296) (b := x % 4294967296) (c := y / 4294967296) (d := y % 4294967296) (by omega) (by omega)
 have b1 := mul_bound (a := x / 4294967296) (b := y / 4294967296) (by omega) (by omega)
 have b2 := mul_bound (a := x / 4294967296) (b := y % 4294967296) (by omega) (by omega)
 have b3 := mul_bound (a := x % 4294967296) (b := y / 4294967296) (by omega) (by omega)
 have b4 := mul_bound (a := x % 4294967296) (b := y % 4294967296) (by omega) (by omega)
 generalize x / 4294967296 * (y / 4294967296) = p at *
 generalize x / 4294967296 * (y % 4294967296) = q at *
 generalize x % 4294967296 * (y / 4294967296) = r at *
 generalize x % 4294967296 * (y % 4294967296) = t at *
 rw [key]
 congr 5
 omega

theorem mul_t (a b : Int) (ha : in64 a) (hb : in64 b) : Triple P0 113 [int .i64 a, int .i64 b] [] (sm (a * b)) [] := by
 refine num_Mul_triple rfl (by decide) ?_
 have ha' := ha
 have hb' := hb
 unfold in64 at ha' hb'
 simp only [num_Mul_pc, zaa, run_cut, unw_cut, stp_inv, stp_inv_no, callIX_ifc, callIO_some, stp_nxt, nxtX_ptr, nxtY_some, stp_callv, callX_fn, stp_callv_no, run_nil, run_skip, run_seq, run_reg, runR_nil, runR_cons, stp_see, sfin_mk, stp_act, stp_act_no, stp_call, stp_call_no, afin_mk, callA_none, callA_raw, callB_eq, callC_some, aft_eq, run_cond, cnd_true, cnd_false, run_block, run_exit, run_ret, run_blk, run_lp, unw_nil, unw_blk, unw_blk_rt, unw_c, unw_lp, RetP_rt, RetP_nor, opn_nil, opn_tmp, opn_cell, opf_mk, run_drw, runD_nil, runD_cons, dstp_see, dfin_mk, dstp_act, dafin_mk, dstp_act_no, dstp_call_no, dstp_call, dstp_inv, dstp_inv_no, dcI_ifc, dcIO_some, dstp_callv, dcX_fn, dstp_callv_no, dcA_some, dcB_eq, dcC_some, aftD_eq, names, zae, put_ap, upd_ap, putO_some, putO_none, Opd_t, Opd_c, gdv_n, gdv_s, atHead_eq, nrmD_some, nrm_eq, nrm1, stAt_eq, expo_eq, expo2_some, expo3_some, metOf, mapAt, iterAt, seeM, lkp2, lenm1, tas1, ent1, ent2, ent3, entR, actM, msetV, mset3, mdel2, rngM, rng1, mrk1, cps3, toV, toVs, toVa, toVagg, isKey, rvOf, yes, yes1, bad, badI, carry3, mmL, iaa2, eqa1, eq2, eql, AV.isA, PO.see, PO.act, Vs.q, Rs.and, AV.bare, AV.may, bin2, binI, binS, beq2, pick3, un1, conv1, len1, ia2, iab, leb, ixs2, ldb, ldr, ld1, nck1, eqn1, fa1, fld1, bnd, sls3, sll4, ext1, src, toStr1, fillA, barel, mayl, PO.see.mayO, PO.see.bareO, rowAt, boxAt, ptrAt, nv, AV.rv, rvs, AV.elt, frz, freeze, newOb, badR, stb, str, st2, app3, par, cpy3, clr2, sla1, slab, eltsOf, toBytes1, mks2, RV.cells, AV.cells, AV.one, RV.one, AV.boxable, RV.good, splice, preL, preV, outL, outV, outG, outX, outXs, errs, hasNil, AV.isNil, resOf, argE, argD, argL, argV, hids, hidL, kids, reach, fwd, fwd1, takeO, takeL, bname, bver, bver1, back, putL, imV, imL, imO, idx, obsO, obs, keep, params, isPar, locals, nfwd, nfwd1, grab, grab1, Ob.own, Value.oneCell', bif_true, bif_false, ↓reduceIte, true_and, and_true, and_self, true_implies, imp_self, implies_true, zaf, zag, zah, zaa, zai, zaj, zak, zal, zam, zan, zao, zap, zaq, zar, zas, zab, zat, zau, zav, zaw, zax, zay, zaz, zba, zbb, zbc, zbd, zbe, reduceCtorEq, zbf, zbg, zbh, zbi, decide_true, decide_false, if_true, if_false, false_and, and_false, not_true, not_false_eq_true, zbj, zbk, zbl, zbm, zbn, zac, beq_self_eq_true, zB, zbo, zbp, false_implies, zbq, ne_eq, zbr, zbs, zbt, zbu, zbv, zbw, p_m_eq, p_s_eq, p_a_eq, p_c_eq, p_g_eq, o_i_eq]
 refine call_mk (size_t a ha) rfl trivial ?_
 simp only [run_cut, unw_cut, stp_inv, stp_inv_no, callIX_ifc, callIO_some, stp_nxt, nxtX_ptr, nxtY_some, stp_callv, callX_fn, stp_callv_no, run_nil, run_skip, run_seq, run_reg, runR_nil, runR_cons, stp_see, sfin_mk, stp_act, stp_act_no, stp_call, stp_call_no, afin_mk, callA_none, callA_raw, callB_eq, callC_some, aft_eq, run_cond, cnd_true, cnd_false, run_block, run_exit, run_ret, run_blk, run_lp, unw_nil, unw_blk, unw_blk_rt, unw_c, unw_lp, RetP_rt, RetP_nor, opn_nil, opn_tmp, opn_cell, opf_mk, run_drw, runD_nil, runD_cons, dstp_see, dfin_mk, dstp_act, dafin_mk, dstp_act_no, dstp_call_no, dstp_call, dstp_inv, dstp_inv_no, dcI_ifc, dcIO_some, dstp_callv, dcX_fn, dstp_callv_no, dcA_some, dcB_eq, dcC_some, aftD_eq, names, zae, put_ap, upd_ap, putO_some, putO_none, Opd_t, Opd_c, gdv_n, gdv_s, atHead_eq, nrmD_some, nrm_eq, nrm1, stAt_eq, expo_eq, expo2_some, expo3_some, metOf, mapAt, iterAt, seeM, lkp2, lenm1, tas1, ent1, ent2, ent3, entR, actM, msetV, mset3, mdel2, rngM, rng1, mrk1, cps3, toV, toVs, toVa, toVagg, isKey, rvOf, yes, yes1, bad, badI, carry3, mmL, iaa2, eqa1, eq2, eql, AV.isA, PO.see, PO.act, Vs.q, Rs.and, AV.bare, AV.may, bin2, binI, binS, beq2, pick3, un1, conv1, len1, ia2, iab, leb, ixs2, ldb, ldr, ld1, nck1, eqn1, fa1, fld1, bnd, sls3, sll4, ext1, src, toStr1, fillA, barel, mayl, PO.see.mayO, PO.see.bareO, rowAt, boxAt, ptrAt, nv, AV.rv, rvs, AV.elt, frz, freeze, newOb, badR, stb, str, st2, app3, par, cpy3, clr2, sla1, slab, eltsOf, toBytes1, mks2, RV.cells, AV.cells, AV.one, RV.one, AV.boxable, RV.good, splice, preL, preV, outL, outV, outG, outX, outXs, errs, hasNil, AV.isNil, resOf, argE, argD, argL, argV, hids, hidL, kids, reach, fwd, fwd1, takeO, takeL, bname, bver, bver1, back, putL, imV, imL, imO, idx, obsO, obs, keep, params, isPar, locals, nfwd, nfwd1, grab, grab1, Ob.own, Value.oneCell', bif_true, bif_false, ↓reduceIte, true_and, and_true, and_self, true_implies, imp_self, implies_true, zaf, zag, zah, zaa, zai, zaj, zak, zal, zam, zan, zao, zap, zaq, zar, zas, zab, zat, zau, zav, zaw, zax, zay, zaz, zba, zbb, zbc, zbd, zbe, reduceCtorEq, zbf, zbg, zbh, zbi, decide_true, decide_false, if_true, if_false, false_and, and_false, not_true, not_false_eq_true, zbj, zbk, zbl, zbm, zbn, zac, beq_self_eq_true, zB, zbo, zbp, false_implies, zbq, ne_eq, zbr, zbs, zbt, zbu, zbv, zbw, p_m_eq, p_s_eq, p_a_eq, p_c_eq, p_g_eq, o_i_eq]
 refine call_mk (size_t b hb) rfl trivial ?_
 simp only [run_cut, unw_cut, stp_inv, stp_inv_no, callIX_ifc, callIO_some, stp_nxt, nxtX_ptr, nxtY_some, stp_callv, callX_fn, stp_callv_no, run_nil, run_skip, run_seq, run_reg, runR_nil, runR_cons, stp_see, sfin_mk, stp_act, stp_act_no, stp_call, stp_call_no, afin_mk, callA_none, callA_raw, callB_eq, callC_some, aft_eq, run_cond, cnd_true, cnd_false, run_block, run_exit, run_ret, run_blk, run_lp, unw_nil, unw_blk, unw_blk_rt, unw_c, unw_lp, RetP_rt, RetP_nor, opn_nil, opn_tmp, opn_cell, opf_mk, run_drw, runD_nil, runD_cons, dstp_see, dfin_mk, dstp_act, dafin_mk, dstp_act_no, dstp_call_no, dstp_call, dstp_inv, dstp_inv_no, dcI_ifc, dcIO_some, dstp_callv, dcX_fn, dstp_callv_no, dcA_some, dcB_eq, dcC_some, aftD_eq, names, zae, put_ap, upd_ap, putO_some, putO_none, Opd_t, Opd_c, gdv_n, gdv_s, atHead_eq, nrmD_some, nrm_eq, nrm1, stAt_eq, expo_eq, expo2_some, expo3_some, metOf, mapAt, iterAt, seeM, lkp2, lenm1, tas1, ent1, ent2, ent3, entR, actM, msetV, mset3, mdel2, rngM, rng1, mrk1, cps3, toV, toVs, toVa, toVagg, isKey, rvOf, yes, yes1, bad, badI, carry3, mmL, iaa2, eqa1, eq2, eql, AV.isA, PO.see, PO.act, Vs.q, Rs.and, AV.bare, AV.may, bin2, binI, binS, beq2, pick3, un1, conv1, len1, ia2, iab, leb, ixs2, ldb, ldr, ld1, nck1, eqn1, fa1, fld1, bnd, sls3, sll4, ext1, src, toStr1, fillA, barel, mayl, PO.see.mayO, PO.see.bareO, rowAt, boxAt, ptrAt, nv, AV.rv, rvs, AV.elt, frz, freeze, newOb, badR, stb, str, st2, app3, par, cpy3, clr2, sla1, slab, eltsOf, toBytes1, mks2, RV.cells, AV.cells, AV.one, RV.one, AV.boxable, RV.good, splice, preL, preV, outL, outV, outG, outX, outXs, errs, hasNil, AV.isNil, resOf, argE, argD, argL, argV, hids, hidL, kids, reach, fwd, fwd1, takeO, takeL, bname, bver, bver1, back, putL, imV, imL, imO, idx, obsO, obs, keep, params, isPar, locals, nfwd, nfwd1, grab, grab1, Ob.own, Value.oneCell', bif_true, bif_false, ↓reduceIte, true_and, and_true, and_self, true_implies, imp_self, implies_true, zaf, zag, zah, zaa, zai, zaj, zak, zal, zam, zan, zao, zap, zaq, zar, zas, zab, zat, zau, zav, zaw, zax, zay, zaz, zba, zbb, zbc, zbd, zbe, reduceCtorEq, zbf, zbg, zbh, zbi, decide_true, decide_false, if_true, if_false, false_and, and_false, not_true, not_false_eq_true, zbj, zbk, zbl, zbm, zbn, zac, beq_self_eq_true, zB, zbo, zbp, false_implies, zbq, ne_eq, zbr, zbs, zbt, zbu, zbv, zbw, p_m_eq, p_s_eq, p_a_eq, p_c_eq, p_g_eq, o_i_eq]
 refine call_mk (mul64_t a.natAbs b.natAbs (by omega) (by omega)) rfl trivial ?_
 simp only [run_cut, unw_cut, stp_inv, stp_inv_no, callIX_ifc, callIO_some, stp_nxt, nxtX_ptr, nxtY_some, stp_callv, callX_fn, stp_callv_no, run_nil, run_skip, run_seq, run_reg, runR_nil, runR_cons, stp_see, sfin_mk, stp_act, stp_act_no, stp_call, stp_call_no, afin_mk, callA_none, callA_raw, callB_eq, callC_some, aft_eq, run_cond, cnd_true, cnd_false, run_block, run_exit, run_ret, run_blk, run_lp, unw_nil, unw_blk, unw_blk_rt, unw_c, unw_lp, RetP_rt, RetP_nor, opn_nil, opn_tmp, opn_cell, opf_mk, run_drw, runD_nil, runD_cons, dstp_see, dfin_mk, dstp_act, dafin_mk, dstp_act_no, dstp_call_no, dstp_call, dstp_inv, dstp_inv_no, dcI_ifc, dcIO_some, dstp_callv, dcX_fn, dstp_callv_no, dcA_some, dcB_eq, dcC_some, aftD_eq, names, zae, put_ap, upd_ap, putO_some, putO_none, Opd_t, Opd_c, gdv_n, gdv_s, atHead_eq, nrmD_some, nrm_eq, nrm1, stAt_eq, expo_eq, expo2_some, expo3_some, metOf, mapAt, iterAt, seeM, lkp2, lenm1, tas1, ent1, ent2, ent3, entR, actM, msetV, mset3, mdel2, rngM, rng1, mrk1, cps3, toV, toVs, toVa, toVagg, isKey, rvOf, yes, yes1, bad, badI, carry3, mmL, iaa2, eqa1, eq2, eql, AV.isA, PO.see, PO.act, Vs.q, Rs.and, AV.bare, AV.may, bin2, binI, binS, beq2, pick3, un1, conv1, len1, ia2, iab, leb, ixs2, ldb, ldr, ld1, nck1, eqn1, fa1, fld1, bnd, sls3, sll4, ext1, src, toStr1, fillA, barel, mayl, PO.see.mayO, PO.see.bareO, rowAt, boxAt, ptrAt, nv, AV.rv, rvs, AV.elt, frz, freeze, newOb, badR, stb, str, st2, app3, par, cpy3, clr2, sla1, slab, eltsOf, toBytes1, mks2, RV.cells, AV.cells, AV.one, RV.one, AV.boxable, RV.good, splice, preL, preV, outL, outV, outG, outX, outXs, errs, hasNil, AV.isNil, resOf, argE, argD, argL, argV, hids, hidL, kids, reach, fwd, fwd1, takeO, takeL, bname, bver, bver1, back, putL, imV, imL, imO, idx, obsO, obs, keep, params, isPar, locals, nfwd, nfwd1, grab, grab1, Ob.own, Value.oneCell', bif_true, bif_false, ↓reduceIte, true_and, and_true, and_self, true_implies, imp_self, implies_true, zaf, zag, zah, zaa, zai, zaj, zak, zal, zam, zan, zao, zap, zaq, zar, zas, zab, zat, zau, zav, zaw, zax, zay, zaz, zba, zbb, zbc, zbd, zbe, reduceCtorEq, zbf, zbg, zbh, zbi, decide_true, decide_false, if_true, if_false, false_and, and_false, not_true, not_false_eq_true, zbj, zbk, zbl, zbm, zbn, zac, beq_self_eq_true, zB, zbo, zbp, false_implies, zbq, ne_eq, zbr, zbs, zbt, zbu, zbv, zbw, p_m_eq, p_s_eq, p_a_eq, p_c_eq, p_g_eq, o_i_eq]
 have hab : a.natAbs * b.natAbs = (a * b).natAbs := (zch a b).symm
 rw [hab]
 have hle : (a * b).natAbs ≤ 9223372036854775808 * 9223372036854775808 := by rw [← hab]; exact zca (by omega) (by omega)
 have hs : (a < 0 ∧ b < 0 → 0 < a * b) ∧ (a < 0 ∧ 0 ≤ b → a * b ≤ 0) ∧ (0 ≤ a ∧ b < 0 → a * b ≤ 0) ∧ (0 ≤ a ∧ 0 ≤ b → 0 ≤ a * b) :=
  ⟨fun h => Int.mul_pos_of_neg_of_neg h.1 h.2, fun h => Int.mul_nonpos_of_nonpos_of_nonneg (by omega) h.2, fun h => Int.mul_nonpos_of_nonneg_of_nonpos h.1 (by omega), fun h => Int.mul_nonneg h.1 h.2⟩
 clear hab
 generalize a * b = m at *
 repeat refine And.intro (by simp +contextual) ?_
 refine cnd_mk (fun h => ?_) (fun h => ?_)
 ·simp only [run_cut, unw_cut, stp_inv, stp_inv_no, callIX_ifc, callIO_some, stp_nxt, nxtX_ptr, nxtY_some, stp_callv, callX_fn, stp_callv_no, run_nil, run_skip, run_seq, run_reg, runR_nil, runR_cons, stp_see, sfin_mk, stp_act, stp_act_no, stp_call, stp_call_no, afin_mk, callA_none, callA_raw, callB_eq, callC_some, aft_eq, run_cond, cnd_true, cnd_false, run_block, run_exit, run_ret, run_blk, run_lp, unw_nil, unw_blk, unw_blk_rt, unw_c, unw_lp, RetP_rt, RetP_nor, opn_nil, opn_tmp, opn_cell, opf_mk, run_drw, runD_nil, runD_cons, dstp_see, dfin_mk, dstp_act, dafin_mk, dstp_act_no, dstp_call_no, dstp_call, dstp_inv, dstp_inv_no, dcI_ifc, dcIO_some, dstp_callv, dcX_fn, dstp_callv_no, dcA_some, dcB_eq, dcC_some, aftD_eq, names, zae, put_ap, upd_ap, putO_some, putO_none, Opd_t, Opd_c, gdv_n, gdv_s, atHead_eq, nrmD_some, nrm_eq, nrm1, stAt_eq, expo_eq, expo2_some, expo3_some, metOf, mapAt, iterAt, seeM, lkp2, lenm1, tas1, ent1, ent2, ent3, entR, actM, msetV, mset3, mdel2, rngM, rng1, mrk1, cps3, toV, toVs, toVa, toVagg, isKey, rvOf, yes, yes1, bad, badI, carry3, mmL, iaa2, eqa1, eq2, eql, AV.isA, PO.see, PO.act, Vs.q, Rs.and, AV.bare, AV.may, bin2, binI, binS, beq2, pick3, un1, conv1, len1, ia2, iab, leb, ixs2, ldb, ldr, ld1, nck1, eqn1, fa1, fld1, bnd, sls3, sll4, ext1, src, toStr1, fillA, barel, mayl, PO.see.mayO, PO.see.bareO, rowAt, boxAt, ptrAt, nv, AV.rv, rvs, AV.elt, frz, freeze, newOb, badR, stb, str, st2, app3, par, cpy3, clr2, sla1, slab, eltsOf, toBytes1, mks2, RV.cells, AV.cells, AV.one, RV.one, AV.boxable, RV.good, splice, preL, preV, outL, outV, outG, outX, outXs, errs, hasNil, AV.isNil, resOf, argE, argD, argL, argV, hids, hidL, kids, reach, fwd, fwd1, takeO, takeL, bname, bver, bver1, back, putL, imV, imL, imO, idx, obsO, obs, keep, params, isPar, locals, nfwd, nfwd1, grab, grab1, Ob.own, Value.oneCell', bif_true, bif_false, ↓reduceIte, true_and, and_true, and_self, true_implies, imp_self, implies_true, zaf, zag, zah, zaa, zai, zaj, zak, zal, zam, zan, zao, zap, zaq, zar, zas, zab, zat, zau, zav, zaw, zax, zay, zaz, zba, zbb, zbc, zbd, zbe, reduceCtorEq, zbf, zbg, zbh, zbi, decide_true, decide_false, if_true, if_false, false_and, and_false, not_true, not_false_eq_true, zbj, zbk, zbl, zbm, zbn, zac, beq_self_eq_true, zB, zbo, zbp, false_implies, zbq, ne_eq, zbr, zbs, zbt, zbu, zbv, zbw, p_m_eq, p_s_eq, p_a_eq, p_c_eq, p_g_eq, o_i_eq]
  refine sm_no ?_
  unfold in64
  by_cases h1 : m.natAbs / 18446744073709551616 = 0 <;> by_cases h2 : m.natAbs % 18446744073709551616 = 9223372036854775808 <;> by_cases h3 : a < 0 <;> by_cases h4 : b < 0 <;> simp [h1, h2, h3, h4] at h <;> omega
 ·have hm : m.natAbs ≤ 9223372036854775808 ∧ (m.natAbs = 9223372036854775808 → (a < 0 ∧ 0 ≤ b) ∨ (0 ≤ a ∧ b < 0)) := by
   by_cases h1 : m.natAbs / 18446744073709551616 = 0 <;> by_cases h2 : m.natAbs % 18446744073709551616 = 9223372036854775808 <;> by_cases h3 : a < 0 <;> by_cases h4 : b < 0 <;> simp [h1, h2, h3, h4] at h <;> omega
  clear h
  simp only [run_cut, unw_cut, stp_inv, stp_inv_no, callIX_ifc, callIO_some, stp_nxt, nxtX_ptr, nxtY_some, stp_callv, callX_fn, stp_callv_no, run_nil, run_skip, run_seq, run_reg, runR_nil, runR_cons, stp_see, sfin_mk, stp_act, stp_act_no, stp_call, stp_call_no, afin_mk, callA_none, callA_raw, callB_eq, callC_some, aft_eq, run_cond, cnd_true, cnd_false, run_block, run_exit, run_ret, run_blk, run_lp, unw_nil, unw_blk, unw_blk_rt, unw_c, unw_lp, RetP_rt, RetP_nor, opn_nil, opn_tmp, opn_cell, opf_mk, run_drw, runD_nil, runD_cons, dstp_see, dfin_mk, dstp_act, dafin_mk, dstp_act_no, dstp_call_no, dstp_call, dstp_inv, dstp_inv_no, dcI_ifc, dcIO_some, dstp_callv, dcX_fn, dstp_callv_no, dcA_some, dcB_eq, dcC_some, aftD_eq, names, zae, put_ap, upd_ap, putO_some, putO_none, Opd_t, Opd_c, gdv_n, gdv_s, atHead_eq, nrmD_some, nrm_eq, nrm1, stAt_eq, expo_eq, expo2_some, expo3_some, metOf, mapAt, iterAt, seeM, lkp2, lenm1, tas1, ent1, ent2, ent3, entR, actM, msetV, mset3, mdel2, rngM, rng1, mrk1, cps3, toV, toVs, toVa, toVagg, isKey, rvOf, yes, yes1, bad, badI, carry3, mmL, iaa2, eqa1, eq2, eql, AV.isA, PO.see, PO.act, Vs.q, Rs.and, AV.bare, AV.may, bin2, binI, binS, beq2, pick3, un1, conv1, len1, ia2, iab, leb, ixs2, ldb, ldr, ld1, nck1, eqn1, fa1, fld1, bnd, sls3, sll4, ext1, src, toStr1, fillA, barel, mayl, PO.see.mayO, PO.see.bareO, rowAt, boxAt, ptrAt, nv, AV.rv, rvs, AV.elt, frz, freeze, newOb, badR, stb, str, st2, app3, par, cpy3, clr2, sla1, slab, eltsOf, toBytes1, mks2, RV.cells, AV.cells, AV.one, RV.one, AV.boxable, RV.good, splice, preL, preV, outL, outV, outG, outX, outXs, errs, hasNil, AV.isNil, resOf, argE, argD, argL, argV, hids, hidL, kids, reach, fwd, fwd1, takeO, takeL, bname, bver, bver1, back, putL, imV, imL, imO, idx, obsO, obs, keep, params, isPar, locals, nfwd, nfwd1, grab, grab1, Ob.own, Value.oneCell', bif_true, bif_false, ↓reduceIte, true_and, and_true, and_self, true_implies, imp_self, implies_true, zaf, zag, zah, zaa, zai, zaj, zak, zal, zam, zan, zao, zap, zaq, zar, zas, zab, zat, zau, zav, zaw, zax, zay, zaz, zba, zbb, zbc, zbd, zbe, reduceCtorEq, zbf, zbg, zbh, zbi, decide_true, decide_false, if_true, if_false, false_and, and_false, not_true, not_false_eq_true, zbj, zbk, zbl, zbm, zbn, zac, beq_self_eq_true, zB, zbo, zbp, false_implies, zbq, ne_eq, zbr, zbs, zbt, zbu, zbv, zbw, p_m_eq, p_s_eq, p_a_eq, p_c_eq, p_g_eq, o_i_eq]
  refine cnd_mk (fun h' => ?_) (fun h' => ?_)
  ·simp only [run_cut, unw_cut, stp_inv, stp_inv_no, callIX_ifc, callIO_some, stp_nxt, nxtX_ptr, nxtY_some, stp_callv, callX_fn, stp_callv_no, run_nil, run_skip, run_seq, run_reg, runR_nil, runR_cons, stp_see, sfin_mk, stp_act, stp_act_no, stp_call, stp_call_no, afin_mk, callA_none, callA_raw, callB_eq, callC_some, aft_eq, run_cond, cnd_true, cnd_false, run_block, run_exit, run_ret, run_blk, run_lp, unw_nil, unw_blk, unw_blk_rt, unw_c, unw_lp, RetP_rt, RetP_nor, opn_nil, opn_tmp, opn_cell, opf_mk, run_drw, runD_nil, runD_cons, dstp_see, dfin_mk, dstp_act, dafin_mk, dstp_act_no, dstp_call_no, dstp_call, dstp_inv, dstp_inv_no, dcI_ifc, dcIO_some, dstp_callv, dcX_fn, dstp_callv_no, dcA_some, dcB_eq, dcC_some, aftD_eq, names, zae, put_ap, upd_ap, putO_some, putO_none, Opd_t, Opd_c, gdv_n, gdv_s, atHead_eq, nrmD_some, nrm_eq, nrm1, stAt_eq, expo_eq, expo2_some, expo3_some, metOf, mapAt, iterAt, seeM, lkp2, lenm1, tas1, ent1, ent2, ent3, entR, actM, msetV, mset3, mdel2, rngM, rng1, mrk1, cps3, toV, toVs, toVa, toVagg, isKey, rvOf, yes, yes1, bad, badI, carry3, mmL, iaa2, eqa1, eq2, eql, AV.isA, PO.see, PO.act, Vs.q, Rs.and, AV.bare, AV.may, bin2, binI, binS, beq2, pick3, un1, conv1, len1, ia2, iab, leb, ixs2, ldb, ldr, ld1, nck1, eqn1, fa1, fld1, bnd, sls3, sll4, ext1, src, toStr1, fillA, barel, mayl, PO.see.mayO, PO.see.bareO, rowAt, boxAt, ptrAt, nv, AV.rv, rvs, AV.elt, frz, freeze, newOb, badR, stb, str, st2, app3, par, cpy3, clr2, sla1, slab, eltsOf, toBytes1, mks2, RV.cells, AV.cells, AV.one, RV.one, AV.boxable, RV.good, splice, preL, preV, outL, outV, outG, outX, outXs, errs, hasNil, AV.isNil, resOf, argE, argD, argL, argV, hids, hidL, kids, reach, fwd, fwd1, takeO, takeL, bname, bver, bver1, back, putL, imV, imL, imO, idx, obsO, obs, keep, params, isPar, locals, nfwd, nfwd1, grab, grab1, Ob.own, Value.oneCell', bif_true, bif_false, ↓reduceIte, true_and, and_true, and_self, true_implies, imp_self, implies_true, zaf, zag, zah, zaa, zai, zaj, zak, zal, zam, zan, zao, zap, zaq, zar, zas, zab, zat, zau, zav, zaw, zax, zay, zaz, zba, zbb, zbc, zbd, zbe, reduceCtorEq, zbf, zbg, zbh, zbi, decide_true, decide_false, if_true, if_false, false_and, and_false, not_true, not_false_eq_true, zbj, zbk, zbl, zbm, zbn, zac, beq_self_eq_true, zB, zbo, zbp, false_implies, zbq, ne_eq, zbr, zbs, zbt, zbu, zbv, zbw, p_m_eq, p_s_eq, p_a_eq, p_c_eq, p_g_eq, o_i_eq]
   have hn : m ≤ 0 := by by_cases h3 : a < 0 <;> by_cases h4 : b < 0 <;> simp [h3, h4] at h' <;> omega
   refine sm_yes ?_ ?_
   ·rw [IntKind.wrap_i64, IntKind.wrap_i64]
    omega
   ·unfold in64; omega
  ·simp only [run_cut, unw_cut, stp_inv, stp_inv_no, callIX_ifc, callIO_some, stp_nxt, nxtX_ptr, nxtY_some, stp_callv, callX_fn, stp_callv_no, run_nil, run_skip, run_seq, run_reg, runR_nil, runR_cons, stp_see, sfin_mk, stp_act, stp_act_no, stp_call, stp_call_no, afin_mk, callA_none, callA_raw, callB_eq, callC_some, aft_eq, run_cond, cnd_true, cnd_false, run_block, run_exit, run_ret, run_blk, run_lp, unw_nil, unw_blk, unw_blk_rt, unw_c, unw_lp, RetP_rt, RetP_nor, opn_nil, opn_tmp, opn_cell, opf_mk, run_drw, runD_nil, runD_cons, dstp_see, dfin_mk, dstp_act, dafin_mk, dstp_act_no, dstp_call_no, dstp_call, dstp_inv, dstp_inv_no, dcI_ifc, dcIO_some, dstp_callv, dcX_fn, dstp_callv_no, dcA_some, dcB_eq, dcC_some, aftD_eq, names, zae, put_ap, upd_ap, putO_some, putO_none, Opd_t, Opd_c, gdv_n, gdv_s, atHead_eq, nrmD_some, nrm_eq, nrm1, stAt_eq, expo_eq, expo2_some, expo3_some, metOf, mapAt, iterAt, seeM, lkp2, lenm1, tas1, ent1, ent2, ent3, entR, actM, msetV, mset3, mdel2, rngM, rng1, mrk1, cps3, toV, toVs, toVa, toVagg, isKey, rvOf, yes, yes1, bad, badI, carry3, mmL, iaa2, eqa1, eq2, eql, AV.isA, PO.see, PO.act, Vs.q, Rs.and, AV.bare, AV.may, bin2, binI, binS, beq2, pick3, un1, conv1, len1, ia2, iab, leb, ixs2, ldb, ldr, ld1, nck1, eqn1, fa1, fld1, bnd, sls3, sll4, ext1, src, toStr1, fillA, barel, mayl, PO.see.mayO, PO.see.bareO, rowAt, boxAt, ptrAt, nv, AV.rv, rvs, AV.elt, frz, freeze, newOb, badR, stb, str, st2, app3, par, cpy3, clr2, sla1, slab, eltsOf, toBytes1, mks2, RV.cells, AV.cells, AV.one, RV.one, AV.boxable, RV.good, splice, preL, preV, outL, outV, outG, outX, outXs, errs, hasNil, AV.isNil, resOf, argE, argD, argL, argV, hids, hidL, kids, reach, fwd, fwd1, takeO, takeL, bname, bver, bver1, back, putL, imV, imL, imO, idx, obsO, obs, keep, params, isPar, locals, nfwd, nfwd1, grab, grab1, Ob.own, Value.oneCell', bif_true, bif_false, ↓reduceIte, true_and, and_true, and_self, true_implies, imp_self, implies_true, zaf, zag, zah, zaa, zai, zaj, zak, zal, zam, zan, zao, zap, zaq, zar, zas, zab, zat, zau, zav, zaw, zax, zay, zaz, zba, zbb, zbc, zbd, zbe, reduceCtorEq, zbf, zbg, zbh, zbi, decide_true, decide_false, if_true, if_false, false_and, and_false, not_true, not_false_eq_true, zbj, zbk, zbl, zbm, zbn, zac, beq_self_eq_true, zB, zbo, zbp, false_implies, zbq, ne_eq, zbr, zbs, zbt, zbu, zbv, zbw, p_m_eq, p_s_eq, p_a_eq, p_c_eq, p_g_eq, o_i_eq]
   have hn : 0 ≤ m ∧ m.natAbs ≠ 9223372036854775808 := by by_cases h3 : a < 0 <;> by_cases h4 : b < 0 <;> simp [h3, h4] at h' <;> omega
   refine sm_yes ?_ ?_
   ·rw [IntKind.wrap_i64]
    omega
   ·unfold in64; omega
theorem tup3 {a b c a' b' c' : AV} (h1 : a = a') (h2 : b = b') (h3 : c = c') : AV.tup [a, b, c] = AV.tup [a', b', c'] := by rw [h1, h2, h3]
theorem int_eq {k : IntKind} {a b : Int} (h : a = b) : int k a = int k b := by rw [h]
theorem bl_eq {a b : Bool} (h : a = b) : bl a = bl b := by rw [h]
theorem floor_facts {a b : Int} (ha : in64 a) (hb : 0 < b) : (-9223372036854775808 ≤ a / b ∧ a / b ≤ 9223372036854775807) ∧ (a.tmod b < 0 → a.tdiv b - 1 = a / b ∧ a.tmod b + b = a % b) ∧ (0 ≤ a.tmod b → a.tdiv b = a / b ∧ a.tmod b = a % b) := by
 unfold in64 at ha
 have h1 := Int.mul_tdiv_add_tmod a b
 have h2 : a.tmod b < b := Int.tmod_lt_of_pos a hb
 have h3 : -b < a.tmod b := by
  have := Int.lt_tmod_of_pos a hb
  omega
 refine ⟨?_, fun h => ?_, fun h => ?_⟩
 ·have h4 := zcj a b
  have h5 := zbx a hb
  have h6 := zby a (show b ≠ 0 by omega)
  generalize a / b = q at *
  generalize a % b = r at *
  constructor
  ·rcases zcb q 0 with hq | hq
   ·have : b * (q + 1) ≤ 1 * (q + 1) := Int.mul_le_mul_of_nonpos_right (by omega) (by omega)
    rw [zcc] at this
    omega
   ·omega
  ·rcases zcb q 0 with hq | hq
   ·omega
   ·have : 1 * q ≤ b * q := Int.mul_le_mul_of_nonneg_right (by omega) hq
    omega
 ·have := (Int.ediv_emod_unique (a := a) (b := b) (r := a.tmod b + b) (q := a.tdiv b - 1) hb).2 ⟨by rw [Int.mul_sub]; omega, by omega, by omega⟩
  exact ⟨this.1.symm, this.2.symm⟩
 ·have := (Int.ediv_emod_unique (a := a) (b := b) (r := a.tmod b) (q := a.tdiv b) hb).2 ⟨by omega, by omega, by omega⟩
  exact ⟨this.1.symm, this.2.symm⟩
theorem floor_t (a b : Int) (ha : in64 a) (hb : in64 b) : Triple P0 66 [int .i64 a, int .i64 b] [] (.tup [int .i64 (if 0 < b then a / b else 0), int .i64 (if 0 < b then a % b else 0), bl (decide (0 < b))]) [] := by
 refine num_Floor_triple rfl (by decide) ?_
 simp only [num_Floor_pc, push_cast, ↓reduceIte, reduceCtorEq, zB, zE, zA, zS, zL, zD, zM]
 refine cnd_mk (fun h => ?_) (fun h => ?_)
 ·simp only [push_cast, ↓reduceIte, reduceCtorEq, zB, zE, zA, zS, zL, zD, zM]
  simp at h
  have : ¬ 0 < b := by omega
  simp [this]
 ·simp only [push_cast, ↓reduceIte, reduceCtorEq, zB, zE, zA, zS, zL, zD, zM]
  simp at h
  refine ⟨by omega, by omega, by kernel_rfl, ?_⟩
  obtain ⟨q1, q2, q3⟩ := floor_facts ha h
  have hw : IntKind.i64.wrap (a.tdiv b) = a.tdiv b := wrap_i64_tdiv a b ha.1 ha.2 (by omega)
  rw [hw]
  refine cnd_mk (fun h' => ?_) (fun h' => ?_)
  ·simp only [push_cast, ↓reduceIte, reduceCtorEq, zB, zE, zA, zS, zL, zD, zM]
   simp at h'
   obtain ⟨e1, e2⟩ := q2 h'
   refine tup3 (int_eq ?_) (int_eq ?_) (bl_eq ?_)
   ·rw [if_pos h, ← e1, wrap_id]
    unfold in64 at ha; rw [e1]; omega
   ·rw [if_pos h, ← e2, wrap_id]
    have h5 := zbx a h
    have h6 := zby a (show b ≠ 0 by omega)
    rw [e2]
    unfold in64 at hb; omega
   ·simp [h]
  ·simp only [push_cast, ↓reduceIte, reduceCtorEq, zB, zE, zA, zS, zL, zD, zM]
   simp at h'
   obtain ⟨e1, e2⟩ := q3 h'
   refine tup3 (int_eq ?_) (int_eq ?_) (bl_eq ?_)
   ·rw [if_pos h, e1]
   ·rw [if_pos h, e2]
   ·simp [h]

noncomputable def apiaryref1_W_pc : PC :=
  (.seq (.reg [p_a 2 (.new [(.r (.v (.int .u64 0))), (.r (.v (.int .u64 0)))])])
 (.seq (.reg [p_m 3 0, p_s 4 (.bin .shr (.t 3) (.c (.r (.v (.int .u64 63))))), p_s 5 (.conv .u64 (.t 4)), p_m 6 0, p_s 7 (.conv .u64 (.t 6)), p_s 8 (.build [(.r (.v (.int .u64 0))), (.r (.v (.int .u64 0)))] [(0, 1, (.t 5)), (1, 1, (.t 7))]),
 ⟨none, none, 0, .act (.st 2 (.t 2) (.t 8))⟩])
 .ret))
theorem apiaryref1_W_triple : Fun P0 159 1 [(2, false, some (132, (some 2)))] apiaryref1_W_pc := fun_mk Go.Proofs.Tryz.func159 rfl (by decide) (by kernel_rfl) (by decide) rfl (by kernel_rfl) (by kernel_rfl) (by decide)
noncomputable def apiaryref1_Wide_Plus_pc : PC :=
  (.seq (.reg [p_a 2 (.box (.t 0)), p_a 3 (.box (.t 1)), p_a 4 (.new [(.r (.v (.int .u64 0))), (.r (.v (.int .u64 0)))])])
 (.seq (.reg [p_s 10 (.fa 1 (.t 2)), p_s 11 (.ld none (.t 10)), p_s 12 (.fa 1 (.t 3)), p_s 13 (.ld none (.t 12)), p_s 14 (.carry false (.t 11) (.t 13) (.c (.r (.v (.int .u64 0))))),
 p_m 9 14, p_s 15 (.ext (.t 9) 0), p_s 16 (.ext (.t 9) 1), p_m 5 15, p_m 6 16])
 (.seq (.reg [p_s 18 (.fa 0 (.t 2)), p_s 19 (.ld none (.t 18)), p_s 20 (.fa 0 (.t 3)), p_s 21 (.ld none (.t 20)), p_m 22 6, p_s 23 (.carry false (.t 19) (.t 21) (.t 22)), p_m 17 23,
 p_s 24 (.ext (.t 17) 0), p_s 25 (.ext (.t 17) 1), p_m 7 24, p_m 8 25])
 (.seq (.reg [p_m 26 7, p_m 27 5, p_s 28 (.build [(.r (.v (.int .u64 0))), (.r (.v (.int .u64 0)))] [(0, 1, (.t 26)), (1, 1, (.t 27))]), ⟨none, none, 0, .act (.st 2 (.t 4) (.t 28))⟩])
 .ret))))
theorem apiaryref1_Wide_Plus_triple : Fun P0 81 2 [(4, false, some (132, (some 2)))] apiaryref1_Wide_Plus_pc := fun_mk Go.Proofs.Tryz.func81 rfl (by decide) (by kernel_rfl) (by decide) rfl (by kernel_rfl) (by kernel_rfl) (by decide)
noncomputable def apiaryref1_Wide_Turned_pc : PC :=
  (.seq (.reg [p_a 1 (.box (.t 0)), p_a 2 (.new [(.r (.v (.int .u64 0))), (.r (.v (.int .u64 0)))])])
 (.seq (.reg [p_s 3 (.fa 0 (.t 1)), p_s 4 (.ld none (.t 3)), p_s 5 (.un .xor (.t 4)), p_s 6 (.fa 1 (.t 1)), p_s 7 (.ld none (.t 6)), p_s 8 (.un .xor (.t 7)), p_s 9 (.build [(.r (.v (.int .u64 0))), (.r (.v (.int .u64 0)))] [(0, 1, (.t 5)), (1, 1, (.t 8))]),
 p_s 10 (.build [(.r (.v (.int .u64 0))), (.r (.v (.int .u64 0)))] [(0, 1, (.c (.r (.v (.int .u64 0))))), (1, 1, (.c (.r (.v (.int .u64 1)))))]), p_c 11 1 81 [.t 9, .t 10],
 ⟨none, none, 0, .act (.st 2 (.t 2) (.t 11))⟩])
 .ret))
theorem apiaryref1_Wide_Turned_triple : Fun P0 82 1 [(2, false, some (132, (some 2)))] apiaryref1_Wide_Turned_pc := fun_mk Go.Proofs.Tryz.func82 rfl (by decide) (by kernel_rfl) (by decide) rfl (by kernel_rfl) (by kernel_rfl) (by decide)
noncomputable def apiaryref1_Times_pc : PC :=
  (.seq (.reg [p_a 4 (.new [(.r (.v (.int .u64 0))), (.r (.v (.int .u64 0)))])])
 (.seq (.reg [p_m 9 0, p_s 10 (.conv .u64 (.t 9)), p_m 11 1, p_s 12 (.conv .u64 (.t 11)), p_m 5 10, p_m 6 12])
 (.seq (.seq (.reg [p_m 13 0, p_s 14 (.bin .lss (.t 13) (o_i 0))])
 (.cond (.t 14)
 (.reg [p_m 15 5, p_s 16 (.un .neg (.t 15)), p_m 5 16])
 .skip))
 (.seq (.seq (.reg [p_m 17 1, p_s 18 (.bin .lss (.t 17) (o_i 0))])
 (.cond (.t 18)
 (.reg [p_m 19 6, p_s 20 (.un .neg (.t 19)), p_m 6 20])
 .skip))
 (.seq (.reg [p_m 22 5, p_m 23 6, p_c 24 1 119 [.t 22, .t 23], p_m 21 24, p_s 25 (.ext (.t 21) 0), p_s 26 (.ext (.t 21) 1), p_m 7 25, p_m 8 26])
 (.seq (.seq (.reg [p_m 27 0, p_s 28 (.bin .lss (.t 27) (o_i 0)), p_m 29 1, p_s 30 (.bin .lss (.t 29) (o_i 0)), p_s 31 (.beq true (.t 28) (.t 30))])
 (.cond (.t 31)
 (.seq (.reg [p_m 32 7, p_m 33 8, p_s 34 (.build [(.r (.v (.int .u64 0))), (.r (.v (.int .u64 0)))] [(0, 1, (.t 32)), (1, 1, (.t 33))]), p_c 35 2 82 [.t 34], ⟨none, none, 0, .act (.st 2 (.t 4) (.t 35))⟩])
 .ret)
 .skip))
 (.seq (.reg [p_m 36 7, p_m 37 8, p_s 38 (.build [(.r (.v (.int .u64 0))), (.r (.v (.int .u64 0)))] [(0, 1, (.t 36)), (1, 1, (.t 37))]), ⟨none, none, 0, .act (.st 2 (.t 4) (.t 38))⟩])
 .ret)))))))
theorem apiaryref1_Times_triple : Fun P0 79 2 [(4, false, some (132, (some 2)))] apiaryref1_Times_pc := fun_mk Go.Proofs.Tryz.func79 rfl (by decide) (by kernel_rfl) (by decide) rfl (by kernel_rfl) (by kernel_rfl) (by decide)
noncomputable def apiaryref1_Wide_Small_pc : PC :=
  (.seq (.reg [p_a 1 (.box (.t 0)), p_s 2 (.mov (o_i 0)), p_s 3 (.mov (.c (.r (.v (.bool false)))))])
 (.seq (.reg [p_s 5 (.fa 1 (.t 1)), p_s 6 (.ld none (.t 5)), p_s 7 (.conv .i64 (.t 6)), p_m 4 7])
 (.seq (.seq (.drw [p_m 8 4, p_c 9 1 159 [.t 8], p_s 10 (.ld (some 2) (.t 1)), p_s 11 (.eqa true [0, 0] (.t 9) (.t 10))]
 [[], [0], [], [0, 1, 2]])
 (.cond (.t 11)
 (.seq (.reg [p_s 2 (.mov (o_i 0)), p_s 3 (.mov (.c (.r (.v (.bool false)))))])
 .ret)
 .skip))
 (.seq (.reg [p_m 12 4, p_m 2 12, p_s 3 (.mov (.c (.r (.v (.bool true)))))])
 .ret))))
theorem apiaryref1_Wide_Small_triple : Fun P0 118 1 [(2, false, none), (3, false, none)] apiaryref1_Wide_Small_pc := fun_mk Go.Proofs.Tryz.func118 rfl (by decide) (by kernel_rfl) (by decide) rfl (by kernel_rfl) (by kernel_rfl) (by decide)
def wide (x : Int) : AV := .r (.agg [.v (.int .u64 (x / 18446744073709551616 % 18446744073709551616)), .v (.int .u64 (x % 18446744073709551616))])
theorem wide_eq {x a b : Int} (h1 : a = x / 18446744073709551616 % 18446744073709551616) (h2 : b = x % 18446744073709551616) : AV.r (.agg [.v (.int .u64 a), .v (.int .u64 b)]) = wide x := by rw [h1, h2]; rfl
theorem shr63 (a : Int) (ha : in64 a) : a.fdiv (2 ^ min (Int.toNat 63) IntKind.i64.bits) = if a < 0 then -1 else 0 := by
 have : (2 : Int) ^ min (Int.toNat 63) IntKind.i64.bits = 9223372036854775808 := by decide
 rw [this, Int.fdiv_eq_ediv_of_nonneg _ (by decide)]
 unfold in64 at ha
 split <;> omega
theorem w_t (a : Int) (ha : in64 a) : Triple P0 159 [int .i64 a] [] (wide a) [] := by
 refine apiaryref1_W_triple rfl (by decide) ?_
 simp only [apiaryref1_W_pc, push_cast, ↓reduceIte, reduceCtorEq, zB, zE, zA, zS, zL, zD, zM]
 refine ⟨by decide, wide_eq ?_ ?_⟩
 ·rw [shr63 a ha, IntKind.wrap_u64]
  unfold in64 at ha
  split <;> omega
 ·rw [IntKind.wrap_u64]
theorem not64 {x : Int} (h0 : 0 ≤ x) (h1 : x < 18446744073709551616) : IntKind.u64.wrap ((zad IntKind.u64.bits (if IntKind.u64.signed = true then -1 else IntKind.u64.max) ^^^ zad IntKind.u64.bits x).toNat) = 18446744073709551615 - x := by
 obtain ⟨n, rfl⟩ := Int.eq_ofNat_of_zero_le h0
 have e1 : zad IntKind.u64.bits (if IntKind.u64.signed = true then -1 else IntKind.u64.max) = BitVec.allOnes 64 := by rfl
 have e2 : zad IntKind.u64.bits (n : Int) = zbz 64 n := by simp [IntKind.bits]
 rw [e1, e2]
 show IntKind.u64.wrap ((BitVec.allOnes 64 ^^^ zbz 64 n).toNat : Int) = _
 rw [BitVec.allOnes_xor, BitVec.toNat_not, zcm, IntKind.wrap_u64]
 omega
theorem plus_t (a b : Int) : Triple P0 81 [wide a, wide b] [] (wide (a + b)) [] := by
 refine apiaryref1_Wide_Plus_triple rfl (by decide) ?_
 simp only [apiaryref1_Wide_Plus_pc, wide, push_cast, ↓reduceIte, reduceCtorEq, zB, zE, zA, zS, zL, zD, zM]
 refine ⟨by omega, by omega, wide_eq (by omega) (by omega)⟩
theorem small_t (a : Int) (h : -170141183460469231731687303715884105728 ≤ a ∧ a < 170141183460469231731687303715884105728) : Triple P0 118 [wide a] [] (sm a) [] := by
 refine apiaryref1_Wide_Small_triple rfl (by decide) ?_
 simp only [apiaryref1_Wide_Small_pc, wide, push_cast, ↓reduceIte, reduceCtorEq, zB, zE, zA, zS, zL, zD, zM]
 rw [IntKind.wrap_i64]
 refine dcall_mk (w_t _ (by unfold in64; omega)) rfl trivial ?_
 simp only [wide, push_cast, ↓reduceIte, reduceCtorEq, zB, zE, zA, zS, zL, zD, zM]
 refine ⟨by kernel_rfl, ?_⟩
 refine cnd_mk (fun h => ?_) (fun h => ?_)
 ·simp only [push_cast, ↓reduceIte, reduceCtorEq, zB, zE, zA, zS, zL, zD, zM]
  refine sm_no ?_
  unfold in64
  simp at h
  omega
 ·simp only [push_cast, ↓reduceIte, reduceCtorEq, zB, zE, zA, zS, zL, zD, zM]
  simp at h
  refine sm_yes ?_ ?_
  ·omega
  ·unfold in64; omega
theorem turned_t (a : Int) : Triple P0 82 [wide a] [] (wide (-a)) [] := by
 refine apiaryref1_Wide_Turned_triple rfl (by decide) ?_
 simp only [apiaryref1_Wide_Turned_pc, wide, push_cast, ↓reduceIte, reduceCtorEq, zB, zE, zA, zS, zL, zD, zM]
 rw [not64 (by omega) (by omega), not64 (by omega) (by omega)]
 refine call_as (as' := [wide (-1 - a), wide 1]) ?_ ?_
 ·congr 1
  ·exact wide_eq (by omega) (by omega)
 ·refine call_mk (plus_t (-1 - a) 1) rfl trivial ?_
  simp only [wide, push_cast, ↓reduceIte, reduceCtorEq, zB, zE, zA, zS, zL, zD, zM]
  exact wide_eq (by omega) (by omega)
theorem wrap_abs (a : Int) (ha : in64 a) : (a < 0 → IntKind.u64.wrap (0 - IntKind.u64.wrap a) = a.natAbs) ∧ (¬ a < 0 → IntKind.u64.wrap a = a.natAbs) := by
 unfold in64 at ha
 rw [IntKind.wrap_u64, IntKind.wrap_u64]
 omega
theorem times_t (a b : Int) (ha : in64 a) (hb : in64 b) : Triple P0 79 [int .i64 a, int .i64 b] [] (wide (a * b)) [] := by
 refine apiaryref1_Times_triple rfl (by decide) ?_
 have ha' := ha
 have hb' := hb
 unfold in64 at ha' hb'
 obtain ⟨wa1, wa2⟩ := wrap_abs a ha
 obtain ⟨wb1, wb2⟩ := wrap_abs b hb
 have hab : a.natAbs * b.natAbs = (a * b).natAbs := (zch a b).symm
 have hle : (a * b).natAbs ≤ 9223372036854775808 * 9223372036854775808 := by rw [← hab]; exact zca (by omega) (by omega)
 have hs : (a < 0 ∧ b < 0 → 0 < a * b) ∧ (a < 0 ∧ 0 ≤ b → a * b ≤ 0) ∧ (0 ≤ a ∧ b < 0 → a * b ≤ 0) ∧ (0 ≤ a ∧ 0 ≤ b → 0 ≤ a * b) :=
  ⟨fun h => Int.mul_pos_of_neg_of_neg h.1 h.2, fun h => Int.mul_nonpos_of_nonpos_of_nonneg (by omega) h.2, fun h => Int.mul_nonpos_of_nonneg_of_nonpos h.1 (by omega), fun h => Int.mul_nonneg h.1 h.2⟩
 simp only [apiaryref1_Times_pc, push_cast, ↓reduceIte, reduceCtorEq, zB, zE, zA, zS, zL, zD, zM]
 refine cnd_mk (fun h1 => ?_) (fun h1 => ?_) <;> simp only [push_cast, ↓reduceIte, reduceCtorEq, zB, zE, zA, zS, zL, zD, zM] <;> refine cnd_mk (fun h2 => ?_) (fun h2 => ?_) <;> simp only [push_cast, ↓reduceIte, reduceCtorEq, zB, zE, zA, zS, zL, zD, zM]
 all_goals
  simp only [decide_eq_true_eq, decide_eq_false_iff_not] at h1 h2
  refine call_as (as' := [int .u64 a.natAbs, int .u64 b.natAbs]) (by first | rw [wa1 h1, wb1 h2] | rw [wa1 h1, wb2 h2] | rw [wa2 h1, wb1 h2] | rw [wa2 h1, wb2 h2]) ?_
  refine call_mk (mul64_t a.natAbs b.natAbs (by omega) (by omega)) rfl trivial ?_
  rw [hab]
  simp only [h1, h2, Bool.true_beq, Bool.false_beq, push_cast, ↓reduceIte, reduceCtorEq, zB, zE, zA, zS, zL, zD, zM]
  generalize a * b = m at *
 ·exact wide_eq (by omega) (by omega)
 ·refine call_as (as' := [wide (-m)]) (by congr 1; exact wide_eq (by omega) (by omega)) ?_
  refine call_mk (turned_t (-m)) rfl trivial ?_
  simp only [wide, push_cast, ↓reduceIte, reduceCtorEq, zB, zE, zA, zS, zL, zD, zM]
  exact wide_eq (by omega) (by omega)
 ·refine call_as (as' := [wide (-m)]) (by congr 1; exact wide_eq (by omega) (by omega)) ?_
  refine call_mk (turned_t (-m)) rfl trivial ?_
  simp only [wide, push_cast, ↓reduceIte, reduceCtorEq, zB, zE, zA, zS, zL, zD, zM]
  exact wide_eq (by omega) (by omega)
 ·exact wide_eq (by omega) (by omega)

noncomputable def num_Pow_1_pc : PC :=
  (.reg [p_s 4 (.ld none (.t 0)), p_s 5 (.ld none (.t 1)), p_c 6 1 113 [.t 4, .t 5], p_m 3 6, p_s 7 (.ext (.t 3) 0), p_s 8 (.ext (.t 3) 1), ⟨none, none, 0, .act (.st 1 (.t 0) (.t 7))⟩,
 ⟨none, none, 0, .act (.st 1 (.t 2) (.t 8))⟩])
theorem num_Pow_1_triple : Fun P0 112 3 [] num_Pow_1_pc := fun_mk Go.Proofs.Tryz.func112 rfl (by decide) (by kernel_rfl) (by decide) rfl (by kernel_rfl) (by kernel_rfl) (by decide)
noncomputable def num_Pow_pc : PC :=
  (.seq (.reg [p_a 2 (.box (.t 0)), p_s 4 (.mov (o_i 0)), p_s 5 (.mov (.c (.r (.v (.bool false)))))])
 (.seq (.seq (.reg [p_m 9 1, p_s 10 (.bin .lss (.t 9) (o_i 0))])
 (.cond (.t 10)
 (.seq (.reg [p_s 4 (.mov (o_i 0)), p_s 5 (.mov (.c (.r (.v (.bool false)))))])
 .ret)
 .skip))
 (.seq (.seq (.reg [p_s 11 (.ld none (.t 2)), p_s 12 (.bin .geq (.t 11) (o_i (-1))), p_m 13 12, p_g 14 13 true (.ld none (.t 2)), p_g 15 13 true (.bin .leq (.t 14) (o_i 1)), p_s 16 (.pick (.t 13) (.t 15) (.c (.r (.v (.bool false)))))])
 (.cond (.t 16)
 (.reg [p_m 17 1, p_m 18 1, p_s 19 (.bin .rem (.t 18) (o_i 2)), p_s 20 (.bin .sub (o_i 2) (.t 19)), p_s 21 (.mm false (.t 17) [(.t 20)]), p_m 1 21])
 .skip))
 (.seq (.reg [p_a 6 (.new [(.r (.v (.int .i64 0)))]), p_a 7 (.new [(.r (.v (.bool false)))]), ⟨none, none, 0, .act (.st 1 (.t 6) (o_i 1))⟩, ⟨none, none, 0, .act (.st 1 (.t 7) (.c (.r (.v (.bool true)))))⟩])
 (.seq (.reg [p_s 22 (.mkf (.func 112) [(.t 6), (.t 2), (.t 7)]), p_m 8 22])
 (.seq (.block 0 (.loop (.seq (.seq (.reg [p_m 23 1, p_s 24 (.bin .gtr (.t 23) (o_i 0)), p_m 25 24, p_g 26 25 true (.ld none (.t 7)), p_s 27 (.pick (.t 25) (.t 26) (.c (.r (.v (.bool false)))))])
 (.cond (.t 27)
 .skip
 (.exit 0)))
 (.seq (.block 1 (.reg [p_m 30 8, ⟨(some 31), none, 1, .callv (.t 30) []⟩]))
 (.reg [p_m 28 1, p_s 29 (.bin .sub (.t 28) (o_i 1)), p_m 1 29])))))
 (.seq (.drw [p_s 32 (.ld none (.t 6)), p_s 33 (.ld none (.t 7)), p_m 4 32, p_m 5 33]
 [[], [], [0], [0, 1, 2]])
 .ret)))))))
theorem num_Pow_triple : Fun P0 75 2 [(4, false, none), (5, false, none)] num_Pow_pc := fun_mk Go.Proofs.Tryz.func75 rfl (by decide) (by kernel_rfl) (by decide) rfl (by kernel_rfl) (by kernel_rfl) (by decide)
noncomputable def apiaryref1_Pow_pc : PC :=
  (.seq (.reg [p_s 4 (.mov (o_i 0)), p_s 5 (.mov (.c (.r (.v (.bool false)))))])
 (.seq (.seq (.reg [p_m 10 1, p_s 11 (.bin .lss (.t 10) (o_i 0))])
 (.cond (.t 11)
 (.seq (.reg [p_s 4 (.mov (o_i 0)), p_s 5 (.mov (.c (.r (.v (.bool false)))))])
 .ret)
 .skip))
 (.seq (.reg [p_s 6 (.mov (o_i 1))])
 (.seq (.seq (.reg [p_s 7 (.mov (o_i 0))])
 (.block 0 (.loop (.seq (.seq (.reg [p_m 12 7, p_m 13 1, p_s 14 (.bin .lss (.t 12) (.t 13))])
 (.cond (.t 14)
 .skip
 (.exit 0)))
 (.seq (.block 1 (.seq (.seq (.reg [p_m 17 6, p_s 18 (.bin .eql (.t 17) (o_i 0)), p_m 19 18, p_g 20 19 false (.mov (.t 6)), p_g 21 19 false (.bin .eql (.t 20) (o_i 1)), p_g 22 19 false (.mov (.t 21)),
 p_g 23 22 true (.mov (.t 0)), p_g 24 22 true (.bin .eql (.t 23) (o_i 1)), p_g 25 19 false (.pick (.t 22) (.t 24) (.c (.r (.v (.bool false))))), p_s 26 (.pick (.t 19) (.c (.r (.v (.bool true)))) (.t 25))])
 (.cond (.t 26)
 (.seq (.reg [p_m 27 6, p_m 4 27, p_s 5 (.mov (.c (.r (.v (.bool true)))))])
 .ret)
 .skip))
 (.seq (.seq (.reg [p_m 28 0, p_s 29 (.bin .eql (.t 28) (o_i (-1)))])
 (.cond (.t 29)
 (.seq (.seq (.reg [p_m 30 1, p_s 31 (.bin .rem (.t 30) (o_i 2)), p_s 32 (.bin .eql (.t 31) (o_i 1))])
 (.cond (.t 32)
 (.seq (.reg [p_s 4 (.mov (o_i (-1))), p_s 5 (.mov (.c (.r (.v (.bool true)))))])
 .ret)
 .skip))
 (.seq (.reg [p_s 4 (.mov (o_i 1)), p_s 5 (.mov (.c (.r (.v (.bool true)))))])
 .ret))
 .skip))
 (.seq (.reg [p_m 34 6, p_m 35 0, p_c 36 1 79 [.t 34, .t 35], p_c 37 2 118 [.t 36], p_m 33 37, p_s 38 (.ext (.t 33) 0), p_s 39 (.ext (.t 33) 1), p_m 8 38, p_m 9 39])
 (.seq (.seq (.reg [p_m 40 9, p_s 41 (.un .not (.t 40))])
 (.cond (.t 41)
 (.seq (.reg [p_s 4 (.mov (o_i 0)), p_s 5 (.mov (.c (.r (.v (.bool false)))))])
 .ret)
 .skip))
 (.reg [p_m 42 8, p_m 6 42]))))))
 (.reg [p_m 15 7, p_s 16 (.bin .add (.t 15) (o_i 1)), p_m 7 16]))))))
 (.seq (.reg [p_m 43 6, p_m 4 43, p_s 5 (.mov (.c (.r (.v (.bool true)))))])
 .ret)))))
theorem apiaryref1_Pow_triple : Fun P0 78 2 [(4, false, none), (5, false, none)] apiaryref1_Pow_pc := fun_mk Go.Proofs.Tryz.func78 rfl (by decide) (by kernel_rfl) (by decide) rfl (by kernel_rfl) (by kernel_rfl) (by decide)
theorem times1_t (x a : Int) (y : Bool) (hx : in64 x) (ha : in64 a) : Triple P0 112 [.ptr 1000000 0 0, .ptr 1000001 0 0, .ptr 1000002 0 0] [.box [int .i64 x], .box [int .i64 a], .box [bl y]] (.tup [])
  [.box [int .i64 (if in64 (x * a) then x * a else 0)], .box [int .i64 a], .box [bl (decide (in64 (x * a)))]] := by
 refine num_Pow_1_triple rfl (by simp) ?_
 simp only [num_Pow_1_pc, push_cast, ↓reduceIte, reduceCtorEq, zB, zE, zA, zS, zL, zD, zM]
 refine call_mk (mul_t x a hx ha) rfl trivial ?_
 simp only [sm, push_cast, ↓reduceIte, reduceCtorEq, zB, zE, zA, zS, zL, zD, zM]
theorem pow_small {a : Int} (h1 : -1 ≤ a) (h2 : a ≤ 1) (n : Nat) : a ^ (min n (2 - n % 2)) = a ^ n := by
 have key : ∀ m : Nat, 1 ≤ m → a ^ (m + 2) = a ^ m := fun m hm => by
  have : a = -1 ∨ a = 0 ∨ a = 1 := by omega
  rcases this with rfl | rfl | rfl
  ·rw [zcd, zcd]; omega
  ·rw [Int.zero_pow (by omega), Int.zero_pow (by omega)]
  ·rw [Int.one_pow, Int.one_pow]
 induction n using Nat.strongRecOn with
 | ind n ih =>
  rcases (show n = 0 ∨ n = 1 ∨ n = 2 ∨ 3 ≤ n by omega) with h | h | h | h
  ·subst h; rfl
  ·subst h; rfl
  ·subst h; rfl
  ·have := ih (n - 2) (by omega)
   have e := key (n - 2) (by omega)
   rw [show n - 2 + 2 = n by omega] at e
   rw [e, ← this]
   congr 1
   omega
theorem pow_out {x a T : Int} {n : Nat} (hx1 : -1 ≤ a ∧ a ≤ 1 → -1 ≤ x ∧ x ≤ 1) (hx : in64 x) (ha : in64 a) (h : ¬ in64 (x * a)) (hT : x * a * a ^ n = T) : ¬ in64 T := by
 have h4 : ¬ (-1 ≤ a ∧ a ≤ 1) := fun hs => by
  have := hx1 hs
  have h4 : a = -1 ∨ a = 0 ∨ a = 1 := by omega
  apply h
  unfold in64
  rcases h4 with rfl | rfl | rfl <;> omega
 have h5 : 2 ≤ a.natAbs := by omega
 have h6 : 9223372036854775808 ≤ (x * a).natAbs := by unfold in64 at h; omega
 have h7 : T.natAbs = (x * a).natAbs * a.natAbs ^ n := by rw [← hT, zch, Int.natAbs_pow]
 cases n with
 | zero =>
  simp at hT
  rw [← hT]; exact h
 | succ n =>
  have h8 : 2 ≤ a.natAbs ^ (n + 1) := Nat.le_trans h5 (Nat.le_self_pow (by omega) _)
  have h9 : 9223372036854775808 * 2 ≤ (x * a).natAbs * a.natAbs ^ (n + 1) := zca h6 h8
  rw [← h7] at h9
  unfold in64
  omega
theorem pow_t (a k : Int) (ha : in64 a) (hk : in64 k) : Triple P0 75 [int .i64 a, int .i64 k] [] (if k < 0 then .tup [int .i64 0, bl false] else sm (a ^ k.toNat)) [] := by
 refine num_Pow_triple rfl (by decide) ?_
 simp only [num_Pow_pc, push_cast, ↓reduceIte, reduceCtorEq, zB, zE, zA, zS, zL, zD, zM]
 refine cnd_mk (fun h1 => ?_) (fun h1 => ?_)
 ·simp only [decide_eq_true_eq] at h1
  simp only [if_pos h1, push_cast, ↓reduceIte, reduceCtorEq, zB, zE, zA, zS, zL, zD, zM]
 ·simp only [decide_eq_false_iff_not] at h1
  simp only [if_neg h1, push_cast, ↓reduceIte, reduceCtorEq, zB, zE, zA, zS, zL, zD, zM]
  generalize hT : a ^ k.toNat = T
  refine cnd_join (fun e ob => ∃ k', e 1 = int .i64 k' ∧ e 2 = .ptr 2 0 0 ∧ 0 ≤ k' ∧ in64 k' ∧ a ^ k'.toNat = T ∧ (a = -1 ∨ a = 0 ∨ a = 1 → k' ≤ 2) ∧ ob = upd 2 (0, .box [int .i64 a]) (fun _ => none)) ?_ (fun h2 => ?_) (fun h2 => ?_)
  ·rintro e ob ⟨k', he1, he2, hk0, hk1, hkT, hk3, rfl⟩
   simp only [he1, he2, push_cast, ↓reduceIte, reduceCtorEq, zB, zE, zA, zS, zL, zD, zM]
   refine run_loop [(1, false), (6, false), (2, false), (7, false), (8, false)] (fun vs pos los => ∃ (j x : Int) (y : Bool), 0 ≤ j ∧ in64 j ∧ in64 x ∧ (y = true → x * a ^ j.toNat = T) ∧ (y = false → x = 0 ∧ ¬ in64 T) ∧ (-1 ≤ a ∧ a ≤ 1 → -1 ≤ x ∧ x ≤ 1) ∧
    vs = [int .i64 j, .ptr 2000000 0 0, .ptr 2000001 0 0, .ptr 2000002 0 0, .fn (.func 112) [.ptr 2000000 0 0, .ptr 2000001 0 0, .ptr 2000002 0 0]] ∧ pos = [] ∧ los = [.box [int .i64 x], .box [int .i64 a], .box [bl y]])
    (fun vs _ _ => match vs with | .r (.v (.int _ j)) :: _ => j.toNat | _ => 0) rfl ?_ ?_
   ·simp only [he1, he2, push_cast, ↓reduceIte, reduceCtorEq, zB, zE, zA, zS, zL, zD, zM]
    exact ⟨k', 1, true, hk0, hk1, by decide, fun _ => by rw [zce, hkT], by simp, fun _ => by decide, rfl, rfl⟩
   ·rintro vs pos los ⟨j, x, y, j0, j1, x0, hy1, hy2, hx1, rfl, rfl, rfl⟩
    simp only [push_cast, ↓reduceIte, reduceCtorEq, zB, zE, zA, zS, zL, zD, zM]
    refine cnd_mk (fun h => ?_) (fun h => ?_)
    ·have hj : 0 < j := by
      rcases zcb 0 j with h' | h'
      ·exact h'
      ·simp [show ¬ j > 0 by omega] at h
     have hy : y = true := by simpa [hj] using h
     simp only [push_cast, ↓reduceIte, reduceCtorEq, zB, zE, zA, zS, zL, zD, zM]
     refine ⟨by kernel_rfl, ?_⟩
     refine call_mk (times1_t x a y x0 ha) rfl ⟨rfl, rfl, rfl, trivial⟩ ?_
     simp only [push_cast, ↓reduceIte, reduceCtorEq, zB, zE, zA, zS, zL, zD, zM]
     have hw : IntKind.i64.wrap (j - 1) = j - 1 := wrap_id (by unfold in64 at j1; omega)
     rw [hw]
     have hjn : j.toNat = (j - 1).toNat + 1 := by omega
     have hT' : x * a * a ^ (j - 1).toNat = T := by
      rw [← hy1 hy, hjn, zcd, Int.mul_assoc, Int.mul_comm a]
     refine ⟨⟨j - 1, _, _, by omega, by unfold in64 at j1 ⊢; omega, ?_, ?_, ?_, ?_, rfl, rfl⟩, by omega⟩
     ·split
      ·assumption
      ·decide
     ·intro hd
      rw [if_pos (of_decide_eq_true hd)]
      exact hT'
     ·intro hd
      have hd := of_decide_eq_false hd
      rw [if_neg hd]
      refine ⟨rfl, ?_⟩
      exact pow_out hx1 x0 ha hd hT'
     ·intro hs
      have := hx1 hs
      have h4 : a = -1 ∨ a = 0 ∨ a = 1 := by omega
      split
      ·rcases h4 with rfl | rfl | rfl <;> omega
      ·omega
    ·simp only [push_cast, ↓reduceIte, reduceCtorEq, zB, zE, zA, zS, zL, zD, zM]
     refine ⟨by kernel_rfl, ?_⟩
     cases y with
     | true =>
      have hj : j = 0 := by
       rcases zcb 0 j with h' | h'
       ·simp [h'] at h
       ·omega
      subst hj
      have := hy1 rfl
      simp at this
      subst this
      exact sm_yes rfl x0
     | false =>
      obtain ⟨rfl, hn⟩ := hy2 rfl
      exact sm_no hn
  ·simp only [push_cast, ↓reduceIte, reduceCtorEq, zB, zE, zA, zS, zL, zD, zM]
   have h4 : a = -1 ∨ a = 0 ∨ a = 1 := by
    by_cases p : a ≥ -1 <;> by_cases q : a ≤ 1 <;> simp [p, q] at h2 <;> omega
   have e0 : k.tmod 2 = k % 2 := by
    rw [zck (by omega)]
   have ew : IntKind.i64.wrap (2 - k.tmod 2) = 2 - k % 2 := by rw [e0]; exact wrap_id (by omega)
   rw [ew]
   refine ⟨by decide, min k (2 - k % 2), rfl, by omega, by unfold in64 at *; omega, ?_, by omega⟩
   rw [show (min k (2 - k % 2)).toNat = min k.toNat (2 - k.toNat % 2) by omega, pow_small (by omega) (by omega), hT]
  ·simp only [push_cast, ↓reduceIte, reduceCtorEq, zB, zE, zA, zS, zL, zD, zM]
   refine ⟨k, rfl, by omega, hk, hT, fun h => ?_⟩
   rcases h with rfl | rfl | rfl <;> simp at h2

theorem pow_unit {a : Int} (h : -1 ≤ a ∧ a ≤ 1) (n : Nat) : -1 ≤ a ^ n ∧ a ^ n ≤ 1 := by
 induction n with
 | zero => simp
 | succ n ih =>
  rw [zcd]
  have : a = -1 ∨ a = 0 ∨ a = 1 := by omega
  rcases this with rfl | rfl | rfl <;> omega
theorem pow_odd (n : Nat) : (-1 : Int) ^ n = if n % 2 = 1 then -1 else 1 := by
 induction n with
 | zero => rfl
 | succ n ih =>
  rw [zcd, ih]
  split <;> split <;> omega
theorem rpow_t (a k : Int) (ha : in64 a) (hk : in64 k) : Triple P0 78 [int .i64 a, int .i64 k] [] (if k < 0 then .tup [int .i64 0, bl false] else sm (a ^ k.toNat)) [] := by
 refine apiaryref1_Pow_triple rfl (by decide) ?_
 simp only [apiaryref1_Pow_pc, push_cast, ↓reduceIte, reduceCtorEq, zB, zE, zA, zS, zL, zD, zM]
 refine cnd_mk (fun h1 => ?_) (fun h1 => ?_)
 ·simp only [decide_eq_true_eq] at h1
  simp only [if_pos h1, push_cast, ↓reduceIte, reduceCtorEq, zB, zE, zA, zS, zL, zD, zM]
 ·simp only [decide_eq_false_iff_not] at h1
  simp only [if_neg h1, push_cast, ↓reduceIte, reduceCtorEq, zB, zE, zA, zS, zL, zD, zM]
  refine run_loop [(0, false), (1, false), (6, false), (7, false)] (fun vs pos los => ∃ (n i : Int), 0 ≤ i ∧ i ≤ k ∧ in64 n ∧ n = a ^ i.toNat ∧ vs = [int .i64 a, int .i64 k, int .i64 n, int .i64 i] ∧ pos = [] ∧ los = [])
   (fun vs _ _ => match vs with | [_, _, _, .r (.v (.int _ j))] => (k - j).toNat | _ => 0) rfl ?_ ?_
  ·simp only [push_cast, ↓reduceIte, reduceCtorEq, zB, zE, zA, zS, zL, zD, zM]
   exact ⟨1, 0, by omega, by omega, by decide, by simp, rfl⟩
  ·rintro vs pos los ⟨n, i, i0, ik, hn, hna, rfl, rfl, rfl⟩
   simp only [push_cast, ↓reduceIte, reduceCtorEq, zB, zE, zA, zS, zL, zD, zM]
   unfold in64 at hk
   refine cnd_mk (fun h => ?_) (fun h => ?_)
   ·simp only [decide_eq_true_eq] at h
    simp only [push_cast, ↓reduceIte, reduceCtorEq, zB, zE, zA, zS, zL, zD, zM]
    repeat refine And.intro (by simp +contextual) ?_
    have hT : n * a * a ^ (k - i - 1).toNat = a ^ k.toNat := by
     rw [hna, Int.mul_assoc, ← Int.pow_succ', ← Int.pow_add]
     congr 1
     omega
    refine cnd_mk (fun h2 => ?_) (fun h2 => ?_)
    ·simp only [push_cast, ↓reduceIte, reduceCtorEq, zB, zE, zA, zS, zL, zD, zM]
     have h3 : n = 0 ∨ a = 1 := by
      by_cases p : n = 0 <;> by_cases q : n = 1 <;> by_cases r : a = 1 <;> simp [p, q, r] at h2 ⊢
     refine sm_yes ?_ ?_
     ·rcases h3 with h3 | h3
      ·rw [← hT, h3]; simp
      ·rw [hna, h3, Int.one_pow, Int.one_pow]
     ·rcases h3 with h3 | h3
      ·rw [← hT, h3]; simp; decide
      ·rw [h3, Int.one_pow]; decide
    ·simp only [push_cast, ↓reduceIte, reduceCtorEq, zB, zE, zA, zS, zL, zD, zM]
     refine cnd_mk (fun h4 => ?_) (fun h4 => ?_)
     ·simp only [push_cast, ↓reduceIte, reduceCtorEq, zB, zE, zA, zS, zL, zD, zM]
      have h4 : a = -1 := by simpa using h4
      subst h4
      have e0 : k.tmod 2 = k % 2 := zck (by omega)
      refine ⟨by decide, ?_⟩
      rw [e0]
      refine cnd_mk (fun h5 => ?_) (fun h5 => ?_)
      ·simp only [push_cast, ↓reduceIte, reduceCtorEq, zB, zE, zA, zS, zL, zD, zM]
       have h5 : k % 2 = 1 := by simpa using h5
       exact sm_yes (by rw [pow_odd, if_pos (by omega)]) (by rw [pow_odd, if_pos (by omega)]; decide)
      ·simp only [push_cast, ↓reduceIte, reduceCtorEq, zB, zE, zA, zS, zL, zD, zM]
       have h5 : ¬ k % 2 = 1 := by simpa using h5
       exact sm_yes (by rw [pow_odd, if_neg (by omega)]) (by rw [pow_odd, if_neg (by omega)]; decide)
     ·simp only [push_cast, ↓reduceIte, reduceCtorEq, zB, zE, zA, zS, zL, zD, zM]
      refine call_mk (times_t n a hn ha) rfl trivial ?_
      simp only [wide, push_cast, ↓reduceIte, reduceCtorEq, zB, zE, zA, zS, zL, zD, zM]
      have hb : (n * a).natAbs ≤ 9223372036854775808 * 9223372036854775808 := by
       rw [zch]
       unfold in64 at hn ha
       exact zca (by omega) (by omega)
      refine call_as (as' := [wide (n * a)]) rfl ?_
      refine call_mk (small_t (n * a) (by omega)) rfl trivial ?_
      simp only [sm, push_cast, ↓reduceIte, reduceCtorEq, zB, zE, zA, zS, zL, zD, zM]
      refine cnd_mk (fun h6 => ?_) (fun h6 => ?_)
      ·simp only [push_cast, ↓reduceIte, reduceCtorEq, zB, zE, zA, zS, zL, zD, zM]
       have h6 : ¬ in64 (n * a) := by simpa using h6
       refine sm_no ?_
       exact pow_out (fun hs => by rw [hna]; exact pow_unit hs _) hn ha h6 hT
      ·simp only [push_cast, ↓reduceIte, reduceCtorEq, zB, zE, zA, zS, zL, zD, zM]
       have h6 : in64 (n * a) := by simpa using h6
       rw [if_pos h6, show IntKind.i64.wrap (i + 1) = i + 1 from wrap_id (by omega)]
       refine ⟨⟨n * a, i + 1, by omega, by omega, h6, ?_, rfl⟩, by omega⟩
       rw [show (i + 1).toNat = i.toNat + 1 by omega, zcd, ← hna]
   ·simp only [decide_eq_false_iff_not] at h
    simp only [push_cast, ↓reduceIte, reduceCtorEq, zB, zE, zA, zS, zL, zD, zM]
    have : i = k := by omega
    subst this
    exact sm_yes hna (by rw [← hna]; exact hn)

structure Ei where
 a : Int
 b : Int
deriving DecidableEq
def Ei.rv (z : Ei) : RV := .agg [.v (.int .i64 z.a), .v (.int .i64 z.b)]
def Ei.v (z : Ei) : AV := .r z.rv
def Ei.mul (x y : Ei) : Ei := ⟨x.a * y.a - x.b * y.b, x.a * y.b + x.b * y.a + x.b * y.b⟩
def Ei.add (x y : Ei) : Ei := ⟨x.a + y.a, x.b + y.b⟩
def Ei.sub (x y : Ei) : Ei := ⟨x.a - y.a, x.b - y.b⟩
def Ei.conj (x : Ei) : Ei := ⟨x.a + x.b, -x.b⟩
def Ei.In (z : Ei) (n : Int) : Prop := (-n ≤ z.a ∧ z.a ≤ n) ∧ (-n ≤ z.b ∧ z.b ≤ n)
def Ei.H (z : Ei) (n : Int) : Prop := (-n ≤ z.a ∧ z.a ≤ n) ∧ (-n ≤ z.b ∧ z.b ≤ n) ∧ (-n ≤ z.a + z.b ∧ z.a + z.b ≤ n)
theorem Ei.ext' {x y : Ei} (h1 : x.a = y.a) (h2 : x.b = y.b) : x = y := by cases x; cases y; simp_all
theorem Ei.In.mono {z : Ei} {n m : Int} (h : z.In n) (hm : n ≤ m) : z.In m := by unfold Ei.In at *; omega
theorem Ei.H.mono {z : Ei} {n m : Int} (h : z.H n) (hm : n ≤ m) : z.H m := by unfold Ei.H at *; omega
theorem Ei.H.in {z : Ei} {n : Int} (h : z.H n) : z.In n := by unfold Ei.H Ei.In at *; omega
def beta : Ei := ⟨2, 1⟩
theorem mul_in {x y n m : Int} (h1 : -n ≤ x ∧ x ≤ n) (h2 : -m ≤ y ∧ y ≤ m) : -(n * m) ≤ x * y ∧ x * y ≤ n * m := by
 have h : (x * y).natAbs ≤ n.toNat * m.toNat := by rw [zch]; exact zca (by omega) (by omega)
 have h3 : ((n.toNat * m.toNat : Nat) : Int) = n * m := by
  rw [Int.natCast_mul, Int.toNat_of_nonneg (by omega), Int.toNat_of_nonneg (by omega)]
 omega
def holds (d s t : Int) : Prop := (-d ≤ 2 * s + t ∧ 2 * s + t ≤ d) ∧ (-d ≤ s + 2 * t ∧ s + 2 * t ≤ d) ∧ (-d ≤ s - t ∧ s - t ≤ d)
instance (d s t : Int) : Decidable (holds d s t) := inferInstanceAs (Decidable (_ ∧ _ ∧ _))
def near0 (d s t : Int) : Ei := if holds d s t then ⟨0, 0⟩ else if holds d s (t - d) then ⟨0, 1⟩ else if holds d (s - d) t then ⟨1, 0⟩ else ⟨1, 1⟩
def Ei.round (u : Ei) (d : Int) : Ei := ⟨u.a / d + (near0 d (u.a % d) (u.b % d)).a, u.b / d + (near0 d (u.a % d) (u.b % d)).b⟩
theorem near0_spec {d s t : Int} (hs : 0 ≤ s ∧ s < d) (ht : 0 ≤ t ∧ t < d) :
  holds d (s - (near0 d s t).a * d) (t - (near0 d s t).b * d) ∧ (0 ≤ (near0 d s t).a ∧ (near0 d s t).a ≤ 1) ∧ (0 ≤ (near0 d s t).b ∧ (near0 d s t).b ≤ 1) := by
 unfold near0
 split
 ·next h => unfold holds at *; dsimp only; omega
 ·split
  ·next h => unfold holds at *; dsimp only; omega
  ·split
   ·next h => unfold holds at *; dsimp only; omega
   ·next h => unfold holds at *; dsimp only; omega
theorem near0_first {d s t i k : Int} (hs : 0 ≤ s ∧ s < d) (ht : 0 ≤ t ∧ t < d) (hi : -1 ≤ i ∧ i ≤ 2) (hk : -1 ≤ k ∧ k ≤ 2)
    (h : holds d (s - i * d) (t - k * d)) (h1 : ∀ k', -1 ≤ k' → k' < k → ¬ holds d (s - i * d) (t - k' * d))
    (h2 : ∀ i' k', -1 ≤ i' → i' < i → -1 ≤ k' → k' ≤ 2 → ¬ holds d (s - i' * d) (t - k' * d)) : near0 d s t = ⟨i, k⟩ := by
  have hi' : i = -1 ∨ i = 0 ∨ i = 1 ∨ i = 2 := by omega
  have hk' : k = -1 ∨ k = 0 ∨ k = 1 ∨ k = 2 := by omega
  have e0 : (-1 : Int) * d = -d := by omega
  have n00 : (0 < i ∨ (i = 0 ∧ 0 < k)) → ¬ holds d s t := fun c => by
    rcases c with c | ⟨c, c'⟩
    · have := h2 0 0 (by omega) c (by omega) (by omega); simpa using this
    · have := h1 0 (by omega) c'; rw [c] at this; simpa using this
  have n01 : (0 < i ∨ (i = 0 ∧ 1 < k)) → ¬ holds d s (t - d) := fun c => by
    rcases c with c | ⟨c, c'⟩
    · have := h2 0 1 (by omega) c (by omega) (by omega); simpa using this
    · have := h1 1 (by omega) c'; rw [c] at this; simpa using this
  have n10 : (1 < i ∨ (i = 1 ∧ 0 < k)) → ¬ holds d (s - d) t := fun c => by
    rcases c with c | ⟨c, c'⟩
    · have := h2 1 0 (by omega) c (by omega) (by omega); simpa using this
    · have := h1 0 (by omega) c'; rw [c] at this; simpa using this
  clear h1 h2
  rcases hi' with rfl | rfl | rfl | rfl <;> rcases hk' with rfl | rfl | rfl | rfl <;>
    first
    | (exfalso; unfold holds at h; omega)
    | (simp only [Int.zero_mul, zce, Int.sub_zero] at h
       simp [near0, h]; done)
    | (simp only [Int.zero_mul, zce, Int.sub_zero] at h
       simp [near0, h, n00, n01, n10])
theorem near0_ex {d s t : Int} (hs : 0 ≤ s ∧ s < d) (ht : 0 ≤ t ∧ t < d)
  (h2 : ∀ i' k', -1 ≤ i' → i' < 3 → -1 ≤ k' → k' ≤ 2 → ¬ holds d (s - i' * d) (t - k' * d)) : False := by
 obtain ⟨h, ha, hb⟩ := near0_spec hs ht
 exact h2 _ _ (by omega) (by omega) (by omega) (by omega) h
def fr (d a b : Int) (z : Ei) : Int := d * (z.a * z.a + z.a * z.b + z.b * z.b) - z.a * (2 * a + b) - z.b * (a + 2 * b)
def pk (d a b : Int) (p : Int × Ei) (z : Ei) : Int × Ei := if fr d a b z < p.1 then (fr d a b z, z) else p
def cands : List Ei := [⟨0, 1⟩, ⟨1, 0⟩, ⟨1, 1⟩]
theorem near0_least {d a b : Int} (ha : 0 ≤ a ∧ a < d) (hb : 0 ≤ b ∧ b < d) : (cands.foldl (pk d a b) (0, ⟨0, 0⟩)).2 = near0 d a b := by
 simp only [cands, List.foldl_cons, List.foldl_nil]
 have e1 : fr d a b ⟨0, 1⟩ = d - (a + 2 * b) := by simp [fr]
 have e2 : fr d a b ⟨1, 0⟩ = d - (2 * a + b) := by simp [fr]
 have e3 : fr d a b ⟨1, 1⟩ = d * 3 - (2 * a + b) - (a + 2 * b) := by simp [fr]
 unfold near0
 by_cases c1 : d - (a + 2 * b) < 0
 ·by_cases c2 : d - (2 * a + b) < d - (a + 2 * b)
  ·by_cases c3 : d * 3 - (2 * a + b) - (a + 2 * b) < d - (2 * a + b)
   ·simp only [pk, e1, e2, e3, c1, c2, c3, if_true]
    rw [if_neg (by unfold holds; omega), if_neg (by unfold holds; omega), if_neg (by unfold holds; omega)]
   ·simp only [pk, e1, e2, e3, c1, c2, c3, if_true, if_false]
    rw [if_neg (by unfold holds; omega), if_neg (by unfold holds; omega), if_pos (by unfold holds; omega)]
  ·by_cases c3 : d * 3 - (2 * a + b) - (a + 2 * b) < d - (a + 2 * b)
   ·simp only [pk, e1, e2, e3, c1, c2, c3, if_true, if_false]
    rw [if_neg (by unfold holds; omega), if_neg (by unfold holds; omega), if_neg (by unfold holds; omega)]
   ·simp only [pk, e1, e2, e3, c1, c2, c3, if_true, if_false]
    rw [if_neg (by unfold holds; omega), if_pos (by unfold holds; omega)]
 ·by_cases c2 : d - (2 * a + b) < 0
  ·by_cases c3 : d * 3 - (2 * a + b) - (a + 2 * b) < d - (2 * a + b)
   ·simp only [pk, e1, e2, e3, c1, c2, c3, if_true, if_false]
    rw [if_neg (by unfold holds; omega), if_neg (by unfold holds; omega), if_neg (by unfold holds; omega)]
   ·simp only [pk, e1, e2, e3, c1, c2, c3, if_true, if_false]
    rw [if_neg (by unfold holds; omega), if_neg (by unfold holds; omega), if_pos (by unfold holds; omega)]
  ·by_cases c3 : d * 3 - (2 * a + b) - (a + 2 * b) < 0
   ·exfalso; omega
   ·simp only [pk, e1, e2, e3, c1, c2, c3, if_true, if_false]
    rw [if_pos (by unfold holds; omega)]
theorem round_spec (u : Ei) {d : Int} (hd : 0 < d) : holds d (u.a - (u.round d).a * d) (u.b - (u.round d).b * d) := by
 have h1 := zcj u.a d
 have h2 := zcj u.b d
 have h3 := zbx u.a hd
 have h4 := zby u.a (show d ≠ 0 by omega)
 have h5 := zbx u.b hd
 have h6 := zby u.b (show d ≠ 0 by omega)
 obtain ⟨h, _⟩ := near0_spec (d := d) (s := u.a % d) (t := u.b % d) ⟨h4, h3⟩ ⟨h6, h5⟩
 have e1 : u.a - (u.round d).a * d = u.a % d - (near0 d (u.a % d) (u.b % d)).a * d := by
  simp only [Ei.round, Int.add_mul]
  rw [Int.mul_comm (u.a / d) d]
  omega
 have e2 : u.b - (u.round d).b * d = u.b % d - (near0 d (u.a % d) (u.b % d)).b * d := by
  simp only [Ei.round, Int.add_mul]
  rw [Int.mul_comm (u.b / d) d]
  omega
 rw [e1, e2]; exact h
def pr (z : Ei) : Ei := (z.mul ⟨3, -1⟩).round 7
def lft (z : Ei) : Ei := z.sub ((pr z).mul beta)
def dgOf (l : Ei) : Nat := if l = ⟨1, 0⟩ then 1 else if l = ⟨0, 1⟩ then 2 else if l = ⟨-1, 1⟩ then 3 else if l = ⟨-1, 0⟩ then 4 else if l = ⟨0, -1⟩ then 5 else if l = ⟨1, -1⟩ then 6 else 0
def dg (z : Ei) : Nat := dgOf (lft z)
def uni (d : Nat) : Ei := match d with | 0 => ⟨1, 0⟩ | 1 => ⟨0, 1⟩ | 2 => ⟨-1, 1⟩ | 3 => ⟨-1, 0⟩ | 4 => ⟨0, -1⟩ | _ => ⟨1, -1⟩
def child (z : Ei) (d : Nat) : Ei := if d = 0 then z.mul beta else (z.mul beta).add (uni (d - 1))
theorem dg_lt (z : Ei) : dg z < 7 := by unfold dg dgOf; repeat' split
                                        all_goals omega
theorem pr_spec (z : Ei) : ∃ l : Ei, lft z = l ∧ l.H 1 ∧ z.a = 2 * (pr z).a - (pr z).b + l.a ∧ z.b = (pr z).a + 3 * (pr z).b + l.b := by
 have h := round_spec (z.mul ⟨3, -1⟩) (d := 7) (by decide)
 refine ⟨lft z, rfl, ?_, ?_, ?_⟩
 ·unfold holds at h
  unfold Ei.H lft Ei.sub pr
  simp only [Ei.mul, beta] at *
  generalize Ei.round _ 7 = q at *
  simp only [Int.mul_one, Int.mul_neg] at *
  omega
 ·simp only [lft, Ei.sub, Ei.mul, beta]; omega
 ·simp only [lft, Ei.sub, Ei.mul, beta]; omega
theorem child_back (z : Ei) : child (pr z) (dg z) = z := by
 obtain ⟨l, hl, h1, h2, h3⟩ := pr_spec z
 have h0 := round_spec (z.mul ⟨3, -1⟩) (d := 7) (by decide)
 have hl7 : l = ⟨0, 0⟩ ∨ l = ⟨1, 0⟩ ∨ l = ⟨0, 1⟩ ∨ l = ⟨-1, 1⟩ ∨ l = ⟨-1, 0⟩ ∨ l = ⟨0, -1⟩ ∨ l = ⟨1, -1⟩ := by
  obtain ⟨a, b⟩ := l
  unfold Ei.H at h1
  dsimp only at h1
  simp only [Ei.mk.injEq]
  omega
 unfold child dg
 rw [hl]
 rcases hl7 with rfl | rfl | rfl | rfl | rfl | rfl | rfl <;> apply Ei.ext' <;> simp [dgOf, uni, Ei.add, Ei.mul, beta] at h2 h3 ⊢ <;> omega
def anc : Nat → Ei → Ei
 | 0, z => z
 | k + 1, z => anc k (pr z)
theorem anc_succ (k : Nat) (z : Ei) : anc (k + 1) z = pr (anc k z) := by
 induction k generalizing z with
 | zero => rfl
 | succ k ih => rw [anc, ih]; rfl
def val : Nat → Ei → Nat
 | 0, _ => 0
 | r + 1, z => val r (pr z) * 8 + dg z
theorem val_lt (r : Nat) (z : Ei) : val r z < 8 ^ r := by
 induction r generalizing z with
 | zero => simp [val]
 | succ r ih =>
  have := ih (pr z)
  have := dg_lt z
  rw [val, Nat.pow_succ]
  omega
theorem val_div (r i : Nat) (z : Ei) (h : i ≤ r) : val r z / 8 ^ i = val (r - i) (anc i z) := by
 induction i generalizing r z with
 | zero => simp [anc]
 | succ i ih =>
  obtain ⟨r, rfl⟩ : ∃ m, r = m + 1 := ⟨r - 1, by omega⟩
  rw [show r + 1 - (i + 1) = r - i by omega, anc, ← ih r (pr z) (by omega), Nat.pow_succ, Nat.mul_comm, ← zcn, val]
  have := dg_lt z
  congr 1
  omega
def okc (r : Nat) (z : Ei) : Prop := r ≤ 12 ∧ z.In 1073741824 ∧ (-512 ≤ (anc r z).a ∧ (anc r z).a ≤ 511) ∧ (-512 ≤ (anc r z).b ∧ (anc r z).b ≤ 511)
instance (r : Nat) (z : Ei) : Decidable (okc r z) := by unfold okc Ei.In; infer_instance
def hd36 (r : Nat) (q : Ei) : Nat := ((16 + r) * 1024 + (q.a + 512).toNat) * 1024 + (q.b + 512).toNat
def word (r : Nat) (z : Ei) : Nat := (hd36 r (anc r z) * 8 ^ r + val r z) * 8 ^ (12 - r) + (8 ^ (12 - r) - 1)
def dgt (w i : Nat) : Nat := w / 8 ^ (12 - i) % 8
def resW (w : Nat) : Nat := w / 72057594037927936 % 16
def baseW (w : Nat) : Ei := ⟨((w / 70368744177664 % 1024 : Nat) : Int) - 512, ((w / 68719476736 % 1024 : Nat) : Int) - 512⟩
def down (w : Nat) : Nat → Ei
 | 0 => baseW w
 | i + 1 => child (down w i) (dgt w (i + 1))
def isW (w : Nat) : Prop := w / 1152921504606846976 = 1 ∧ resW w ≤ 12 ∧ ∀ i, 1 ≤ i → i ≤ 12 → (dgt w i = 7 ↔ resW w < i)
theorem word_top (r : Nat) (z : Ei) (hr : r ≤ 12) : word r z / 68719476736 = hd36 r (anc r z) := by
 have hv := val_lt r z
 have e : (68719476736 : Nat) = 8 ^ r * 8 ^ (12 - r) := by rw [← Nat.pow_add, show r + (12 - r) = 12 by omega]
 have hp : 0 < 8 ^ (12 - r) := zcf (by decide)
 have hq : 0 < 8 ^ r := zcf (by decide)
 rw [e, Nat.mul_comm (8 ^ r), ← zcn, word]
 have h1 : ((hd36 r (anc r z) * 8 ^ r + val r z) * 8 ^ (12 - r) + (8 ^ (12 - r) - 1)) / 8 ^ (12 - r) = hd36 r (anc r z) * 8 ^ r + val r z := by
  rw [Nat.add_comm, zci _ _ hp, zcl (by omega)]; omega
 rw [h1, Nat.add_comm, zci _ _ hq, zcl hv]; omega
theorem word_dgt (r i : Nat) (z : Ei) (hr : r ≤ 12) (h1 : 1 ≤ i) (h2 : i ≤ r) : dgt (word r z) i = dg (anc (r - i) z) := by
 have hp : 0 < 8 ^ (12 - r) := zcf (by decide)
 have e : 8 ^ (12 - i) = 8 ^ (12 - r) * 8 ^ (r - i) := by rw [← Nat.pow_add, show 12 - r + (r - i) = 12 - i by omega]
 unfold dgt word
 rw [e, ← zcn]
 have h3 : ((hd36 r (anc r z) * 8 ^ r + val r z) * 8 ^ (12 - r) + (8 ^ (12 - r) - 1)) / 8 ^ (12 - r) = hd36 r (anc r z) * 8 ^ r + val r z := by
  rw [Nat.add_comm, zci _ _ hp, zcl (by omega)]; omega
 rw [h3]
 have e2 : hd36 r (anc r z) * 8 ^ r = hd36 r (anc r z) * 8 ^ (i - 1) * 8 * 8 ^ (r - i) := by
  rw [zcg (hd36 r (anc r z)), ← Nat.pow_succ, zcg, ← Nat.pow_add, show i - 1 + 1 + (r - i) = r by omega]
 rw [e2, Nat.add_comm, zci _ _ (zcf (by decide)), val_div r (r - i) z (by omega), show r - (r - i) = (i - 1) + 1 by omega, val]
 have := dg_lt (anc (r - i) z)
 generalize hd36 r (anc r z) * 8 ^ (i - 1) = m
 omega
theorem word_seven (r i : Nat) (z : Ei) (h1 : r < i) (h2 : i ≤ 12) : dgt (word r z) i = 7 := by
 unfold dgt word
 have e : 8 ^ (12 - r) = 8 ^ (i - r - 1) * 8 * 8 ^ (12 - i) := by rw [← Nat.pow_succ, ← Nat.pow_add, show i - r - 1 + 1 + (12 - i) = 12 - r by omega]
 have hq : 0 < 8 ^ (12 - i) := zcf (by decide)
 have hq2 : 0 < 8 ^ (i - r - 1) := zcf (by decide)
 rw [e]
 generalize hd36 r (anc r z) * 8 ^ r + val r z = m
 generalize hx : 8 ^ (i - r - 1) = x at *
 generalize hy : 8 ^ (12 - i) = y at *
 have h3 : m * (x * 8 * y) + (x * 8 * y - 1) = (y - 1) + (m * (x * 8) + (x * 8 - 1)) * y := by
  have : (x * 8 - 1) * y = x * 8 * y - y := by rw [Nat.sub_mul, Nat.one_mul]
  have h5 : y ≤ x * 8 * y := Nat.le_mul_of_pos_left _ (by omega)
  rw [Nat.add_mul, this, ← zcg]
  omega
 rw [h3, zci _ _ hq, zcl (by omega)]
 have h4 : m * (x * 8) = m * x * 8 := (zcg _ _ _).symm
 omega
theorem hd36_parts (r : Nat) (q : Ei) (hr : r ≤ 12) (ha : -512 ≤ q.a ∧ q.a ≤ 511) (hb : -512 ≤ q.b ∧ q.b ≤ 511) :
  hd36 r q / 16777216 = 1 ∧ hd36 r q / 1048576 % 16 = r ∧ ((hd36 r q / 1024 % 1024 : Nat) : Int) - 512 = q.a ∧ ((hd36 r q % 1024 : Nat) : Int) - 512 = q.b := by
 unfold hd36
 omega
theorem word_lt (r : Nat) (z : Ei) (h : okc r z) : word r z < 18446744073709551616 := by
 have h1 := word_top r z h.1
 have h2 := hd36_parts r (anc r z) h.1 h.2.2.1 h.2.2.2
 omega
theorem word_isW (r : Nat) (z : Ei) (h : okc r z) : isW (word r z) ∧ resW (word r z) = r := by
 have h1 := word_top r z h.1
 have h2 := hd36_parts r (anc r z) h.1 h.2.2.1 h.2.2.2
 have h3 : resW (word r z) = r := by unfold resW; omega
 refine ⟨⟨by omega, by rw [h3]; exact h.1, fun i i1 i2 => ?_⟩, h3⟩
 rw [h3]
 by_cases hi : r < i
 ·simp [hi, word_seven r i z hi i2]
 ·simp only [hi, iff_false]
  rw [word_dgt r i z h.1 i1 (by omega)]
  have := dg_lt (anc (r - i) z)
  omega
theorem word_down (r i : Nat) (z : Ei) (h : okc r z) (hi : i ≤ r) : down (word r z) i = anc (r - i) z := by
 induction i with
 | zero =>
  have h1 := word_top r z h.1
  have h2 := hd36_parts r (anc r z) h.1 h.2.2.1 h.2.2.2
  apply Ei.ext' <;> simp only [down, baseW] <;> rw [Nat.sub_zero] <;> omega
 | succ i ih =>
  rw [down, ih (by omega), word_dgt r (i + 1) z h.1 (by omega) hi]
  rw [show r - i = r - (i + 1) + 1 by omega, anc_succ, child_back]

def betaN : Nat → Ei
 | 0 => ⟨1, 0⟩
 | k + 1 => (betaN k).mul beta
theorem betaN_in (k : Nat) (h : k ≤ 12) : (betaN k).In 120000 := by
 have : ∀ j : Fin 13, (betaN j.val).In 120000 := by unfold Ei.In; decide
 exact this ⟨k, by omega⟩
def ax (x y : Int) : Ei := ⟨45 * x - 26 * y, 52 * y⟩
def near (x y : Int) (r : Nat) : Ei := ((ax x y).mul (betaN (12 - r)).conj).round (2340 * 7 ^ (12 - r))
theorem pr_H {z : Ei} {n m : Int} (h : z.H n) (hm : 3 * n + 4 < 7 * (m + 1)) : (pr z).H m := by
 have h7 := round_spec (z.mul ⟨3, -1⟩) (d := 7) (by decide)
 unfold holds at h7
 unfold Ei.H pr at *
 simp only [Ei.mul] at *
 generalize Ei.round _ 7 = q at *
 simp only [Int.mul_one, Int.mul_neg] at *
 omega
theorem pr3_H {z : Ei} {n m : Int} (h : z.H n) (hm : 19 * n + 330 < 343 * (m + 1)) : (anc 3 z).H m := by
 obtain ⟨l1, _, g1, e1, f1⟩ := pr_spec z
 obtain ⟨l2, _, g2, e2, f2⟩ := pr_spec (pr z)
 obtain ⟨l3, _, g3, e3, f3⟩ := pr_spec (pr (pr z))
 show (pr (pr (pr z))).H m
 generalize pr (pr (pr z)) = q at *
 generalize pr (pr z) = q2 at *
 generalize pr z = q1 at *
 unfold Ei.H at *
 omega
theorem near_H0 (x y : Int) (hx : 0 ≤ x ∧ x < 1073741824) (hy : 0 ≤ y ∧ y < 1073741824) : (near x y 0).H 260 := by
 have h := round_spec ((ax x y).mul (betaN (12 - 0)).conj) (d := 2340 * 7 ^ (12 - 0)) (by decide)
 have e : (betaN (12 - 0)).conj = ⟨-128231, 102960⟩ := by decide
 have ed : (2340 * 7 ^ (12 - 0) : Int) = 32388612050340 := by decide
 unfold near
 generalize Ei.round _ _ = q at *
 rw [e, ed] at h
 unfold holds Ei.H at *
 simp only [Ei.mul, ax] at *
 omega
theorem near_H1 (x y : Int) (hx : 0 ≤ x ∧ x < 1073741824) (hy : 0 ≤ y ∧ y < 1073741824) : (near x y 1).H 734 := by
 have h := round_spec ((ax x y).mul (betaN (12 - 1)).conj) (d := 2340 * 7 ^ (12 - 1)) (by decide)
 have e : (betaN (12 - 1)).conj = ⟨-51346, 25807⟩ := by decide
 have ed : (2340 * 7 ^ (12 - 1) : Int) = 4626944578620 := by decide
 unfold near
 generalize Ei.round _ _ = q at *
 rw [e, ed] at h
 unfold holds Ei.H at *
 simp only [Ei.mul, ax] at *
 omega
theorem near_H2 (x y : Int) (hx : 0 ≤ x ∧ x < 1073741824) (hy : 0 ≤ y ∧ y < 1073741824) : (near x y 2).H 2004 := by
 have h := round_spec ((ax x y).mul (betaN (12 - 2)).conj) (d := 2340 * 7 ^ (12 - 2)) (by decide)
 have e : (betaN (12 - 2)).conj = ⟨-18357, 3725⟩ := by decide
 have ed : (2340 * 7 ^ (12 - 2) : Int) = 660992082660 := by decide
 unfold near
 generalize Ei.round _ _ = q at *
 rw [e, ed] at h
 unfold holds Ei.H at *
 simp only [Ei.mul, ax] at *
 omega
theorem near_H3 (x y : Int) (hx : 0 ≤ x ∧ x < 1073741824) (hy : 0 ≤ y ∧ y < 1073741824) : (near x y 3).H 4887 := by
 have h := round_spec ((ax x y).mul (betaN (12 - 3)).conj) (d := 2340 * 7 ^ (12 - 3)) (by decide)
 have e : (betaN (12 - 3)).conj = ⟨-5777, -1026⟩ := by decide
 have ed : (2340 * 7 ^ (12 - 3) : Int) = 94427440380 := by decide
 unfold near
 generalize Ei.round _ _ = q at *
 rw [e, ed] at h
 unfold holds Ei.H at *
 simp only [Ei.mul, ax] at *
 omega
theorem near_H4 (x y : Int) (hx : 0 ≤ x ∧ x < 1073741824) (hy : 0 ≤ y ∧ y < 1073741824) : (near x y 4).H 13376 := by
 have h := round_spec ((ax x y).mul (betaN (12 - 4)).conj) (d := 2340 * 7 ^ (12 - 4)) (by decide)
 have e : (betaN (12 - 4)).conj = ⟨-1504, -1265⟩ := by decide
 have ed : (2340 * 7 ^ (12 - 4) : Int) = 13489634340 := by decide
 unfold near
 generalize Ei.round _ _ = q at *
 rw [e, ed] at h
 unfold holds Ei.H at *
 simp only [Ei.mul, ax] at *
 omega
theorem near_H5 (x y : Int) (hx : 0 ≤ x ∧ x < 1073741824) (hy : 0 ≤ y ∧ y < 1073741824) : (near x y 5).H 37163 := by
 have h := round_spec ((ax x y).mul (betaN (12 - 5)).conj) (d := 2340 * 7 ^ (12 - 5)) (by decide)
 have e : (betaN (12 - 5)).conj = ⟨-249, -757⟩ := by decide
 have ed : (2340 * 7 ^ (12 - 5) : Int) = 1927090620 := by decide
 unfold near
 generalize Ei.round _ _ = q at *
 rw [e, ed] at h
 unfold holds Ei.H at *
 simp only [Ei.mul, ax] at *
 omega
theorem near_H6 (x y : Int) (hx : 0 ≤ x ∧ x < 1073741824) (hy : 0 ≤ y ∧ y < 1073741824) : (near x y 6).H 92189 := by
 have h := round_spec ((ax x y).mul (betaN (12 - 6)).conj) (d := 2340 * 7 ^ (12 - 6)) (by decide)
 have e : (betaN (12 - 6)).conj = ⟨37, -360⟩ := by decide
 have ed : (2340 * 7 ^ (12 - 6) : Int) = 275298660 := by decide
 unfold near
 generalize Ei.round _ _ = q at *
 rw [e, ed] at h
 unfold holds Ei.H at *
 simp only [Ei.mul, ax] at *
 omega
theorem near_H7 (x y : Int) (hx : 0 ≤ x ∧ x < 1073741824) (hy : 0 ≤ y ∧ y < 1073741824) : (near x y 7).H 243699 := by
 have h := round_spec ((ax x y).mul (betaN (12 - 7)).conj) (d := 2340 * 7 ^ (12 - 7)) (by decide)
 have e : (betaN (12 - 7)).conj = ⟨62, -149⟩ := by decide
 have ed : (2340 * 7 ^ (12 - 7) : Int) = 39328380 := by decide
 unfold near
 generalize Ei.round _ _ = q at *
 rw [e, ed] at h
 unfold holds Ei.H at *
 simp only [Ei.mul, ax] at *
 omega
theorem near_H8 (x y : Int) (hx : 0 ≤ x ∧ x < 1073741824) (hy : 0 ≤ y ∧ y < 1073741824) : (near x y 8).H 688202 := by
 have h := round_spec ((ax x y).mul (betaN (12 - 8)).conj) (d := 2340 * 7 ^ (12 - 8)) (by decide)
 have e : (betaN (12 - 8)).conj = ⟨39, -55⟩ := by decide
 have ed : (2340 * 7 ^ (12 - 8) : Int) = 5618340 := by decide
 unfold near
 generalize Ei.round _ _ = q at *
 rw [e, ed] at h
 unfold holds Ei.H at *
 simp only [Ei.mul, ax] at *
 omega
theorem near_H9 (x y : Int) (hx : 0 ≤ x ∧ x < 1073741824) (hy : 0 ≤ y ∧ y < 1073741824) : (near x y 9).H 1735123 := by
 have h := round_spec ((ax x y).mul (betaN (12 - 9)).conj) (d := 2340 * 7 ^ (12 - 9)) (by decide)
 have e : (betaN (12 - 9)).conj = ⟨19, -18⟩ := by decide
 have ed : (2340 * 7 ^ (12 - 9) : Int) = 802620 := by decide
 unfold near
 generalize Ei.round _ _ = q at *
 rw [e, ed] at h
 unfold holds Ei.H at *
 simp only [Ei.mul, ax] at *
 omega
theorem near_H10 (x y : Int) (hx : 0 ≤ x ∧ x < 1073741824) (hy : 0 ≤ y ∧ y < 1073741824) : (near x y 10).H 4429444 := by
 have h := round_spec ((ax x y).mul (betaN (12 - 10)).conj) (d := 2340 * 7 ^ (12 - 10)) (by decide)
 have e : (betaN (12 - 10)).conj = ⟨8, -5⟩ := by decide
 have ed : (2340 * 7 ^ (12 - 10) : Int) = 114660 := by decide
 unfold near
 generalize Ei.round _ _ = q at *
 rw [e, ed] at h
 unfold holds Ei.H at *
 simp only [Ei.mul, ax] at *
 omega
theorem near_H11 (x y : Int) (hx : 0 ≤ x ∧ x < 1073741824) (hy : 0 ≤ y ∧ y < 1073741824) : (near x y 11).H 12717090 := by
 have h := round_spec ((ax x y).mul (betaN (12 - 11)).conj) (d := 2340 * 7 ^ (12 - 11)) (by decide)
 have e : (betaN (12 - 11)).conj = ⟨3, -1⟩ := by decide
 have ed : (2340 * 7 ^ (12 - 11) : Int) = 16380 := by decide
 unfold near
 generalize Ei.round _ _ = q at *
 rw [e, ed] at h
 unfold holds Ei.H at *
 simp only [Ei.mul, ax] at *
 omega
theorem near_H12 (x y : Int) (hx : 0 ≤ x ∧ x < 1073741824) (hy : 0 ≤ y ∧ y < 1073741824) : (near x y 12).H 32579347 := by
 have h := round_spec ((ax x y).mul (betaN (12 - 12)).conj) (d := 2340 * 7 ^ (12 - 12)) (by decide)
 have e : (betaN (12 - 12)).conj = ⟨1, 0⟩ := by decide
 have ed : (2340 * 7 ^ (12 - 12) : Int) = 2340 := by decide
 unfold near
 generalize Ei.round _ _ = q at *
 rw [e, ed] at h
 unfold holds Ei.H at *
 simp only [Ei.mul, ax] at *
 omega
theorem chain0 {z : Ei} (h0 : z.H 260) : (anc 0 z).H 511 := by
 exact h0.mono (by decide)
theorem near_base0 (x y : Int) (hx : 0 ≤ x ∧ x < 1073741824) (hy : 0 ≤ y ∧ y < 1073741824) : (anc 0 (near x y 0)).H 511 := chain0 (near_H0 x y hx hy)
theorem chain1 {z : Ei} (h0 : z.H 734) : (anc 1 z).H 511 := by
 have h1 := pr_H (m := 315) h0 (by decide)
 exact h1.mono (by decide)
theorem near_base1 (x y : Int) (hx : 0 ≤ x ∧ x < 1073741824) (hy : 0 ≤ y ∧ y < 1073741824) : (anc 1 (near x y 1)).H 511 := chain1 (near_H1 x y hx hy)
theorem chain2 {z : Ei} (h0 : z.H 2004) : (anc 2 z).H 511 := by
 have h1 := pr_H (m := 859) h0 (by decide)
 have h2 := pr_H (m := 368) h1 (by decide)
 exact h2.mono (by decide)
theorem near_base2 (x y : Int) (hx : 0 ≤ x ∧ x < 1073741824) (hy : 0 ≤ y ∧ y < 1073741824) : (anc 2 (near x y 2)).H 511 := chain2 (near_H2 x y hx hy)
theorem chain3 {z : Ei} (h0 : z.H 4887) : (anc 3 z).H 511 := by
 have h1 := pr3_H (m := 271) h0 (by decide)
 exact h1.mono (by decide)
theorem near_base3 (x y : Int) (hx : 0 ≤ x ∧ x < 1073741824) (hy : 0 ≤ y ∧ y < 1073741824) : (anc 3 (near x y 3)).H 511 := chain3 (near_H3 x y hx hy)
theorem chain4 {z : Ei} (h0 : z.H 13376) : (anc 4 z).H 511 := by
 have h1 := pr_H (m := 5733) h0 (by decide)
 have h2 := pr3_H (m := 318) h1 (by decide)
 exact h2.mono (by decide)
theorem near_base4 (x y : Int) (hx : 0 ≤ x ∧ x < 1073741824) (hy : 0 ≤ y ∧ y < 1073741824) : (anc 4 (near x y 4)).H 511 := chain4 (near_H4 x y hx hy)
theorem chain5 {z : Ei} (h0 : z.H 37163) : (anc 5 z).H 511 := by
 have h1 := pr_H (m := 15927) h0 (by decide)
 have h2 := pr_H (m := 6826) h1 (by decide)
 have h3 := pr3_H (m := 379) h2 (by decide)
 exact h3.mono (by decide)
theorem near_base5 (x y : Int) (hx : 0 ≤ x ∧ x < 1073741824) (hy : 0 ≤ y ∧ y < 1073741824) : (anc 5 (near x y 5)).H 511 := chain5 (near_H5 x y hx hy)
theorem chain6 {z : Ei} (h0 : z.H 92189) : (anc 6 z).H 511 := by
 have h1 := pr3_H (m := 5107) h0 (by decide)
 have h2 := pr3_H (m := 283) h1 (by decide)
 exact h2.mono (by decide)
theorem near_base6 (x y : Int) (hx : 0 ≤ x ∧ x < 1073741824) (hy : 0 ≤ y ∧ y < 1073741824) : (anc 6 (near x y 6)).H 511 := chain6 (near_H6 x y hx hy)
theorem chain7 {z : Ei} (h0 : z.H 243699) : (anc 7 z).H 511 := by
 have h1 := pr_H (m := 104443) h0 (by decide)
 have h2 := pr3_H (m := 5786) h1 (by decide)
 have h3 := pr3_H (m := 321) h2 (by decide)
 exact h3.mono (by decide)
theorem near_base7 (x y : Int) (hx : 0 ≤ x ∧ x < 1073741824) (hy : 0 ≤ y ∧ y < 1073741824) : (anc 7 (near x y 7)).H 511 := chain7 (near_H7 x y hx hy)
theorem chain8 {z : Ei} (h0 : z.H 688202) : (anc 8 z).H 511 := by
 have h1 := pr_H (m := 294944) h0 (by decide)
 have h2 := pr_H (m := 126405) h1 (by decide)
 have h3 := pr3_H (m := 7002) h2 (by decide)
 have h4 := pr3_H (m := 388) h3 (by decide)
 exact h4.mono (by decide)
theorem near_base8 (x y : Int) (hx : 0 ≤ x ∧ x < 1073741824) (hy : 0 ≤ y ∧ y < 1073741824) : (anc 8 (near x y 8)).H 511 := chain8 (near_H8 x y hx hy)
theorem chain9 {z : Ei} (h0 : z.H 1735123) : (anc 9 z).H 511 := by
 have h1 := pr3_H (m := 96115) h0 (by decide)
 have h2 := pr3_H (m := 5325) h1 (by decide)
 have h3 := pr3_H (m := 295) h2 (by decide)
 exact h3.mono (by decide)
theorem near_base9 (x y : Int) (hx : 0 ≤ x ∧ x < 1073741824) (hy : 0 ≤ y ∧ y < 1073741824) : (anc 9 (near x y 9)).H 511 := chain9 (near_H9 x y hx hy)
theorem chain10 {z : Ei} (h0 : z.H 4429444) : (anc 10 z).H 511 := by
 have h1 := pr_H (m := 1898333) h0 (by decide)
 have h2 := pr3_H (m := 105156) h1 (by decide)
 have h3 := pr3_H (m := 5825) h2 (by decide)
 have h4 := pr3_H (m := 323) h3 (by decide)
 exact h4.mono (by decide)
theorem near_base10 (x y : Int) (hx : 0 ≤ x ∧ x < 1073741824) (hy : 0 ≤ y ∧ y < 1073741824) : (anc 10 (near x y 10)).H 511 := chain10 (near_H10 x y hx hy)
theorem chain11 {z : Ei} (h0 : z.H 12717090) : (anc 11 z).H 511 := by
 have h1 := pr_H (m := 5450182) h0 (by decide)
 have h2 := pr_H (m := 2335792) h1 (by decide)
 have h3 := pr3_H (m := 129388) h2 (by decide)
 have h4 := pr3_H (m := 7168) h3 (by decide)
 have h5 := pr3_H (m := 398) h4 (by decide)
 exact h5.mono (by decide)
theorem near_base11 (x y : Int) (hx : 0 ≤ x ∧ x < 1073741824) (hy : 0 ≤ y ∧ y < 1073741824) : (anc 11 (near x y 11)).H 511 := chain11 (near_H11 x y hx hy)
theorem chain12 {z : Ei} (h0 : z.H 32579347) : (anc 12 z).H 511 := by
 have h1 := pr3_H (m := 1804687) h0 (by decide)
 have h2 := pr3_H (m := 99969) h1 (by decide)
 have h3 := pr3_H (m := 5538) h2 (by decide)
 have h4 := pr3_H (m := 307) h3 (by decide)
 exact h4.mono (by decide)
theorem near_base12 (x y : Int) (hx : 0 ≤ x ∧ x < 1073741824) (hy : 0 ≤ y ∧ y < 1073741824) : (anc 12 (near x y 12)).H 511 := chain12 (near_H12 x y hx hy)
theorem near_H (x y : Int) (r : Nat) (hx : 0 ≤ x ∧ x < 1073741824) (hy : 0 ≤ y ∧ y < 1073741824) (hr : r ≤ 12) : (near x y r).H 32579347 := by
 rcases (show r = 0 ∨ r = 1 ∨ r = 2 ∨ r = 3 ∨ r = 4 ∨ r = 5 ∨ r = 6 ∨ r = 7 ∨ r = 8 ∨ r = 9 ∨ r = 10 ∨ r = 11 ∨ r = 12 by omega) with rfl | rfl | rfl | rfl | rfl | rfl | rfl | rfl | rfl | rfl | rfl | rfl | rfl
 ·exact (near_H0 x y hx hy).mono (by decide)
 ·exact (near_H1 x y hx hy).mono (by decide)
 ·exact (near_H2 x y hx hy).mono (by decide)
 ·exact (near_H3 x y hx hy).mono (by decide)
 ·exact (near_H4 x y hx hy).mono (by decide)
 ·exact (near_H5 x y hx hy).mono (by decide)
 ·exact (near_H6 x y hx hy).mono (by decide)
 ·exact (near_H7 x y hx hy).mono (by decide)
 ·exact (near_H8 x y hx hy).mono (by decide)
 ·exact (near_H9 x y hx hy).mono (by decide)
 ·exact (near_H10 x y hx hy).mono (by decide)
 ·exact (near_H11 x y hx hy).mono (by decide)
 ·exact (near_H12 x y hx hy).mono (by decide)
theorem near_base (x y : Int) (r : Nat) (hx : 0 ≤ x ∧ x < 1073741824) (hy : 0 ≤ y ∧ y < 1073741824) (hr : r ≤ 12) : (anc r (near x y r)).H 511 := by
 rcases (show r = 0 ∨ r = 1 ∨ r = 2 ∨ r = 3 ∨ r = 4 ∨ r = 5 ∨ r = 6 ∨ r = 7 ∨ r = 8 ∨ r = 9 ∨ r = 10 ∨ r = 11 ∨ r = 12 by omega) with rfl | rfl | rfl | rfl | rfl | rfl | rfl | rfl | rfl | rfl | rfl | rfl | rfl
 ·exact near_base0 x y hx hy
 ·exact near_base1 x y hx hy
 ·exact near_base2 x y hx hy
 ·exact near_base3 x y hx hy
 ·exact near_base4 x y hx hy
 ·exact near_base5 x y hx hy
 ·exact near_base6 x y hx hy
 ·exact near_base7 x y hx hy
 ·exact near_base8 x y hx hy
 ·exact near_base9 x y hx hy
 ·exact near_base10 x y hx hy
 ·exact near_base11 x y hx hy
 ·exact near_base12 x y hx hy
theorem near_okc (x y : Int) (r : Nat) (hx : 0 ≤ x ∧ x < 1073741824) (hy : 0 ≤ y ∧ y < 1073741824) (hr : r ≤ 12) : okc r (near x y r) := by
 have h1 := near_H x y r hx hy hr
 have h2 := near_base x y r hx hy hr
 unfold okc
 unfold Ei.In
 unfold Ei.H at h1 h2
 omega

noncomputable def eisen_times_pc : PC :=
  (.seq (.reg [p_a 4 (.new [(.r (.v (.int .i64 0))), (.r (.v (.int .u64 0)))])])
 (.seq (.reg [p_m 9 0, p_s 10 (.conv .u64 (.t 9)), p_m 11 1, p_s 12 (.conv .u64 (.t 11)), p_c 13 1 119 [.t 10, .t 12], p_m 8 13, p_s 14 (.ext (.t 8) 0), p_s 15 (.ext (.t 8) 1),
 p_m 5 14, p_m 6 15])
 (.seq (.reg [p_m 16 5, p_s 17 (.conv .i64 (.t 16)), p_m 7 17])
 (.seq (.seq (.reg [p_m 18 0, p_s 19 (.bin .lss (.t 18) (o_i 0))])
 (.cond (.t 19)
 (.reg [p_m 20 7, p_m 21 1, p_s 22 (.bin .sub (.t 20) (.t 21)), p_m 7 22])
 .skip))
 (.seq (.seq (.reg [p_m 23 1, p_s 24 (.bin .lss (.t 23) (o_i 0))])
 (.cond (.t 24)
 (.reg [p_m 25 7, p_m 26 0, p_s 27 (.bin .sub (.t 25) (.t 26)), p_m 7 27])
 .skip))
 (.seq (.reg [p_m 28 7, p_m 29 6, p_s 30 (.build [(.r (.v (.int .i64 0))), (.r (.v (.int .u64 0)))] [(0, 1, (.t 28)), (1, 1, (.t 29))]), ⟨none, none, 0, .act (.st 2 (.t 4) (.t 30))⟩])
 .ret))))))
theorem eisen_times_triple : Fun P0 88 2 [(4, false, some (141, (some 2)))] eisen_times_pc := fun_mk Go.Proofs.Tryz.func88 rfl (by decide) (by kernel_rfl) (by decide) rfl (by kernel_rfl) (by kernel_rfl) (by decide)
noncomputable def eisen_wide_plus_pc : PC :=
  (.seq (.reg [p_a 2 (.box (.t 0)), p_a 3 (.box (.t 1)), p_a 4 (.new [(.r (.v (.int .i64 0))), (.r (.v (.int .u64 0)))])])
 (.seq (.reg [p_s 8 (.fa 1 (.t 2)), p_s 9 (.ld none (.t 8)), p_s 10 (.fa 1 (.t 3)), p_s 11 (.ld none (.t 10)), p_s 12 (.carry false (.t 9) (.t 11) (.c (.r (.v (.int .u64 0))))),
 p_m 7 12, p_s 13 (.ext (.t 7) 0), p_s 14 (.ext (.t 7) 1), p_m 5 13, p_m 6 14])
 (.seq (.reg [p_s 15 (.fa 0 (.t 2)), p_s 16 (.ld none (.t 15)), p_s 17 (.fa 0 (.t 3)), p_s 18 (.ld none (.t 17)), p_s 19 (.bin .add (.t 16) (.t 18)), p_m 20 6, p_s 21 (.conv .i64 (.t 20)),
 p_s 22 (.bin .add (.t 19) (.t 21)), p_m 23 5, p_s 24 (.build [(.r (.v (.int .i64 0))), (.r (.v (.int .u64 0)))] [(0, 1, (.t 22)), (1, 1, (.t 23))]), ⟨none, none, 0, .act (.st 2 (.t 4) (.t 24))⟩])
 .ret)))
theorem eisen_wide_plus_triple : Fun P0 87 2 [(4, false, some (141, (some 2)))] eisen_wide_plus_pc := fun_mk Go.Proofs.Tryz.func87 rfl (by decide) (by kernel_rfl) (by decide) rfl (by kernel_rfl) (by kernel_rfl) (by decide)
noncomputable def eisen_wide_minus_pc : PC :=
  (.seq (.reg [p_a 2 (.box (.t 0)), p_a 3 (.box (.t 1)), p_a 4 (.new [(.r (.v (.int .i64 0))), (.r (.v (.int .u64 0)))])])
 (.seq (.reg [p_s 8 (.fa 1 (.t 2)), p_s 9 (.ld none (.t 8)), p_s 10 (.fa 1 (.t 3)), p_s 11 (.ld none (.t 10)), p_s 12 (.carry true (.t 9) (.t 11) (.c (.r (.v (.int .u64 0))))),
 p_m 7 12, p_s 13 (.ext (.t 7) 0), p_s 14 (.ext (.t 7) 1), p_m 5 13, p_m 6 14])
 (.seq (.reg [p_s 15 (.fa 0 (.t 2)), p_s 16 (.ld none (.t 15)), p_s 17 (.fa 0 (.t 3)), p_s 18 (.ld none (.t 17)), p_s 19 (.bin .sub (.t 16) (.t 18)), p_m 20 6, p_s 21 (.conv .i64 (.t 20)),
 p_s 22 (.bin .sub (.t 19) (.t 21)), p_m 23 5, p_s 24 (.build [(.r (.v (.int .i64 0))), (.r (.v (.int .u64 0)))] [(0, 1, (.t 22)), (1, 1, (.t 23))]), ⟨none, none, 0, .act (.st 2 (.t 4) (.t 24))⟩])
 .ret)))
theorem eisen_wide_minus_triple : Fun P0 89 2 [(4, false, some (141, (some 2)))] eisen_wide_minus_pc := fun_mk Go.Proofs.Tryz.func89 rfl (by decide) (by kernel_rfl) (by decide) rfl (by kernel_rfl) (by kernel_rfl) (by decide)
noncomputable def eisen_wide_short_pc : PC :=
  (.seq (.reg [p_a 1 (.box (.t 0)), p_s 2 (.mov (o_i 0)), p_s 3 (.mov (.c (.r (.v (.bool false)))))])
 (.seq (.reg [p_s 5 (.fa 1 (.t 1)), p_s 6 (.ld none (.t 5)), p_s 7 (.conv .i64 (.t 6)), p_m 4 7])
 (.seq (.seq (.reg [p_m 8 4, p_s 9 (.bin .lss (.t 8) (o_i 0)), p_m 10 9, p_g 11 10 true (.fa 0 (.t 1)), p_g 12 10 true (.ld none (.t 11)), p_g 13 10 true (.bin .eql (.t 12) (o_i (-1))),
 p_s 14 (.pick (.t 10) (.t 13) (.c (.r (.v (.bool false))))), p_m 15 14, p_g 16 15 false (.mov (.t 4)), p_g 17 15 false (.bin .geq (.t 16) (o_i 0)), p_g 18 15 false (.mov (.t 17)),
 p_g 19 18 true (.fa 0 (.t 1)), p_g 20 18 true (.ld none (.t 19)), p_g 21 18 true (.bin .eql (.t 20) (o_i 0)), p_g 22 15 false (.pick (.t 18) (.t 21) (.c (.r (.v (.bool false))))),
 p_s 23 (.pick (.t 15) (.c (.r (.v (.bool true)))) (.t 22))])
 (.cond (.t 23)
 (.seq (.reg [p_m 24 4, p_m 2 24, p_s 3 (.mov (.c (.r (.v (.bool true)))))])
 .ret)
 .skip))
 (.seq (.reg [p_s 2 (.mov (o_i 0)), p_s 3 (.mov (.c (.r (.v (.bool false)))))])
 .ret))))
theorem eisen_wide_short_triple : Fun P0 90 1 [(2, false, none), (3, false, none)] eisen_wide_short_pc := fun_mk Go.Proofs.Tryz.func90 rfl (by decide) (by kernel_rfl) (by decide) rfl (by kernel_rfl) (by kernel_rfl) (by decide)
noncomputable def eisen_both_pc : PC :=
  (.seq (.reg [p_a 8 (.new [(.r (.v (.int .i64 0))), (.r (.v (.int .i64 0)))]), p_s 9 (.mov (.c (.r (.v (.bool false)))))])
 (.seq (.seq (.reg [p_m 10 1, p_s 11 (.un .not (.t 10)), p_m 12 11, p_g 13 12 false (.mov (.t 3)), p_g 14 12 false (.un .not (.t 13)), p_s 15 (.pick (.t 12) (.c (.r (.v (.bool true)))) (.t 14))])
 (.cond (.t 15)
 (.seq (.reg [p_s 16 (.build [(.r (.v (.int .i64 0))), (.r (.v (.int .i64 0)))] []), ⟨none, none, 0, .act (.st 2 (.t 8) (.t 16))⟩, p_s 9 (.mov (.c (.r (.v (.bool false)))))])
 .ret)
 .skip))
 (.seq (.reg [p_m 17 0, p_m 18 2, p_s 19 (.build [(.r (.v (.int .i64 0))), (.r (.v (.int .i64 0)))] [(0, 1, (.t 17)), (1, 1, (.t 18))]), ⟨none, none, 0, .act (.st 2 (.t 8) (.t 19))⟩,
 p_s 9 (.mov (.c (.r (.v (.bool true)))))])
 .ret)))
theorem eisen_both_triple : Fun P0 91 4 [(8, false, some (53, (some 2))), (9, false, none)] eisen_both_pc := fun_mk Go.Proofs.Tryz.func91 rfl (by decide) (by kernel_rfl) (by decide) rfl (by kernel_rfl) (by kernel_rfl) (by decide)
noncomputable def eisen_Mul_pc : PC :=
  (.seq (.reg [p_a 2 (.box (.t 0)), p_a 3 (.box (.t 1)), p_a 4 (.new [(.r (.v (.int .i64 0))), (.r (.v (.int .i64 0)))]), p_s 5 (.mov (.c (.r (.v (.bool false)))))])
 (.seq (.reg [p_s 6 (.mov (.c (.fn (.func 87) [])))])
 (.seq (.reg [p_s 12 (.fa 1 (.t 2)), p_s 13 (.ld none (.t 12)), p_s 14 (.fa 1 (.t 3)), p_s 15 (.ld none (.t 14)), p_c 16 1 88 [.t 13, .t 15], p_a 7 (.new [(.r (.v (.int .i64 0))), (.r (.v (.int .u64 0)))]),
 ⟨none, none, 0, .act (.st 2 (.t 7) (.t 16))⟩])
 (.seq (.drw [p_s 18 (.fa 0 (.t 2)), p_s 19 (.ld none (.t 18)), p_s 20 (.fa 0 (.t 3)), p_s 21 (.ld none (.t 20)), p_c 22 2 88 [.t 19, .t 21], p_s 23 (.ld (some 2) (.t 7)), p_c 24 3 89 [.t 22, .t 23],
 p_c 25 4 90 [.t 24], p_m 17 25, p_s 26 (.ext (.t 17) 0), p_s 27 (.ext (.t 17) 1), p_m 8 26, p_m 9 27]
 [[], [0], [], [2], [0, 1, 2, 3], [], [0, 1, 2, 3, 4, 5], [0, 1, 2, 3, 4, 5, 6], [0, 1, 2, 3, 4, 5, 6, 7], [0, 1, 2, 3, 4, 5, 6, 7, 8], [0, 1, 2, 3, 4, 5, 6, 7, 8], [0, 1, 2, 3, 4, 5, 6, 7, 8, 9], [0, 1, 2, 3, 4, 5, 6, 7, 8, 9, 10, 11]])
 (.seq (.drw [p_m 29 6, p_m 30 6, p_s 31 (.fa 0 (.t 2)), p_s 32 (.ld none (.t 31)), p_s 33 (.fa 1 (.t 3)), p_s 34 (.ld none (.t 33)), p_c 35 5 88 [.t 32, .t 34], p_s 36 (.fa 1 (.t 2)),
 p_s 37 (.ld none (.t 36)), p_s 38 (.fa 0 (.t 3)), p_s 39 (.ld none (.t 38)), p_c 40 6 88 [.t 37, .t 39], ⟨(some 41), none, 7, .callv (.t 30) [(.t 35), (.t 40)]⟩,
 p_s 42 (.ld (some 2) (.t 7)), ⟨(some 43), none, 8, .callv (.t 29) [(.t 41), (.t 42)]⟩, p_c 44 9 90 [.t 43], p_m 28 44, p_s 45 (.ext (.t 28) 0), p_s 46 (.ext (.t 28) 1),
 p_m 10 45, p_m 11 46]
 [[], [], [], [2], [], [4], [2, 3, 4, 5], [], [7], [], [9], [2, 3, 4, 5, 6, 7, 8, 9, 10], [1, 2, 3, 4, 5, 6, 7, 8, 9, 10, 11], [], [0, 1, 2, 3, 4, 5, 6, 7, 8, 9, 10, 11, 12, 13], [0, 1, 2, 3, 4, 5, 6, 7, 8, 9, 10, 11, 12, 13, 14], [0, 1, 2, 3, 4, 5, 6, 7, 8, 9, 10, 11, 12, 13, 14, 15], [0, 1, 2, 3, 4, 5, 6, 7, 8, 9, 10, 11, 12, 13, 14, 15, 16], [0, 1, 2, 3, 4, 5, 6, 7, 8, 9, 10, 11, 12, 13, 14, 15, 16], [0, 1, 2, 3, 4, 5, 6, 7, 8, 9, 10, 11, 12, 13, 14, 15, 16, 17], [0, 1, 2, 3, 4, 5, 6, 7, 8, 9, 10, 11, 12, 13, 14, 15, 16, 17, 18, 19]])
 (.seq (.reg [p_m 47 8, p_m 48 9, p_m 49 10, p_m 50 11, p_c 51 10 91 [.t 47, .t 48, .t 49, .t 50], p_s 52 (.ext (.t 51) 0), p_s 53 (.ext (.t 51) 1), ⟨none, none, 0, .act (.st 2 (.t 4) (.t 52))⟩,
 p_m 5 53])
 .ret))))))
theorem eisen_Mul_triple : Fun P0 52 2 [(4, false, some (53, (some 2))), (5, false, none)] eisen_Mul_pc := fun_mk Go.Proofs.Tryz.func52 rfl (by decide) (by kernel_rfl) (by decide) rfl (by kernel_rfl) (by kernel_rfl) (by decide)
def wid (x : Int) : AV := .r (.agg [.v (.int .i64 (IntKind.i64.wrap (x / 18446744073709551616))), .v (.int .u64 (x % 18446744073709551616))])
theorem wid_eq {x a b : Int} (h1 : a = IntKind.i64.wrap (x / 18446744073709551616)) (h2 : b = x % 18446744073709551616) : AV.r (.agg [.v (.int .i64 a), .v (.int .u64 b)]) = wid x := by rw [h1, h2]; rfl
theorem wplus_t (a b : Int) : Triple P0 87 [wid a, wid b] [] (wid (a + b)) [] := by
 refine eisen_wide_plus_triple rfl (by decide) ?_
 simp only [eisen_wide_plus_pc, wid, push_cast, ↓reduceIte, reduceCtorEq, zB, zE, zA, zS, zL, zD, zM]
 refine ⟨by omega, wid_eq ?_ ?_⟩
 ·simp only [IntKind.wrap_i64]; omega
 ·omega
theorem wminus_t (a b : Int) : Triple P0 89 [wid a, wid b] [] (wid (a - b)) [] := by
 refine eisen_wide_minus_triple rfl (by decide) ?_
 simp only [eisen_wide_minus_pc, wid, push_cast, ↓reduceIte, reduceCtorEq, zB, zE, zA, zS, zL, zD, zM]
 refine ⟨by omega, wid_eq ?_ ?_⟩
 ·simp only [IntKind.wrap_i64]; omega
 ·omega
theorem wshort_t (a : Int) (h : -170141183460469231731687303715884105728 ≤ a ∧ a < 170141183460469231731687303715884105728) : Triple P0 90 [wid a] [] (sm a) [] := by
 refine eisen_wide_short_triple rfl (by decide) ?_
 simp only [eisen_wide_short_pc, wid, push_cast, ↓reduceIte, reduceCtorEq, zB, zE, zA, zS, zL, zD, zM]
 rw [IntKind.wrap_i64, IntKind.wrap_i64]
 have hn : in64 a → (a % 18446744073709551616 + 9223372036854775808) % 18446744073709551616 - 9223372036854775808 = a := by unfold in64; omega
 have hh : (a / 18446744073709551616 + 9223372036854775808) % 18446744073709551616 - 9223372036854775808 = a / 18446744073709551616 := by omega
 rw [hh]
 have h0 : a / 18446744073709551616 = 0 → (a % 18446744073709551616 + 9223372036854775808) % 18446744073709551616 - 9223372036854775808 ≥ 0 → in64 a := by unfold in64; omega
 have h1 : a / 18446744073709551616 = -1 → (a % 18446744073709551616 + 9223372036854775808) % 18446744073709551616 - 9223372036854775808 < 0 → in64 a := by unfold in64; omega
 have h2 : in64 a → (a / 18446744073709551616 = 0 ∧ (a % 18446744073709551616 + 9223372036854775808) % 18446744073709551616 - 9223372036854775808 ≥ 0) ∨ (a / 18446744073709551616 = -1 ∧ (a % 18446744073709551616 + 9223372036854775808) % 18446744073709551616 - 9223372036854775808 < 0) := by unfold in64; omega
 generalize a / 18446744073709551616 = q at *
 generalize (a % 18446744073709551616 + 9223372036854775808) % 18446744073709551616 - 9223372036854775808 = n at *
 refine ⟨by simp +contextual, by simp +contextual; omega, cnd_mk (fun hc => ?_) (fun hc => ?_)⟩
 ·simp only [push_cast, ↓reduceIte, reduceCtorEq, zB, zE, zA, zS, zL, zD, zM]
  have hy : in64 a := by
   by_cases c1 : n < 0
   ·by_cases c2 : q = -1
    ·exact h1 c2 c1
    ·simp [c1, c2] at hc; omega
   ·by_cases c2 : q = 0
    ·exact h0 c2 (by omega)
    ·simp [c1, c2] at hc
  exact sm_yes (hn hy) hy
 ·simp only [push_cast, ↓reduceIte, reduceCtorEq, zB, zE, zA, zS, zL, zD, zM]
  refine sm_no fun hy => ?_
  rcases h2 hy with ⟨e1, e2⟩ | ⟨e1, e2⟩
  ·simp [e1, e2] at hc
  ·simp [e1, e2] at hc
theorem mod_neg {a : Int} (ha : in64 a) : IntKind.u64.wrap a = if a < 0 then a + 18446744073709551616 else a := by
 unfold in64 at ha
 rw [IntKind.wrap_u64]
 split <;> omega
theorem wtimes_t (a b : Int) (ha : in64 a) (hb : in64 b) : Triple P0 88 [int .i64 a, int .i64 b] [] (wid (a * b)) [] := by
 refine eisen_times_triple rfl (by decide) ?_
 simp only [eisen_times_pc, push_cast, ↓reduceIte, reduceCtorEq, zB, zE, zA, zS, zL, zD, zM]
 have ha' := ha
 have hb' := hb
 unfold in64 at ha' hb'
 have hu : ∀ x : Int, in64 x → ((IntKind.u64.wrap x).toNat : Int) = if x < 0 then x + 18446744073709551616 else x := fun x hx => by
  rw [mod_neg hx]
  unfold in64 at hx
  split <;> omega
 have hu0 : ∀ x : Int, in64 x → (IntKind.u64.wrap x).toNat < 18446744073709551616 := fun x hx => by
  rw [mod_neg hx]
  unfold in64 at hx
  split <;> omega
 refine call_as (as' := [int .u64 (IntKind.u64.wrap a).toNat, int .u64 (IntKind.u64.wrap b).toNat]) (by rw [hu a ha, hu b hb, mod_neg ha, mod_neg hb]) ?_
 refine call_mk (mul64_t _ _ (hu0 a ha) (hu0 b hb)) rfl trivial ?_
 simp only [push_cast, ↓reduceIte, reduceCtorEq, zB, zE, zA, zS, zL, zD, zM]
 have hp : ((IntKind.u64.wrap a).toNat : Int) * ((IntKind.u64.wrap b).toNat : Int) = a * b + (if a < 0 then b * 18446744073709551616 else 0) + (if b < 0 then a * 18446744073709551616 else 0) + (if a < 0 then if b < 0 then 340282366920938463463374607431768211456 else 0 else 0) := by
  rw [hu a ha, hu b hb]
  split <;> split <;> (try simp only [Int.add_mul, zcc]) <;> omega
 rw [hp]
 generalize a * b = m
 refine cnd_mk (fun h1 => ?_) (fun h1 => ?_) <;> simp only [push_cast, ↓reduceIte, reduceCtorEq, zB, zE, zA, zS, zL, zD, zM] <;> refine cnd_mk (fun h2 => ?_) (fun h2 => ?_) <;> simp only [push_cast, ↓reduceIte, reduceCtorEq, zB, zE, zA, zS, zL, zD, zM]
 all_goals
  simp only [decide_eq_true_eq, decide_eq_false_iff_not] at h1 h2
  simp only [h1, h2, if_true, if_false]
  refine wid_eq ?_ ?_
  ·simp only [IntKind.wrap_i64]; omega
  ·omega
theorem both_t (a b : Int) : Triple P0 91 [int .i64 a, bl true, int .i64 b, bl true] [] (.tup [Ei.v ⟨a, b⟩, bl true]) [] := by
 refine eisen_both_triple rfl (by decide) ?_
 simp only [eisen_both_pc, Ei.v, Ei.rv, push_cast, ↓reduceIte, reduceCtorEq, zB, zE, zA, zS, zL, zD, zM]
abbrev M62 : Int := 4611686018427387904
abbrev M63 : Int := 9223372036854775807
theorem Ei.In.ok {z : Ei} (h : z.In M63) : in64 z.a ∧ in64 z.b := by unfold Ei.In M63 at h; unfold in64; omega
theorem p124 {x y : Ei} (hx : x.In 4611686018427387904) (hy : y.In 4611686018427387904) : (-21267647932558653966460912964485513216 ≤ x.a * y.a ∧ x.a * y.a ≤ 21267647932558653966460912964485513216) ∧ (-21267647932558653966460912964485513216 ≤ x.a * y.b ∧ x.a * y.b ≤ 21267647932558653966460912964485513216) ∧ (-21267647932558653966460912964485513216 ≤ x.b * y.a ∧ x.b * y.a ≤ 21267647932558653966460912964485513216) ∧ (-21267647932558653966460912964485513216 ≤ x.b * y.b ∧ x.b * y.b ≤ 21267647932558653966460912964485513216) :=
 ⟨mul_in hx.1 hy.1, mul_in hx.1 hy.2, mul_in hx.2 hy.1, mul_in hx.2 hy.2⟩
theorem emul_t (x y : Ei) (hx : x.In 4611686018427387904) (hy : y.In 4611686018427387904) (hz : (x.mul y).In M63) : Triple P0 52 [x.v, y.v] [] (.tup [(x.mul y).v, bl true]) [] := by
 refine eisen_Mul_triple rfl (by decide) ?_
 have hz1 := hz.ok.1
 have hz2 := hz.ok.2
 simp only [Ei.mul] at hz1 hz2
 simp only [eisen_Mul_pc, Ei.v, Ei.rv, push_cast, ↓reduceIte, reduceCtorEq, zB, zE, zA, zS, zL, zD, zM]
 have hx1 : in64 x.a ∧ in64 x.b := by unfold Ei.In at hx; unfold in64; omega
 have hy1 : in64 y.a ∧ in64 y.b := by unfold Ei.In at hy; unfold in64; omega
 refine call_mk (wtimes_t x.b y.b hx1.2 hy1.2) rfl trivial ?_
 simp only [wid, push_cast, ↓reduceIte, reduceCtorEq, zB, zE, zA, zS, zL, zD, zM]
 refine dcall_mk (wtimes_t x.a y.a hx1.1 hy1.1) rfl trivial ?_
 simp only [wid, push_cast, ↓reduceIte, reduceCtorEq, zB, zE, zA, zS, zL, zD, zM]
 refine dcall_as (as' := [wid (x.a * y.a), wid (x.b * y.b)]) rfl ?_
 refine dcall_mk (wminus_t _ _) rfl trivial ?_
 simp only [wid, push_cast, ↓reduceIte, reduceCtorEq, zB, zE, zA, zS, zL, zD, zM]
 refine dcall_as (as' := [wid (x.a * y.a - x.b * y.b)]) rfl ?_
 refine dcall_mk (wshort_t _ ?_) rfl trivial ?_
 ·have := p124 hx hy
  omega
 simp only [sm, hz1, if_pos, push_cast, ↓reduceIte, reduceCtorEq, zB, zE, zA, zS, zL, zD, zM]
 refine And.intro (by kernel_rfl) ?_
 refine dcall_mk (wtimes_t x.a y.b hx1.1 hy1.2) rfl trivial ?_
 simp only [wid, push_cast, ↓reduceIte, reduceCtorEq, zB, zE, zA, zS, zL, zD, zM]
 refine dcall_mk (wtimes_t x.b y.a hx1.2 hy1.1) rfl trivial ?_
 simp only [wid, push_cast, ↓reduceIte, reduceCtorEq, zB, zE, zA, zS, zL, zD, zM]
 refine And.intro (by kernel_rfl) ?_
 refine dcall_as (as' := [wid (x.a * y.b), wid (x.b * y.a)]) rfl ?_
 refine dcall_mk (wplus_t _ _) rfl trivial ?_
 simp only [wid, push_cast, ↓reduceIte, reduceCtorEq, zB, zE, zA, zS, zL, zD, zM]
 refine And.intro (by kernel_rfl) ?_
 refine dcall_as (as' := [wid (x.a * y.b + x.b * y.a), wid (x.b * y.b)]) rfl ?_
 refine dcall_mk (wplus_t _ _) rfl trivial ?_
 simp only [wid, push_cast, ↓reduceIte, reduceCtorEq, zB, zE, zA, zS, zL, zD, zM]
 refine dcall_as (as' := [wid (x.a * y.b + x.b * y.a + x.b * y.b)]) rfl ?_
 refine dcall_mk (wshort_t _ ?_) rfl trivial ?_
 ·have := p124 hx hy
  omega
 simp only [sm, hz2, if_pos, push_cast, ↓reduceIte, reduceCtorEq, zB, zE, zA, zS, zL, zD, zM]
 refine And.intro (by kernel_rfl) ?_
 refine call_mk (both_t _ _) rfl trivial ?_
 simp only [Ei.v, Ei.rv, Ei.mul, push_cast, ↓reduceIte, reduceCtorEq, zB, zE, zA, zS, zL, zD, zM]

noncomputable def eisen_sides_pc : PC :=
  (.seq (.reg [p_a 3 (.box (.t 0)), p_a 4 (.box (.t 1)), p_a 6 (.new [(.r (.v (.int .i64 0))), (.r (.v (.int .i64 0)))]), p_s 7 (.mov (.c (.r (.v (.bool false)))))])
 (.seq (.reg [p_m 13 2, p_s 14 (.fa 0 (.t 3)), p_s 15 (.ld none (.t 14)), p_s 16 (.fa 0 (.t 4)), p_s 17 (.ld none (.t 16)), ⟨(some 18), none, 1, .callv (.t 13) [(.t 15), (.t 17)]⟩,
 p_m 12 18, p_s 19 (.ext (.t 12) 0), p_s 20 (.ext (.t 12) 1), p_m 8 19, p_m 9 20])
 (.seq (.reg [p_m 22 2, p_s 23 (.fa 1 (.t 3)), p_s 24 (.ld none (.t 23)), p_s 25 (.fa 1 (.t 4)), p_s 26 (.ld none (.t 25)), ⟨(some 27), none, 2, .callv (.t 22) [(.t 24), (.t 26)]⟩,
 p_m 21 27, p_s 28 (.ext (.t 21) 0), p_s 29 (.ext (.t 21) 1), p_m 10 28, p_m 11 29])
 (.seq (.reg [p_m 30 8, p_m 31 9, p_m 32 10, p_m 33 11, p_c 34 3 91 [.t 30, .t 31, .t 32, .t 33], p_s 35 (.ext (.t 34) 0), p_s 36 (.ext (.t 34) 1), ⟨none, none, 0, .act (.st 2 (.t 6) (.t 35))⟩,
 p_m 7 36])
 .ret))))
theorem eisen_sides_triple : Fun P0 92 3 [(6, false, some (53, (some 2))), (7, false, none)] eisen_sides_pc := fun_mk Go.Proofs.Tryz.func92 rfl (by decide) (by kernel_rfl) (by decide) rfl (by kernel_rfl) (by kernel_rfl) (by decide)
noncomputable def eisen_Add_pc : PC :=
  (.seq (.reg [p_a 2 (.box (.t 0)), p_a 3 (.box (.t 1)), p_a 4 (.new [(.r (.v (.int .i64 0))), (.r (.v (.int .i64 0)))]), p_s 5 (.mov (.c (.r (.v (.bool false)))))])
 (.seq (.reg [p_s 6 (.ld (some 2) (.t 2)), p_s 7 (.ld (some 2) (.t 3)), p_c 8 1 92 [(.t 6), (.t 7), (.c (.fn (.func 93) []))], p_s 9 (.ext (.t 8) 0), p_s 10 (.ext (.t 8) 1), ⟨none, none, 0, .act (.st 2 (.t 4) (.t 9))⟩,
 p_m 5 10])
 .ret))
theorem eisen_Add_triple : Fun P0 53 2 [(4, false, some (53, (some 2))), (5, false, none)] eisen_Add_pc := fun_mk Go.Proofs.Tryz.func53 rfl (by decide) (by kernel_rfl) (by decide) rfl (by kernel_rfl) (by kernel_rfl) (by decide)
noncomputable def eisen_Sub_pc : PC :=
  (.seq (.reg [p_a 2 (.box (.t 0)), p_a 3 (.box (.t 1)), p_a 4 (.new [(.r (.v (.int .i64 0))), (.r (.v (.int .i64 0)))]), p_s 5 (.mov (.c (.r (.v (.bool false)))))])
 (.seq (.reg [p_s 6 (.ld (some 2) (.t 2)), p_s 7 (.ld (some 2) (.t 3)), p_c 8 1 92 [(.t 6), (.t 7), (.c (.fn (.func 182) []))], p_s 9 (.ext (.t 8) 0), p_s 10 (.ext (.t 8) 1),
 ⟨none, none, 0, .act (.st 2 (.t 4) (.t 9))⟩, p_m 5 10])
 .ret))
theorem eisen_Sub_triple : Fun P0 180 2 [(4, false, some (53, (some 2))), (5, false, none)] eisen_Sub_pc := fun_mk Go.Proofs.Tryz.func180 rfl (by decide) (by kernel_rfl) (by decide) rfl (by kernel_rfl) (by kernel_rfl) (by decide)
noncomputable def eisen_Conj_pc : PC :=
  (.seq (.reg [p_a 1 (.box (.t 0)), p_a 2 (.new [(.r (.v (.int .i64 0))), (.r (.v (.int .i64 0)))]), p_s 3 (.mov (.c (.r (.v (.bool false)))))])
 (.seq (.reg [p_s 9 (.fa 0 (.t 1)), p_s 10 (.ld none (.t 9)), p_s 11 (.fa 1 (.t 1)), p_s 12 (.ld none (.t 11)), p_c 13 1 93 [.t 10, .t 12], p_m 8 13, p_s 14 (.ext (.t 8) 0), p_s 15 (.ext (.t 8) 1),
 p_m 4 14, p_m 5 15])
 (.seq (.reg [p_s 17 (.fa 1 (.t 1)), p_s 18 (.ld none (.t 17)), p_c 19 2 179 [.t 18], p_m 16 19, p_s 20 (.ext (.t 16) 0), p_s 21 (.ext (.t 16) 1), p_m 6 20, p_m 7 21])
 (.seq (.reg [p_m 22 4, p_m 23 5, p_m 24 6, p_m 25 7, p_c 26 3 91 [.t 22, .t 23, .t 24, .t 25], p_s 27 (.ext (.t 26) 0), p_s 28 (.ext (.t 26) 1), ⟨none, none, 0, .act (.st 2 (.t 2) (.t 27))⟩,
 p_m 3 28])
 .ret))))
theorem eisen_Conj_triple : Fun P0 167 1 [(2, false, some (53, (some 2))), (3, false, none)] eisen_Conj_pc := fun_mk Go.Proofs.Tryz.func167 rfl (by decide) (by kernel_rfl) (by decide) rfl (by kernel_rfl) (by kernel_rfl) (by decide)
noncomputable def eisen_Unit_pc : PC :=
  (.seq (.reg [p_a 2 (.new [(.r (.v (.int .i64 0))), (.r (.v (.int .i64 0)))])])
 (.seq (.reg [p_s 4 (.build [(.r (.v (.int .i64 0))), (.r (.v (.int .i64 0)))] [(0, 1, (o_i 1))]), p_s 5 (.build [(.r (.v (.int .i64 0))), (.r (.v (.int .i64 0)))] [(1, 1, (o_i 1))]),
 p_s 6 (.build [(.r (.v (.int .i64 0))), (.r (.v (.int .i64 0)))] [(0, 1, (o_i (-1))), (1, 1, (o_i 1))]), p_s 7 (.build [(.r (.v (.int .i64 0))), (.r (.v (.int .i64 0)))] [(0, 1, (o_i (-1)))]),
 p_s 8 (.build [(.r (.v (.int .i64 0))), (.r (.v (.int .i64 0)))] [(1, 1, (o_i (-1)))]), p_s 9 (.build [(.r (.v (.int .i64 0))), (.r (.v (.int .i64 0)))] [(0, 1, (o_i 1)), (1, 1, (o_i (-1)))]),
 p_s 10 (.build [(.r (.v (.int .i64 0))), (.r (.v (.int .i64 0))), (.r (.v (.int .i64 0))), (.r (.v (.int .i64 0))), (.r (.v (.int .i64 0))), (.r (.v (.int .i64 0))), (.r (.v (.int .i64 0))), (.r (.v (.int .i64 0))), (.r (.v (.int .i64 0))), (.r (.v (.int .i64 0))), (.r (.v (.int .i64 0))), (.r (.v (.int .i64 0)))] [(0, 2, (.t 4)), (2, 2, (.t 5)), (4, 2, (.t 6)), (6, 2, (.t 7)), (8, 2, (.t 8)), (10, 2, (.t 9))]),
 p_a 3 (.new [(.r (.v (.int .i64 0))), (.r (.v (.int .i64 0))), (.r (.v (.int .i64 0))), (.r (.v (.int .i64 0))), (.r (.v (.int .i64 0))), (.r (.v (.int .i64 0))), (.r (.v (.int .i64 0))), (.r (.v (.int .i64 0))), (.r (.v (.int .i64 0))), (.r (.v (.int .i64 0))), (.r (.v (.int .i64 0))), (.r (.v (.int .i64 0)))]),
 ⟨none, none, 0, .act (.st 12 (.t 3) (.t 10))⟩])
 (.seq (.reg [p_m 11 0, p_s 12 (.bin .rem (.t 11) (o_i 6)), p_s 13 (.bin .add (.t 12) (o_i 6)), p_s 14 (.bin .rem (.t 13) (o_i 6)), p_s 15 (.iaa 6 2 (.t 3) (.t 14)), p_s 16 (.ld (some 2) (.t 15)),
 ⟨none, none, 0, .act (.st 2 (.t 2) (.t 16))⟩])
 .ret)))
theorem eisen_Unit_triple : Fun P0 54 1 [(2, false, some (53, (some 2)))] eisen_Unit_pc := fun_mk Go.Proofs.Tryz.func54 rfl (by decide) (by kernel_rfl) (by decide) rfl (by kernel_rfl) (by kernel_rfl) (by decide)
noncomputable def eisen_Beta_pc : PC :=
  (.seq (.reg [p_a 2 (.new [(.r (.v (.int .i64 0))), (.r (.v (.int .i64 0)))]), p_s 3 (.mov (.c (.r (.v (.bool false)))))])
 (.seq (.seq (.reg [p_m 6 0, p_s 7 (.bin .lss (.t 6) (o_i 0)), p_m 8 7, p_g 9 8 false (.mov (.t 0)), p_g 10 8 false (.bin .gtr (.t 9) (o_i 20)), p_s 11 (.pick (.t 8) (.c (.r (.v (.bool true)))) (.t 10))])
 (.cond (.t 11)
 (.seq (.reg [p_s 12 (.build [(.r (.v (.int .i64 0))), (.r (.v (.int .i64 0)))] []), ⟨none, none, 0, .act (.st 2 (.t 2) (.t 12))⟩, p_s 3 (.mov (.c (.r (.v (.bool false)))))])
 .ret)
 .skip))
 (.seq (.reg [p_s 13 (.build [(.r (.v (.int .i64 0))), (.r (.v (.int .i64 0)))] [(0, 1, (o_i 1))]), p_a 4 (.new [(.r (.v (.int .i64 0))), (.r (.v (.int .i64 0)))]), ⟨none, none, 0, .act (.st 2 (.t 4) (.t 13))⟩,
 p_s 5 (.mov (.c (.r (.v (.bool true)))))])
 (.seq (.seq (.reg [p_m 14 0, p_s 15 (.mov (o_i 0))])
 (.block 0 (.loop (.seq (.reg [p_s 16 (.bin .lss (.t 15) (.t 14))])
 (.seq (.cond (.t 16)
 .skip
 (.exit 0))
 (.seq (.block 1 (.seq (.reg [p_s 18 (.ld (some 2) (.t 4)), p_s 19 (.build [(.r (.v (.int .i64 0))), (.r (.v (.int .i64 0)))] [(0, 1, (o_i 2)), (1, 1, (o_i 1))]), p_c 20 1 52 [.t 18, .t 19],
 p_m 17 20, p_s 21 (.ext (.t 17) 0), p_s 22 (.ext (.t 17) 1), ⟨none, none, 0, .act (.st 2 (.t 4) (.t 21))⟩, p_m 5 22])
 (.seq (.reg [p_m 23 5, p_s 24 (.un .not (.t 23))])
 (.cond (.t 24)
 (.seq (.reg [p_s 25 (.build [(.r (.v (.int .i64 0))), (.r (.v (.int .i64 0)))] []), ⟨none, none, 0, .act (.st 2 (.t 2) (.t 25))⟩, p_s 3 (.mov (.c (.r (.v (.bool false)))))])
 .ret)
 .skip))))
 (.reg [p_s 26 (.bin .add (.t 15) (o_i 1)), p_m 15 26])))))))
 (.seq (.reg [p_s 27 (.ld (some 2) (.t 4)), ⟨none, none, 0, .act (.st 2 (.t 2) (.t 27))⟩, p_s 3 (.mov (.c (.r (.v (.bool true)))))])
 .ret)))))
theorem eisen_Beta_triple : Fun P0 56 1 [(2, false, some (53, (some 2))), (3, false, none)] eisen_Beta_pc := fun_mk Go.Proofs.Tryz.func56 rfl (by decide) (by kernel_rfl) (by decide) rfl (by kernel_rfl) (by kernel_rfl) (by decide)
noncomputable def num_Within_pc : PC :=
  (.seq (.reg [p_s 4 (.mov (.c (.r (.v (.bool false)))))])
 (.seq (.reg [p_m 5 0, p_m 6 1, p_s 7 (.un .neg (.t 6)), p_s 8 (.bin .geq (.t 5) (.t 7)), p_m 9 8, p_g 10 9 true (.mov (.t 0)), p_g 11 9 true (.mov (.t 1)), p_g 12 9 true (.bin .leq (.t 10) (.t 11)),
 p_s 13 (.pick (.t 9) (.t 12) (.c (.r (.v (.bool false))))), p_m 14 13, p_g 15 14 true (.mov (.t 0)), p_g 16 14 true (.bin .neq (.t 15) (o_i (-9223372036854775808))),
 p_s 17 (.pick (.t 14) (.t 16) (.c (.r (.v (.bool false))))), p_m 4 17])
 .ret))
theorem num_Within_triple : Fun P0 94 2 [(4, false, none)] num_Within_pc := fun_mk Go.Proofs.Tryz.func94 rfl (by decide) (by kernel_rfl) (by decide) rfl (by kernel_rfl) (by kernel_rfl) (by decide)
noncomputable def eisen_Round_pc : PC :=
  (.seq (.reg [p_a 2 (.box (.t 0)), p_a 4 (.new [(.r (.v (.int .i64 0))), (.r (.v (.int .i64 0)))]), p_s 5 (.mov (.c (.r (.v (.bool false)))))])
 (.seq (.seq (.reg [p_m 18 1, p_s 19 (.bin .lss (.t 18) (o_i 1)), p_m 20 19, p_g 21 20 false (.mov (.t 1)), p_g 22 20 false (.bin .gtr (.t 21) (o_i 1125899906842624)), p_s 23 (.pick (.t 20) (.c (.r (.v (.bool true)))) (.t 22)),
 p_m 24 23, p_g 25 24 false (.fa 0 (.t 2)), p_g 26 24 false (.ld none (.t 25)), ⟨(some 27), (some (24, false)), 1, .call 94 [(.t 26), (o_i 1152921504606846976)]⟩,
 p_g 28 24 false (.un .not (.t 27)), p_s 29 (.pick (.t 24) (.c (.r (.v (.bool true)))) (.t 28)), p_m 30 29, p_g 31 30 false (.fa 1 (.t 2)), p_g 32 30 false (.ld none (.t 31)),
 ⟨(some 33), (some (30, false)), 2, .call 94 [(.t 32), (o_i 1152921504606846976)]⟩, p_g 34 30 false (.un .not (.t 33)), p_s 35 (.pick (.t 30) (.c (.r (.v (.bool true)))) (.t 34))])
 (.cond (.t 35)
 (.seq (.reg [p_s 36 (.build [(.r (.v (.int .i64 0))), (.r (.v (.int .i64 0)))] []), ⟨none, none, 0, .act (.st 2 (.t 4) (.t 36))⟩, p_s 5 (.mov (.c (.r (.v (.bool false)))))])
 .ret)
 .skip))
 (.seq (.reg [p_s 38 (.fa 0 (.t 2)), p_s 39 (.ld none (.t 38)), p_m 40 1, p_c 41 3 66 [.t 39, .t 40], p_m 37 41, p_s 42 (.ext (.t 37) 0), p_s 43 (.ext (.t 37) 1), p_s 44 (.ext (.t 37) 2),
 p_m 6 42, p_m 7 43, p_m 8 44])
 (.seq (.reg [p_s 46 (.fa 1 (.t 2)), p_s 47 (.ld none (.t 46)), p_m 48 1, p_c 49 4 66 [.t 47, .t 48], p_m 45 49, p_s 50 (.ext (.t 45) 0), p_s 51 (.ext (.t 45) 1), p_s 52 (.ext (.t 45) 2),
 p_m 9 50, p_m 10 51, p_m 11 52])
 (.seq (.reg [p_s 53 (.build [(.r (.v (.int .i64 0))), (.r (.v (.int .i64 0)))] []), p_a 13 (.new [(.r (.v (.int .i64 0))), (.r (.v (.int .i64 0)))]), p_s 12 (.mov (o_i 0)), ⟨none, none, 0, .act (.st 2 (.t 13) (.t 53))⟩])
 (.seq (.seq (.reg [p_s 54 (.build [(.r (.v (.int .i64 0))), (.r (.v (.int .i64 0)))] [(1, 1, (o_i 1))]), p_s 55 (.build [(.r (.v (.int .i64 0))), (.r (.v (.int .i64 0)))] [(0, 1, (o_i 1))]),
 p_s 56 (.build [(.r (.v (.int .i64 0))), (.r (.v (.int .i64 0)))] [(0, 1, (o_i 1)), (1, 1, (o_i 1))]), p_a 57 (.bsl 2 (.agg [(.v (.int .i64 0)), (.v (.int .i64 0))]) [(.t 54), (.t 55), (.t 56)]),
 p_s 58 (.len false (.t 57)), p_s 59 (.mov (o_i 0))])
 (.block 0 (.loop (.seq (.reg [p_s 60 (.bin .lss (.t 59) (.t 58))])
 (.seq (.cond (.t 60)
 .skip
 (.exit 0))
 (.seq (.block 1 (.seq (.reg [p_s 61 (.ia 2 (.agg [(.v (.int .i64 0)), (.v (.int .i64 0))]) (.t 57) (.t 59)), p_s 62 (.ld (some 2) (.t 61)), p_a 15 (.new [(.r (.v (.int .i64 0))), (.r (.v (.int .i64 0)))]),
 ⟨none, none, 0, .act (.st 2 (.t 15) (.t 62))⟩])
 (.seq (.reg [p_s 63 (.fa 0 (.t 15)), p_s 64 (.ld none (.t 63)), p_s 65 (.fa 0 (.t 15)), p_s 66 (.ld none (.t 65)), p_s 67 (.bin .mul (.t 64) (.t 66)), p_s 68 (.fa 0 (.t 15)),
 p_s 69 (.ld none (.t 68)), p_s 70 (.fa 1 (.t 15)), p_s 71 (.ld none (.t 70)), p_s 72 (.bin .mul (.t 69) (.t 71)), p_s 73 (.bin .add (.t 67) (.t 72)), p_s 74 (.fa 1 (.t 15)),
 p_s 75 (.ld none (.t 74)), p_s 76 (.fa 1 (.t 15)), p_s 77 (.ld none (.t 76)), p_s 78 (.bin .mul (.t 75) (.t 77)), p_s 79 (.bin .add (.t 73) (.t 78)), p_m 16 79])
 (.seq (.reg [p_m 80 1, p_m 81 16, p_s 82 (.bin .mul (.t 80) (.t 81)), p_s 83 (.fa 0 (.t 15)), p_s 84 (.ld none (.t 83)), p_m 85 7, p_s 86 (.bin .mul (o_i 2) (.t 85)), p_m 87 10,
 p_s 88 (.bin .add (.t 86) (.t 87)), p_s 89 (.bin .mul (.t 84) (.t 88)), p_s 90 (.bin .sub (.t 82) (.t 89)), p_s 91 (.fa 1 (.t 15)), p_s 92 (.ld none (.t 91)), p_m 93 7,
 p_m 94 10, p_s 95 (.bin .mul (o_i 2) (.t 94)), p_s 96 (.bin .add (.t 93) (.t 95)), p_s 97 (.bin .mul (.t 92) (.t 96)), p_s 98 (.bin .sub (.t 90) (.t 97)), p_m 17 98])
 (.seq (.reg [p_m 99 17, p_m 100 12, p_s 101 (.bin .lss (.t 99) (.t 100))])
 (.cond (.t 101)
 (.drw [p_m 102 17, p_s 103 (.ld (some 2) (.t 15)), p_m 12 102, ⟨none, none, 0, .act (.st 2 (.t 13) (.t 103))⟩]
 [[], [], [0], [0, 1, 2]])
 .skip))))))
 (.reg [p_s 104 (.bin .add (.t 59) (o_i 1)), p_m 59 104])))))))
 (.seq (.reg [p_m 105 6, p_s 106 (.fa 0 (.t 13)), p_s 107 (.ld none (.t 106)), p_s 108 (.bin .add (.t 105) (.t 107)), p_m 109 9, p_s 110 (.fa 1 (.t 13)), p_s 111 (.ld none (.t 110)),
 p_s 112 (.bin .add (.t 109) (.t 111)), p_s 113 (.build [(.r (.v (.int .i64 0))), (.r (.v (.int .i64 0)))] [(0, 1, (.t 108)), (1, 1, (.t 112))]), ⟨none, none, 0, .act (.st 2 (.t 4) (.t 113))⟩,
 p_s 5 (.mov (.c (.r (.v (.bool true)))))])
 .ret)))))))
theorem eisen_Round_triple : Fun P0 168 2 [(4, false, some (53, (some 2))), (5, false, none)] eisen_Round_pc := fun_mk Go.Proofs.Tryz.func168 rfl (by decide) (by kernel_rfl) (by decide) rfl (by kernel_rfl) (by kernel_rfl) (by decide)
theorem sm_in {x : Int} (h : in64 x) : sm x = .tup [int .i64 x, bl true] := by simp [sm, h]
theorem eadd_t (x y : Ei) (hx : x.In M63) (hy : y.In M63) (hz : (x.add y).In M63) : Triple P0 53 [x.v, y.v] [] (.tup [(x.add y).v, bl true]) [] := by
 have hs : Triple P0 92 [x.v, y.v, .fn (.func 93) []] [] (.tup [(x.add y).v, bl true]) [] := by
  refine eisen_sides_triple rfl (by decide) ?_
  simp only [eisen_sides_pc, Ei.v, Ei.rv, push_cast, ↓reduceIte, reduceCtorEq, zB, zE, zA, zS, zL, zD, zM]
  refine ⟨by kernel_rfl, ?_⟩
  refine call_mk (add_t _ _ hx.ok.1 hy.ok.1) rfl trivial ?_
  rw [sm_in (show in64 (x.a + y.a) from hz.ok.1)]
  simp only [push_cast, ↓reduceIte, reduceCtorEq, zB, zE, zA, zS, zL, zD, zM]
  refine ⟨by kernel_rfl, ?_⟩
  refine call_mk (add_t _ _ hx.ok.2 hy.ok.2) rfl trivial ?_
  rw [sm_in (show in64 (x.b + y.b) from hz.ok.2)]
  simp only [push_cast, ↓reduceIte, reduceCtorEq, zB, zE, zA, zS, zL, zD, zM]
  refine call_mk (both_t _ _) rfl trivial ?_
  simp only [Ei.v, Ei.rv, Ei.add, push_cast, ↓reduceIte, reduceCtorEq, zB, zE, zA, zS, zL, zD, zM]
 refine eisen_Add_triple rfl (by decide) ?_
 simp only [eisen_Add_pc, Ei.v, Ei.rv, push_cast, ↓reduceIte, reduceCtorEq, zB, zE, zA, zS, zL, zD, zM]
 refine call_as (as' := [x.v, y.v, .fn (.func 93) []]) rfl ?_
 refine call_mk hs rfl trivial ?_
 simp only [Ei.v, Ei.rv, Ei.add, push_cast, ↓reduceIte, reduceCtorEq, zB, zE, zA, zS, zL, zD, zM]
theorem esub_t (x y : Ei) (hx : x.In M63) (hy : y.In M63) (hz : (x.sub y).In M63) : Triple P0 180 [x.v, y.v] [] (.tup [(x.sub y).v, bl true]) [] := by
 have hs : Triple P0 92 [x.v, y.v, .fn (.func 182) []] [] (.tup [(x.sub y).v, bl true]) [] := by
  refine eisen_sides_triple rfl (by decide) ?_
  simp only [eisen_sides_pc, Ei.v, Ei.rv, push_cast, ↓reduceIte, reduceCtorEq, zB, zE, zA, zS, zL, zD, zM]
  refine ⟨by kernel_rfl, ?_⟩
  refine call_mk (sub_t _ _ hx.ok.1 hy.ok.1) rfl trivial ?_
  rw [sm_in (show in64 (x.a - y.a) from hz.ok.1)]
  simp only [push_cast, ↓reduceIte, reduceCtorEq, zB, zE, zA, zS, zL, zD, zM]
  refine ⟨by kernel_rfl, ?_⟩
  refine call_mk (sub_t _ _ hx.ok.2 hy.ok.2) rfl trivial ?_
  rw [sm_in (show in64 (x.b - y.b) from hz.ok.2)]
  simp only [push_cast, ↓reduceIte, reduceCtorEq, zB, zE, zA, zS, zL, zD, zM]
  refine call_mk (both_t _ _) rfl trivial ?_
  simp only [Ei.v, Ei.rv, Ei.sub, push_cast, ↓reduceIte, reduceCtorEq, zB, zE, zA, zS, zL, zD, zM]
 refine eisen_Sub_triple rfl (by decide) ?_
 simp only [eisen_Sub_pc, Ei.v, Ei.rv, push_cast, ↓reduceIte, reduceCtorEq, zB, zE, zA, zS, zL, zD, zM]
 refine call_as (as' := [x.v, y.v, .fn (.func 182) []]) rfl ?_
 refine call_mk hs rfl trivial ?_
 simp only [Ei.v, Ei.rv, Ei.sub, push_cast, ↓reduceIte, reduceCtorEq, zB, zE, zA, zS, zL, zD, zM]
theorem econj_t (x : Ei) (hx : x.In 4611686018427387903) : Triple P0 167 [x.v] [] (.tup [x.conj.v, bl true]) [] := by
 refine eisen_Conj_triple rfl (by decide) ?_
 have h := hx
 unfold Ei.In at h
 simp only [eisen_Conj_pc, Ei.v, Ei.rv, push_cast, ↓reduceIte, reduceCtorEq, zB, zE, zA, zS, zL, zD, zM]
 refine call_mk (add_t _ _ (by unfold in64; omega) (by unfold in64; omega)) rfl trivial ?_
 rw [sm_in (by unfold in64; omega)]
 simp only [push_cast, ↓reduceIte, reduceCtorEq, zB, zE, zA, zS, zL, zD, zM]
 refine call_mk (neg_t _ (by unfold in64; omega)) rfl trivial ?_
 rw [sm_in (by unfold in64; omega)]
 simp only [push_cast, ↓reduceIte, reduceCtorEq, zB, zE, zA, zS, zL, zD, zM]
 refine call_mk (both_t _ _) rfl trivial ?_
 simp only [Ei.v, Ei.rv, Ei.conj, push_cast, ↓reduceIte, reduceCtorEq, zB, zE, zA, zS, zL, zD, zM]
theorem uni_0 : uni 0 = ⟨1, 0⟩ := rfl
theorem uni_1 : uni 1 = ⟨0, 1⟩ := rfl
theorem uni_2 : uni 2 = ⟨-1, 1⟩ := rfl
theorem uni_3 : uni 3 = ⟨-1, 0⟩ := rfl
theorem uni_4 : uni 4 = ⟨0, -1⟩ := rfl
theorem uni_5 : uni 5 = ⟨1, -1⟩ := rfl
theorem eunit_t (k : Int) (hk : 0 ≤ k ∧ k < 6) : Triple P0 54 [int .i64 k] [] (uni k.toNat).v [] := by
 refine eisen_Unit_triple rfl (by decide) ?_
 have hm : (IntKind.i64.wrap (Int.tmod k 6 + 6)).tmod 6 = k := by
  rw [zck hk.1, wrap_id (by omega), zck (by omega)]; omega
 simp only [eisen_Unit_pc, hm, Ei.v, Ei.rv, push_cast, ↓reduceIte, reduceCtorEq, zB, zE, zA, zS, zL, zD, zM]
 refine ⟨by decide, by decide, hk, by omega, ?_⟩
 rcases (show k = 0 ∨ k = 1 ∨ k = 2 ∨ k = 3 ∨ k = 4 ∨ k = 5 by omega) with rfl | rfl | rfl | rfl | rfl | rfl
 all_goals
  simp only [Int.reduceToNat, Nat.zero_mul, Nat.add_zero, Nat.zero_add, uni_0, uni_1, uni_2, uni_3, uni_4, uni_5, push_cast, ↓reduceIte, reduceCtorEq, zB, zE, zA, zS, zL, zD, zM]
  first | done | trace_state
theorem within_t (a m : Int) (ha : in64 a) (hm : 0 ≤ m ∧ m ≤ 4611686018427387904) : Triple P0 94 [int .i64 a, int .i64 m] [] (bl (decide (-m ≤ a ∧ a ≤ m))) [] := by
 refine num_Within_triple rfl (by decide) ?_
 simp only [num_Within_pc, push_cast, ↓reduceIte, reduceCtorEq, zB, zE, zA, zS, zL, zD, zM]
 rw [show IntKind.i64.wrap (0 - m) = -m by rw [wrap_id (by omega)]; omega]
 refine bl_iff ?_
 by_cases h1 : -m ≤ a <;> by_cases h2 : a ≤ m <;> by_cases h3 : a = -9223372036854775808 <;> simp [h1, h2, h3]
 all_goals omega
theorem ebeta_t (k : Int) (hk : 0 ≤ k ∧ k ≤ 12) : Triple P0 56 [int .i64 k] [] (.tup [(betaN k.toNat).v, bl true]) [] := by
 refine eisen_Beta_triple rfl (by decide) ?_
 have c1 : decide (k < 0) = false := by simp; omega
 have c2 : decide (k > 20) = false := by simp; omega
 simp only [eisen_Beta_pc, c1, c2, push_cast, ↓reduceIte, reduceCtorEq, zB, zE, zA, zS, zL, zD, zM]
 refine run_loop [(14, false), (15, false), (2, false), (3, false), (4, false), (5, false)] (fun vs pos los => ∃ i : Int, 0 ≤ i ∧ i ≤ k ∧ vs = [int .i64 k, int .i64 i, .ptr 2000000 0 0, bl false, .ptr 2000001 0 0, bl true] ∧ pos = [] ∧ los = [.box [int .i64 0, int .i64 0], .box [int .i64 (betaN i.toNat).a, int .i64 (betaN i.toNat).b]])
  (fun vs _ _ => match vs with | [_, .r (.v (.int _ j)), _, _, _, _] => (k - j).toNat | _ => 0) rfl ?_ ?_
 ·simp only [push_cast, ↓reduceIte, reduceCtorEq, zB, zE, zA, zS, zL, zD, zM]
  exact ⟨0, by omega, by omega, rfl, rfl⟩
 ·rintro vs pos los ⟨i, i0, ik, rfl, rfl, rfl⟩
  simp only [push_cast, ↓reduceIte, reduceCtorEq, zB, zE, zA, zS, zL, zD, zM]
  refine cnd_mk (fun h => ?_) (fun h => ?_)
  ·simp only [decide_eq_true_eq] at h
   simp only [push_cast, ↓reduceIte, reduceCtorEq, zB, zE, zA, zS, zL, zD, zM]
   have h1 := betaN_in i.toNat (by omega)
   have h2 := betaN_in (i.toNat + 1) (by omega)
   refine call_as (as' := [(betaN i.toNat).v, beta.v]) rfl ?_
   refine call_mk (emul_t _ _ (h1.mono (by decide)) (by unfold Ei.In; decide) (h2.mono (by decide))) rfl trivial ?_
   simp only [Ei.v, Ei.rv, push_cast, ↓reduceIte, reduceCtorEq, zB, zE, zA, zS, zL, zD, zM]
   rw [show IntKind.i64.wrap (i + 1) = i + 1 from wrap_id (by omega)]
   refine ⟨⟨i + 1, by omega, by omega, rfl, ?_⟩, by omega⟩
   rw [show (i + 1).toNat = i.toNat + 1 by omega]
   rfl
  ·simp only [decide_eq_false_iff_not] at h
   have : i = k := by omega
   subst this
   simp only [Ei.v, Ei.rv, push_cast, ↓reduceIte, reduceCtorEq, zB, zE, zA, zS, zL, zD, zM]

def pkN (d a b : Int) (i : Nat) : Int × Ei := (cands.take i).foldl (pk d a b) (0, ⟨0, 0⟩)
theorem pkN_succ (d a b : Int) (i : Nat) (z : Ei) (h : cands[i]? = some z) : pkN d a b (i + 1) = pk d a b (pkN d a b i) z := by
 unfold pkN
 rw [List.take_add_one, h]
 simp
theorem pkN_end {d a b : Int} (ha : 0 ≤ a ∧ a < d) (hb : 0 ≤ b ∧ b < d) : (pkN d a b 3).2 = near0 d a b := near0_least ha hb
theorem pkN_in (d a b : Int) : ∀ i, (0 ≤ (pkN d a b i).2.a ∧ (pkN d a b i).2.a ≤ 1) ∧ (0 ≤ (pkN d a b i).2.b ∧ (pkN d a b i).2.b ≤ 1)
 | 0 => by simp [pkN]
 | i + 1 => by
  have ih := pkN_in d a b i
  rcases h : cands[i]? with _ | z
  ·have : pkN d a b (i + 1) = pkN d a b i := by unfold pkN; rw [List.take_add_one, h]; simp
   rw [this]; exact ih
  ·rw [pkN_succ d a b i z h]
   unfold pk
   split
   ·have : z ∈ cands := List.mem_of_getElem? h
    simp [cands] at this
    rcases this with rfl | rfl | rfl <;> simp
   ·exact ih
theorem div_in {a d n : Int} (h : -n ≤ a ∧ a ≤ n) (hd : 1 ≤ d) : -n ≤ a / d ∧ a / d ≤ n := by
 have h1 := zcj a d
 have h5 := zbx a (show 0 < d by omega)
 have h6 := zby a (show d ≠ 0 by omega)
 generalize a / d = q at *
 generalize a % d = r at *
 constructor
 ·rcases zcb q 0 with hq | hq
  ·have : d * (q + 1) ≤ 1 * (q + 1) := Int.mul_le_mul_of_nonpos_right (by omega) (by omega)
   rw [zcc] at this
   omega
  ·omega
 ·rcases zcb q 0 with hq | hq
  ·omega
  ·have : 1 * q ≤ d * q := Int.mul_le_mul_of_nonneg_right (by omega) hq
   omega
theorem eround_t (u : Ei) (d : Int) (hu : u.In 1152921504606846976) (hd : 1 ≤ d ∧ d ≤ 1125899906842624) : Triple P0 168 [u.v, int .i64 d] [] (.tup [(u.round d).v, bl true]) [] := by
 refine eisen_Round_triple rfl (by decide) ?_
 have hu' := hu
 unfold Ei.In at hu'
 have c1 : decide (d < 1) = false := by simp; omega
 have c2 : decide (d > 1125899906842624) = false := by simp; omega
 have ia : in64 u.a := by unfold in64; omega
 have ib : in64 u.b := by unfold in64; omega
 have ed : in64 d := by unfold in64; omega
 simp only [eisen_Round_pc, Ei.v, Ei.rv, c1, c2, push_cast, ↓reduceIte, reduceCtorEq, zB, zE, zA, zS, zL, zD, zM]
 refine call_mk (within_t _ _ ia (by decide)) rfl trivial ?_
 rw [show decide (-1152921504606846976 ≤ u.a ∧ u.a ≤ 1152921504606846976) = true from decide_eq_true hu'.1]
 simp only [push_cast, ↓reduceIte, reduceCtorEq, zB, zE, zA, zS, zL, zD, zM]
 refine call_mk (within_t _ _ ib (by decide)) rfl trivial ?_
 rw [show decide (-1152921504606846976 ≤ u.b ∧ u.b ≤ 1152921504606846976) = true from decide_eq_true hu'.2]
 simp only [push_cast, ↓reduceIte, reduceCtorEq, zB, zE, zA, zS, zL, zD, zM]
 refine call_mk (floor_t _ _ ia ed) rfl trivial ?_
 have hd0 : 0 < d := by omega
 simp only [hd0, push_cast, ↓reduceIte, reduceCtorEq, zB, zE, zA, zS, zL, zD, zM]
 refine call_mk (floor_t _ _ ib ed) rfl trivial ?_
 simp only [hd0, push_cast, ↓reduceIte, reduceCtorEq, zB, zE, zA, zS, zL, zD, zM]
 have ha : 0 ≤ u.a % d ∧ u.a % d < d := ⟨zby _ (by omega), zbx _ hd0⟩
 have hb : 0 ≤ u.b % d ∧ u.b % d < d := ⟨zby _ (by omega), zbx _ hd0⟩
 have hqa : -1152921504606846976 ≤ u.a / d ∧ u.a / d ≤ 1152921504606846976 := div_in hu'.1 hd.1
 have hqb : -1152921504606846976 ≤ u.b / d ∧ u.b / d ≤ 1152921504606846976 := div_in hu'.2 hd.1
 generalize hA : u.a % d = a at *
 generalize hB : u.b % d = b at *
 generalize hQa : u.a / d = qa at *
 generalize hQb : u.b / d = qb at *
 refine ⟨by simp, ?_⟩
 refine run_loop [(57, false), (58, false), (59, false), (1, false), (4, false), (5, false), (6, false), (7, false), (9, false), (10, false), (12, false), (13, false)] (fun vs pos los => ∃ i : Nat, i ≤ 3 ∧ vs = [.own 2000000 0 0 3, int .i64 3, int .i64 i, int .i64 d, .ptr 2000001 0 0, bl false, int .i64 qa, int .i64 a, int .i64 qb, int .i64 b, int .i64 (pkN d a b i).1, .ptr 2000002 0 0] ∧ pos = [] ∧
   los = [.row 2 (Ei.rv ⟨0, 0⟩) true true (cands.map Ei.rv), .box [int .i64 0, int .i64 0], .box [int .i64 (pkN d a b i).2.a, int .i64 (pkN d a b i).2.b]])
  (fun vs _ _ => match vs with | _ :: _ :: .r (.v (.int _ j)) :: _ => (3 - j).toNat | _ => 0) rfl ?_ ?_
 ·simp only [push_cast, ↓reduceIte, reduceCtorEq, zB, zE, zA, zS, zL, zD, zM]
  exact ⟨0, by omega, rfl, rfl⟩
 ·rintro vs pos los ⟨i, i3, rfl, rfl, rfl⟩
  simp only [push_cast, ↓reduceIte, reduceCtorEq, zB, zE, zA, zS, zL, zD, zM]
  refine cnd_mk (fun h => ?_) (fun h => ?_)
  ·have hi : i = 0 ∨ i = 1 ∨ i = 2 := by simp at h; omega
   obtain ⟨z, hz, hzz⟩ : ∃ z, cands[i]? = some z ∧ ((z = ⟨0, 1⟩ ∨ z = ⟨1, 0⟩ ∨ z = ⟨1, 1⟩)) := by
    rcases hi with rfl | rfl | rfl
    ·exact ⟨_, rfl, by simp⟩
    ·exact ⟨_, rfl, by simp⟩
    ·exact ⟨_, rfl, by simp⟩
   have hg : (List.map Ei.rv cands).getD i (Ei.rv ⟨0, 0⟩) = .agg [.v (.int .i64 z.a), .v (.int .i64 z.b)] := by
    rw [List.getD_eq_getElem?_getD, List.getElem?_map, hz]; rfl
   have hn : (IntKind.i64.wrap (IntKind.i64.wrap (IntKind.i64.wrap (z.a * z.a) + IntKind.i64.wrap (z.a * z.b)) + IntKind.i64.wrap (z.b * z.b))) = z.a * z.a + z.a * z.b + z.b * z.b := by
    rcases hzz with rfl | rfl | rfl <;> decide
   have hf : IntKind.i64.wrap (IntKind.i64.wrap (IntKind.i64.wrap (d * (z.a * z.a + z.a * z.b + z.b * z.b)) - IntKind.i64.wrap (z.a * IntKind.i64.wrap (IntKind.i64.wrap (2 * a) + b))) - IntKind.i64.wrap (z.b * IntKind.i64.wrap (a + IntKind.i64.wrap (2 * b)))) = fr d a b z := by
    rw [show IntKind.i64.wrap (2 * a) = 2 * a from wrap_id (by omega), show IntKind.i64.wrap (2 * b) = 2 * b from wrap_id (by omega), show IntKind.i64.wrap (2 * a + b) = 2 * a + b from wrap_id (by omega), show IntKind.i64.wrap (a + 2 * b) = a + 2 * b from wrap_id (by omega)]
    rcases hzz with rfl | rfl | rfl <;> simp only [fr, Int.zero_mul, Int.mul_zero, zce, Int.mul_one, Int.add_zero, Int.zero_add, IntKind.wrap_i64] <;> omega
   have hs := pkN_succ d a b i z hz
   simp only [Int.toNat_natCast, Nat.zero_add, hg, hn, hf, push_cast, ↓reduceIte, reduceCtorEq, zB, zE, zA, zS, zL, zD, zM]
   refine ⟨by omega, ?_⟩
   refine cnd_mk (fun h' => ?_) (fun h' => ?_)
   ·simp only [decide_eq_true_eq] at h'
    simp only [push_cast, ↓reduceIte, reduceCtorEq, zB, zE, zA, zS, zL, zD, zM]
    refine ⟨by kernel_rfl, ?_⟩
    rw [show IntKind.i64.wrap (i + 1) = i + 1 from wrap_id (by omega)]
    refine ⟨⟨i + 1, by omega, ?_, ?_⟩, by omega⟩
    ·rw [hs, pk, if_pos h'] <;> rfl
    ·rw [hs, pk, if_pos h'] <;> rfl
   ·simp only [decide_eq_false_iff_not] at h'
    simp only [push_cast, ↓reduceIte, reduceCtorEq, zB, zE, zA, zS, zL, zD, zM]
    rw [show IntKind.i64.wrap (i + 1) = i + 1 from wrap_id (by omega)]
    refine ⟨⟨i + 1, by omega, ?_, ?_⟩, by omega⟩
    ·rw [hs, pk, if_neg h'] <;> rfl
    ·rw [hs, pk, if_neg h'] <;> rfl
  ·have : i = 3 := by simp at h; omega
   subst this
   simp only [push_cast, ↓reduceIte, reduceCtorEq, zB, zE, zA, zS, zL, zD, zM]
   have hN := pkN_in d a b 3
   rw [wrap_id (by omega), wrap_id (by omega), pkN_end ha hb, ← hQa, ← hQb, ← hA, ← hB]
   rfl

noncomputable def plane_isRes_pc : PC :=
  (.seq (.reg [p_s 2 (.mov (.c (.r (.v (.bool false)))))])
 (.seq (.reg [p_m 3 0, p_s 4 (.bin .geq (.t 3) (o_i 0)), p_m 5 4, p_g 6 5 true (.mov (.t 0)), p_g 7 5 true (.bin .leq (.t 6) (o_i 12)), p_s 8 (.pick (.t 5) (.t 7) (.c (.r (.v (.bool false))))),
 p_m 2 8])
 .ret))
theorem plane_isRes_triple : Fun P0 74 1 [(2, false, none)] plane_isRes_pc := fun_mk Go.Proofs.Tryz.func74 rfl (by decide) (by kernel_rfl) (by decide) rfl (by kernel_rfl) (by kernel_rfl) (by decide)
noncomputable def plane_place_pc : PC :=
  (.seq (.reg [p_a 3 (.box (.t 0)), p_a 6 (.new [(.r (.v (.int .i64 0))), (.r (.v (.int .i64 0)))]), p_s 7 (.mov (.c (.r (.v (.bool false)))))])
 (.seq (.seq (.reg [p_m 10 1, p_c 11 1 74 [.t 10], p_s 12 (.un .not (.t 11)), p_m 13 12, p_g 14 13 false (.fa 0 (.t 3)), p_g 15 13 false (.ld none (.t 14)), ⟨(some 16), (some (13, false)), 2, .call 94 [(.t 15), (o_i 1073741824)]⟩,
 p_g 17 13 false (.un .not (.t 16)), p_s 18 (.pick (.t 13) (.c (.r (.v (.bool true)))) (.t 17)), p_m 19 18, p_g 20 19 false (.fa 1 (.t 3)), p_g 21 19 false (.ld none (.t 20)),
 ⟨(some 22), (some (19, false)), 3, .call 94 [(.t 21), (o_i 1073741824)]⟩, p_g 23 19 false (.un .not (.t 22)), p_s 24 (.pick (.t 19) (.c (.r (.v (.bool true)))) (.t 23))])
 (.cond (.t 24)
 (.seq (.reg [p_s 25 (.build [(.r (.v (.int .i64 0))), (.r (.v (.int .i64 0)))] []), ⟨none, none, 0, .act (.st 2 (.t 6) (.t 25))⟩, p_s 7 (.mov (.c (.r (.v (.bool false)))))])
 .ret)
 .skip))
 (.seq (.reg [p_m 27 1, p_s 28 (.bin .sub (o_i 12) (.t 27)), p_c 29 4 56 [.t 28], p_m 26 29, p_s 30 (.ext (.t 26) 0), p_s 31 (.ext (.t 26) 1), p_a 8 (.new [(.r (.v (.int .i64 0))), (.r (.v (.int .i64 0)))]),
 ⟨none, none, 0, .act (.st 2 (.t 8) (.t 30))⟩, p_m 9 31])
 (.seq (.reg [p_s 32 (.ld (some 2) (.t 8)), p_m 33 2, p_s 34 (.fa 0 (.t 3)), p_s 35 (.ld none (.t 34)), p_s 36 (.bin .mul (.t 33) (.t 35)), p_m 37 2, p_s 38 (.fa 1 (.t 3)), p_s 39 (.ld none (.t 38)),
 p_s 40 (.bin .mul (.t 37) (.t 39)), p_s 41 (.build [(.r (.v (.int .i64 0))), (.r (.v (.int .i64 0)))] [(0, 1, (.t 36)), (1, 1, (.t 40))]), p_c 42 5 52 [.t 32, .t 41],
 p_s 43 (.ext (.t 42) 0), p_s 44 (.ext (.t 42) 1), ⟨none, none, 0, .act (.st 2 (.t 6) (.t 43))⟩, p_m 7 44])
 .ret))))
theorem plane_place_triple : Fun P0 55 3 [(6, false, some (53, (some 2))), (7, false, none)] plane_place_pc := fun_mk Go.Proofs.Tryz.func55 rfl (by decide) (by kernel_rfl) (by decide) rfl (by kernel_rfl) (by kernel_rfl) (by decide)
noncomputable def plane_spot_pc : PC :=
  (.seq (.reg [p_a 1 (.box (.t 0)), p_a 2 (.new [(.r (.v (.int .i64 0))), (.r (.v (.int .i64 0)))])])
 (.seq (.reg [p_s 3 (.fa 0 (.t 1)), p_s 4 (.ld none (.t 3)), p_s 5 (.bin .mul (o_i 52) (.t 4)), p_s 6 (.fa 1 (.t 1)), p_s 7 (.ld none (.t 6)), p_s 8 (.bin .mul (o_i 26) (.t 7)),
 p_s 9 (.bin .add (.t 5) (.t 8)), p_s 10 (.fa 1 (.t 1)), p_s 11 (.ld none (.t 10)), p_s 12 (.bin .mul (o_i 45) (.t 11)), p_s 13 (.build [(.r (.v (.int .i64 0))), (.r (.v (.int .i64 0)))] [(0, 1, (.t 9)), (1, 1, (.t 12))]),
 ⟨none, none, 0, .act (.st 2 (.t 2) (.t 13))⟩])
 .ret))
theorem plane_spot_triple : Fun P0 95 1 [(2, false, some (32, (some 2)))] plane_spot_pc := fun_mk Go.Proofs.Tryz.func95 rfl (by decide) (by kernel_rfl) (by decide) rfl (by kernel_rfl) (by kernel_rfl) (by decide)
noncomputable def plane_centre_corner_pc : PC :=
  (.seq (.reg [p_a 2 (.box (.t 0)), p_a 3 (.box (.t 1)), p_a 4 (.new [(.r (.v (.int .i64 0))), (.r (.v (.int .i64 0)))])])
 (.seq (.reg [p_s 10 (.fa 2 (.t 2)), p_s 11 (.ld (some 2) (.t 10)), p_s 12 (.ld (some 2) (.t 3)), p_c 13 1 52 [.t 11, .t 12], p_m 9 13, p_s 14 (.ext (.t 9) 0), p_s 15 (.ext (.t 9) 1),
 p_a 5 (.new [(.r (.v (.int .i64 0))), (.r (.v (.int .i64 0)))]), ⟨none, none, 0, .act (.st 2 (.t 5) (.t 14))⟩, p_m 6 15])
 (.seq (.reg [p_s 17 (.fa 0 (.t 2)), p_s 18 (.ld (some 2) (.t 17)), p_s 19 (.ld (some 2) (.t 5)), p_c 20 2 53 [.t 18, .t 19], p_m 16 20, p_s 21 (.ext (.t 16) 0), p_s 22 (.ext (.t 16) 1),
 p_a 7 (.new [(.r (.v (.int .i64 0))), (.r (.v (.int .i64 0)))]), ⟨none, none, 0, .act (.st 2 (.t 7) (.t 21))⟩, p_m 8 22])
 (.seq (.reg [p_s 23 (.ld (some 2) (.t 7)), p_c 24 3 95 [.t 23], ⟨none, none, 0, .act (.st 2 (.t 4) (.t 24))⟩])
 .ret))))
theorem plane_centre_corner_triple : Fun P0 57 2 [(4, false, some (32, (some 2)))] plane_centre_corner_pc := fun_mk Go.Proofs.Tryz.func57 rfl (by decide) (by kernel_rfl) (by decide) rfl (by kernel_rfl) (by kernel_rfl) (by decide)
noncomputable def plane_Hex_pc : PC :=
  (.seq (.reg [p_a 2 (.box (.t 0)), p_s 4 (.mov (.c (.nils 2 (.agg [(.v (.int .i64 0)), (.v (.int .i64 0))])))), p_s 5 (.mov (.c (.r (.v (.bool false)))))])
 (.seq (.reg [p_s 15 (.ld (some 2) (.t 2)), p_m 16 1, p_c 17 1 55 [(.t 15), (.t 16), (o_i 3)], p_m 14 17, p_s 18 (.ext (.t 14) 0), p_s 19 (.ext (.t 14) 1), p_a 6 (.new [(.r (.v (.int .i64 0))), (.r (.v (.int .i64 0)))]),
 ⟨none, none, 0, .act (.st 2 (.t 6) (.t 18))⟩, p_m 7 19])
 (.seq (.seq (.reg [p_m 20 7, p_s 21 (.un .not (.t 20))])
 (.cond (.t 21)
 (.seq (.reg [p_s 4 (.mov (.c (.nils 2 (.agg [(.v (.int .i64 0)), (.v (.int .i64 0))])))), p_s 5 (.mov (.c (.r (.v (.bool false)))))])
 .ret)
 .skip))
 (.seq (.reg [p_m 23 1, p_s 24 (.bin .sub (o_i 12) (.t 23)), p_c 25 2 56 [.t 24], p_m 22 25, p_s 26 (.ext (.t 22) 0), p_s 27 (.ext (.t 22) 1), p_a 8 (.new [(.r (.v (.int .i64 0))), (.r (.v (.int .i64 0)))]),
 ⟨none, none, 0, .act (.st 2 (.t 8) (.t 26))⟩, p_m 9 27])
 (.seq (.reg [p_s 28 (.ld (some 2) (.t 6)), p_s 29 (.ld (some 2) (.t 8)), p_s 30 (.build [(.r (.v (.int .i64 0))), (.r (.v (.int .i64 0))), (.r (.v (.int .i64 0))), (.r (.v (.int .i64 0)))] [(0, 2, (.t 28)), (2, 2, (.t 29))]),
 p_s 31 (.mkf (.func 57) [(.t 30)] 1), p_m 10 31])
 (.seq (.reg [p_s 11 (.mov (.c (.nils 2 (.agg [(.v (.int .i64 0)), (.v (.int .i64 0))]))))])
 (.seq (.seq (.reg [p_s 32 (.build [(.r (.v (.int .i64 0))), (.r (.v (.int .i64 0)))] [(0, 1, (o_i 1)), (1, 1, (o_i 1))]), p_s 33 (.build [(.r (.v (.int .i64 0))), (.r (.v (.int .i64 0)))] [(0, 1, (o_i (-1))), (1, 1, (o_i 2))]),
 p_s 34 (.build [(.r (.v (.int .i64 0))), (.r (.v (.int .i64 0)))] [(0, 1, (o_i (-2))), (1, 1, (o_i 1))]), p_s 35 (.build [(.r (.v (.int .i64 0))), (.r (.v (.int .i64 0)))] [(0, 1, (o_i (-1))), (1, 1, (o_i (-1)))]),
 p_s 36 (.build [(.r (.v (.int .i64 0))), (.r (.v (.int .i64 0)))] [(0, 1, (o_i 1)), (1, 1, (o_i (-2)))]), p_s 37 (.build [(.r (.v (.int .i64 0))), (.r (.v (.int .i64 0)))] [(0, 1, (o_i 2)), (1, 1, (o_i (-1)))]),
 p_a 38 (.bsl 2 (.agg [(.v (.int .i64 0)), (.v (.int .i64 0))]) [(.t 32), (.t 33), (.t 34), (.t 35), (.t 36), (.t 37)]), p_s 39 (.len false (.t 38)), p_s 40 (.mov (o_i 0))])
 (.block 0 (.loop (.seq (.reg [p_s 41 (.bin .lss (.t 40) (.t 39))])
 (.seq (.cond (.t 41)
 .skip
 (.exit 0))
 (.seq (.block 1 (.seq (.reg [p_s 42 (.ia 2 (.agg [(.v (.int .i64 0)), (.v (.int .i64 0))]) (.t 38) (.t 40)), p_s 43 (.ld (some 2) (.t 42)), p_a 13 (.new [(.r (.v (.int .i64 0))), (.r (.v (.int .i64 0)))]),
 ⟨none, none, 0, .act (.st 2 (.t 13) (.t 43))⟩])
 (.reg [p_m 44 11, p_m 45 10, p_s 46 (.ld (some 2) (.t 13)), ⟨(some 47), none, 3, .callv (.t 45) [(.t 46)]⟩, p_a 48 (.bsl 2 (.agg [(.v (.int .i64 0)), (.v (.int .i64 0))]) [(.t 47)]),
 p_a 49 (.app 2 (.agg [(.v (.int .i64 0)), (.v (.int .i64 0))]) 16 (.t 44) (.t 48)), p_m 11 49])))
 (.reg [p_s 50 (.bin .add (.t 40) (o_i 1)), p_m 40 50])))))))
 (.seq (.reg [p_m 51 11, p_m 4 51, p_s 5 (.mov (.c (.r (.v (.bool true)))))])
 .ret))))))))
theorem plane_Hex_triple : Fun P0 27 2 [(4, false, none), (5, false, none)] plane_Hex_pc := fun_mk Go.Proofs.Tryz.func27 rfl (by decide) (by kernel_rfl) (by decide) rfl (by kernel_rfl) (by kernel_rfl) (by decide)
theorem p2 (n : Nat) (h : n ≤ 36) : 1 ≤ (2 : Int) ^ n ∧ (2 : Int) ^ n ≤ 68719476736 := by
 have h1 : 2 ^ n ≤ 2 ^ 36 := Nat.pow_le_pow_right (by decide) h
 have h2 : 1 ≤ 2 ^ n := Nat.one_le_two_pow
 have h3 : ((2 ^ n : Nat) : Int) = (2 : Int) ^ n := by simp
 omega
theorem p7 (n : Nat) (h : n ≤ 12) : 1 ≤ (7 : Int) ^ n ∧ (7 : Int) ^ n ≤ 13841287201 := by
 have h1 : 7 ^ n ≤ 7 ^ 12 := Nat.pow_le_pow_right (by decide) h
 have h2 : 1 ≤ 7 ^ n := Nat.one_le_pow _ _ (by decide)
 have h3 : ((7 ^ n : Nat) : Int) = (7 : Int) ^ n := by simp
 omega
theorem shl1 (z : Int) (h0 : 0 ≤ z) (h1 : z ≤ 36) : IntKind.i64.wrap (1 * 2 ^ min (IntKind.u64.wrap z).toNat IntKind.i64.bits) = 2 ^ z.toNat := by
 have hp := p2 z.toNat (by omega)
 rw [IntKind.wrap_u64, show (z % 18446744073709551616).toNat = z.toNat by omega, show min z.toNat IntKind.i64.bits = z.toNat from Nat.min_eq_left (by simp [IntKind.bits]; omega), zce, wrap_id (by omega)]
theorem shl2 (z : Int) (h0 : 0 ≤ z) (h1 : z ≤ 36) : IntKind.i64.wrap (1 * 2 ^ min z.toNat IntKind.i64.bits) = 2 ^ z.toNat := by
 have hp := p2 z.toNat (by omega)
 rw [show min z.toNat IntKind.i64.bits = z.toNat from Nat.min_eq_left (by simp [IntKind.bits]; omega), zce, wrap_id (by omega)]
theorem isRes_t (r : Int) : Triple P0 74 [int .i64 r] [] (bl (decide (0 ≤ r ∧ r ≤ 12))) [] := by
 refine plane_isRes_triple rfl (by decide) ?_
 simp only [plane_isRes_pc, push_cast, ↓reduceIte, reduceCtorEq, zB, zE, zA, zS, zL, zD, zM]
 refine bl_iff ?_
 simp
theorem mul_In {x y : Ei} {n m : Int} (hx : x.In n) (hy : y.In m) : (x.mul y).In (3 * (n * m)) := by
 have h1 := mul_in hx.1 hy.1
 have h2 := mul_in hx.1 hy.2
 have h3 := mul_in hx.2 hy.1
 have h4 := mul_in hx.2 hy.2
 unfold Ei.In Ei.mul
 dsimp only
 generalize n * m = q at *
 omega
theorem conj_In {x : Ei} {n : Int} (hx : x.In n) : x.conj.In (2 * n) := by
 unfold Ei.In Ei.conj at *
 dsimp only
 omega
def inW (x y : Int) : Prop := (0 ≤ x ∧ x < 1073741824) ∧ (0 ≤ y ∧ y < 1073741824)
instance (x y : Int) : Decidable (inW x y) := inferInstanceAs (Decidable (_ ∧ _))
theorem ax_In {x y : Int} (h : inW x y) : (ax x y).In 60000000000 := by
 unfold inW at h
 unfold ax Ei.In
 dsimp only
 omega
theorem axm_In {x y : Int} (h : inW x y) {k : Nat} (hk : k ≤ 12) : ((ax x y).mul (betaN k).conj).In 43200000000000000 :=
 (mul_In (ax_In h) (conj_In (betaN_in k hk))).mono (by decide)

def vv (i : Nat) : Ei := match i with | 0 => ⟨1, 1⟩ | 1 => ⟨-1, 2⟩ | 2 => ⟨-2, 1⟩ | 3 => ⟨-1, -1⟩ | 4 => ⟨1, -2⟩ | _ => ⟨2, -1⟩
def hc (z : Ei) (r i : Nat) : Ei := (betaN (12 - r)).mul ⟨3 * z.a + (vv i).a, 3 * z.b + (vv i).b⟩
def hx (z : Ei) (r i : Nat) : Int := 52 * (hc z r i).a + 26 * (hc z r i).b
def hy (z : Ei) (r i : Nat) : Int := 45 * (hc z r i).b
def cx (z : Ei) (r : Nat) : Int := 52 * ((betaN (12 - r)).mul z).a + 26 * ((betaN (12 - r)).mul z).b
def cy (z : Ei) (r : Nat) : Int := 45 * ((betaN (12 - r)).mul z).b
def kx (r i : Nat) : Int := 52 * ((betaN (12 - r)).mul (vv i)).a + 26 * ((betaN (12 - r)).mul (vv i)).b
def ky (r i : Nat) : Int := 45 * ((betaN (12 - r)).mul (vv i)).b
theorem hx_eq (z : Ei) (r i : Nat) : hx z r i = 3 * cx z r + kx r i := by
 simp only [hx, cx, kx, hc, Ei.mul, zcc, Int.mul_left_comm _ (3 : Int)]
 omega
theorem hy_eq (z : Ei) (r i : Nat) : hy z r i = 3 * cy z r + ky r i := by
 simp only [hy, cy, ky, hc, Ei.mul, zcc, Int.mul_left_comm _ (3 : Int)]
 omega
def crs (z : Ei) (r i j : Nat) (x y : Int) : Int := (kx r j - kx r i) * (y - hy z r i) - (ky r j - ky r i) * (x - hx z r i)
theorem k_in (r i : Nat) (hr : r ≤ 12) (hi : i < 6) : (-100000000 ≤ kx r i ∧ kx r i ≤ 100000000) ∧ (-100000000 ≤ ky r i ∧ ky r i ≤ 100000000) := by
 have : ∀ j : Fin 13, ∀ i : Fin 6, (-100000000 ≤ kx j.val i.val ∧ kx j.val i.val ≤ 100000000) ∧ (-100000000 ≤ ky j.val i.val ∧ ky j.val i.val ≤ 100000000) := by decide +kernel
 exact this ⟨r, by omega⟩ ⟨i, hi⟩
def Lies (x y : Int) (z : Ei) (r : Nat) : Prop :=
 ((-50000000 ≤ cx z r - x ∧ cx z r - x ≤ 50000000) ∧ (-50000000 ≤ cy z r - y ∧ cy z r - y ≤ 50000000)) ∧
 (∀ i, i < 6 → 0 ≤ crs z r i ((i + 1) % 6) (3 * x) (3 * y)) ∧
 (∃ i, i < 6 ∧ hx z r i ≤ 3 * x) ∧ (∃ i, i < 6 ∧ 3 * x ≤ hx z r i) ∧ (∃ i, i < 6 ∧ hy z r i ≤ 3 * y) ∧ (∃ i, i < 6 ∧ 3 * y ≤ hy z r i)
theorem lt6 {i : Nat} (h : i < 6) : i = 0 ∨ i = 1 ∨ i = 2 ∨ i = 3 ∨ i = 4 ∨ i = 5 := by omega
theorem lies0 (x y : Int) : Lies x y (near x y 0) 0 := by
 have h := round_spec ((ax x y).mul (betaN (12 - 0)).conj) (d := 2340 * 7 ^ (12 - 0)) (by decide)
 have e : (betaN (12 - 0)).conj = ⟨-128231, 102960⟩ := by decide
 have ed : (2340 * 7 ^ (12 - 0) : Int) = 32388612050340 := by decide
 have eb : betaN (12 - 0) = ⟨-25271, -102960⟩ := by decide
 unfold near
 generalize Ei.round _ _ = q at *
 rw [e, ed] at h
 have ex : cx q 0 = 52 * (-25271 * q.a - -102960 * q.b) + 26 * (-25271 * q.b + -102960 * q.a + -102960 * q.b) := by simp only [cx, eb, Ei.mul]
 have ey : cy q 0 = 45 * (-25271 * q.b + -102960 * q.a + -102960 * q.b) := by simp only [cy, eb, Ei.mul]
 have x0 : kx 0 0 = -1971138 := by decide
 have y0 : ky 0 0 = -10403595 := by decide
 have x1 : kx 0 1 = 8030880 := by decide
 have y1 : ky 0 1 = -6907590 := by decide
 have x2 : kx 0 2 = 10002018 := by decide
 have y2 : ky 0 2 = 3496005 := by decide
 have x3 : kx 0 3 = 1971138 := by decide
 have y3 : ky 0 3 = 10403595 := by decide
 have x4 : kx 0 4 = -8030880 := by decide
 have y4 : ky 0 4 = 6907590 := by decide
 have x5 : kx 0 5 = -10002018 := by decide
 have y5 : ky 0 5 = -3496005 := by decide
 unfold holds at h
 simp only [Ei.mul, ax] at h
 have g : ∀ i, hx q 0 i = 3 * cx q 0 + kx 0 i := fun i => hx_eq q 0 i
 have g' : ∀ i, hy q 0 i = 3 * cy q 0 + ky 0 i := fun i => hy_eq q 0 i
 have h1 := h.1
 have h2 := h.2.1
 have h3 := h.2.2
 refine ⟨by omega, fun i hi => ?_, ⟨5, by decide, ?_⟩, ⟨2, by decide, ?_⟩, ⟨0, by decide, ?_⟩, ⟨3, by decide, ?_⟩⟩
 ·rcases lt6 hi with rfl | rfl | rfl | rfl | rfl | rfl <;> simp only [crs, g, g', x0, x1, x2, x3, x4, x5, y0, y1, y2, y3, y4, y5] <;> omega
 ·simp only [g, x0, x1, x2, x3, x4, x5]; omega
 ·simp only [g, x0, x1, x2, x3, x4, x5]; omega
 ·simp only [g', y0, y1, y2, y3, y4, y5]; omega
 ·simp only [g', y0, y1, y2, y3, y4, y5]; omega
theorem lies1 (x y : Int) : Lies x y (near x y 1) 1 := by
 have h := round_spec ((ax x y).mul (betaN (12 - 1)).conj) (d := 2340 * 7 ^ (12 - 1)) (by decide)
 have e : (betaN (12 - 1)).conj = ⟨-51346, 25807⟩ := by decide
 have ed : (2340 * 7 ^ (12 - 1) : Int) = 4626944578620 := by decide
 have eb : betaN (12 - 1) = ⟨-25539, -25807⟩ := by decide
 unfold near
 generalize Ei.round _ _ = q at *
 rw [e, ed] at h
 have ex : cx q 1 = 52 * (-25539 * q.a - -25807 * q.b) + 26 * (-25539 * q.b + -25807 * q.a + -25807 * q.b) := by simp only [cx, eb, Ei.mul]
 have ey : cy q 1 = 45 * (-25539 * q.b + -25807 * q.a + -25807 * q.b) := by simp only [cy, eb, Ei.mul]
 have x0 : kx 1 0 = -1992042 := by decide
 have y0 : ky 1 0 = -3471885 := by decide
 have x1 : kx 1 1 = 2012946 := by decide
 have y1 : ky 1 1 = -3459825 := by decide
 have x2 : kx 1 2 = 4004988 := by decide
 have y2 : ky 1 2 = 12060 := by decide
 have x3 : kx 1 3 = 1992042 := by decide
 have y3 : ky 1 3 = 3471885 := by decide
 have x4 : kx 1 4 = -2012946 := by decide
 have y4 : ky 1 4 = 3459825 := by decide
 have x5 : kx 1 5 = -4004988 := by decide
 have y5 : ky 1 5 = -12060 := by decide
 unfold holds at h
 simp only [Ei.mul, ax] at h
 have g : ∀ i, hx q 1 i = 3 * cx q 1 + kx 1 i := fun i => hx_eq q 1 i
 have g' : ∀ i, hy q 1 i = 3 * cy q 1 + ky 1 i := fun i => hy_eq q 1 i
 have h1 := h.1
 have h2 := h.2.1
 have h3 := h.2.2
 refine ⟨by omega, fun i hi => ?_, ⟨5, by decide, ?_⟩, ⟨2, by decide, ?_⟩, ⟨0, by decide, ?_⟩, ⟨3, by decide, ?_⟩⟩
 ·rcases lt6 hi with rfl | rfl | rfl | rfl | rfl | rfl <;> simp only [crs, g, g', x0, x1, x2, x3, x4, x5, y0, y1, y2, y3, y4, y5] <;> omega
 ·simp only [g, x0, x1, x2, x3, x4, x5]; omega
 ·simp only [g, x0, x1, x2, x3, x4, x5]; omega
 ·simp only [g', y0, y1, y2, y3, y4, y5]; omega
 ·simp only [g', y0, y1, y2, y3, y4, y5]; omega
theorem lies2 (x y : Int) : Lies x y (near x y 2) 2 := by
 have h := round_spec ((ax x y).mul (betaN (12 - 2)).conj) (d := 2340 * 7 ^ (12 - 2)) (by decide)
 have e : (betaN (12 - 2)).conj = ⟨-18357, 3725⟩ := by decide
 have ed : (2340 * 7 ^ (12 - 2) : Int) = 660992082660 := by decide
 have eb : betaN (12 - 2) = ⟨-14632, -3725⟩ := by decide
 unfold near
 generalize Ei.round _ _ = q at *
 rw [e, ed] at h
 have ex : cx q 2 = 52 * (-14632 * q.a - -3725 * q.b) + 26 * (-14632 * q.b + -3725 * q.a + -3725 * q.b) := by simp only [cx, eb, Ei.mul]
 have ey : cy q 2 = 45 * (-14632 * q.b + -3725 * q.a + -3725 * q.b) := by simp only [cy, eb, Ei.mul]
 have x0 : kx 2 0 = -1141296 := by decide
 have y0 : ky 2 0 = -993690 := by decide
 have x1 : kx 2 1 = 290550 := by decide
 have y1 : ky 2 1 = -1484505 := by decide
 have x2 : kx 2 2 = 1431846 := by decide
 have y2 : ky 2 2 = -490815 := by decide
 have x3 : kx 2 3 = 1141296 := by decide
 have y3 : ky 2 3 = 993690 := by decide
 have x4 : kx 2 4 = -290550 := by decide
 have y4 : ky 2 4 = 1484505 := by decide
 have x5 : kx 2 5 = -1431846 := by decide
 have y5 : ky 2 5 = 490815 := by decide
 unfold holds at h
 simp only [Ei.mul, ax] at h
 have g : ∀ i, hx q 2 i = 3 * cx q 2 + kx 2 i := fun i => hx_eq q 2 i
 have g' : ∀ i, hy q 2 i = 3 * cy q 2 + ky 2 i := fun i => hy_eq q 2 i
 have h1 := h.1
 have h2 := h.2.1
 have h3 := h.2.2
 refine ⟨by omega, fun i hi => ?_, ⟨5, by decide, ?_⟩, ⟨2, by decide, ?_⟩, ⟨1, by decide, ?_⟩, ⟨4, by decide, ?_⟩⟩
 ·rcases lt6 hi with rfl | rfl | rfl | rfl | rfl | rfl <;> simp only [crs, g, g', x0, x1, x2, x3, x4, x5, y0, y1, y2, y3, y4, y5] <;> omega
 ·simp only [g, x0, x1, x2, x3, x4, x5]; omega
 ·simp only [g, x0, x1, x2, x3, x4, x5]; omega
 ·simp only [g', y0, y1, y2, y3, y4, y5]; omega
 ·simp only [g', y0, y1, y2, y3, y4, y5]; omega
theorem lies3 (x y : Int) : Lies x y (near x y 3) 3 := by
 have h := round_spec ((ax x y).mul (betaN (12 - 3)).conj) (d := 2340 * 7 ^ (12 - 3)) (by decide)
 have e : (betaN (12 - 3)).conj = ⟨-5777, -1026⟩ := by decide
 have ed : (2340 * 7 ^ (12 - 3) : Int) = 94427440380 := by decide
 have eb : betaN (12 - 3) = ⟨-6803, 1026⟩ := by decide
 unfold near
 generalize Ei.round _ _ = q at *
 rw [e, ed] at h
 have ex : cx q 3 = 52 * (-6803 * q.a - 1026 * q.b) + 26 * (-6803 * q.b + 1026 * q.a + 1026 * q.b) := by simp only [cx, eb, Ei.mul]
 have ey : cy q 3 = 45 * (-6803 * q.b + 1026 * q.a + 1026 * q.b) := by simp only [cy, eb, Ei.mul]
 have x0 : kx 3 0 = -530634 := by decide
 have y0 : ky 3 0 = -213795 := by decide
 have x1 : kx 3 1 = -80028 := by decide
 have y1 : ky 3 1 = -566100 := by decide
 have x2 : kx 3 2 = 450606 := by decide
 have y2 : ky 3 2 = -352305 := by decide
 have x3 : kx 3 3 = 530634 := by decide
 have y3 : ky 3 3 = 213795 := by decide
 have x4 : kx 3 4 = 80028 := by decide
 have y4 : ky 3 4 = 566100 := by decide
 have x5 : kx 3 5 = -450606 := by decide
 have y5 : ky 3 5 = 352305 := by decide
 unfold holds at h
 simp only [Ei.mul, ax] at h
 have g : ∀ i, hx q 3 i = 3 * cx q 3 + kx 3 i := fun i => hx_eq q 3 i
 have g' : ∀ i, hy q 3 i = 3 * cy q 3 + ky 3 i := fun i => hy_eq q 3 i
 have h1 := h.1
 have h2 := h.2.1
 have h3 := h.2.2
 refine ⟨by omega, fun i hi => ?_, ⟨0, by decide, ?_⟩, ⟨3, by decide, ?_⟩, ⟨1, by decide, ?_⟩, ⟨4, by decide, ?_⟩⟩
 ·rcases lt6 hi with rfl | rfl | rfl | rfl | rfl | rfl <;> simp only [crs, g, g', x0, x1, x2, x3, x4, x5, y0, y1, y2, y3, y4, y5] <;> omega
 ·simp only [g, x0, x1, x2, x3, x4, x5]; omega
 ·simp only [g, x0, x1, x2, x3, x4, x5]; omega
 ·simp only [g', y0, y1, y2, y3, y4, y5]; omega
 ·simp only [g', y0, y1, y2, y3, y4, y5]; omega
theorem lies4 (x y : Int) : Lies x y (near x y 4) 4 := by
 have h := round_spec ((ax x y).mul (betaN (12 - 4)).conj) (d := 2340 * 7 ^ (12 - 4)) (by decide)
 have e : (betaN (12 - 4)).conj = ⟨-1504, -1265⟩ := by decide
 have ed : (2340 * 7 ^ (12 - 4) : Int) = 13489634340 := by decide
 have eb : betaN (12 - 4) = ⟨-2769, 1265⟩ := by decide
 unfold near
 generalize Ei.round _ _ = q at *
 rw [e, ed] at h
 have ex : cx q 4 = 52 * (-2769 * q.a - 1265 * q.b) + 26 * (-2769 * q.b + 1265 * q.a + 1265 * q.b) := by simp only [cx, eb, Ei.mul]
 have ey : cy q 4 = 45 * (-2769 * q.b + 1265 * q.a + 1265 * q.b) := by simp only [cy, eb, Ei.mul]
 have x0 : kx 4 0 = -215982 := by decide
 have y0 : ky 4 0 = -10755 := by decide
 have x1 : kx 4 1 = -98670 := by decide
 have y1 : ky 4 1 = -192285 := by decide
 have x2 : kx 4 2 = 117312 := by decide
 have y2 : ky 4 2 = -181530 := by decide
 have x3 : kx 4 3 = 215982 := by decide
 have y3 : ky 4 3 = 10755 := by decide
 have x4 : kx 4 4 = 98670 := by decide
 have y4 : ky 4 4 = 192285 := by decide
 have x5 : kx 4 5 = -117312 := by decide
 have y5 : ky 4 5 = 181530 := by decide
 unfold holds at h
 simp only [Ei.mul, ax] at h
 have g : ∀ i, hx q 4 i = 3 * cx q 4 + kx 4 i := fun i => hx_eq q 4 i
 have g' : ∀ i, hy q 4 i = 3 * cy q 4 + ky 4 i := fun i => hy_eq q 4 i
 have h1 := h.1
 have h2 := h.2.1
 have h3 := h.2.2
 refine ⟨by omega, fun i hi => ?_, ⟨0, by decide, ?_⟩, ⟨3, by decide, ?_⟩, ⟨1, by decide, ?_⟩, ⟨4, by decide, ?_⟩⟩
 ·rcases lt6 hi with rfl | rfl | rfl | rfl | rfl | rfl <;> simp only [crs, g, g', x0, x1, x2, x3, x4, x5, y0, y1, y2, y3, y4, y5] <;> omega
 ·simp only [g, x0, x1, x2, x3, x4, x5]; omega
 ·simp only [g, x0, x1, x2, x3, x4, x5]; omega
 ·simp only [g', y0, y1, y2, y3, y4, y5]; omega
 ·simp only [g', y0, y1, y2, y3, y4, y5]; omega
theorem lies5 (x y : Int) : Lies x y (near x y 5) 5 := by
 have h := round_spec ((ax x y).mul (betaN (12 - 5)).conj) (d := 2340 * 7 ^ (12 - 5)) (by decide)
 have e : (betaN (12 - 5)).conj = ⟨-249, -757⟩ := by decide
 have ed : (2340 * 7 ^ (12 - 5) : Int) = 1927090620 := by decide
 have eb : betaN (12 - 5) = ⟨-1006, 757⟩ := by decide
 unfold near
 generalize Ei.round _ _ = q at *
 rw [e, ed] at h
 have ex : cx q 5 = 52 * (-1006 * q.a - 757 * q.b) + 26 * (-1006 * q.b + 757 * q.a + 757 * q.b) := by simp only [cx, eb, Ei.mul]
 have ey : cy q 5 = 45 * (-1006 * q.b + 757 * q.a + 757 * q.b) := by simp only [cy, eb, Ei.mul]
 have x0 : kx 5 0 = -78468 := by decide
 have y0 : ky 5 0 = 22860 := by decide
 have x1 : kx 5 1 = -59046 := by decide
 have y1 : ky 5 1 = -56475 := by decide
 have x2 : kx 5 2 = 19422 := by decide
 have y2 : ky 5 2 = -79335 := by decide
 have x3 : kx 5 3 = 78468 := by decide
 have y3 : ky 5 3 = -22860 := by decide
 have x4 : kx 5 4 = 59046 := by decide
 have y4 : ky 5 4 = 56475 := by decide
 have x5 : kx 5 5 = -19422 := by decide
 have y5 : ky 5 5 = 79335 := by decide
 unfold holds at h
 simp only [Ei.mul, ax] at h
 have g : ∀ i, hx q 5 i = 3 * cx q 5 + kx 5 i := fun i => hx_eq q 5 i
 have g' : ∀ i, hy q 5 i = 3 * cy q 5 + ky 5 i := fun i => hy_eq q 5 i
 have h1 := h.1
 have h2 := h.2.1
 have h3 := h.2.2
 refine ⟨by omega, fun i hi => ?_, ⟨0, by decide, ?_⟩, ⟨3, by decide, ?_⟩, ⟨2, by decide, ?_⟩, ⟨5, by decide, ?_⟩⟩
 ·rcases lt6 hi with rfl | rfl | rfl | rfl | rfl | rfl <;> simp only [crs, g, g', x0, x1, x2, x3, x4, x5, y0, y1, y2, y3, y4, y5] <;> omega
 ·simp only [g, x0, x1, x2, x3, x4, x5]; omega
 ·simp only [g, x0, x1, x2, x3, x4, x5]; omega
 ·simp only [g', y0, y1, y2, y3, y4, y5]; omega
 ·simp only [g', y0, y1, y2, y3, y4, y5]; omega
theorem lies6 (x y : Int) : Lies x y (near x y 6) 6 := by
 have h := round_spec ((ax x y).mul (betaN (12 - 6)).conj) (d := 2340 * 7 ^ (12 - 6)) (by decide)
 have e : (betaN (12 - 6)).conj = ⟨37, -360⟩ := by decide
 have ed : (2340 * 7 ^ (12 - 6) : Int) = 275298660 := by decide
 have eb : betaN (12 - 6) = ⟨-323, 360⟩ := by decide
 unfold near
 generalize Ei.round _ _ = q at *
 rw [e, ed] at h
 have ex : cx q 6 = 52 * (-323 * q.a - 360 * q.b) + 26 * (-323 * q.b + 360 * q.a + 360 * q.b) := by simp only [cx, eb, Ei.mul]
 have ey : cy q 6 = 45 * (-323 * q.b + 360 * q.a + 360 * q.b) := by simp only [cy, eb, Ei.mul]
 have x0 : kx 6 0 = -25194 := by decide
 have y0 : ky 6 0 = 17865 := by decide
 have x1 : kx 6 1 = -28080 := by decide
 have y1 : ky 6 1 = -12870 := by decide
 have x2 : kx 6 2 = -2886 := by decide
 have y2 : ky 6 2 = -30735 := by decide
 have x3 : kx 6 3 = 25194 := by decide
 have y3 : ky 6 3 = -17865 := by decide
 have x4 : kx 6 4 = 28080 := by decide
 have y4 : ky 6 4 = 12870 := by decide
 have x5 : kx 6 5 = 2886 := by decide
 have y5 : ky 6 5 = 30735 := by decide
 unfold holds at h
 simp only [Ei.mul, ax] at h
 have g : ∀ i, hx q 6 i = 3 * cx q 6 + kx 6 i := fun i => hx_eq q 6 i
 have g' : ∀ i, hy q 6 i = 3 * cy q 6 + ky 6 i := fun i => hy_eq q 6 i
 have h1 := h.1
 have h2 := h.2.1
 have h3 := h.2.2
 refine ⟨by omega, fun i hi => ?_, ⟨1, by decide, ?_⟩, ⟨4, by decide, ?_⟩, ⟨2, by decide, ?_⟩, ⟨5, by decide, ?_⟩⟩
 ·rcases lt6 hi with rfl | rfl | rfl | rfl | rfl | rfl <;> simp only [crs, g, g', x0, x1, x2, x3, x4, x5, y0, y1, y2, y3, y4, y5] <;> omega
 ·simp only [g, x0, x1, x2, x3, x4, x5]; omega
 ·simp only [g, x0, x1, x2, x3, x4, x5]; omega
 ·simp only [g', y0, y1, y2, y3, y4, y5]; omega
 ·simp only [g', y0, y1, y2, y3, y4, y5]; omega
theorem lies7 (x y : Int) : Lies x y (near x y 7) 7 := by
 have h := round_spec ((ax x y).mul (betaN (12 - 7)).conj) (d := 2340 * 7 ^ (12 - 7)) (by decide)
 have e : (betaN (12 - 7)).conj = ⟨62, -149⟩ := by decide
 have ed : (2340 * 7 ^ (12 - 7) : Int) = 39328380 := by decide
 have eb : betaN (12 - 7) = ⟨-87, 149⟩ := by decide
 unfold near
 generalize Ei.round _ _ = q at *
 rw [e, ed] at h
 have ex : cx q 7 = 52 * (-87 * q.a - 149 * q.b) + 26 * (-87 * q.b + 149 * q.a + 149 * q.b) := by simp only [cx, eb, Ei.mul]
 have ey : cy q 7 = 45 * (-87 * q.b + 149 * q.a + 149 * q.b) := by simp only [cy, eb, Ei.mul]
 have x0 : kx 7 0 = -6786 := by decide
 have y0 : ky 7 0 = 9495 := by decide
 have x1 : kx 7 1 = -11622 := by decide
 have y1 : ky 7 1 = -1125 := by decide
 have x2 : kx 7 2 = -4836 := by decide
 have y2 : ky 7 2 = -10620 := by decide
 have x3 : kx 7 3 = 6786 := by decide
 have y3 : ky 7 3 = -9495 := by decide
 have x4 : kx 7 4 = 11622 := by decide
 have y4 : ky 7 4 = 1125 := by decide
 have x5 : kx 7 5 = 4836 := by decide
 have y5 : ky 7 5 = 10620 := by decide
 unfold holds at h
 simp only [Ei.mul, ax] at h
 have g : ∀ i, hx q 7 i = 3 * cx q 7 + kx 7 i := fun i => hx_eq q 7 i
 have g' : ∀ i, hy q 7 i = 3 * cy q 7 + ky 7 i := fun i => hy_eq q 7 i
 have h1 := h.1
 have h2 := h.2.1
 have h3 := h.2.2
 refine ⟨by omega, fun i hi => ?_, ⟨1, by decide, ?_⟩, ⟨4, by decide, ?_⟩, ⟨2, by decide, ?_⟩, ⟨5, by decide, ?_⟩⟩
 ·rcases lt6 hi with rfl | rfl | rfl | rfl | rfl | rfl <;> simp only [crs, g, g', x0, x1, x2, x3, x4, x5, y0, y1, y2, y3, y4, y5] <;> omega
 ·simp only [g, x0, x1, x2, x3, x4, x5]; omega
 ·simp only [g, x0, x1, x2, x3, x4, x5]; omega
 ·simp only [g', y0, y1, y2, y3, y4, y5]; omega
 ·simp only [g', y0, y1, y2, y3, y4, y5]; omega
theorem lies8 (x y : Int) : Lies x y (near x y 8) 8 := by
 have h := round_spec ((ax x y).mul (betaN (12 - 8)).conj) (d := 2340 * 7 ^ (12 - 8)) (by decide)
 have e : (betaN (12 - 8)).conj = ⟨39, -55⟩ := by decide
 have ed : (2340 * 7 ^ (12 - 8) : Int) = 5618340 := by decide
 have eb : betaN (12 - 8) = ⟨-16, 55⟩ := by decide
 unfold near
 generalize Ei.round _ _ = q at *
 rw [e, ed] at h
 have ex : cx q 8 = 52 * (-16 * q.a - 55 * q.b) + 26 * (-16 * q.b + 55 * q.a + 55 * q.b) := by simp only [cx, eb, Ei.mul]
 have ey : cy q 8 = 45 * (-16 * q.b + 55 * q.a + 55 * q.b) := by simp only [cy, eb, Ei.mul]
 have x0 : kx 8 0 = -1248 := by decide
 have y0 : ky 8 0 = 4230 := by decide
 have x1 : kx 8 1 = -4290 := by decide
 have y1 : ky 8 1 = 1035 := by decide
 have x2 : kx 8 2 = -3042 := by decide
 have y2 : ky 8 2 = -3195 := by decide
 have x3 : kx 8 3 = 1248 := by decide
 have y3 : ky 8 3 = -4230 := by decide
 have x4 : kx 8 4 = 4290 := by decide
 have y4 : ky 8 4 = -1035 := by decide
 have x5 : kx 8 5 = 3042 := by decide
 have y5 : ky 8 5 = 3195 := by decide
 unfold holds at h
 simp only [Ei.mul, ax] at h
 have g : ∀ i, hx q 8 i = 3 * cx q 8 + kx 8 i := fun i => hx_eq q 8 i
 have g' : ∀ i, hy q 8 i = 3 * cy q 8 + ky 8 i := fun i => hy_eq q 8 i
 have h1 := h.1
 have h2 := h.2.1
 have h3 := h.2.2
 refine ⟨by omega, fun i hi => ?_, ⟨1, by decide, ?_⟩, ⟨4, by decide, ?_⟩, ⟨3, by decide, ?_⟩, ⟨0, by decide, ?_⟩⟩
 ·rcases lt6 hi with rfl | rfl | rfl | rfl | rfl | rfl <;> simp only [crs, g, g', x0, x1, x2, x3, x4, x5, y0, y1, y2, y3, y4, y5] <;> omega
 ·simp only [g, x0, x1, x2, x3, x4, x5]; omega
 ·simp only [g, x0, x1, x2, x3, x4, x5]; omega
 ·simp only [g', y0, y1, y2, y3, y4, y5]; omega
 ·simp only [g', y0, y1, y2, y3, y4, y5]; omega
theorem lies9 (x y : Int) : Lies x y (near x y 9) 9 := by
 have h := round_spec ((ax x y).mul (betaN (12 - 9)).conj) (d := 2340 * 7 ^ (12 - 9)) (by decide)
 have e : (betaN (12 - 9)).conj = ⟨19, -18⟩ := by decide
 have ed : (2340 * 7 ^ (12 - 9) : Int) = 802620 := by decide
 have eb : betaN (12 - 9) = ⟨1, 18⟩ := by decide
 unfold near
 generalize Ei.round _ _ = q at *
 rw [e, ed] at h
 have ex : cx q 9 = 52 * (1 * q.a - 18 * q.b) + 26 * (1 * q.b + 18 * q.a + 18 * q.b) := by simp only [cx, eb, Ei.mul]
 have ey : cy q 9 = 45 * (1 * q.b + 18 * q.a + 18 * q.b) := by simp only [cy, eb, Ei.mul]
 have x0 : kx 9 0 = 78 := by decide
 have y0 : ky 9 0 = 1665 := by decide
 have x1 : kx 9 1 = -1404 := by decide
 have y1 : ky 9 1 = 900 := by decide
 have x2 : kx 9 2 = -1482 := by decide
 have y2 : ky 9 2 = -765 := by decide
 have x3 : kx 9 3 = -78 := by decide
 have y3 : ky 9 3 = -1665 := by decide
 have x4 : kx 9 4 = 1404 := by decide
 have y4 : ky 9 4 = -900 := by decide
 have x5 : kx 9 5 = 1482 := by decide
 have y5 : ky 9 5 = 765 := by decide
 unfold holds at h
 simp only [Ei.mul, ax] at h
 have g : ∀ i, hx q 9 i = 3 * cx q 9 + kx 9 i := fun i => hx_eq q 9 i
 have g' : ∀ i, hy q 9 i = 3 * cy q 9 + ky 9 i := fun i => hy_eq q 9 i
 have h1 := h.1
 have h2 := h.2.1
 have h3 := h.2.2
 refine ⟨by omega, fun i hi => ?_, ⟨2, by decide, ?_⟩, ⟨5, by decide, ?_⟩, ⟨3, by decide, ?_⟩, ⟨0, by decide, ?_⟩⟩
 ·rcases lt6 hi with rfl | rfl | rfl | rfl | rfl | rfl <;> simp only [crs, g, g', x0, x1, x2, x3, x4, x5, y0, y1, y2, y3, y4, y5] <;> omega
 ·simp only [g, x0, x1, x2, x3, x4, x5]; omega
 ·simp only [g, x0, x1, x2, x3, x4, x5]; omega
 ·simp only [g', y0, y1, y2, y3, y4, y5]; omega
 ·simp only [g', y0, y1, y2, y3, y4, y5]; omega
theorem lies10 (x y : Int) : Lies x y (near x y 10) 10 := by
 have h := round_spec ((ax x y).mul (betaN (12 - 10)).conj) (d := 2340 * 7 ^ (12 - 10)) (by decide)
 have e : (betaN (12 - 10)).conj = ⟨8, -5⟩ := by decide
 have ed : (2340 * 7 ^ (12 - 10) : Int) = 114660 := by decide
 have eb : betaN (12 - 10) = ⟨3, 5⟩ := by decide
 unfold near
 generalize Ei.round _ _ = q at *
 rw [e, ed] at h
 have ex : cx q 10 = 52 * (3 * q.a - 5 * q.b) + 26 * (3 * q.b + 5 * q.a + 5 * q.b) := by simp only [cx, eb, Ei.mul]
 have ey : cy q 10 = 45 * (3 * q.b + 5 * q.a + 5 * q.b) := by simp only [cy, eb, Ei.mul]
 have x0 : kx 10 0 = 234 := by decide
 have y0 : ky 10 0 = 585 := by decide
 have x1 : kx 10 1 = -390 := by decide
 have y1 : ky 10 1 = 495 := by decide
 have x2 : kx 10 2 = -624 := by decide
 have y2 : ky 10 2 = -90 := by decide
 have x3 : kx 10 3 = -234 := by decide
 have y3 : ky 10 3 = -585 := by decide
 have x4 : kx 10 4 = 390 := by decide
 have y4 : ky 10 4 = -495 := by decide
 have x5 : kx 10 5 = 624 := by decide
 have y5 : ky 10 5 = 90 := by decide
 unfold holds at h
 simp only [Ei.mul, ax] at h
 have g : ∀ i, hx q 10 i = 3 * cx q 10 + kx 10 i := fun i => hx_eq q 10 i
 have g' : ∀ i, hy q 10 i = 3 * cy q 10 + ky 10 i := fun i => hy_eq q 10 i
 have h1 := h.1
 have h2 := h.2.1
 have h3 := h.2.2
 refine ⟨by omega, fun i hi => ?_, ⟨2, by decide, ?_⟩, ⟨5, by decide, ?_⟩, ⟨3, by decide, ?_⟩, ⟨0, by decide, ?_⟩⟩
 ·rcases lt6 hi with rfl | rfl | rfl | rfl | rfl | rfl <;> simp only [crs, g, g', x0, x1, x2, x3, x4, x5, y0, y1, y2, y3, y4, y5] <;> omega
 ·simp only [g, x0, x1, x2, x3, x4, x5]; omega
 ·simp only [g, x0, x1, x2, x3, x4, x5]; omega
 ·simp only [g', y0, y1, y2, y3, y4, y5]; omega
 ·simp only [g', y0, y1, y2, y3, y4, y5]; omega
theorem lies11 (x y : Int) : Lies x y (near x y 11) 11 := by
 have h := round_spec ((ax x y).mul (betaN (12 - 11)).conj) (d := 2340 * 7 ^ (12 - 11)) (by decide)
 have e : (betaN (12 - 11)).conj = ⟨3, -1⟩ := by decide
 have ed : (2340 * 7 ^ (12 - 11) : Int) = 16380 := by decide
 have eb : betaN (12 - 11) = ⟨2, 1⟩ := by decide
 unfold near
 generalize Ei.round _ _ = q at *
 rw [e, ed] at h
 have ex : cx q 11 = 52 * (2 * q.a - 1 * q.b) + 26 * (2 * q.b + 1 * q.a + 1 * q.b) := by simp only [cx, eb, Ei.mul]
 have ey : cy q 11 = 45 * (2 * q.b + 1 * q.a + 1 * q.b) := by simp only [cy, eb, Ei.mul]
 have x0 : kx 11 0 = 156 := by decide
 have y0 : ky 11 0 = 180 := by decide
 have x1 : kx 11 1 = -78 := by decide
 have y1 : ky 11 1 = 225 := by decide
 have x2 : kx 11 2 = -234 := by decide
 have y2 : ky 11 2 = 45 := by decide
 have x3 : kx 11 3 = -156 := by decide
 have y3 : ky 11 3 = -180 := by decide
 have x4 : kx 11 4 = 78 := by decide
 have y4 : ky 11 4 = -225 := by decide
 have x5 : kx 11 5 = 234 := by decide
 have y5 : ky 11 5 = -45 := by decide
 unfold holds at h
 simp only [Ei.mul, ax] at h
 have g : ∀ i, hx q 11 i = 3 * cx q 11 + kx 11 i := fun i => hx_eq q 11 i
 have g' : ∀ i, hy q 11 i = 3 * cy q 11 + ky 11 i := fun i => hy_eq q 11 i
 have h1 := h.1
 have h2 := h.2.1
 have h3 := h.2.2
 refine ⟨by omega, fun i hi => ?_, ⟨2, by decide, ?_⟩, ⟨5, by decide, ?_⟩, ⟨4, by decide, ?_⟩, ⟨1, by decide, ?_⟩⟩
 ·rcases lt6 hi with rfl | rfl | rfl | rfl | rfl | rfl <;> simp only [crs, g, g', x0, x1, x2, x3, x4, x5, y0, y1, y2, y3, y4, y5] <;> omega
 ·simp only [g, x0, x1, x2, x3, x4, x5]; omega
 ·simp only [g, x0, x1, x2, x3, x4, x5]; omega
 ·simp only [g', y0, y1, y2, y3, y4, y5]; omega
 ·simp only [g', y0, y1, y2, y3, y4, y5]; omega
theorem lies12 (x y : Int) : Lies x y (near x y 12) 12 := by
 have h := round_spec ((ax x y).mul (betaN (12 - 12)).conj) (d := 2340 * 7 ^ (12 - 12)) (by decide)
 have e : (betaN (12 - 12)).conj = ⟨1, 0⟩ := by decide
 have ed : (2340 * 7 ^ (12 - 12) : Int) = 2340 := by decide
 have eb : betaN (12 - 12) = ⟨1, 0⟩ := by decide
 unfold near
 generalize Ei.round _ _ = q at *
 rw [e, ed] at h
 have ex : cx q 12 = 52 * (1 * q.a - 0 * q.b) + 26 * (1 * q.b + 0 * q.a + 0 * q.b) := by simp only [cx, eb, Ei.mul]
 have ey : cy q 12 = 45 * (1 * q.b + 0 * q.a + 0 * q.b) := by simp only [cy, eb, Ei.mul]
 have x0 : kx 12 0 = 78 := by decide
 have y0 : ky 12 0 = 45 := by decide
 have x1 : kx 12 1 = 0 := by decide
 have y1 : ky 12 1 = 90 := by decide
 have x2 : kx 12 2 = -78 := by decide
 have y2 : ky 12 2 = 45 := by decide
 have x3 : kx 12 3 = -78 := by decide
 have y3 : ky 12 3 = -45 := by decide
 have x4 : kx 12 4 = 0 := by decide
 have y4 : ky 12 4 = -90 := by decide
 have x5 : kx 12 5 = 78 := by decide
 have y5 : ky 12 5 = -45 := by decide
 unfold holds at h
 simp only [Ei.mul, ax] at h
 have g : ∀ i, hx q 12 i = 3 * cx q 12 + kx 12 i := fun i => hx_eq q 12 i
 have g' : ∀ i, hy q 12 i = 3 * cy q 12 + ky 12 i := fun i => hy_eq q 12 i
 have h1 := h.1
 have h2 := h.2.1
 have h3 := h.2.2
 refine ⟨by omega, fun i hi => ?_, ⟨2, by decide, ?_⟩, ⟨0, by decide, ?_⟩, ⟨4, by decide, ?_⟩, ⟨1, by decide, ?_⟩⟩
 ·rcases lt6 hi with rfl | rfl | rfl | rfl | rfl | rfl <;> simp only [crs, g, g', x0, x1, x2, x3, x4, x5, y0, y1, y2, y3, y4, y5] <;> omega
 ·simp only [g, x0, x1, x2, x3, x4, x5]; omega
 ·simp only [g, x0, x1, x2, x3, x4, x5]; omega
 ·simp only [g', y0, y1, y2, y3, y4, y5]; omega
 ·simp only [g', y0, y1, y2, y3, y4, y5]; omega
theorem lies (x y : Int) (r : Nat) (hr : r ≤ 12) : Lies x y (near x y r) r := by
 match r, hr with
 | 0, _ => exact lies0 x y
 | 1, _ => exact lies1 x y
 | 2, _ => exact lies2 x y
 | 3, _ => exact lies3 x y
 | 4, _ => exact lies4 x y
 | 5, _ => exact lies5 x y
 | 6, _ => exact lies6 x y
 | 7, _ => exact lies7 x y
 | 8, _ => exact lies8 x y
 | 9, _ => exact lies9 x y
 | 10, _ => exact lies10 x y
 | 11, _ => exact lies11 x y
 | 12, _ => exact lies12 x y
 | r + 13, h => omega

theorem lb {r : Nat} (hr : r ≤ 12) : (betaN (12 - r)).In 120000 := betaN_in _ (by omega)
theorem scale_In {z : Ei} {n : Int} {by_ : Int} (h : z.In n) (hb : 0 ≤ by_ ∧ by_ ≤ 3) (hn : 0 ≤ n) : (⟨by_ * z.a, by_ * z.b⟩ : Ei).In (3 * n) := by
 have h1 := mul_in (show -3 ≤ by_ ∧ by_ ≤ 3 by omega) h.1
 have h2 := mul_in (show -3 ≤ by_ ∧ by_ ≤ 3 by omega) h.2
 exact ⟨h1, h2⟩
def placeN (z : Ei) (r : Nat) (b : Int) : Ei := (betaN (12 - r)).mul ⟨b * z.a, b * z.b⟩
theorem placeN_In {z : Ei} {r : Nat} {b : Int} (h : z.In 1073741824) (hr : r ≤ 12) (hb : 0 ≤ b ∧ b ≤ 3) : (placeN z r b).In 1159641169920000 := (mul_In (lb hr) (scale_In h hb (by decide))).mono (by decide)
theorem place_t (z : Ei) (r b : Int) (h : z.In 1073741824) (hr : 0 ≤ r ∧ r ≤ 12) (hb : 0 ≤ b ∧ b ≤ 3) : Triple P0 55 [z.v, int .i64 r, int .i64 b] [] (.tup [(placeN z r.toNat b).v, bl true]) [] := by
 refine plane_place_triple rfl (by decide) ?_
 have h' := h
 unfold Ei.In at h'
 have i1 : in64 z.a ∧ in64 z.b := by unfold in64; omega
 simp only [plane_place_pc, Ei.v, Ei.rv, push_cast, ↓reduceIte, reduceCtorEq, zB, zE, zA, zS, zL, zD, zM]
 refine call_mk (isRes_t r) rfl trivial ?_
 rw [decide_eq_true hr]
 simp only [push_cast, ↓reduceIte, reduceCtorEq, zB, zE, zA, zS, zL, zD, zM]
 refine call_mk (within_t _ _ i1.1 (by decide)) rfl trivial ?_
 rw [show decide (-1073741824 ≤ z.a ∧ z.a ≤ 1073741824) = true from decide_eq_true h'.1]
 simp only [push_cast, ↓reduceIte, reduceCtorEq, zB, zE, zA, zS, zL, zD, zM]
 refine call_mk (within_t _ _ i1.2 (by decide)) rfl trivial ?_
 rw [show decide (-1073741824 ≤ z.b ∧ z.b ≤ 1073741824) = true from decide_eq_true h'.2]
 simp only [push_cast, ↓reduceIte, reduceCtorEq, zB, zE, zA, zS, zL, zD, zM]
 rw [show IntKind.i64.wrap (12 - r) = 12 - r from wrap_id (by omega)]
 refine call_mk (ebeta_t (12 - r) (by omega)) rfl trivial ?_
 simp only [Ei.v, Ei.rv, push_cast, ↓reduceIte, reduceCtorEq, zB, zE, zA, zS, zL, zD, zM]
 have hs := scale_In h hb (by decide)
 unfold Ei.In at hs
 rw [show IntKind.i64.wrap (b * z.a) = b * z.a from wrap_id (by have := hs.1; dsimp only at this; omega), show IntKind.i64.wrap (b * z.b) = b * z.b from wrap_id (by have := hs.2; dsimp only at this; omega)]
 refine call_as (as' := [(betaN (12 - r).toNat).v, Ei.v ⟨b * z.a, b * z.b⟩]) rfl ?_
 have e : (12 - r).toNat = 12 - r.toNat := by omega
 refine call_mk (emul_t _ _ ((betaN_in _ (by omega)).mono (by decide)) ((scale_In h hb (by decide)).mono (by decide)) ?_) rfl trivial ?_
 ·rw [e]; exact (placeN_In h (by omega) hb).mono (by decide)
 simp only [placeN, ← e, Ei.v, Ei.rv, push_cast, ↓reduceIte, reduceCtorEq, zB, zE, zA, zS, zL, zD, zM]
def pnt (x y : Int) : RV := .agg [.v (.int .i64 x), .v (.int .i64 y)]
theorem spot_t (w : Ei) (h : w.In 10000000000000000) : Triple P0 95 [w.v] [] (.r (pnt (52 * w.a + 26 * w.b) (45 * w.b))) [] := by
 refine plane_spot_triple rfl (by decide) ?_
 unfold Ei.In at h
 simp only [plane_spot_pc, Ei.v, Ei.rv, push_cast, ↓reduceIte, reduceCtorEq, zB, zE, zA, zS, zL, zD, zM]
 rw [show IntKind.i64.wrap (52 * w.a) = 52 * w.a from wrap_id (by omega), show IntKind.i64.wrap (26 * w.b) = 26 * w.b from wrap_id (by omega), show IntKind.i64.wrap (52 * w.a + 26 * w.b) = 52 * w.a + 26 * w.b from wrap_id (by omega), show IntKind.i64.wrap (45 * w.b) = 45 * w.b from wrap_id (by omega)]
 rfl
theorem add_In {x y : Ei} {n m : Int} (hx : x.In n) (hy : y.In m) : (x.add y).In (n + m) := by
 unfold Ei.In Ei.add at *
 dsimp only
 omega
theorem vv_In (i : Nat) : (vv i).In 2 := by
 unfold vv
 split <;> unfold Ei.In <;> decide
def cen (m b : Ei) : AV := .r (.agg [.v (.int .i64 m.a), .v (.int .i64 m.b), .v (.int .i64 b.a), .v (.int .i64 b.b)])
theorem corner_t (m b k : Ei) (hm : m.In 1159641169920000) (hb : b.In 120000) (hk : k.In 2) : Triple P0 57 [cen m b, k.v] [] (.r (pnt (52 * (m.add (b.mul k)).a + 26 * (m.add (b.mul k)).b) (45 * (m.add (b.mul k)).b))) [] := by
 refine plane_centre_corner_triple rfl (by decide) ?_
 have hbk : (b.mul k).In 720000 := (mul_In hb hk).mono (by decide)
 simp only [plane_centre_corner_pc, cen, Ei.v, Ei.rv, push_cast, ↓reduceIte, reduceCtorEq, zB, zE, zA, zS, zL, zD, zM]
 refine call_as (as' := [b.v, k.v]) rfl ?_
 refine call_mk (emul_t _ _ (hb.mono (by decide)) (hk.mono (by decide)) (hbk.mono (by decide))) rfl trivial ?_
 simp only [Ei.v, Ei.rv, push_cast, ↓reduceIte, reduceCtorEq, zB, zE, zA, zS, zL, zD, zM]
 refine call_as (as' := [m.v, (b.mul k).v]) rfl ?_
 have hs := add_In hm hbk
 refine call_mk (eadd_t _ _ (hm.mono (by decide)) (hbk.mono (by decide)) (hs.mono (by decide))) rfl trivial ?_
 simp only [Ei.v, Ei.rv, push_cast, ↓reduceIte, reduceCtorEq, zB, zE, zA, zS, zL, zD, zM]
 refine call_as (as' := [(m.add (b.mul k)).v]) rfl ?_
 refine call_mk (spot_t _ (hs.mono (by decide))) rfl trivial ?_
 simp only [pnt, push_cast, ↓reduceIte, reduceCtorEq, zB, zE, zA, zS, zL, zD, zM]
def hexP (z : Ei) (r i : Nat) : RV := pnt (hx z r i) (hy z r i)
def hexL (z : Ei) (r : Nat) (n : Nat) : List RV := (List.range n).map (hexP z r)
theorem hexL_succ (z : Ei) (r n : Nat) : hexL z r n ++ [hexP z r n] = hexL z r (n + 1) := by simp [hexL, List.range_succ]
theorem hexL_len (z : Ei) (r n : Nat) : (hexL z r n).length = n := by simp [hexL]
theorem hexP_eq (z : Ei) (r i : Nat) : RV.agg [.v (.int .i64 (52 * ((placeN z r 3).add ((betaN (12 - r)).mul (vv i))).a + 26 * ((placeN z r 3).add ((betaN (12 - r)).mul (vv i))).b)), .v (.int .i64 (45 * ((placeN z r 3).add ((betaN (12 - r)).mul (vv i))).b))] = hexP z r i := by
 have h : (placeN z r 3).add ((betaN (12 - r)).mul (vv i)) = hc z r i := by
  apply Ei.ext' <;> simp only [placeN, Ei.add, Ei.mul, hc, zcc] <;> omega
 rw [h]; rfl
def vvL : List RV := [(vv 0).rv, (vv 1).rv, (vv 2).rv, (vv 3).rv, (vv 4).rv, (vv 5).rv]
theorem vvL_at (i : Nat) (h : i < 6) (d : RV) : vvL.getD i d = .agg [.v (.int .i64 (vv i).a), .v (.int .i64 (vv i).b)] := by
 rcases lt6 h with rfl | rfl | rfl | rfl | rfl | rfl <;> rfl
theorem hex_t (z : Ei) (r : Int) (h : z.In 1073741824) (hr : 0 ≤ r ∧ r ≤ 12) : Triple P0 27 [z.v, int .i64 r] [] (.tup [.own 1000000 0 0 6, bl true]) [.row 2 (pnt 0 0) true true (hexL z r.toNat 6)] := by
  refine plane_Hex_triple rfl (by decide) ?_
  simp only [plane_Hex_pc, Ei.v, Ei.rv, push_cast, ↓reduceIte, reduceCtorEq, zB, zE, zA, zS, zL, zD, zM]
  refine call_as (as' := [z.v, int .i64 r, int .i64 3]) rfl ?_
  refine call_mk (place_t z r 3 h hr (by decide)) rfl trivial ?_
  simp only [Ei.v, Ei.rv, push_cast, ↓reduceIte, reduceCtorEq, zB, zE, zA, zS, zL, zD, zM]
  rw [show IntKind.i64.wrap (12 - r) = 12 - r from wrap_id (by omega)]
  refine call_mk (ebeta_t (12 - r) (by omega)) rfl trivial ?_
  simp only [Ei.v, Ei.rv, push_cast, ↓reduceIte, reduceCtorEq, zB, zE, zA, zS, zL, zD, zM]
  refine ⟨by simp, ?_⟩
  have e : (12 - r).toNat = 12 - r.toNat := by omega
  have hk : r.toNat ≤ 12 := by omega
  have hmax := maxLen_big
  generalize hR : r.toNat = R at *
  rw [e]
  have hm : (placeN z R 3).In 1159641169920000 := placeN_In h hk (by decide)
  have hb : (betaN (12 - R)).In 120000 := lb hk
  refine run_loop [(38, false), (39, false), (40, false), (10, false), (11, false)] (fun vs pos los => ∃ i : Nat, i ≤ 6 ∧ pos = [] ∧
    ((i = 0 ∧ vs = [.own 2000000 0 0 6, int .i64 6, int .i64 i, .fn (.func 57) [.agg [int .i64 (placeN z R 3).a, int .i64 (placeN z R 3).b, int .i64 (betaN (12 - R)).a, int .i64 (betaN (12 - R)).b]] 1, .nils 2 (.agg [.v (.int .i64 0), .v (.int .i64 0)])] ∧ los = [.row 2 (.agg [.v (.int .i64 0), .v (.int .i64 0)]) true true vvL]) ∨
     (0 < i ∧ vs = [.own 2000000 0 0 6, int .i64 6, int .i64 i, .fn (.func 57) [.agg [int .i64 (placeN z R 3).a, int .i64 (placeN z R 3).b, int .i64 (betaN (12 - R)).a, int .i64 (betaN (12 - R)).b]] 1, .own 2000001 0 0 i] ∧ los = [.row 2 (.agg [.v (.int .i64 0), .v (.int .i64 0)]) true true vvL, .row 2 (pnt 0 0) true true (hexL z R i)])))
    (fun vs _ _ => match vs with | _ :: _ :: .r (.v (.int _ j)) :: _ => (6 - j).toNat | _ => 0) rfl ?_ ?_
  · simp only [push_cast, ↓reduceIte, reduceCtorEq, zB, zE, zA, zS, zL, zD, zM]
    exact ⟨0, by omega, .inl ⟨rfl, rfl, rfl⟩⟩
  · rintro vs pos los ⟨i, i6, rfl, ⟨i0, rfl, rfl⟩ | ⟨i0, rfl, rfl⟩⟩
    · subst i0
      simp only [push_cast, ↓reduceIte, reduceCtorEq, zB, zE, zA, zS, zL, zD, zM]
      rw [show decide ((0 : Int) < 6) = true from rfl]
      simp only [push_cast, ↓reduceIte, reduceCtorEq, zB, zE, zA, zS, zL, zD, zM]
      refine ⟨by simp, ?_⟩
      rw [show (0 : Int).toNat = 0 from rfl, show 0 + 0 = 0 from rfl, vvL_at 0 (by decide)]
      simp only [push_cast, ↓reduceIte, reduceCtorEq, zB, zE, zA, zS, zL, zD, zM]
      refine ⟨by kernel_rfl, ?_⟩
      refine call_as (as' := [cen (placeN z R 3) (betaN (12 - R)), (vv 0).v]) rfl ?_
      refine call_mk (corner_t _ _ _ hm hb (vv_In 0)) rfl trivial ?_
      simp only [pnt, push_cast, ↓reduceIte, reduceCtorEq, zB, zE, zA, zS, zL, zD, zM]
      refine ⟨by decide, by omega, ?_, ?_⟩
      · refine ⟨1, by omega, .inr ⟨by omega, ?_, ?_⟩⟩
        · rw [show IntKind.i64.wrap (0 + 1) = ((1 : Nat) : Int) by decide]
        · rw [hexP_eq]; rfl
      · decide
    · simp only [push_cast, ↓reduceIte, reduceCtorEq, zB, zE, zA, zS, zL, zD, zM]
      refine cnd_mk (fun h => ?_) (fun h => ?_)
      · have hi : i < 6 := by simp at h; omega
        simp only [push_cast, ↓reduceIte, reduceCtorEq, zB, zE, zA, zS, zL, zD, zM]
        refine ⟨by simp; omega, ?_⟩
        rw [Int.toNat_natCast, Nat.zero_add, vvL_at i hi]
        simp only [push_cast, ↓reduceIte, reduceCtorEq, zB, zE, zA, zS, zL, zD, zM]
        refine ⟨by kernel_rfl, ?_⟩
        refine call_as (as' := [cen (placeN z R 3) (betaN (12 - R)), (vv i).v]) rfl ?_
        refine call_mk (corner_t _ _ _ hm hb (vv_In i)) rfl trivial ?_
        simp only [pnt, push_cast, ↓reduceIte, reduceCtorEq, zB, zE, zA, zS, zL, zD, zM]
        rw [hexP_eq, show IntKind.i64.wrap ((i : Int) + 1) = ((i + 1 : Nat) : Int) by rw [wrap_id (by omega)]; omega, List.take_of_length_le (by rw [hexL_len]; exact Nat.le_refl _), hexL_succ]
        refine ⟨by decide, by omega, ?_, ?_⟩
        · exact ⟨i + 1, by omega, .inr ⟨by omega, rfl, rfl⟩⟩
        · omega
      · have hi : i = 6 := by simp at h; omega
        subst hi
        simp only [push_cast, ↓reduceIte, reduceCtorEq, zB, zE, zA, zS, zL, zD, zM]

noncomputable def cell_split_pc : PC :=
  (.seq (.reg [p_a 1 (.box (.t 0)), p_a 2 (.new [(.r (.v (.int .i64 0))), (.r (.v (.int .i64 0)))]), p_a 3 (.new [(.r (.v (.int .i64 0))), (.r (.v (.int .i64 0)))])])
 (.seq (.reg [p_s 11 (.build [(.r (.v (.int .i64 0))), (.r (.v (.int .i64 0)))] [(0, 1, (o_i 2)), (1, 1, (o_i 1))]), p_c 12 1 167 [.t 11], p_m 10 12, p_s 13 (.ext (.t 10) 0),
 p_s 14 (.ext (.t 10) 1), p_a 4 (.new [(.r (.v (.int .i64 0))), (.r (.v (.int .i64 0)))]), ⟨none, none, 0, .act (.st 2 (.t 4) (.t 13))⟩, p_m 5 14])
 (.seq (.reg [p_s 16 (.ld (some 2) (.t 1)), p_s 17 (.ld (some 2) (.t 4)), p_c 18 2 52 [.t 16, .t 17], p_m 15 18, p_s 19 (.ext (.t 15) 0), p_s 20 (.ext (.t 15) 1), p_a 6 (.new [(.r (.v (.int .i64 0))), (.r (.v (.int .i64 0)))]),
 ⟨none, none, 0, .act (.st 2 (.t 6) (.t 19))⟩, p_m 7 20])
 (.seq (.reg [p_s 22 (.ld (some 2) (.t 6)), p_c 23 3 168 [(.t 22), (o_i 7)], p_m 21 23, p_s 24 (.ext (.t 21) 0), p_s 25 (.ext (.t 21) 1), ⟨none, none, 0, .act (.st 2 (.t 2) (.t 24))⟩])
 (.seq (.reg [p_s 27 (.ld (some 2) (.t 2)), p_s 28 (.build [(.r (.v (.int .i64 0))), (.r (.v (.int .i64 0)))] [(0, 1, (o_i 2)), (1, 1, (o_i 1))]), p_c 29 4 52 [.t 27, .t 28],
 p_m 26 29, p_s 30 (.ext (.t 26) 0), p_s 31 (.ext (.t 26) 1), p_a 8 (.new [(.r (.v (.int .i64 0))), (.r (.v (.int .i64 0)))]), ⟨none, none, 0, .act (.st 2 (.t 8) (.t 30))⟩,
 p_m 9 31])
 (.seq (.reg [p_s 33 (.ld (some 2) (.t 1)), p_s 34 (.ld (some 2) (.t 8)), p_c 35 5 180 [.t 33, .t 34], p_m 32 35, p_s 36 (.ext (.t 32) 0), p_s 37 (.ext (.t 32) 1), ⟨none, none, 0, .act (.st 2 (.t 3) (.t 36))⟩])
 (.seq (.drw [p_s 38 (.ld (some 2) (.t 2)), p_s 39 (.ld (some 2) (.t 3)), ⟨none, none, 0, .act (.st 2 (.t 2) (.t 38))⟩, ⟨none, none, 0, .act (.st 2 (.t 3) (.t 39))⟩]
 [[], [], [0], [0, 1, 2]])
 .ret)))))))
theorem cell_split_triple : Fun P0 170 1 [(2, false, some (53, (some 2))), (3, false, some (53, (some 2)))] cell_split_pc := fun_mk Go.Proofs.Tryz.func170 rfl (by decide) (by kernel_rfl) (by decide) rfl (by kernel_rfl) (by kernel_rfl) (by decide)
noncomputable def cell_shape_pc : PC :=
  (.seq (.reg [p_a 1 (.box (.t 0)), p_s 2 (.mov (.c (.r (.v (.bool false)))))])
 (.seq (.reg [p_s 3 (.fa 0 (.t 1)), p_s 4 (.ld none (.t 3)), p_s 5 (.bin .geq (.t 4) (o_i 0)), p_m 6 5, p_g 7 6 true (.fa 0 (.t 1)), p_g 8 6 true (.ld none (.t 7)), p_g 9 6 true (.bin .leq (.t 8) (o_i 12)),
 p_s 10 (.pick (.t 6) (.t 9) (.c (.r (.v (.bool false))))), p_m 11 10, p_g 12 11 true (.fa 1 (.t 1)), p_g 13 11 true (.fa 0 (.t 12)), p_g 14 11 true (.ld none (.t 13)),
 ⟨(some 15), (some (11, true)), 1, .call 94 [(.t 14), (o_i 1073741824)]⟩, p_s 16 (.pick (.t 11) (.t 15) (.c (.r (.v (.bool false))))), p_m 17 16, p_g 18 17 true (.fa 1 (.t 1)),
 p_g 19 17 true (.fa 1 (.t 18)), p_g 20 17 true (.ld none (.t 19)), ⟨(some 21), (some (17, true)), 2, .call 94 [(.t 20), (o_i 1073741824)]⟩, p_s 22 (.pick (.t 17) (.t 21) (.c (.r (.v (.bool false))))),
 p_m 2 22])
 .ret))
theorem cell_shape_triple : Fun P0 169 1 [(2, false, none)] cell_shape_pc := fun_mk Go.Proofs.Tryz.func169 rfl (by decide) (by kernel_rfl) (by decide) rfl (by kernel_rfl) (by kernel_rfl) (by decide)
noncomputable def cell_digit_pc : PC :=
  (.seq (.reg [p_a 1 (.box (.t 0)), p_s 2 (.mov (o_i 0))])
 (.seq (.seq (.reg [p_s 4 (.mov (o_i 0))])
 (.block 0 (.loop (.seq (.reg [p_s 5 (.bin .lss (.t 4) (o_i 6))])
 (.seq (.cond (.t 5)
 .skip
 (.exit 0))
 (.seq (.block 1 (.seq (.reg [p_m 6 4, p_m 3 6])
 (.seq (.drw [p_m 7 3, p_c 8 1 54 [.t 7], p_s 9 (.ld (some 2) (.t 1)), p_s 10 (.eqa false [0, 0] (.t 8) (.t 9))]
 [[], [0], [], [0, 1, 2]])
 (.cond (.t 10)
 (.seq (.reg [p_m 11 3, p_s 12 (.bin .add (.t 11) (o_i 1)), p_m 2 12])
 .ret)
 .skip))))
 (.reg [p_s 13 (.bin .add (.t 4) (o_i 1)), p_m 4 13])))))))
 (.seq (.reg [p_s 2 (.mov (o_i 0))])
 .ret)))
theorem cell_digit_triple : Fun P0 171 1 [(2, false, none)] cell_digit_pc := fun_mk Go.Proofs.Tryz.func171 rfl (by decide) (by kernel_rfl) (by decide) rfl (by kernel_rfl) (by kernel_rfl) (by decide)
noncomputable def cell_Way_1_pc : PC :=
  (.seq (.reg [p_s 2 (.mov (.c (.r (.v (.bool false)))))])
 (.seq (.reg [p_m 3 0, p_s 4 (.bin .geq (.t 3) (o_i (-512))), p_m 5 4, p_g 6 5 true (.mov (.t 0)), p_g 7 5 true (.bin .lss (.t 6) (o_i 512)), p_s 8 (.pick (.t 5) (.t 7) (.c (.r (.v (.bool false))))),
 p_m 2 8])
 .ret))
theorem cell_Way_1_triple : Fun P0 172 1 [(2, false, none)] cell_Way_1_pc := fun_mk Go.Proofs.Tryz.func172 rfl (by decide) (by kernel_rfl) (by decide) rfl (by kernel_rfl) (by kernel_rfl) (by decide)
noncomputable def cell_Way_pc : PC :=
  (.seq (.reg [p_a 1 (.box (.t 0)), p_a 2 (.new [(.r (.v (.int .i64 0))), (.r (.v (.int .i64 0)))]), p_a 3 (.new [(.r (.v (.int .i64 0))), (.r (.v (.int .i64 0))), (.r (.v (.int .i64 0))), (.r (.v (.int .i64 0))), (.r (.v (.int .i64 0))), (.r (.v (.int .i64 0))), (.r (.v (.int .i64 0))), (.r (.v (.int .i64 0))), (.r (.v (.int .i64 0))), (.r (.v (.int .i64 0))), (.r (.v (.int .i64 0))), (.r (.v (.int .i64 0))), (.r (.v (.int .i64 0)))]),
 p_s 4 (.mov (.c (.r (.v (.bool false)))))])
 (.seq (.seq (.reg [p_s 10 (.ld (some 3) (.t 1)), p_c 11 1 169 [.t 10], p_s 12 (.un .not (.t 11))])
 (.cond (.t 12)
 (.seq (.drw [p_s 13 (.ld (some 2) (.t 2)), p_s 14 (.ld (some 13) (.t 3)), ⟨none, none, 0, .act (.st 2 (.t 2) (.t 13))⟩, ⟨none, none, 0, .act (.st 13 (.t 3) (.t 14))⟩, p_s 4 (.mov (.c (.r (.v (.bool false)))))]
 [[], [], [0], [0, 1, 2], [0, 1, 2, 3]])
 .ret)
 .skip))
 (.seq (.reg [p_s 15 (.fa 1 (.t 1)), p_s 16 (.ld (some 2) (.t 15)), p_a 5 (.new [(.r (.v (.int .i64 0))), (.r (.v (.int .i64 0)))]), ⟨none, none, 0, .act (.st 2 (.t 5) (.t 16))⟩])
 (.seq (.seq (.reg [p_s 17 (.fa 0 (.t 1)), p_s 18 (.ld none (.t 17)), p_m 6 18])
 (.block 0 (.loop (.seq (.seq (.reg [p_m 19 6, p_s 20 (.bin .gtr (.t 19) (o_i 0))])
 (.cond (.t 20)
 .skip
 (.exit 0)))
 (.seq (.block 1 (.seq (.reg [p_s 24 (.ld (some 2) (.t 5)), p_c 25 2 170 [.t 24], p_m 23 25, p_s 26 (.ext (.t 23) 0), p_s 27 (.ext (.t 23) 1), p_a 7 (.new [(.r (.v (.int .i64 0))), (.r (.v (.int .i64 0)))]),
 p_a 8 (.new [(.r (.v (.int .i64 0))), (.r (.v (.int .i64 0)))]), ⟨none, none, 0, .act (.st 2 (.t 7) (.t 26))⟩, ⟨none, none, 0, .act (.st 2 (.t 8) (.t 27))⟩])
 (.drw [p_m 28 6, p_s 29 (.ld (some 2) (.t 8)), p_c 30 3 171 [.t 29], p_s 31 (.ld (some 2) (.t 7)), p_s 32 (.iaa 13 1 (.t 3) (.t 28)), ⟨none, none, 0, .act (.st 1 (.t 32) (.t 30))⟩,
 ⟨none, none, 0, .act (.st 2 (.t 5) (.t 31))⟩]
 [[], [], [1], [], [0, 1, 2], [0, 1, 2, 4], [0, 1, 2, 3, 4, 5]])))
 (.reg [p_m 21 6, p_s 22 (.bin .sub (.t 21) (o_i 1)), p_m 6 22]))))))
 (.seq (.reg [p_s 9 (.mov (.c (.fn (.func 172) [])))])
 (.seq (.drw [p_s 33 (.ld (some 2) (.t 5)), p_s 34 (.ld (some 13) (.t 3)), p_m 35 9, p_s 36 (.fa 0 (.t 5)), p_s 37 (.ld none (.t 36)), ⟨(some 38), none, 4, .callv (.t 35) [(.t 37)]⟩,
 p_m 39 38, p_g 40 39 true (.mov (.t 9)), p_g 41 39 true (.fa 1 (.t 5)), p_g 42 39 true (.ld none (.t 41)), ⟨(some 43), (some (39, true)), 5, .callv (.t 40) [(.t 42)]⟩,
 p_s 44 (.pick (.t 39) (.t 43) (.c (.r (.v (.bool false))))), ⟨none, none, 0, .act (.st 2 (.t 2) (.t 33))⟩, ⟨none, none, 0, .act (.st 13 (.t 3) (.t 34))⟩, p_m 4 44]
 [[], [], [], [], [3], [2, 3, 4], [2, 3, 4, 5], [2, 3, 4, 5, 6], [2, 3, 4, 5, 6], [2, 3, 4, 5, 6, 8], [2, 3, 4, 5, 6, 7, 8, 9], [2, 3, 4, 5, 6, 7, 8, 9, 10], [0, 2, 3, 4, 5, 6, 7, 8, 9, 10], [0, 1, 2, 3, 4, 5, 6, 7, 8, 9, 10, 12], [0, 1, 2, 3, 4, 5, 6, 7, 8, 9, 10, 11, 12, 13]])
 .ret))))))
theorem cell_Way_triple : Fun P0 145 1 [(2, false, some (53, (some 2))), (3, false, some (189, (some 13))), (4, false, none)] cell_Way_pc := fun_mk Go.Proofs.Tryz.func145 rfl (by decide) (by kernel_rfl) (by decide) rfl (by kernel_rfl) (by kernel_rfl) (by decide)
noncomputable def cell_Ok_pc : PC :=
  (.seq (.reg [p_a 1 (.box (.t 0)), p_s 2 (.mov (.c (.r (.v (.bool false)))))])
 (.seq (.reg [p_s 7 (.ld (some 3) (.t 1)), p_c 8 1 145 [.t 7], p_m 6 8, p_s 9 (.ext (.t 6) 0), p_s 10 (.ext (.t 6) 1), p_s 11 (.ext (.t 6) 2), p_a 3 (.new [(.r (.v (.int .i64 0))), (.r (.v (.int .i64 0)))]),
 p_a 4 (.new [(.r (.v (.int .i64 0))), (.r (.v (.int .i64 0))), (.r (.v (.int .i64 0))), (.r (.v (.int .i64 0))), (.r (.v (.int .i64 0))), (.r (.v (.int .i64 0))), (.r (.v (.int .i64 0))), (.r (.v (.int .i64 0))), (.r (.v (.int .i64 0))), (.r (.v (.int .i64 0))), (.r (.v (.int .i64 0))), (.r (.v (.int .i64 0))), (.r (.v (.int .i64 0)))]),
 ⟨none, none, 0, .act (.st 2 (.t 3) (.t 9))⟩, ⟨none, none, 0, .act (.st 13 (.t 4) (.t 10))⟩, p_m 5 11])
 (.seq (.reg [p_m 12 5, p_m 2 12])
 .ret)))
theorem cell_Ok_triple : Fun P0 115 1 [(2, false, none)] cell_Ok_pc := fun_mk Go.Proofs.Tryz.func115 rfl (by decide) (by kernel_rfl) (by decide) rfl (by kernel_rfl) (by kernel_rfl) (by decide)
theorem pr_In {z : Ei} {n : Int} (h : z.In n) (h1 : 2 ≤ n) : (pr z).In n := by
 obtain ⟨l, _, g1, e1, f1⟩ := pr_spec z
 generalize pr z = q at *
 unfold Ei.H at g1
 unfold Ei.In at *
 omega
theorem anc_In {z : Ei} {n : Int} (k : Nat) (h : z.In n) (h1 : 2 ≤ n) : (anc k z).In n := by
 induction k generalizing z with
 | zero => exact h
 | succ k ih => exact ih (pr_In h h1)
theorem lft_In (z : Ei) : (lft z).In 1 := by
 obtain ⟨l, e, g1, _⟩ := pr_spec z
 rw [e]
 exact g1.in
theorem split_t (z : Ei) (h : z.In 1073741824) : Triple P0 170 [z.v] [] (.tup [(pr z).v, (lft z).v]) [] := by
 refine cell_split_triple rfl (by decide) ?_
 simp only [cell_split_pc, Ei.v, Ei.rv, push_cast, ↓reduceIte, reduceCtorEq, zB, zE, zA, zS, zL, zD, zM]
 refine call_as (as' := [beta.v]) rfl ?_
 refine call_mk (econj_t beta (by unfold Ei.In; decide)) rfl trivial ?_
 simp only [Ei.v, Ei.rv, push_cast, ↓reduceIte, reduceCtorEq, zB, zE, zA, zS, zL, zD, zM]
 have h1 : (z.mul ⟨3, -1⟩).In 9663676416 := (mul_In h (show (⟨3, -1⟩ : Ei).In 3 by unfold Ei.In; decide)).mono (by decide)
 refine call_as (as' := [z.v, Ei.v ⟨3, -1⟩]) rfl ?_
 refine call_mk (emul_t _ _ (h.mono (by decide)) (show (⟨3, -1⟩ : Ei).In _ by unfold Ei.In; decide) (h1.mono (by decide))) rfl trivial ?_
 simp only [Ei.v, Ei.rv, push_cast, ↓reduceIte, reduceCtorEq, zB, zE, zA, zS, zL, zD, zM]
 refine call_as (as' := [(z.mul ⟨3, -1⟩).v, int .i64 7]) rfl ?_
 refine call_mk (eround_t _ 7 (h1.mono (by decide)) (by decide)) rfl trivial ?_
 rw [show (z.mul ⟨3, -1⟩).round 7 = pr z from rfl]
 have h2 : (pr z).In 1073741824 := pr_In h (by decide)
 have h3 : ((pr z).mul beta).In 6442450944 := (mul_In h2 (show beta.In 2 by unfold Ei.In; decide)).mono (by decide)
 simp only [Ei.v, Ei.rv, push_cast, ↓reduceIte, reduceCtorEq, zB, zE, zA, zS, zL, zD, zM]
 refine call_as (as' := [(pr z).v, beta.v]) rfl ?_
 refine call_mk (emul_t _ _ (h2.mono (by decide)) (show beta.In _ by unfold Ei.In; decide) (h3.mono (by decide))) rfl trivial ?_
 simp only [Ei.v, Ei.rv, push_cast, ↓reduceIte, reduceCtorEq, zB, zE, zA, zS, zL, zD, zM]
 refine call_as (as' := [z.v, ((pr z).mul beta).v]) rfl ?_
 refine call_mk (esub_t _ _ (h.mono (by decide)) (h3.mono (by decide)) ((lft_In z).mono (by decide))) rfl trivial ?_
 rw [show z.sub ((pr z).mul beta) = lft z from rfl]
 simp only [Ei.v, Ei.rv, push_cast, ↓reduceIte, reduceCtorEq, zB, zE, zA, zS, zL, zD, zM]
 kernel_rfl
def cel (r : Int) (z : Ei) : AV := .r (.agg [.v (.int .i64 r), .v (.int .i64 z.a), .v (.int .i64 z.b)])
instance (z : Ei) (n : Int) : Decidable (z.In n) := inferInstanceAs (Decidable (_ ∧ _))
def shapeB (r : Int) (z : Ei) : Bool := decide ((0 ≤ r ∧ r ≤ 12) ∧ z.In 1073741824)
theorem shape_t (r : Int) (z : Ei) (hz : z.In M63) : Triple P0 169 [cel r z] [] (bl (shapeB r z)) [] := by
 refine cell_shape_triple rfl (by decide) ?_
 simp only [cell_shape_pc, cel, push_cast, ↓reduceIte, reduceCtorEq, zB, zE, zA, zS, zL, zD, zM]
 by_cases h1 : 0 ≤ r
 ·by_cases h2 : r ≤ 12
  ·have g1 : decide (r ≥ 0) = true := by simp; omega
   have g2 : decide (r ≤ 12) = true := by simp; omega
   simp only [g1, g2, push_cast, ↓reduceIte, reduceCtorEq, zB, zE, zA, zS, zL, zD, zM]
   refine call_mk (within_t _ _ hz.ok.1 (by decide)) rfl trivial ?_
   by_cases h3 : -1073741824 ≤ z.a ∧ z.a ≤ 1073741824
   ·rw [decide_eq_true h3]
    simp only [push_cast, ↓reduceIte, reduceCtorEq, zB, zE, zA, zS, zL, zD, zM]
    refine call_mk (within_t _ _ hz.ok.2 (by decide)) rfl trivial ?_
    simp only [push_cast, ↓reduceIte, reduceCtorEq, zB, zE, zA, zS, zL, zD, zM]
    refine bl_iff ?_
    simp [shapeB, Ei.In, h1, h2, h3.1, h3.2]
   ·rw [decide_eq_false h3]
    simp only [push_cast, ↓reduceIte, reduceCtorEq, zB, zE, zA, zS, zL, zD, zM]
    have : shapeB r z = false := by simp only [shapeB, Ei.In]; exact decide_eq_false fun c => h3 c.2.1
    rw [this]
  ·have g1 : decide (r ≥ 0) = true := by simp; omega
   have g2 : decide (r ≤ 12) = false := by simp; omega
   simp only [g1, g2, push_cast, ↓reduceIte, reduceCtorEq, zB, zE, zA, zS, zL, zD, zM]
   have : shapeB r z = false := by simp only [shapeB, decide_eq_false_iff_not]; omega
   rw [this]
 ·have g1 : decide (r ≥ 0) = false := by simp; omega
  simp only [g1, push_cast, ↓reduceIte, reduceCtorEq, zB, zE, zA, zS, zL, zD, zM]
  have : shapeB r z = false := by simp only [shapeB, decide_eq_false_iff_not]; omega
  rw [this]
theorem dgOf_uni (i : Nat) (h : i < 6) : dgOf (uni i) = i + 1 := by
 rcases lt6 h with rfl | rfl | rfl | rfl | rfl | rfl <;> decide
theorem dgOf_no (l : Ei) (h : ∀ j : Nat, j < 6 → uni j ≠ l) : dgOf l = 0 := by
 have h0 := h 0 (by decide); have h1 := h 1 (by decide); have h2 := h 2 (by decide); have h3 := h 3 (by decide); have h4 := h 4 (by decide); have h5 := h 5 (by decide)
 unfold dgOf
 rw [if_neg (show ¬ l = ⟨1, 0⟩ from Ne.symm h0), if_neg (show ¬ l = ⟨0, 1⟩ from Ne.symm h1), if_neg (show ¬ l = ⟨-1, 1⟩ from Ne.symm h2), if_neg (show ¬ l = ⟨-1, 0⟩ from Ne.symm h3), if_neg (show ¬ l = ⟨0, -1⟩ from Ne.symm h4), if_neg (show ¬ l = ⟨1, -1⟩ from Ne.symm h5)]
theorem digit_t (l : Ei) : Triple P0 171 [l.v] [] (int .i64 (dgOf l)) [] := by
 refine cell_digit_triple rfl (by decide) ?_
 simp only [cell_digit_pc, Ei.v, Ei.rv, push_cast, ↓reduceIte, reduceCtorEq, zB, zE, zA, zS, zL, zD, zM]
 refine run_loop [(4, false), (1, false)] (fun vs pos los => ∃ i : Int, (0 ≤ i ∧ i ≤ 6) ∧ (∀ j : Nat, (j : Int) < i → uni j ≠ l) ∧ vs = [int .i64 i, .ptr 2000000 0 0] ∧ pos = [] ∧ los = [.box [int .i64 l.a, int .i64 l.b]])
  (fun vs _ _ => match vs with | .r (.v (.int _ j)) :: _ => (6 - j).toNat | _ => 0) rfl ?_ ?_
 ·simp only [push_cast, ↓reduceIte, reduceCtorEq, zB, zE, zA, zS, zL, zD, zM]
  exact ⟨0, by omega, fun j hj => by omega, rfl⟩
 ·rintro vs pos los ⟨i, i6, hj, rfl, rfl, rfl⟩
  simp only [push_cast, ↓reduceIte, reduceCtorEq, zB, zE, zA, zS, zL, zD, zM]
  refine cnd_mk (fun h => ?_) (fun h => ?_)
  ·simp only [decide_eq_true_eq] at h
   simp only [push_cast, ↓reduceIte, reduceCtorEq, zB, zE, zA, zS, zL, zD, zM]
   refine dcall_mk (eunit_t i ⟨i6.1, h⟩) rfl trivial ?_
   simp only [Ei.v, Ei.rv, push_cast, ↓reduceIte, reduceCtorEq, zB, zE, zA, zS, zL, zD, zM]
   refine ⟨by kernel_rfl, cnd_mk (fun h' => ?_) (fun h' => ?_)⟩
   ·have e : uni i.toNat = l := by
     simp only [Bool.and_eq_true, beq_iff_eq] at h'
     exact Ei.ext' h'.1 h'.2
    simp only [push_cast, ↓reduceIte, reduceCtorEq, zB, zE, zA, zS, zL, zD, zM]
    rw [← e, dgOf_uni _ (by omega), wrap_id (by omega), show ((i.toNat + 1 : Nat) : Int) = i + 1 by omega]
   ·have e : uni i.toNat ≠ l := fun e => by rw [e] at h'; simp at h'
    simp only [push_cast, ↓reduceIte, reduceCtorEq, zB, zE, zA, zS, zL, zD, zM]
    rw [wrap_id (by omega)]
    refine ⟨⟨i + 1, by omega, fun j hj' => ?_, rfl⟩, by omega⟩
    by_cases hji : (j : Int) = i
    ·rw [show j = i.toNat by omega]; exact e
    ·exact hj j (by omega)
  ·have hi : i = 6 := by simp at h; omega
   subst hi
   simp only [push_cast, ↓reduceIte, reduceCtorEq, zB, zE, zA, zS, zL, zD, zM]
   rw [dgOf_no l fun j h6 => hj j (by omega)]
   rfl
theorem in_t (n : Int) : Triple P0 172 [int .i64 n] [] (bl (decide (-512 ≤ n ∧ n ≤ 511))) [] := by
 refine cell_Way_1_triple rfl (by decide) ?_
 simp only [cell_Way_1_pc, push_cast, ↓reduceIte, reduceCtorEq, zB, zE, zA, zS, zL, zD, zM]
 refine bl_iff ?_
 by_cases h1 : -512 ≤ n <;> by_cases h2 : n < 512 <;> simp [h1, h2] <;> omega
def digs (r : Nat) (z : Ei) (i : Nat) : List AV := (List.range 13).map fun j => int .i64 (if i < j ∧ j ≤ r then (dg (anc (r - j) z) : Int) else 0)
theorem digs_len (r : Nat) (z : Ei) (i : Nat) : (digs r z i).length = 13 := by simp [digs]
theorem digs_zero (r : Nat) (z : Ei) : digs r z r = [int .i64 0, int .i64 0, int .i64 0, int .i64 0, int .i64 0, int .i64 0, int .i64 0, int .i64 0, int .i64 0, int .i64 0, int .i64 0, int .i64 0, int .i64 0] := by
 have : ∀ j, ¬ (r < j ∧ j ≤ r) := fun j => by omega
 simp only [digs, this, if_false]
 rfl
theorem digs_step (r : Nat) (z : Ei) (i : Nat) (h1 : 1 ≤ i) (h2 : i ≤ r) (hr : r ≤ 12) : splice (digs r z i) i [int .i64 (dg (anc (r - i) z))] = digs r z (i - 1) := by
 have hl := digs_len r z i
 apply List.ext_getElem
 ·simp [splice, hl, digs_len]; omega
 ·intro j j1 j2
  rw [digs_len] at j2
  have e : ∀ (k : Nat) (hk : k < (digs r z i).length), (digs r z i)[k] = int .i64 (if i < k ∧ k ≤ r then (dg (anc (r - k) z) : Int) else 0) := fun k hk => by simp [digs]
  have e' : ∀ (k : Nat) (hk : k < (digs r z (i - 1)).length), (digs r z (i - 1))[k] = int .i64 (if i - 1 < k ∧ k ≤ r then (dg (anc (r - k) z) : Int) else 0) := fun k hk => by simp [digs]
  rw [e']
  have hm : min i 13 = i := by omega
  simp only [splice, List.getElem_append, zac, List.length_take, List.length_singleton, hl, List.getElem_take, List.getElem_drop, e, hm]
  by_cases c1 : j < i
  ·rw [dif_pos (by omega), dif_pos c1, if_neg (by omega), if_neg (by omega)]
  ·by_cases c2 : j = i
   ·subst c2
    rw [dif_pos (by omega), dif_neg (by omega), if_pos (by omega)]
    simp
   ·rw [dif_neg (by omega)]
    rw [show i + 1 + (j - (i + 1)) = j by omega]
    by_cases c3 : j ≤ r
    ·rw [if_pos (by omega), if_pos (by omega)]
    ·rw [if_neg (by omega), if_neg (by omega)]
theorem hidL_ints (f : Nat → Int) (l : List Nat) : hidL (l.map fun j => int .i64 (f j)) = [] := by
 induction l with
 | nil => rfl
 | cons a l ih => show hids _ ++ hidL _ = []; rw [ih]; rfl
theorem imL_ints (F : Ren) (f : Nat → Int) (l : List Nat) : imL F (l.map fun j => int .i64 (f j)) = l.map fun j => int .i64 (f j) := by
 induction l with
 | nil => rfl
 | cons a l ih => show imV F _ :: imL F _ = _; rw [ih]; rfl
theorem hidL_digs (r : Nat) (z : Ei) (i : Nat) : hidL (digs r z i) = [] := hidL_ints _ _
theorem imL_digs (F : Ren) (r : Nat) (z : Ei) (i : Nat) : imL F (digs r z i) = digs r z i := imL_ints F _ _
theorem take_digs (r : Nat) (z : Ei) (i : Nat) : List.take 13 (digs r z i) = digs r z i := List.take_of_length_le (by rw [digs_len]; exact Nat.le_refl _)
def digsR (r : Nat) (z : Ei) (i : Nat) : List RV := (List.range 13).map fun j => .v (.int .i64 (if i < j ∧ j ≤ r then (dg (anc (r - j) z) : Int) else 0))
theorem rvs_ints (ob : Obs) (f : Nat → Int) (l : List Nat) : rvs ob (l.map fun j => int .i64 (f j)) = some (l.map fun j => .v (.int .i64 (f j)), []) := by
 induction l with
 | nil => rfl
 | cons a l ih => show rvs ob (_ :: _) = _; simp only [rvs, AV.rv, ih]; rfl
theorem rvs_digs (ob : Obs) (r : Nat) (z : Ei) (i : Nat) : rvs ob (digs r z i) = some (digsR r z i, []) := rvs_ints ob _ _
theorem over_digs (r : Nat) (z : Ei) (i : Nat) : digs r z i ++ List.drop 13 (digs r z i) = digs r z i := by
 rw [List.drop_of_length_le (by rw [digs_len]; exact Nat.le_refl _), zab]
attribute [push_cast high] rvs_digs over_digs
attribute [push_cast high] hidL_digs imL_digs take_digs digs_len
theorem digs_put (r : Nat) (z : Ei) (i : Nat) (h1 : 1 ≤ i) (h2 : i ≤ r) (hr : r ≤ 12) : List.take (0 + i * 1) (digs r z i) ++ [int .i64 (dgOf (lft (anc (r - i) z)))] ++ List.drop (0 + i * 1 + 1) (digs r z i) = digs r z (i - 1) := by
 rw [← digs_step r z i h1 h2 hr, splice, Nat.mul_one, Nat.zero_add]
 rfl
def baseB (q : Ei) : Bool := decide ((-512 ≤ q.a ∧ q.a ≤ 511) ∧ (-512 ≤ q.b ∧ q.b ≤ 511))
theorem way_t (r : Int) (z : Ei) (h : shapeB r z = true) : Triple P0 145 [cel r z] [] (.tup [(anc r.toNat z).v, .r (.agg (digsR r.toNat z 0)), bl (baseB (anc r.toNat z))]) [] := by
 refine cell_Way_triple rfl (by decide) ?_
 have h' := h
 simp only [shapeB, decide_eq_true_eq] at h'
 simp only [cell_Way_pc, cel, push_cast, ↓reduceIte, reduceCtorEq, zB, zE, zA, zS, zL, zD, zM]
 refine call_as (as' := [cel r z]) rfl ?_
 refine call_mk (shape_t r z (h'.2.mono (by decide))) rfl trivial ?_
 rw [h]
 simp only [push_cast, ↓reduceIte, reduceCtorEq, zB, zE, zA, zS, zL, zD, zM]
 obtain ⟨⟨r0, r12⟩, hz⟩ := h'
 refine run_loop [(6, false), (5, false), (3, false), (2, false)] (fun vs pos los => ∃ i : Int, (0 ≤ i ∧ i ≤ r) ∧ vs = [int .i64 i, .ptr 2000000 0 0, .ptr 2000001 0 0, .ptr 2000002 0 0] ∧ pos = [] ∧ los = [.box [int .i64 (anc (r - i).toNat z).a, int .i64 (anc (r - i).toNat z).b], .box (digs r.toNat z i.toNat), .box [int .i64 0, int .i64 0]])
  (fun vs _ _ => match vs with | .r (.v (.int _ j)) :: _ => j.toNat | _ => 0) rfl ?_ ?_
 ·simp only [push_cast, ↓reduceIte, reduceCtorEq, zB, zE, zA, zS, zL, zD, zM]
  refine ⟨r, by omega, ?_⟩
  rw [digs_zero, Int.sub_self]
  exact ⟨rfl, rfl⟩
 ·rintro vs pos los ⟨i, i6, rfl, rfl, rfl⟩
  simp only [push_cast, ↓reduceIte, reduceCtorEq, zB, zE, zA, zS, zL, zD, zM]
  refine cnd_mk (fun h => ?_) (fun h => ?_)
  ·simp only [decide_eq_true_eq] at h
   simp only [push_cast, ↓reduceIte, reduceCtorEq, zB, zE, zA, zS, zL, zD, zM]
   have ha := anc_In (r - i).toNat hz (by decide)
   refine call_as (as' := [(anc (r - i).toNat z).v]) rfl ?_
   refine call_mk (split_t _ ha) rfl trivial ?_
   simp only [Ei.v, Ei.rv, push_cast, ↓reduceIte, reduceCtorEq, zB, zE, zA, zS, zL, zD, zM]
   refine dcall_as (as' := [(lft (anc (r - i).toNat z)).v]) rfl ?_
   refine dcall_mk (digit_t _) rfl trivial ?_
   have hst := digs_put r.toNat z i.toNat (by omega) (by omega) (by omega)
   rw [show r.toNat - i.toNat = (r - i).toNat by omega] at hst
   have hpr : pr (anc (r - i).toNat z) = anc (r - (i - 1)).toNat z := by rw [← anc_succ, show (r - i).toNat + 1 = (r - (i - 1)).toNat by omega]
   simp only [Ei.v, Ei.rv, hst, push_cast, ↓reduceIte, reduceCtorEq, zB, zE, zA, zS, zL, zD, zM]
   rw [show IntKind.i64.wrap (i - 1) = i - 1 from wrap_id (by omega), hpr]
   refine ⟨by omega, by omega, by kernel_rfl, ⟨i - 1, by omega, rfl, ?_⟩, by omega⟩
   rw [show (i - 1).toNat = i.toNat - 1 by omega]
  ·have hi : i = 0 := by simp at h; omega
   subst hi
   have ha := anc_In r.toNat hz (by decide)
   simp only [push_cast, ↓reduceIte, reduceCtorEq, zB, zE, zA, zS, zL, zD, zM]
   rw [show (r - 0).toNat = r.toNat by omega, show Int.toNat 0 = 0 from rfl]
   refine ⟨by kernel_rfl, ?_⟩
   refine dcall_mk (in_t _) rfl trivial ?_
   by_cases c : -512 ≤ (anc r.toNat z).a ∧ (anc r.toNat z).a ≤ 511
   ·rw [decide_eq_true c]
    simp only [push_cast, ↓reduceIte, reduceCtorEq, zB, zE, zA, zS, zL, zD, zM]
    refine ⟨by kernel_rfl, ?_⟩
    refine dcall_mk (in_t _) rfl trivial ?_
    simp only [Ei.v, Ei.rv, push_cast, ↓reduceIte, reduceCtorEq, zB, zE, zA, zS, zL, zD, zM]
    refine ⟨by kernel_rfl, ?_⟩
    simp [baseB, c.1, c.2]
    kernel_rfl
   ·rw [decide_eq_false c]
    simp only [Ei.v, Ei.rv, push_cast, ↓reduceIte, reduceCtorEq, zB, zE, zA, zS, zL, zD, zM]
    refine ⟨by kernel_rfl, ?_⟩
    simp only [baseB, c, false_and, decide_false]
    exact ⟨by kernel_rfl, trivial⟩
def okB' (r : Int) (z : Ei) : Bool := shapeB r z && baseB (anc r.toNat z)
theorem okc_B {r : Int} {z : Ei} (h0 : 0 ≤ r) (h : okc r.toNat z) : shapeB r z = true ∧ baseB (anc r.toNat z) = true := by
 obtain ⟨h1, h2, h3, h4⟩ := h
 simp only [shapeB, baseB, decide_eq_true_eq]
 exact ⟨⟨⟨h0, by omega⟩, h2⟩, h3, h4⟩
theorem cok_t (r : Int) (z : Ei) (h0 : 0 ≤ r) (h : okc r.toNat z) : Triple P0 115 [cel r z] [] (bl true) [] := by
 refine cell_Ok_triple rfl (by decide) ?_
 simp only [cell_Ok_pc, cel, push_cast, ↓reduceIte, reduceCtorEq, zB, zE, zA, zS, zL, zD, zM]
 refine call_as (as' := [cel r z]) rfl ?_
 refine call_mk (way_t r z (okc_B h0 h).1) rfl trivial ?_
 rw [(okc_B h0 h).2]
 simp only [Ei.v, Ei.rv, push_cast, ↓reduceIte, reduceCtorEq, zB, zE, zA, zS, zL, zD, zM]
 refine ⟨by simp [digsR], ?_⟩
 simp only [digsR, List.map_map, List.all_map]
 rw [List.all_eq_true]
 intro x hx
 rfl

end Go.Ev
