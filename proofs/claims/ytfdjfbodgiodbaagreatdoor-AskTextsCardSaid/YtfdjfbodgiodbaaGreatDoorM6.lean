import Derived.Test.YtfdjfbodgiodbaaGreatDoorChecked
import Derived.KernelRfl
import Derived.Test.YtfdjfbodgiodbaaGreatDoorM5
open Nat renaming reduceBEq → zB, reduceEqDiff → zE, reduceAdd → zA, reduceSub → zS, reduceLT → zL, reduceLeDiff → zD, reduceMul → zM
open Go.Proofs.Tryz renaming prog → P0
open BitVec renaming ofInt → zaa, ofNat → zaj, toNat_ofNat → zay
open Nat renaming pow_add → zab, pow_le_pow_right → zac, mul_assoc → zad, add_mul → zaf, pow_pos → zai, pow_succ → zak, mul_comm → zal, or_comm → zam, or_assoc → zan, mul_le_mul → zao, add_mul_div_right → zaq, div_eq_of_lt → zat, testBit_two_pow_mul_add → zau, or_lt_two_pow → zav, lt_of_le_of_lt → zaw, div_div_eq_div_mul → zaz, testBit_lt_two_pow → zba
open Int renaming toNat → zae, emod_lt_of_pos → zag, emod_nonneg → zah, tmod_eq_emod_of_nonneg → zap, mul_ediv_add_emod → zar, natAbs_mul → zas, fdiv_eq_ediv_of_nonneg → zax
namespace Go.Ev
set_option maxRecDepth 100000
open Go
set_option linter.unusedSectionVars false
set_option linter.unnecessarySimpa false
set_option linter.unusedSimpArgs false
set_option linter.unusedVariables false
noncomputable def num_Add_pc : PC :=
  (.seq (.reg [p_s 4 (.mov (o_i 0)), p_s 5 (.mov (.c (.r (.v (.bool false)))))])
 (.seq (.reg [p_m 7 0, p_m 8 1, p_s 9 (.bin .add (.t 7) (.t 8)), p_m 6 9])
 (.seq (.seq (.reg [p_m 10 6, p_m 11 0, p_s 12 (.bin .gtr (.t 10) (.t 11)), p_m 13 1, p_s 14 (.bin .gtr (.t 13) (o_i 0)), p_s 15 (.beq true (.t 12) (.t 14)), p_m 16 15, p_g 17 16 true (.mov (.t 1)),
 p_g 18 16 true (.bin .neq (.t 17) (o_i 0)), p_s 19 (.pick (.t 16) (.t 18) (.c (.r (.v (.bool false)))))])
 (.cond (.t 19)
 (.seq (.reg [p_s 4 (.mov (o_i 0)), p_s 5 (.mov (.c (.r (.v (.bool false)))))])
 .ret)
 .skip))
 (.seq (.reg [p_m 20 6, p_m 4 20, p_s 5 (.mov (.c (.r (.v (.bool true)))))])
 .ret))))
theorem num_Add_triple : Fun P0 158 2 [(4, false, none), (5, false, none)] num_Add_pc := fun_mk Go.Proofs.Tryz.func158 rfl (by decide) (by kernel_rfl) (by decide) rfl (by kernel_rfl) (by kernel_rfl) (by decide)
noncomputable def bits_Mul64_pc : PC :=
  (.seq (.reg [p_s 4 (.mov (.c (.r (.v (.int .u64 0))))), p_s 5 (.mov (.c (.r (.v (.int .u64 0)))))])
 (.seq (.reg [p_m 14 0, p_s 15 (.bin .and (.t 14) (.c (.r (.v (.int .u64 4294967295))))), p_m 6 15])
 (.seq (.reg [p_m 16 0, p_s 17 (.bin .shr (.t 16) (.c (.r (.v (.int .u64 32))))), p_m 7 17])
 (.seq (.reg [p_m 18 1, p_s 19 (.bin .and (.t 18) (.c (.r (.v (.int .u64 4294967295))))), p_m 8 19])
 (.seq (.reg [p_m 20 1, p_s 21 (.bin .shr (.t 20) (.c (.r (.v (.int .u64 32))))), p_m 9 21])
 (.seq (.reg [p_m 22 6, p_m 23 8, p_s 24 (.bin .mul (.t 22) (.t 23)), p_m 10 24])
 (.seq (.reg [p_m 25 7, p_m 26 8, p_s 27 (.bin .mul (.t 25) (.t 26)), p_m 28 10, p_s 29 (.bin .shr (.t 28) (.c (.r (.v (.int .u64 32))))), p_s 30 (.bin .add (.t 27) (.t 29)),
 p_m 11 30])
 (.seq (.reg [p_m 31 11, p_s 32 (.bin .and (.t 31) (.c (.r (.v (.int .u64 4294967295))))), p_m 12 32])
 (.seq (.reg [p_m 33 11, p_s 34 (.bin .shr (.t 33) (.c (.r (.v (.int .u64 32))))), p_m 13 34])
 (.seq (.reg [p_m 35 12, p_m 36 6, p_m 37 9, p_s 38 (.bin .mul (.t 36) (.t 37)), p_s 39 (.bin .add (.t 35) (.t 38)), p_m 12 39])
 (.seq (.reg [p_m 40 7, p_m 41 9, p_s 42 (.bin .mul (.t 40) (.t 41)), p_m 43 13, p_s 44 (.bin .add (.t 42) (.t 43)), p_m 45 12, p_s 46 (.bin .shr (.t 45) (.c (.r (.v (.int .u64 32))))),
 p_s 47 (.bin .add (.t 44) (.t 46)), p_m 4 47])
 (.seq (.reg [p_m 48 0, p_m 49 1, p_s 50 (.bin .mul (.t 48) (.t 49)), p_m 5 50])
 .ret))))))))))))
theorem bits_Mul64_triple : Fun P0 132 2 [(4, false, none), (5, false, none)] bits_Mul64_pc := fun_mk Go.Proofs.Tryz.func132 rfl (by decide) (by kernel_rfl) (by decide) rfl (by kernel_rfl) (by kernel_rfl) (by decide)
def sm (x : Int) : AV := .tup [int .i64 (if in64 x then x else 0), bl (decide (in64 x))]
theorem sm_yes {x y : Int} (h : x = y) (hx : in64 y) : AV.tup [int .i64 x, bl true] = sm y := by simp [sm, hx, h]
theorem sm_no {y : Int} (hx : ¬ in64 y) : AV.tup [int .i64 0, bl false] = sm y := by simp [sm, hx]
theorem shr32 (n : Nat) : (n : Int).fdiv (2 ^ min (zae 32) IntKind.u64.bits) = ((n / 4294967296 : Nat) : Int) := by
 have : (2 : Int) ^ min (zae 32) IntKind.u64.bits = 4294967296 := by decide
 rw [this, zax _ (by decide)]
 omega
theorem wrapN (n : Nat) : IntKind.u64.wrap (n : Int) = ((n % 18446744073709551616 : Nat) : Int) := by
 rw [IntKind.wrap_u64]; omega
theorem and32 (n : Nat) : (zaa IntKind.u64.bits (n : Int) &&& zaa IntKind.u64.bits 4294967295).toNat = n % 4294967296 := by
 have h1 : zaa IntKind.u64.bits (n : Int) = zaj 64 n := by simp [IntKind.bits]
 have h2 : zaa IntKind.u64.bits 4294967295 = zaj 64 (2 ^ 32 - 1) := rfl
 rw [h1, h2]
 show (zaj 64 n &&& zaj 64 (2 ^ 32 - 1)).toNat = _
 rw [BitVec.toNat_and, zay, zay, show (2 ^ 32 - 1) % 2 ^ 64 = 2 ^ 32 - 1 by decide, Nat.and_two_pow_sub_one_eq_mod]
 omega
theorem nat_parts {x y a b c d : Nat} (hx : x = a * 4294967296 + b) (hy : y = c * 4294967296 + d) : x * y = (a * c) * 18446744073709551616 + (a * d + b * c) * 4294967296 + b * d := by
 subst hx; subst hy
 rw [zaf, Nat.mul_add, Nat.mul_add]
 have e1 : a * 4294967296 * (c * 4294967296) = (a * c) * 18446744073709551616 := by
  rw [Nat.mul_mul_mul_comm]
 have e2 : a * 4294967296 * d = (a * d) * 4294967296 := Nat.mul_right_comm _ _ _
 have e3 : b * (c * 4294967296) = (b * c) * 4294967296 := (zad _ _ _).symm
 rw [e1, e2, e3]
 omega
theorem mul_bound {a b : Nat} (ha : a < 4294967296) (hb : b < 4294967296) : a * b ≤ 18446744065119617025 := by
 have : a * b ≤ 4294967295 * 4294967295 := zao (by omega) (by omega)
 omega
theorem add_t (a b : Int) (ha : in64 a) (hb : in64 b) : Triple P0 158 [int .i64 a, int .i64 b] [] (sm (a + b)) [] := by
 refine num_Add_triple rfl (by decide) ?_
 simp only [num_Add_pc, push_cast, ↓reduceIte, reduceCtorEq, zB, zE, zA, zS, zL, zD, zM]
 unfold in64 at ha hb
 refine cnd_mk (fun h => ?_) (fun h => ?_)
 ·simp only [push_cast, ↓reduceIte, reduceCtorEq, zB, zE, zA, zS, zL, zD, zM]
  refine sm_no ?_
  rw [IntKind.wrap_i64] at h
  unfold in64; by_cases h1 : (a + b + 9223372036854775808) % 18446744073709551616 - 9223372036854775808 > a <;> by_cases h2 : b > 0 <;> by_cases h3 : b = 0 <;> simp only [h1, h2, h3, decide_true, decide_false] at h <;> first | omega | (simp at h; done) | (simp at h; omega)
 ·simp only [push_cast, ↓reduceIte, reduceCtorEq, zB, zE, zA, zS, zL, zD, zM]
  rw [IntKind.wrap_i64] at h ⊢
  have : in64 (a + b) := by
   unfold in64; by_cases h1 : (a + b + 9223372036854775808) % 18446744073709551616 - 9223372036854775808 > a <;> by_cases h2 : b > 0 <;> by_cases h3 : b = 0 <;> simp only [h1, h2, h3, decide_true, decide_false] at h <;> first | omega | (simp at h; done) | (simp at h; omega)
  exact sm_yes (by unfold in64 at this; omega) this
theorem mul64_t (x y : Nat) (hx : x < 18446744073709551616) (hy : y < 18446744073709551616) : Triple P0 132 [int .u64 x, int .u64 y] [] (.tup [int .u64 (x * y / 18446744073709551616 : Nat), int .u64 (x * y % 18446744073709551616 : Nat)]) [] := by
 refine bits_Mul64_triple rfl (by decide) ?_
 simp only [bits_Mul64_pc, push_cast, ↓reduceIte, reduceCtorEq, zB, zE, zA, zS, zL, zD, zM]
 refine ⟨by decide, by decide, by decide, by decide, by decide, ?_⟩
 simp only [shr32, and32, wrapN, ← Int.natCast_mul, ← Int.natCast_add]
 have hm : ∀ n : Nat, n % 4294967296 % 18446744073709551616 = n % 4294967296 := fun n => by omega
 simp only [hm]
 have key := nat_parts (x := x) (y := y) (a := x / 4294967296) (b := x % 4294967296) (c := y / 4294967296) (d := y % 4294967296) (by omega) (by omega)
 have b1 := mul_bound (a := x / 4294967296) (b := y / 4294967296) (by omega) (by omega)
 have b2 := mul_bound (a := x / 4294967296) (b := y % 4294967296) (by omega) (by omega)
 have b3 := mul_bound (a := x % 4294967296) (b := y / 4294967296) (by omega) (by omega)
 have b4 := mul_bound (a := x % 4294967296) (b := y % 4294967296) (by omega) (by omega)
 generalize x / 4294967296 * (y / 4294967296) = p at *
 generalize x / 4294967296 * (y % 4294967296) = q at *
 generalize x % 4294967296 * (y / 4294967296) = r at *
 generalize x % 4294967296 * (y % 4294967296) = t at *
 rw [key]
 congr 5
 omega

theorem tup3 {a b c a' b' c' : AV} (h1 : a = a') (h2 : b = b') (h3 : c = c') : AV.tup [a, b, c] = AV.tup [a', b', c'] := by rw [h1, h2, h3]
theorem int_eq {k : IntKind} {a b : Int} (h : a = b) : int k a = int k b := by rw [h]
theorem bl_eq {a b : Bool} (h : a = b) : bl a = bl b := by rw [h]
theorem floor_facts {a b : Int} (ha : in64 a) (hb : 0 < b) : (-9223372036854775808 ≤ a / b ∧ a / b ≤ 9223372036854775807) ∧ (a.tmod b < 0 → a.tdiv b - 1 = a / b ∧ a.tmod b + b = a % b) ∧ (0 ≤ a.tmod b → a.tdiv b = a / b ∧ a.tmod b = a % b) := by
 unfold in64 at ha
 have h1 := Int.mul_tdiv_add_tmod a b
 have h2 : a.tmod b < b := Int.tmod_lt_of_pos a hb
 have h3 : -b < a.tmod b := by
  have := Int.lt_tmod_of_pos a hb
  omega
 refine ⟨?_, fun h => ?_, fun h => ?_⟩
 ·have h4 := zar a b
  have h5 := zag a hb
  have h6 := zah a (show b ≠ 0 by omega)
  generalize a / b = q at *
  generalize a % b = r at *
  constructor
  ·rcases Int.lt_or_le q 0 with hq | hq
   ·have : b * (q + 1) ≤ 1 * (q + 1) := Int.mul_le_mul_of_nonpos_right (by omega) (by omega)
    rw [Int.mul_add] at this
    omega
   ·omega
  ·rcases Int.lt_or_le q 0 with hq | hq
   ·omega
   ·have : 1 * q ≤ b * q := Int.mul_le_mul_of_nonneg_right (by omega) hq
    omega
 ·have := (Int.ediv_emod_unique (a := a) (b := b) (r := a.tmod b + b) (q := a.tdiv b - 1) hb).2 ⟨by rw [Int.mul_sub]; omega, by omega, by omega⟩
  exact ⟨this.1.symm, this.2.symm⟩
 ·have := (Int.ediv_emod_unique (a := a) (b := b) (r := a.tmod b) (q := a.tdiv b) hb).2 ⟨by omega, by omega, by omega⟩
  exact ⟨this.1.symm, this.2.symm⟩

noncomputable def apiaryref1_W_pc : PC :=
  (.seq (.reg [p_a 2 (.new [(.r (.v (.int .u64 0))), (.r (.v (.int .u64 0)))])])
 (.seq (.reg [p_m 3 0, p_s 4 (.bin .shr (.t 3) (.c (.r (.v (.int .u64 63))))), p_s 5 (.conv .u64 (.t 4)), p_m 6 0, p_s 7 (.conv .u64 (.t 6)), p_s 8 (.build [(.r (.v (.int .u64 0))), (.r (.v (.int .u64 0)))] [(0, 1, (.t 5)), (1, 1, (.t 7))]),
 ⟨none, none, 0, .act (.st 2 (.t 2) (.t 8))⟩])
 .ret))
theorem apiaryref1_W_triple : Fun P0 159 1 [(2, false, some (172, (some 2)))] apiaryref1_W_pc := fun_mk Go.Proofs.Tryz.func159 rfl (by decide) (by kernel_rfl) (by decide) rfl (by kernel_rfl) (by kernel_rfl) (by decide)
noncomputable def apiaryref1_Wide_Plus_pc : PC :=
  (.seq (.reg [p_a 2 (.box (.t 0)), p_a 3 (.box (.t 1)), p_a 4 (.new [(.r (.v (.int .u64 0))), (.r (.v (.int .u64 0)))])])
 (.seq (.reg [p_s 10 (.fa 1 (.t 2)), p_s 11 (.ld none (.t 10)), p_s 12 (.fa 1 (.t 3)), p_s 13 (.ld none (.t 12)), p_s 14 (.carry false (.t 11) (.t 13) (.c (.r (.v (.int .u64 0))))),
 p_m 9 14, p_s 15 (.ext (.t 9) 0), p_s 16 (.ext (.t 9) 1), p_m 5 15, p_m 6 16])
 (.seq (.reg [p_s 18 (.fa 0 (.t 2)), p_s 19 (.ld none (.t 18)), p_s 20 (.fa 0 (.t 3)), p_s 21 (.ld none (.t 20)), p_m 22 6, p_s 23 (.carry false (.t 19) (.t 21) (.t 22)), p_m 17 23,
 p_s 24 (.ext (.t 17) 0), p_s 25 (.ext (.t 17) 1), p_m 7 24, p_m 8 25])
 (.seq (.reg [p_m 26 7, p_m 27 5, p_s 28 (.build [(.r (.v (.int .u64 0))), (.r (.v (.int .u64 0)))] [(0, 1, (.t 26)), (1, 1, (.t 27))]), ⟨none, none, 0, .act (.st 2 (.t 4) (.t 28))⟩])
 .ret))))
theorem apiaryref1_Wide_Plus_triple : Fun P0 112 2 [(4, false, some (172, (some 2)))] apiaryref1_Wide_Plus_pc := fun_mk Go.Proofs.Tryz.func112 rfl (by decide) (by kernel_rfl) (by decide) rfl (by kernel_rfl) (by kernel_rfl) (by decide)
noncomputable def apiaryref1_Wide_Turned_pc : PC :=
  (.seq (.reg [p_a 1 (.box (.t 0)), p_a 2 (.new [(.r (.v (.int .u64 0))), (.r (.v (.int .u64 0)))])])
 (.seq (.reg [p_s 3 (.fa 0 (.t 1)), p_s 4 (.ld none (.t 3)), p_s 5 (.un .xor (.t 4)), p_s 6 (.fa 1 (.t 1)), p_s 7 (.ld none (.t 6)), p_s 8 (.un .xor (.t 7)), p_s 9 (.build [(.r (.v (.int .u64 0))), (.r (.v (.int .u64 0)))] [(0, 1, (.t 5)), (1, 1, (.t 8))]),
 p_s 10 (.build [(.r (.v (.int .u64 0))), (.r (.v (.int .u64 0)))] [(0, 1, (.c (.r (.v (.int .u64 0))))), (1, 1, (.c (.r (.v (.int .u64 1)))))]), p_c 11 1 112 [.t 9, .t 10],
 ⟨none, none, 0, .act (.st 2 (.t 2) (.t 11))⟩])
 .ret))
theorem apiaryref1_Wide_Turned_triple : Fun P0 113 1 [(2, false, some (172, (some 2)))] apiaryref1_Wide_Turned_pc := fun_mk Go.Proofs.Tryz.func113 rfl (by decide) (by kernel_rfl) (by decide) rfl (by kernel_rfl) (by kernel_rfl) (by decide)
noncomputable def apiaryref1_Times_pc : PC :=
  (.seq (.reg [p_a 4 (.new [(.r (.v (.int .u64 0))), (.r (.v (.int .u64 0)))])])
 (.seq (.reg [p_m 9 0, p_s 10 (.conv .u64 (.t 9)), p_m 11 1, p_s 12 (.conv .u64 (.t 11)), p_m 5 10, p_m 6 12])
 (.seq (.seq (.reg [p_m 13 0, p_s 14 (.bin .lss (.t 13) (o_i 0))])
 (.cond (.t 14)
 (.reg [p_m 15 5, p_s 16 (.un .neg (.t 15)), p_m 5 16])
 .skip))
 (.seq (.seq (.reg [p_m 17 1, p_s 18 (.bin .lss (.t 17) (o_i 0))])
 (.cond (.t 18)
 (.reg [p_m 19 6, p_s 20 (.un .neg (.t 19)), p_m 6 20])
 .skip))
 (.seq (.reg [p_m 22 5, p_m 23 6, p_c 24 1 132 [.t 22, .t 23], p_m 21 24, p_s 25 (.ext (.t 21) 0), p_s 26 (.ext (.t 21) 1), p_m 7 25, p_m 8 26])
 (.seq (.seq (.reg [p_m 27 0, p_s 28 (.bin .lss (.t 27) (o_i 0)), p_m 29 1, p_s 30 (.bin .lss (.t 29) (o_i 0)), p_s 31 (.beq true (.t 28) (.t 30))])
 (.cond (.t 31)
 (.seq (.reg [p_m 32 7, p_m 33 8, p_s 34 (.build [(.r (.v (.int .u64 0))), (.r (.v (.int .u64 0)))] [(0, 1, (.t 32)), (1, 1, (.t 33))]), p_c 35 2 113 [.t 34], ⟨none, none, 0, .act (.st 2 (.t 4) (.t 35))⟩])
 .ret)
 .skip))
 (.seq (.reg [p_m 36 7, p_m 37 8, p_s 38 (.build [(.r (.v (.int .u64 0))), (.r (.v (.int .u64 0)))] [(0, 1, (.t 36)), (1, 1, (.t 37))]), ⟨none, none, 0, .act (.st 2 (.t 4) (.t 38))⟩])
 .ret)))))))
theorem apiaryref1_Times_triple : Fun P0 110 2 [(4, false, some (172, (some 2)))] apiaryref1_Times_pc := fun_mk Go.Proofs.Tryz.func110 rfl (by decide) (by kernel_rfl) (by decide) rfl (by kernel_rfl) (by kernel_rfl) (by decide)
noncomputable def apiaryref1_Wide_Small_pc : PC :=
  (.seq (.reg [p_a 1 (.box (.t 0)), p_s 2 (.mov (o_i 0)), p_s 3 (.mov (.c (.r (.v (.bool false)))))])
 (.seq (.reg [p_s 5 (.fa 1 (.t 1)), p_s 6 (.ld none (.t 5)), p_s 7 (.conv .i64 (.t 6)), p_m 4 7])
 (.seq (.seq (.drw [p_m 8 4, p_c 9 1 159 [.t 8], p_s 10 (.ld (some 2) (.t 1)), p_s 11 (.eqa true [0, 0] (.t 9) (.t 10))]
 [[], [0], [], [0, 1, 2]])
 (.cond (.t 11)
 (.seq (.reg [p_s 2 (.mov (o_i 0)), p_s 3 (.mov (.c (.r (.v (.bool false)))))])
 .ret)
 .skip))
 (.seq (.reg [p_m 12 4, p_m 2 12, p_s 3 (.mov (.c (.r (.v (.bool true)))))])
 .ret))))
theorem apiaryref1_Wide_Small_triple : Fun P0 133 1 [(2, false, none), (3, false, none)] apiaryref1_Wide_Small_pc := fun_mk Go.Proofs.Tryz.func133 rfl (by decide) (by kernel_rfl) (by decide) rfl (by kernel_rfl) (by kernel_rfl) (by decide)
def wide (x : Int) : AV := .r (.agg [.v (.int .u64 (x / 18446744073709551616 % 18446744073709551616)), .v (.int .u64 (x % 18446744073709551616))])
theorem wide_eq {x a b : Int} (h1 : a = x / 18446744073709551616 % 18446744073709551616) (h2 : b = x % 18446744073709551616) : AV.r (.agg [.v (.int .u64 a), .v (.int .u64 b)]) = wide x := by rw [h1, h2]; rfl
theorem shr63 (a : Int) (ha : in64 a) : a.fdiv (2 ^ min (zae 63) IntKind.i64.bits) = if a < 0 then -1 else 0 := by
 have : (2 : Int) ^ min (zae 63) IntKind.i64.bits = 9223372036854775808 := by decide
 rw [this, zax _ (by decide)]
 unfold in64 at ha
 split <;> omega
theorem w_t (a : Int) (ha : in64 a) : Triple P0 159 [int .i64 a] [] (wide a) [] := by
 refine apiaryref1_W_triple rfl (by decide) ?_
 simp only [apiaryref1_W_pc, push_cast, ↓reduceIte, reduceCtorEq, zB, zE, zA, zS, zL, zD, zM]
 refine ⟨by decide, wide_eq ?_ ?_⟩
 ·rw [shr63 a ha, IntKind.wrap_u64]
  unfold in64 at ha
  split <;> omega
 ·rw [IntKind.wrap_u64]
theorem not64 {x : Int} (h0 : 0 ≤ x) (h1 : x < 18446744073709551616) : IntKind.u64.wrap ((zaa IntKind.u64.bits (if IntKind.u64.signed = true then -1 else IntKind.u64.max) ^^^ zaa IntKind.u64.bits x).toNat) = 18446744073709551615 - x := by
 obtain ⟨n, rfl⟩ := Int.eq_ofNat_of_zero_le h0
 have e1 : zaa IntKind.u64.bits (if IntKind.u64.signed = true then -1 else IntKind.u64.max) = BitVec.allOnes 64 := by rfl
 have e2 : zaa IntKind.u64.bits (n : Int) = zaj 64 n := by simp [IntKind.bits]
 rw [e1, e2]
 show IntKind.u64.wrap ((BitVec.allOnes 64 ^^^ zaj 64 n).toNat : Int) = _
 rw [BitVec.allOnes_xor, BitVec.toNat_not, zay, IntKind.wrap_u64]
 omega
theorem plus_t (a b : Int) : Triple P0 112 [wide a, wide b] [] (wide (a + b)) [] := by
 refine apiaryref1_Wide_Plus_triple rfl (by decide) ?_
 simp only [apiaryref1_Wide_Plus_pc, wide, push_cast, ↓reduceIte, reduceCtorEq, zB, zE, zA, zS, zL, zD, zM]
 refine ⟨by omega, by omega, wide_eq (by omega) (by omega)⟩
theorem small_t (a : Int) (h : -170141183460469231731687303715884105728 ≤ a ∧ a < 170141183460469231731687303715884105728) : Triple P0 133 [wide a] [] (sm a) [] := by
 refine apiaryref1_Wide_Small_triple rfl (by decide) ?_
 simp only [apiaryref1_Wide_Small_pc, wide, push_cast, ↓reduceIte, reduceCtorEq, zB, zE, zA, zS, zL, zD, zM]
 rw [IntKind.wrap_i64]
 refine dcall_mk (w_t _ (by unfold in64; omega)) rfl trivial ?_
 simp only [wide, push_cast, ↓reduceIte, reduceCtorEq, zB, zE, zA, zS, zL, zD, zM]
 refine ⟨by kernel_rfl, ?_⟩
 refine cnd_mk (fun h => ?_) (fun h => ?_)
 ·simp only [push_cast, ↓reduceIte, reduceCtorEq, zB, zE, zA, zS, zL, zD, zM]
  refine sm_no ?_
  unfold in64
  simp at h
  omega
 ·simp only [push_cast, ↓reduceIte, reduceCtorEq, zB, zE, zA, zS, zL, zD, zM]
  simp at h
  refine sm_yes ?_ ?_
  ·omega
  ·unfold in64; omega
theorem turned_t (a : Int) : Triple P0 113 [wide a] [] (wide (-a)) [] := by
 refine apiaryref1_Wide_Turned_triple rfl (by decide) ?_
 simp only [apiaryref1_Wide_Turned_pc, wide, push_cast, ↓reduceIte, reduceCtorEq, zB, zE, zA, zS, zL, zD, zM]
 rw [not64 (by omega) (by omega), not64 (by omega) (by omega)]
 refine call_as (as' := [wide (-1 - a), wide 1]) ?_ ?_
 ·congr 1
  ·exact wide_eq (by omega) (by omega)
 ·refine call_mk (plus_t (-1 - a) 1) rfl trivial ?_
  simp only [wide, push_cast, ↓reduceIte, reduceCtorEq, zB, zE, zA, zS, zL, zD, zM]
  exact wide_eq (by omega) (by omega)
theorem wrap_abs (a : Int) (ha : in64 a) : (a < 0 → IntKind.u64.wrap (0 - IntKind.u64.wrap a) = a.natAbs) ∧ (¬ a < 0 → IntKind.u64.wrap a = a.natAbs) := by
 unfold in64 at ha
 rw [IntKind.wrap_u64, IntKind.wrap_u64]
 omega
theorem times_t (a b : Int) (ha : in64 a) (hb : in64 b) : Triple P0 110 [int .i64 a, int .i64 b] [] (wide (a * b)) [] := by
 refine apiaryref1_Times_triple rfl (by decide) ?_
 have ha' := ha
 have hb' := hb
 unfold in64 at ha' hb'
 obtain ⟨wa1, wa2⟩ := wrap_abs a ha
 obtain ⟨wb1, wb2⟩ := wrap_abs b hb
 have hab : a.natAbs * b.natAbs = (a * b).natAbs := (zas a b).symm
 have hle : (a * b).natAbs ≤ 9223372036854775808 * 9223372036854775808 := by rw [← hab]; exact zao (by omega) (by omega)
 have hs : (a < 0 ∧ b < 0 → 0 < a * b) ∧ (a < 0 ∧ 0 ≤ b → a * b ≤ 0) ∧ (0 ≤ a ∧ b < 0 → a * b ≤ 0) ∧ (0 ≤ a ∧ 0 ≤ b → 0 ≤ a * b) :=
  ⟨fun h => Int.mul_pos_of_neg_of_neg h.1 h.2, fun h => Int.mul_nonpos_of_nonpos_of_nonneg (by omega) h.2, fun h => Int.mul_nonpos_of_nonneg_of_nonpos h.1 (by omega), fun h => Int.mul_nonneg h.1 h.2⟩
 simp only [apiaryref1_Times_pc, push_cast, ↓reduceIte, reduceCtorEq, zB, zE, zA, zS, zL, zD, zM]
 refine cnd_mk (fun h1 => ?_) (fun h1 => ?_) <;> simp only [push_cast, ↓reduceIte, reduceCtorEq, zB, zE, zA, zS, zL, zD, zM] <;> refine cnd_mk (fun h2 => ?_) (fun h2 => ?_) <;> simp only [push_cast, ↓reduceIte, reduceCtorEq, zB, zE, zA, zS, zL, zD, zM]
 all_goals
  simp only [decide_eq_true_eq, decide_eq_false_iff_not] at h1 h2
  refine call_as (as' := [int .u64 a.natAbs, int .u64 b.natAbs]) (by first | rw [wa1 h1, wb1 h2] | rw [wa1 h1, wb2 h2] | rw [wa2 h1, wb1 h2] | rw [wa2 h1, wb2 h2]) ?_
  refine call_mk (mul64_t a.natAbs b.natAbs (by omega) (by omega)) rfl trivial ?_
  rw [hab]
  simp only [h1, h2, Bool.true_beq, Bool.false_beq, push_cast, ↓reduceIte, reduceCtorEq, zB, zE, zA, zS, zL, zD, zM]
  generalize a * b = m at *
 ·exact wide_eq (by omega) (by omega)
 ·refine call_as (as' := [wide (-m)]) (by congr 1; exact wide_eq (by omega) (by omega)) ?_
  refine call_mk (turned_t (-m)) rfl trivial ?_
  simp only [wide, push_cast, ↓reduceIte, reduceCtorEq, zB, zE, zA, zS, zL, zD, zM]
  exact wide_eq (by omega) (by omega)
 ·refine call_as (as' := [wide (-m)]) (by congr 1; exact wide_eq (by omega) (by omega)) ?_
  refine call_mk (turned_t (-m)) rfl trivial ?_
  simp only [wide, push_cast, ↓reduceIte, reduceCtorEq, zB, zE, zA, zS, zL, zD, zM]
  exact wide_eq (by omega) (by omega)
 ·exact wide_eq (by omega) (by omega)

noncomputable def apiaryref1_Pow_pc : PC :=
  (.seq (.reg [p_s 4 (.mov (o_i 0)), p_s 5 (.mov (.c (.r (.v (.bool false)))))])
 (.seq (.seq (.reg [p_m 10 1, p_s 11 (.bin .lss (.t 10) (o_i 0))])
 (.cond (.t 11)
 (.seq (.reg [p_s 4 (.mov (o_i 0)), p_s 5 (.mov (.c (.r (.v (.bool false)))))])
 .ret)
 .skip))
 (.seq (.reg [p_s 6 (.mov (o_i 1))])
 (.seq (.seq (.reg [p_s 7 (.mov (o_i 0))])
 (.block 0 (.loop (.seq (.seq (.reg [p_m 12 7, p_m 13 1, p_s 14 (.bin .lss (.t 12) (.t 13))])
 (.cond (.t 14)
 .skip
 (.exit 0)))
 (.seq (.block 1 (.seq (.seq (.reg [p_m 17 6, p_s 18 (.bin .eql (.t 17) (o_i 0)), p_m 19 18, p_g 20 19 false (.mov (.t 6)), p_g 21 19 false (.bin .eql (.t 20) (o_i 1)), p_g 22 19 false (.mov (.t 21)),
 p_g 23 22 true (.mov (.t 0)), p_g 24 22 true (.bin .eql (.t 23) (o_i 1)), p_g 25 19 false (.pick (.t 22) (.t 24) (.c (.r (.v (.bool false))))), p_s 26 (.pick (.t 19) (.c (.r (.v (.bool true)))) (.t 25))])
 (.cond (.t 26)
 (.seq (.reg [p_m 27 6, p_m 4 27, p_s 5 (.mov (.c (.r (.v (.bool true)))))])
 .ret)
 .skip))
 (.seq (.seq (.reg [p_m 28 0, p_s 29 (.bin .eql (.t 28) (o_i (-1)))])
 (.cond (.t 29)
 (.seq (.seq (.reg [p_m 30 1, p_s 31 (.bin .rem (.t 30) (o_i 2)), p_s 32 (.bin .eql (.t 31) (o_i 1))])
 (.cond (.t 32)
 (.seq (.reg [p_s 4 (.mov (o_i (-1))), p_s 5 (.mov (.c (.r (.v (.bool true)))))])
 .ret)
 .skip))
 (.seq (.reg [p_s 4 (.mov (o_i 1)), p_s 5 (.mov (.c (.r (.v (.bool true)))))])
 .ret))
 .skip))
 (.seq (.reg [p_m 34 6, p_m 35 0, p_c 36 1 110 [.t 34, .t 35], p_c 37 2 133 [.t 36], p_m 33 37, p_s 38 (.ext (.t 33) 0), p_s 39 (.ext (.t 33) 1), p_m 8 38, p_m 9 39])
 (.seq (.seq (.reg [p_m 40 9, p_s 41 (.un .not (.t 40))])
 (.cond (.t 41)
 (.seq (.reg [p_s 4 (.mov (o_i 0)), p_s 5 (.mov (.c (.r (.v (.bool false)))))])
 .ret)
 .skip))
 (.reg [p_m 42 8, p_m 6 42]))))))
 (.reg [p_m 15 7, p_s 16 (.bin .add (.t 15) (o_i 1)), p_m 7 16]))))))
 (.seq (.reg [p_m 43 6, p_m 4 43, p_s 5 (.mov (.c (.r (.v (.bool true)))))])
 .ret)))))
theorem apiaryref1_Pow_triple : Fun P0 117 2 [(4, false, none), (5, false, none)] apiaryref1_Pow_pc := fun_mk Go.Proofs.Tryz.func117 rfl (by decide) (by kernel_rfl) (by decide) rfl (by kernel_rfl) (by kernel_rfl) (by decide)
theorem pow_out {x a T : Int} {n : Nat} (hx1 : -1 ≤ a ∧ a ≤ 1 → -1 ≤ x ∧ x ≤ 1) (hx : in64 x) (ha : in64 a) (h : ¬ in64 (x * a)) (hT : x * a * a ^ n = T) : ¬ in64 T := by
 have h4 : ¬ (-1 ≤ a ∧ a ≤ 1) := fun hs => by
  have := hx1 hs
  have h4 : a = -1 ∨ a = 0 ∨ a = 1 := by omega
  apply h
  unfold in64
  rcases h4 with rfl | rfl | rfl <;> omega
 have h5 : 2 ≤ a.natAbs := by omega
 have h6 : 9223372036854775808 ≤ (x * a).natAbs := by unfold in64 at h; omega
 have h7 : T.natAbs = (x * a).natAbs * a.natAbs ^ n := by rw [← hT, zas, Int.natAbs_pow]
 cases n with
 | zero =>
  simp at hT
  rw [← hT]; exact h
 | succ n =>
  have h8 : 2 ≤ a.natAbs ^ (n + 1) := Nat.le_trans h5 (Nat.le_self_pow (by omega) _)
  have h9 : 9223372036854775808 * 2 ≤ (x * a).natAbs * a.natAbs ^ (n + 1) := zao h6 h8
  rw [← h7] at h9
  unfold in64
  omega

theorem pow_unit {a : Int} (h : -1 ≤ a ∧ a ≤ 1) (n : Nat) : -1 ≤ a ^ n ∧ a ^ n ≤ 1 := by
 induction n with
 | zero => simp
 | succ n ih =>
  rw [Int.pow_succ]
  have : a = -1 ∨ a = 0 ∨ a = 1 := by omega
  rcases this with rfl | rfl | rfl <;> omega
theorem pow_odd (n : Nat) : (-1 : Int) ^ n = if n % 2 = 1 then -1 else 1 := by
 induction n with
 | zero => rfl
 | succ n ih =>
  rw [Int.pow_succ, ih]
  split <;> split <;> omega
theorem rpow_t (a k : Int) (ha : in64 a) (hk : in64 k) : Triple P0 117 [int .i64 a, int .i64 k] [] (if k < 0 then .tup [int .i64 0, bl false] else sm (a ^ k.toNat)) [] := by
 refine apiaryref1_Pow_triple rfl (by decide) ?_
 simp only [apiaryref1_Pow_pc, push_cast, ↓reduceIte, reduceCtorEq, zB, zE, zA, zS, zL, zD, zM]
 refine cnd_mk (fun h1 => ?_) (fun h1 => ?_)
 ·simp only [decide_eq_true_eq] at h1
  simp only [if_pos h1, push_cast, ↓reduceIte, reduceCtorEq, zB, zE, zA, zS, zL, zD, zM]
 ·simp only [decide_eq_false_iff_not] at h1
  simp only [if_neg h1, push_cast, ↓reduceIte, reduceCtorEq, zB, zE, zA, zS, zL, zD, zM]
  refine run_loop [(0, false), (1, false), (6, false), (7, false)] (fun vs pos los => ∃ (n i : Int), 0 ≤ i ∧ i ≤ k ∧ in64 n ∧ n = a ^ i.toNat ∧ vs = [int .i64 a, int .i64 k, int .i64 n, int .i64 i] ∧ pos = [] ∧ los = [])
   (fun vs _ _ => match vs with | [_, _, _, .r (.v (.int _ j))] => (k - j).toNat | _ => 0) rfl ?_ ?_
  ·simp only [push_cast, ↓reduceIte, reduceCtorEq, zB, zE, zA, zS, zL, zD, zM]
   exact ⟨1, 0, by omega, by omega, by decide, by simp, rfl⟩
  ·rintro vs pos los ⟨n, i, i0, ik, hn, hna, rfl, rfl, rfl⟩
   simp only [push_cast, ↓reduceIte, reduceCtorEq, zB, zE, zA, zS, zL, zD, zM]
   unfold in64 at hk
   refine cnd_mk (fun h => ?_) (fun h => ?_)
   ·simp only [decide_eq_true_eq] at h
    simp only [push_cast, ↓reduceIte, reduceCtorEq, zB, zE, zA, zS, zL, zD, zM]
    repeat refine And.intro (by simp +contextual) ?_
    have hT : n * a * a ^ (k - i - 1).toNat = a ^ k.toNat := by
     rw [hna, Int.mul_assoc, ← Int.pow_succ', ← Int.pow_add]
     congr 1
     omega
    refine cnd_mk (fun h2 => ?_) (fun h2 => ?_)
    ·simp only [push_cast, ↓reduceIte, reduceCtorEq, zB, zE, zA, zS, zL, zD, zM]
     have h3 : n = 0 ∨ a = 1 := by
      by_cases p : n = 0 <;> by_cases q : n = 1 <;> by_cases r : a = 1 <;> simp [p, q, r] at h2 ⊢
     refine sm_yes ?_ ?_
     ·rcases h3 with h3 | h3
      ·rw [← hT, h3]; simp
      ·rw [hna, h3, Int.one_pow, Int.one_pow]
     ·rcases h3 with h3 | h3
      ·rw [← hT, h3]; simp; decide
      ·rw [h3, Int.one_pow]; decide
    ·simp only [push_cast, ↓reduceIte, reduceCtorEq, zB, zE, zA, zS, zL, zD, zM]
     refine cnd_mk (fun h4 => ?_) (fun h4 => ?_)
     ·simp only [push_cast, ↓reduceIte, reduceCtorEq, zB, zE, zA, zS, zL, zD, zM]
      have h4 : a = -1 := by simpa using h4
      subst h4
      have e0 : k.tmod 2 = k % 2 := zap (by omega)
      refine ⟨by decide, ?_⟩
      rw [e0]
      refine cnd_mk (fun h5 => ?_) (fun h5 => ?_)
      ·simp only [push_cast, ↓reduceIte, reduceCtorEq, zB, zE, zA, zS, zL, zD, zM]
       have h5 : k % 2 = 1 := by simpa using h5
       exact sm_yes (by rw [pow_odd, if_pos (by omega)]) (by rw [pow_odd, if_pos (by omega)]; decide)
      ·simp only [push_cast, ↓reduceIte, reduceCtorEq, zB, zE, zA, zS, zL, zD, zM]
       have h5 : ¬ k % 2 = 1 := by simpa using h5
       exact sm_yes (by rw [pow_odd, if_neg (by omega)]) (by rw [pow_odd, if_neg (by omega)]; decide)
     ·simp only [push_cast, ↓reduceIte, reduceCtorEq, zB, zE, zA, zS, zL, zD, zM]
      refine call_mk (times_t n a hn ha) rfl trivial ?_
      simp only [wide, push_cast, ↓reduceIte, reduceCtorEq, zB, zE, zA, zS, zL, zD, zM]
      have hb : (n * a).natAbs ≤ 9223372036854775808 * 9223372036854775808 := by
       rw [zas]
       unfold in64 at hn ha
       exact zao (by omega) (by omega)
      refine call_as (as' := [wide (n * a)]) rfl ?_
      refine call_mk (small_t (n * a) (by omega)) rfl trivial ?_
      simp only [sm, push_cast, ↓reduceIte, reduceCtorEq, zB, zE, zA, zS, zL, zD, zM]
      refine cnd_mk (fun h6 => ?_) (fun h6 => ?_)
      ·simp only [push_cast, ↓reduceIte, reduceCtorEq, zB, zE, zA, zS, zL, zD, zM]
       have h6 : ¬ in64 (n * a) := by simpa using h6
       refine sm_no ?_
       exact pow_out (fun hs => by rw [hna]; exact pow_unit hs _) hn ha h6 hT
      ·simp only [push_cast, ↓reduceIte, reduceCtorEq, zB, zE, zA, zS, zL, zD, zM]
       have h6 : in64 (n * a) := by simpa using h6
       rw [if_pos h6, show IntKind.i64.wrap (i + 1) = i + 1 from wrap_id (by omega)]
       refine ⟨⟨n * a, i + 1, by omega, by omega, h6, ?_, rfl⟩, by omega⟩
       rw [show (i + 1).toNat = i.toNat + 1 by omega, Int.pow_succ, ← hna]
   ·simp only [decide_eq_false_iff_not] at h
    simp only [push_cast, ↓reduceIte, reduceCtorEq, zB, zE, zA, zS, zL, zD, zM]
    have : i = k := by omega
    subst this
    exact sm_yes hna (by rw [← hna]; exact hn)

structure Ei where
 a : Int
 b : Int
deriving DecidableEq
def Ei.rv (z : Ei) : RV := .agg [.v (.int .i64 z.a), .v (.int .i64 z.b)]
def Ei.v (z : Ei) : AV := .r z.rv
def Ei.mul (x y : Ei) : Ei := ⟨x.a * y.a - x.b * y.b, x.a * y.b + x.b * y.a + x.b * y.b⟩
def Ei.add (x y : Ei) : Ei := ⟨x.a + y.a, x.b + y.b⟩
def Ei.sub (x y : Ei) : Ei := ⟨x.a - y.a, x.b - y.b⟩
def Ei.conj (x : Ei) : Ei := ⟨x.a + x.b, -x.b⟩
def Ei.In (z : Ei) (n : Int) : Prop := (-n ≤ z.a ∧ z.a ≤ n) ∧ (-n ≤ z.b ∧ z.b ≤ n)
def Ei.H (z : Ei) (n : Int) : Prop := (-n ≤ z.a ∧ z.a ≤ n) ∧ (-n ≤ z.b ∧ z.b ≤ n) ∧ (-n ≤ z.a + z.b ∧ z.a + z.b ≤ n)
theorem Ei.ext' {x y : Ei} (h1 : x.a = y.a) (h2 : x.b = y.b) : x = y := by cases x; cases y; simp_all
theorem Ei.In.mono {z : Ei} {n m : Int} (h : z.In n) (hm : n ≤ m) : z.In m := by unfold Ei.In at *; omega
theorem Ei.H.mono {z : Ei} {n m : Int} (h : z.H n) (hm : n ≤ m) : z.H m := by unfold Ei.H at *; omega
theorem Ei.H.in {z : Ei} {n : Int} (h : z.H n) : z.In n := by unfold Ei.H Ei.In at *; omega
def beta : Ei := ⟨2, 1⟩
theorem mul_in {x y n m : Int} (h1 : -n ≤ x ∧ x ≤ n) (h2 : -m ≤ y ∧ y ≤ m) : -(n * m) ≤ x * y ∧ x * y ≤ n * m := by
 have h : (x * y).natAbs ≤ n.toNat * m.toNat := by rw [zas]; exact zao (by omega) (by omega)
 have h3 : ((n.toNat * m.toNat : Nat) : Int) = n * m := by
  rw [Int.natCast_mul, Int.toNat_of_nonneg (by omega), Int.toNat_of_nonneg (by omega)]
 omega
def holds (d s t : Int) : Prop := (-d ≤ 2 * s + t ∧ 2 * s + t ≤ d) ∧ (-d ≤ s + 2 * t ∧ s + 2 * t ≤ d) ∧ (-d ≤ s - t ∧ s - t ≤ d)
instance (d s t : Int) : Decidable (holds d s t) := inferInstanceAs (Decidable (_ ∧ _ ∧ _))
def near0 (d s t : Int) : Ei := if holds d s t then ⟨0, 0⟩ else if holds d s (t - d) then ⟨0, 1⟩ else if holds d (s - d) t then ⟨1, 0⟩ else ⟨1, 1⟩
def Ei.round (u : Ei) (d : Int) : Ei := ⟨u.a / d + (near0 d (u.a % d) (u.b % d)).a, u.b / d + (near0 d (u.a % d) (u.b % d)).b⟩
theorem near0_spec {d s t : Int} (hs : 0 ≤ s ∧ s < d) (ht : 0 ≤ t ∧ t < d) :
  holds d (s - (near0 d s t).a * d) (t - (near0 d s t).b * d) ∧ (0 ≤ (near0 d s t).a ∧ (near0 d s t).a ≤ 1) ∧ (0 ≤ (near0 d s t).b ∧ (near0 d s t).b ≤ 1) := by
 unfold near0
 split
 ·next h => unfold holds at *; dsimp only; omega
 ·split
  ·next h => unfold holds at *; dsimp only; omega
  ·split
   ·next h => unfold holds at *; dsimp only; omega
   ·next h => unfold holds at *; dsimp only; omega
theorem near0_first {d s t i k : Int} (hs : 0 ≤ s ∧ s < d) (ht : 0 ≤ t ∧ t < d) (hi : -1 ≤ i ∧ i ≤ 2) (hk : -1 ≤ k ∧ k ≤ 2)
    (h : holds d (s - i * d) (t - k * d)) (h1 : ∀ k', -1 ≤ k' → k' < k → ¬ holds d (s - i * d) (t - k' * d))
    (h2 : ∀ i' k', -1 ≤ i' → i' < i → -1 ≤ k' → k' ≤ 2 → ¬ holds d (s - i' * d) (t - k' * d)) : near0 d s t = ⟨i, k⟩ := by
  have hi' : i = -1 ∨ i = 0 ∨ i = 1 ∨ i = 2 := by omega
  have hk' : k = -1 ∨ k = 0 ∨ k = 1 ∨ k = 2 := by omega
  have e0 : (-1 : Int) * d = -d := by omega
  have n00 : (0 < i ∨ (i = 0 ∧ 0 < k)) → ¬ holds d s t := fun c => by
    rcases c with c | ⟨c, c'⟩
    · have := h2 0 0 (by omega) c (by omega) (by omega); simpa using this
    · have := h1 0 (by omega) c'; rw [c] at this; simpa using this
  have n01 : (0 < i ∨ (i = 0 ∧ 1 < k)) → ¬ holds d s (t - d) := fun c => by
    rcases c with c | ⟨c, c'⟩
    · have := h2 0 1 (by omega) c (by omega) (by omega); simpa using this
    · have := h1 1 (by omega) c'; rw [c] at this; simpa using this
  have n10 : (1 < i ∨ (i = 1 ∧ 0 < k)) → ¬ holds d (s - d) t := fun c => by
    rcases c with c | ⟨c, c'⟩
    · have := h2 1 0 (by omega) c (by omega) (by omega); simpa using this
    · have := h1 0 (by omega) c'; rw [c] at this; simpa using this
  clear h1 h2
  rcases hi' with rfl | rfl | rfl | rfl <;> rcases hk' with rfl | rfl | rfl | rfl <;>
    first
    | (exfalso; unfold holds at h; omega)
    | (simp only [Int.zero_mul, Int.one_mul, Int.sub_zero] at h
       simp [near0, h]; done)
    | (simp only [Int.zero_mul, Int.one_mul, Int.sub_zero] at h
       simp [near0, h, n00, n01, n10])
theorem near0_ex {d s t : Int} (hs : 0 ≤ s ∧ s < d) (ht : 0 ≤ t ∧ t < d)
  (h2 : ∀ i' k', -1 ≤ i' → i' < 3 → -1 ≤ k' → k' ≤ 2 → ¬ holds d (s - i' * d) (t - k' * d)) : False := by
 obtain ⟨h, ha, hb⟩ := near0_spec hs ht
 exact h2 _ _ (by omega) (by omega) (by omega) (by omega) h
def fr (d a b : Int) (z : Ei) : Int := d * (z.a * z.a + z.a * z.b + z.b * z.b) - z.a * (2 * a + b) - z.b * (a + 2 * b)
def pk (d a b : Int) (p : Int × Ei) (z : Ei) : Int × Ei := if fr d a b z < p.1 then (fr d a b z, z) else p
def cands : List Ei := [⟨0, 1⟩, ⟨1, 0⟩, ⟨1, 1⟩]
theorem round_spec (u : Ei) {d : Int} (hd : 0 < d) : holds d (u.a - (u.round d).a * d) (u.b - (u.round d).b * d) := by
 have h1 := zar u.a d
 have h2 := zar u.b d
 have h3 := zag u.a hd
 have h4 := zah u.a (show d ≠ 0 by omega)
 have h5 := zag u.b hd
 have h6 := zah u.b (show d ≠ 0 by omega)
 obtain ⟨h, _⟩ := near0_spec (d := d) (s := u.a % d) (t := u.b % d) ⟨h4, h3⟩ ⟨h6, h5⟩
 have e1 : u.a - (u.round d).a * d = u.a % d - (near0 d (u.a % d) (u.b % d)).a * d := by
  simp only [Ei.round, Int.add_mul]
  rw [Int.mul_comm (u.a / d) d]
  omega
 have e2 : u.b - (u.round d).b * d = u.b % d - (near0 d (u.a % d) (u.b % d)).b * d := by
  simp only [Ei.round, Int.add_mul]
  rw [Int.mul_comm (u.b / d) d]
  omega
 rw [e1, e2]; exact h
def pr (z : Ei) : Ei := (z.mul ⟨3, -1⟩).round 7
def lft (z : Ei) : Ei := z.sub ((pr z).mul beta)
def dgOf (l : Ei) : Nat := if l = ⟨1, 0⟩ then 1 else if l = ⟨0, 1⟩ then 2 else if l = ⟨-1, 1⟩ then 3 else if l = ⟨-1, 0⟩ then 4 else if l = ⟨0, -1⟩ then 5 else if l = ⟨1, -1⟩ then 6 else 0
def dg (z : Ei) : Nat := dgOf (lft z)
def uni (d : Nat) : Ei := match d with | 0 => ⟨1, 0⟩ | 1 => ⟨0, 1⟩ | 2 => ⟨-1, 1⟩ | 3 => ⟨-1, 0⟩ | 4 => ⟨0, -1⟩ | _ => ⟨1, -1⟩
def child (z : Ei) (d : Nat) : Ei := if d = 0 then z.mul beta else (z.mul beta).add (uni (d - 1))
theorem dg_lt (z : Ei) : dg z < 7 := by unfold dg dgOf; repeat' split
                                        all_goals omega
theorem pr_spec (z : Ei) : ∃ l : Ei, lft z = l ∧ l.H 1 ∧ z.a = 2 * (pr z).a - (pr z).b + l.a ∧ z.b = (pr z).a + 3 * (pr z).b + l.b := by
 have h := round_spec (z.mul ⟨3, -1⟩) (d := 7) (by decide)
 refine ⟨lft z, rfl, ?_, ?_, ?_⟩
 ·unfold holds at h
  unfold Ei.H lft Ei.sub pr
  simp only [Ei.mul, beta] at *
  generalize Ei.round _ 7 = q at *
  simp only [Int.mul_one, Int.mul_neg] at *
  omega
 ·simp only [lft, Ei.sub, Ei.mul, beta]; omega
 ·simp only [lft, Ei.sub, Ei.mul, beta]; omega
def anc : Nat → Ei → Ei
 | 0, z => z
 | k + 1, z => anc k (pr z)
theorem anc_succ (k : Nat) (z : Ei) : anc (k + 1) z = pr (anc k z) := by
 induction k generalizing z with
 | zero => rfl
 | succ k ih => rw [anc, ih]; rfl
def val : Nat → Ei → Nat
 | 0, _ => 0
 | r + 1, z => val r (pr z) * 8 + dg z
theorem val_lt (r : Nat) (z : Ei) : val r z < 8 ^ r := by
 induction r generalizing z with
 | zero => simp [val]
 | succ r ih =>
  have := ih (pr z)
  have := dg_lt z
  rw [val, zak]
  omega
theorem val_div (r i : Nat) (z : Ei) (h : i ≤ r) : val r z / 8 ^ i = val (r - i) (anc i z) := by
 induction i generalizing r z with
 | zero => simp [anc]
 | succ i ih =>
  obtain ⟨r, rfl⟩ : ∃ m, r = m + 1 := ⟨r - 1, by omega⟩
  rw [show r + 1 - (i + 1) = r - i by omega, anc, ← ih r (pr z) (by omega), zak, zal, ← zaz, val]
  have := dg_lt z
  congr 1
  omega
def okc (r : Nat) (z : Ei) : Prop := r ≤ 12 ∧ z.In 1073741824 ∧ (-512 ≤ (anc r z).a ∧ (anc r z).a ≤ 511) ∧ (-512 ≤ (anc r z).b ∧ (anc r z).b ≤ 511)
instance (r : Nat) (z : Ei) : Decidable (okc r z) := by unfold okc Ei.In; infer_instance
def hd36 (r : Nat) (q : Ei) : Nat := ((16 + r) * 1024 + (q.a + 512).toNat) * 1024 + (q.b + 512).toNat
def word (r : Nat) (z : Ei) : Nat := (hd36 r (anc r z) * 8 ^ r + val r z) * 8 ^ (12 - r) + (8 ^ (12 - r) - 1)
def dgt (w i : Nat) : Nat := w / 8 ^ (12 - i) % 8
def resW (w : Nat) : Nat := w / 72057594037927936 % 16
def baseW (w : Nat) : Ei := ⟨((w / 70368744177664 % 1024 : Nat) : Int) - 512, ((w / 68719476736 % 1024 : Nat) : Int) - 512⟩
def down (w : Nat) : Nat → Ei
 | 0 => baseW w
 | i + 1 => child (down w i) (dgt w (i + 1))
def isW (w : Nat) : Prop := w / 1152921504606846976 = 1 ∧ resW w ≤ 12 ∧ ∀ i, 1 ≤ i → i ≤ 12 → (dgt w i = 7 ↔ resW w < i)
theorem word_top (r : Nat) (z : Ei) (hr : r ≤ 12) : word r z / 68719476736 = hd36 r (anc r z) := by
 have hv := val_lt r z
 have e : (68719476736 : Nat) = 8 ^ r * 8 ^ (12 - r) := by rw [← zab, show r + (12 - r) = 12 by omega]
 have hp : 0 < 8 ^ (12 - r) := zai (by decide)
 have hq : 0 < 8 ^ r := zai (by decide)
 rw [e, zal (8 ^ r), ← zaz, word]
 have h1 : ((hd36 r (anc r z) * 8 ^ r + val r z) * 8 ^ (12 - r) + (8 ^ (12 - r) - 1)) / 8 ^ (12 - r) = hd36 r (anc r z) * 8 ^ r + val r z := by
  rw [Nat.add_comm, zaq _ _ hp, zat (by omega)]; omega
 rw [h1, Nat.add_comm, zaq _ _ hq, zat hv]; omega
theorem word_dgt (r i : Nat) (z : Ei) (hr : r ≤ 12) (h1 : 1 ≤ i) (h2 : i ≤ r) : dgt (word r z) i = dg (anc (r - i) z) := by
 have hp : 0 < 8 ^ (12 - r) := zai (by decide)
 have e : 8 ^ (12 - i) = 8 ^ (12 - r) * 8 ^ (r - i) := by rw [← zab, show 12 - r + (r - i) = 12 - i by omega]
 unfold dgt word
 rw [e, ← zaz]
 have h3 : ((hd36 r (anc r z) * 8 ^ r + val r z) * 8 ^ (12 - r) + (8 ^ (12 - r) - 1)) / 8 ^ (12 - r) = hd36 r (anc r z) * 8 ^ r + val r z := by
  rw [Nat.add_comm, zaq _ _ hp, zat (by omega)]; omega
 rw [h3]
 have e2 : hd36 r (anc r z) * 8 ^ r = hd36 r (anc r z) * 8 ^ (i - 1) * 8 * 8 ^ (r - i) := by
  rw [zad (hd36 r (anc r z)), ← zak, zad, ← zab, show i - 1 + 1 + (r - i) = r by omega]
 rw [e2, Nat.add_comm, zaq _ _ (zai (by decide)), val_div r (r - i) z (by omega), show r - (r - i) = (i - 1) + 1 by omega, val]
 have := dg_lt (anc (r - i) z)
 generalize hd36 r (anc r z) * 8 ^ (i - 1) = m
 omega
theorem word_seven (r i : Nat) (z : Ei) (h1 : r < i) (h2 : i ≤ 12) : dgt (word r z) i = 7 := by
 unfold dgt word
 have e : 8 ^ (12 - r) = 8 ^ (i - r - 1) * 8 * 8 ^ (12 - i) := by rw [← zak, ← zab, show i - r - 1 + 1 + (12 - i) = 12 - r by omega]
 have hq : 0 < 8 ^ (12 - i) := zai (by decide)
 have hq2 : 0 < 8 ^ (i - r - 1) := zai (by decide)
 rw [e]
 generalize hd36 r (anc r z) * 8 ^ r + val r z = m
 generalize hx : 8 ^ (i - r - 1) = x at *
 generalize hy : 8 ^ (12 - i) = y at *
 have h3 : m * (x * 8 * y) + (x * 8 * y - 1) = (y - 1) + (m * (x * 8) + (x * 8 - 1)) * y := by
  have : (x * 8 - 1) * y = x * 8 * y - y := by rw [Nat.sub_mul, Nat.one_mul]
  have h5 : y ≤ x * 8 * y := Nat.le_mul_of_pos_left _ (by omega)
  rw [zaf, this, ← zad]
  omega
 rw [h3, zaq _ _ hq, zat (by omega)]
 have h4 : m * (x * 8) = m * x * 8 := (zad _ _ _).symm
 omega
theorem hd36_parts (r : Nat) (q : Ei) (hr : r ≤ 12) (ha : -512 ≤ q.a ∧ q.a ≤ 511) (hb : -512 ≤ q.b ∧ q.b ≤ 511) :
  hd36 r q / 16777216 = 1 ∧ hd36 r q / 1048576 % 16 = r ∧ ((hd36 r q / 1024 % 1024 : Nat) : Int) - 512 = q.a ∧ ((hd36 r q % 1024 : Nat) : Int) - 512 = q.b := by
 unfold hd36
 omega
theorem word_lt (r : Nat) (z : Ei) (h : okc r z) : word r z < 18446744073709551616 := by
 have h1 := word_top r z h.1
 have h2 := hd36_parts r (anc r z) h.1 h.2.2.1 h.2.2.2
 omega
theorem word_isW (r : Nat) (z : Ei) (h : okc r z) : isW (word r z) ∧ resW (word r z) = r := by
 have h1 := word_top r z h.1
 have h2 := hd36_parts r (anc r z) h.1 h.2.2.1 h.2.2.2
 have h3 : resW (word r z) = r := by unfold resW; omega
 refine ⟨⟨by omega, by rw [h3]; exact h.1, fun i i1 i2 => ?_⟩, h3⟩
 rw [h3]
 by_cases hi : r < i
 ·simp [hi, word_seven r i z hi i2]
 ·simp only [hi, iff_false]
  rw [word_dgt r i z h.1 i1 (by omega)]
  have := dg_lt (anc (r - i) z)
  omega

def betaN : Nat → Ei
 | 0 => ⟨1, 0⟩
 | k + 1 => (betaN k).mul beta
theorem betaN_in (k : Nat) (h : k ≤ 12) : (betaN k).In 120000 := by
 have : ∀ j : Fin 13, (betaN j.val).In 120000 := by unfold Ei.In; decide
 exact this ⟨k, by omega⟩
def ax (x y : Int) : Ei := ⟨45 * x - 26 * y, 52 * y⟩
def near (x y : Int) (r : Nat) : Ei := ((ax x y).mul (betaN (12 - r)).conj).round (2340 * 7 ^ (12 - r))
theorem pr_H {z : Ei} {n m : Int} (h : z.H n) (hm : 3 * n + 4 < 7 * (m + 1)) : (pr z).H m := by
 have h7 := round_spec (z.mul ⟨3, -1⟩) (d := 7) (by decide)
 unfold holds at h7
 unfold Ei.H pr at *
 simp only [Ei.mul] at *
 generalize Ei.round _ 7 = q at *
 simp only [Int.mul_one, Int.mul_neg] at *
 omega
theorem pr3_H {z : Ei} {n m : Int} (h : z.H n) (hm : 19 * n + 330 < 343 * (m + 1)) : (anc 3 z).H m := by
 obtain ⟨l1, _, g1, e1, f1⟩ := pr_spec z
 obtain ⟨l2, _, g2, e2, f2⟩ := pr_spec (pr z)
 obtain ⟨l3, _, g3, e3, f3⟩ := pr_spec (pr (pr z))
 show (pr (pr (pr z))).H m
 generalize pr (pr (pr z)) = q at *
 generalize pr (pr z) = q2 at *
 generalize pr z = q1 at *
 unfold Ei.H at *
 omega
theorem near_H0 (x y : Int) (hx : 0 ≤ x ∧ x < 1073741824) (hy : 0 ≤ y ∧ y < 1073741824) : (near x y 0).H 260 := by
 have h := round_spec ((ax x y).mul (betaN (12 - 0)).conj) (d := 2340 * 7 ^ (12 - 0)) (by decide)
 have e : (betaN (12 - 0)).conj = ⟨-128231, 102960⟩ := by decide
 have ed : (2340 * 7 ^ (12 - 0) : Int) = 32388612050340 := by decide
 unfold near
 generalize Ei.round _ _ = q at *
 rw [e, ed] at h
 unfold holds Ei.H at *
 simp only [Ei.mul, ax] at *
 omega
theorem near_H1 (x y : Int) (hx : 0 ≤ x ∧ x < 1073741824) (hy : 0 ≤ y ∧ y < 1073741824) : (near x y 1).H 734 := by
 have h := round_spec ((ax x y).mul (betaN (12 - 1)).conj) (d := 2340 * 7 ^ (12 - 1)) (by decide)
 have e : (betaN (12 - 1)).conj = ⟨-51346, 25807⟩ := by decide
 have ed : (2340 * 7 ^ (12 - 1) : Int) = 4626944578620 := by decide
 unfold near
 generalize Ei.round _ _ = q at *
 rw [e, ed] at h
 unfold holds Ei.H at *
 simp only [Ei.mul, ax] at *
 omega
theorem near_H2 (x y : Int) (hx : 0 ≤ x ∧ x < 1073741824) (hy : 0 ≤ y ∧ y < 1073741824) : (near x y 2).H 2004 := by
 have h := round_spec ((ax x y).mul (betaN (12 - 2)).conj) (d := 2340 * 7 ^ (12 - 2)) (by decide)
 have e : (betaN (12 - 2)).conj = ⟨-18357, 3725⟩ := by decide
 have ed : (2340 * 7 ^ (12 - 2) : Int) = 660992082660 := by decide
 unfold near
 generalize Ei.round _ _ = q at *
 rw [e, ed] at h
 unfold holds Ei.H at *
 simp only [Ei.mul, ax] at *
 omega
theorem near_H3 (x y : Int) (hx : 0 ≤ x ∧ x < 1073741824) (hy : 0 ≤ y ∧ y < 1073741824) : (near x y 3).H 4887 := by
 have h := round_spec ((ax x y).mul (betaN (12 - 3)).conj) (d := 2340 * 7 ^ (12 - 3)) (by decide)
 have e : (betaN (12 - 3)).conj = ⟨-5777, -1026⟩ := by decide
 have ed : (2340 * 7 ^ (12 - 3) : Int) = 94427440380 := by decide
 unfold near
 generalize Ei.round _ _ = q at *
 rw [e, ed] at h
 unfold holds Ei.H at *
 simp only [Ei.mul, ax] at *
 omega
theorem near_H4 (x y : Int) (hx : 0 ≤ x ∧ x < 1073741824) (hy : 0 ≤ y ∧ y < 1073741824) : (near x y 4).H 13376 := by
 have h := round_spec ((ax x y).mul (betaN (12 - 4)).conj) (d := 2340 * 7 ^ (12 - 4)) (by decide)
 have e : (betaN (12 - 4)).conj = ⟨-1504, -1265⟩ := by decide
 have ed : (2340 * 7 ^ (12 - 4) : Int) = 13489634340 := by decide
 unfold near
 generalize Ei.round _ _ = q at *
 rw [e, ed] at h
 unfold holds Ei.H at *
 simp only [Ei.mul, ax] at *
 omega
theorem near_H5 (x y : Int) (hx : 0 ≤ x ∧ x < 1073741824) (hy : 0 ≤ y ∧ y < 1073741824) : (near x y 5).H 37163 := by
 have h := round_spec ((ax x y).mul (betaN (12 - 5)).conj) (d := 2340 * 7 ^ (12 - 5)) (by decide)
 have e : (betaN (12 - 5)).conj = ⟨-249, -757⟩ := by decide
 have ed : (2340 * 7 ^ (12 - 5) : Int) = 1927090620 := by decide
 unfold near
 generalize Ei.round _ _ = q at *
 rw [e, ed] at h
 unfold holds Ei.H at *
 simp only [Ei.mul, ax] at *
 omega
theorem near_H6 (x y : Int) (hx : 0 ≤ x ∧ x < 1073741824) (hy : 0 ≤ y ∧ y < 1073741824) : (near x y 6).H 92189 := by
 have h := round_spec ((ax x y).mul (betaN (12 - 6)).conj) (d := 2340 * 7 ^ (12 - 6)) (by decide)
 have e : (betaN (12 - 6)).conj = ⟨37, -360⟩ := by decide
 have ed : (2340 * 7 ^ (12 - 6) : Int) = 275298660 := by decide
 unfold near
 generalize Ei.round _ _ = q at *
 rw [e, ed] at h
 unfold holds Ei.H at *
 simp only [Ei.mul, ax] at *
 omega
theorem near_H7 (x y : Int) (hx : 0 ≤ x ∧ x < 1073741824) (hy : 0 ≤ y ∧ y < 1073741824) : (near x y 7).H 243699 := by
 have h := round_spec ((ax x y).mul (betaN (12 - 7)).conj) (d := 2340 * 7 ^ (12 - 7)) (by decide)
 have e : (betaN (12 - 7)).conj = ⟨62, -149⟩ := by decide
 have ed : (2340 * 7 ^ (12 - 7) : Int) = 39328380 := by decide
 unfold near
 generalize Ei.round _ _ = q at *
 rw [e, ed] at h
 unfold holds Ei.H at *
 simp only [Ei.mul, ax] at *
 omega
theorem near_H8 (x y : Int) (hx : 0 ≤ x ∧ x < 1073741824) (hy : 0 ≤ y ∧ y < 1073741824) : (near x y 8).H 688202 := by
 have h := round_spec ((ax x y).mul (betaN (12 - 8)).conj) (d := 2340 * 7 ^ (12 - 8)) (by decide)
 have e : (betaN (12 - 8)).conj = ⟨39, -55⟩ := by decide
 have ed : (2340 * 7 ^ (12 - 8) : Int) = 5618340 := by decide
 unfold near
 generalize Ei.round _ _ = q at *
 rw [e, ed] at h
 unfold holds Ei.H at *
 simp only [Ei.mul, ax] at *
 omega
theorem near_H9 (x y : Int) (hx : 0 ≤ x ∧ x < 1073741824) (hy : 0 ≤ y ∧ y < 1073741824) : (near x y 9).H 1735123 := by
 have h := round_spec ((ax x y).mul (betaN (12 - 9)).conj) (d := 2340 * 7 ^ (12 - 9)) (by decide)
 have e : (betaN (12 - 9)).conj = ⟨19, -18⟩ := by decide
 have ed : (2340 * 7 ^ (12 - 9) : Int) = 802620 := by decide
 unfold near
 generalize Ei.round _ _ = q at *
 rw [e, ed] at h
 unfold holds Ei.H at *
 simp only [Ei.mul, ax] at *
 omega
theorem near_H10 (x y : Int) (hx : 0 ≤ x ∧ x < 1073741824) (hy : 0 ≤ y ∧ y < 1073741824) : (near x y 10).H 4429444 := by
 have h := round_spec ((ax x y).mul (betaN (12 - 10)).conj) (d := 2340 * 7 ^ (12 - 10)) (by decide)
 have e : (betaN (12 - 10)).conj = ⟨8, -5⟩ := by decide
 have ed : (2340 * 7 ^ (12 - 10) : Int) = 114660 := by decide
 unfold near
 generalize Ei.round _ _ = q at *
 rw [e, ed] at h
 unfold holds Ei.H at *
 simp only [Ei.mul, ax] at *
 omega
theorem near_H11 (x y : Int) (hx : 0 ≤ x ∧ x < 1073741824) (hy : 0 ≤ y ∧ y < 1073741824) : (near x y 11).H 12717090 := by
 have h := round_spec ((ax x y).mul (betaN (12 - 11)).conj) (d := 2340 * 7 ^ (12 - 11)) (by decide)
 have e : (betaN (12 - 11)).conj = ⟨3, -1⟩ := by decide
 have ed : (2340 * 7 ^ (12 - 11) : Int) = 16380 := by decide
 unfold near
 generalize Ei.round _ _ = q at *
 rw [e, ed] at h
 unfold holds Ei.H at *
 simp only [Ei.mul, ax] at *
 omega
theorem near_H12 (x y : Int) (hx : 0 ≤ x ∧ x < 1073741824) (hy : 0 ≤ y ∧ y < 1073741824) : (near x y 12).H 32579347 := by
 have h := round_spec ((ax x y).mul (betaN (12 - 12)).conj) (d := 2340 * 7 ^ (12 - 12)) (by decide)
 have e : (betaN (12 - 12)).conj = ⟨1, 0⟩ := by decide
 have ed : (2340 * 7 ^ (12 - 12) : Int) = 2340 := by decide
 unfold near
 generalize Ei.round _ _ = q at *
 rw [e, ed] at h
 unfold holds Ei.H at *
 simp only [Ei.mul, ax] at *
 omega
theorem chain0 {z : Ei} (h0 : z.H 260) : (anc 0 z).H 511 := by
 exact h0.mono (by decide)
theorem near_base0 (x y : Int) (hx : 0 ≤ x ∧ x < 1073741824) (hy : 0 ≤ y ∧ y < 1073741824) : (anc 0 (near x y 0)).H 511 := chain0 (near_H0 x y hx hy)
theorem chain1 {z : Ei} (h0 : z.H 734) : (anc 1 z).H 511 := by
 have h1 := pr_H (m := 315) h0 (by decide)
 exact h1.mono (by decide)
theorem near_base1 (x y : Int) (hx : 0 ≤ x ∧ x < 1073741824) (hy : 0 ≤ y ∧ y < 1073741824) : (anc 1 (near x y 1)).H 511 := chain1 (near_H1 x y hx hy)
theorem chain2 {z : Ei} (h0 : z.H 2004) : (anc 2 z).H 511 := by
 have h1 := pr_H (m := 859) h0 (by decide)
 have h2 := pr_H (m := 368) h1 (by decide)
 exact h2.mono (by decide)
theorem near_base2 (x y : Int) (hx : 0 ≤ x ∧ x < 1073741824) (hy : 0 ≤ y ∧ y < 1073741824) : (anc 2 (near x y 2)).H 511 := chain2 (near_H2 x y hx hy)
theorem chain3 {z : Ei} (h0 : z.H 4887) : (anc 3 z).H 511 := by
 have h1 := pr3_H (m := 271) h0 (by decide)
 exact h1.mono (by decide)
theorem near_base3 (x y : Int) (hx : 0 ≤ x ∧ x < 1073741824) (hy : 0 ≤ y ∧ y < 1073741824) : (anc 3 (near x y 3)).H 511 := chain3 (near_H3 x y hx hy)
theorem chain4 {z : Ei} (h0 : z.H 13376) : (anc 4 z).H 511 := by
 have h1 := pr_H (m := 5733) h0 (by decide)
 have h2 := pr3_H (m := 318) h1 (by decide)
 exact h2.mono (by decide)
theorem near_base4 (x y : Int) (hx : 0 ≤ x ∧ x < 1073741824) (hy : 0 ≤ y ∧ y < 1073741824) : (anc 4 (near x y 4)).H 511 := chain4 (near_H4 x y hx hy)
theorem chain5 {z : Ei} (h0 : z.H 37163) : (anc 5 z).H 511 := by
 have h1 := pr_H (m := 15927) h0 (by decide)
 have h2 := pr_H (m := 6826) h1 (by decide)
 have h3 := pr3_H (m := 379) h2 (by decide)
 exact h3.mono (by decide)
theorem near_base5 (x y : Int) (hx : 0 ≤ x ∧ x < 1073741824) (hy : 0 ≤ y ∧ y < 1073741824) : (anc 5 (near x y 5)).H 511 := chain5 (near_H5 x y hx hy)
theorem chain6 {z : Ei} (h0 : z.H 92189) : (anc 6 z).H 511 := by
 have h1 := pr3_H (m := 5107) h0 (by decide)
 have h2 := pr3_H (m := 283) h1 (by decide)
 exact h2.mono (by decide)
theorem near_base6 (x y : Int) (hx : 0 ≤ x ∧ x < 1073741824) (hy : 0 ≤ y ∧ y < 1073741824) : (anc 6 (near x y 6)).H 511 := chain6 (near_H6 x y hx hy)
theorem chain7 {z : Ei} (h0 : z.H 243699) : (anc 7 z).H 511 := by
 have h1 := pr_H (m := 104443) h0 (by decide)
 have h2 := pr3_H (m := 5786) h1 (by decide)
 have h3 := pr3_H (m := 321) h2 (by decide)
 exact h3.mono (by decide)
theorem near_base7 (x y : Int) (hx : 0 ≤ x ∧ x < 1073741824) (hy : 0 ≤ y ∧ y < 1073741824) : (anc 7 (near x y 7)).H 511 := chain7 (near_H7 x y hx hy)
theorem chain8 {z : Ei} (h0 : z.H 688202) : (anc 8 z).H 511 := by
 have h1 := pr_H (m := 294944) h0 (by decide)
 have h2 := pr_H (m := 126405) h1 (by decide)
 have h3 := pr3_H (m := 7002) h2 (by decide)
 have h4 := pr3_H (m := 388) h3 (by decide)
 exact h4.mono (by decide)
theorem near_base8 (x y : Int) (hx : 0 ≤ x ∧ x < 1073741824) (hy : 0 ≤ y ∧ y < 1073741824) : (anc 8 (near x y 8)).H 511 := chain8 (near_H8 x y hx hy)
theorem chain9 {z : Ei} (h0 : z.H 1735123) : (anc 9 z).H 511 := by
 have h1 := pr3_H (m := 96115) h0 (by decide)
 have h2 := pr3_H (m := 5325) h1 (by decide)
 have h3 := pr3_H (m := 295) h2 (by decide)
 exact h3.mono (by decide)
theorem near_base9 (x y : Int) (hx : 0 ≤ x ∧ x < 1073741824) (hy : 0 ≤ y ∧ y < 1073741824) : (anc 9 (near x y 9)).H 511 := chain9 (near_H9 x y hx hy)
theorem chain10 {z : Ei} (h0 : z.H 4429444) : (anc 10 z).H 511 := by
 have h1 := pr_H (m := 1898333) h0 (by decide)
 have h2 := pr3_H (m := 105156) h1 (by decide)
 have h3 := pr3_H (m := 5825) h2 (by decide)
 have h4 := pr3_H (m := 323) h3 (by decide)
 exact h4.mono (by decide)
theorem near_base10 (x y : Int) (hx : 0 ≤ x ∧ x < 1073741824) (hy : 0 ≤ y ∧ y < 1073741824) : (anc 10 (near x y 10)).H 511 := chain10 (near_H10 x y hx hy)
theorem chain11 {z : Ei} (h0 : z.H 12717090) : (anc 11 z).H 511 := by
 have h1 := pr_H (m := 5450182) h0 (by decide)
 have h2 := pr_H (m := 2335792) h1 (by decide)
 have h3 := pr3_H (m := 129388) h2 (by decide)
 have h4 := pr3_H (m := 7168) h3 (by decide)
 have h5 := pr3_H (m := 398) h4 (by decide)
 exact h5.mono (by decide)
theorem near_base11 (x y : Int) (hx : 0 ≤ x ∧ x < 1073741824) (hy : 0 ≤ y ∧ y < 1073741824) : (anc 11 (near x y 11)).H 511 := chain11 (near_H11 x y hx hy)
theorem chain12 {z : Ei} (h0 : z.H 32579347) : (anc 12 z).H 511 := by
 have h1 := pr3_H (m := 1804687) h0 (by decide)
 have h2 := pr3_H (m := 99969) h1 (by decide)
 have h3 := pr3_H (m := 5538) h2 (by decide)
 have h4 := pr3_H (m := 307) h3 (by decide)
 exact h4.mono (by decide)
theorem near_base12 (x y : Int) (hx : 0 ≤ x ∧ x < 1073741824) (hy : 0 ≤ y ∧ y < 1073741824) : (anc 12 (near x y 12)).H 511 := chain12 (near_H12 x y hx hy)
theorem near_H (x y : Int) (r : Nat) (hx : 0 ≤ x ∧ x < 1073741824) (hy : 0 ≤ y ∧ y < 1073741824) (hr : r ≤ 12) : (near x y r).H 32579347 := by
 rcases (show r = 0 ∨ r = 1 ∨ r = 2 ∨ r = 3 ∨ r = 4 ∨ r = 5 ∨ r = 6 ∨ r = 7 ∨ r = 8 ∨ r = 9 ∨ r = 10 ∨ r = 11 ∨ r = 12 by omega) with rfl | rfl | rfl | rfl | rfl | rfl | rfl | rfl | rfl | rfl | rfl | rfl | rfl
 ·exact (near_H0 x y hx hy).mono (by decide)
 ·exact (near_H1 x y hx hy).mono (by decide)
 ·exact (near_H2 x y hx hy).mono (by decide)
 ·exact (near_H3 x y hx hy).mono (by decide)
 ·exact (near_H4 x y hx hy).mono (by decide)
 ·exact (near_H5 x y hx hy).mono (by decide)
 ·exact (near_H6 x y hx hy).mono (by decide)
 ·exact (near_H7 x y hx hy).mono (by decide)
 ·exact (near_H8 x y hx hy).mono (by decide)
 ·exact (near_H9 x y hx hy).mono (by decide)
 ·exact (near_H10 x y hx hy).mono (by decide)
 ·exact (near_H11 x y hx hy).mono (by decide)
 ·exact (near_H12 x y hx hy).mono (by decide)
theorem near_base (x y : Int) (r : Nat) (hx : 0 ≤ x ∧ x < 1073741824) (hy : 0 ≤ y ∧ y < 1073741824) (hr : r ≤ 12) : (anc r (near x y r)).H 511 := by
 rcases (show r = 0 ∨ r = 1 ∨ r = 2 ∨ r = 3 ∨ r = 4 ∨ r = 5 ∨ r = 6 ∨ r = 7 ∨ r = 8 ∨ r = 9 ∨ r = 10 ∨ r = 11 ∨ r = 12 by omega) with rfl | rfl | rfl | rfl | rfl | rfl | rfl | rfl | rfl | rfl | rfl | rfl | rfl
 ·exact near_base0 x y hx hy
 ·exact near_base1 x y hx hy
 ·exact near_base2 x y hx hy
 ·exact near_base3 x y hx hy
 ·exact near_base4 x y hx hy
 ·exact near_base5 x y hx hy
 ·exact near_base6 x y hx hy
 ·exact near_base7 x y hx hy
 ·exact near_base8 x y hx hy
 ·exact near_base9 x y hx hy
 ·exact near_base10 x y hx hy
 ·exact near_base11 x y hx hy
 ·exact near_base12 x y hx hy
theorem near_okc (x y : Int) (r : Nat) (hx : 0 ≤ x ∧ x < 1073741824) (hy : 0 ≤ y ∧ y < 1073741824) (hr : r ≤ 12) : okc r (near x y r) := by
 have h1 := near_H x y r hx hy hr
 have h2 := near_base x y r hx hy hr
 unfold okc
 unfold Ei.In
 unfold Ei.H at h1 h2
 omega

noncomputable def eisen_times_pc : PC :=
  (.seq (.reg [p_a 4 (.new [(.r (.v (.int .i64 0))), (.r (.v (.int .u64 0)))])])
 (.seq (.reg [p_m 9 0, p_s 10 (.conv .u64 (.t 9)), p_m 11 1, p_s 12 (.conv .u64 (.t 11)), p_c 13 1 132 [.t 10, .t 12], p_m 8 13, p_s 14 (.ext (.t 8) 0), p_s 15 (.ext (.t 8) 1),
 p_m 5 14, p_m 6 15])
 (.seq (.reg [p_m 16 5, p_s 17 (.conv .i64 (.t 16)), p_m 7 17])
 (.seq (.seq (.reg [p_m 18 0, p_s 19 (.bin .lss (.t 18) (o_i 0))])
 (.cond (.t 19)
 (.reg [p_m 20 7, p_m 21 1, p_s 22 (.bin .sub (.t 20) (.t 21)), p_m 7 22])
 .skip))
 (.seq (.seq (.reg [p_m 23 1, p_s 24 (.bin .lss (.t 23) (o_i 0))])
 (.cond (.t 24)
 (.reg [p_m 25 7, p_m 26 0, p_s 27 (.bin .sub (.t 25) (.t 26)), p_m 7 27])
 .skip))
 (.seq (.reg [p_m 28 7, p_m 29 6, p_s 30 (.build [(.r (.v (.int .i64 0))), (.r (.v (.int .u64 0)))] [(0, 1, (.t 28)), (1, 1, (.t 29))]), ⟨none, none, 0, .act (.st 2 (.t 4) (.t 30))⟩])
 .ret))))))
theorem eisen_times_triple : Fun P0 153 2 [(4, false, some (218, (some 2)))] eisen_times_pc := fun_mk Go.Proofs.Tryz.func153 rfl (by decide) (by kernel_rfl) (by decide) rfl (by kernel_rfl) (by kernel_rfl) (by decide)
noncomputable def eisen_wide_plus_pc : PC :=
  (.seq (.reg [p_a 2 (.box (.t 0)), p_a 3 (.box (.t 1)), p_a 4 (.new [(.r (.v (.int .i64 0))), (.r (.v (.int .u64 0)))])])
 (.seq (.reg [p_s 8 (.fa 1 (.t 2)), p_s 9 (.ld none (.t 8)), p_s 10 (.fa 1 (.t 3)), p_s 11 (.ld none (.t 10)), p_s 12 (.carry false (.t 9) (.t 11) (.c (.r (.v (.int .u64 0))))),
 p_m 7 12, p_s 13 (.ext (.t 7) 0), p_s 14 (.ext (.t 7) 1), p_m 5 13, p_m 6 14])
 (.seq (.reg [p_s 15 (.fa 0 (.t 2)), p_s 16 (.ld none (.t 15)), p_s 17 (.fa 0 (.t 3)), p_s 18 (.ld none (.t 17)), p_s 19 (.bin .add (.t 16) (.t 18)), p_m 20 6, p_s 21 (.conv .i64 (.t 20)),
 p_s 22 (.bin .add (.t 19) (.t 21)), p_m 23 5, p_s 24 (.build [(.r (.v (.int .i64 0))), (.r (.v (.int .u64 0)))] [(0, 1, (.t 22)), (1, 1, (.t 23))]), ⟨none, none, 0, .act (.st 2 (.t 4) (.t 24))⟩])
 .ret)))
theorem eisen_wide_plus_triple : Fun P0 152 2 [(4, false, some (218, (some 2)))] eisen_wide_plus_pc := fun_mk Go.Proofs.Tryz.func152 rfl (by decide) (by kernel_rfl) (by decide) rfl (by kernel_rfl) (by kernel_rfl) (by decide)
noncomputable def eisen_wide_minus_pc : PC :=
  (.seq (.reg [p_a 2 (.box (.t 0)), p_a 3 (.box (.t 1)), p_a 4 (.new [(.r (.v (.int .i64 0))), (.r (.v (.int .u64 0)))])])
 (.seq (.reg [p_s 8 (.fa 1 (.t 2)), p_s 9 (.ld none (.t 8)), p_s 10 (.fa 1 (.t 3)), p_s 11 (.ld none (.t 10)), p_s 12 (.carry true (.t 9) (.t 11) (.c (.r (.v (.int .u64 0))))),
 p_m 7 12, p_s 13 (.ext (.t 7) 0), p_s 14 (.ext (.t 7) 1), p_m 5 13, p_m 6 14])
 (.seq (.reg [p_s 15 (.fa 0 (.t 2)), p_s 16 (.ld none (.t 15)), p_s 17 (.fa 0 (.t 3)), p_s 18 (.ld none (.t 17)), p_s 19 (.bin .sub (.t 16) (.t 18)), p_m 20 6, p_s 21 (.conv .i64 (.t 20)),
 p_s 22 (.bin .sub (.t 19) (.t 21)), p_m 23 5, p_s 24 (.build [(.r (.v (.int .i64 0))), (.r (.v (.int .u64 0)))] [(0, 1, (.t 22)), (1, 1, (.t 23))]), ⟨none, none, 0, .act (.st 2 (.t 4) (.t 24))⟩])
 .ret)))
theorem eisen_wide_minus_triple : Fun P0 154 2 [(4, false, some (218, (some 2)))] eisen_wide_minus_pc := fun_mk Go.Proofs.Tryz.func154 rfl (by decide) (by kernel_rfl) (by decide) rfl (by kernel_rfl) (by kernel_rfl) (by decide)
noncomputable def eisen_wide_short_pc : PC :=
  (.seq (.reg [p_a 1 (.box (.t 0)), p_s 2 (.mov (o_i 0)), p_s 3 (.mov (.c (.r (.v (.bool false)))))])
 (.seq (.reg [p_s 5 (.fa 1 (.t 1)), p_s 6 (.ld none (.t 5)), p_s 7 (.conv .i64 (.t 6)), p_m 4 7])
 (.seq (.seq (.reg [p_m 8 4, p_s 9 (.bin .lss (.t 8) (o_i 0)), p_m 10 9, p_g 11 10 true (.fa 0 (.t 1)), p_g 12 10 true (.ld none (.t 11)), p_g 13 10 true (.bin .eql (.t 12) (o_i (-1))),
 p_s 14 (.pick (.t 10) (.t 13) (.c (.r (.v (.bool false))))), p_m 15 14, p_g 16 15 false (.mov (.t 4)), p_g 17 15 false (.bin .geq (.t 16) (o_i 0)), p_g 18 15 false (.mov (.t 17)),
 p_g 19 18 true (.fa 0 (.t 1)), p_g 20 18 true (.ld none (.t 19)), p_g 21 18 true (.bin .eql (.t 20) (o_i 0)), p_g 22 15 false (.pick (.t 18) (.t 21) (.c (.r (.v (.bool false))))),
 p_s 23 (.pick (.t 15) (.c (.r (.v (.bool true)))) (.t 22))])
 (.cond (.t 23)
 (.seq (.reg [p_m 24 4, p_m 2 24, p_s 3 (.mov (.c (.r (.v (.bool true)))))])
 .ret)
 .skip))
 (.seq (.reg [p_s 2 (.mov (o_i 0)), p_s 3 (.mov (.c (.r (.v (.bool false)))))])
 .ret))))
theorem eisen_wide_short_triple : Fun P0 155 1 [(2, false, none), (3, false, none)] eisen_wide_short_pc := fun_mk Go.Proofs.Tryz.func155 rfl (by decide) (by kernel_rfl) (by decide) rfl (by kernel_rfl) (by kernel_rfl) (by decide)
noncomputable def eisen_both_pc : PC :=
  (.seq (.reg [p_a 8 (.new [(.r (.v (.int .i64 0))), (.r (.v (.int .i64 0)))]), p_s 9 (.mov (.c (.r (.v (.bool false)))))])
 (.seq (.seq (.reg [p_m 10 1, p_s 11 (.un .not (.t 10)), p_m 12 11, p_g 13 12 false (.mov (.t 3)), p_g 14 12 false (.un .not (.t 13)), p_s 15 (.pick (.t 12) (.c (.r (.v (.bool true)))) (.t 14))])
 (.cond (.t 15)
 (.seq (.reg [p_s 16 (.build [(.r (.v (.int .i64 0))), (.r (.v (.int .i64 0)))] []), ⟨none, none, 0, .act (.st 2 (.t 8) (.t 16))⟩, p_s 9 (.mov (.c (.r (.v (.bool false)))))])
 .ret)
 .skip))
 (.seq (.reg [p_m 17 0, p_m 18 2, p_s 19 (.build [(.r (.v (.int .i64 0))), (.r (.v (.int .i64 0)))] [(0, 1, (.t 17)), (1, 1, (.t 18))]), ⟨none, none, 0, .act (.st 2 (.t 8) (.t 19))⟩,
 p_s 9 (.mov (.c (.r (.v (.bool true)))))])
 .ret)))
theorem eisen_both_triple : Fun P0 156 4 [(8, false, some (65, (some 2))), (9, false, none)] eisen_both_pc := fun_mk Go.Proofs.Tryz.func156 rfl (by decide) (by kernel_rfl) (by decide) rfl (by kernel_rfl) (by kernel_rfl) (by decide)
noncomputable def eisen_Mul_pc : PC :=
  (.seq (.reg [p_a 2 (.box (.t 0)), p_a 3 (.box (.t 1)), p_a 4 (.new [(.r (.v (.int .i64 0))), (.r (.v (.int .i64 0)))]), p_s 5 (.mov (.c (.r (.v (.bool false)))))])
 (.seq (.reg [p_s 6 (.mov (.c (.fn (.func 152) [])))])
 (.seq (.reg [p_s 12 (.fa 1 (.t 2)), p_s 13 (.ld none (.t 12)), p_s 14 (.fa 1 (.t 3)), p_s 15 (.ld none (.t 14)), p_c 16 1 153 [.t 13, .t 15], p_a 7 (.new [(.r (.v (.int .i64 0))), (.r (.v (.int .u64 0)))]),
 ⟨none, none, 0, .act (.st 2 (.t 7) (.t 16))⟩])
 (.seq (.drw [p_s 18 (.fa 0 (.t 2)), p_s 19 (.ld none (.t 18)), p_s 20 (.fa 0 (.t 3)), p_s 21 (.ld none (.t 20)), p_c 22 2 153 [.t 19, .t 21], p_s 23 (.ld (some 2) (.t 7)), p_c 24 3 154 [.t 22, .t 23],
 p_c 25 4 155 [.t 24], p_m 17 25, p_s 26 (.ext (.t 17) 0), p_s 27 (.ext (.t 17) 1), p_m 8 26, p_m 9 27]
 [[], [0], [], [2], [0, 1, 2, 3], [], [0, 1, 2, 3, 4, 5], [0, 1, 2, 3, 4, 5, 6], [0, 1, 2, 3, 4, 5, 6, 7], [0, 1, 2, 3, 4, 5, 6, 7, 8], [0, 1, 2, 3, 4, 5, 6, 7, 8], [0, 1, 2, 3, 4, 5, 6, 7, 8, 9], [0, 1, 2, 3, 4, 5, 6, 7, 8, 9, 10, 11]])
 (.seq (.drw [p_m 29 6, p_m 30 6, p_s 31 (.fa 0 (.t 2)), p_s 32 (.ld none (.t 31)), p_s 33 (.fa 1 (.t 3)), p_s 34 (.ld none (.t 33)), p_c 35 5 153 [.t 32, .t 34], p_s 36 (.fa 1 (.t 2)),
 p_s 37 (.ld none (.t 36)), p_s 38 (.fa 0 (.t 3)), p_s 39 (.ld none (.t 38)), p_c 40 6 153 [.t 37, .t 39], ⟨(some 41), none, 7, .callv (.t 30) [(.t 35), (.t 40)]⟩,
 p_s 42 (.ld (some 2) (.t 7)), ⟨(some 43), none, 8, .callv (.t 29) [(.t 41), (.t 42)]⟩, p_c 44 9 155 [.t 43], p_m 28 44, p_s 45 (.ext (.t 28) 0), p_s 46 (.ext (.t 28) 1),
 p_m 10 45, p_m 11 46]
 [[], [], [], [2], [], [4], [2, 3, 4, 5], [], [7], [], [9], [2, 3, 4, 5, 6, 7, 8, 9, 10], [1, 2, 3, 4, 5, 6, 7, 8, 9, 10, 11], [], [0, 1, 2, 3, 4, 5, 6, 7, 8, 9, 10, 11, 12, 13], [0, 1, 2, 3, 4, 5, 6, 7, 8, 9, 10, 11, 12, 13, 14], [0, 1, 2, 3, 4, 5, 6, 7, 8, 9, 10, 11, 12, 13, 14, 15], [0, 1, 2, 3, 4, 5, 6, 7, 8, 9, 10, 11, 12, 13, 14, 15, 16], [0, 1, 2, 3, 4, 5, 6, 7, 8, 9, 10, 11, 12, 13, 14, 15, 16], [0, 1, 2, 3, 4, 5, 6, 7, 8, 9, 10, 11, 12, 13, 14, 15, 16, 17], [0, 1, 2, 3, 4, 5, 6, 7, 8, 9, 10, 11, 12, 13, 14, 15, 16, 17, 18, 19]])
 (.seq (.reg [p_m 47 8, p_m 48 9, p_m 49 10, p_m 50 11, p_c 51 10 156 [.t 47, .t 48, .t 49, .t 50], p_s 52 (.ext (.t 51) 0), p_s 53 (.ext (.t 51) 1), ⟨none, none, 0, .act (.st 2 (.t 4) (.t 52))⟩,
 p_m 5 53])
 .ret))))))
theorem eisen_Mul_triple : Fun P0 129 2 [(4, false, some (65, (some 2))), (5, false, none)] eisen_Mul_pc := fun_mk Go.Proofs.Tryz.func129 rfl (by decide) (by kernel_rfl) (by decide) rfl (by kernel_rfl) (by kernel_rfl) (by decide)
def wid (x : Int) : AV := .r (.agg [.v (.int .i64 (IntKind.i64.wrap (x / 18446744073709551616))), .v (.int .u64 (x % 18446744073709551616))])
theorem wid_eq {x a b : Int} (h1 : a = IntKind.i64.wrap (x / 18446744073709551616)) (h2 : b = x % 18446744073709551616) : AV.r (.agg [.v (.int .i64 a), .v (.int .u64 b)]) = wid x := by rw [h1, h2]; rfl
theorem wplus_t (a b : Int) : Triple P0 152 [wid a, wid b] [] (wid (a + b)) [] := by
 refine eisen_wide_plus_triple rfl (by decide) ?_
 simp only [eisen_wide_plus_pc, wid, push_cast, ↓reduceIte, reduceCtorEq, zB, zE, zA, zS, zL, zD, zM]
 refine ⟨by omega, wid_eq ?_ ?_⟩
 ·simp only [IntKind.wrap_i64]; omega
 ·omega
theorem wminus_t (a b : Int) : Triple P0 154 [wid a, wid b] [] (wid (a - b)) [] := by
 refine eisen_wide_minus_triple rfl (by decide) ?_
 simp only [eisen_wide_minus_pc, wid, push_cast, ↓reduceIte, reduceCtorEq, zB, zE, zA, zS, zL, zD, zM]
 refine ⟨by omega, wid_eq ?_ ?_⟩
 ·simp only [IntKind.wrap_i64]; omega
 ·omega
theorem wshort_t (a : Int) (h : -170141183460469231731687303715884105728 ≤ a ∧ a < 170141183460469231731687303715884105728) : Triple P0 155 [wid a] [] (sm a) [] := by
 refine eisen_wide_short_triple rfl (by decide) ?_
 simp only [eisen_wide_short_pc, wid, push_cast, ↓reduceIte, reduceCtorEq, zB, zE, zA, zS, zL, zD, zM]
 rw [IntKind.wrap_i64, IntKind.wrap_i64]
 have hn : in64 a → (a % 18446744073709551616 + 9223372036854775808) % 18446744073709551616 - 9223372036854775808 = a := by unfold in64; omega
 have hh : (a / 18446744073709551616 + 9223372036854775808) % 18446744073709551616 - 9223372036854775808 = a / 18446744073709551616 := by omega
 rw [hh]
 have h0 : a / 18446744073709551616 = 0 → (a % 18446744073709551616 + 9223372036854775808) % 18446744073709551616 - 9223372036854775808 ≥ 0 → in64 a := by unfold in64; omega
 have h1 : a / 18446744073709551616 = -1 → (a % 18446744073709551616 + 9223372036854775808) % 18446744073709551616 - 9223372036854775808 < 0 → in64 a := by unfold in64; omega
 have h2 : in64 a → (a / 18446744073709551616 = 0 ∧ (a % 18446744073709551616 + 9223372036854775808) % 18446744073709551616 - 9223372036854775808 ≥ 0) ∨ (a / 18446744073709551616 = -1 ∧ (a % 18446744073709551616 + 9223372036854775808) % 18446744073709551616 - 9223372036854775808 < 0) := by unfold in64; omega
 generalize a / 18446744073709551616 = q at *
 generalize (a % 18446744073709551616 + 9223372036854775808) % 18446744073709551616 - 9223372036854775808 = n at *
 refine ⟨by simp +contextual, by simp +contextual; omega, cnd_mk (fun hc => ?_) (fun hc => ?_)⟩
 ·simp only [push_cast, ↓reduceIte, reduceCtorEq, zB, zE, zA, zS, zL, zD, zM]
  have hy : in64 a := by
   by_cases c1 : n < 0
   ·by_cases c2 : q = -1
    ·exact h1 c2 c1
    ·simp [c1, c2] at hc; omega
   ·by_cases c2 : q = 0
    ·exact h0 c2 (by omega)
    ·simp [c1, c2] at hc
  exact sm_yes (hn hy) hy
 ·simp only [push_cast, ↓reduceIte, reduceCtorEq, zB, zE, zA, zS, zL, zD, zM]
  refine sm_no fun hy => ?_
  rcases h2 hy with ⟨e1, e2⟩ | ⟨e1, e2⟩
  ·simp [e1, e2] at hc
  ·simp [e1, e2] at hc
theorem mod_neg {a : Int} (ha : in64 a) : IntKind.u64.wrap a = if a < 0 then a + 18446744073709551616 else a := by
 unfold in64 at ha
 rw [IntKind.wrap_u64]
 split <;> omega
theorem wtimes_t (a b : Int) (ha : in64 a) (hb : in64 b) : Triple P0 153 [int .i64 a, int .i64 b] [] (wid (a * b)) [] := by
 refine eisen_times_triple rfl (by decide) ?_
 simp only [eisen_times_pc, push_cast, ↓reduceIte, reduceCtorEq, zB, zE, zA, zS, zL, zD, zM]
 have ha' := ha
 have hb' := hb
 unfold in64 at ha' hb'
 have hu : ∀ x : Int, in64 x → ((IntKind.u64.wrap x).toNat : Int) = if x < 0 then x + 18446744073709551616 else x := fun x hx => by
  rw [mod_neg hx]
  unfold in64 at hx
  split <;> omega
 have hu0 : ∀ x : Int, in64 x → (IntKind.u64.wrap x).toNat < 18446744073709551616 := fun x hx => by
  rw [mod_neg hx]
  unfold in64 at hx
  split <;> omega
 refine call_as (as' := [int .u64 (IntKind.u64.wrap a).toNat, int .u64 (IntKind.u64.wrap b).toNat]) (by rw [hu a ha, hu b hb, mod_neg ha, mod_neg hb]) ?_
 refine call_mk (mul64_t _ _ (hu0 a ha) (hu0 b hb)) rfl trivial ?_
 simp only [push_cast, ↓reduceIte, reduceCtorEq, zB, zE, zA, zS, zL, zD, zM]
 have hp : ((IntKind.u64.wrap a).toNat : Int) * ((IntKind.u64.wrap b).toNat : Int) = a * b + (if a < 0 then b * 18446744073709551616 else 0) + (if b < 0 then a * 18446744073709551616 else 0) + (if a < 0 then if b < 0 then 340282366920938463463374607431768211456 else 0 else 0) := by
  rw [hu a ha, hu b hb]
  split <;> split <;> (try simp only [Int.add_mul, Int.mul_add]) <;> omega
 rw [hp]
 generalize a * b = m
 refine cnd_mk (fun h1 => ?_) (fun h1 => ?_) <;> simp only [push_cast, ↓reduceIte, reduceCtorEq, zB, zE, zA, zS, zL, zD, zM] <;> refine cnd_mk (fun h2 => ?_) (fun h2 => ?_) <;> simp only [push_cast, ↓reduceIte, reduceCtorEq, zB, zE, zA, zS, zL, zD, zM]
 all_goals
  simp only [decide_eq_true_eq, decide_eq_false_iff_not] at h1 h2
  simp only [h1, h2, if_true, if_false]
  refine wid_eq ?_ ?_
  ·simp only [IntKind.wrap_i64]; omega
  ·omega
theorem both_t (a b : Int) : Triple P0 156 [int .i64 a, bl true, int .i64 b, bl true] [] (.tup [Ei.v ⟨a, b⟩, bl true]) [] := by
 refine eisen_both_triple rfl (by decide) ?_
 simp only [eisen_both_pc, Ei.v, Ei.rv, push_cast, ↓reduceIte, reduceCtorEq, zB, zE, zA, zS, zL, zD, zM]
abbrev M62 : Int := 4611686018427387904
abbrev M63 : Int := 9223372036854775807
theorem Ei.In.ok {z : Ei} (h : z.In M63) : in64 z.a ∧ in64 z.b := by unfold Ei.In M63 at h; unfold in64; omega
theorem p124 {x y : Ei} (hx : x.In 4611686018427387904) (hy : y.In 4611686018427387904) : (-21267647932558653966460912964485513216 ≤ x.a * y.a ∧ x.a * y.a ≤ 21267647932558653966460912964485513216) ∧ (-21267647932558653966460912964485513216 ≤ x.a * y.b ∧ x.a * y.b ≤ 21267647932558653966460912964485513216) ∧ (-21267647932558653966460912964485513216 ≤ x.b * y.a ∧ x.b * y.a ≤ 21267647932558653966460912964485513216) ∧ (-21267647932558653966460912964485513216 ≤ x.b * y.b ∧ x.b * y.b ≤ 21267647932558653966460912964485513216) :=
 ⟨mul_in hx.1 hy.1, mul_in hx.1 hy.2, mul_in hx.2 hy.1, mul_in hx.2 hy.2⟩
theorem emul_t (x y : Ei) (hx : x.In 4611686018427387904) (hy : y.In 4611686018427387904) (hz : (x.mul y).In M63) : Triple P0 129 [x.v, y.v] [] (.tup [(x.mul y).v, bl true]) [] := by
 refine eisen_Mul_triple rfl (by decide) ?_
 have hz1 := hz.ok.1
 have hz2 := hz.ok.2
 simp only [Ei.mul] at hz1 hz2
 simp only [eisen_Mul_pc, Ei.v, Ei.rv, push_cast, ↓reduceIte, reduceCtorEq, zB, zE, zA, zS, zL, zD, zM]
 have hx1 : in64 x.a ∧ in64 x.b := by unfold Ei.In at hx; unfold in64; omega
 have hy1 : in64 y.a ∧ in64 y.b := by unfold Ei.In at hy; unfold in64; omega
 refine call_mk (wtimes_t x.b y.b hx1.2 hy1.2) rfl trivial ?_
 simp only [wid, push_cast, ↓reduceIte, reduceCtorEq, zB, zE, zA, zS, zL, zD, zM]
 refine dcall_mk (wtimes_t x.a y.a hx1.1 hy1.1) rfl trivial ?_
 simp only [wid, push_cast, ↓reduceIte, reduceCtorEq, zB, zE, zA, zS, zL, zD, zM]
 refine dcall_as (as' := [wid (x.a * y.a), wid (x.b * y.b)]) rfl ?_
 refine dcall_mk (wminus_t _ _) rfl trivial ?_
 simp only [wid, push_cast, ↓reduceIte, reduceCtorEq, zB, zE, zA, zS, zL, zD, zM]
 refine dcall_as (as' := [wid (x.a * y.a - x.b * y.b)]) rfl ?_
 refine dcall_mk (wshort_t _ ?_) rfl trivial ?_
 ·have := p124 hx hy
  omega
 simp only [sm, hz1, if_pos, push_cast, ↓reduceIte, reduceCtorEq, zB, zE, zA, zS, zL, zD, zM]
 refine And.intro (by kernel_rfl) ?_
 refine dcall_mk (wtimes_t x.a y.b hx1.1 hy1.2) rfl trivial ?_
 simp only [wid, push_cast, ↓reduceIte, reduceCtorEq, zB, zE, zA, zS, zL, zD, zM]
 refine dcall_mk (wtimes_t x.b y.a hx1.2 hy1.1) rfl trivial ?_
 simp only [wid, push_cast, ↓reduceIte, reduceCtorEq, zB, zE, zA, zS, zL, zD, zM]
 refine And.intro (by kernel_rfl) ?_
 refine dcall_as (as' := [wid (x.a * y.b), wid (x.b * y.a)]) rfl ?_
 refine dcall_mk (wplus_t _ _) rfl trivial ?_
 simp only [wid, push_cast, ↓reduceIte, reduceCtorEq, zB, zE, zA, zS, zL, zD, zM]
 refine And.intro (by kernel_rfl) ?_
 refine dcall_as (as' := [wid (x.a * y.b + x.b * y.a), wid (x.b * y.b)]) rfl ?_
 refine dcall_mk (wplus_t _ _) rfl trivial ?_
 simp only [wid, push_cast, ↓reduceIte, reduceCtorEq, zB, zE, zA, zS, zL, zD, zM]
 refine dcall_as (as' := [wid (x.a * y.b + x.b * y.a + x.b * y.b)]) rfl ?_
 refine dcall_mk (wshort_t _ ?_) rfl trivial ?_
 ·have := p124 hx hy
  omega
 simp only [sm, hz2, if_pos, push_cast, ↓reduceIte, reduceCtorEq, zB, zE, zA, zS, zL, zD, zM]
 refine And.intro (by kernel_rfl) ?_
 refine call_mk (both_t _ _) rfl trivial ?_
 simp only [Ei.v, Ei.rv, Ei.mul, push_cast, ↓reduceIte, reduceCtorEq, zB, zE, zA, zS, zL, zD, zM]

noncomputable def eisen_sides_pc : PC :=
  (.seq (.reg [p_a 3 (.box (.t 0)), p_a 4 (.box (.t 1)), p_a 6 (.new [(.r (.v (.int .i64 0))), (.r (.v (.int .i64 0)))]), p_s 7 (.mov (.c (.r (.v (.bool false)))))])
 (.seq (.reg [p_m 13 2, p_s 14 (.fa 0 (.t 3)), p_s 15 (.ld none (.t 14)), p_s 16 (.fa 0 (.t 4)), p_s 17 (.ld none (.t 16)), ⟨(some 18), none, 1, .callv (.t 13) [(.t 15), (.t 17)]⟩,
 p_m 12 18, p_s 19 (.ext (.t 12) 0), p_s 20 (.ext (.t 12) 1), p_m 8 19, p_m 9 20])
 (.seq (.reg [p_m 22 2, p_s 23 (.fa 1 (.t 3)), p_s 24 (.ld none (.t 23)), p_s 25 (.fa 1 (.t 4)), p_s 26 (.ld none (.t 25)), ⟨(some 27), none, 2, .callv (.t 22) [(.t 24), (.t 26)]⟩,
 p_m 21 27, p_s 28 (.ext (.t 21) 0), p_s 29 (.ext (.t 21) 1), p_m 10 28, p_m 11 29])
 (.seq (.reg [p_m 30 8, p_m 31 9, p_m 32 10, p_m 33 11, p_c 34 3 156 [.t 30, .t 31, .t 32, .t 33], p_s 35 (.ext (.t 34) 0), p_s 36 (.ext (.t 34) 1), ⟨none, none, 0, .act (.st 2 (.t 6) (.t 35))⟩,
 p_m 7 36])
 .ret))))
theorem eisen_sides_triple : Fun P0 157 3 [(6, false, some (65, (some 2))), (7, false, none)] eisen_sides_pc := fun_mk Go.Proofs.Tryz.func157 rfl (by decide) (by kernel_rfl) (by decide) rfl (by kernel_rfl) (by kernel_rfl) (by decide)
noncomputable def eisen_Add_pc : PC :=
  (.seq (.reg [p_a 2 (.box (.t 0)), p_a 3 (.box (.t 1)), p_a 4 (.new [(.r (.v (.int .i64 0))), (.r (.v (.int .i64 0)))]), p_s 5 (.mov (.c (.r (.v (.bool false)))))])
 (.seq (.reg [p_s 6 (.ld (some 2) (.t 2)), p_s 7 (.ld (some 2) (.t 3)), p_c 8 1 157 [(.t 6), (.t 7), (.c (.fn (.func 158) []))], p_s 9 (.ext (.t 8) 0), p_s 10 (.ext (.t 8) 1),
 ⟨none, none, 0, .act (.st 2 (.t 4) (.t 9))⟩, p_m 5 10])
 .ret))
theorem eisen_Add_triple : Fun P0 130 2 [(4, false, some (65, (some 2))), (5, false, none)] eisen_Add_pc := fun_mk Go.Proofs.Tryz.func130 rfl (by decide) (by kernel_rfl) (by decide) rfl (by kernel_rfl) (by kernel_rfl) (by decide)
noncomputable def eisen_Unit_pc : PC :=
  (.seq (.reg [p_a 2 (.new [(.r (.v (.int .i64 0))), (.r (.v (.int .i64 0)))])])
 (.seq (.reg [p_s 4 (.build [(.r (.v (.int .i64 0))), (.r (.v (.int .i64 0)))] [(0, 1, (o_i 1))]), p_s 5 (.build [(.r (.v (.int .i64 0))), (.r (.v (.int .i64 0)))] [(1, 1, (o_i 1))]),
 p_s 6 (.build [(.r (.v (.int .i64 0))), (.r (.v (.int .i64 0)))] [(0, 1, (o_i (-1))), (1, 1, (o_i 1))]), p_s 7 (.build [(.r (.v (.int .i64 0))), (.r (.v (.int .i64 0)))] [(0, 1, (o_i (-1)))]),
 p_s 8 (.build [(.r (.v (.int .i64 0))), (.r (.v (.int .i64 0)))] [(1, 1, (o_i (-1)))]), p_s 9 (.build [(.r (.v (.int .i64 0))), (.r (.v (.int .i64 0)))] [(0, 1, (o_i 1)), (1, 1, (o_i (-1)))]),
 p_s 10 (.build [(.r (.v (.int .i64 0))), (.r (.v (.int .i64 0))), (.r (.v (.int .i64 0))), (.r (.v (.int .i64 0))), (.r (.v (.int .i64 0))), (.r (.v (.int .i64 0))), (.r (.v (.int .i64 0))), (.r (.v (.int .i64 0))), (.r (.v (.int .i64 0))), (.r (.v (.int .i64 0))), (.r (.v (.int .i64 0))), (.r (.v (.int .i64 0)))] [(0, 2, (.t 4)), (2, 2, (.t 5)), (4, 2, (.t 6)), (6, 2, (.t 7)), (8, 2, (.t 8)), (10, 2, (.t 9))]),
 p_a 3 (.new [(.r (.v (.int .i64 0))), (.r (.v (.int .i64 0))), (.r (.v (.int .i64 0))), (.r (.v (.int .i64 0))), (.r (.v (.int .i64 0))), (.r (.v (.int .i64 0))), (.r (.v (.int .i64 0))), (.r (.v (.int .i64 0))), (.r (.v (.int .i64 0))), (.r (.v (.int .i64 0))), (.r (.v (.int .i64 0))), (.r (.v (.int .i64 0)))]),
 ⟨none, none, 0, .act (.st 12 (.t 3) (.t 10))⟩])
 (.seq (.reg [p_m 11 0, p_s 12 (.bin .rem (.t 11) (o_i 6)), p_s 13 (.bin .add (.t 12) (o_i 6)), p_s 14 (.bin .rem (.t 13) (o_i 6)), p_s 15 (.iaa 6 2 (.t 3) (.t 14)), p_s 16 (.ld (some 2) (.t 15)),
 ⟨none, none, 0, .act (.st 2 (.t 2) (.t 16))⟩])
 .ret)))
theorem eisen_Unit_triple : Fun P0 131 1 [(2, false, some (65, (some 2)))] eisen_Unit_pc := fun_mk Go.Proofs.Tryz.func131 rfl (by decide) (by kernel_rfl) (by decide) rfl (by kernel_rfl) (by kernel_rfl) (by decide)
theorem sm_in {x : Int} (h : in64 x) : sm x = .tup [int .i64 x, bl true] := by simp [sm, h]
theorem eadd_t (x y : Ei) (hx : x.In M63) (hy : y.In M63) (hz : (x.add y).In M63) : Triple P0 130 [x.v, y.v] [] (.tup [(x.add y).v, bl true]) [] := by
 have hs : Triple P0 157 [x.v, y.v, .fn (.func 158) []] [] (.tup [(x.add y).v, bl true]) [] := by
  refine eisen_sides_triple rfl (by decide) ?_
  simp only [eisen_sides_pc, Ei.v, Ei.rv, push_cast, ↓reduceIte, reduceCtorEq, zB, zE, zA, zS, zL, zD, zM]
  refine ⟨by kernel_rfl, ?_⟩
  refine call_mk (add_t _ _ hx.ok.1 hy.ok.1) rfl trivial ?_
  rw [sm_in (show in64 (x.a + y.a) from hz.ok.1)]
  simp only [push_cast, ↓reduceIte, reduceCtorEq, zB, zE, zA, zS, zL, zD, zM]
  refine ⟨by kernel_rfl, ?_⟩
  refine call_mk (add_t _ _ hx.ok.2 hy.ok.2) rfl trivial ?_
  rw [sm_in (show in64 (x.b + y.b) from hz.ok.2)]
  simp only [push_cast, ↓reduceIte, reduceCtorEq, zB, zE, zA, zS, zL, zD, zM]
  refine call_mk (both_t _ _) rfl trivial ?_
  simp only [Ei.v, Ei.rv, Ei.add, push_cast, ↓reduceIte, reduceCtorEq, zB, zE, zA, zS, zL, zD, zM]
 refine eisen_Add_triple rfl (by decide) ?_
 simp only [eisen_Add_pc, Ei.v, Ei.rv, push_cast, ↓reduceIte, reduceCtorEq, zB, zE, zA, zS, zL, zD, zM]
 refine call_as (as' := [x.v, y.v, .fn (.func 158) []]) rfl ?_
 refine call_mk hs rfl trivial ?_
 simp only [Ei.v, Ei.rv, Ei.add, push_cast, ↓reduceIte, reduceCtorEq, zB, zE, zA, zS, zL, zD, zM]
theorem uni_0 : uni 0 = ⟨1, 0⟩ := rfl
theorem uni_1 : uni 1 = ⟨0, 1⟩ := rfl
theorem uni_2 : uni 2 = ⟨-1, 1⟩ := rfl
theorem uni_3 : uni 3 = ⟨-1, 0⟩ := rfl
theorem uni_4 : uni 4 = ⟨0, -1⟩ := rfl
theorem uni_5 : uni 5 = ⟨1, -1⟩ := rfl
theorem eunit_t (k : Int) (hk : 0 ≤ k ∧ k < 6) : Triple P0 131 [int .i64 k] [] (uni k.toNat).v [] := by
 refine eisen_Unit_triple rfl (by decide) ?_
 have hm : (IntKind.i64.wrap (Int.tmod k 6 + 6)).tmod 6 = k := by
  rw [zap hk.1, wrap_id (by omega), zap (by omega)]; omega
 simp only [eisen_Unit_pc, hm, Ei.v, Ei.rv, push_cast, ↓reduceIte, reduceCtorEq, zB, zE, zA, zS, zL, zD, zM]
 refine ⟨by decide, by decide, hk, by omega, ?_⟩
 rcases (show k = 0 ∨ k = 1 ∨ k = 2 ∨ k = 3 ∨ k = 4 ∨ k = 5 by omega) with rfl | rfl | rfl | rfl | rfl | rfl
 all_goals
  simp only [Int.reduceToNat, Nat.zero_mul, Nat.add_zero, Nat.zero_add, uni_0, uni_1, uni_2, uni_3, uni_4, uni_5, push_cast, ↓reduceIte, reduceCtorEq, zB, zE, zA, zS, zL, zD, zM]
  first | done | trace_state

def pkN (d a b : Int) (i : Nat) : Int × Ei := (cands.take i).foldl (pk d a b) (0, ⟨0, 0⟩)
theorem div_in {a d n : Int} (h : -n ≤ a ∧ a ≤ n) (hd : 1 ≤ d) : -n ≤ a / d ∧ a / d ≤ n := by
 have h1 := zar a d
 have h5 := zag a (show 0 < d by omega)
 have h6 := zah a (show d ≠ 0 by omega)
 generalize a / d = q at *
 generalize a % d = r at *
 constructor
 ·rcases Int.lt_or_le q 0 with hq | hq
  ·have : d * (q + 1) ≤ 1 * (q + 1) := Int.mul_le_mul_of_nonpos_right (by omega) (by omega)
   rw [Int.mul_add] at this
   omega
  ·omega
 ·rcases Int.lt_or_le q 0 with hq | hq
  ·omega
  ·have : 1 * q ≤ d * q := Int.mul_le_mul_of_nonneg_right (by omega) hq
   omega

theorem p2 (n : Nat) (h : n ≤ 36) : 1 ≤ (2 : Int) ^ n ∧ (2 : Int) ^ n ≤ 68719476736 := by
 have h1 : 2 ^ n ≤ 2 ^ 36 := zac (by decide) h
 have h2 : 1 ≤ 2 ^ n := Nat.one_le_two_pow
 have h3 : ((2 ^ n : Nat) : Int) = (2 : Int) ^ n := by simp
 omega
theorem p7 (n : Nat) (h : n ≤ 12) : 1 ≤ (7 : Int) ^ n ∧ (7 : Int) ^ n ≤ 13841287201 := by
 have h1 : 7 ^ n ≤ 7 ^ 12 := zac (by decide) h
 have h2 : 1 ≤ 7 ^ n := Nat.one_le_pow _ _ (by decide)
 have h3 : ((7 ^ n : Nat) : Int) = (7 : Int) ^ n := by simp
 omega
theorem mul_In {x y : Ei} {n m : Int} (hx : x.In n) (hy : y.In m) : (x.mul y).In (3 * (n * m)) := by
 have h1 := mul_in hx.1 hy.1
 have h2 := mul_in hx.1 hy.2
 have h3 := mul_in hx.2 hy.1
 have h4 := mul_in hx.2 hy.2
 unfold Ei.In Ei.mul
 dsimp only
 generalize n * m = q at *
 omega
theorem conj_In {x : Ei} {n : Int} (hx : x.In n) : x.conj.In (2 * n) := by
 unfold Ei.In Ei.conj at *
 dsimp only
 omega
def inW (x y : Int) : Prop := (0 ≤ x ∧ x < 1073741824) ∧ (0 ≤ y ∧ y < 1073741824)
instance (x y : Int) : Decidable (inW x y) := inferInstanceAs (Decidable (_ ∧ _))
theorem ax_In {x y : Int} (h : inW x y) : (ax x y).In 60000000000 := by
 unfold inW at h
 unfold ax Ei.In
 dsimp only
 omega
theorem axm_In {x y : Int} (h : inW x y) {k : Nat} (hk : k ≤ 12) : ((ax x y).mul (betaN k).conj).In 43200000000000000 :=
 (mul_In (ax_In h) (conj_In (betaN_in k hk))).mono (by decide)

def vv (i : Nat) : Ei := match i with | 0 => ⟨1, 1⟩ | 1 => ⟨-1, 2⟩ | 2 => ⟨-2, 1⟩ | 3 => ⟨-1, -1⟩ | 4 => ⟨1, -2⟩ | _ => ⟨2, -1⟩
def hc (z : Ei) (r i : Nat) : Ei := (betaN (12 - r)).mul ⟨3 * z.a + (vv i).a, 3 * z.b + (vv i).b⟩
def hx (z : Ei) (r i : Nat) : Int := 52 * (hc z r i).a + 26 * (hc z r i).b
def hy (z : Ei) (r i : Nat) : Int := 45 * (hc z r i).b
def cx (z : Ei) (r : Nat) : Int := 52 * ((betaN (12 - r)).mul z).a + 26 * ((betaN (12 - r)).mul z).b
def cy (z : Ei) (r : Nat) : Int := 45 * ((betaN (12 - r)).mul z).b
def kx (r i : Nat) : Int := 52 * ((betaN (12 - r)).mul (vv i)).a + 26 * ((betaN (12 - r)).mul (vv i)).b
def ky (r i : Nat) : Int := 45 * ((betaN (12 - r)).mul (vv i)).b
theorem hx_eq (z : Ei) (r i : Nat) : hx z r i = 3 * cx z r + kx r i := by
 simp only [hx, cx, kx, hc, Ei.mul, Int.mul_add, Int.mul_left_comm _ (3 : Int)]
 omega
theorem hy_eq (z : Ei) (r i : Nat) : hy z r i = 3 * cy z r + ky r i := by
 simp only [hy, cy, ky, hc, Ei.mul, Int.mul_add, Int.mul_left_comm _ (3 : Int)]
 omega
def crs (z : Ei) (r i j : Nat) (x y : Int) : Int := (kx r j - kx r i) * (y - hy z r i) - (ky r j - ky r i) * (x - hx z r i)
def Lies (x y : Int) (z : Ei) (r : Nat) : Prop :=
 ((-50000000 ≤ cx z r - x ∧ cx z r - x ≤ 50000000) ∧ (-50000000 ≤ cy z r - y ∧ cy z r - y ≤ 50000000)) ∧
 (∀ i, i < 6 → 0 ≤ crs z r i ((i + 1) % 6) (3 * x) (3 * y)) ∧
 (∃ i, i < 6 ∧ hx z r i ≤ 3 * x) ∧ (∃ i, i < 6 ∧ 3 * x ≤ hx z r i) ∧ (∃ i, i < 6 ∧ hy z r i ≤ 3 * y) ∧ (∃ i, i < 6 ∧ 3 * y ≤ hy z r i)
theorem lt6 {i : Nat} (h : i < 6) : i = 0 ∨ i = 1 ∨ i = 2 ∨ i = 3 ∨ i = 4 ∨ i = 5 := by omega
theorem lies0 (x y : Int) : Lies x y (near x y 0) 0 := by
 have h := round_spec ((ax x y).mul (betaN (12 - 0)).conj) (d := 2340 * 7 ^ (12 - 0)) (by decide)
 have e : (betaN (12 - 0)).conj = ⟨-128231, 102960⟩ := by decide
 have ed : (2340 * 7 ^ (12 - 0) : Int) = 32388612050340 := by decide
 have eb : betaN (12 - 0) = ⟨-25271, -102960⟩ := by decide
 unfold near
 generalize Ei.round _ _ = q at *
 rw [e, ed] at h
 have ex : cx q 0 = 52 * (-25271 * q.a - -102960 * q.b) + 26 * (-25271 * q.b + -102960 * q.a + -102960 * q.b) := by simp only [cx, eb, Ei.mul]
 have ey : cy q 0 = 45 * (-25271 * q.b + -102960 * q.a + -102960 * q.b) := by simp only [cy, eb, Ei.mul]
 have x0 : kx 0 0 = -1971138 := by decide
 have y0 : ky 0 0 = -10403595 := by decide
 have x1 : kx 0 1 = 8030880 := by decide
 have y1 : ky 0 1 = -6907590 := by decide
 have x2 : kx 0 2 = 10002018 := by decide
 have y2 : ky 0 2 = 3496005 := by decide
 have x3 : kx 0 3 = 1971138 := by decide
 have y3 : ky 0 3 = 10403595 := by decide
 have x4 : kx 0 4 = -8030880 := by decide
 have y4 : ky 0 4 = 6907590 := by decide
 have x5 : kx 0 5 = -10002018 := by decide
 have y5 : ky 0 5 = -3496005 := by decide
 unfold holds at h
 simp only [Ei.mul, ax] at h
 have g : ∀ i, hx q 0 i = 3 * cx q 0 + kx 0 i := fun i => hx_eq q 0 i
 have g' : ∀ i, hy q 0 i = 3 * cy q 0 + ky 0 i := fun i => hy_eq q 0 i
 have h1 := h.1
 have h2 := h.2.1
 have h3 := h.2.2
 refine ⟨by omega, fun i hi => ?_, ⟨5, by decide, ?_⟩, ⟨2, by decide, ?_⟩, ⟨0, by decide, ?_⟩, ⟨3, by decide, ?_⟩⟩
 ·rcases lt6 hi with rfl | rfl | rfl | rfl | rfl | rfl <;> simp only [crs, g, g', x0, x1, x2, x3, x4, x5, y0, y1, y2, y3, y4, y5] <;> omega
 ·simp only [g, x0, x1, x2, x3, x4, x5]; omega
 ·simp only [g, x0, x1, x2, x3, x4, x5]; omega
 ·simp only [g', y0, y1, y2, y3, y4, y5]; omega
 ·simp only [g', y0, y1, y2, y3, y4, y5]; omega
theorem lies1 (x y : Int) : Lies x y (near x y 1) 1 := by
 have h := round_spec ((ax x y).mul (betaN (12 - 1)).conj) (d := 2340 * 7 ^ (12 - 1)) (by decide)
 have e : (betaN (12 - 1)).conj = ⟨-51346, 25807⟩ := by decide
 have ed : (2340 * 7 ^ (12 - 1) : Int) = 4626944578620 := by decide
 have eb : betaN (12 - 1) = ⟨-25539, -25807⟩ := by decide
 unfold near
 generalize Ei.round _ _ = q at *
 rw [e, ed] at h
 have ex : cx q 1 = 52 * (-25539 * q.a - -25807 * q.b) + 26 * (-25539 * q.b + -25807 * q.a + -25807 * q.b) := by simp only [cx, eb, Ei.mul]
 have ey : cy q 1 = 45 * (-25539 * q.b + -25807 * q.a + -25807 * q.b) := by simp only [cy, eb, Ei.mul]
 have x0 : kx 1 0 = -1992042 := by decide
 have y0 : ky 1 0 = -3471885 := by decide
 have x1 : kx 1 1 = 2012946 := by decide
 have y1 : ky 1 1 = -3459825 := by decide
 have x2 : kx 1 2 = 4004988 := by decide
 have y2 : ky 1 2 = 12060 := by decide
 have x3 : kx 1 3 = 1992042 := by decide
 have y3 : ky 1 3 = 3471885 := by decide
 have x4 : kx 1 4 = -2012946 := by decide
 have y4 : ky 1 4 = 3459825 := by decide
 have x5 : kx 1 5 = -4004988 := by decide
 have y5 : ky 1 5 = -12060 := by decide
 unfold holds at h
 simp only [Ei.mul, ax] at h
 have g : ∀ i, hx q 1 i = 3 * cx q 1 + kx 1 i := fun i => hx_eq q 1 i
 have g' : ∀ i, hy q 1 i = 3 * cy q 1 + ky 1 i := fun i => hy_eq q 1 i
 have h1 := h.1
 have h2 := h.2.1
 have h3 := h.2.2
 refine ⟨by omega, fun i hi => ?_, ⟨5, by decide, ?_⟩, ⟨2, by decide, ?_⟩, ⟨0, by decide, ?_⟩, ⟨3, by decide, ?_⟩⟩
 ·rcases lt6 hi with rfl | rfl | rfl | rfl | rfl | rfl <;> simp only [crs, g, g', x0, x1, x2, x3, x4, x5, y0, y1, y2, y3, y4, y5] <;> omega
 ·simp only [g, x0, x1, x2, x3, x4, x5]; omega
 ·simp only [g, x0, x1, x2, x3, x4, x5]; omega
 ·simp only [g', y0, y1, y2, y3, y4, y5]; omega
 ·simp only [g', y0, y1, y2, y3, y4, y5]; omega
theorem lies2 (x y : Int) : Lies x y (near x y 2) 2 := by
 have h := round_spec ((ax x y).mul (betaN (12 - 2)).conj) (d := 2340 * 7 ^ (12 - 2)) (by decide)
 have e : (betaN (12 - 2)).conj = ⟨-18357, 3725⟩ := by decide
 have ed : (2340 * 7 ^ (12 - 2) : Int) = 660992082660 := by decide
 have eb : betaN (12 - 2) = ⟨-14632, -3725⟩ := by decide
 unfold near
 generalize Ei.round _ _ = q at *
 rw [e, ed] at h
 have ex : cx q 2 = 52 * (-14632 * q.a - -3725 * q.b) + 26 * (-14632 * q.b + -3725 * q.a + -3725 * q.b) := by simp only [cx, eb, Ei.mul]
 have ey : cy q 2 = 45 * (-14632 * q.b + -3725 * q.a + -3725 * q.b) := by simp only [cy, eb, Ei.mul]
 have x0 : kx 2 0 = -1141296 := by decide
 have y0 : ky 2 0 = -993690 := by decide
 have x1 : kx 2 1 = 290550 := by decide
 have y1 : ky 2 1 = -1484505 := by decide
 have x2 : kx 2 2 = 1431846 := by decide
 have y2 : ky 2 2 = -490815 := by decide
 have x3 : kx 2 3 = 1141296 := by decide
 have y3 : ky 2 3 = 993690 := by decide
 have x4 : kx 2 4 = -290550 := by decide
 have y4 : ky 2 4 = 1484505 := by decide
 have x5 : kx 2 5 = -1431846 := by decide
 have y5 : ky 2 5 = 490815 := by decide
 unfold holds at h
 simp only [Ei.mul, ax] at h
 have g : ∀ i, hx q 2 i = 3 * cx q 2 + kx 2 i := fun i => hx_eq q 2 i
 have g' : ∀ i, hy q 2 i = 3 * cy q 2 + ky 2 i := fun i => hy_eq q 2 i
 have h1 := h.1
 have h2 := h.2.1
 have h3 := h.2.2
 refine ⟨by omega, fun i hi => ?_, ⟨5, by decide, ?_⟩, ⟨2, by decide, ?_⟩, ⟨1, by decide, ?_⟩, ⟨4, by decide, ?_⟩⟩
 ·rcases lt6 hi with rfl | rfl | rfl | rfl | rfl | rfl <;> simp only [crs, g, g', x0, x1, x2, x3, x4, x5, y0, y1, y2, y3, y4, y5] <;> omega
 ·simp only [g, x0, x1, x2, x3, x4, x5]; omega
 ·simp only [g, x0, x1, x2, x3, x4, x5]; omega
 ·simp only [g', y0, y1, y2, y3, y4, y5]; omega
 ·simp only [g', y0, y1, y2, y3, y4, y5]; omega
theorem lies3 (x y : Int) : Lies x y (near x y 3) 3 := by
 have h := round_spec ((ax x y).mul (betaN (12 - 3)).conj) (d := 2340 * 7 ^ (12 - 3)) (by decide)
 have e : (betaN (12 - 3)).conj = ⟨-5777, -1026⟩ := by decide
 have ed : (2340 * 7 ^ (12 - 3) : Int) = 94427440380 := by decide
 have eb : betaN (12 - 3) = ⟨-6803, 1026⟩ := by decide
 unfold near
 generalize Ei.round _ _ = q at *
 rw [e, ed] at h
 have ex : cx q 3 = 52 * (-6803 * q.a - 1026 * q.b) + 26 * (-6803 * q.b + 1026 * q.a + 1026 * q.b) := by simp only [cx, eb, Ei.mul]
 have ey : cy q 3 = 45 * (-6803 * q.b + 1026 * q.a + 1026 * q.b) := by simp only [cy, eb, Ei.mul]
 have x0 : kx 3 0 = -530634 := by decide
 have y0 : ky 3 0 = -213795 := by decide
 have x1 : kx 3 1 = -80028 := by decide
 have y1 : ky 3 1 = -566100 := by decide
 have x2 : kx 3 2 = 450606 := by decide
 have y2 : ky 3 2 = -352305 := by decide
 have x3 : kx 3 3 = 530634 := by decide
 have y3 : ky 3 3 = 213795 := by decide
 have x4 : kx 3 4 = 80028 := by decide
 have y4 : ky 3 4 = 566100 := by decide
 have x5 : kx 3 5 = -450606 := by decide
 have y5 : ky 3 5 = 352305 := by decide
 unfold holds at h
 simp only [Ei.mul, ax] at h
 have g : ∀ i, hx q 3 i = 3 * cx q 3 + kx 3 i := fun i => hx_eq q 3 i
 have g' : ∀ i, hy q 3 i = 3 * cy q 3 + ky 3 i := fun i => hy_eq q 3 i
 have h1 := h.1
 have h2 := h.2.1
 have h3 := h.2.2
 refine ⟨by omega, fun i hi => ?_, ⟨0, by decide, ?_⟩, ⟨3, by decide, ?_⟩, ⟨1, by decide, ?_⟩, ⟨4, by decide, ?_⟩⟩
 ·rcases lt6 hi with rfl | rfl | rfl | rfl | rfl | rfl <;> simp only [crs, g, g', x0, x1, x2, x3, x4, x5, y0, y1, y2, y3, y4, y5] <;> omega
 ·simp only [g, x0, x1, x2, x3, x4, x5]; omega
 ·simp only [g, x0, x1, x2, x3, x4, x5]; omega
 ·simp only [g', y0, y1, y2, y3, y4, y5]; omega
 ·simp only [g', y0, y1, y2, y3, y4, y5]; omega
theorem lies4 (x y : Int) : Lies x y (near x y 4) 4 := by
 have h := round_spec ((ax x y).mul (betaN (12 - 4)).conj) (d := 2340 * 7 ^ (12 - 4)) (by decide)
 have e : (betaN (12 - 4)).conj = ⟨-1504, -1265⟩ := by decide
 have ed : (2340 * 7 ^ (12 - 4) : Int) = 13489634340 := by decide
 have eb : betaN (12 - 4) = ⟨-2769, 1265⟩ := by decide
 unfold near
 generalize Ei.round _ _ = q at *
 rw [e, ed] at h
 have ex : cx q 4 = 52 * (-2769 * q.a - 1265 * q.b) + 26 * (-2769 * q.b + 1265 * q.a + 1265 * q.b) := by simp only [cx, eb, Ei.mul]
 have ey : cy q 4 = 45 * (-2769 * q.b + 1265 * q.a + 1265 * q.b) := by simp only [cy, eb, Ei.mul]
 have x0 : kx 4 0 = -215982 := by decide
 have y0 : ky 4 0 = -10755 := by decide
 have x1 : kx 4 1 = -98670 := by decide
 have y1 : ky 4 1 = -192285 := by decide
 have x2 : kx 4 2 = 117312 := by decide
 have y2 : ky 4 2 = -181530 := by decide
 have x3 : kx 4 3 = 215982 := by decide
 have y3 : ky 4 3 = 10755 := by decide
 have x4 : kx 4 4 = 98670 := by decide
 have y4 : ky 4 4 = 192285 := by decide
 have x5 : kx 4 5 = -117312 := by decide
 have y5 : ky 4 5 = 181530 := by decide
 unfold holds at h
 simp only [Ei.mul, ax] at h
 have g : ∀ i, hx q 4 i = 3 * cx q 4 + kx 4 i := fun i => hx_eq q 4 i
 have g' : ∀ i, hy q 4 i = 3 * cy q 4 + ky 4 i := fun i => hy_eq q 4 i
 have h1 := h.1
 have h2 := h.2.1
 have h3 := h.2.2
 refine ⟨by omega, fun i hi => ?_, ⟨0, by decide, ?_⟩, ⟨3, by decide, ?_⟩, ⟨1, by decide, ?_⟩, ⟨4, by decide, ?_⟩⟩
 ·rcases lt6 hi with rfl | rfl | rfl | rfl | rfl | rfl <;> simp only [crs, g, g', x0, x1, x2, x3, x4, x5, y0, y1, y2, y3, y4, y5] <;> omega
 ·simp only [g, x0, x1, x2, x3, x4, x5]; omega
 ·simp only [g, x0, x1, x2, x3, x4, x5]; omega
 ·simp only [g', y0, y1, y2, y3, y4, y5]; omega
 ·simp only [g', y0, y1, y2, y3, y4, y5]; omega
theorem lies5 (x y : Int) : Lies x y (near x y 5) 5 := by
 have h := round_spec ((ax x y).mul (betaN (12 - 5)).conj) (d := 2340 * 7 ^ (12 - 5)) (by decide)
 have e : (betaN (12 - 5)).conj = ⟨-249, -757⟩ := by decide
 have ed : (2340 * 7 ^ (12 - 5) : Int) = 1927090620 := by decide
 have eb : betaN (12 - 5) = ⟨-1006, 757⟩ := by decide
 unfold near
 generalize Ei.round _ _ = q at *
 rw [e, ed] at h
 have ex : cx q 5 = 52 * (-1006 * q.a - 757 * q.b) + 26 * (-1006 * q.b + 757 * q.a + 757 * q.b) := by simp only [cx, eb, Ei.mul]
 have ey : cy q 5 = 45 * (-1006 * q.b + 757 * q.a + 757 * q.b) := by simp only [cy, eb, Ei.mul]
 have x0 : kx 5 0 = -78468 := by decide
 have y0 : ky 5 0 = 22860 := by decide
 have x1 : kx 5 1 = -59046 := by decide
 have y1 : ky 5 1 = -56475 := by decide
 have x2 : kx 5 2 = 19422 := by decide
 have y2 : ky 5 2 = -79335 := by decide
 have x3 : kx 5 3 = 78468 := by decide
 have y3 : ky 5 3 = -22860 := by decide
 have x4 : kx 5 4 = 59046 := by decide
 have y4 : ky 5 4 = 56475 := by decide
 have x5 : kx 5 5 = -19422 := by decide
 have y5 : ky 5 5 = 79335 := by decide
 unfold holds at h
 simp only [Ei.mul, ax] at h
 have g : ∀ i, hx q 5 i = 3 * cx q 5 + kx 5 i := fun i => hx_eq q 5 i
 have g' : ∀ i, hy q 5 i = 3 * cy q 5 + ky 5 i := fun i => hy_eq q 5 i
 have h1 := h.1
 have h2 := h.2.1
 have h3 := h.2.2
 refine ⟨by omega, fun i hi => ?_, ⟨0, by decide, ?_⟩, ⟨3, by decide, ?_⟩, ⟨2, by decide, ?_⟩, ⟨5, by decide, ?_⟩⟩
 ·rcases lt6 hi with rfl | rfl | rfl | rfl | rfl | rfl <;> simp only [crs, g, g', x0, x1, x2, x3, x4, x5, y0, y1, y2, y3, y4, y5] <;> omega
 ·simp only [g, x0, x1, x2, x3, x4, x5]; omega
 ·simp only [g, x0, x1, x2, x3, x4, x5]; omega
 ·simp only [g', y0, y1, y2, y3, y4, y5]; omega
 ·simp only [g', y0, y1, y2, y3, y4, y5]; omega
theorem lies6 (x y : Int) : Lies x y (near x y 6) 6 := by
 have h := round_spec ((ax x y).mul (betaN (12 - 6)).conj) (d := 2340 * 7 ^ (12 - 6)) (by decide)
 have e : (betaN (12 - 6)).conj = ⟨37, -360⟩ := by decide
 have ed : (2340 * 7 ^ (12 - 6) : Int) = 275298660 := by decide
 have eb : betaN (12 - 6) = ⟨-323, 360⟩ := by decide
 unfold near
 generalize Ei.round _ _ = q at *
 rw [e, ed] at h
 have ex : cx q 6 = 52 * (-323 * q.a - 360 * q.b) + 26 * (-323 * q.b + 360 * q.a + 360 * q.b) := by simp only [cx, eb, Ei.mul]
 have ey : cy q 6 = 45 * (-323 * q.b + 360 * q.a + 360 * q.b) := by simp only [cy, eb, Ei.mul]
 have x0 : kx 6 0 = -25194 := by decide
 have y0 : ky 6 0 = 17865 := by decide
 have x1 : kx 6 1 = -28080 := by decide
 have y1 : ky 6 1 = -12870 := by decide
 have x2 : kx 6 2 = -2886 := by decide
 have y2 : ky 6 2 = -30735 := by decide
 have x3 : kx 6 3 = 25194 := by decide
 have y3 : ky 6 3 = -17865 := by decide
 have x4 : kx 6 4 = 28080 := by decide
 have y4 : ky 6 4 = 12870 := by decide
 have x5 : kx 6 5 = 2886 := by decide
 have y5 : ky 6 5 = 30735 := by decide
 unfold holds at h
 simp only [Ei.mul, ax] at h
 have g : ∀ i, hx q 6 i = 3 * cx q 6 + kx 6 i := fun i => hx_eq q 6 i
 have g' : ∀ i, hy q 6 i = 3 * cy q 6 + ky 6 i := fun i => hy_eq q 6 i
 have h1 := h.1
 have h2 := h.2.1
 have h3 := h.2.2
 refine ⟨by omega, fun i hi => ?_, ⟨1, by decide, ?_⟩, ⟨4, by decide, ?_⟩, ⟨2, by decide, ?_⟩, ⟨5, by decide, ?_⟩⟩
 ·rcases lt6 hi with rfl | rfl | rfl | rfl | rfl | rfl <;> simp only [crs, g, g', x0, x1, x2, x3, x4, x5, y0, y1, y2, y3, y4, y5] <;> omega
 ·simp only [g, x0, x1, x2, x3, x4, x5]; omega
 ·simp only [g, x0, x1, x2, x3, x4, x5]; omega
 ·simp only [g', y0, y1, y2, y3, y4, y5]; omega
 ·simp only [g', y0, y1, y2, y3, y4, y5]; omega
theorem lies7 (x y : Int) : Lies x y (near x y 7) 7 := by
 have h := round_spec ((ax x y).mul (betaN (12 - 7)).conj) (d := 2340 * 7 ^ (12 - 7)) (by decide)
 have e : (betaN (12 - 7)).conj = ⟨62, -149⟩ := by decide
 have ed : (2340 * 7 ^ (12 - 7) : Int) = 39328380 := by decide
 have eb : betaN (12 - 7) = ⟨-87, 149⟩ := by decide
 unfold near
 generalize Ei.round _ _ = q at *
 rw [e, ed] at h
 have ex : cx q 7 = 52 * (-87 * q.a - 149 * q.b) + 26 * (-87 * q.b + 149 * q.a + 149 * q.b) := by simp only [cx, eb, Ei.mul]
 have ey : cy q 7 = 45 * (-87 * q.b + 149 * q.a + 149 * q.b) := by simp only [cy, eb, Ei.mul]
 have x0 : kx 7 0 = -6786 := by decide
 have y0 : ky 7 0 = 9495 := by decide
 have x1 : kx 7 1 = -11622 := by decide
 have y1 : ky 7 1 = -1125 := by decide
 have x2 : kx 7 2 = -4836 := by decide
 have y2 : ky 7 2 = -10620 := by decide
 have x3 : kx 7 3 = 6786 := by decide
 have y3 : ky 7 3 = -9495 := by decide
 have x4 : kx 7 4 = 11622 := by decide
 have y4 : ky 7 4 = 1125 := by decide
 have x5 : kx 7 5 = 4836 := by decide
 have y5 : ky 7 5 = 10620 := by decide
 unfold holds at h
 simp only [Ei.mul, ax] at h
 have g : ∀ i, hx q 7 i = 3 * cx q 7 + kx 7 i := fun i => hx_eq q 7 i
 have g' : ∀ i, hy q 7 i = 3 * cy q 7 + ky 7 i := fun i => hy_eq q 7 i
 have h1 := h.1
 have h2 := h.2.1
 have h3 := h.2.2
 refine ⟨by omega, fun i hi => ?_, ⟨1, by decide, ?_⟩, ⟨4, by decide, ?_⟩, ⟨2, by decide, ?_⟩, ⟨5, by decide, ?_⟩⟩
 ·rcases lt6 hi with rfl | rfl | rfl | rfl | rfl | rfl <;> simp only [crs, g, g', x0, x1, x2, x3, x4, x5, y0, y1, y2, y3, y4, y5] <;> omega
 ·simp only [g, x0, x1, x2, x3, x4, x5]; omega
 ·simp only [g, x0, x1, x2, x3, x4, x5]; omega
 ·simp only [g', y0, y1, y2, y3, y4, y5]; omega
 ·simp only [g', y0, y1, y2, y3, y4, y5]; omega
theorem lies8 (x y : Int) : Lies x y (near x y 8) 8 := by
 have h := round_spec ((ax x y).mul (betaN (12 - 8)).conj) (d := 2340 * 7 ^ (12 - 8)) (by decide)
 have e : (betaN (12 - 8)).conj = ⟨39, -55⟩ := by decide
 have ed : (2340 * 7 ^ (12 - 8) : Int) = 5618340 := by decide
 have eb : betaN (12 - 8) = ⟨-16, 55⟩ := by decide
 unfold near
 generalize Ei.round _ _ = q at *
 rw [e, ed] at h
 have ex : cx q 8 = 52 * (-16 * q.a - 55 * q.b) + 26 * (-16 * q.b + 55 * q.a + 55 * q.b) := by simp only [cx, eb, Ei.mul]
 have ey : cy q 8 = 45 * (-16 * q.b + 55 * q.a + 55 * q.b) := by simp only [cy, eb, Ei.mul]
 have x0 : kx 8 0 = -1248 := by decide
 have y0 : ky 8 0 = 4230 := by decide
 have x1 : kx 8 1 = -4290 := by decide
 have y1 : ky 8 1 = 1035 := by decide
 have x2 : kx 8 2 = -3042 := by decide
 have y2 : ky 8 2 = -3195 := by decide
 have x3 : kx 8 3 = 1248 := by decide
 have y3 : ky 8 3 = -4230 := by decide
 have x4 : kx 8 4 = 4290 := by decide
 have y4 : ky 8 4 = -1035 := by decide
 have x5 : kx 8 5 = 3042 := by decide
 have y5 : ky 8 5 = 3195 := by decide
 unfold holds at h
 simp only [Ei.mul, ax] at h
 have g : ∀ i, hx q 8 i = 3 * cx q 8 + kx 8 i := fun i => hx_eq q 8 i
 have g' : ∀ i, hy q 8 i = 3 * cy q 8 + ky 8 i := fun i => hy_eq q 8 i
 have h1 := h.1
 have h2 := h.2.1
 have h3 := h.2.2
 refine ⟨by omega, fun i hi => ?_, ⟨1, by decide, ?_⟩, ⟨4, by decide, ?_⟩, ⟨3, by decide, ?_⟩, ⟨0, by decide, ?_⟩⟩
 ·rcases lt6 hi with rfl | rfl | rfl | rfl | rfl | rfl <;> simp only [crs, g, g', x0, x1, x2, x3, x4, x5, y0, y1, y2, y3, y4, y5] <;> omega
 ·simp only [g, x0, x1, x2, x3, x4, x5]; omega
 ·simp only [g, x0, x1, x2, x3, x4, x5]; omega
 ·simp only [g', y0, y1, y2, y3, y4, y5]; omega
 ·simp only [g', y0, y1, y2, y3, y4, y5]; omega
theorem lies9 (x y : Int) : Lies x y (near x y 9) 9 := by
 have h := round_spec ((ax x y).mul (betaN (12 - 9)).conj) (d := 2340 * 7 ^ (12 - 9)) (by decide)
 have e : (betaN (12 - 9)).conj = ⟨19, -18⟩ := by decide
 have ed : (2340 * 7 ^ (12 - 9) : Int) = 802620 := by decide
 have eb : betaN (12 - 9) = ⟨1, 18⟩ := by decide
 unfold near
 generalize Ei.round _ _ = q at *
 rw [e, ed] at h
 have ex : cx q 9 = 52 * (1 * q.a - 18 * q.b) + 26 * (1 * q.b + 18 * q.a + 18 * q.b) := by simp only [cx, eb, Ei.mul]
 have ey : cy q 9 = 45 * (1 * q.b + 18 * q.a + 18 * q.b) := by simp only [cy, eb, Ei.mul]
 have x0 : kx 9 0 = 78 := by decide
 have y0 : ky 9 0 = 1665 := by decide
 have x1 : kx 9 1 = -1404 := by decide
 have y1 : ky 9 1 = 900 := by decide
 have x2 : kx 9 2 = -1482 := by decide
 have y2 : ky 9 2 = -765 := by decide
 have x3 : kx 9 3 = -78 := by decide
 have y3 : ky 9 3 = -1665 := by decide
 have x4 : kx 9 4 = 1404 := by decide
 have y4 : ky 9 4 = -900 := by decide
 have x5 : kx 9 5 = 1482 := by decide
 have y5 : ky 9 5 = 765 := by decide
 unfold holds at h
 simp only [Ei.mul, ax] at h
 have g : ∀ i, hx q 9 i = 3 * cx q 9 + kx 9 i := fun i => hx_eq q 9 i
 have g' : ∀ i, hy q 9 i = 3 * cy q 9 + ky 9 i := fun i => hy_eq q 9 i
 have h1 := h.1
 have h2 := h.2.1
 have h3 := h.2.2
 refine ⟨by omega, fun i hi => ?_, ⟨2, by decide, ?_⟩, ⟨5, by decide, ?_⟩, ⟨3, by decide, ?_⟩, ⟨0, by decide, ?_⟩⟩
 ·rcases lt6 hi with rfl | rfl | rfl | rfl | rfl | rfl <;> simp only [crs, g, g', x0, x1, x2, x3, x4, x5, y0, y1, y2, y3, y4, y5] <;> omega
 ·simp only [g, x0, x1, x2, x3, x4, x5]; omega
 ·simp only [g, x0, x1, x2, x3, x4, x5]; omega
 ·simp only [g', y0, y1, y2, y3, y4, y5]; omega
 ·simp only [g', y0, y1, y2, y3, y4, y5]; omega
theorem lies10 (x y : Int) : Lies x y (near x y 10) 10 := by
 have h := round_spec ((ax x y).mul (betaN (12 - 10)).conj) (d := 2340 * 7 ^ (12 - 10)) (by decide)
 have e : (betaN (12 - 10)).conj = ⟨8, -5⟩ := by decide
 have ed : (2340 * 7 ^ (12 - 10) : Int) = 114660 := by decide
 have eb : betaN (12 - 10) = ⟨3, 5⟩ := by decide
 unfold near
 generalize Ei.round _ _ = q at *
 rw [e, ed] at h
 have ex : cx q 10 = 52 * (3 * q.a - 5 * q.b) + 26 * (3 * q.b + 5 * q.a + 5 * q.b) := by simp only [cx, eb, Ei.mul]
 have ey : cy q 10 = 45 * (3 * q.b + 5 * q.a + 5 * q.b) := by simp only [cy, eb, Ei.mul]
 have x0 : kx 10 0 = 234 := by decide
 have y0 : ky 10 0 = 585 := by decide
 have x1 : kx 10 1 = -390 := by decide
 have y1 : ky 10 1 = 495 := by decide
 have x2 : kx 10 2 = -624 := by decide
 have y2 : ky 10 2 = -90 := by decide
 have x3 : kx 10 3 = -234 := by decide
 have y3 : ky 10 3 = -585 := by decide
 have x4 : kx 10 4 = 390 := by decide
 have y4 : ky 10 4 = -495 := by decide
 have x5 : kx 10 5 = 624 := by decide
 have y5 : ky 10 5 = 90 := by decide
 unfold holds at h
 simp only [Ei.mul, ax] at h
 have g : ∀ i, hx q 10 i = 3 * cx q 10 + kx 10 i := fun i => hx_eq q 10 i
 have g' : ∀ i, hy q 10 i = 3 * cy q 10 + ky 10 i := fun i => hy_eq q 10 i
 have h1 := h.1
 have h2 := h.2.1
 have h3 := h.2.2
 refine ⟨by omega, fun i hi => ?_, ⟨2, by decide, ?_⟩, ⟨5, by decide, ?_⟩, ⟨3, by decide, ?_⟩, ⟨0, by decide, ?_⟩⟩
 ·rcases lt6 hi with rfl | rfl | rfl | rfl | rfl | rfl <;> simp only [crs, g, g', x0, x1, x2, x3, x4, x5, y0, y1, y2, y3, y4, y5] <;> omega
 ·simp only [g, x0, x1, x2, x3, x4, x5]; omega
 ·simp only [g, x0, x1, x2, x3, x4, x5]; omega
 ·simp only [g', y0, y1, y2, y3, y4, y5]; omega
 ·simp only [g', y0, y1, y2, y3, y4, y5]; omega
theorem lies11 (x y : Int) : Lies x y (near x y 11) 11 := by
 have h := round_spec ((ax x y).mul (betaN (12 - 11)).conj) (d := 2340 * 7 ^ (12 - 11)) (by decide)
 have e : (betaN (12 - 11)).conj = ⟨3, -1⟩ := by decide
 have ed : (2340 * 7 ^ (12 - 11) : Int) = 16380 := by decide
 have eb : betaN (12 - 11) = ⟨2, 1⟩ := by decide
 unfold near
 generalize Ei.round _ _ = q at *
 rw [e, ed] at h
 have ex : cx q 11 = 52 * (2 * q.a - 1 * q.b) + 26 * (2 * q.b + 1 * q.a + 1 * q.b) := by simp only [cx, eb, Ei.mul]
 have ey : cy q 11 = 45 * (2 * q.b + 1 * q.a + 1 * q.b) := by simp only [cy, eb, Ei.mul]
 have x0 : kx 11 0 = 156 := by decide
 have y0 : ky 11 0 = 180 := by decide
 have x1 : kx 11 1 = -78 := by decide
 have y1 : ky 11 1 = 225 := by decide
 have x2 : kx 11 2 = -234 := by decide
 have y2 : ky 11 2 = 45 := by decide
 have x3 : kx 11 3 = -156 := by decide
 have y3 : ky 11 3 = -180 := by decide
 have x4 : kx 11 4 = 78 := by decide
 have y4 : ky 11 4 = -225 := by decide
 have x5 : kx 11 5 = 234 := by decide
 have y5 : ky 11 5 = -45 := by decide
 unfold holds at h
 simp only [Ei.mul, ax] at h
 have g : ∀ i, hx q 11 i = 3 * cx q 11 + kx 11 i := fun i => hx_eq q 11 i
 have g' : ∀ i, hy q 11 i = 3 * cy q 11 + ky 11 i := fun i => hy_eq q 11 i
 have h1 := h.1
 have h2 := h.2.1
 have h3 := h.2.2
 refine ⟨by omega, fun i hi => ?_, ⟨2, by decide, ?_⟩, ⟨5, by decide, ?_⟩, ⟨4, by decide, ?_⟩, ⟨1, by decide, ?_⟩⟩
 ·rcases lt6 hi with rfl | rfl | rfl | rfl | rfl | rfl <;> simp only [crs, g, g', x0, x1, x2, x3, x4, x5, y0, y1, y2, y3, y4, y5] <;> omega
 ·simp only [g, x0, x1, x2, x3, x4, x5]; omega
 ·simp only [g, x0, x1, x2, x3, x4, x5]; omega
 ·simp only [g', y0, y1, y2, y3, y4, y5]; omega
 ·simp only [g', y0, y1, y2, y3, y4, y5]; omega
theorem lies12 (x y : Int) : Lies x y (near x y 12) 12 := by
 have h := round_spec ((ax x y).mul (betaN (12 - 12)).conj) (d := 2340 * 7 ^ (12 - 12)) (by decide)
 have e : (betaN (12 - 12)).conj = ⟨1, 0⟩ := by decide
 have ed : (2340 * 7 ^ (12 - 12) : Int) = 2340 := by decide
 have eb : betaN (12 - 12) = ⟨1, 0⟩ := by decide
 unfold near
 generalize Ei.round _ _ = q at *
 rw [e, ed] at h
 have ex : cx q 12 = 52 * (1 * q.a - 0 * q.b) + 26 * (1 * q.b + 0 * q.a + 0 * q.b) := by simp only [cx, eb, Ei.mul]
 have ey : cy q 12 = 45 * (1 * q.b + 0 * q.a + 0 * q.b) := by simp only [cy, eb, Ei.mul]
 have x0 : kx 12 0 = 78 := by decide
 have y0 : ky 12 0 = 45 := by decide
 have x1 : kx 12 1 = 0 := by decide
 have y1 : ky 12 1 = 90 := by decide
 have x2 : kx 12 2 = -78 := by decide
 have y2 : ky 12 2 = 45 := by decide
 have x3 : kx 12 3 = -78 := by decide
 have y3 : ky 12 3 = -45 := by decide
 have x4 : kx 12 4 = 0 := by decide
 have y4 : ky 12 4 = -90 := by decide
 have x5 : kx 12 5 = 78 := by decide
 have y5 : ky 12 5 = -45 := by decide
 unfold holds at h
 simp only [Ei.mul, ax] at h
 have g : ∀ i, hx q 12 i = 3 * cx q 12 + kx 12 i := fun i => hx_eq q 12 i
 have g' : ∀ i, hy q 12 i = 3 * cy q 12 + ky 12 i := fun i => hy_eq q 12 i
 have h1 := h.1
 have h2 := h.2.1
 have h3 := h.2.2
 refine ⟨by omega, fun i hi => ?_, ⟨2, by decide, ?_⟩, ⟨0, by decide, ?_⟩, ⟨4, by decide, ?_⟩, ⟨1, by decide, ?_⟩⟩
 ·rcases lt6 hi with rfl | rfl | rfl | rfl | rfl | rfl <;> simp only [crs, g, g', x0, x1, x2, x3, x4, x5, y0, y1, y2, y3, y4, y5] <;> omega
 ·simp only [g, x0, x1, x2, x3, x4, x5]; omega
 ·simp only [g, x0, x1, x2, x3, x4, x5]; omega
 ·simp only [g', y0, y1, y2, y3, y4, y5]; omega
 ·simp only [g', y0, y1, y2, y3, y4, y5]; omega
theorem lies (x y : Int) (r : Nat) (hr : r ≤ 12) : Lies x y (near x y r) r := by
 match r, hr with
 | 0, _ => exact lies0 x y
 | 1, _ => exact lies1 x y
 | 2, _ => exact lies2 x y
 | 3, _ => exact lies3 x y
 | 4, _ => exact lies4 x y
 | 5, _ => exact lies5 x y
 | 6, _ => exact lies6 x y
 | 7, _ => exact lies7 x y
 | 8, _ => exact lies8 x y
 | 9, _ => exact lies9 x y
 | 10, _ => exact lies10 x y
 | 11, _ => exact lies11 x y
 | 12, _ => exact lies12 x y
 | r + 13, h => omega

theorem lb {r : Nat} (hr : r ≤ 12) : (betaN (12 - r)).In 120000 := betaN_in _ (by omega)
def placeN (z : Ei) (r : Nat) (b : Int) : Ei := (betaN (12 - r)).mul ⟨b * z.a, b * z.b⟩
def pnt (x y : Int) : RV := .agg [.v (.int .i64 x), .v (.int .i64 y)]
def cen (m b : Ei) : AV := .r (.agg [.v (.int .i64 m.a), .v (.int .i64 m.b), .v (.int .i64 b.a), .v (.int .i64 b.b)])
def hexP (z : Ei) (r i : Nat) : RV := pnt (hx z r i) (hy z r i)
def hexL (z : Ei) (r : Nat) (n : Nat) : List RV := (List.range n).map (hexP z r)
def vvL : List RV := [(vv 0).rv, (vv 1).rv, (vv 2).rv, (vv 3).rv, (vv 4).rv, (vv 5).rv]

theorem pr_In {z : Ei} {n : Int} (h : z.In n) (h1 : 2 ≤ n) : (pr z).In n := by
 obtain ⟨l, _, g1, e1, f1⟩ := pr_spec z
 generalize pr z = q at *
 unfold Ei.H at g1
 unfold Ei.In at *
 omega
theorem anc_In {z : Ei} {n : Int} (k : Nat) (h : z.In n) (h1 : 2 ≤ n) : (anc k z).In n := by
 induction k generalizing z with
 | zero => exact h
 | succ k ih => exact ih (pr_In h h1)
theorem lft_In (z : Ei) : (lft z).In 1 := by
 obtain ⟨l, e, g1, _⟩ := pr_spec z
 rw [e]
 exact g1.in
def cel (r : Int) (z : Ei) : AV := .r (.agg [.v (.int .i64 r), .v (.int .i64 z.a), .v (.int .i64 z.b)])
instance (z : Ei) (n : Int) : Decidable (z.In n) := inferInstanceAs (Decidable (_ ∧ _))
def shapeB (r : Int) (z : Ei) : Bool := decide ((0 ≤ r ∧ r ≤ 12) ∧ z.In 1073741824)
theorem dgOf_uni (i : Nat) (h : i < 6) : dgOf (uni i) = i + 1 := by
 rcases lt6 h with rfl | rfl | rfl | rfl | rfl | rfl <;> decide
theorem dgOf_no (l : Ei) (h : ∀ j : Nat, j < 6 → uni j ≠ l) : dgOf l = 0 := by
 have h0 := h 0 (by decide); have h1 := h 1 (by decide); have h2 := h 2 (by decide); have h3 := h 3 (by decide); have h4 := h 4 (by decide); have h5 := h 5 (by decide)
 unfold dgOf
 rw [if_neg (show ¬ l = ⟨1, 0⟩ from Ne.symm h0), if_neg (show ¬ l = ⟨0, 1⟩ from Ne.symm h1), if_neg (show ¬ l = ⟨-1, 1⟩ from Ne.symm h2), if_neg (show ¬ l = ⟨-1, 0⟩ from Ne.symm h3), if_neg (show ¬ l = ⟨0, -1⟩ from Ne.symm h4), if_neg (show ¬ l = ⟨1, -1⟩ from Ne.symm h5)]
def digs (r : Nat) (z : Ei) (i : Nat) : List AV := (List.range 13).map fun j => int .i64 (if i < j ∧ j ≤ r then (dg (anc (r - j) z) : Int) else 0)
theorem digs_len (r : Nat) (z : Ei) (i : Nat) : (digs r z i).length = 13 := by simp [digs]
theorem hidL_ints (f : Nat → Int) (l : List Nat) : hidL (l.map fun j => int .i64 (f j)) = [] := by
 induction l with
 | nil => rfl
 | cons a l ih => show hids _ ++ hidL _ = []; rw [ih]; rfl
theorem imL_ints (F : Ren) (f : Nat → Int) (l : List Nat) : imL F (l.map fun j => int .i64 (f j)) = l.map fun j => int .i64 (f j) := by
 induction l with
 | nil => rfl
 | cons a l ih => show imV F _ :: imL F _ = _; rw [ih]; rfl
theorem hidL_digs (r : Nat) (z : Ei) (i : Nat) : hidL (digs r z i) = [] := hidL_ints _ _
theorem imL_digs (F : Ren) (r : Nat) (z : Ei) (i : Nat) : imL F (digs r z i) = digs r z i := imL_ints F _ _
theorem take_digs (r : Nat) (z : Ei) (i : Nat) : List.take 13 (digs r z i) = digs r z i := List.take_of_length_le (by rw [digs_len]; exact Nat.le_refl _)
def digsR (r : Nat) (z : Ei) (i : Nat) : List RV := (List.range 13).map fun j => .v (.int .i64 (if i < j ∧ j ≤ r then (dg (anc (r - j) z) : Int) else 0))
theorem rvs_ints (ob : Obs) (f : Nat → Int) (l : List Nat) : rvs ob (l.map fun j => int .i64 (f j)) = some (l.map fun j => .v (.int .i64 (f j)), []) := by
 induction l with
 | nil => rfl
 | cons a l ih => show rvs ob (_ :: _) = _; simp only [rvs, AV.rv, ih]; rfl
theorem rvs_digs (ob : Obs) (r : Nat) (z : Ei) (i : Nat) : rvs ob (digs r z i) = some (digsR r z i, []) := rvs_ints ob _ _
theorem over_digs (r : Nat) (z : Ei) (i : Nat) : digs r z i ++ List.drop 13 (digs r z i) = digs r z i := by
 rw [List.drop_of_length_le (by rw [digs_len]; exact Nat.le_refl _), List.append_nil]
attribute [push_cast high] rvs_digs over_digs
attribute [push_cast high] hidL_digs imL_digs take_digs digs_len
def baseB (q : Ei) : Bool := decide ((-512 ≤ q.a ∧ q.a ≤ 511) ∧ (-512 ≤ q.b ∧ q.b ≤ 511))
def okB' (r : Int) (z : Ei) : Bool := shapeB r z && baseB (anc r.toNat z)

theorem or_high {a b k : Nat} (h : a < 2 ^ k) : a ||| b * 2 ^ k = b * 2 ^ k + a := by
 rw [zam, ← Nat.shiftLeft_eq, Nat.shiftLeft_add_eq_or_of_lt h]
theorem p8 (n : Nat) : 0 < 8 ^ n := zai (by decide)
theorem dig_put {a b d k : Nat} (hb : b < 2 ^ k) (hd : d < 8) (hk : k + 3 ≤ 64) (ha : (a * 8 + 7) * 2 ^ k + b < 2 ^ 64) :
  (((a * 8 + 7) * 2 ^ k + b) &&& (2 ^ 64 - 1 - 7 * 2 ^ k)) ||| d * 2 ^ k = (a * 8 + d) * 2 ^ k + b := by
 have h7 : ∀ j, Nat.testBit 7 j = decide (j < 3) := fun j => by
  rcases (show j = 0 ∨ j = 1 ∨ j = 2 ∨ 3 ≤ j by omega) with rfl | rfl | rfl | hj
  ·rfl
  ·rfl
  ·rfl
  ·rw [zba (Nat.lt_of_lt_of_le (by decide : 7 < 2 ^ 3) (zac (by decide) hj))]; simp; omega
 have hd3 : ∀ j, 3 ≤ j → Nat.testBit d j = false := fun j hj => zba (Nat.lt_of_lt_of_le (by omega : d < 2 ^ 3) (zac (by decide) hj))
 have hs : 7 * 2 ^ k < 2 ^ 64 := by
  have : 2 ^ (k + 3) ≤ 2 ^ 64 := zac (by decide) hk
  rw [zab] at this
  have := Nat.two_pow_pos k
  omega
 apply Nat.eq_of_testBit_eq
 intro j
 rw [Nat.testBit_or, Nat.testBit_and, show 2 ^ 64 - 1 - 7 * 2 ^ k = 2 ^ 64 - (7 * 2 ^ k + 1) by omega, Nat.testBit_two_pow_sub_succ hs]
 rw [zal _ (2 ^ k), zal 7, zal d, zal (a * 8 + d)]
 rw [zau _ hb, zau _ hb, Nat.testBit_two_pow_mul, Nat.testBit_two_pow_mul]
 by_cases hj : j < k
 ·simp [hj, Nat.not_le.2 hj]
  intro hx
  omega
 ·rw [if_neg hj, if_neg hj]
  have hkj : k ≤ j := by omega
  simp only [hkj, ge_iff_le, decide_true, Bool.true_and]
  rw [show a * 8 + 7 = 2 ^ 3 * a + 7 by omega, show a * 8 + d = 2 ^ 3 * a + d by omega, zau a (show 7 < 2 ^ 3 by decide), zau a (show d < 2 ^ 3 from hd), h7]
  by_cases h3 : j - k < 3
  ·simp [h3]
  ·rw [hd3 _ (by omega)]
   simp only [h3, if_false, decide_false, Bool.not_false, Bool.and_true, Bool.or_false]
   by_cases h64 : j < 64
   ·simp [h64]
   ·simp only [h64, decide_false, Bool.and_false]
    apply Eq.symm
    apply zba
    have e : (a * 8 + 7) * 2 ^ k + b < 2 ^ j := Nat.lt_of_lt_of_le ha (zac (by decide) (by omega))
    have e2 : 2 ^ j = 2 ^ (j - k - 3) * 8 * 2 ^ k := by rw [show (8 : Nat) = 2 ^ 3 from rfl, ← zab, ← zab]; congr 1; omega
    rw [e2] at e
    have : (a * 8 + 7) * 2 ^ k < 2 ^ (j - k - 3) * 8 * 2 ^ k := by omega
    have := Nat.lt_of_mul_lt_mul_right this
    omega
def wordI (r : Nat) (z : Ei) (i : Nat) : Nat := ((8 ^ i - 1) * 8 ^ (r - i) + val (r - i) z) * 8 ^ (12 - r) + (8 ^ (12 - r) - 1)
theorem wordI_r (r : Nat) (z : Ei) (hr : r ≤ 12) : wordI r z r = 68719476735 := by
 unfold wordI
 rw [Nat.sub_self, val, Nat.pow_zero, Nat.mul_one, Nat.add_zero, Nat.sub_mul, ← zab, show r + (12 - r) = 12 by omega, Nat.one_mul]
 have : 8 ^ (12 - r) ≤ 8 ^ 12 := zac (by decide) (by omega)
 have := p8 (12 - r)
 omega
theorem val_snoc (k : Nat) (z : Ei) : val (k + 1) z = dg (anc k z) * 8 ^ k + val k z := by
 induction k generalizing z with
 | zero => simp [val, anc]
 | succ k ih =>
  rw [val, ih (pr z), val, anc, zak]
  generalize dg (anc k (pr z)) = e
  generalize 8 ^ k = p
  generalize val k (pr z) = q
  rw [zaf, zad]
  omega
theorem wordI_low (r : Nat) (z : Ei) (i : Nat) (hi : i ≤ r) (hr : r ≤ 12) : val (r - i) z * 8 ^ (12 - r) + (8 ^ (12 - r) - 1) < 2 ^ (36 - 3 * i) := by
 have h1 := val_lt (r - i) z
 have e : 2 ^ (36 - 3 * i) = 8 ^ (r - i) * 8 ^ (12 - r) := by
  rw [← zab, show (8 : Nat) = 2 ^ 3 from rfl, ← Nat.pow_mul]; congr 1; omega
 rw [e]
 have hp := p8 (12 - r)
 generalize 8 ^ (12 - r) = p at *
 generalize val (r - i) z = v at *
 have h2 : (v + 1) * p ≤ 8 ^ (r - i) * p := Nat.mul_le_mul_right _ h1
 rw [zaf] at h2
 omega
theorem wordI_eq (r : Nat) (z : Ei) (i : Nat) (hi : i ≤ r) (hr : r ≤ 12) : wordI r z i = (8 ^ i - 1) * 2 ^ (36 - 3 * i) + (val (r - i) z * 8 ^ (12 - r) + (8 ^ (12 - r) - 1)) := by
 have e : 2 ^ (36 - 3 * i) = 8 ^ (r - i) * 8 ^ (12 - r) := by
  rw [← zab, show (8 : Nat) = 2 ^ 3 from rfl, ← Nat.pow_mul]; congr 1; omega
 unfold wordI
 rw [e, zaf, zad, Nat.add_assoc]
theorem wordI_lt (r : Nat) (z : Ei) (i : Nat) (hi : i ≤ r) (hr : r ≤ 12) : wordI r z i < 68719476736 := by
 rw [wordI_eq r z i hi hr]
 have h := wordI_low r z i hi hr
 have e : (8 : Nat) ^ i * 2 ^ (36 - 3 * i) = 68719476736 := by
  rw [show (8 : Nat) = 2 ^ 3 from rfl, ← Nat.pow_mul, ← zab, show 3 * i + (36 - 3 * i) = 36 by omega]
 rw [Nat.sub_mul, e, Nat.one_mul]
 have := Nat.two_pow_pos (36 - 3 * i)
 have : 2 ^ (36 - 3 * i) ≤ 2 ^ 36 := zac (by decide) (by omega)
 omega
theorem wordI_step (r : Nat) (z : Ei) (i : Nat) (h1 : 1 ≤ i) (hi : i ≤ r) (hr : r ≤ 12) :
  ((wordI r z i &&& (2 ^ 64 - 1 - 7 * 2 ^ (36 - 3 * i))) ||| dg (anc (r - i) z) * 2 ^ (36 - 3 * i)) = wordI r z (i - 1) := by
 have hl := wordI_lt r z i hi hr
 have hlow := wordI_low r z i hi hr
 have hd := dg_lt (anc (r - i) z)
 have e8 : (8 : Nat) ^ i - 1 = (8 ^ (i - 1) - 1) * 8 + 7 := by
  have : (8 : Nat) ^ i = 8 ^ (i - 1) * 8 := by conv => lhs; rw [show i = i - 1 + 1 by omega, zak]
  have := p8 (i - 1)
  omega
 have e0 := wordI_eq r z i hi hr
 rw [e8] at e0
 rw [e0] at hl ⊢
 rw [dig_put hlow (by omega) (by omega) (by omega), wordI_eq r z (i - 1) (by omega) hr, show r - (i - 1) = r - i + 1 by omega, val_snoc]
 have e9 : 2 ^ (36 - 3 * (i - 1)) = 8 * 2 ^ (36 - 3 * i) := by rw [show (8 : Nat) = 2 ^ 3 from rfl, ← zab]; congr 1; omega
 have e10 : 8 ^ (r - i) * 8 ^ (12 - r) = 2 ^ (36 - 3 * i) := by
  rw [← zab, show (8 : Nat) = 2 ^ 3 from rfl, ← Nat.pow_mul]; congr 1; omega
 rw [e9, ← e10]
 generalize 8 ^ (i - 1) - 1 = A
 generalize 8 ^ (r - i) = B
 generalize 8 ^ (12 - r) = C
 generalize dg (anc (r - i) z) = D
 generalize val (r - i) z = V
 simp only [zaf, zad]
 omega
theorem word_or (r : Nat) (z : Ei) (hr : r ≤ 12) (A B : Nat) (hA : A < 1024) (hB : B < 1024) (hA' : (anc r z).a + 512 = A) (hB' : (anc r z).b + 512 = B) :
  ((((wordI r z 0 ||| 1152921504606846976) ||| r * 2 ^ 56) ||| A * 2 ^ 46) ||| B * 2 ^ 36) = word r z := by
 have hl := wordI_lt r z 0 (by omega) hr
 have e : word r z = hd36 r (anc r z) * 2 ^ 36 + wordI r z 0 := by
  unfold word wordI
  rw [zaf, zad, ← zab, show r + (12 - r) = 12 by omega]
  simp
  omega
 rw [e]
 generalize wordI r z 0 = w at *
 rw [zan, zan, zan, zam, zan, zan, zan]
 rw [zam (B * 2 ^ 36), or_high (show w < 2 ^ 36 from hl), zam (A * 2 ^ 46), or_high (show B * 2 ^ 36 + w < 2 ^ 46 by omega), zam (r * 2 ^ 56), or_high (show A * 2 ^ 46 + (B * 2 ^ 36 + w) < 2 ^ 56 by omega),
  show (1152921504606846976 : Nat) = 1 * 2 ^ 60 from rfl, zam (1 * 2 ^ 60), or_high (show r * 2 ^ 56 + (A * 2 ^ 46 + (B * 2 ^ 36 + w)) < 2 ^ 60 by omega)]
 unfold hd36
 omega

noncomputable def apiaryref1_Seven_pc : PC :=
  (.seq (.reg [p_s 2 (.mov (o_i 0))])
 (.seq (.reg [p_m 6 0, p_c 7 1 117 [(o_i 7), (.t 6)], p_m 5 7, p_s 8 (.ext (.t 5) 0), p_s 9 (.ext (.t 5) 1), p_m 3 8, p_m 4 9])
 (.seq (.reg [p_m 10 3, p_m 2 10])
 .ret)))
theorem apiaryref1_Seven_triple : Fun P0 97 1 [(2, false, none)] apiaryref1_Seven_pc := fun_mk Go.Proofs.Tryz.func97 rfl (by decide) (by kernel_rfl) (by decide) rfl (by kernel_rfl) (by kernel_rfl) (by decide)
structure Til where
 z : Int
 x : Int
 y : Int
 r : Int
def Til.v (t : Til) : AV := .r (.agg [.v (.int .i64 t.z), .v (.int .i64 t.x), .v (.int .i64 t.y), .v (.int .i64 t.r)])
def Til.ok (t : Til) : Prop := in64 t.z ∧ in64 t.x ∧ in64 t.y ∧ in64 t.r
def tis (t : Til) : Bool := decide (0 ≤ t.z ∧ t.z ≤ 18 ∧ 0 ≤ t.r ∧ t.r ≤ 12 ∧ 0 ≤ t.x ∧ t.x < 2 ^ t.z.toNat ∧ 0 ≤ t.y ∧ t.y < 2 ^ t.z.toNat)
def rok (r : Int) : Bool := decide (0 ≤ r ∧ r ≤ 12)
theorem seven_t (k : Int) (h0 : 0 ≤ k) (h1 : k ≤ 12) : Triple P0 97 [int .i64 k] [] (int .i64 (7 ^ k.toNat)) [] := by
 refine apiaryref1_Seven_triple rfl (by decide) ?_
 simp only [apiaryref1_Seven_pc, push_cast, ↓reduceIte, reduceCtorEq, zB, zE, zA, zS, zL, zD, zM]
 have hp := p7 k.toNat (by omega)
 have ht := rpow_t 7 k (by decide) (by unfold in64; omega)
 rw [if_neg (show ¬ k < 0 by omega)] at ht
 refine call_mk ht rfl trivial ?_
 simp only [sm, if_pos (show in64 (7 ^ k.toNat) by unfold in64; omega), push_cast, ↓reduceIte, reduceCtorEq, zB, zE, zA, zS, zL, zD, zM]
def fine (t : Til) : Bool := tis t && decide (169 * 7 ^ (12 - t.r).toNat < 16 * 2 ^ (18 - t.z).toNat * (2 : Int) ^ (18 - t.z).toNat)

noncomputable def apiaryref1_Floor_pc : PC :=
  (.seq (.reg [p_s 4 (.mov (o_i 0)), p_s 5 (.mov (o_i 0)), p_s 6 (.mov (.c (.r (.v (.bool false)))))])
 (.seq (.seq (.reg [p_m 9 1, p_s 10 (.bin .leq (.t 9) (o_i 0))])
 (.cond (.t 10)
 (.seq (.reg [p_s 4 (.mov (o_i 0)), p_s 5 (.mov (o_i 0)), p_s 6 (.mov (.c (.r (.v (.bool false)))))])
 .ret)
 .skip))
 (.seq (.drw [p_m 11 0, p_m 12 1, p_s 13 (.bin .quo (.t 11) (.t 12)), p_m 14 0, p_m 15 1, p_s 16 (.bin .rem (.t 14) (.t 15)), p_m 7 13, p_m 8 16]
 [[], [], [0, 1], [], [], [3, 4], [0, 1, 2], [0, 1, 2, 3, 4, 5, 6]])
 (.seq (.seq (.reg [p_m 17 8, p_s 18 (.bin .lss (.t 17) (o_i 0))])
 (.cond (.t 18)
 (.reg [p_m 19 7, p_s 20 (.bin .sub (.t 19) (o_i 1)), p_m 21 8, p_m 22 1, p_s 23 (.bin .add (.t 21) (.t 22)), p_m 7 20, p_m 8 23])
 .skip))
 (.seq (.reg [p_m 24 7, p_m 25 8, p_m 4 24, p_m 5 25, p_s 6 (.mov (.c (.r (.v (.bool true)))))])
 .ret)))))
theorem apiaryref1_Floor_triple : Fun P0 114 2 [(4, false, none), (5, false, none), (6, false, none)] apiaryref1_Floor_pc := fun_mk Go.Proofs.Tryz.func114 rfl (by decide) (by kernel_rfl) (by decide) rfl (by kernel_rfl) (by kernel_rfl) (by decide)
noncomputable def apiaryref1_Two_pc : PC :=
  (.seq (.reg [p_a 2 (.box (.t 0)), p_a 3 (.box (.t 1)), p_a 4 (.new [(.r (.v (.int .i64 0))), (.r (.v (.int .i64 0)))]), p_s 5 (.mov (.c (.r (.v (.bool false)))))])
 (.seq (.reg [p_s 11 (.ld (some 2) (.t 2)), p_c 12 1 133 [.t 11], p_m 10 12, p_s 13 (.ext (.t 10) 0), p_s 14 (.ext (.t 10) 1), p_m 6 13, p_m 7 14])
 (.seq (.reg [p_s 16 (.ld (some 2) (.t 3)), p_c 17 2 133 [.t 16], p_m 15 17, p_s 18 (.ext (.t 15) 0), p_s 19 (.ext (.t 15) 1), p_m 8 18, p_m 9 19])
 (.seq (.seq (.reg [p_m 20 7, p_s 21 (.un .not (.t 20)), p_m 22 21, p_g 23 22 false (.mov (.t 9)), p_g 24 22 false (.un .not (.t 23)), p_s 25 (.pick (.t 22) (.c (.r (.v (.bool true)))) (.t 24))])
 (.cond (.t 25)
 (.seq (.reg [p_s 26 (.build [(.r (.v (.int .i64 0))), (.r (.v (.int .i64 0)))] []), ⟨none, none, 0, .act (.st 2 (.t 4) (.t 26))⟩, p_s 5 (.mov (.c (.r (.v (.bool false)))))])
 .ret)
 .skip))
 (.seq (.reg [p_m 27 6, p_m 28 8, p_s 29 (.build [(.r (.v (.int .i64 0))), (.r (.v (.int .i64 0)))] [(0, 1, (.t 27)), (1, 1, (.t 28))]), ⟨none, none, 0, .act (.st 2 (.t 4) (.t 29))⟩,
 p_s 5 (.mov (.c (.r (.v (.bool true)))))])
 .ret)))))
theorem apiaryref1_Two_triple : Fun P0 111 2 [(4, false, some (65, (some 2))), (5, false, none)] apiaryref1_Two_pc := fun_mk Go.Proofs.Tryz.func111 rfl (by decide) (by kernel_rfl) (by decide) rfl (by kernel_rfl) (by kernel_rfl) (by decide)
noncomputable def apiaryref1_Mul_pc : PC :=
  (.seq (.reg [p_a 2 (.box (.t 0)), p_a 3 (.box (.t 1)), p_a 4 (.new [(.r (.v (.int .i64 0))), (.r (.v (.int .i64 0)))]), p_s 5 (.mov (.c (.r (.v (.bool false)))))])
 (.seq (.reg [p_s 7 (.fa 1 (.t 2)), p_s 8 (.ld none (.t 7)), p_s 9 (.fa 1 (.t 3)), p_s 10 (.ld none (.t 9)), p_c 11 1 110 [.t 8, .t 10], p_a 6 (.new [(.r (.v (.int .u64 0))), (.r (.v (.int .u64 0)))]),
 ⟨none, none, 0, .act (.st 2 (.t 6) (.t 11))⟩])
 (.seq (.drw [p_s 12 (.fa 0 (.t 2)), p_s 13 (.ld none (.t 12)), p_s 14 (.fa 0 (.t 3)), p_s 15 (.ld none (.t 14)), p_c 16 2 110 [.t 13, .t 15], p_s 17 (.ld (some 2) (.t 6)), p_c 18 3 113 [.t 17],
 p_c 19 4 112 [.t 16, .t 18], p_s 20 (.fa 0 (.t 2)), p_s 21 (.ld none (.t 20)), p_s 22 (.fa 1 (.t 3)), p_s 23 (.ld none (.t 22)), p_c 24 5 110 [.t 21, .t 23], p_s 25 (.fa 1 (.t 2)),
 p_s 26 (.ld none (.t 25)), p_s 27 (.fa 0 (.t 3)), p_s 28 (.ld none (.t 27)), p_c 29 6 110 [.t 26, .t 28], p_c 30 7 112 [.t 24, .t 29], p_s 31 (.ld (some 2) (.t 6)),
 p_c 32 8 112 [.t 30, .t 31], p_c 33 9 111 [.t 19, .t 32], p_s 34 (.ext (.t 33) 0), p_s 35 (.ext (.t 33) 1), ⟨none, none, 0, .act (.st 2 (.t 4) (.t 34))⟩, p_m 5 35]
 [[], [0], [], [2], [0, 1, 2, 3], [], [0, 1, 2, 3, 4, 5], [0, 1, 2, 3, 4, 5, 6], [], [8], [], [10], [0, 1, 2, 3, 4, 5, 6, 7, 8, 9, 10, 11], [], [13], [], [15], [0, 1, 2, 3, 4, 5, 6, 7, 8, 9, 10, 11, 12, 13, 14, 15, 16], [0, 1, 2, 3, 4, 5, 6, 7, 8, 9, 10, 11, 12, 13, 14, 15, 16, 17], [], [0, 1, 2, 3, 4, 5, 6, 7, 8, 9, 10, 11, 12, 13, 14, 15, 16, 17, 18, 19], [0, 1, 2, 3, 4, 5, 6, 7, 8, 9, 10, 11, 12, 13, 14, 15, 16, 17, 18, 19, 20], [0, 1, 2, 3, 4, 5, 6, 7, 8, 9, 10, 11, 12, 13, 14, 15, 16, 17, 18, 19, 20, 21], [0, 1, 2, 3, 4, 5, 6, 7, 8, 9, 10, 11, 12, 13, 14, 15, 16, 17, 18, 19, 20, 21], [0, 1, 2, 3, 4, 5, 6, 7, 8, 9, 10, 11, 12, 13, 14, 15, 16, 17, 18, 19, 20, 21, 22, 23], [0, 1, 2, 3, 4, 5, 6, 7, 8, 9, 10, 11, 12, 13, 14, 15, 16, 17, 18, 19, 20, 21, 22, 23, 24]])
 .ret)))
theorem apiaryref1_Mul_triple : Fun P0 92 2 [(4, false, some (65, (some 2))), (5, false, none)] apiaryref1_Mul_pc := fun_mk Go.Proofs.Tryz.func92 rfl (by decide) (by kernel_rfl) (by decide) rfl (by kernel_rfl) (by kernel_rfl) (by decide)
noncomputable def apiaryref1_Beta_pc : PC :=
  (.seq (.reg [p_a 2 (.new [(.r (.v (.int .i64 0))), (.r (.v (.int .i64 0)))]), p_s 3 (.mov (.c (.r (.v (.bool false)))))])
 (.seq (.seq (.reg [p_m 6 0, p_s 7 (.bin .lss (.t 6) (o_i 0)), p_m 8 7, p_g 9 8 false (.mov (.t 0)), p_g 10 8 false (.bin .gtr (.t 9) (o_i 20)), p_s 11 (.pick (.t 8) (.c (.r (.v (.bool true)))) (.t 10))])
 (.cond (.t 11)
 (.seq (.reg [p_s 12 (.build [(.r (.v (.int .i64 0))), (.r (.v (.int .i64 0)))] []), ⟨none, none, 0, .act (.st 2 (.t 2) (.t 12))⟩, p_s 3 (.mov (.c (.r (.v (.bool false)))))])
 .ret)
 .skip))
 (.seq (.reg [p_s 13 (.build [(.r (.v (.int .i64 0))), (.r (.v (.int .i64 0)))] [(0, 1, (o_i 1))]), p_a 4 (.new [(.r (.v (.int .i64 0))), (.r (.v (.int .i64 0)))]), ⟨none, none, 0, .act (.st 2 (.t 4) (.t 13))⟩])
 (.seq (.seq (.reg [p_s 5 (.mov (o_i 0))])
 (.block 0 (.loop (.seq (.seq (.reg [p_m 14 5, p_m 15 0, p_s 16 (.bin .lss (.t 14) (.t 15))])
 (.cond (.t 16)
 .skip
 (.exit 0)))
 (.seq (.block 1 (.reg [p_s 20 (.ld (some 2) (.t 4)), p_s 21 (.build [(.r (.v (.int .i64 0))), (.r (.v (.int .i64 0)))] [(0, 1, (o_i 2)), (1, 1, (o_i 1))]), p_c 22 1 92 [.t 20, .t 21],
 p_m 19 22, p_s 23 (.ext (.t 19) 0), p_s 24 (.ext (.t 19) 1), ⟨none, none, 0, .act (.st 2 (.t 4) (.t 23))⟩]))
 (.reg [p_m 17 5, p_s 18 (.bin .add (.t 17) (o_i 1)), p_m 5 18]))))))
 (.seq (.reg [p_s 25 (.ld (some 2) (.t 4)), ⟨none, none, 0, .act (.st 2 (.t 2) (.t 25))⟩, p_s 3 (.mov (.c (.r (.v (.bool true)))))])
 .ret)))))
theorem apiaryref1_Beta_triple : Fun P0 116 1 [(2, false, some (65, (some 2))), (3, false, none)] apiaryref1_Beta_pc := fun_mk Go.Proofs.Tryz.func116 rfl (by decide) (by kernel_rfl) (by decide) rfl (by kernel_rfl) (by kernel_rfl) (by decide)
noncomputable def apiaryref1_conj_pc : PC :=
  (.seq (.reg [p_a 2 (.new [(.r (.v (.int .i64 0))), (.r (.v (.int .i64 0)))])])
 (.seq (.reg [p_m 6 0, p_c 7 1 116 [.t 6], p_m 5 7, p_s 8 (.ext (.t 5) 0), p_s 9 (.ext (.t 5) 1), p_a 3 (.new [(.r (.v (.int .i64 0))), (.r (.v (.int .i64 0)))]), ⟨none, none, 0, .act (.st 2 (.t 3) (.t 8))⟩,
 p_m 4 9])
 (.seq (.reg [p_s 10 (.fa 0 (.t 3)), p_s 11 (.ld none (.t 10)), p_s 12 (.fa 1 (.t 3)), p_s 13 (.ld none (.t 12)), p_s 14 (.bin .add (.t 11) (.t 13)), p_s 15 (.fa 1 (.t 3)), p_s 16 (.ld none (.t 15)),
 p_s 17 (.un .neg (.t 16)), p_s 18 (.build [(.r (.v (.int .i64 0))), (.r (.v (.int .i64 0)))] [(0, 1, (.t 14)), (1, 1, (.t 17))]), ⟨none, none, 0, .act (.st 2 (.t 2) (.t 18))⟩])
 .ret)))
theorem apiaryref1_conj_triple : Fun P0 96 1 [(2, false, some (65, (some 2)))] apiaryref1_conj_pc := fun_mk Go.Proofs.Tryz.func96 rfl (by decide) (by kernel_rfl) (by decide) rfl (by kernel_rfl) (by kernel_rfl) (by decide)
noncomputable def apiaryref1_size_pc : PC :=
  (.seq (.reg [p_s 2 (.mov (o_i 0))])
 (.seq (.seq (.reg [p_m 3 0, p_s 4 (.bin .lss (.t 3) (o_i 0))])
 (.cond (.t 4)
 (.seq (.reg [p_m 5 0, p_s 6 (.un .neg (.t 5)), p_m 2 6])
 .ret)
 .skip))
 (.seq (.reg [p_m 7 0, p_m 2 7])
 .ret)))
theorem apiaryref1_size_triple : Fun P0 135 1 [(2, false, none)] apiaryref1_size_pc := fun_mk Go.Proofs.Tryz.func135 rfl (by decide) (by kernel_rfl) (by decide) rfl (by kernel_rfl) (by kernel_rfl) (by decide)
noncomputable def apiaryref1_holds_pc : PC :=
  (.seq (.reg [p_s 6 (.mov (.c (.r (.v (.bool false)))))])
 (.seq (.reg [p_m 7 0, p_s 8 (.bin .mul (o_i 2) (.t 7)), p_m 9 1, p_s 10 (.bin .add (.t 8) (.t 9)), p_c 11 1 135 [.t 10], p_m 12 2, p_s 13 (.bin .leq (.t 11) (.t 12)), p_m 14 13,
 p_g 15 14 true (.mov (.t 0)), p_g 16 14 true (.mov (.t 1)), p_g 17 14 true (.bin .mul (o_i 2) (.t 16)), p_g 18 14 true (.bin .add (.t 15) (.t 17)), ⟨(some 19), (some (14, true)), 2, .call 135 [(.t 18)]⟩,
 p_g 20 14 true (.mov (.t 2)), p_g 21 14 true (.bin .leq (.t 19) (.t 20)), p_s 22 (.pick (.t 14) (.t 21) (.c (.r (.v (.bool false))))), p_m 23 22, p_g 24 23 true (.mov (.t 0)),
 p_g 25 23 true (.mov (.t 1)), p_g 26 23 true (.bin .sub (.t 24) (.t 25)), ⟨(some 27), (some (23, true)), 3, .call 135 [(.t 26)]⟩, p_g 28 23 true (.mov (.t 2)), p_g 29 23 true (.bin .leq (.t 27) (.t 28)),
 p_s 30 (.pick (.t 23) (.t 29) (.c (.r (.v (.bool false))))), p_m 6 30])
 .ret))
theorem apiaryref1_holds_triple : Fun P0 115 3 [(6, false, none)] apiaryref1_holds_pc := fun_mk Go.Proofs.Tryz.func115 rfl (by decide) (by kernel_rfl) (by decide) rfl (by kernel_rfl) (by kernel_rfl) (by decide)
noncomputable def apiaryref1_Round_pc : PC :=
  (.seq (.reg [p_a 2 (.box (.t 0)), p_a 4 (.new [(.r (.v (.int .i64 0))), (.r (.v (.int .i64 0)))]), p_s 5 (.mov (.c (.r (.v (.bool false)))))])
 (.seq (.seq (.reg [p_m 14 1, p_s 15 (.bin .lss (.t 14) (o_i 1)), p_m 16 15, p_g 17 16 false (.mov (.t 1)), p_g 18 16 false (.bin .gtr (.t 17) (o_i 1125899906842624)), p_s 19 (.pick (.t 16) (.c (.r (.v (.bool true)))) (.t 18)),
 p_m 20 19, p_g 21 20 false (.fa 0 (.t 2)), p_g 22 20 false (.ld none (.t 21)), p_g 23 20 false (.bin .lss (.t 22) (o_i (-1152921504606846976))), p_s 24 (.pick (.t 20) (.c (.r (.v (.bool true)))) (.t 23)),
 p_m 25 24, p_g 26 25 false (.fa 0 (.t 2)), p_g 27 25 false (.ld none (.t 26)), p_g 28 25 false (.bin .gtr (.t 27) (o_i 1152921504606846976)), p_s 29 (.pick (.t 25) (.c (.r (.v (.bool true)))) (.t 28)),
 p_m 30 29, p_g 31 30 false (.fa 1 (.t 2)), p_g 32 30 false (.ld none (.t 31)), p_g 33 30 false (.bin .lss (.t 32) (o_i (-1152921504606846976))), p_s 34 (.pick (.t 30) (.c (.r (.v (.bool true)))) (.t 33)),
 p_m 35 34, p_g 36 35 false (.fa 1 (.t 2)), p_g 37 35 false (.ld none (.t 36)), p_g 38 35 false (.bin .gtr (.t 37) (o_i 1152921504606846976)), p_s 39 (.pick (.t 35) (.c (.r (.v (.bool true)))) (.t 38))])
 (.cond (.t 39)
 (.seq (.reg [p_s 40 (.build [(.r (.v (.int .i64 0))), (.r (.v (.int .i64 0)))] []), ⟨none, none, 0, .act (.st 2 (.t 4) (.t 40))⟩, p_s 5 (.mov (.c (.r (.v (.bool false)))))])
 .ret)
 .skip))
 (.seq (.reg [p_s 42 (.fa 0 (.t 2)), p_s 43 (.ld none (.t 42)), p_m 44 1, p_c 45 1 114 [.t 43, .t 44], p_m 41 45, p_s 46 (.ext (.t 41) 0), p_s 47 (.ext (.t 41) 1), p_s 48 (.ext (.t 41) 2),
 p_m 6 46, p_m 7 47, p_m 8 48])
 (.seq (.reg [p_s 50 (.fa 1 (.t 2)), p_s 51 (.ld none (.t 50)), p_m 52 1, p_c 53 2 114 [.t 51, .t 52], p_m 49 53, p_s 54 (.ext (.t 49) 0), p_s 55 (.ext (.t 49) 1), p_s 56 (.ext (.t 49) 2),
 p_m 9 54, p_m 10 55, p_m 11 56])
 (.seq (.seq (.reg [p_s 12 (.mov (o_i (-1)))])
 (.block 0 (.loop (.seq (.seq (.reg [p_m 57 12, p_s 58 (.bin .leq (.t 57) (o_i 2))])
 (.cond (.t 58)
 .skip
 (.exit 0)))
 (.seq (.block 1 (.seq (.reg [p_s 13 (.mov (o_i (-1)))])
 (.block 2 (.loop (.seq (.seq (.reg [p_m 61 13, p_s 62 (.bin .leq (.t 61) (o_i 2))])
 (.cond (.t 62)
 .skip
 (.exit 2)))
 (.seq (.block 3 (.seq (.reg [p_m 65 7, p_m 66 12, p_m 67 1, p_s 68 (.bin .mul (.t 66) (.t 67)), p_s 69 (.bin .sub (.t 65) (.t 68)), p_m 70 10, p_m 71 13, p_m 72 1, p_s 73 (.bin .mul (.t 71) (.t 72)),
 p_s 74 (.bin .sub (.t 70) (.t 73)), p_m 75 1, p_c 76 3 115 [.t 69, .t 74, .t 75]])
 (.cond (.t 76)
 (.seq (.reg [p_m 77 6, p_m 78 12, p_s 79 (.bin .add (.t 77) (.t 78)), p_m 80 9, p_m 81 13, p_s 82 (.bin .add (.t 80) (.t 81)), p_s 83 (.build [(.r (.v (.int .i64 0))), (.r (.v (.int .i64 0)))] [(0, 1, (.t 79)), (1, 1, (.t 82))]),
 ⟨none, none, 0, .act (.st 2 (.t 4) (.t 83))⟩, p_s 5 (.mov (.c (.r (.v (.bool true)))))])
 .ret)
 .skip)))
 (.reg [p_m 63 13, p_s 64 (.bin .add (.t 63) (o_i 1)), p_m 13 64])))))))
 (.reg [p_m 59 12, p_s 60 (.bin .add (.t 59) (o_i 1)), p_m 12 60]))))))
 (.seq (.reg [p_s 84 (.build [(.r (.v (.int .i64 0))), (.r (.v (.int .i64 0)))] []), ⟨none, none, 0, .act (.st 2 (.t 4) (.t 84))⟩, p_s 5 (.mov (.c (.r (.v (.bool false)))))])
 .ret))))))
theorem apiaryref1_Round_triple : Fun P0 93 2 [(4, false, some (65, (some 2))), (5, false, none)] apiaryref1_Round_pc := fun_mk Go.Proofs.Tryz.func93 rfl (by decide) (by kernel_rfl) (by decide) rfl (by kernel_rfl) (by kernel_rfl) (by decide)
noncomputable def apiaryref1_World_pc : PC :=
  (.seq (.reg [p_s 4 (.mov (.c (.r (.v (.bool false)))))])
 (.seq (.reg [p_m 5 0, p_s 6 (.bin .geq (.t 5) (o_i 0)), p_m 7 6, p_g 8 7 true (.mov (.t 0)), p_g 9 7 true (.bin .lss (.t 8) (o_i 1073741824)), p_s 10 (.pick (.t 7) (.t 9) (.c (.r (.v (.bool false))))),
 p_m 11 10, p_g 12 11 true (.mov (.t 1)), p_g 13 11 true (.bin .geq (.t 12) (o_i 0)), p_s 14 (.pick (.t 11) (.t 13) (.c (.r (.v (.bool false))))), p_m 15 14, p_g 16 15 true (.mov (.t 1)),
 p_g 17 15 true (.bin .lss (.t 16) (o_i 1073741824)), p_s 18 (.pick (.t 15) (.t 17) (.c (.r (.v (.bool false))))), p_m 4 18])
 .ret))
theorem apiaryref1_World_triple : Fun P0 95 2 [(4, false, none)] apiaryref1_World_pc := fun_mk Go.Proofs.Tryz.func95 rfl (by decide) (by kernel_rfl) (by decide) rfl (by kernel_rfl) (by kernel_rfl) (by decide)
noncomputable def apiaryref1_Near_pc : PC :=
  (.seq (.reg [p_a 6 (.new [(.r (.v (.int .i64 0))), (.r (.v (.int .i64 0)))]), p_s 7 (.mov (.c (.r (.v (.bool false)))))])
 (.seq (.seq (.reg [p_m 10 0, p_m 11 1, p_c 12 1 95 [.t 10, .t 11], p_s 13 (.un .not (.t 12)), p_m 14 13, p_g 15 14 false (.mov (.t 2)), p_g 16 14 false (.bin .lss (.t 15) (o_i 0)),
 p_s 17 (.pick (.t 14) (.c (.r (.v (.bool true)))) (.t 16)), p_m 18 17, p_g 19 18 false (.mov (.t 2)), p_g 20 18 false (.bin .gtr (.t 19) (o_i 12)), p_s 21 (.pick (.t 18) (.c (.r (.v (.bool true)))) (.t 20))])
 (.cond (.t 21)
 (.seq (.reg [p_s 22 (.build [(.r (.v (.int .i64 0))), (.r (.v (.int .i64 0)))] []), ⟨none, none, 0, .act (.st 2 (.t 6) (.t 22))⟩, p_s 7 (.mov (.c (.r (.v (.bool false)))))])
 .ret)
 .skip))
 (.seq (.reg [p_m 24 0, p_s 25 (.bin .mul (o_i 45) (.t 24)), p_m 26 1, p_s 27 (.bin .mul (o_i 26) (.t 26)), p_s 28 (.bin .sub (.t 25) (.t 27)), p_m 29 1, p_s 30 (.bin .mul (o_i 52) (.t 29)),
 p_s 31 (.build [(.r (.v (.int .i64 0))), (.r (.v (.int .i64 0)))] [(0, 1, (.t 28)), (1, 1, (.t 30))]), p_m 32 2, p_s 33 (.bin .sub (o_i 12) (.t 32)), p_c 34 2 96 [.t 33],
 p_c 35 3 92 [.t 31, .t 34], p_m 23 35, p_s 36 (.ext (.t 23) 0), p_s 37 (.ext (.t 23) 1), p_a 8 (.new [(.r (.v (.int .i64 0))), (.r (.v (.int .i64 0)))]), ⟨none, none, 0, .act (.st 2 (.t 8) (.t 36))⟩,
 p_m 9 37])
 (.seq (.drw [p_s 38 (.ld (some 2) (.t 8)), p_m 39 2, p_s 40 (.bin .sub (o_i 12) (.t 39)), p_c 41 4 97 [.t 40], p_s 42 (.bin .mul (o_i 2340) (.t 41)), p_c 43 5 93 [.t 38, .t 42],
 p_s 44 (.ext (.t 43) 0), p_s 45 (.ext (.t 43) 1), ⟨none, none, 0, .act (.st 2 (.t 6) (.t 44))⟩, p_m 7 45]
 [[], [], [1], [1, 2], [1, 2, 3], [0, 1, 2, 3, 4], [0, 1, 2, 3, 4, 5], [0, 1, 2, 3, 4, 5], [0, 1, 2, 3, 4, 5, 6, 7], [0, 1, 2, 3, 4, 5, 6, 7, 8]])
 .ret))))
theorem apiaryref1_Near_triple : Fun P0 57 3 [(6, false, some (65, (some 2))), (7, false, none)] apiaryref1_Near_pc := fun_mk Go.Proofs.Tryz.func57 rfl (by decide) (by kernel_rfl) (by decide) rfl (by kernel_rfl) (by kernel_rfl) (by decide)
theorem rfloor_t (a b : Int) (ha : in64 a) (hb : in64 b) : Triple P0 114 [int .i64 a, int .i64 b] [] (.tup [int .i64 (if 0 < b then a / b else 0), int .i64 (if 0 < b then a % b else 0), bl (decide (0 < b))]) [] := by
 refine apiaryref1_Floor_triple rfl (by decide) ?_
 simp only [apiaryref1_Floor_pc, push_cast, ↓reduceIte, reduceCtorEq, zB, zE, zA, zS, zL, zD, zM]
 refine cnd_mk (fun h => ?_) (fun h => ?_)
 ·simp only [push_cast, ↓reduceIte, reduceCtorEq, zB, zE, zA, zS, zL, zD, zM]
  simp at h
  have : ¬ 0 < b := by omega
  simp [this]
 ·simp only [push_cast, ↓reduceIte, reduceCtorEq, zB, zE, zA, zS, zL, zD, zM]
  simp at h
  refine ⟨by omega, by omega, by kernel_rfl, ?_⟩
  obtain ⟨q1, q2, q3⟩ := floor_facts ha h
  have hw : IntKind.i64.wrap (a.tdiv b) = a.tdiv b := wrap_i64_tdiv a b ha.1 ha.2 (by omega)
  rw [hw]
  refine cnd_mk (fun h' => ?_) (fun h' => ?_)
  ·simp only [push_cast, ↓reduceIte, reduceCtorEq, zB, zE, zA, zS, zL, zD, zM]
   simp at h'
   obtain ⟨e1, e2⟩ := q2 h'
   refine tup3 (int_eq ?_) (int_eq ?_) (bl_eq ?_)
   ·rw [if_pos h, ← e1, wrap_id]
    unfold in64 at ha; rw [e1]; omega
   ·rw [if_pos h, ← e2, wrap_id]
    have h5 := zag a h
    have h6 := zah a (show b ≠ 0 by omega)
    rw [e2]
    unfold in64 at hb; omega
   ·simp [h]
  ·simp only [push_cast, ↓reduceIte, reduceCtorEq, zB, zE, zA, zS, zL, zD, zM]
   simp at h'
   obtain ⟨e1, e2⟩ := q3 h'
   refine tup3 (int_eq ?_) (int_eq ?_) (bl_eq ?_)
   ·rw [if_pos h, e1]
   ·rw [if_pos h, e2]
   ·simp [h]
theorem rtwo_t (a b : Int) (ha : in64 a) (hb : in64 b) : Triple P0 111 [wide a, wide b] [] (.tup [Ei.v ⟨a, b⟩, bl true]) [] := by
 refine apiaryref1_Two_triple rfl (by decide) ?_
 simp only [apiaryref1_Two_pc, wide, push_cast, ↓reduceIte, reduceCtorEq, zB, zE, zA, zS, zL, zD, zM]
 have ha' := ha
 have hb' := hb
 unfold in64 at ha' hb'
 refine call_as (as' := [wide a]) rfl ?_
 refine call_mk (small_t a (by omega)) rfl trivial ?_
 rw [sm_in ha]
 simp only [push_cast, ↓reduceIte, reduceCtorEq, zB, zE, zA, zS, zL, zD, zM]
 refine call_as (as' := [wide b]) rfl ?_
 refine call_mk (small_t b (by omega)) rfl trivial ?_
 rw [sm_in hb]
 simp only [Ei.v, Ei.rv, push_cast, ↓reduceIte, reduceCtorEq, zB, zE, zA, zS, zL, zD, zM]
theorem rmul_t (x y : Ei) (hx : x.In M63) (hy : y.In M63) (hz : (x.mul y).In M63) : Triple P0 92 [x.v, y.v] [] (.tup [(x.mul y).v, bl true]) [] := by
 refine apiaryref1_Mul_triple rfl (by decide) ?_
 simp only [apiaryref1_Mul_pc, Ei.v, Ei.rv, push_cast, ↓reduceIte, reduceCtorEq, zB, zE, zA, zS, zL, zD, zM]
 refine call_mk (times_t x.b y.b hx.ok.2 hy.ok.2) rfl trivial ?_
 simp only [wide, push_cast, ↓reduceIte, reduceCtorEq, zB, zE, zA, zS, zL, zD, zM]
 refine dcall_mk (times_t x.a y.a hx.ok.1 hy.ok.1) rfl trivial ?_
 simp only [wide, push_cast, ↓reduceIte, reduceCtorEq, zB, zE, zA, zS, zL, zD, zM]
 refine dcall_as (as' := [wide (x.b * y.b)]) rfl ?_
 refine dcall_mk (turned_t _) rfl trivial ?_
 simp only [wide, push_cast, ↓reduceIte, reduceCtorEq, zB, zE, zA, zS, zL, zD, zM]
 refine dcall_as (as' := [wide (x.a * y.a), wide (-(x.b * y.b))]) rfl ?_
 refine dcall_mk (plus_t _ _) rfl trivial ?_
 simp only [wide, push_cast, ↓reduceIte, reduceCtorEq, zB, zE, zA, zS, zL, zD, zM]
 refine dcall_mk (times_t x.a y.b hx.ok.1 hy.ok.2) rfl trivial ?_
 simp only [wide, push_cast, ↓reduceIte, reduceCtorEq, zB, zE, zA, zS, zL, zD, zM]
 refine dcall_mk (times_t x.b y.a hx.ok.2 hy.ok.1) rfl trivial ?_
 simp only [wide, push_cast, ↓reduceIte, reduceCtorEq, zB, zE, zA, zS, zL, zD, zM]
 refine dcall_as (as' := [wide (x.a * y.b), wide (x.b * y.a)]) rfl ?_
 refine dcall_mk (plus_t _ _) rfl trivial ?_
 simp only [wide, push_cast, ↓reduceIte, reduceCtorEq, zB, zE, zA, zS, zL, zD, zM]
 refine dcall_as (as' := [wide (x.a * y.b + x.b * y.a), wide (x.b * y.b)]) rfl ?_
 refine dcall_mk (plus_t _ _) rfl trivial ?_
 simp only [wide, push_cast, ↓reduceIte, reduceCtorEq, zB, zE, zA, zS, zL, zD, zM]
 refine dcall_as (as' := [wide (x.a * y.a + -(x.b * y.b)), wide (x.a * y.b + x.b * y.a + x.b * y.b)]) rfl ?_
 have e : x.a * y.a + -(x.b * y.b) = (x.mul y).a := by simp only [Ei.mul]; omega
 have e' : x.a * y.b + x.b * y.a + x.b * y.b = (x.mul y).b := rfl
 rw [e, e']
 refine dcall_mk (rtwo_t _ _ hz.ok.1 hz.ok.2) rfl trivial ?_
 simp only [Ei.v, Ei.rv, push_cast, ↓reduceIte, reduceCtorEq, zB, zE, zA, zS, zL, zD, zM]
 kernel_rfl
theorem rbeta_t (k : Int) (hk : 0 ≤ k ∧ k ≤ 12) : Triple P0 116 [int .i64 k] [] (.tup [(betaN k.toNat).v, bl true]) [] := by
 refine apiaryref1_Beta_triple rfl (by decide) ?_
 have c1 : decide (k < 0) = false := by simp; omega
 have c2 : decide (k > 20) = false := by simp; omega
 simp only [apiaryref1_Beta_pc, c1, c2, push_cast, ↓reduceIte, reduceCtorEq, zB, zE, zA, zS, zL, zD, zM]
 refine run_loop [(5, false), (0, false), (4, false), (2, false)] (fun vs pos los => ∃ i : Int, 0 ≤ i ∧ i ≤ k ∧ vs = [int .i64 i, int .i64 k, .ptr 2000000 0 0, .ptr 2000001 0 0] ∧ pos = [] ∧ los = [.box [int .i64 (betaN i.toNat).a, int .i64 (betaN i.toNat).b], .box [int .i64 0, int .i64 0]])
  (fun vs _ _ => match vs with | .r (.v (.int _ j)) :: _ => (k - j).toNat | _ => 0) rfl ?_ ?_
 ·simp only [push_cast, ↓reduceIte, reduceCtorEq, zB, zE, zA, zS, zL, zD, zM]
  exact ⟨0, by omega, by omega, rfl, rfl⟩
 ·rintro vs pos los ⟨i, i0, ik, rfl, rfl, rfl⟩
  simp only [push_cast, ↓reduceIte, reduceCtorEq, zB, zE, zA, zS, zL, zD, zM]
  refine cnd_mk (fun h => ?_) (fun h => ?_)
  ·simp only [decide_eq_true_eq] at h
   simp only [push_cast, ↓reduceIte, reduceCtorEq, zB, zE, zA, zS, zL, zD, zM]
   have h1 := betaN_in i.toNat (by omega)
   have h2 := betaN_in (i.toNat + 1) (by omega)
   refine call_as (as' := [(betaN i.toNat).v, beta.v]) rfl ?_
   refine call_mk (rmul_t _ _ (h1.mono (by decide)) (by unfold Ei.In; decide) (h2.mono (by decide))) rfl trivial ?_
   simp only [Ei.v, Ei.rv, push_cast, ↓reduceIte, reduceCtorEq, zB, zE, zA, zS, zL, zD, zM]
   rw [show IntKind.i64.wrap (i + 1) = i + 1 from wrap_id (by omega)]
   refine ⟨⟨i + 1, by omega, by omega, rfl, ?_⟩, by omega⟩
   rw [show (i + 1).toNat = i.toNat + 1 by omega]
   rfl
  ·simp only [decide_eq_false_iff_not] at h
   have : i = k := by omega
   subst this
   simp only [Ei.v, Ei.rv, push_cast, ↓reduceIte, reduceCtorEq, zB, zE, zA, zS, zL, zD, zM]
theorem rconj_t (k : Int) (hk : 0 ≤ k ∧ k ≤ 12) : Triple P0 96 [int .i64 k] [] ((betaN k.toNat).conj.v) [] := by
 refine apiaryref1_conj_triple rfl (by decide) ?_
 simp only [apiaryref1_conj_pc, push_cast, ↓reduceIte, reduceCtorEq, zB, zE, zA, zS, zL, zD, zM]
 refine call_mk (rbeta_t k hk) rfl trivial ?_
 have hb := betaN_in k.toNat (by omega)
 unfold Ei.In at hb
 simp only [Ei.v, Ei.rv, Ei.conj, push_cast, ↓reduceIte, reduceCtorEq, zB, zE, zA, zS, zL, zD, zM]
 rw [wrap_id (by omega), wrap_id (by omega), Int.zero_sub]
theorem rsize_t (n : Int) (h : in64 n) (h' : n ≠ -9223372036854775808) : Triple P0 135 [int .i64 n] [] (int .i64 n.natAbs) [] := by
 refine apiaryref1_size_triple rfl (by decide) ?_
 simp only [apiaryref1_size_pc, push_cast, ↓reduceIte, reduceCtorEq, zB, zE, zA, zS, zL, zD, zM]
 unfold in64 at h
 refine cnd_mk (fun hc => ?_) (fun hc => ?_)
 ·simp at hc
  simp only [push_cast, ↓reduceIte, reduceCtorEq, zB, zE, zA, zS, zL, zD, zM]
  rw [wrap_id (by omega)]
  rw [show 0 - n = (n.natAbs : Int) by omega]
 ·simp at hc
  simp only [push_cast, ↓reduceIte, reduceCtorEq, zB, zE, zA, zS, zL, zD, zM]
  rw [show n = (n.natAbs : Int) by omega]
  simp
theorem rholds_t (s t d : Int) (hs : -9007199254740992 ≤ s ∧ s ≤ 9007199254740992) (ht : -9007199254740992 ≤ t ∧ t ≤ 9007199254740992) : Triple P0 115 [int .i64 s, int .i64 t, int .i64 d] [] (bl (decide (holds d s t))) [] := by
 refine apiaryref1_holds_triple rfl (by decide) ?_
 simp only [apiaryref1_holds_pc, push_cast, ↓reduceIte, reduceCtorEq, zB, zE, zA, zS, zL, zD, zM]
 rw [show IntKind.i64.wrap (2 * s) = 2 * s from wrap_id (by omega), show IntKind.i64.wrap (2 * s + t) = 2 * s + t from wrap_id (by omega)]
 refine call_mk (rsize_t _ (by unfold in64; omega) (by omega)) rfl trivial ?_
 by_cases h1 : ((2 * s + t).natAbs : Int) ≤ d
 ·have g1 : decide (((2 * s + t).natAbs : Int) ≤ d) = true := decide_eq_true h1
  simp only [g1, push_cast, ↓reduceIte, reduceCtorEq, zB, zE, zA, zS, zL, zD, zM]
  rw [show IntKind.i64.wrap (2 * t) = 2 * t from wrap_id (by omega), show IntKind.i64.wrap (s + 2 * t) = s + 2 * t from wrap_id (by omega)]
  refine call_mk (rsize_t _ (by unfold in64; omega) (by omega)) rfl trivial ?_
  by_cases h2 : ((s + 2 * t).natAbs : Int) ≤ d
  ·have g2 : decide (((s + 2 * t).natAbs : Int) ≤ d) = true := decide_eq_true h2
   simp only [g2, push_cast, ↓reduceIte, reduceCtorEq, zB, zE, zA, zS, zL, zD, zM]
   rw [show IntKind.i64.wrap (s - t) = s - t from wrap_id (by omega)]
   refine call_mk (rsize_t _ (by unfold in64; omega) (by omega)) rfl trivial ?_
   simp only [push_cast, ↓reduceIte, reduceCtorEq, zB, zE, zA, zS, zL, zD, zM]
   refine bl_iff ?_
   simp only [decide_eq_true_eq]
   unfold holds
   omega
  ·have g2 : decide (((s + 2 * t).natAbs : Int) ≤ d) = false := decide_eq_false h2
   simp only [g2, push_cast, ↓reduceIte, reduceCtorEq, zB, zE, zA, zS, zL, zD, zM]
   rw [decide_eq_false (show ¬ holds d s t by unfold holds; omega)]
 ·have g1 : decide (((2 * s + t).natAbs : Int) ≤ d) = false := decide_eq_false h1
  simp only [g1, push_cast, ↓reduceIte, reduceCtorEq, zB, zE, zA, zS, zL, zD, zM]
  rw [decide_eq_false (show ¬ holds d s t by unfold holds; omega)]
theorem rround_t (u : Ei) (d : Int) (hu : u.In 1152921504606846976) (hd : 1 ≤ d ∧ d ≤ 1125899906842624) : Triple P0 93 [u.v, int .i64 d] [] (.tup [(u.round d).v, bl true]) [] := by
 refine apiaryref1_Round_triple rfl (by decide) ?_
 have hu' := hu
 unfold Ei.In at hu'
 have c1 : decide (d < 1) = false := by simp; omega
 have c2 : decide (d > 1125899906842624) = false := by simp; omega
 have c3 : decide (u.a < -1152921504606846976) = false := by simp; omega
 have c4 : decide (u.a > 1152921504606846976) = false := by simp; omega
 have c5 : decide (u.b < -1152921504606846976) = false := by simp; omega
 have c6 : decide (u.b > 1152921504606846976) = false := by simp; omega
 have ia : in64 u.a := by unfold in64; omega
 have ib : in64 u.b := by unfold in64; omega
 have ed : in64 d := by unfold in64; omega
 simp only [apiaryref1_Round_pc, Ei.v, Ei.rv, c1, c2, c3, c4, c5, c6, push_cast, ↓reduceIte, reduceCtorEq, zB, zE, zA, zS, zL, zD, zM]
 refine call_mk (rfloor_t _ _ ia ed) rfl trivial ?_
 have hd0 : 0 < d := by omega
 simp only [hd0, push_cast, ↓reduceIte, reduceCtorEq, zB, zE, zA, zS, zL, zD, zM]
 refine call_mk (rfloor_t _ _ ib ed) rfl trivial ?_
 simp only [hd0, push_cast, ↓reduceIte, reduceCtorEq, zB, zE, zA, zS, zL, zD, zM]
 have ha : 0 ≤ u.a % d ∧ u.a % d < d := ⟨zah _ (by omega), zag _ hd0⟩
 have hb : 0 ≤ u.b % d ∧ u.b % d < d := ⟨zah _ (by omega), zag _ hd0⟩
 have hqa : -1152921504606846976 ≤ u.a / d ∧ u.a / d ≤ 1152921504606846976 := div_in hu'.1 hd.1
 have hqb : -1152921504606846976 ≤ u.b / d ∧ u.b / d ≤ 1152921504606846976 := div_in hu'.2 hd.1
 have hround : u.round d = ⟨u.a / d + (near0 d (u.a % d) (u.b % d)).a, u.b / d + (near0 d (u.a % d) (u.b % d)).b⟩ := rfl
 generalize u.a % d = a at *
 generalize u.b % d = b at *
 generalize u.a / d = qa at *
 generalize u.b / d = qb at *
 have hmul : ∀ i : Int, -1 ≤ i → i ≤ 2 → -1125899906842624 ≤ i * d ∧ i * d ≤ 2251799813685248 := fun i h1 h2 => by
  rcases (show i = -1 ∨ i = 0 ∨ i = 1 ∨ i = 2 by omega) with rfl | rfl | rfl | rfl <;> omega
 refine run_loop [(12, false), (1, false), (6, false), (7, false), (9, false), (10, false), (4, false)] (fun vs pos los => ∃ i : Int, (-1 ≤ i ∧ i ≤ 3) ∧ (∀ i' k' : Int, -1 ≤ i' → i' < i → -1 ≤ k' → k' ≤ 2 → ¬ holds d (a - i' * d) (b - k' * d)) ∧ vs = [int .i64 i, int .i64 d, int .i64 qa, int .i64 a, int .i64 qb, int .i64 b, .ptr 2000000 0 0] ∧ pos = [] ∧ los = [.box [int .i64 0, int .i64 0]])
  (fun vs _ _ => match vs with | .r (.v (.int _ j)) :: _ => (3 - j).toNat | _ => 0) rfl ?_ ?_
 ·simp only [push_cast, ↓reduceIte, reduceCtorEq, zB, zE, zA, zS, zL, zD, zM]
  exact ⟨-1, by omega, fun i' k' h1 h2 => by omega, rfl⟩
 ·rintro vs pos los ⟨i, i3, hno, rfl, rfl, rfl⟩
  simp only [push_cast, ↓reduceIte, reduceCtorEq, zB, zE, zA, zS, zL, zD, zM]
  refine cnd_mk (fun h => ?_) (fun h => ?_)
  ·have hi : i ≤ 2 := by simpa using h
   have mi := hmul i i3.1 hi
   simp only [push_cast, ↓reduceIte, reduceCtorEq, zB, zE, zA, zS, zL, zD, zM]
   refine run_loop [(13, false), (12, false), (1, false), (6, false), (7, false), (9, false), (10, false), (4, false)] (fun vs pos los => ∃ k : Int, (-1 ≤ k ∧ k ≤ 3) ∧ (∀ k' : Int, -1 ≤ k' → k' < k → ¬ holds d (a - i * d) (b - k' * d)) ∧ vs = [int .i64 k, int .i64 i, int .i64 d, int .i64 qa, int .i64 a, int .i64 qb, int .i64 b, .ptr 2000000 0 0] ∧ pos = [] ∧ los = [.box [int .i64 0, int .i64 0]])
    (fun vs _ _ => match vs with | .r (.v (.int _ j)) :: _ => (3 - j).toNat | _ => 0) rfl ?_ ?_
   ·simp only [push_cast, ↓reduceIte, reduceCtorEq, zB, zE, zA, zS, zL, zD, zM]
    exact ⟨-1, by omega, fun k' h1 h2 => by omega, rfl⟩
   ·rintro vs pos los ⟨k, k3, hnk, rfl, rfl, rfl⟩
    simp only [push_cast, ↓reduceIte, reduceCtorEq, zB, zE, zA, zS, zL, zD, zM]
    refine cnd_mk (fun h => ?_) (fun h => ?_)
    ·have hk : k ≤ 2 := by simpa using h
     have mk := hmul k k3.1 hk
     simp only [push_cast, ↓reduceIte, reduceCtorEq, zB, zE, zA, zS, zL, zD, zM]
     rw [show IntKind.i64.wrap (i * d) = i * d from wrap_id (by omega), show IntKind.i64.wrap (k * d) = k * d from wrap_id (by omega), show IntKind.i64.wrap (a - i * d) = a - i * d from wrap_id (by omega), show IntKind.i64.wrap (b - k * d) = b - k * d from wrap_id (by omega)]
     refine call_mk (rholds_t _ _ d (by omega) (by omega)) rfl trivial ?_
     simp only [push_cast, ↓reduceIte, reduceCtorEq, zB, zE, zA, zS, zL, zD, zM]
     refine cnd_mk (fun h => ?_) (fun h => ?_)
     ·have hh : holds d (a - i * d) (b - k * d) := by simpa using h
      have hn := near0_first ha hb ⟨i3.1, hi⟩ ⟨k3.1, hk⟩ hh (fun k' h1 h2 => hnk k' h1 h2) (fun i' k' h1 h2 h3 h4 => hno i' k' h1 h2 h3 h4)
      rw [hn] at hround
      simp only [hround, Ei.v, Ei.rv, push_cast, ↓reduceIte, reduceCtorEq, zB, zE, zA, zS, zL, zD, zM]
      rw [wrap_id (by omega), wrap_id (by omega)]
     ·have hh : ¬ holds d (a - i * d) (b - k * d) := by simpa using h
      simp only [push_cast, ↓reduceIte, reduceCtorEq, zB, zE, zA, zS, zL, zD, zM]
      rw [wrap_id (by omega)]
      refine ⟨⟨k + 1, by omega, fun k' h1 h2 => ?_, rfl⟩, by omega⟩
      by_cases hkk : k' = k
      ·subst hkk; exact hh
      ·exact hnk k' h1 (by omega)
    ·have hk : k = 3 := by simp at h; omega
     subst hk
     simp only [push_cast, ↓reduceIte, reduceCtorEq, zB, zE, zA, zS, zL, zD, zM]
     rw [wrap_id (by omega)]
     refine ⟨⟨i + 1, by omega, fun i' k' h1 h2 h3 h4 => ?_, rfl⟩, by omega⟩
     by_cases hii : i' = i
     ·subst hii; exact hnk k' h3 (by omega)
     ·exact hno i' k' h1 (by omega) h3 h4
  ·have hi : i = 3 := by simp at h; omega
   subst hi
   exact (near0_ex ha hb hno).elim
theorem rworld_t (x y : Int) : Triple P0 95 [int .i64 x, int .i64 y] [] (bl (decide (inW x y))) [] := by
 refine apiaryref1_World_triple rfl (by decide) ?_
 simp only [apiaryref1_World_pc, push_cast, ↓reduceIte, reduceCtorEq, zB, zE, zA, zS, zL, zD, zM]
 repeat refine And.intro (by simp +contextual) ?_
 refine bl_iff ?_
 unfold inW
 by_cases h1 : 0 ≤ x <;> by_cases h2 : x < 1073741824 <;> by_cases h3 : 0 ≤ y <;> by_cases h4 : y < 1073741824 <;> simp [h1, h2, h3, h4]
theorem rnear_t (x y r : Int) (h : inW x y) (hr : 0 ≤ r ∧ r ≤ 12) : Triple P0 57 [int .i64 x, int .i64 y, int .i64 r] [] (.tup [(near x y r.toNat).v, bl true]) [] := by
 refine apiaryref1_Near_triple rfl (by decide) ?_
 have c1 : decide (r < 0) = false := by simp; omega
 have c2 : decide (r > 12) = false := by simp; omega
 simp only [apiaryref1_Near_pc, push_cast, ↓reduceIte, reduceCtorEq, zB, zE, zA, zS, zL, zD, zM]
 refine call_mk (rworld_t x y) rfl trivial ?_
 rw [decide_eq_true h]
 simp only [c1, c2, push_cast, ↓reduceIte, reduceCtorEq, zB, zE, zA, zS, zL, zD, zM]
 have hk : (12 - r).toNat = 12 - r.toNat := by omega
 have hk2 : (12 - r).toNat ≤ 12 := by omega
 have h' := h
 unfold inW at h'
 rw [show IntKind.i64.wrap (45 * x) = 45 * x from wrap_id (by omega), show IntKind.i64.wrap (26 * y) = 26 * y from wrap_id (by omega), show IntKind.i64.wrap (52 * y) = 52 * y from wrap_id (by omega), show IntKind.i64.wrap (45 * x - 26 * y) = 45 * x - 26 * y from wrap_id (by omega), show IntKind.i64.wrap (12 - r) = 12 - r from wrap_id (by omega)]
 refine call_mk (rconj_t (12 - r) (by omega)) rfl trivial ?_
 have hb := betaN_in (12 - r).toNat hk2
 have hm := axm_In h hk2
 simp only [Ei.v, Ei.rv, push_cast, ↓reduceIte, reduceCtorEq, zB, zE, zA, zS, zL, zD, zM]
 refine call_as (as' := [(ax x y).v, (betaN (12 - r).toNat).conj.v]) rfl ?_
 refine call_mk (rmul_t _ _ ((ax_In h).mono (by decide)) ((conj_In hb).mono (by decide)) (hm.mono (by decide))) rfl trivial ?_
 simp only [Ei.v, Ei.rv, push_cast, ↓reduceIte, reduceCtorEq, zB, zE, zA, zS, zL, zD, zM]
 rw [show IntKind.i64.wrap (12 - r) = 12 - r from wrap_id (by omega)]
 refine dcall_mk (seven_t (12 - r) (by omega) (by omega)) rfl trivial ?_
 simp only [push_cast, ↓reduceIte, reduceCtorEq, zB, zE, zA, zS, zL, zD, zM]
 have hp := p7 (12 - r).toNat hk2
 rw [show IntKind.i64.wrap (2340 * 7 ^ (12 - r).toNat) = 2340 * 7 ^ (12 - r).toNat from wrap_id (by omega)]
 refine dcall_as (as' := [((ax x y).mul (betaN (12 - r).toNat).conj).v, int .i64 (2340 * 7 ^ (12 - r).toNat)]) rfl ?_
 refine dcall_mk (rround_t _ _ (hm.mono (by decide)) (by omega)) rfl trivial ?_
 simp only [Ei.v, Ei.rv, near, hk, push_cast, ↓reduceIte, reduceCtorEq, zB, zE, zA, zS, zL, zD, zM]
 kernel_rfl

noncomputable def apiaryref1_Unit_pc : PC :=
  (.seq (.reg [p_a 2 (.new [(.r (.v (.int .i64 0))), (.r (.v (.int .i64 0)))])])
 (.seq (.reg [p_s 4 (.build [(.r (.v (.int .i64 0))), (.r (.v (.int .i64 0)))] [(0, 1, (o_i 1))]), p_s 5 (.build [(.r (.v (.int .i64 0))), (.r (.v (.int .i64 0)))] [(1, 1, (o_i 1))]),
 p_s 6 (.build [(.r (.v (.int .i64 0))), (.r (.v (.int .i64 0)))] [(0, 1, (o_i (-1))), (1, 1, (o_i 1))]), p_s 7 (.build [(.r (.v (.int .i64 0))), (.r (.v (.int .i64 0)))] [(0, 1, (o_i (-1)))]),
 p_s 8 (.build [(.r (.v (.int .i64 0))), (.r (.v (.int .i64 0)))] [(1, 1, (o_i (-1)))]), p_s 9 (.build [(.r (.v (.int .i64 0))), (.r (.v (.int .i64 0)))] [(0, 1, (o_i 1)), (1, 1, (o_i (-1)))]),
 p_s 10 (.build [(.r (.v (.int .i64 0))), (.r (.v (.int .i64 0))), (.r (.v (.int .i64 0))), (.r (.v (.int .i64 0))), (.r (.v (.int .i64 0))), (.r (.v (.int .i64 0))), (.r (.v (.int .i64 0))), (.r (.v (.int .i64 0))), (.r (.v (.int .i64 0))), (.r (.v (.int .i64 0))), (.r (.v (.int .i64 0))), (.r (.v (.int .i64 0)))] [(0, 2, (.t 4)), (2, 2, (.t 5)), (4, 2, (.t 6)), (6, 2, (.t 7)), (8, 2, (.t 8)), (10, 2, (.t 9))]),
 p_a 3 (.new [(.r (.v (.int .i64 0))), (.r (.v (.int .i64 0))), (.r (.v (.int .i64 0))), (.r (.v (.int .i64 0))), (.r (.v (.int .i64 0))), (.r (.v (.int .i64 0))), (.r (.v (.int .i64 0))), (.r (.v (.int .i64 0))), (.r (.v (.int .i64 0))), (.r (.v (.int .i64 0))), (.r (.v (.int .i64 0))), (.r (.v (.int .i64 0)))]),
 ⟨none, none, 0, .act (.st 12 (.t 3) (.t 10))⟩])
 (.seq (.reg [p_m 11 0, p_s 12 (.bin .rem (.t 11) (o_i 6)), p_s 13 (.bin .add (.t 12) (o_i 6)), p_s 14 (.bin .rem (.t 13) (o_i 6)), p_s 15 (.iaa 6 2 (.t 3) (.t 14)), p_s 16 (.ld (some 2) (.t 15)),
 ⟨none, none, 0, .act (.st 2 (.t 2) (.t 16))⟩])
 .ret)))
theorem apiaryref1_Unit_triple : Fun P0 94 1 [(2, false, some (65, (some 2)))] apiaryref1_Unit_pc := fun_mk Go.Proofs.Tryz.func94 rfl (by decide) (by kernel_rfl) (by decide) rfl (by kernel_rfl) (by kernel_rfl) (by decide)
noncomputable def apiaryref1_parent_pc : PC :=
  (.seq (.reg [p_a 1 (.box (.t 0)), p_a 2 (.new [(.r (.v (.int .i64 0))), (.r (.v (.int .i64 0)))]), p_s 3 (.mov (o_i 0))])
 (.seq (.reg [p_s 13 (.ld (some 2) (.t 1)), p_s 14 (.build [(.r (.v (.int .i64 0))), (.r (.v (.int .i64 0)))] [(0, 1, (o_i 3)), (1, 1, (o_i (-1)))]), p_c 15 1 92 [.t 13, .t 14],
 p_m 12 15, p_s 16 (.ext (.t 12) 0), p_s 17 (.ext (.t 12) 1), p_a 4 (.new [(.r (.v (.int .i64 0))), (.r (.v (.int .i64 0)))]), ⟨none, none, 0, .act (.st 2 (.t 4) (.t 16))⟩,
 p_m 5 17])
 (.seq (.reg [p_s 19 (.ld (some 2) (.t 4)), p_c 20 2 93 [(.t 19), (o_i 7)], p_m 18 20, p_s 21 (.ext (.t 18) 0), p_s 22 (.ext (.t 18) 1), p_a 6 (.new [(.r (.v (.int .i64 0))), (.r (.v (.int .i64 0)))]),
 ⟨none, none, 0, .act (.st 2 (.t 6) (.t 21))⟩, p_m 7 22])
 (.seq (.reg [p_s 24 (.ld (some 2) (.t 6)), p_s 25 (.build [(.r (.v (.int .i64 0))), (.r (.v (.int .i64 0)))] [(0, 1, (o_i 2)), (1, 1, (o_i 1))]), p_c 26 3 92 [.t 24, .t 25],
 p_m 23 26, p_s 27 (.ext (.t 23) 0), p_s 28 (.ext (.t 23) 1), p_a 8 (.new [(.r (.v (.int .i64 0))), (.r (.v (.int .i64 0)))]), ⟨none, none, 0, .act (.st 2 (.t 8) (.t 27))⟩,
 p_m 9 28])
 (.seq (.reg [p_s 29 (.fa 0 (.t 1)), p_s 30 (.ld none (.t 29)), p_s 31 (.fa 0 (.t 8)), p_s 32 (.ld none (.t 31)), p_s 33 (.bin .sub (.t 30) (.t 32)), p_s 34 (.fa 1 (.t 1)), p_s 35 (.ld none (.t 34)),
 p_s 36 (.fa 1 (.t 8)), p_s 37 (.ld none (.t 36)), p_s 38 (.bin .sub (.t 35) (.t 37)), p_s 39 (.build [(.r (.v (.int .i64 0))), (.r (.v (.int .i64 0)))] [(0, 1, (.t 33)), (1, 1, (.t 38))]),
 p_a 10 (.new [(.r (.v (.int .i64 0))), (.r (.v (.int .i64 0)))]), ⟨none, none, 0, .act (.st 2 (.t 10) (.t 39))⟩])
 (.seq (.seq (.reg [p_s 11 (.mov (o_i 0))])
 (.block 0 (.loop (.seq (.seq (.reg [p_m 40 11, p_s 41 (.bin .lss (.t 40) (o_i 6))])
 (.cond (.t 41)
 .skip
 (.exit 0)))
 (.seq (.block 1 (.seq (.drw [p_m 44 11, p_c 45 4 94 [.t 44], p_s 46 (.ld (some 2) (.t 10)), p_s 47 (.eqa false [0, 0] (.t 45) (.t 46))]
 [[], [0], [], [0, 1, 2]])
 (.cond (.t 47)
 (.seq (.reg [p_s 48 (.ld (some 2) (.t 6)), p_m 49 11, p_s 50 (.bin .add (.t 49) (o_i 1)), ⟨none, none, 0, .act (.st 2 (.t 2) (.t 48))⟩, p_m 3 50])
 .ret)
 .skip)))
 (.reg [p_m 42 11, p_s 43 (.bin .add (.t 42) (o_i 1)), p_m 11 43]))))))
 (.seq (.reg [p_s 51 (.ld (some 2) (.t 6)), ⟨none, none, 0, .act (.st 2 (.t 2) (.t 51))⟩, p_s 3 (.mov (o_i 0))])
 .ret)))))))
theorem apiaryref1_parent_triple : Fun P0 55 1 [(2, false, some (65, (some 2))), (3, false, none)] apiaryref1_parent_pc := fun_mk Go.Proofs.Tryz.func55 rfl (by decide) (by kernel_rfl) (by decide) rfl (by kernel_rfl) (by kernel_rfl) (by decide)
noncomputable def apiaryref1_Ok_pc : PC :=
  (.seq (.reg [p_a 1 (.box (.t 0)), p_s 2 (.mov (.c (.r (.v (.bool false)))))])
 (.seq (.seq (.reg [p_s 5 (.fa 0 (.t 1)), p_s 6 (.ld none (.t 5)), p_s 7 (.bin .lss (.t 6) (o_i 0)), p_m 8 7, p_g 9 8 false (.fa 0 (.t 1)), p_g 10 8 false (.ld none (.t 9)), p_g 11 8 false (.bin .gtr (.t 10) (o_i 12)),
 p_s 12 (.pick (.t 8) (.c (.r (.v (.bool true)))) (.t 11)), p_m 13 12, p_g 14 13 false (.fa 1 (.t 1)), p_g 15 13 false (.fa 0 (.t 14)), p_g 16 13 false (.ld none (.t 15)),
 p_g 17 13 false (.bin .lss (.t 16) (o_i (-1073741824))), p_s 18 (.pick (.t 13) (.c (.r (.v (.bool true)))) (.t 17)), p_m 19 18, p_g 20 19 false (.fa 1 (.t 1)), p_g 21 19 false (.fa 0 (.t 20)),
 p_g 22 19 false (.ld none (.t 21)), p_g 23 19 false (.bin .gtr (.t 22) (o_i 1073741824)), p_s 24 (.pick (.t 19) (.c (.r (.v (.bool true)))) (.t 23)), p_m 25 24,
 p_g 26 25 false (.fa 1 (.t 1)), p_g 27 25 false (.fa 1 (.t 26)), p_g 28 25 false (.ld none (.t 27)), p_g 29 25 false (.bin .lss (.t 28) (o_i (-1073741824))), p_s 30 (.pick (.t 25) (.c (.r (.v (.bool true)))) (.t 29)),
 p_m 31 30, p_g 32 31 false (.fa 1 (.t 1)), p_g 33 31 false (.fa 1 (.t 32)), p_g 34 31 false (.ld none (.t 33)), p_g 35 31 false (.bin .gtr (.t 34) (o_i 1073741824)),
 p_s 36 (.pick (.t 31) (.c (.r (.v (.bool true)))) (.t 35))])
 (.cond (.t 36)
 (.seq (.reg [p_s 2 (.mov (.c (.r (.v (.bool false)))))])
 .ret)
 .skip))
 (.seq (.reg [p_s 37 (.fa 1 (.t 1)), p_s 38 (.ld (some 2) (.t 37)), p_a 3 (.new [(.r (.v (.int .i64 0))), (.r (.v (.int .i64 0)))]), ⟨none, none, 0, .act (.st 2 (.t 3) (.t 38))⟩])
 (.seq (.seq (.reg [p_s 4 (.mov (o_i 0))])
 (.block 0 (.loop (.seq (.seq (.reg [p_m 39 4, p_s 40 (.fa 0 (.t 1)), p_s 41 (.ld none (.t 40)), p_s 42 (.bin .lss (.t 39) (.t 41))])
 (.cond (.t 42)
 .skip
 (.exit 0)))
 (.seq (.block 1 (.reg [p_s 46 (.ld (some 2) (.t 3)), p_c 47 1 55 [.t 46], p_m 45 47, p_s 48 (.ext (.t 45) 0), p_s 49 (.ext (.t 45) 1), ⟨none, none, 0, .act (.st 2 (.t 3) (.t 48))⟩]))
 (.reg [p_m 43 4, p_s 44 (.bin .add (.t 43) (o_i 1)), p_m 4 44]))))))
 (.seq (.reg [p_s 50 (.fa 0 (.t 3)), p_s 51 (.ld none (.t 50)), p_s 52 (.bin .geq (.t 51) (o_i (-512))), p_m 53 52, p_g 54 53 true (.fa 0 (.t 3)), p_g 55 53 true (.ld none (.t 54)),
 p_g 56 53 true (.bin .leq (.t 55) (o_i 511)), p_s 57 (.pick (.t 53) (.t 56) (.c (.r (.v (.bool false))))), p_m 58 57, p_g 59 58 true (.fa 1 (.t 3)), p_g 60 58 true (.ld none (.t 59)),
 p_g 61 58 true (.bin .geq (.t 60) (o_i (-512))), p_s 62 (.pick (.t 58) (.t 61) (.c (.r (.v (.bool false))))), p_m 63 62, p_g 64 63 true (.fa 1 (.t 3)), p_g 65 63 true (.ld none (.t 64)),
 p_g 66 63 true (.bin .leq (.t 65) (o_i 511)), p_s 67 (.pick (.t 63) (.t 66) (.c (.r (.v (.bool false))))), p_m 2 67])
 .ret)))))
theorem apiaryref1_Ok_triple : Fun P0 54 1 [(2, false, none)] apiaryref1_Ok_pc := fun_mk Go.Proofs.Tryz.func54 rfl (by decide) (by kernel_rfl) (by decide) rfl (by kernel_rfl) (by kernel_rfl) (by decide)
def vvB : List AV := [int .i64 1, int .i64 1, int .i64 (-1), int .i64 2, int .i64 (-2), int .i64 1, int .i64 (-1), int .i64 (-1), int .i64 1, int .i64 (-2), int .i64 2, int .i64 (-1)]
theorem runit_t (k : Int) (hk : 0 ≤ k ∧ k < 6) : Triple P0 94 [int .i64 k] [] ((uni k.toNat).v) [] := by
 refine apiaryref1_Unit_triple rfl (by decide) ?_
 have hm : (IntKind.i64.wrap (Int.tmod k 6 + 6)).tmod 6 = k := by
  rw [zap hk.1, wrap_id (by omega), zap (by omega)]; omega
 simp only [apiaryref1_Unit_pc, hm, Ei.v, Ei.rv, push_cast, ↓reduceIte, reduceCtorEq, zB, zE, zA, zS, zL, zD, zM]
 refine ⟨by decide, by decide, hk, by omega, ?_⟩
 rcases (show k = 0 ∨ k = 1 ∨ k = 2 ∨ k = 3 ∨ k = 4 ∨ k = 5 by omega) with rfl | rfl | rfl | rfl | rfl | rfl
 all_goals
  simp only [Int.reduceToNat, Nat.zero_mul, Nat.add_zero, Nat.zero_add, uni_0, uni_1, uni_2, uni_3, uni_4, uni_5, push_cast, ↓reduceIte, reduceCtorEq, zB, zE, zA, zS, zL, zD, zM]
theorem rparent_t (z : Ei) (h : z.In 1073741824) : Triple P0 55 [z.v] [] (.tup [(pr z).v, int .i64 (dg z)]) [] := by
 refine apiaryref1_parent_triple rfl (by decide) ?_
 simp only [apiaryref1_parent_pc, Ei.v, Ei.rv, push_cast, ↓reduceIte, reduceCtorEq, zB, zE, zA, zS, zL, zD, zM]
 have h1 : (z.mul ⟨3, -1⟩).In 9663676416 := (mul_In h (show (⟨3, -1⟩ : Ei).In 3 by unfold Ei.In; decide)).mono (by decide)
 have h2 : (pr z).In 1073741824 := pr_In h (by decide)
 have h3 : ((pr z).mul beta).In 6442450944 := (mul_In h2 (show beta.In 2 by unfold Ei.In; decide)).mono (by decide)
 have hl := lft_In z
 refine call_as (as' := [z.v, Ei.v ⟨3, -1⟩]) rfl ?_
 refine call_mk (rmul_t _ _ (h.mono (by decide)) (show (⟨3, -1⟩ : Ei).In _ by unfold Ei.In; decide) (h1.mono (by decide))) rfl trivial ?_
 simp only [Ei.v, Ei.rv, push_cast, ↓reduceIte, reduceCtorEq, zB, zE, zA, zS, zL, zD, zM]
 refine call_as (as' := [(z.mul ⟨3, -1⟩).v, int .i64 7]) rfl ?_
 refine call_mk (rround_t _ 7 (h1.mono (by decide)) (by decide)) rfl trivial ?_
 rw [show (z.mul ⟨3, -1⟩).round 7 = pr z from rfl]
 simp only [Ei.v, Ei.rv, push_cast, ↓reduceIte, reduceCtorEq, zB, zE, zA, zS, zL, zD, zM]
 refine call_as (as' := [(pr z).v, beta.v]) rfl ?_
 refine call_mk (rmul_t _ _ (h2.mono (by decide)) (show beta.In _ by unfold Ei.In; decide) (h3.mono (by decide))) rfl trivial ?_
 have e1 : z.a - ((pr z).mul beta).a = (lft z).a := rfl
 have e2 : z.b - ((pr z).mul beta).b = (lft z).b := rfl
 unfold Ei.In at hl
 rw [← e1, ← e2] at hl
 simp only [Ei.v, Ei.rv, push_cast, ↓reduceIte, reduceCtorEq, zB, zE, zA, zS, zL, zD, zM]
 rw [show IntKind.i64.wrap (z.a - ((pr z).mul beta).a) = (lft z).a by rw [← e1]; exact wrap_id (by omega), show IntKind.i64.wrap (z.b - ((pr z).mul beta).b) = (lft z).b by rw [← e2]; exact wrap_id (by omega)]
 rw [show dg z = dgOf (lft z) from rfl]
 generalize lft z = l at *
 generalize pr z = q at *
 refine run_loop [(11, false), (10, false), (6, false), (2, false)] (fun vs pos los => ∃ i : Int, (0 ≤ i ∧ i ≤ 6) ∧ (∀ j : Nat, (j : Int) < i → uni j ≠ l) ∧ vs = [int .i64 i, .ptr 2000000 0 0, .ptr 2000001 0 0, .ptr 2000002 0 0] ∧ pos = [] ∧ los = [.box [int .i64 l.a, int .i64 l.b], .box [int .i64 q.a, int .i64 q.b], .box [int .i64 0, int .i64 0]])
  (fun vs _ _ => match vs with | .r (.v (.int _ j)) :: _ => (6 - j).toNat | _ => 0) rfl ?_ ?_
 ·simp only [push_cast, ↓reduceIte, reduceCtorEq, zB, zE, zA, zS, zL, zD, zM]
  exact ⟨0, by omega, fun j hj => by omega, rfl⟩
 ·rintro vs pos los ⟨i, i6, hj, rfl, rfl, rfl⟩
  simp only [push_cast, ↓reduceIte, reduceCtorEq, zB, zE, zA, zS, zL, zD, zM]
  refine cnd_mk (fun h => ?_) (fun h => ?_)
  ·simp only [decide_eq_true_eq] at h
   simp only [push_cast, ↓reduceIte, reduceCtorEq, zB, zE, zA, zS, zL, zD, zM]
   refine dcall_mk (runit_t i ⟨i6.1, h⟩) rfl trivial ?_
   simp only [Ei.v, Ei.rv, push_cast, ↓reduceIte, reduceCtorEq, zB, zE, zA, zS, zL, zD, zM]
   refine ⟨by kernel_rfl, cnd_mk (fun h' => ?_) (fun h' => ?_)⟩
   ·have e : uni i.toNat = l := by
     simp only [Bool.and_eq_true, beq_iff_eq] at h'
     exact Ei.ext' h'.1 h'.2
    simp only [push_cast, ↓reduceIte, reduceCtorEq, zB, zE, zA, zS, zL, zD, zM]
    rw [← e, dgOf_uni _ (by omega), wrap_id (by omega), show ((i.toNat + 1 : Nat) : Int) = i + 1 by omega]
   ·have e : uni i.toNat ≠ l := fun e => by rw [e] at h'; simp at h'
    simp only [push_cast, ↓reduceIte, reduceCtorEq, zB, zE, zA, zS, zL, zD, zM]
    rw [wrap_id (by omega)]
    refine ⟨⟨i + 1, by omega, fun j hj' => ?_, rfl⟩, by omega⟩
    by_cases hji : (j : Int) = i
    ·rw [show j = i.toNat by omega]; exact e
    ·exact hj j (by omega)
  ·have hi : i = 6 := by simp at h; omega
   subst hi
   simp only [push_cast, ↓reduceIte, reduceCtorEq, zB, zE, zA, zS, zL, zD, zM]
   rw [dgOf_no l fun j h6 => hj j (by omega)]
   rfl
theorem rokc_t (r : Int) (z : Ei) (h0 : 0 ≤ r) (h : okc r.toNat z) : Triple P0 54 [cel r z] [] (bl true) [] := by
 refine apiaryref1_Ok_triple rfl (by decide) ?_
 obtain ⟨r12, hz, ha, hb⟩ := h
 have hz' := hz
 unfold Ei.In at hz'
 have c1 : decide (r < 0) = false := by simp; omega
 have c2 : decide (r > 12) = false := by simp; omega
 have c3 : decide (z.a < -1073741824) = false := by simp; omega
 have c4 : decide (z.a > 1073741824) = false := by simp; omega
 have c5 : decide (z.b < -1073741824) = false := by simp; omega
 have c6 : decide (z.b > 1073741824) = false := by simp; omega
 simp only [apiaryref1_Ok_pc, cel, c1, c2, c3, c4, c5, c6, push_cast, ↓reduceIte, reduceCtorEq, zB, zE, zA, zS, zL, zD, zM]
 refine run_loop [(4, false), (1, false), (3, false)] (fun vs pos los => ∃ i : Int, (0 ≤ i ∧ i ≤ r) ∧ vs = [int .i64 i, .ptr 2000000 0 0, .ptr 2000001 0 0] ∧ pos = [] ∧ los = [.box [int .i64 r, int .i64 z.a, int .i64 z.b], .box [int .i64 (anc i.toNat z).a, int .i64 (anc i.toNat z).b]])
  (fun vs _ _ => match vs with | .r (.v (.int _ j)) :: _ => (r - j).toNat | _ => 0) rfl ?_ ?_
 ·simp only [push_cast, ↓reduceIte, reduceCtorEq, zB, zE, zA, zS, zL, zD, zM]
  exact ⟨0, by omega, rfl, rfl⟩
 ·rintro vs pos los ⟨i, i6, rfl, rfl, rfl⟩
  simp only [push_cast, ↓reduceIte, reduceCtorEq, zB, zE, zA, zS, zL, zD, zM]
  refine cnd_mk (fun h => ?_) (fun h => ?_)
  ·simp only [decide_eq_true_eq] at h
   simp only [push_cast, ↓reduceIte, reduceCtorEq, zB, zE, zA, zS, zL, zD, zM]
   have hp := anc_In i.toNat hz (by decide)
   refine call_as (as' := [(anc i.toNat z).v]) rfl ?_
   refine call_mk (rparent_t _ hp) rfl trivial ?_
   simp only [Ei.v, Ei.rv, push_cast, ↓reduceIte, reduceCtorEq, zB, zE, zA, zS, zL, zD, zM]
   rw [show IntKind.i64.wrap (i + 1) = i + 1 from wrap_id (by omega)]
   refine ⟨⟨i + 1, by omega, rfl, ?_⟩, by omega⟩
   rw [show (i + 1).toNat = i.toNat + 1 by omega, anc_succ]
  ·have hi : i = r := by simp at h; omega
   subst hi
   simp only [ge_iff_le, ha.1, ha.2, hb.1, hb.2, push_cast, ↓reduceIte, reduceCtorEq, zB, zE, zA, zS, zL, zD, zM]

noncomputable def apiaryref1_Word_pc : PC :=
  (.seq (.reg [p_a 1 (.box (.t 0)), p_s 2 (.mov (.c (.r (.v (.int .u64 0))))), p_s 3 (.mov (o_i 0))])
 (.seq (.seq (.reg [p_s 10 (.ld (some 3) (.t 1)), p_c 11 1 54 [.t 10], p_s 12 (.un .not (.t 11))])
 (.cond (.t 12)
 (.seq (.reg [p_s 2 (.mov (.c (.r (.v (.int .u64 0))))), p_s 3 (.mov (o_i 2))])
 .ret)
 .skip))
 (.seq (.reg [p_s 13 (.fa 1 (.t 1)), p_s 14 (.ld (some 2) (.t 13)), p_a 4 (.new [(.r (.v (.int .i64 0))), (.r (.v (.int .i64 0)))]), ⟨none, none, 0, .act (.st 2 (.t 4) (.t 14))⟩])
 (.seq (.reg [p_s 5 (.mov (.c (.r (.v (.int .u64 68719476735)))))])
 (.seq (.seq (.reg [p_s 15 (.fa 0 (.t 1)), p_s 16 (.ld none (.t 15)), p_m 6 16])
 (.block 0 (.loop (.seq (.seq (.reg [p_m 17 6, p_s 18 (.bin .gtr (.t 17) (o_i 0))])
 (.cond (.t 18)
 .skip
 (.exit 0)))
 (.seq (.block 1 (.seq (.reg [p_s 22 (.ld (some 2) (.t 4)), p_c 23 2 55 [.t 22], p_m 21 23, p_s 24 (.ext (.t 21) 0), p_s 25 (.ext (.t 21) 1), p_a 7 (.new [(.r (.v (.int .i64 0))), (.r (.v (.int .i64 0)))]),
 ⟨none, none, 0, .act (.st 2 (.t 7) (.t 24))⟩, p_m 8 25])
 (.seq (.reg [p_m 26 6, p_s 27 (.bin .mul (o_i 3) (.t 26)), p_s 28 (.bin .sub (o_i 36) (.t 27)), p_m 9 28])
 (.seq (.drw [p_m 29 5, p_m 30 9, p_s 31 (.bin .shl (.c (.r (.v (.int .u64 7)))) (.t 30)), p_s 32 (.bin .andNot (.t 29) (.t 31)), p_m 33 8, p_s 34 (.conv .u64 (.t 33)), p_m 35 9,
 p_s 36 (.bin .shl (.t 34) (.t 35)), p_s 37 (.bin .or (.t 32) (.t 36)), p_m 5 37]
 [[], [], [1], [0, 1, 2], [], [4], [], [4, 5, 6], [0, 1, 2, 3, 4, 5, 6, 7], [0, 1, 2, 3, 4, 5, 6, 7, 8]])
 (.reg [p_s 38 (.ld (some 2) (.t 7)), ⟨none, none, 0, .act (.st 2 (.t 4) (.t 38))⟩])))))
 (.reg [p_m 19 6, p_s 20 (.bin .sub (.t 19) (o_i 1)), p_m 6 20]))))))
 (.seq (.reg [p_m 39 5, p_s 40 (.bin .or (.t 39) (.c (.r (.v (.int .u64 1152921504606846976))))), p_s 41 (.fa 0 (.t 1)), p_s 42 (.ld none (.t 41)), p_s 43 (.conv .u64 (.t 42)),
 p_s 44 (.bin .shl (.t 43) (.c (.r (.v (.int .u64 56))))), p_s 45 (.bin .or (.t 40) (.t 44)), p_s 46 (.fa 0 (.t 4)), p_s 47 (.ld none (.t 46)), p_s 48 (.bin .add (.t 47) (o_i 512)),
 p_s 49 (.conv .u64 (.t 48)), p_s 50 (.bin .shl (.t 49) (.c (.r (.v (.int .u64 46))))), p_s 51 (.bin .or (.t 45) (.t 50)), p_s 52 (.fa 1 (.t 4)), p_s 53 (.ld none (.t 52)),
 p_s 54 (.bin .add (.t 53) (o_i 512)), p_s 55 (.conv .u64 (.t 54)), p_s 56 (.bin .shl (.t 55) (.c (.r (.v (.int .u64 36))))), p_s 57 (.bin .or (.t 51) (.t 56)), p_m 2 57,
 p_s 3 (.mov (o_i 0))])
 .ret))))))
theorem apiaryref1_Word_triple : Fun P0 28 1 [(2, false, none), (3, false, none)] apiaryref1_Word_pc := fun_mk Go.Proofs.Tryz.func28 rfl (by decide) (by kernel_rfl) (by decide) rfl (by kernel_rfl) (by kernel_rfl) (by decide)
noncomputable def apiaryref1_Cell_pc : PC :=
  (.seq (.reg [p_a 2 (.new [(.r (.v (.int .i64 0))), (.r (.v (.int .i64 0))), (.r (.v (.int .i64 0)))]), p_s 3 (.mov (o_i 0))])
 (.seq (.reg [p_m 9 0, p_s 10 (.bin .shr (.t 9) (.c (.r (.v (.int .u64 56))))), p_s 11 (.bin .and (.t 10) (.c (.r (.v (.int .u64 15))))), p_s 12 (.conv .i64 (.t 11)), p_m 4 12])
 (.seq (.seq (.reg [p_m 13 0, p_s 14 (.bin .shr (.t 13) (.c (.r (.v (.int .u64 60))))), p_s 15 (.bin .neq (.t 14) (.c (.r (.v (.int .u64 1))))), p_m 16 15, p_g 17 16 false (.mov (.t 4)),
 p_g 18 16 false (.bin .gtr (.t 17) (o_i 12)), p_s 19 (.pick (.t 16) (.c (.r (.v (.bool true)))) (.t 18))])
 (.cond (.t 19)
 (.seq (.reg [p_s 20 (.build [(.r (.v (.int .i64 0))), (.r (.v (.int .i64 0))), (.r (.v (.int .i64 0)))] []), ⟨none, none, 0, .act (.st 3 (.t 2) (.t 20))⟩, p_s 3 (.mov (o_i 5))])
 .ret)
 .skip))
 (.seq (.reg [p_m 21 0, p_s 22 (.bin .shr (.t 21) (.c (.r (.v (.int .u64 46))))), p_s 23 (.bin .and (.t 22) (.c (.r (.v (.int .u64 1023))))), p_s 24 (.conv .i64 (.t 23)), p_s 25 (.bin .sub (.t 24) (o_i 512)),
 p_m 26 0, p_s 27 (.bin .shr (.t 26) (.c (.r (.v (.int .u64 36))))), p_s 28 (.bin .and (.t 27) (.c (.r (.v (.int .u64 1023))))), p_s 29 (.conv .i64 (.t 28)), p_s 30 (.bin .sub (.t 29) (o_i 512)),
 p_s 31 (.build [(.r (.v (.int .i64 0))), (.r (.v (.int .i64 0)))] [(0, 1, (.t 25)), (1, 1, (.t 30))]), p_a 5 (.new [(.r (.v (.int .i64 0))), (.r (.v (.int .i64 0)))]),
 ⟨none, none, 0, .act (.st 2 (.t 5) (.t 31))⟩])
 (.seq (.seq (.reg [p_s 6 (.mov (o_i 1))])
 (.block 0 (.loop (.seq (.seq (.reg [p_m 32 6, p_s 33 (.bin .leq (.t 32) (o_i 12))])
 (.cond (.t 33)
 .skip
 (.exit 0)))
 (.seq (.block 1 (.seq (.reg [p_m 36 0, p_m 37 6, p_s 38 (.bin .mul (o_i 3) (.t 37)), p_s 39 (.bin .sub (o_i 36) (.t 38)), p_s 40 (.bin .shr (.t 36) (.t 39)), p_s 41 (.bin .and (.t 40) (.c (.r (.v (.int .u64 7))))),
 p_s 42 (.conv .i64 (.t 41)), p_m 7 42])
 (.seq (.seq (.reg [p_m 43 6, p_m 44 4, p_s 45 (.bin .gtr (.t 43) (.t 44))])
 (.cond (.t 45)
 (.seq (.seq (.reg [p_m 46 7, p_s 47 (.bin .neq (.t 46) (o_i 7))])
 (.cond (.t 47)
 (.seq (.reg [p_s 48 (.build [(.r (.v (.int .i64 0))), (.r (.v (.int .i64 0))), (.r (.v (.int .i64 0)))] []), ⟨none, none, 0, .act (.st 3 (.t 2) (.t 48))⟩, p_s 3 (.mov (o_i 5))])
 .ret)
 .skip))
 (.exit 1))
 .skip))
 (.seq (.seq (.reg [p_m 49 7, p_s 50 (.bin .eql (.t 49) (o_i 7))])
 (.cond (.t 50)
 (.seq (.reg [p_s 51 (.build [(.r (.v (.int .i64 0))), (.r (.v (.int .i64 0))), (.r (.v (.int .i64 0)))] []), ⟨none, none, 0, .act (.st 3 (.t 2) (.t 51))⟩, p_s 3 (.mov (o_i 5))])
 .ret)
 .skip))
 (.seq (.reg [p_s 53 (.ld (some 2) (.t 5)), p_s 54 (.build [(.r (.v (.int .i64 0))), (.r (.v (.int .i64 0)))] [(0, 1, (o_i 2)), (1, 1, (o_i 1))]), p_c 55 1 92 [.t 53, .t 54],
 p_m 52 55, p_s 56 (.ext (.t 52) 0), p_s 57 (.ext (.t 52) 1), ⟨none, none, 0, .act (.st 2 (.t 5) (.t 56))⟩])
 (.seq (.reg [p_m 58 7, p_s 59 (.bin .gtr (.t 58) (o_i 0))])
 (.cond (.t 59)
 (.seq (.reg [p_m 60 7, p_s 61 (.bin .sub (.t 60) (o_i 1)), p_c 62 2 94 [.t 61], p_a 8 (.new [(.r (.v (.int .i64 0))), (.r (.v (.int .i64 0)))]), ⟨none, none, 0, .act (.st 2 (.t 8) (.t 62))⟩])
 (.reg [p_s 63 (.fa 0 (.t 5)), p_s 64 (.ld none (.t 63)), p_s 65 (.fa 0 (.t 8)), p_s 66 (.ld none (.t 65)), p_s 67 (.bin .add (.t 64) (.t 66)), p_s 68 (.fa 1 (.t 5)), p_s 69 (.ld none (.t 68)),
 p_s 70 (.fa 1 (.t 8)), p_s 71 (.ld none (.t 70)), p_s 72 (.bin .add (.t 69) (.t 71)), p_s 73 (.build [(.r (.v (.int .i64 0))), (.r (.v (.int .i64 0)))] [(0, 1, (.t 67)), (1, 1, (.t 72))]),
 ⟨none, none, 0, .act (.st 2 (.t 5) (.t 73))⟩]))
 .skip)))))))
 (.reg [p_m 34 6, p_s 35 (.bin .add (.t 34) (o_i 1)), p_m 6 35]))))))
 (.seq (.reg [p_m 74 4, p_s 75 (.ld (some 2) (.t 5)), p_s 76 (.build [(.r (.v (.int .i64 0))), (.r (.v (.int .i64 0))), (.r (.v (.int .i64 0)))] [(0, 1, (.t 74)), (1, 2, (.t 75))]),
 ⟨none, none, 0, .act (.st 3 (.t 2) (.t 76))⟩, p_s 3 (.mov (o_i 0))])
 .ret))))))
theorem apiaryref1_Cell_triple : Fun P0 61 1 [(2, false, some (67, (some 3))), (3, false, none)] apiaryref1_Cell_pc := fun_mk Go.Proofs.Tryz.func61 rfl (by decide) (by kernel_rfl) (by decide) rfl (by kernel_rfl) (by kernel_rfl) (by decide)
theorem un64 {a : Nat} (h : a < 18446744073709551616) : IntKind.u64.wrap (a : Int) = a := by rw [IntKind.wrap_u64]; omega
theorem ofI (a : Nat) (h : a < 18446744073709551616) : (zaa IntKind.u64.bits (a : Int)).toNat = a := by
 rw [show IntKind.u64.bits = 64 from rfl, BitVec.toNat_ofInt]
 omega
theorem or_u {a b : Nat} (ha : a < 18446744073709551616) (hb : b < 18446744073709551616) : IntKind.u64.wrap (zaa IntKind.u64.bits (a : Int) ||| zaa IntKind.u64.bits (b : Int)).toNat = ((a ||| b : Nat) : Int) := by
 rw [BitVec.toNat_or, ofI a ha, ofI b hb]
 exact un64 (zav (n := 64) ha hb)
theorem not_toNat (x : BitVec 64) : (~~~ x).toNat = 2 ^ 64 - 1 - x.toNat := BitVec.toNat_not
theorem andnot_u {a b : Nat} (ha : a < 18446744073709551616) (hb : b < 18446744073709551616) : IntKind.u64.wrap (zaa IntKind.u64.bits (a : Int) &&& ~~~ zaa IntKind.u64.bits (b : Int)).toNat = ((a &&& (2 ^ 64 - 1 - b) : Nat) : Int) := by
 rw [BitVec.toNat_and, ofI a ha, show (~~~ zaa IntKind.u64.bits (b : Int)).toNat = 2 ^ 64 - 1 - (zaa IntKind.u64.bits (b : Int)).toNat from not_toNat _, ofI b hb]
 exact un64 (zaw Nat.and_le_left ha)
theorem and_u {a n : Nat} (m : Int) (hm : m = 2 ^ n - 1) (hn : n ≤ 62) (ha : a < 18446744073709551616) : IntKind.u64.wrap (zaa IntKind.u64.bits (a : Int) &&& zaa IntKind.u64.bits m).toNat = ((a % 2 ^ n : Nat) : Int) := by
 have h1 : 2 ^ n ≤ 2 ^ 62 := zac (by decide) hn
 have h2 := Nat.two_pow_pos n
 have h3 : ((2 ^ n : Nat) : Int) = (2 : Int) ^ n := by simp
 have h4 : m = ((2 ^ n - 1 : Nat) : Int) := by rw [hm, ← h3]; omega
 rw [h4, BitVec.toNat_and, ofI a ha, ofI _ (by omega), Nat.and_two_pow_sub_one_eq_mod]
 exact un64 (zaw (Nat.mod_le _ _) ha)
theorem shl_u {a k : Nat} {s : Int} (hs : s.toNat = k) (hk : k ≤ 63) (h : a * 2 ^ k < 18446744073709551616) : IntKind.u64.wrap ((a : Int) * 2 ^ min s.toNat IntKind.u64.bits) = ((a * 2 ^ k : Nat) : Int) := by
 rw [hs, show min k IntKind.u64.bits = k from Nat.min_eq_left (by simp [IntKind.bits]; omega), show (a : Int) * 2 ^ k = ((a * 2 ^ k : Nat) : Int) by simp]
 exact un64 h
def uw (n : Nat) : AV := int .u64 n
theorem rword_t (r : Int) (z : Ei) (h0 : 0 ≤ r) (h_ : okc r.toNat z) : Triple P0 28 [cel r z] [] (.tup [uw (word r.toNat z), int .i64 0]) [] := by
 refine apiaryref1_Word_triple rfl (by decide) ?_
 have h' := h_
 obtain ⟨r12, hz, ha, hb⟩ := h'
 simp only [apiaryref1_Word_pc, cel, push_cast, ↓reduceIte, reduceCtorEq, zB, zE, zA, zS, zL, zD, zM]
 refine call_as (as' := [cel r z]) rfl ?_
 refine call_mk (rokc_t r z h0 h_) rfl trivial ?_
 simp only [push_cast, ↓reduceIte, reduceCtorEq, zB, zE, zA, zS, zL, zD, zM]
 have hw0 := wordI_r r.toNat z (by omega)
 refine run_loop [(6, false), (1, false), (4, false), (5, false)] (fun vs pos los => ∃ i : Int, (0 ≤ i ∧ i ≤ r) ∧ vs = [int .i64 i, .ptr 2000000 0 0, .ptr 2000001 0 0, int .u64 (wordI r.toNat z i.toNat)] ∧ pos = [] ∧ los = [.box [int .i64 r, int .i64 z.a, int .i64 z.b], .box [int .i64 (anc (r - i).toNat z).a, int .i64 (anc (r - i).toNat z).b]])
  (fun vs _ _ => match vs with | .r (.v (.int _ j)) :: _ => j.toNat | _ => 0) rfl ?_ ?_
 ·simp only [push_cast, ↓reduceIte, reduceCtorEq, zB, zE, zA, zS, zL, zD, zM]
  refine ⟨r, by omega, ?_⟩
  rw [hw0, Int.sub_self]
  exact ⟨rfl, rfl⟩
 ·rintro vs pos los ⟨i, i6, rfl, rfl, rfl⟩
  simp only [push_cast, ↓reduceIte, reduceCtorEq, zB, zE, zA, zS, zL, zD, zM]
  refine cnd_mk (fun h => ?_) (fun h => ?_)
  ·simp only [decide_eq_true_eq] at h
   have hp := anc_In (r - i).toNat hz (by decide)
   simp only [push_cast, ↓reduceIte, reduceCtorEq, zB, zE, zA, zS, zL, zD, zM]
   refine call_as (as' := [(anc (r - i).toNat z).v]) rfl ?_
   refine call_mk (rparent_t _ hp) rfl trivial ?_
   simp only [Ei.v, Ei.rv, push_cast, ↓reduceIte, reduceCtorEq, zB, zE, zA, zS, zL, zD, zM]
   rw [show IntKind.i64.wrap (3 * i) = 3 * i from wrap_id (by omega), show IntKind.i64.wrap (36 - 3 * i) = 36 - 3 * i from wrap_id (by omega), show IntKind.i64.wrap (i - 1) = i - 1 from wrap_id (by omega)]
   have hl := wordI_lt r.toNat z i.toNat (by omega) r12
   have hst := wordI_step r.toNat z i.toNat (by omega) (by omega) r12
   have hd := dg_lt (anc (r - i).toNat z)
   have hat : (36 - 3 * i).toNat = 36 - 3 * i.toNat := by omega
   have hp2 : 2 ^ (36 - 3 * i.toNat) ≤ 2 ^ 33 := zac (by decide) (by omega)
   have hd2 : dg (anc (r - i).toNat z) * 2 ^ (36 - 3 * i.toNat) ≤ 6 * 2 ^ (36 - 3 * i.toNat) := Nat.mul_le_mul_right _ (by omega)
   rw [un64 (show dg (anc (r - i).toNat z) < 18446744073709551616 by omega), show (7 : Int) = ((7 : Nat) : Int) from rfl, shl_u hat (by omega) (by omega), shl_u hat (by omega) (by omega), andnot_u (by omega) (by omega), or_u (zaw Nat.and_le_left (by omega)) (by omega)]
   rw [show (r - i).toNat = r.toNat - i.toNat by omega] at *
   rw [hst]
   refine ⟨by omega, by omega, by kernel_rfl, ⟨i - 1, by omega, ?_, ?_⟩, by omega⟩
   ·rw [show (i - 1).toNat = i.toNat - 1 by omega]
   ·rw [show (r - (i - 1)).toNat = r.toNat - i.toNat + 1 by omega, anc_succ]
  ·have hi : i = 0 := by simp at h; omega
   subst hi
   simp only [push_cast, ↓reduceIte, reduceCtorEq, zB, zE, zA, zS, zL, zD, zM]
   refine ⟨by decide, by decide, by decide, ?_⟩
   have hl := wordI_lt r.toNat z 0 (by omega) r12
   rw [show (r - 0).toNat = r.toNat by omega]
   obtain ⟨A, hA⟩ : ∃ A : Nat, (anc r.toNat z).a + 512 = A := ⟨((anc r.toNat z).a + 512).toNat, by omega⟩
   obtain ⟨B, hB⟩ : ∃ B : Nat, (anc r.toNat z).b + 512 = B := ⟨((anc r.toNat z).b + 512).toNat, by omega⟩
   have ho := word_or r.toNat z r12 A B (by omega) (by omega) hA hB
   have hwl := word_lt r.toNat z h_
   obtain ⟨R, rfl⟩ : ∃ R : Nat, r = R := ⟨r.toNat, by omega⟩
   rw [Int.toNat_natCast] at *
   rw [hA, hB, show IntKind.i64.wrap (A : Int) = A from wrap_id (by omega), show IntKind.i64.wrap (B : Int) = B from wrap_id (by omega), un64 (show A < 18446744073709551616 by omega), un64 (show B < 18446744073709551616 by omega), un64 (show R < 18446744073709551616 by omega)]
   rw [shl_u (k := 56) rfl (by decide) (by omega), shl_u (k := 46) rfl (by decide) (by omega), shl_u (k := 36) rfl (by decide) (by omega), show (1152921504606846976 : Int) = ((1152921504606846976 : Nat) : Int) from rfl, Int.toNat_zero]
   have l1 : wordI R z 0 ||| 1152921504606846976 < 18446744073709551616 := zav (n := 64) (by omega) (by omega)
   have l2 : wordI R z 0 ||| 1152921504606846976 ||| R * 2 ^ 56 < 18446744073709551616 := zav (n := 64) l1 (by omega)
   have l3 : wordI R z 0 ||| 1152921504606846976 ||| R * 2 ^ 56 ||| A * 2 ^ 46 < 18446744073709551616 := zav (n := 64) l2 (by omega)
   rw [or_u (by omega) (by omega), or_u l1 (by omega), or_u l2 (by omega), or_u l3 (by omega), ho]
   rfl
def isWB (w : Nat) : Bool := decide (w / 1152921504606846976 = 1) && decide (resW w ≤ 12) && (List.range 13).all fun i => decide (i = 0) || (decide (dgt w i = 7) == decide (resW w < i))
theorem isWB_iff (w : Nat) : isWB w = true ↔ isW w := by
 simp only [isWB, isW, Bool.and_eq_true, decide_eq_true_eq, List.all_eq_true, List.mem_range, Bool.or_eq_true, beq_iff_eq, decide_eq_decide]
 constructor
 ·rintro ⟨⟨h1, h2⟩, h3⟩
  refine ⟨h1, h2, fun i i1 i2 => ?_⟩
  rcases h3 i (by omega) with h | h
  ·omega
  ·exact h
 ·rintro ⟨h1, h2, h3⟩
  refine ⟨⟨h1, h2⟩, fun i hi => ?_⟩
  by_cases h0 : i = 0
  ·exact .inl h0
  ·exact .inr (h3 i (by omega) (by omega))
theorem isWB_word {r : Nat} {z : Ei} (h : okc r z) : isWB (word r z) = true := (isWB_iff _).2 (word_isW r z h).1
theorem isWB_no {w : Nat} (h : ¬ isW w) : isWB w = false := by
 cases hb : isWB w with
 | false => rfl
 | true => exact absurd ((isWB_iff w).1 hb) h
theorem shru {a k : Nat} {s : Int} (hs : s.toNat = k) (hk : k ≤ 63) : (a : Int).fdiv (2 ^ min s.toNat IntKind.u64.bits) = ((a / 2 ^ k : Nat) : Int) := by
 rw [hs, show min k IntKind.u64.bits = k from Nat.min_eq_left (by simp [IntKind.bits]; omega)]
 rw [zax _ (by have := Int.pow_pos (n := 2) (m := k) (by decide); omega)]
 simp
theorem shr_and {a k n : Nat} {s m : Int} (hs : s.toNat = k) (hk : k ≤ 63) (hm : m = 2 ^ n - 1) (hn : n ≤ 62) (ha : a < 18446744073709551616) :
  IntKind.u64.wrap (zaa IntKind.u64.bits ((a : Int).fdiv (2 ^ min s.toNat IntKind.u64.bits)) &&& zaa IntKind.u64.bits m).toNat = ((a / 2 ^ k % 2 ^ n : Nat) : Int) := by
 rw [shru hs hk, and_u m hm hn (zaw (Nat.div_le_self _ _) ha)]
theorem down_In (w : Nat) (i : Nat) (hi : i ≤ 12) : (down w i).In 1000000000000 := by
 have h : ∀ i : Nat, ∀ n : Int, (down w i).In n → 1 ≤ n → (down w (i + 1)).In (5 * n) := fun i n hn h1 => by
  have hd : ∀ d, (uni d).In 1 := fun d => by unfold uni; split <;> unfold Ei.In <;> decide
  have hu := hd (dgt w (i + 1) - 1)
  unfold Ei.In at hn hu ⊢
  rw [down, child]
  split <;> simp only [Ei.mul, beta, Ei.add] <;> omega
 have h0 : (down w 0).In 512 := by
  unfold Ei.In down baseW
  dsimp only
  omega
 have h1 := h 0 _ h0 (by decide)
 have h2 := h 1 _ h1 (by decide)
 have h3 := h 2 _ h2 (by decide)
 have h4 := h 3 _ h3 (by decide)
 have h5 := h 4 _ h4 (by decide)
 have h6 := h 5 _ h5 (by decide)
 have h7 := h 6 _ h6 (by decide)
 have h8 := h 7 _ h7 (by decide)
 have h9 := h 8 _ h8 (by decide)
 have h10 := h 9 _ h9 (by decide)
 have h11 := h 10 _ h10 (by decide)
 have h12 := h 11 _ h11 (by decide)
 rcases (show i = 0 ∨ i = 1 ∨ i = 2 ∨ i = 3 ∨ i = 4 ∨ i = 5 ∨ i = 6 ∨ i = 7 ∨ i = 8 ∨ i = 9 ∨ i = 10 ∨ i = 11 ∨ i = 12 by omega) with rfl | rfl | rfl | rfl | rfl | rfl | rfl | rfl | rfl | rfl | rfl | rfl | rfl
 ·exact h0.mono (by decide)
 ·exact h1.mono (by decide)
 ·exact h2.mono (by decide)
 ·exact h3.mono (by decide)
 ·exact h4.mono (by decide)
 ·exact h5.mono (by decide)
 ·exact h6.mono (by decide)
 ·exact h7.mono (by decide)
 ·exact h8.mono (by decide)
 ·exact h9.mono (by decide)
 ·exact h10.mono (by decide)
 ·exact h11.mono (by decide)
 ·exact h12.mono (by decide)
theorem rcell_t (w : Nat) (hw : w < 18446744073709551616) : Triple P0 61 [uw w] [] (.tup (if isWB w then [cel (resW w) (down w (resW w)), int .i64 0] else [cel 0 ⟨0, 0⟩, int .i64 5])) [] := by
 refine apiaryref1_Cell_triple rfl (by decide) ?_
 simp only [apiaryref1_Cell_pc, cel, uw, push_cast, ↓reduceIte, reduceCtorEq, zB, zE, zA, zS, zL, zD, zM]
 have e1 : (w : Int).fdiv (2 ^ min (zae 60) IntKind.u64.bits) = ((w / 1152921504606846976 : Nat) : Int) := shru (k := 60) rfl (by decide)
 have e2 : IntKind.i64.wrap (IntKind.u64.wrap (zaa IntKind.u64.bits ((w : Int).fdiv (2 ^ min (zae 56) IntKind.u64.bits)) &&& zaa IntKind.u64.bits 15).toNat) = (resW w : Int) := by
  rw [shr_and (k := 56) (n := 4) rfl (by decide) (by decide) (by decide) hw]
  exact wrap_id (by omega)
 have e3 : IntKind.i64.wrap (IntKind.i64.wrap (IntKind.u64.wrap (zaa IntKind.u64.bits ((w : Int).fdiv (2 ^ min (zae 46) IntKind.u64.bits)) &&& zaa IntKind.u64.bits 1023).toNat) - 512) = (down w 0).a := by
  rw [shr_and (k := 46) (n := 10) rfl (by decide) (by decide) (by decide) hw, show ∀ x : Nat, x < 1024 → IntKind.i64.wrap (IntKind.i64.wrap (x : Int) - 512) = x - 512 from fun x hx => by rw [wrap_id (x := (x : Int)) (by omega), wrap_id (by omega)]]
  ·rfl
  ·omega
 have e4 : IntKind.i64.wrap (IntKind.i64.wrap (IntKind.u64.wrap (zaa IntKind.u64.bits ((w : Int).fdiv (2 ^ min (zae 36) IntKind.u64.bits)) &&& zaa IntKind.u64.bits 1023).toNat) - 512) = (down w 0).b := by
  rw [shr_and (k := 36) (n := 10) rfl (by decide) (by decide) (by decide) hw, show ∀ x : Nat, x < 1024 → IntKind.i64.wrap (IntKind.i64.wrap (x : Int) - 512) = x - 512 from fun x hx => by rw [wrap_id (x := (x : Int)) (by omega), wrap_id (by omega)]]
  ·rfl
  ·omega
 rw [e1, e2]
 obtain ⟨T, hT⟩ : ∃ T : Int, ((w / 1152921504606846976 : Nat) : Int) = T := ⟨_, rfl⟩
 obtain ⟨R, hR⟩ : ∃ R : Int, (resW w : Int) = R := ⟨_, rfl⟩
 have hR16 : resW w < 16 := by unfold resW; omega
 rw [hT, hR]
 refine ⟨by decide, by decide, fun h => by simp [h], ?_⟩
 refine cnd_mk (fun h => ?_) (fun h => ?_)
 ·have hno : isWB w = false := isWB_no fun hh => by
   obtain ⟨w1, w2, _⟩ := hh
   have : ¬ R > 12 := by omega
   have hT1 : T = 1 := by omega
   rw [hT1] at h
   simp [this] at h
  rw [hno]
  simp only [push_cast, ↓reduceIte, reduceCtorEq, zB, zE, zA, zS, zL, zD, zM]
 ·have hT1 : T = 1 := by
   by_cases hc : T = 1
   ·exact hc
   ·have : (T != 1) = true := by simp [hc]
    rw [this] at h
    cases h
  rw [hT1] at h
  have hR12 : R ≤ 12 := by simpa using h
  simp only [push_cast, ↓reduceIte, reduceCtorEq, zB, zE, zA, zS, zL, zD, zM]
  rw [e3, e4]
  refine ⟨by decide, by decide, ?_⟩
  refine run_loop [(6, false), (0, false), (4, false), (5, false), (2, false)] (fun vs pos los => ∃ i : Nat, (1 ≤ i ∧ i ≤ 13) ∧ (∀ j, 1 ≤ j → j < i → (dgt w j = 7 ↔ resW w < j)) ∧ vs = [int .i64 i, int .u64 w, int .i64 R, .ptr 2000000 0 0, .ptr 2000001 0 0] ∧ pos = [] ∧ los = [.box [int .i64 (down w (min (i - 1) (resW w))).a, int .i64 (down w (min (i - 1) (resW w))).b], .box [int .i64 0, int .i64 0, int .i64 0]])
   (fun vs _ _ => match vs with | .r (.v (.int _ j)) :: _ => (13 - j).toNat | _ => 0) rfl ?_ ?_
  ·simp only [push_cast, ↓reduceIte, reduceCtorEq, zB, zE, zA, zS, zL, zD, zM]
   refine ⟨1, by omega, fun j h1 h2 => by omega, rfl, ?_⟩
   rw [show min (1 - 1) (resW w) = 0 by omega]
  ·rintro vs pos los ⟨i, i6, hj, rfl, rfl, rfl⟩
   simp only [push_cast, ↓reduceIte, reduceCtorEq, zB, zE, zA, zS, zL, zD, zM]
   refine cnd_mk (fun hi => ?_) (fun hi => ?_)
   ·have hi : i ≤ 12 := by simp at hi; omega
    have e5 : IntKind.i64.wrap (IntKind.u64.wrap (zaa IntKind.u64.bits ((w : Int).fdiv (2 ^ min (36 - 3 * (i : Int)).toNat IntKind.u64.bits)) &&& zaa IntKind.u64.bits 7).toNat) = (dgt w i : Int) := by
     rw [shr_and (k := 36 - 3 * i) (n := 3) (by omega) (by omega) (by decide) (by decide) hw]
     rw [show 2 ^ (36 - 3 * i) = 8 ^ (12 - i) by rw [show (8 : Nat) = 2 ^ 3 from rfl, ← Nat.pow_mul]; congr 1; omega]
     have : w / 8 ^ (12 - i) % 2 ^ 3 = dgt w i := rfl
     rw [this]
     have : dgt w i < 8 := Nat.mod_lt _ (by decide)
     exact wrap_id (by omega)
    have hD8 : dgt w i < 8 := Nat.mod_lt _ (by decide)
    simp only [push_cast, ↓reduceIte, reduceCtorEq, zB, zE, zA, zS, zL, zD, zM]
    rw [show IntKind.i64.wrap (3 * (i : Int)) = 3 * i from wrap_id (by omega), show IntKind.i64.wrap (36 - 3 * (i : Int)) = 36 - 3 * i from wrap_id (by omega), e5]
    obtain ⟨D, hD⟩ : ∃ D : Int, (dgt w i : Int) = D := ⟨_, rfl⟩
    rw [hD]
    refine ⟨by omega, ?_⟩
    refine cnd_mk (fun hc => ?_) (fun hc => ?_)
    ·have hc' : resW w < i := by simp at hc; omega
     simp only [push_cast, ↓reduceIte, reduceCtorEq, zB, zE, zA, zS, zL, zD, zM]
     refine cnd_mk (fun hd => ?_) (fun hd => ?_)
     ·have hno : isWB w = false := isWB_no fun hh => by
       have := (hh.2.2 i i6.1 hi).2 hc'
       have : D = 7 := by omega
       rw [this] at hd
       cases hd
      rw [hno]
      simp only [push_cast, ↓reduceIte, reduceCtorEq, zB, zE, zA, zS, zL, zD, zM]
     ·have hd7 : D = 7 := by simpa using hd
      simp only [push_cast, ↓reduceIte, reduceCtorEq, zB, zE, zA, zS, zL, zD, zM]
      rw [show IntKind.i64.wrap ((i : Int) + 1) = ((i + 1 : Nat) : Int) by rw [wrap_id (by omega)]; omega]
      refine ⟨⟨i + 1, by omega, fun j h1 h2 => ?_, rfl, ?_⟩, by omega⟩
      ·by_cases hji : j = i
       ·subst hji
        constructor
        ·intro _; exact hc'
        ·intro _; omega
       ·exact hj j h1 (by omega)
      ·rw [show min (i + 1 - 1) (resW w) = min (i - 1) (resW w) by omega]
    ·have hc' : i ≤ resW w := by simp at hc; omega
     simp only [push_cast, ↓reduceIte, reduceCtorEq, zB, zE, zA, zS, zL, zD, zM]
     refine cnd_mk (fun hd => ?_) (fun hd => ?_)
     ·have hno : isWB w = false := isWB_no fun hh => by
       have hd7 : D = 7 := by simpa using hd
       have := (hh.2.2 i i6.1 hi).1 (by omega)
       omega
      rw [hno]
      simp only [push_cast, ↓reduceIte, reduceCtorEq, zB, zE, zA, zS, zL, zD, zM]
     ·have hd7 : D ≠ 7 := by simpa using hd
      have hz := down_In w (i - 1) (by omega)
      have hz2 := down_In w i hi
      have hzm : ((down w (i - 1)).mul beta).In 10000000000000 := (mul_In hz (show beta.In 2 by unfold Ei.In; decide)).mono (by decide)
      have hdn : down w i = child (down w (i - 1)) (dgt w i) := by
       conv => lhs; rw [show i = i - 1 + 1 by omega]
       rw [down, show i - 1 + 1 = i by omega]
      rw [show min (i - 1) (resW w) = i - 1 by omega]
      simp only [push_cast, ↓reduceIte, reduceCtorEq, zB, zE, zA, zS, zL, zD, zM]
      refine call_as (as' := [(down w (i - 1)).v, beta.v]) rfl ?_
      refine call_mk (rmul_t _ _ (hz.mono (by decide)) (show beta.In _ by unfold Ei.In; decide) (hzm.mono (by decide))) rfl trivial ?_
      simp only [Ei.v, Ei.rv, push_cast, ↓reduceIte, reduceCtorEq, zB, zE, zA, zS, zL, zD, zM]
      have hnew : ∀ j, 1 ≤ j → j < i + 1 → (dgt w j = 7 ↔ resW w < j) := fun j h1 h2 => by
       by_cases hji : j = i
       ·subst hji
        constructor
        ·intro h; omega
        ·intro h; omega
       ·exact hj j h1 (by omega)
      refine cnd_mk (fun hp => ?_) (fun hp => ?_)
      ·have hp' : 0 < D := by simpa using hp
       simp only [push_cast, ↓reduceIte, reduceCtorEq, zB, zE, zA, zS, zL, zD, zM]
       rw [show IntKind.i64.wrap (D - 1) = D - 1 from wrap_id (by omega)]
       refine call_mk (runit_t (D - 1) (by omega)) rfl trivial ?_
       simp only [Ei.v, Ei.rv, push_cast, ↓reduceIte, reduceCtorEq, zB, zE, zA, zS, zL, zD, zM]
       rw [show IntKind.i64.wrap ((i : Int) + 1) = ((i + 1 : Nat) : Int) by rw [wrap_id (by omega)]; omega]
       rw [show (D - 1).toNat = dgt w i - 1 by omega]
       have hch : child (down w (i - 1)) (dgt w i) = ((down w (i - 1)).mul beta).add (uni (dgt w i - 1)) := by
        unfold child
        rw [if_neg (by omega)]
       rw [hch] at hdn
       have ea : ((down w (i - 1)).mul beta).a + (uni (dgt w i - 1)).a = (down w i).a := by rw [hdn]; rfl
       have eb : ((down w (i - 1)).mul beta).b + (uni (dgt w i - 1)).b = (down w i).b := by rw [hdn]; rfl
       unfold Ei.In at hz2
       rw [ea, eb, wrap_id (by omega), wrap_id (by omega)]
       refine ⟨⟨i + 1, by omega, hnew, rfl, ?_⟩, by omega⟩
       rw [show min (i + 1 - 1) (resW w) = i by omega]
      ·have hp' : D = 0 := by simp at hp; omega
       simp only [push_cast, ↓reduceIte, reduceCtorEq, zB, zE, zA, zS, zL, zD, zM]
       rw [show IntKind.i64.wrap ((i : Int) + 1) = ((i + 1 : Nat) : Int) by rw [wrap_id (by omega)]; omega]
       have hch : child (down w (i - 1)) (dgt w i) = (down w (i - 1)).mul beta := by
        unfold child
        rw [if_pos (by omega)]
       rw [hch] at hdn
       refine ⟨⟨i + 1, by omega, hnew, rfl, ?_⟩, by omega⟩
       rw [show min (i + 1 - 1) (resW w) = i by omega, hdn]
   ·have hi : i = 13 := by simp at hi; omega
    subst hi
    have hyes : isWB w = true := (isWB_iff w).2 ⟨by omega, by omega, fun j h1 h2 => hj j h1 (by omega)⟩
    rw [hyes]
    simp only [push_cast, ↓reduceIte, reduceCtorEq, zB, zE, zA, zS, zL, zD, zM]
    rw [show min (13 - 1) (resW w) = resW w by omega]

def wordOf (x y : Int) (r : Nat) : Nat := word r (near x y r)
def wordU (w i : Nat) : Nat := w / 8 ^ (13 - i) * 8 ^ (13 - i)

end Go.Ev
