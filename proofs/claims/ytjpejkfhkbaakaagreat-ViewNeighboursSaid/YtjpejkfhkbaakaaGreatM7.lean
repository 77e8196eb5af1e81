import Derived.Test.YtjpejkfhkbaakaaGreatM6
open Nat renaming reduceBEq → zB, reduceEqDiff → zE, reduceAdd → zA, reduceSub → zS, reduceLT → zL, reduceLeDiff → zD, reduceMul → zM
open Go.Proofs.Tryz renaming prog → P0
open BitVec renaming ofInt → zaa
open Int renaming reduceToNat → zab, toNat_zero → zaf, add_mul → zag, mul_le_mul_of_nonneg_right → zah, mul_nonneg → zak, emod_lt_of_pos → zal, emod_nonneg → zam, toNat_natCast → zan, tmod_eq_emod_of_nonneg → zao, natAbs_ediv_le_natAbs → zau
open Nat renaming pow_le_pow_right → zac, zero_add → zad, pow_add → zae, or_comm → zai, or_assoc → zaj, min_eq_left → zap, testBit_two_pow_mul_add → zar, or_lt_two_pow → zas, lt_of_le_of_lt → zat, testBit_lt_two_pow → zav
open List renaming mem_range → zaq, filter_eq_nil_iff → zaw
namespace Go.Ev
set_option maxRecDepth 100000
open Go
set_option linter.unusedSectionVars false
set_option linter.unnecessarySimpa false
set_option linter.unusedSimpArgs false
set_option linter.unusedVariables false
theorem or_high {a b k : Nat} (h : a < 2 ^ k) : a ||| b * 2 ^ k = b * 2 ^ k + a := by
 rw [zai, ← Nat.shiftLeft_eq, Nat.shiftLeft_add_eq_or_of_lt h]
theorem p8 (n : Nat) : 0 < 8 ^ n := Nat.pow_pos (by decide)
theorem dig_put {a b d k : Nat} (hb : b < 2 ^ k) (hd : d < 8) (hk : k + 3 ≤ 64) (ha : (a * 8 + 7) * 2 ^ k + b < 2 ^ 64) :
  (((a * 8 + 7) * 2 ^ k + b) &&& (2 ^ 64 - 1 - 7 * 2 ^ k)) ||| d * 2 ^ k = (a * 8 + d) * 2 ^ k + b := by
 have h7 : ∀ j, Nat.testBit 7 j = decide (j < 3) := fun j => by
  rcases (show j = 0 ∨ j = 1 ∨ j = 2 ∨ 3 ≤ j by omega) with rfl | rfl | rfl | hj
  ·rfl
  ·rfl
  ·rfl
  ·rw [zav (Nat.lt_of_lt_of_le (by decide : 7 < 2 ^ 3) (zac (by decide) hj))]; simp; omega
 have hd3 : ∀ j, 3 ≤ j → Nat.testBit d j = false := fun j hj => zav (Nat.lt_of_lt_of_le (by omega : d < 2 ^ 3) (zac (by decide) hj))
 have hs : 7 * 2 ^ k < 2 ^ 64 := by
  have : 2 ^ (k + 3) ≤ 2 ^ 64 := zac (by decide) hk
  rw [zae] at this
  have := Nat.two_pow_pos k
  omega
 apply Nat.eq_of_testBit_eq
 intro j
 rw [Nat.testBit_or, Nat.testBit_and, show 2 ^ 64 - 1 - 7 * 2 ^ k = 2 ^ 64 - (7 * 2 ^ k + 1) by omega, Nat.testBit_two_pow_sub_succ hs]
 rw [Nat.mul_comm _ (2 ^ k), Nat.mul_comm 7, Nat.mul_comm d, Nat.mul_comm (a * 8 + d)]
 rw [zar _ hb, zar _ hb, Nat.testBit_two_pow_mul, Nat.testBit_two_pow_mul]
 by_cases hj : j < k
 ·simp [hj, Nat.not_le.2 hj]
  intro hx
  omega
 ·rw [if_neg hj, if_neg hj]
  have hkj : k ≤ j := by omega
  simp only [hkj, ge_iff_le, decide_true, Bool.true_and]
  rw [show a * 8 + 7 = 2 ^ 3 * a + 7 by omega, show a * 8 + d = 2 ^ 3 * a + d by omega, zar a (show 7 < 2 ^ 3 by decide), zar a (show d < 2 ^ 3 from hd), h7]
  by_cases h3 : j - k < 3
  ·simp [h3]
  ·rw [hd3 _ (by omega)]
   simp only [h3, if_false, decide_false, Bool.not_false, Bool.and_true, Bool.or_false]
   by_cases h64 : j < 64
   ·simp [h64]
   ·simp only [h64, decide_false, Bool.and_false]
    apply Eq.symm
    apply zav
    have e : (a * 8 + 7) * 2 ^ k + b < 2 ^ j := Nat.lt_of_lt_of_le ha (zac (by decide) (by omega))
    have e2 : 2 ^ j = 2 ^ (j - k - 3) * 8 * 2 ^ k := by rw [show (8 : Nat) = 2 ^ 3 from rfl, ← zae, ← zae]; congr 1; omega
    rw [e2] at e
    have : (a * 8 + 7) * 2 ^ k < 2 ^ (j - k - 3) * 8 * 2 ^ k := by omega
    have := Nat.lt_of_mul_lt_mul_right this
    omega
def wordI (r : Nat) (z : Ei) (i : Nat) : Nat := ((8 ^ i - 1) * 8 ^ (r - i) + val (r - i) z) * 8 ^ (12 - r) + (8 ^ (12 - r) - 1)
theorem wordI_r (r : Nat) (z : Ei) (hr : r ≤ 12) : wordI r z r = 68719476735 := by
 unfold wordI
 rw [Nat.sub_self, val, Nat.pow_zero, Nat.mul_one, Nat.add_zero, Nat.sub_mul, ← zae, show r + (12 - r) = 12 by omega, Nat.one_mul]
 have : 8 ^ (12 - r) ≤ 8 ^ 12 := zac (by decide) (by omega)
 have := p8 (12 - r)
 omega
theorem val_snoc (k : Nat) (z : Ei) : val (k + 1) z = dg (anc k z) * 8 ^ k + val k z := by
 induction k generalizing z with
 | zero => simp [val, anc]
 | succ k ih =>
  rw [val, ih (pr z), val, anc, Nat.pow_succ]
  generalize dg (anc k (pr z)) = e
  generalize 8 ^ k = p
  generalize val k (pr z) = q
  rw [Nat.add_mul, Nat.mul_assoc]
  omega
theorem wordI_low (r : Nat) (z : Ei) (i : Nat) (hi : i ≤ r) (hr : r ≤ 12) : val (r - i) z * 8 ^ (12 - r) + (8 ^ (12 - r) - 1) < 2 ^ (36 - 3 * i) := by
 have h1 := val_lt (r - i) z
 have e : 2 ^ (36 - 3 * i) = 8 ^ (r - i) * 8 ^ (12 - r) := by
  rw [← zae, show (8 : Nat) = 2 ^ 3 from rfl, ← Nat.pow_mul]; congr 1; omega
 rw [e]
 have hp := p8 (12 - r)
 generalize 8 ^ (12 - r) = p at *
 generalize val (r - i) z = v at *
 have h2 : (v + 1) * p ≤ 8 ^ (r - i) * p := Nat.mul_le_mul_right _ h1
 rw [Nat.add_mul] at h2
 omega
theorem wordI_eq (r : Nat) (z : Ei) (i : Nat) (hi : i ≤ r) (hr : r ≤ 12) : wordI r z i = (8 ^ i - 1) * 2 ^ (36 - 3 * i) + (val (r - i) z * 8 ^ (12 - r) + (8 ^ (12 - r) - 1)) := by
 have e : 2 ^ (36 - 3 * i) = 8 ^ (r - i) * 8 ^ (12 - r) := by
  rw [← zae, show (8 : Nat) = 2 ^ 3 from rfl, ← Nat.pow_mul]; congr 1; omega
 unfold wordI
 rw [e, Nat.add_mul, Nat.mul_assoc, Nat.add_assoc]
theorem wordI_lt (r : Nat) (z : Ei) (i : Nat) (hi : i ≤ r) (hr : r ≤ 12) : wordI r z i < 68719476736 := by
 rw [wordI_eq r z i hi hr]
 have h := wordI_low r z i hi hr
 have e : (8 : Nat) ^ i * 2 ^ (36 - 3 * i) = 68719476736 := by
  rw [show (8 : Nat) = 2 ^ 3 from rfl, ← Nat.pow_mul, ← zae, show 3 * i + (36 - 3 * i) = 36 by omega]
 rw [Nat.sub_mul, e, Nat.one_mul]
 have := Nat.two_pow_pos (36 - 3 * i)
 have : 2 ^ (36 - 3 * i) ≤ 2 ^ 36 := zac (by decide) (by omega)
 omega
theorem wordI_step (r : Nat) (z : Ei) (i : Nat) (h1 : 1 ≤ i) (hi : i ≤ r) (hr : r ≤ 12) :
  ((wordI r z i &&& (2 ^ 64 - 1 - 7 * 2 ^ (36 - 3 * i))) ||| dg (anc (r - i) z) * 2 ^ (36 - 3 * i)) = wordI r z (i - 1) := by
 have hl := wordI_lt r z i hi hr
 have hlow := wordI_low r z i hi hr
 have hd := dg_lt (anc (r - i) z)
 have e8 : (8 : Nat) ^ i - 1 = (8 ^ (i - 1) - 1) * 8 + 7 := by
  have : (8 : Nat) ^ i = 8 ^ (i - 1) * 8 := by conv => lhs; rw [show i = i - 1 + 1 by omega, Nat.pow_succ]
  have := p8 (i - 1)
  omega
 have e0 := wordI_eq r z i hi hr
 rw [e8] at e0
 rw [e0] at hl ⊢
 rw [dig_put hlow (by omega) (by omega) (by omega), wordI_eq r z (i - 1) (by omega) hr, show r - (i - 1) = r - i + 1 by omega, val_snoc]
 have e9 : 2 ^ (36 - 3 * (i - 1)) = 8 * 2 ^ (36 - 3 * i) := by rw [show (8 : Nat) = 2 ^ 3 from rfl, ← zae]; congr 1; omega
 have e10 : 8 ^ (r - i) * 8 ^ (12 - r) = 2 ^ (36 - 3 * i) := by
  rw [← zae, show (8 : Nat) = 2 ^ 3 from rfl, ← Nat.pow_mul]; congr 1; omega
 rw [e9, ← e10]
 generalize 8 ^ (i - 1) - 1 = A
 generalize 8 ^ (r - i) = B
 generalize 8 ^ (12 - r) = C
 generalize dg (anc (r - i) z) = D
 generalize val (r - i) z = V
 simp only [Nat.add_mul, Nat.mul_assoc]
 omega
theorem word_or (r : Nat) (z : Ei) (hr : r ≤ 12) (A B : Nat) (hA : A < 1024) (hB : B < 1024) (hA' : (anc r z).a + 512 = A) (hB' : (anc r z).b + 512 = B) :
  ((((wordI r z 0 ||| 1152921504606846976) ||| r * 2 ^ 56) ||| A * 2 ^ 46) ||| B * 2 ^ 36) = word r z := by
 have hl := wordI_lt r z 0 (by omega) hr
 have e : word r z = hd36 r (anc r z) * 2 ^ 36 + wordI r z 0 := by
  unfold word wordI
  rw [Nat.add_mul, Nat.mul_assoc, ← zae, show r + (12 - r) = 12 by omega]
  simp
  omega
 rw [e]
 generalize wordI r z 0 = w at *
 rw [zaj, zaj, zaj, zai, zaj, zaj, zaj]
 rw [zai (B * 2 ^ 36), or_high (show w < 2 ^ 36 from hl), zai (A * 2 ^ 46), or_high (show B * 2 ^ 36 + w < 2 ^ 46 by omega), zai (r * 2 ^ 56), or_high (show A * 2 ^ 46 + (B * 2 ^ 36 + w) < 2 ^ 56 by omega),
  show (1152921504606846976 : Nat) = 1 * 2 ^ 60 from rfl, zai (1 * 2 ^ 60), or_high (show r * 2 ^ 56 + (A * 2 ^ 46 + (B * 2 ^ 36 + w)) < 2 ^ 60 by omega)]
 unfold hd36
 omega

noncomputable def plane_Width_pc : PC :=
  (.seq (.reg [p_s 2 (.mov (o_i 0)), p_s 3 (.mov (.c (.r (.v (.bool false)))))])
 (.seq (.seq (.reg [p_m 6 0, p_c 7 1 74 [.t 6], p_s 8 (.un .not (.t 7))])
 (.cond (.t 8)
 (.seq (.reg [p_s 2 (.mov (o_i 0)), p_s 3 (.mov (.c (.r (.v (.bool false)))))])
 .ret)
 .skip))
 (.seq (.reg [p_m 10 0, p_s 11 (.bin .sub (o_i 12) (.t 10)), p_c 12 2 75 [(o_i 7), (.t 11)], p_m 9 12, p_s 13 (.ext (.t 9) 0), p_s 14 (.ext (.t 9) 1), p_m 4 13, p_m 5 14])
 (.seq (.reg [p_m 15 4, p_s 16 (.bin .mul (o_i 169) (.t 15)), p_m 2 16, p_s 3 (.mov (.c (.r (.v (.bool true)))))])
 .ret))))
theorem plane_Width_triple : Fun P0 38 1 [(2, false, none), (3, false, none)] plane_Width_pc := fun_mk Go.Proofs.Tryz.func38 rfl (by decide) (by kernel_rfl) (by decide) rfl (by kernel_rfl) (by kernel_rfl) (by decide)
noncomputable def apiaryref1_Seven_pc : PC :=
  (.seq (.reg [p_s 2 (.mov (o_i 0))])
 (.seq (.reg [p_m 6 0, p_c 7 1 78 [(o_i 7), (.t 6)], p_m 5 7, p_s 8 (.ext (.t 5) 0), p_s 9 (.ext (.t 5) 1), p_m 3 8, p_m 4 9])
 (.seq (.reg [p_m 10 3, p_m 2 10])
 .ret)))
theorem apiaryref1_Seven_triple : Fun P0 43 1 [(2, false, none)] apiaryref1_Seven_pc := fun_mk Go.Proofs.Tryz.func43 rfl (by decide) (by kernel_rfl) (by decide) rfl (by kernel_rfl) (by kernel_rfl) (by decide)
noncomputable def apiaryref9_shift_pc : PC :=
  (.seq (.reg [p_s 2 (.mov (o_i 0))])
 (.seq (.reg [p_m 3 0, p_s 4 (.bin .shl (o_i 1) (.t 3)), p_m 2 4])
 .ret))
theorem apiaryref9_shift_triple : Fun P0 44 1 [(2, false, none)] apiaryref9_shift_pc := fun_mk Go.Proofs.Tryz.func44 rfl (by decide) (by kernel_rfl) (by decide) rfl (by kernel_rfl) (by kernel_rfl) (by decide)
noncomputable def apiaryref9_tile_pc : PC :=
  (.seq (.reg [p_a 1 (.box (.t 0)), p_s 2 (.mov (.c (.r (.v (.bool false)))))])
 (.seq (.drw [p_s 3 (.fa 0 (.t 1)), p_s 4 (.ld none (.t 3)), p_s 5 (.bin .geq (.t 4) (o_i 0)), p_m 6 5, p_g 7 6 true (.fa 0 (.t 1)), p_g 8 6 true (.ld none (.t 7)), p_g 9 6 true (.bin .leq (.t 8) (o_i 18)),
 p_s 10 (.pick (.t 6) (.t 9) (.c (.r (.v (.bool false))))), p_m 11 10, p_g 12 11 true (.fa 1 (.t 1)), p_g 13 11 true (.ld none (.t 12)), p_g 14 11 true (.bin .geq (.t 13) (o_i 0)),
 p_s 15 (.pick (.t 11) (.t 14) (.c (.r (.v (.bool false))))), p_m 16 15, p_g 17 16 true (.fa 1 (.t 1)), p_g 18 16 true (.ld none (.t 17)), p_g 19 16 true (.fa 0 (.t 1)),
 p_g 20 16 true (.ld none (.t 19)), ⟨(some 21), (some (16, true)), 1, .call 44 [(.t 20)]⟩, p_g 22 16 true (.bin .lss (.t 18) (.t 21)), p_s 23 (.pick (.t 16) (.t 22) (.c (.r (.v (.bool false))))),
 p_m 24 23, p_g 25 24 true (.fa 2 (.t 1)), p_g 26 24 true (.ld none (.t 25)), p_g 27 24 true (.bin .geq (.t 26) (o_i 0)), p_s 28 (.pick (.t 24) (.t 27) (.c (.r (.v (.bool false))))),
 p_m 29 28, p_g 30 29 true (.fa 2 (.t 1)), p_g 31 29 true (.ld none (.t 30)), p_g 32 29 true (.fa 0 (.t 1)), p_g 33 29 true (.ld none (.t 32)), ⟨(some 34), (some (29, true)), 2, .call 44 [(.t 33)]⟩,
 p_g 35 29 true (.bin .lss (.t 31) (.t 34)), p_s 36 (.pick (.t 29) (.t 35) (.c (.r (.v (.bool false))))), p_m 37 36, p_g 38 37 true (.fa 3 (.t 1)), p_g 39 37 true (.ld none (.t 38)),
 p_g 40 37 true (.bin .geq (.t 39) (o_i 0)), p_s 41 (.pick (.t 37) (.t 40) (.c (.r (.v (.bool false))))), p_m 42 41, p_g 43 42 true (.fa 3 (.t 1)), p_g 44 42 true (.ld none (.t 43)),
 p_g 45 42 true (.bin .leq (.t 44) (o_i 12)), p_s 46 (.pick (.t 42) (.t 45) (.c (.r (.v (.bool false))))), p_m 2 46]
 [[], [0], [0, 1], [0, 1, 2], [0, 1, 2, 3], [0, 1, 2, 3, 4], [0, 1, 2, 3, 4, 5], [0, 1, 2, 3, 4, 5, 6], [0, 1, 2, 3, 4, 5, 6, 7], [0, 1, 2, 3, 4, 5, 6, 7, 8], [0, 1, 2, 3, 4, 5, 6, 7, 8, 9], [0, 1, 2, 3, 4, 5, 6, 7, 8, 9, 10], [0, 1, 2, 3, 4, 5, 6, 7, 8, 9, 10, 11], [0, 1, 2, 3, 4, 5, 6, 7, 8, 9, 10, 11, 12], [0, 1, 2, 3, 4, 5, 6, 7, 8, 9, 10, 11, 12, 13], [0, 1, 2, 3, 4, 5, 6, 7, 8, 9, 10, 11, 12, 13, 14], [0, 1, 2, 3, 4, 5, 6, 7, 8, 9, 10, 11, 12, 13], [0, 1, 2, 3, 4, 5, 6, 7, 8, 9, 10, 11, 12, 13, 16], [0, 1, 2, 3, 4, 5, 6, 7, 8, 9, 10, 11, 12, 13, 16, 17], [0, 1, 2, 3, 4, 5, 6, 7, 8, 9, 10, 11, 12, 13, 14, 15, 16, 17, 18], [0, 1, 2, 3, 4, 5, 6, 7, 8, 9, 10, 11, 12, 13, 14, 15, 16, 17, 18, 19], [0, 1, 2, 3, 4, 5, 6, 7, 8, 9, 10, 11, 12, 13, 14, 15, 16, 17, 18, 19, 20], [0, 1, 2, 3, 4, 5, 6, 7, 8, 9, 10, 11, 12, 13, 14, 15, 16, 17, 18, 19, 20, 21], [0, 1, 2, 3, 4, 5, 6, 7, 8, 9, 10, 11, 12, 13, 14, 15, 16, 17, 18, 19, 20, 21, 22], [0, 1, 2, 3, 4, 5, 6, 7, 8, 9, 10, 11, 12, 13, 14, 15, 16, 17, 18, 19, 20, 21, 22, 23], [0, 1, 2, 3, 4, 5, 6, 7, 8, 9, 10, 11, 12, 13, 14, 15, 16, 17, 18, 19, 20, 21, 22, 23, 24], [0, 1, 2, 3, 4, 5, 6, 7, 8, 9, 10, 11, 12, 13, 14, 15, 16, 17, 18, 19, 20, 21, 22, 23, 24, 25], [0, 1, 2, 3, 4, 5, 6, 7, 8, 9, 10, 11, 12, 13, 14, 15, 16, 17, 18, 19, 20, 21, 22, 23, 24, 25, 26], [0, 1, 2, 3, 4, 5, 6, 7, 8, 9, 10, 11, 12, 13, 14, 15, 16, 17, 18, 19, 20, 21, 22, 23, 24, 25, 26, 27], [0, 1, 2, 3, 4, 5, 6, 7, 8, 9, 10, 11, 12, 13, 14, 15, 16, 17, 18, 19, 20, 21, 22, 23, 24, 25, 26], [0, 1, 2, 3, 4, 5, 6, 7, 8, 9, 10, 11, 12, 13, 14, 15, 16, 17, 18, 19, 20, 21, 22, 23, 24, 25, 26, 29], [0, 1, 2, 3, 4, 5, 6, 7, 8, 9, 10, 11, 12, 13, 14, 15, 16, 17, 18, 19, 20, 21, 22, 23, 24, 25, 26, 29, 30], [0, 1, 2, 3, 4, 5, 6, 7, 8, 9, 10, 11, 12, 13, 14, 15, 16, 17, 18, 19, 20, 21, 22, 23, 24, 25, 26, 27, 28, 29, 30, 31], [0, 1, 2, 3, 4, 5, 6, 7, 8, 9, 10, 11, 12, 13, 14, 15, 16, 17, 18, 19, 20, 21, 22, 23, 24, 25, 26, 27, 28, 29, 30, 31, 32], [0, 1, 2, 3, 4, 5, 6, 7, 8, 9, 10, 11, 12, 13, 14, 15, 16, 17, 18, 19, 20, 21, 22, 23, 24, 25, 26, 27, 28, 29, 30, 31, 32, 33], [0, 1, 2, 3, 4, 5, 6, 7, 8, 9, 10, 11, 12, 13, 14, 15, 16, 17, 18, 19, 20, 21, 22, 23, 24, 25, 26, 27, 28, 29, 30, 31, 32, 33, 34], [0, 1, 2, 3, 4, 5, 6, 7, 8, 9, 10, 11, 12, 13, 14, 15, 16, 17, 18, 19, 20, 21, 22, 23, 24, 25, 26, 27, 28, 29, 30, 31, 32, 33, 34, 35], [0, 1, 2, 3, 4, 5, 6, 7, 8, 9, 10, 11, 12, 13, 14, 15, 16, 17, 18, 19, 20, 21, 22, 23, 24, 25, 26, 27, 28, 29, 30, 31, 32, 33, 34, 35, 36], [0, 1, 2, 3, 4, 5, 6, 7, 8, 9, 10, 11, 12, 13, 14, 15, 16, 17, 18, 19, 20, 21, 22, 23, 24, 25, 26, 27, 28, 29, 30, 31, 32, 33, 34, 35, 36, 37], [0, 1, 2, 3, 4, 5, 6, 7, 8, 9, 10, 11, 12, 13, 14, 15, 16, 17, 18, 19, 20, 21, 22, 23, 24, 25, 26, 27, 28, 29, 30, 31, 32, 33, 34, 35, 36, 37, 38], [0, 1, 2, 3, 4, 5, 6, 7, 8, 9, 10, 11, 12, 13, 14, 15, 16, 17, 18, 19, 20, 21, 22, 23, 24, 25, 26, 27, 28, 29, 30, 31, 32, 33, 34, 35, 36, 37, 38, 39], [0, 1, 2, 3, 4, 5, 6, 7, 8, 9, 10, 11, 12, 13, 14, 15, 16, 17, 18, 19, 20, 21, 22, 23, 24, 25, 26, 27, 28, 29, 30, 31, 32, 33, 34, 35, 36, 37, 38, 39, 40], [0, 1, 2, 3, 4, 5, 6, 7, 8, 9, 10, 11, 12, 13, 14, 15, 16, 17, 18, 19, 20, 21, 22, 23, 24, 25, 26, 27, 28, 29, 30, 31, 32, 33, 34, 35, 36, 37, 38, 39, 40, 41], [0, 1, 2, 3, 4, 5, 6, 7, 8, 9, 10, 11, 12, 13, 14, 15, 16, 17, 18, 19, 20, 21, 22, 23, 24, 25, 26, 27, 28, 29, 30, 31, 32, 33, 34, 35, 36, 37, 38, 39, 40, 41, 42], [0, 1, 2, 3, 4, 5, 6, 7, 8, 9, 10, 11, 12, 13, 14, 15, 16, 17, 18, 19, 20, 21, 22, 23, 24, 25, 26, 27, 28, 29, 30, 31, 32, 33, 34, 35, 36, 37, 38, 39, 40, 41, 42, 43]])
 .ret))
theorem apiaryref9_tile_triple : Fun P0 42 1 [(2, false, none)] apiaryref9_tile_pc := fun_mk Go.Proofs.Tryz.func42 rfl (by decide) (by kernel_rfl) (by decide) rfl (by kernel_rfl) (by kernel_rfl) (by decide)
noncomputable def apiaryref9_Fine_pc : PC :=
  (.seq (.reg [p_a 1 (.box (.t 0)), p_s 2 (.mov (.c (.r (.v (.bool false)))))])
 (.seq (.drw [p_s 3 (.ld (some 4) (.t 1)), p_c 4 1 42 [.t 3], p_m 5 4, p_g 6 5 true (.fa 3 (.t 1)), p_g 7 5 true (.ld none (.t 6)), p_g 8 5 true (.bin .sub (o_i 12) (.t 7)), ⟨(some 9), (some (5, true)), 2, .call 43 [(.t 8)]⟩,
 p_g 10 5 true (.bin .mul (o_i 169) (.t 9)), p_g 11 5 true (.fa 0 (.t 1)), p_g 12 5 true (.ld none (.t 11)), p_g 13 5 true (.bin .sub (o_i 18) (.t 12)), p_g 14 5 true (.bin .mul (o_i 2) (.t 13)),
 ⟨(some 15), (some (5, true)), 3, .call 44 [(.t 14)]⟩, p_g 16 5 true (.bin .mul (o_i 16) (.t 15)), p_g 17 5 true (.bin .lss (.t 10) (.t 16)), p_s 18 (.pick (.t 5) (.t 17) (.c (.r (.v (.bool false))))),
 p_m 2 18]
 [[], [0], [0, 1], [0, 1, 2], [0, 1, 2, 3], [0, 1, 2, 3, 4], [0, 1, 2, 3, 4, 5], [0, 1, 2, 3, 4, 5, 6], [0, 1, 2], [0, 1, 2, 8], [0, 1, 2, 8, 9], [0, 1, 2, 8, 9, 10], [0, 1, 2, 3, 4, 5, 6, 8, 9, 10, 11], [0, 1, 2, 3, 4, 5, 6, 8, 9, 10, 11, 12], [0, 1, 2, 3, 4, 5, 6, 7, 8, 9, 10, 11, 12, 13], [0, 1, 2, 3, 4, 5, 6, 7, 8, 9, 10, 11, 12, 13, 14], [0, 1, 2, 3, 4, 5, 6, 7, 8, 9, 10, 11, 12, 13, 14, 15]])
 .ret))
theorem apiaryref9_Fine_triple : Fun P0 20 1 [(2, false, none)] apiaryref9_Fine_pc := fun_mk Go.Proofs.Tryz.func20 rfl (by decide) (by kernel_rfl) (by decide) rfl (by kernel_rfl) (by kernel_rfl) (by decide)
noncomputable def view_is_pc : PC :=
  (.seq (.reg [p_a 1 (.box (.t 0)), p_s 2 (.mov (.c (.r (.v (.bool false)))))])
 (.seq (.seq (.reg [p_s 4 (.fa 0 (.t 1)), p_s 5 (.ld none (.t 4)), p_s 6 (.bin .lss (.t 5) (o_i 0)), p_m 7 6, p_g 8 7 false (.fa 0 (.t 1)), p_g 9 7 false (.ld none (.t 8)), p_g 10 7 false (.bin .gtr (.t 9) (o_i 18)),
 p_s 11 (.pick (.t 7) (.c (.r (.v (.bool true)))) (.t 10)), p_m 12 11, p_g 13 12 false (.fa 3 (.t 1)), p_g 14 12 false (.ld none (.t 13)), p_g 15 12 false (.bin .lss (.t 14) (o_i 0)),
 p_s 16 (.pick (.t 12) (.c (.r (.v (.bool true)))) (.t 15)), p_m 17 16, p_g 18 17 false (.fa 3 (.t 1)), p_g 19 17 false (.ld none (.t 18)), p_g 20 17 false (.bin .gtr (.t 19) (o_i 12)),
 p_s 21 (.pick (.t 17) (.c (.r (.v (.bool true)))) (.t 20))])
 (.cond (.t 21)
 (.seq (.reg [p_s 2 (.mov (.c (.r (.v (.bool false)))))])
 .ret)
 .skip))
 (.seq (.reg [p_s 22 (.fa 0 (.t 1)), p_s 23 (.ld none (.t 22)), p_s 24 (.conv .u64 (.t 23)), p_s 25 (.bin .shl (o_i 1) (.t 24)), p_m 3 25])
 (.seq (.reg [p_s 26 (.fa 1 (.t 1)), p_s 27 (.ld none (.t 26)), p_s 28 (.bin .geq (.t 27) (o_i 0)), p_m 29 28, p_g 30 29 true (.fa 1 (.t 1)), p_g 31 29 true (.ld none (.t 30)),
 p_g 32 29 true (.mov (.t 3)), p_g 33 29 true (.bin .lss (.t 31) (.t 32)), p_s 34 (.pick (.t 29) (.t 33) (.c (.r (.v (.bool false))))), p_m 35 34, p_g 36 35 true (.fa 2 (.t 1)),
 p_g 37 35 true (.ld none (.t 36)), p_g 38 35 true (.bin .geq (.t 37) (o_i 0)), p_s 39 (.pick (.t 35) (.t 38) (.c (.r (.v (.bool false))))), p_m 40 39, p_g 41 40 true (.fa 2 (.t 1)),
 p_g 42 40 true (.ld none (.t 41)), p_g 43 40 true (.mov (.t 3)), p_g 44 40 true (.bin .lss (.t 42) (.t 43)), p_s 45 (.pick (.t 40) (.t 44) (.c (.r (.v (.bool false))))),
 p_m 2 45])
 .ret))))
theorem view_is_triple : Fun P0 23 1 [(2, false, none)] view_is_pc := fun_mk Go.Proofs.Tryz.func23 rfl (by decide) (by kernel_rfl) (by decide) rfl (by kernel_rfl) (by kernel_rfl) (by decide)
noncomputable def view_unit_pc : PC :=
  (.seq (.reg [p_a 1 (.box (.t 0)), p_s 2 (.mov (o_i 0))])
 (.seq (.reg [p_s 3 (.fa 0 (.t 1)), p_s 4 (.ld none (.t 3)), p_s 5 (.bin .sub (o_i 18) (.t 4)), p_s 6 (.conv .u64 (.t 5)), p_s 7 (.bin .shl (o_i 1) (.t 6)), p_m 2 7])
 .ret))
theorem view_unit_triple : Fun P0 28 1 [(2, false, none)] view_unit_pc := fun_mk Go.Proofs.Tryz.func28 rfl (by decide) (by kernel_rfl) (by decide) rfl (by kernel_rfl) (by kernel_rfl) (by decide)
noncomputable def view_Fine_pc : PC :=
  (.seq (.reg [p_a 1 (.box (.t 0)), p_s 2 (.mov (.c (.r (.v (.bool false)))))])
 (.seq (.reg [p_s 6 (.fa 3 (.t 1)), p_s 7 (.ld none (.t 6)), p_c 8 1 38 [.t 7], p_m 5 8, p_s 9 (.ext (.t 5) 0), p_s 10 (.ext (.t 5) 1), p_m 3 9, p_m 4 10])
 (.seq (.drw [p_s 11 (.ld (some 4) (.t 1)), p_c 12 2 23 [.t 11], p_m 13 12, p_g 14 13 true (.mov (.t 3)), p_g 15 13 true (.ld (some 4) (.t 1)), ⟨(some 16), (some (13, true)), 3, .call 28 [(.t 15)]⟩,
 p_g 17 13 true (.bin .mul (o_i 16) (.t 16)), p_g 18 13 true (.ld (some 4) (.t 1)), ⟨(some 19), (some (13, true)), 4, .call 28 [(.t 18)]⟩, p_g 20 13 true (.bin .mul (.t 17) (.t 19)),
 p_g 21 13 true (.bin .lss (.t 14) (.t 20)), p_s 22 (.pick (.t 13) (.t 21) (.c (.r (.v (.bool false))))), p_m 2 22]
 [[], [0], [0, 1], [0, 1, 2], [0, 1, 2], [0, 1, 2, 4], [0, 1, 2, 4, 5], [0, 1, 2], [0, 1, 2, 4, 5, 7], [0, 1, 2, 4, 5, 6, 7, 8], [0, 1, 2, 3, 4, 5, 6, 7, 8, 9], [0, 1, 2, 3, 4, 5, 6, 7, 8, 9, 10], [0, 1, 2, 3, 4, 5, 6, 7, 8, 9, 10, 11]])
 .ret)))
theorem view_Fine_triple : Fun P0 16 1 [(2, false, none)] view_Fine_pc := fun_mk Go.Proofs.Tryz.func16 rfl (by decide) (by kernel_rfl) (by decide) rfl (by kernel_rfl) (by kernel_rfl) (by decide)
noncomputable def view_Ok_pc : PC :=
  (.seq (.reg [p_a 1 (.box (.t 0)), p_s 2 (.mov (o_i 0))])
 (.seq (.block 0 (.seq (.reg [p_s 4 (.ld (some 4) (.t 1)), p_c 5 1 23 [.t 4], p_s 6 (.un .not (.t 5)), p_m 3 6])
 (.cond (.t 3)
 (.seq (.reg [p_s 2 (.mov (o_i 1))])
 .ret)
 (.seq (.reg [p_s 8 (.ld (some 4) (.t 1)), p_c 9 2 16 [.t 8], p_m 7 9])
 (.cond (.t 7)
 (.seq (.reg [p_s 2 (.mov (o_i 14))])
 .ret)
 .skip)))))
 (.seq (.reg [p_s 2 (.mov (o_i 0))])
 .ret)))
theorem view_Ok_triple : Fun P0 8 1 [(2, false, none)] view_Ok_pc := fun_mk Go.Proofs.Tryz.func8 rfl (by decide) (by kernel_rfl) (by decide) rfl (by kernel_rfl) (by kernel_rfl) (by decide)
noncomputable def view_Origin_pc : PC :=
  (.seq (.reg [p_a 1 (.box (.t 0)), p_s 2 (.mov (o_i 0)), p_s 3 (.mov (o_i 0)), p_s 4 (.mov (o_i 0))])
 (.seq (.seq (.reg [p_s 5 (.ld (some 4) (.t 1)), p_c 6 1 23 [.t 5], p_s 7 (.un .not (.t 6))])
 (.cond (.t 7)
 (.seq (.reg [p_s 2 (.mov (o_i 0)), p_s 3 (.mov (o_i 0)), p_s 4 (.mov (o_i 0))])
 .ret)
 .skip))
 (.seq (.reg [p_s 8 (.fa 0 (.t 1)), p_s 9 (.ld none (.t 8)), p_s 10 (.bin .sub (o_i 30) (.t 9)), p_s 11 (.conv .u64 (.t 10)), p_s 12 (.bin .shl (o_i 1) (.t 11)), p_m 4 12])
 (.seq (.drw [p_s 13 (.fa 1 (.t 1)), p_s 14 (.ld none (.t 13)), p_m 15 4, p_s 16 (.bin .mul (.t 14) (.t 15)), p_s 17 (.fa 2 (.t 1)), p_s 18 (.ld none (.t 17)), p_m 19 4, p_s 20 (.bin .mul (.t 18) (.t 19)),
 p_m 21 4, p_m 2 16, p_m 3 20, p_m 4 21]
 [[], [0], [], [0, 1, 2], [], [4], [], [4, 5, 6], [], [0, 1, 2, 3], [0, 1, 2, 3, 4, 5, 6, 7, 9], [0, 1, 2, 3, 4, 5, 6, 7, 8, 9, 10]])
 .ret))))
theorem view_Origin_triple : Fun P0 24 1 [(2, false, none), (3, false, none), (4, false, none)] view_Origin_pc := fun_mk Go.Proofs.Tryz.func24 rfl (by decide) (by kernel_rfl) (by decide) rfl (by kernel_rfl) (by kernel_rfl) (by decide)
noncomputable def apiarylaw22_awake_pc : PC :=
  (.seq (.reg [p_s 0 (.mov (.c (.r (.v (.bool false)))))])
 (.seq (.reg [p_s 5 (.build [(.r (.v (.int .i64 0))), (.r (.v (.int .i64 0))), (.r (.v (.int .i64 0))), (.r (.v (.int .i64 0)))] [(0, 1, (o_i 1)), (1, 1, (o_i 1))]), p_c 6 1 24 [.t 5],
 p_m 4 6, p_s 7 (.ext (.t 4) 0), p_s 8 (.ext (.t 4) 1), p_s 9 (.ext (.t 4) 2), p_m 1 7, p_m 2 8, p_m 3 9])
 (.seq (.reg [p_m 10 1, p_s 11 (.bin .eql (.t 10) (o_i 536870912)), p_m 12 11, p_g 13 12 true (.mov (.t 2)), p_g 14 12 true (.bin .eql (.t 13) (o_i 0)), p_s 15 (.pick (.t 12) (.t 14) (.c (.r (.v (.bool false))))),
 p_m 16 15, p_g 17 16 true (.mov (.t 3)), p_g 18 16 true (.bin .eql (.t 17) (o_i 536870912)), p_s 19 (.pick (.t 16) (.t 18) (.c (.r (.v (.bool false))))), p_m 20 19,
 p_g 21 20 true (.build [(.r (.v (.int .i64 0))), (.r (.v (.int .i64 0))), (.r (.v (.int .i64 0))), (.r (.v (.int .i64 0)))] []), ⟨(some 22), (some (20, true)), 2, .call 8 [(.t 21)]⟩,
 p_g 23 20 true (.bin .eql (.t 22) (o_i 0)), p_s 24 (.pick (.t 20) (.t 23) (.c (.r (.v (.bool false))))), p_m 25 24, p_g 26 25 true (.build [(.r (.v (.int .i64 0))), (.r (.v (.int .i64 0))), (.r (.v (.int .i64 0))), (.r (.v (.int .i64 0)))] [(3, 1, (o_i 12))]),
 ⟨(some 27), (some (25, true)), 3, .call 8 [(.t 26)]⟩, p_g 28 25 true (.bin .eql (.t 27) (o_i 14)), p_s 29 (.pick (.t 25) (.t 28) (.c (.r (.v (.bool false))))), p_m 30 29,
 p_g 31 30 true (.build [(.r (.v (.int .i64 0))), (.r (.v (.int .i64 0))), (.r (.v (.int .i64 0))), (.r (.v (.int .i64 0)))] [(3, 1, (o_i 12))]), ⟨(some 32), (some (30, true)), 4, .call 16 [(.t 31)]⟩,
 p_s 33 (.pick (.t 30) (.t 32) (.c (.r (.v (.bool false))))), p_m 34 33, p_g 35 34 true (.build [(.r (.v (.int .i64 0))), (.r (.v (.int .i64 0))), (.r (.v (.int .i64 0))), (.r (.v (.int .i64 0)))] [(0, 1, (o_i 18)), (3, 1, (o_i 12))]),
 ⟨(some 36), (some (34, true)), 5, .call 16 [(.t 35)]⟩, p_g 37 34 true (.un .not (.t 36)), p_s 38 (.pick (.t 34) (.t 37) (.c (.r (.v (.bool false))))), p_m 0 38])
 .ret)))
theorem apiarylaw22_awake_triple : Fun P0 9 0 [(0, false, none)] apiarylaw22_awake_pc := fun_mk Go.Proofs.Tryz.func9 rfl (by decide) (by kernel_rfl) (by decide) rfl (by kernel_rfl) (by kernel_rfl) (by decide)
noncomputable def apiarylaw22_Tile_pc : PC :=
  (.seq (.reg [p_a 8 (.new [(.r (.v (.int .i64 0))), (.r (.v (.int .i64 0))), (.r (.v (.int .i64 0))), (.r (.v (.int .i64 0)))])])
 (.seq (.reg [p_m 9 2, p_s 10 (.bin .rem (.t 9) (o_i 19)), p_s 11 (.bin .add (.t 10) (o_i 19)), p_s 12 (.bin .rem (.t 11) (o_i 19)), p_m 13 3, p_s 14 (.bin .rem (.t 13) (o_i 13)),
 p_s 15 (.bin .add (.t 14) (o_i 13)), p_s 16 (.bin .rem (.t 15) (o_i 13)), p_m 2 12, p_m 3 16])
 (.seq (.block 0 (.loop (.seq (.seq (.reg [p_m 17 3, p_s 18 (.bin .gtr (.t 17) (o_i 0)), p_m 19 18, p_g 20 19 true (.mov (.t 2)), p_g 21 19 true (.mov (.t 3)), p_g 22 19 true (.build [(.r (.v (.int .i64 0))), (.r (.v (.int .i64 0))), (.r (.v (.int .i64 0))), (.r (.v (.int .i64 0)))] [(0, 1, (.t 20)), (3, 1, (.t 21))]),
 ⟨(some 23), (some (19, true)), 1, .call 20 [(.t 22)]⟩, p_s 24 (.pick (.t 19) (.t 23) (.c (.r (.v (.bool false)))))])
 (.cond (.t 24)
 .skip
 (.exit 0)))
 (.block 1 (.reg [p_m 25 3, p_s 26 (.bin .sub (.t 25) (o_i 1)), p_m 3 26])))))
 (.seq (.reg [p_m 27 0, p_s 28 (.bin .and (.t 27) (o_i 1073741823)), p_m 29 1, p_s 30 (.bin .and (.t 29) (o_i 1073741823)), p_m 0 28, p_m 1 30])
 (.seq (.drw [p_m 31 2, p_m 32 0, p_m 33 2, p_s 34 (.bin .sub (o_i 30) (.t 33)), p_s 35 (.bin .shr (.t 32) (.t 34)), p_m 36 1, p_m 37 2, p_s 38 (.bin .sub (o_i 30) (.t 37)), p_s 39 (.bin .shr (.t 36) (.t 38)),
 p_m 40 3, p_s 41 (.build [(.r (.v (.int .i64 0))), (.r (.v (.int .i64 0))), (.r (.v (.int .i64 0))), (.r (.v (.int .i64 0)))] [(0, 1, (.t 31)), (1, 1, (.t 35)), (2, 1, (.t 39)), (3, 1, (.t 40))]),
 ⟨none, none, 0, .act (.st 4 (.t 8) (.t 41))⟩]
 [[], [], [], [2], [1, 2, 3], [], [], [6], [5, 6, 7], [], [0, 1, 2, 3, 4, 5, 6, 7, 8, 9], [0, 1, 2, 3, 4, 5, 6, 7, 8, 9, 10]])
 .ret)))))
theorem apiarylaw22_Tile_triple : Fun P0 6 4 [(8, false, some (23, (some 4)))] apiarylaw22_Tile_pc := fun_mk Go.Proofs.Tryz.func6 rfl (by decide) (by kernel_rfl) (by decide) rfl (by kernel_rfl) (by kernel_rfl) (by decide)
structure Til where
 z : Int
 x : Int
 y : Int
 r : Int
def Til.v (t : Til) : AV := .r (.agg [.v (.int .i64 t.z), .v (.int .i64 t.x), .v (.int .i64 t.y), .v (.int .i64 t.r)])
def Til.ok (t : Til) : Prop := in64 t.z ∧ in64 t.x ∧ in64 t.y ∧ in64 t.r
def tis (t : Til) : Bool := decide (0 ≤ t.z ∧ t.z ≤ 18 ∧ 0 ≤ t.r ∧ t.r ≤ 12 ∧ 0 ≤ t.x ∧ t.x < 2 ^ t.z.toNat ∧ 0 ≤ t.y ∧ t.y < 2 ^ t.z.toNat)
theorem is_t (t : Til) : Triple P0 23 [t.v] [] (bl (tis t)) [] := by
 refine view_is_triple rfl (by decide) ?_
 simp only [view_is_pc, Til.v, push_cast, ↓reduceIte, reduceCtorEq, zB, zE, zA, zS, zL, zD, zM]
 repeat refine And.intro (by simp +contextual) ?_
 refine cnd_mk (fun h => ?_) (fun h => ?_)
 ·simp only [push_cast, ↓reduceIte, reduceCtorEq, zB, zE, zA, zS, zL, zD, zM]
  refine bl_iff ?_
  simp [tis] at h ⊢
  omega
 ·have hz : 0 ≤ t.z ∧ t.z ≤ 18 ∧ 0 ≤ t.r ∧ t.r ≤ 12 := by simp at h; omega
  simp only [push_cast, ↓reduceIte, reduceCtorEq, zB, zE, zA, zS, zL, zD, zM]
  refine And.intro ?_ ?_
  ·rw [IntKind.wrap_u64]; omega
  rw [shl1 _ hz.1 (by omega)]
  repeat refine And.intro (by simp +contextual) ?_
  refine bl_iff ?_
  simp [tis]
  omega
theorem unit_t (t : Til) (h0 : 0 ≤ t.z) (h1 : t.z ≤ 18) : Triple P0 28 [t.v] [] (int .i64 (2 ^ (18 - t.z).toNat)) [] := by
 refine view_unit_triple rfl (by decide) ?_
 simp only [view_unit_pc, Til.v, push_cast, ↓reduceIte, reduceCtorEq, zB, zE, zA, zS, zL, zD, zM]
 rw [show IntKind.i64.wrap (18 - t.z) = 18 - t.z from wrap_id (by omega)]
 refine And.intro ?_ ?_
 ·rw [IntKind.wrap_u64]; omega
 ·rw [shl1 _ (by omega) (by omega)]
def rok (r : Int) : Bool := decide (0 ≤ r ∧ r ≤ 12)
theorem width_t (r : Int) (hr : in64 r) : Triple P0 38 [int .i64 r] [] (.tup [int .i64 (if rok r then 169 * 7 ^ (12 - r).toNat else 0), bl (rok r)]) [] := by
 refine plane_Width_triple rfl (by decide) ?_
 simp only [plane_Width_pc, push_cast, ↓reduceIte, reduceCtorEq, zB, zE, zA, zS, zL, zD, zM]
 refine call_mk (isRes_t r) rfl trivial ?_
 simp only [push_cast, ↓reduceIte, reduceCtorEq, zB, zE, zA, zS, zL, zD, zM]
 refine cnd_mk (fun h => ?_) (fun h => ?_)
 ·simp only [push_cast, ↓reduceIte, reduceCtorEq, zB, zE, zA, zS, zL, zD, zM]
  have : rok r = false := by simp [rok] at h ⊢; omega
  simp [this]
 ·have h : rok r = true := by simpa [rok] using h
  have h' : 0 ≤ r ∧ r ≤ 12 := by simpa [rok] using h
  simp only [push_cast, ↓reduceIte, reduceCtorEq, zB, zE, zA, zS, zL, zD, zM]
  rw [show IntKind.i64.wrap (12 - r) = 12 - r from wrap_id (by omega)]
  have hp := p7 (12 - r).toNat (by omega)
  have ht := pow_t 7 (12 - r) (by decide) (by unfold in64; omega)
  rw [if_neg (show ¬ 12 - r < 0 by omega)] at ht
  refine call_mk ht rfl trivial ?_
  simp only [sm, if_pos (show in64 (7 ^ (12 - r).toNat) by unfold in64; omega), push_cast, ↓reduceIte, reduceCtorEq, zB, zE, zA, zS, zL, zD, zM]
  rw [wrap_id (by omega)]
  simp [h]
theorem seven_t (k : Int) (h0 : 0 ≤ k) (h1 : k ≤ 12) : Triple P0 43 [int .i64 k] [] (int .i64 (7 ^ k.toNat)) [] := by
 refine apiaryref1_Seven_triple rfl (by decide) ?_
 simp only [apiaryref1_Seven_pc, push_cast, ↓reduceIte, reduceCtorEq, zB, zE, zA, zS, zL, zD, zM]
 have hp := p7 k.toNat (by omega)
 have ht := rpow_t 7 k (by decide) (by unfold in64; omega)
 rw [if_neg (show ¬ k < 0 by omega)] at ht
 refine call_mk ht rfl trivial ?_
 simp only [sm, if_pos (show in64 (7 ^ k.toNat) by unfold in64; omega), push_cast, ↓reduceIte, reduceCtorEq, zB, zE, zA, zS, zL, zD, zM]
theorem shift_t (k : Int) (h0 : 0 ≤ k) (h1 : k ≤ 36) : Triple P0 44 [int .i64 k] [] (int .i64 (2 ^ k.toNat)) [] := by
 refine apiaryref9_shift_triple rfl (by decide) ?_
 simp only [apiaryref9_shift_pc, push_cast, ↓reduceIte, reduceCtorEq, zB, zE, zA, zS, zL, zD, zM]
 refine ⟨by omega, ?_⟩
 rw [shl2 k h0 h1]
def fine (t : Til) : Bool := tis t && decide (169 * 7 ^ (12 - t.r).toNat < 16 * 2 ^ (18 - t.z).toNat * (2 : Int) ^ (18 - t.z).toNat)
theorem fine_t (t : Til) (ht : t.ok) : Triple P0 16 [t.v] [] (bl (fine t)) [] := by
 refine view_Fine_triple rfl (by decide) ?_
 simp only [view_Fine_pc, Til.v, push_cast, ↓reduceIte, reduceCtorEq, zB, zE, zA, zS, zL, zD, zM]
 refine call_mk (width_t t.r ht.2.2.2) rfl trivial ?_
 simp only [push_cast, ↓reduceIte, reduceCtorEq, zB, zE, zA, zS, zL, zD, zM]
 refine dcall_as (as' := [t.v]) rfl ?_
 refine dcall_mk (is_t t) rfl trivial ?_
 cases hti : tis t with
 | false =>
  simp only [push_cast, ↓reduceIte, reduceCtorEq, zB, zE, zA, zS, zL, zD, zM]
  exact ⟨by kernel_rfl, by simp [fine, hti]⟩
 | true =>
  have hr : 0 ≤ t.z ∧ t.z ≤ 18 ∧ 0 ≤ t.r ∧ t.r ≤ 12 := by simp [tis] at hti; omega
  have hrok : rok t.r = true := by simp [rok]; omega
  have hp := p2 (18 - t.z).toNat (by omega)
  have hu := unit_t t hr.1 hr.2.1
  simp only [hrok, push_cast, ↓reduceIte, reduceCtorEq, zB, zE, zA, zS, zL, zD, zM]
  refine dcall_as (as' := [t.v]) rfl ?_
  refine dcall_mk hu rfl trivial ?_
  simp only [push_cast, ↓reduceIte, reduceCtorEq, zB, zE, zA, zS, zL, zD, zM]
  refine dcall_as (as' := [t.v]) rfl ?_
  refine dcall_mk hu rfl trivial ?_
  simp only [push_cast, ↓reduceIte, reduceCtorEq, zB, zE, zA, zS, zL, zD, zM]
  refine ⟨by kernel_rfl, ?_⟩
  have hq : (18 - t.z).toNat ≤ 18 := by omega
  have hq2 : (2 : Int) ^ (18 - t.z).toNat ≤ 262144 := by
   have h1 : 2 ^ (18 - t.z).toNat ≤ 2 ^ 18 := zac (by decide) hq
   have h3 : ((2 ^ (18 - t.z).toNat : Nat) : Int) = (2 : Int) ^ (18 - t.z).toNat := by simp
   omega
  rw [show IntKind.i64.wrap (16 * 2 ^ (18 - t.z).toNat) = 16 * 2 ^ (18 - t.z).toNat from wrap_id (by omega)]
  have hm : 16 * (2 : Int) ^ (18 - t.z).toNat * 2 ^ (18 - t.z).toNat ≤ 4194304 * 262144 := Int.mul_le_mul (by omega) hq2 (by omega) (by omega)
  have hm0 : 0 ≤ 16 * (2 : Int) ^ (18 - t.z).toNat * 2 ^ (18 - t.z).toNat := zak (by omega) (by omega)
  rw [wrap_id (by omega)]
  refine bl_iff ?_
  simp [fine, hti]
theorem ok_t (t : Til) (ht : t.ok) : Triple P0 8 [t.v] [] (int .i64 (if tis t then (if fine t then 14 else 0) else 1)) [] := by
 refine view_Ok_triple rfl (by decide) ?_
 simp only [view_Ok_pc, Til.v, push_cast, ↓reduceIte, reduceCtorEq, zB, zE, zA, zS, zL, zD, zM]
 refine call_as (as' := [t.v]) rfl ?_
 refine call_mk (is_t t) rfl trivial ?_
 cases hti : tis t with
 | false =>
  simp only [push_cast, ↓reduceIte, reduceCtorEq, zB, zE, zA, zS, zL, zD, zM]
 | true =>
  simp only [push_cast, ↓reduceIte, reduceCtorEq, zB, zE, zA, zS, zL, zD, zM]
  refine call_as (as' := [t.v]) rfl ?_
  refine call_mk (fine_t t ht) rfl trivial ?_
  cases hf : fine t <;> simp only [push_cast, ↓reduceIte, reduceCtorEq, zB, zE, zA, zS, zL, zD, zM]
theorem origin_t (t : Til) (hi : tis t = true) : Triple P0 24 [t.v] [] (.tup [int .i64 (t.x * 2 ^ (30 - t.z).toNat), int .i64 (t.y * 2 ^ (30 - t.z).toNat), int .i64 (2 ^ (30 - t.z).toNat)]) [] := by
 refine view_Origin_triple rfl (by decide) ?_
 simp only [view_Origin_pc, Til.v, push_cast, ↓reduceIte, reduceCtorEq, zB, zE, zA, zS, zL, zD, zM]
 refine call_as (as' := [t.v]) rfl ?_
 refine call_mk (is_t t) rfl trivial ?_
 rw [hi]
 simp only [push_cast, ↓reduceIte, reduceCtorEq, zB, zE, zA, zS, zL, zD, zM]
 simp only [tis, decide_eq_true_eq] at hi
 obtain ⟨z0, z1, r0, r1, x0, x1, y0, y1⟩ := hi
 have hp := p2 t.z.toNat (by omega)
 have hq := p2 (30 - t.z).toNat (by omega)
 have hpq : (2 : Int) ^ t.z.toNat * 2 ^ (30 - t.z).toNat = 1073741824 := by
  rw [← Int.pow_add, show t.z.toNat + (30 - t.z).toNat = 30 by omega]; rfl
 have hx : t.x * 2 ^ (30 - t.z).toNat ≤ 1073741824 := by rw [← hpq]; exact zah (by omega) (by omega)
 have hy : t.y * 2 ^ (30 - t.z).toNat ≤ 1073741824 := by rw [← hpq]; exact zah (by omega) (by omega)
 have hx0 : 0 ≤ t.x * 2 ^ (30 - t.z).toNat := zak x0 (by omega)
 have hy0 : 0 ≤ t.y * 2 ^ (30 - t.z).toNat := zak y0 (by omega)
 rw [show IntKind.i64.wrap (30 - t.z) = 30 - t.z from wrap_id (by omega), shl1 _ (by omega) (by omega)]
 refine ⟨by rw [IntKind.wrap_u64]; omega, by kernel_rfl, ?_⟩
 rw [wrap_id (by omega), wrap_id (by omega)]

noncomputable def apiaryref1_Floor_pc : PC :=
  (.seq (.reg [p_s 4 (.mov (o_i 0)), p_s 5 (.mov (o_i 0)), p_s 6 (.mov (.c (.r (.v (.bool false)))))])
 (.seq (.seq (.reg [p_m 9 1, p_s 10 (.bin .leq (.t 9) (o_i 0))])
 (.cond (.t 10)
 (.seq (.reg [p_s 4 (.mov (o_i 0)), p_s 5 (.mov (o_i 0)), p_s 6 (.mov (.c (.r (.v (.bool false)))))])
 .ret)
 .skip))
 (.seq (.drw [p_m 11 0, p_m 12 1, p_s 13 (.bin .quo (.t 11) (.t 12)), p_m 14 0, p_m 15 1, p_s 16 (.bin .rem (.t 14) (.t 15)), p_m 7 13, p_m 8 16]
 [[], [], [0, 1], [], [], [3, 4], [0, 1, 2], [0, 1, 2, 3, 4, 5, 6]])
 (.seq (.seq (.reg [p_m 17 8, p_s 18 (.bin .lss (.t 17) (o_i 0))])
 (.cond (.t 18)
 (.reg [p_m 19 7, p_s 20 (.bin .sub (.t 19) (o_i 1)), p_m 21 8, p_m 22 1, p_s 23 (.bin .add (.t 21) (.t 22)), p_m 7 20, p_m 8 23])
 .skip))
 (.seq (.reg [p_m 24 7, p_m 25 8, p_m 4 24, p_m 5 25, p_s 6 (.mov (.c (.r (.v (.bool true)))))])
 .ret)))))
theorem apiaryref1_Floor_triple : Fun P0 84 2 [(4, false, none), (5, false, none), (6, false, none)] apiaryref1_Floor_pc := fun_mk Go.Proofs.Tryz.func84 rfl (by decide) (by kernel_rfl) (by decide) rfl (by kernel_rfl) (by kernel_rfl) (by decide)
noncomputable def apiaryref1_Two_pc : PC :=
  (.seq (.reg [p_a 2 (.box (.t 0)), p_a 3 (.box (.t 1)), p_a 4 (.new [(.r (.v (.int .i64 0))), (.r (.v (.int .i64 0)))]), p_s 5 (.mov (.c (.r (.v (.bool false)))))])
 (.seq (.reg [p_s 11 (.ld (some 2) (.t 2)), p_c 12 1 118 [.t 11], p_m 10 12, p_s 13 (.ext (.t 10) 0), p_s 14 (.ext (.t 10) 1), p_m 6 13, p_m 7 14])
 (.seq (.reg [p_s 16 (.ld (some 2) (.t 3)), p_c 17 2 118 [.t 16], p_m 15 17, p_s 18 (.ext (.t 15) 0), p_s 19 (.ext (.t 15) 1), p_m 8 18, p_m 9 19])
 (.seq (.seq (.reg [p_m 20 7, p_s 21 (.un .not (.t 20)), p_m 22 21, p_g 23 22 false (.mov (.t 9)), p_g 24 22 false (.un .not (.t 23)), p_s 25 (.pick (.t 22) (.c (.r (.v (.bool true)))) (.t 24))])
 (.cond (.t 25)
 (.seq (.reg [p_s 26 (.build [(.r (.v (.int .i64 0))), (.r (.v (.int .i64 0)))] []), ⟨none, none, 0, .act (.st 2 (.t 4) (.t 26))⟩, p_s 5 (.mov (.c (.r (.v (.bool false)))))])
 .ret)
 .skip))
 (.seq (.reg [p_m 27 6, p_m 28 8, p_s 29 (.build [(.r (.v (.int .i64 0))), (.r (.v (.int .i64 0)))] [(0, 1, (.t 27)), (1, 1, (.t 28))]), ⟨none, none, 0, .act (.st 2 (.t 4) (.t 29))⟩,
 p_s 5 (.mov (.c (.r (.v (.bool true)))))])
 .ret)))))
theorem apiaryref1_Two_triple : Fun P0 80 2 [(4, false, some (53, (some 2))), (5, false, none)] apiaryref1_Two_pc := fun_mk Go.Proofs.Tryz.func80 rfl (by decide) (by kernel_rfl) (by decide) rfl (by kernel_rfl) (by kernel_rfl) (by decide)
noncomputable def apiaryref1_Mul_pc : PC :=
  (.seq (.reg [p_a 2 (.box (.t 0)), p_a 3 (.box (.t 1)), p_a 4 (.new [(.r (.v (.int .i64 0))), (.r (.v (.int .i64 0)))]), p_s 5 (.mov (.c (.r (.v (.bool false)))))])
 (.seq (.reg [p_s 7 (.fa 1 (.t 2)), p_s 8 (.ld none (.t 7)), p_s 9 (.fa 1 (.t 3)), p_s 10 (.ld none (.t 9)), p_c 11 1 79 [.t 8, .t 10], p_a 6 (.new [(.r (.v (.int .u64 0))), (.r (.v (.int .u64 0)))]),
 ⟨none, none, 0, .act (.st 2 (.t 6) (.t 11))⟩])
 (.seq (.drw [p_s 12 (.fa 0 (.t 2)), p_s 13 (.ld none (.t 12)), p_s 14 (.fa 0 (.t 3)), p_s 15 (.ld none (.t 14)), p_c 16 2 79 [.t 13, .t 15], p_s 17 (.ld (some 2) (.t 6)), p_c 18 3 82 [.t 17],
 p_c 19 4 81 [.t 16, .t 18], p_s 20 (.fa 0 (.t 2)), p_s 21 (.ld none (.t 20)), p_s 22 (.fa 1 (.t 3)), p_s 23 (.ld none (.t 22)), p_c 24 5 79 [.t 21, .t 23], p_s 25 (.fa 1 (.t 2)),
 p_s 26 (.ld none (.t 25)), p_s 27 (.fa 0 (.t 3)), p_s 28 (.ld none (.t 27)), p_c 29 6 79 [.t 26, .t 28], p_c 30 7 81 [.t 24, .t 29], p_s 31 (.ld (some 2) (.t 6)),
 p_c 32 8 81 [.t 30, .t 31], p_c 33 9 80 [.t 19, .t 32], p_s 34 (.ext (.t 33) 0), p_s 35 (.ext (.t 33) 1), ⟨none, none, 0, .act (.st 2 (.t 4) (.t 34))⟩, p_m 5 35]
 [[], [0], [], [2], [0, 1, 2, 3], [], [0, 1, 2, 3, 4, 5], [0, 1, 2, 3, 4, 5, 6], [], [8], [], [10], [0, 1, 2, 3, 4, 5, 6, 7, 8, 9, 10, 11], [], [13], [], [15], [0, 1, 2, 3, 4, 5, 6, 7, 8, 9, 10, 11, 12, 13, 14, 15, 16], [0, 1, 2, 3, 4, 5, 6, 7, 8, 9, 10, 11, 12, 13, 14, 15, 16, 17], [], [0, 1, 2, 3, 4, 5, 6, 7, 8, 9, 10, 11, 12, 13, 14, 15, 16, 17, 18, 19], [0, 1, 2, 3, 4, 5, 6, 7, 8, 9, 10, 11, 12, 13, 14, 15, 16, 17, 18, 19, 20], [0, 1, 2, 3, 4, 5, 6, 7, 8, 9, 10, 11, 12, 13, 14, 15, 16, 17, 18, 19, 20, 21], [0, 1, 2, 3, 4, 5, 6, 7, 8, 9, 10, 11, 12, 13, 14, 15, 16, 17, 18, 19, 20, 21], [0, 1, 2, 3, 4, 5, 6, 7, 8, 9, 10, 11, 12, 13, 14, 15, 16, 17, 18, 19, 20, 21, 22, 23], [0, 1, 2, 3, 4, 5, 6, 7, 8, 9, 10, 11, 12, 13, 14, 15, 16, 17, 18, 19, 20, 21, 22, 23, 24]])
 .ret)))
theorem apiaryref1_Mul_triple : Fun P0 46 2 [(4, false, some (53, (some 2))), (5, false, none)] apiaryref1_Mul_pc := fun_mk Go.Proofs.Tryz.func46 rfl (by decide) (by kernel_rfl) (by decide) rfl (by kernel_rfl) (by kernel_rfl) (by decide)
noncomputable def apiaryref1_Beta_pc : PC :=
  (.seq (.reg [p_a 2 (.new [(.r (.v (.int .i64 0))), (.r (.v (.int .i64 0)))]), p_s 3 (.mov (.c (.r (.v (.bool false)))))])
 (.seq (.seq (.reg [p_m 6 0, p_s 7 (.bin .lss (.t 6) (o_i 0)), p_m 8 7, p_g 9 8 false (.mov (.t 0)), p_g 10 8 false (.bin .gtr (.t 9) (o_i 20)), p_s 11 (.pick (.t 8) (.c (.r (.v (.bool true)))) (.t 10))])
 (.cond (.t 11)
 (.seq (.reg [p_s 12 (.build [(.r (.v (.int .i64 0))), (.r (.v (.int .i64 0)))] []), ⟨none, none, 0, .act (.st 2 (.t 2) (.t 12))⟩, p_s 3 (.mov (.c (.r (.v (.bool false)))))])
 .ret)
 .skip))
 (.seq (.reg [p_s 13 (.build [(.r (.v (.int .i64 0))), (.r (.v (.int .i64 0)))] [(0, 1, (o_i 1))]), p_a 4 (.new [(.r (.v (.int .i64 0))), (.r (.v (.int .i64 0)))]), ⟨none, none, 0, .act (.st 2 (.t 4) (.t 13))⟩])
 (.seq (.seq (.reg [p_s 5 (.mov (o_i 0))])
 (.block 0 (.loop (.seq (.seq (.reg [p_m 14 5, p_m 15 0, p_s 16 (.bin .lss (.t 14) (.t 15))])
 (.cond (.t 16)
 .skip
 (.exit 0)))
 (.seq (.block 1 (.reg [p_s 20 (.ld (some 2) (.t 4)), p_s 21 (.build [(.r (.v (.int .i64 0))), (.r (.v (.int .i64 0)))] [(0, 1, (o_i 2)), (1, 1, (o_i 1))]), p_c 22 1 46 [.t 20, .t 21],
 p_m 19 22, p_s 23 (.ext (.t 19) 0), p_s 24 (.ext (.t 19) 1), ⟨none, none, 0, .act (.st 2 (.t 4) (.t 23))⟩]))
 (.reg [p_m 17 5, p_s 18 (.bin .add (.t 17) (o_i 1)), p_m 5 18]))))))
 (.seq (.reg [p_s 25 (.ld (some 2) (.t 4)), ⟨none, none, 0, .act (.st 2 (.t 2) (.t 25))⟩, p_s 3 (.mov (.c (.r (.v (.bool true)))))])
 .ret)))))
theorem apiaryref1_Beta_triple : Fun P0 83 1 [(2, false, some (53, (some 2))), (3, false, none)] apiaryref1_Beta_pc := fun_mk Go.Proofs.Tryz.func83 rfl (by decide) (by kernel_rfl) (by decide) rfl (by kernel_rfl) (by kernel_rfl) (by decide)
noncomputable def apiaryref1_conj_pc : PC :=
  (.seq (.reg [p_a 2 (.new [(.r (.v (.int .i64 0))), (.r (.v (.int .i64 0)))])])
 (.seq (.reg [p_m 6 0, p_c 7 1 83 [.t 6], p_m 5 7, p_s 8 (.ext (.t 5) 0), p_s 9 (.ext (.t 5) 1), p_a 3 (.new [(.r (.v (.int .i64 0))), (.r (.v (.int .i64 0)))]), ⟨none, none, 0, .act (.st 2 (.t 3) (.t 8))⟩,
 p_m 4 9])
 (.seq (.reg [p_s 10 (.fa 0 (.t 3)), p_s 11 (.ld none (.t 10)), p_s 12 (.fa 1 (.t 3)), p_s 13 (.ld none (.t 12)), p_s 14 (.bin .add (.t 11) (.t 13)), p_s 15 (.fa 1 (.t 3)), p_s 16 (.ld none (.t 15)),
 p_s 17 (.un .neg (.t 16)), p_s 18 (.build [(.r (.v (.int .i64 0))), (.r (.v (.int .i64 0)))] [(0, 1, (.t 14)), (1, 1, (.t 17))]), ⟨none, none, 0, .act (.st 2 (.t 2) (.t 18))⟩])
 .ret)))
theorem apiaryref1_conj_triple : Fun P0 47 1 [(2, false, some (53, (some 2)))] apiaryref1_conj_pc := fun_mk Go.Proofs.Tryz.func47 rfl (by decide) (by kernel_rfl) (by decide) rfl (by kernel_rfl) (by kernel_rfl) (by decide)
noncomputable def apiaryref1_size_pc : PC :=
  (.seq (.reg [p_s 2 (.mov (o_i 0))])
 (.seq (.seq (.reg [p_m 3 0, p_s 4 (.bin .lss (.t 3) (o_i 0))])
 (.cond (.t 4)
 (.seq (.reg [p_m 5 0, p_s 6 (.un .neg (.t 5)), p_m 2 6])
 .ret)
 .skip))
 (.seq (.reg [p_m 7 0, p_m 2 7])
 .ret)))
theorem apiaryref1_size_triple : Fun P0 121 1 [(2, false, none)] apiaryref1_size_pc := fun_mk Go.Proofs.Tryz.func121 rfl (by decide) (by kernel_rfl) (by decide) rfl (by kernel_rfl) (by kernel_rfl) (by decide)
noncomputable def apiaryref1_holds_pc : PC :=
  (.seq (.reg [p_s 6 (.mov (.c (.r (.v (.bool false)))))])
 (.seq (.reg [p_m 7 0, p_s 8 (.bin .mul (o_i 2) (.t 7)), p_m 9 1, p_s 10 (.bin .add (.t 8) (.t 9)), p_c 11 1 121 [.t 10], p_m 12 2, p_s 13 (.bin .leq (.t 11) (.t 12)), p_m 14 13,
 p_g 15 14 true (.mov (.t 0)), p_g 16 14 true (.mov (.t 1)), p_g 17 14 true (.bin .mul (o_i 2) (.t 16)), p_g 18 14 true (.bin .add (.t 15) (.t 17)), ⟨(some 19), (some (14, true)), 2, .call 121 [(.t 18)]⟩,
 p_g 20 14 true (.mov (.t 2)), p_g 21 14 true (.bin .leq (.t 19) (.t 20)), p_s 22 (.pick (.t 14) (.t 21) (.c (.r (.v (.bool false))))), p_m 23 22, p_g 24 23 true (.mov (.t 0)),
 p_g 25 23 true (.mov (.t 1)), p_g 26 23 true (.bin .sub (.t 24) (.t 25)), ⟨(some 27), (some (23, true)), 3, .call 121 [(.t 26)]⟩, p_g 28 23 true (.mov (.t 2)), p_g 29 23 true (.bin .leq (.t 27) (.t 28)),
 p_s 30 (.pick (.t 23) (.t 29) (.c (.r (.v (.bool false))))), p_m 6 30])
 .ret))
theorem apiaryref1_holds_triple : Fun P0 85 3 [(6, false, none)] apiaryref1_holds_pc := fun_mk Go.Proofs.Tryz.func85 rfl (by decide) (by kernel_rfl) (by decide) rfl (by kernel_rfl) (by kernel_rfl) (by decide)
noncomputable def apiaryref1_Round_pc : PC :=
  (.seq (.reg [p_a 2 (.box (.t 0)), p_a 4 (.new [(.r (.v (.int .i64 0))), (.r (.v (.int .i64 0)))]), p_s 5 (.mov (.c (.r (.v (.bool false)))))])
 (.seq (.seq (.reg [p_m 14 1, p_s 15 (.bin .lss (.t 14) (o_i 1)), p_m 16 15, p_g 17 16 false (.mov (.t 1)), p_g 18 16 false (.bin .gtr (.t 17) (o_i 1125899906842624)), p_s 19 (.pick (.t 16) (.c (.r (.v (.bool true)))) (.t 18)),
 p_m 20 19, p_g 21 20 false (.fa 0 (.t 2)), p_g 22 20 false (.ld none (.t 21)), p_g 23 20 false (.bin .lss (.t 22) (o_i (-1152921504606846976))), p_s 24 (.pick (.t 20) (.c (.r (.v (.bool true)))) (.t 23)),
 p_m 25 24, p_g 26 25 false (.fa 0 (.t 2)), p_g 27 25 false (.ld none (.t 26)), p_g 28 25 false (.bin .gtr (.t 27) (o_i 1152921504606846976)), p_s 29 (.pick (.t 25) (.c (.r (.v (.bool true)))) (.t 28)),
 p_m 30 29, p_g 31 30 false (.fa 1 (.t 2)), p_g 32 30 false (.ld none (.t 31)), p_g 33 30 false (.bin .lss (.t 32) (o_i (-1152921504606846976))), p_s 34 (.pick (.t 30) (.c (.r (.v (.bool true)))) (.t 33)),
 p_m 35 34, p_g 36 35 false (.fa 1 (.t 2)), p_g 37 35 false (.ld none (.t 36)), p_g 38 35 false (.bin .gtr (.t 37) (o_i 1152921504606846976)), p_s 39 (.pick (.t 35) (.c (.r (.v (.bool true)))) (.t 38))])
 (.cond (.t 39)
 (.seq (.reg [p_s 40 (.build [(.r (.v (.int .i64 0))), (.r (.v (.int .i64 0)))] []), ⟨none, none, 0, .act (.st 2 (.t 4) (.t 40))⟩, p_s 5 (.mov (.c (.r (.v (.bool false)))))])
 .ret)
 .skip))
 (.seq (.reg [p_s 42 (.fa 0 (.t 2)), p_s 43 (.ld none (.t 42)), p_m 44 1, p_c 45 1 84 [.t 43, .t 44], p_m 41 45, p_s 46 (.ext (.t 41) 0), p_s 47 (.ext (.t 41) 1), p_s 48 (.ext (.t 41) 2),
 p_m 6 46, p_m 7 47, p_m 8 48])
 (.seq (.reg [p_s 50 (.fa 1 (.t 2)), p_s 51 (.ld none (.t 50)), p_m 52 1, p_c 53 2 84 [.t 51, .t 52], p_m 49 53, p_s 54 (.ext (.t 49) 0), p_s 55 (.ext (.t 49) 1), p_s 56 (.ext (.t 49) 2),
 p_m 9 54, p_m 10 55, p_m 11 56])
 (.seq (.seq (.reg [p_s 12 (.mov (o_i (-1)))])
 (.block 0 (.loop (.seq (.seq (.reg [p_m 57 12, p_s 58 (.bin .leq (.t 57) (o_i 2))])
 (.cond (.t 58)
 .skip
 (.exit 0)))
 (.seq (.block 1 (.seq (.reg [p_s 13 (.mov (o_i (-1)))])
 (.block 2 (.loop (.seq (.seq (.reg [p_m 61 13, p_s 62 (.bin .leq (.t 61) (o_i 2))])
 (.cond (.t 62)
 .skip
 (.exit 2)))
 (.seq (.block 3 (.seq (.reg [p_m 65 7, p_m 66 12, p_m 67 1, p_s 68 (.bin .mul (.t 66) (.t 67)), p_s 69 (.bin .sub (.t 65) (.t 68)), p_m 70 10, p_m 71 13, p_m 72 1, p_s 73 (.bin .mul (.t 71) (.t 72)),
 p_s 74 (.bin .sub (.t 70) (.t 73)), p_m 75 1, p_c 76 3 85 [.t 69, .t 74, .t 75]])
 (.cond (.t 76)
 (.seq (.reg [p_m 77 6, p_m 78 12, p_s 79 (.bin .add (.t 77) (.t 78)), p_m 80 9, p_m 81 13, p_s 82 (.bin .add (.t 80) (.t 81)), p_s 83 (.build [(.r (.v (.int .i64 0))), (.r (.v (.int .i64 0)))] [(0, 1, (.t 79)), (1, 1, (.t 82))]),
 ⟨none, none, 0, .act (.st 2 (.t 4) (.t 83))⟩, p_s 5 (.mov (.c (.r (.v (.bool true)))))])
 .ret)
 .skip)))
 (.reg [p_m 63 13, p_s 64 (.bin .add (.t 63) (o_i 1)), p_m 13 64])))))))
 (.reg [p_m 59 12, p_s 60 (.bin .add (.t 59) (o_i 1)), p_m 12 60]))))))
 (.seq (.reg [p_s 84 (.build [(.r (.v (.int .i64 0))), (.r (.v (.int .i64 0)))] []), ⟨none, none, 0, .act (.st 2 (.t 4) (.t 84))⟩, p_s 5 (.mov (.c (.r (.v (.bool false)))))])
 .ret))))))
theorem apiaryref1_Round_triple : Fun P0 48 2 [(4, false, some (53, (some 2))), (5, false, none)] apiaryref1_Round_pc := fun_mk Go.Proofs.Tryz.func48 rfl (by decide) (by kernel_rfl) (by decide) rfl (by kernel_rfl) (by kernel_rfl) (by decide)
noncomputable def apiaryref1_World_pc : PC :=
  (.seq (.reg [p_s 4 (.mov (.c (.r (.v (.bool false)))))])
 (.seq (.reg [p_m 5 0, p_s 6 (.bin .geq (.t 5) (o_i 0)), p_m 7 6, p_g 8 7 true (.mov (.t 0)), p_g 9 7 true (.bin .lss (.t 8) (o_i 1073741824)), p_s 10 (.pick (.t 7) (.t 9) (.c (.r (.v (.bool false))))),
 p_m 11 10, p_g 12 11 true (.mov (.t 1)), p_g 13 11 true (.bin .geq (.t 12) (o_i 0)), p_s 14 (.pick (.t 11) (.t 13) (.c (.r (.v (.bool false))))), p_m 15 14, p_g 16 15 true (.mov (.t 1)),
 p_g 17 15 true (.bin .lss (.t 16) (o_i 1073741824)), p_s 18 (.pick (.t 15) (.t 17) (.c (.r (.v (.bool false))))), p_m 4 18])
 .ret))
theorem apiaryref1_World_triple : Fun P0 45 2 [(4, false, none)] apiaryref1_World_pc := fun_mk Go.Proofs.Tryz.func45 rfl (by decide) (by kernel_rfl) (by decide) rfl (by kernel_rfl) (by kernel_rfl) (by decide)
noncomputable def apiaryref1_Near_pc : PC :=
  (.seq (.reg [p_a 6 (.new [(.r (.v (.int .i64 0))), (.r (.v (.int .i64 0)))]), p_s 7 (.mov (.c (.r (.v (.bool false)))))])
 (.seq (.seq (.reg [p_m 10 0, p_m 11 1, p_c 12 1 45 [.t 10, .t 11], p_s 13 (.un .not (.t 12)), p_m 14 13, p_g 15 14 false (.mov (.t 2)), p_g 16 14 false (.bin .lss (.t 15) (o_i 0)),
 p_s 17 (.pick (.t 14) (.c (.r (.v (.bool true)))) (.t 16)), p_m 18 17, p_g 19 18 false (.mov (.t 2)), p_g 20 18 false (.bin .gtr (.t 19) (o_i 12)), p_s 21 (.pick (.t 18) (.c (.r (.v (.bool true)))) (.t 20))])
 (.cond (.t 21)
 (.seq (.reg [p_s 22 (.build [(.r (.v (.int .i64 0))), (.r (.v (.int .i64 0)))] []), ⟨none, none, 0, .act (.st 2 (.t 6) (.t 22))⟩, p_s 7 (.mov (.c (.r (.v (.bool false)))))])
 .ret)
 .skip))
 (.seq (.reg [p_m 24 0, p_s 25 (.bin .mul (o_i 45) (.t 24)), p_m 26 1, p_s 27 (.bin .mul (o_i 26) (.t 26)), p_s 28 (.bin .sub (.t 25) (.t 27)), p_m 29 1, p_s 30 (.bin .mul (o_i 52) (.t 29)),
 p_s 31 (.build [(.r (.v (.int .i64 0))), (.r (.v (.int .i64 0)))] [(0, 1, (.t 28)), (1, 1, (.t 30))]), p_m 32 2, p_s 33 (.bin .sub (o_i 12) (.t 32)), p_c 34 2 47 [.t 33],
 p_c 35 3 46 [.t 31, .t 34], p_m 23 35, p_s 36 (.ext (.t 23) 0), p_s 37 (.ext (.t 23) 1), p_a 8 (.new [(.r (.v (.int .i64 0))), (.r (.v (.int .i64 0)))]), ⟨none, none, 0, .act (.st 2 (.t 8) (.t 36))⟩,
 p_m 9 37])
 (.seq (.drw [p_s 38 (.ld (some 2) (.t 8)), p_m 39 2, p_s 40 (.bin .sub (o_i 12) (.t 39)), p_c 41 4 43 [.t 40], p_s 42 (.bin .mul (o_i 2340) (.t 41)), p_c 43 5 48 [.t 38, .t 42],
 p_s 44 (.ext (.t 43) 0), p_s 45 (.ext (.t 43) 1), ⟨none, none, 0, .act (.st 2 (.t 6) (.t 44))⟩, p_m 7 45]
 [[], [], [1], [1, 2], [1, 2, 3], [0, 1, 2, 3, 4], [0, 1, 2, 3, 4, 5], [0, 1, 2, 3, 4, 5], [0, 1, 2, 3, 4, 5, 6, 7], [0, 1, 2, 3, 4, 5, 6, 7, 8]])
 .ret))))
theorem apiaryref1_Near_triple : Fun P0 21 3 [(6, false, some (53, (some 2))), (7, false, none)] apiaryref1_Near_pc := fun_mk Go.Proofs.Tryz.func21 rfl (by decide) (by kernel_rfl) (by decide) rfl (by kernel_rfl) (by kernel_rfl) (by decide)
theorem rfloor_t (a b : Int) (ha : in64 a) (hb : in64 b) : Triple P0 84 [int .i64 a, int .i64 b] [] (.tup [int .i64 (if 0 < b then a / b else 0), int .i64 (if 0 < b then a % b else 0), bl (decide (0 < b))]) [] := by
 refine apiaryref1_Floor_triple rfl (by decide) ?_
 simp only [apiaryref1_Floor_pc, push_cast, ↓reduceIte, reduceCtorEq, zB, zE, zA, zS, zL, zD, zM]
 refine cnd_mk (fun h => ?_) (fun h => ?_)
 ·simp only [push_cast, ↓reduceIte, reduceCtorEq, zB, zE, zA, zS, zL, zD, zM]
  simp at h
  have : ¬ 0 < b := by omega
  simp [this]
 ·simp only [push_cast, ↓reduceIte, reduceCtorEq, zB, zE, zA, zS, zL, zD, zM]
  simp at h
  refine ⟨by omega, by omega, by kernel_rfl, ?_⟩
  obtain ⟨q1, q2, q3⟩ := floor_facts ha h
  have hw : IntKind.i64.wrap (a.tdiv b) = a.tdiv b := wrap_i64_tdiv a b ha.1 ha.2 (by omega)
  rw [hw]
  refine cnd_mk (fun h' => ?_) (fun h' => ?_)
  ·simp only [push_cast, ↓reduceIte, reduceCtorEq, zB, zE, zA, zS, zL, zD, zM]
   simp at h'
   obtain ⟨e1, e2⟩ := q2 h'
   refine tup3 (int_eq ?_) (int_eq ?_) (bl_eq ?_)
   ·rw [if_pos h, ← e1, wrap_id]
    unfold in64 at ha; rw [e1]; omega
   ·rw [if_pos h, ← e2, wrap_id]
    have h5 := zal a h
    have h6 := zam a (show b ≠ 0 by omega)
    rw [e2]
    unfold in64 at hb; omega
   ·simp [h]
  ·simp only [push_cast, ↓reduceIte, reduceCtorEq, zB, zE, zA, zS, zL, zD, zM]
   simp at h'
   obtain ⟨e1, e2⟩ := q3 h'
   refine tup3 (int_eq ?_) (int_eq ?_) (bl_eq ?_)
   ·rw [if_pos h, e1]
   ·rw [if_pos h, e2]
   ·simp [h]
theorem rtwo_t (a b : Int) (ha : in64 a) (hb : in64 b) : Triple P0 80 [wide a, wide b] [] (.tup [Ei.v ⟨a, b⟩, bl true]) [] := by
 refine apiaryref1_Two_triple rfl (by decide) ?_
 simp only [apiaryref1_Two_pc, wide, push_cast, ↓reduceIte, reduceCtorEq, zB, zE, zA, zS, zL, zD, zM]
 have ha' := ha
 have hb' := hb
 unfold in64 at ha' hb'
 refine call_as (as' := [wide a]) rfl ?_
 refine call_mk (small_t a (by omega)) rfl trivial ?_
 rw [sm_in ha]
 simp only [push_cast, ↓reduceIte, reduceCtorEq, zB, zE, zA, zS, zL, zD, zM]
 refine call_as (as' := [wide b]) rfl ?_
 refine call_mk (small_t b (by omega)) rfl trivial ?_
 rw [sm_in hb]
 simp only [Ei.v, Ei.rv, push_cast, ↓reduceIte, reduceCtorEq, zB, zE, zA, zS, zL, zD, zM]
theorem rmul_t (x y : Ei) (hx : x.In M63) (hy : y.In M63) (hz : (x.mul y).In M63) : Triple P0 46 [x.v, y.v] [] (.tup [(x.mul y).v, bl true]) [] := by
 refine apiaryref1_Mul_triple rfl (by decide) ?_
 simp only [apiaryref1_Mul_pc, Ei.v, Ei.rv, push_cast, ↓reduceIte, reduceCtorEq, zB, zE, zA, zS, zL, zD, zM]
 refine call_mk (times_t x.b y.b hx.ok.2 hy.ok.2) rfl trivial ?_
 simp only [wide, push_cast, ↓reduceIte, reduceCtorEq, zB, zE, zA, zS, zL, zD, zM]
 refine dcall_mk (times_t x.a y.a hx.ok.1 hy.ok.1) rfl trivial ?_
 simp only [wide, push_cast, ↓reduceIte, reduceCtorEq, zB, zE, zA, zS, zL, zD, zM]
 refine dcall_as (as' := [wide (x.b * y.b)]) rfl ?_
 refine dcall_mk (turned_t _) rfl trivial ?_
 simp only [wide, push_cast, ↓reduceIte, reduceCtorEq, zB, zE, zA, zS, zL, zD, zM]
 refine dcall_as (as' := [wide (x.a * y.a), wide (-(x.b * y.b))]) rfl ?_
 refine dcall_mk (plus_t _ _) rfl trivial ?_
 simp only [wide, push_cast, ↓reduceIte, reduceCtorEq, zB, zE, zA, zS, zL, zD, zM]
 refine dcall_mk (times_t x.a y.b hx.ok.1 hy.ok.2) rfl trivial ?_
 simp only [wide, push_cast, ↓reduceIte, reduceCtorEq, zB, zE, zA, zS, zL, zD, zM]
 refine dcall_mk (times_t x.b y.a hx.ok.2 hy.ok.1) rfl trivial ?_
 simp only [wide, push_cast, ↓reduceIte, reduceCtorEq, zB, zE, zA, zS, zL, zD, zM]
 refine dcall_as (as' := [wide (x.a * y.b), wide (x.b * y.a)]) rfl ?_
 refine dcall_mk (plus_t _ _) rfl trivial ?_
 simp only [wide, push_cast, ↓reduceIte, reduceCtorEq, zB, zE, zA, zS, zL, zD, zM]
 refine dcall_as (as' := [wide (x.a * y.b + x.b * y.a), wide (x.b * y.b)]) rfl ?_
 refine dcall_mk (plus_t _ _) rfl trivial ?_
 simp only [wide, push_cast, ↓reduceIte, reduceCtorEq, zB, zE, zA, zS, zL, zD, zM]
 refine dcall_as (as' := [wide (x.a * y.a + -(x.b * y.b)), wide (x.a * y.b + x.b * y.a + x.b * y.b)]) rfl ?_
 have e : x.a * y.a + -(x.b * y.b) = (x.mul y).a := by simp only [Ei.mul]; omega
 have e' : x.a * y.b + x.b * y.a + x.b * y.b = (x.mul y).b := rfl
 rw [e, e']
 refine dcall_mk (rtwo_t _ _ hz.ok.1 hz.ok.2) rfl trivial ?_
 simp only [Ei.v, Ei.rv, push_cast, ↓reduceIte, reduceCtorEq, zB, zE, zA, zS, zL, zD, zM]
 kernel_rfl
theorem rbeta_t (k : Int) (hk : 0 ≤ k ∧ k ≤ 12) : Triple P0 83 [int .i64 k] [] (.tup [(betaN k.toNat).v, bl true]) [] := by
 refine apiaryref1_Beta_triple rfl (by decide) ?_
 have c1 : decide (k < 0) = false := by simp; omega
 have c2 : decide (k > 20) = false := by simp; omega
 simp only [apiaryref1_Beta_pc, c1, c2, push_cast, ↓reduceIte, reduceCtorEq, zB, zE, zA, zS, zL, zD, zM]
 refine run_loop [(5, false), (0, false), (4, false), (2, false)] (fun vs pos los => ∃ i : Int, 0 ≤ i ∧ i ≤ k ∧ vs = [int .i64 i, int .i64 k, .ptr 2000000 0 0, .ptr 2000001 0 0] ∧ pos = [] ∧ los = [.box [int .i64 (betaN i.toNat).a, int .i64 (betaN i.toNat).b], .box [int .i64 0, int .i64 0]])
  (fun vs _ _ => match vs with | .r (.v (.int _ j)) :: _ => (k - j).toNat | _ => 0) rfl ?_ ?_
 ·simp only [push_cast, ↓reduceIte, reduceCtorEq, zB, zE, zA, zS, zL, zD, zM]
  exact ⟨0, by omega, by omega, rfl, rfl⟩
 ·rintro vs pos los ⟨i, i0, ik, rfl, rfl, rfl⟩
  simp only [push_cast, ↓reduceIte, reduceCtorEq, zB, zE, zA, zS, zL, zD, zM]
  refine cnd_mk (fun h => ?_) (fun h => ?_)
  ·simp only [decide_eq_true_eq] at h
   simp only [push_cast, ↓reduceIte, reduceCtorEq, zB, zE, zA, zS, zL, zD, zM]
   have h1 := betaN_in i.toNat (by omega)
   have h2 := betaN_in (i.toNat + 1) (by omega)
   refine call_as (as' := [(betaN i.toNat).v, beta.v]) rfl ?_
   refine call_mk (rmul_t _ _ (h1.mono (by decide)) (by unfold Ei.In; decide) (h2.mono (by decide))) rfl trivial ?_
   simp only [Ei.v, Ei.rv, push_cast, ↓reduceIte, reduceCtorEq, zB, zE, zA, zS, zL, zD, zM]
   rw [show IntKind.i64.wrap (i + 1) = i + 1 from wrap_id (by omega)]
   refine ⟨⟨i + 1, by omega, by omega, rfl, ?_⟩, by omega⟩
   rw [show (i + 1).toNat = i.toNat + 1 by omega]
   rfl
  ·simp only [decide_eq_false_iff_not] at h
   have : i = k := by omega
   subst this
   simp only [Ei.v, Ei.rv, push_cast, ↓reduceIte, reduceCtorEq, zB, zE, zA, zS, zL, zD, zM]
theorem rconj_t (k : Int) (hk : 0 ≤ k ∧ k ≤ 12) : Triple P0 47 [int .i64 k] [] ((betaN k.toNat).conj.v) [] := by
 refine apiaryref1_conj_triple rfl (by decide) ?_
 simp only [apiaryref1_conj_pc, push_cast, ↓reduceIte, reduceCtorEq, zB, zE, zA, zS, zL, zD, zM]
 refine call_mk (rbeta_t k hk) rfl trivial ?_
 have hb := betaN_in k.toNat (by omega)
 unfold Ei.In at hb
 simp only [Ei.v, Ei.rv, Ei.conj, push_cast, ↓reduceIte, reduceCtorEq, zB, zE, zA, zS, zL, zD, zM]
 rw [wrap_id (by omega), wrap_id (by omega), Int.zero_sub]
theorem rsize_t (n : Int) (h : in64 n) (h' : n ≠ -9223372036854775808) : Triple P0 121 [int .i64 n] [] (int .i64 n.natAbs) [] := by
 refine apiaryref1_size_triple rfl (by decide) ?_
 simp only [apiaryref1_size_pc, push_cast, ↓reduceIte, reduceCtorEq, zB, zE, zA, zS, zL, zD, zM]
 unfold in64 at h
 refine cnd_mk (fun hc => ?_) (fun hc => ?_)
 ·simp at hc
  simp only [push_cast, ↓reduceIte, reduceCtorEq, zB, zE, zA, zS, zL, zD, zM]
  rw [wrap_id (by omega)]
  rw [show 0 - n = (n.natAbs : Int) by omega]
 ·simp at hc
  simp only [push_cast, ↓reduceIte, reduceCtorEq, zB, zE, zA, zS, zL, zD, zM]
  rw [show n = (n.natAbs : Int) by omega]
  simp
theorem rholds_t (s t d : Int) (hs : -9007199254740992 ≤ s ∧ s ≤ 9007199254740992) (ht : -9007199254740992 ≤ t ∧ t ≤ 9007199254740992) : Triple P0 85 [int .i64 s, int .i64 t, int .i64 d] [] (bl (decide (holds d s t))) [] := by
 refine apiaryref1_holds_triple rfl (by decide) ?_
 simp only [apiaryref1_holds_pc, push_cast, ↓reduceIte, reduceCtorEq, zB, zE, zA, zS, zL, zD, zM]
 rw [show IntKind.i64.wrap (2 * s) = 2 * s from wrap_id (by omega), show IntKind.i64.wrap (2 * s + t) = 2 * s + t from wrap_id (by omega)]
 refine call_mk (rsize_t _ (by unfold in64; omega) (by omega)) rfl trivial ?_
 by_cases h1 : ((2 * s + t).natAbs : Int) ≤ d
 ·have g1 : decide (((2 * s + t).natAbs : Int) ≤ d) = true := decide_eq_true h1
  simp only [g1, push_cast, ↓reduceIte, reduceCtorEq, zB, zE, zA, zS, zL, zD, zM]
  rw [show IntKind.i64.wrap (2 * t) = 2 * t from wrap_id (by omega), show IntKind.i64.wrap (s + 2 * t) = s + 2 * t from wrap_id (by omega)]
  refine call_mk (rsize_t _ (by unfold in64; omega) (by omega)) rfl trivial ?_
  by_cases h2 : ((s + 2 * t).natAbs : Int) ≤ d
  ·have g2 : decide (((s + 2 * t).natAbs : Int) ≤ d) = true := decide_eq_true h2
   simp only [g2, push_cast, ↓reduceIte, reduceCtorEq, zB, zE, zA, zS, zL, zD, zM]
   rw [show IntKind.i64.wrap (s - t) = s - t from wrap_id (by omega)]
   refine call_mk (rsize_t _ (by unfold in64; omega) (by omega)) rfl trivial ?_
   simp only [push_cast, ↓reduceIte, reduceCtorEq, zB, zE, zA, zS, zL, zD, zM]
   refine bl_iff ?_
   simp only [decide_eq_true_eq]
   unfold holds
   omega
  ·have g2 : decide (((s + 2 * t).natAbs : Int) ≤ d) = false := decide_eq_false h2
   simp only [g2, push_cast, ↓reduceIte, reduceCtorEq, zB, zE, zA, zS, zL, zD, zM]
   rw [decide_eq_false (show ¬ holds d s t by unfold holds; omega)]
 ·have g1 : decide (((2 * s + t).natAbs : Int) ≤ d) = false := decide_eq_false h1
  simp only [g1, push_cast, ↓reduceIte, reduceCtorEq, zB, zE, zA, zS, zL, zD, zM]
  rw [decide_eq_false (show ¬ holds d s t by unfold holds; omega)]
theorem rround_t (u : Ei) (d : Int) (hu : u.In 1152921504606846976) (hd : 1 ≤ d ∧ d ≤ 1125899906842624) : Triple P0 48 [u.v, int .i64 d] [] (.tup [(u.round d).v, bl true]) [] := by
 refine apiaryref1_Round_triple rfl (by decide) ?_
 have hu' := hu
 unfold Ei.In at hu'
 have c1 : decide (d < 1) = false := by simp; omega
 have c2 : decide (d > 1125899906842624) = false := by simp; omega
 have c3 : decide (u.a < -1152921504606846976) = false := by simp; omega
 have c4 : decide (u.a > 1152921504606846976) = false := by simp; omega
 have c5 : decide (u.b < -1152921504606846976) = false := by simp; omega
 have c6 : decide (u.b > 1152921504606846976) = false := by simp; omega
 have ia : in64 u.a := by unfold in64; omega
 have ib : in64 u.b := by unfold in64; omega
 have ed : in64 d := by unfold in64; omega
 simp only [apiaryref1_Round_pc, Ei.v, Ei.rv, c1, c2, c3, c4, c5, c6, push_cast, ↓reduceIte, reduceCtorEq, zB, zE, zA, zS, zL, zD, zM]
 refine call_mk (rfloor_t _ _ ia ed) rfl trivial ?_
 have hd0 : 0 < d := by omega
 simp only [hd0, push_cast, ↓reduceIte, reduceCtorEq, zB, zE, zA, zS, zL, zD, zM]
 refine call_mk (rfloor_t _ _ ib ed) rfl trivial ?_
 simp only [hd0, push_cast, ↓reduceIte, reduceCtorEq, zB, zE, zA, zS, zL, zD, zM]
 have ha : 0 ≤ u.a % d ∧ u.a % d < d := ⟨zam _ (by omega), zal _ hd0⟩
 have hb : 0 ≤ u.b % d ∧ u.b % d < d := ⟨zam _ (by omega), zal _ hd0⟩
 have hqa : -1152921504606846976 ≤ u.a / d ∧ u.a / d ≤ 1152921504606846976 := div_in hu'.1 hd.1
 have hqb : -1152921504606846976 ≤ u.b / d ∧ u.b / d ≤ 1152921504606846976 := div_in hu'.2 hd.1
 have hround : u.round d = ⟨u.a / d + (near0 d (u.a % d) (u.b % d)).a, u.b / d + (near0 d (u.a % d) (u.b % d)).b⟩ := rfl
 generalize u.a % d = a at *
 generalize u.b % d = b at *
 generalize u.a / d = qa at *
 generalize u.b / d = qb at *
 have hmul : ∀ i : Int, -1 ≤ i → i ≤ 2 → -1125899906842624 ≤ i * d ∧ i * d ≤ 2251799813685248 := fun i h1 h2 => by
  rcases (show i = -1 ∨ i = 0 ∨ i = 1 ∨ i = 2 by omega) with rfl | rfl | rfl | rfl <;> omega
 refine run_loop [(12, false), (1, false), (6, false), (7, false), (9, false), (10, false), (4, false)] (fun vs pos los => ∃ i : Int, (-1 ≤ i ∧ i ≤ 3) ∧ (∀ i' k' : Int, -1 ≤ i' → i' < i → -1 ≤ k' → k' ≤ 2 → ¬ holds d (a - i' * d) (b - k' * d)) ∧ vs = [int .i64 i, int .i64 d, int .i64 qa, int .i64 a, int .i64 qb, int .i64 b, .ptr 2000000 0 0] ∧ pos = [] ∧ los = [.box [int .i64 0, int .i64 0]])
  (fun vs _ _ => match vs with | .r (.v (.int _ j)) :: _ => (3 - j).toNat | _ => 0) rfl ?_ ?_
 ·simp only [push_cast, ↓reduceIte, reduceCtorEq, zB, zE, zA, zS, zL, zD, zM]
  exact ⟨-1, by omega, fun i' k' h1 h2 => by omega, rfl⟩
 ·rintro vs pos los ⟨i, i3, hno, rfl, rfl, rfl⟩
  simp only [push_cast, ↓reduceIte, reduceCtorEq, zB, zE, zA, zS, zL, zD, zM]
  refine cnd_mk (fun h => ?_) (fun h => ?_)
  ·have hi : i ≤ 2 := by simpa using h
   have mi := hmul i i3.1 hi
   simp only [push_cast, ↓reduceIte, reduceCtorEq, zB, zE, zA, zS, zL, zD, zM]
   refine run_loop [(13, false), (12, false), (1, false), (6, false), (7, false), (9, false), (10, false), (4, false)] (fun vs pos los => ∃ k : Int, (-1 ≤ k ∧ k ≤ 3) ∧ (∀ k' : Int, -1 ≤ k' → k' < k → ¬ holds d (a - i * d) (b - k' * d)) ∧ vs = [int .i64 k, int .i64 i, int .i64 d, int .i64 qa, int .i64 a, int .i64 qb, int .i64 b, .ptr 2000000 0 0] ∧ pos = [] ∧ los = [.box [int .i64 0, int .i64 0]])
    (fun vs _ _ => match vs with | .r (.v (.int _ j)) :: _ => (3 - j).toNat | _ => 0) rfl ?_ ?_
   ·simp only [push_cast, ↓reduceIte, reduceCtorEq, zB, zE, zA, zS, zL, zD, zM]
    exact ⟨-1, by omega, fun k' h1 h2 => by omega, rfl⟩
   ·rintro vs pos los ⟨k, k3, hnk, rfl, rfl, rfl⟩
    simp only [push_cast, ↓reduceIte, reduceCtorEq, zB, zE, zA, zS, zL, zD, zM]
    refine cnd_mk (fun h => ?_) (fun h => ?_)
    ·have hk : k ≤ 2 := by simpa using h
     have mk := hmul k k3.1 hk
     simp only [push_cast, ↓reduceIte, reduceCtorEq, zB, zE, zA, zS, zL, zD, zM]
     rw [show IntKind.i64.wrap (i * d) = i * d from wrap_id (by omega), show IntKind.i64.wrap (k * d) = k * d from wrap_id (by omega), show IntKind.i64.wrap (a - i * d) = a - i * d from wrap_id (by omega), show IntKind.i64.wrap (b - k * d) = b - k * d from wrap_id (by omega)]
     refine call_mk (rholds_t _ _ d (by omega) (by omega)) rfl trivial ?_
     simp only [push_cast, ↓reduceIte, reduceCtorEq, zB, zE, zA, zS, zL, zD, zM]
     refine cnd_mk (fun h => ?_) (fun h => ?_)
     ·have hh : holds d (a - i * d) (b - k * d) := by simpa using h
      have hn := near0_first ha hb ⟨i3.1, hi⟩ ⟨k3.1, hk⟩ hh (fun k' h1 h2 => hnk k' h1 h2) (fun i' k' h1 h2 h3 h4 => hno i' k' h1 h2 h3 h4)
      rw [hn] at hround
      simp only [hround, Ei.v, Ei.rv, push_cast, ↓reduceIte, reduceCtorEq, zB, zE, zA, zS, zL, zD, zM]
      rw [wrap_id (by omega), wrap_id (by omega)]
     ·have hh : ¬ holds d (a - i * d) (b - k * d) := by simpa using h
      simp only [push_cast, ↓reduceIte, reduceCtorEq, zB, zE, zA, zS, zL, zD, zM]
      rw [wrap_id (by omega)]
      refine ⟨⟨k + 1, by omega, fun k' h1 h2 => ?_, rfl⟩, by omega⟩
      by_cases hkk : k' = k
      ·subst hkk; exact hh
      ·exact hnk k' h1 (by omega)
    ·have hk : k = 3 := by simp at h; omega
     subst hk
     simp only [push_cast, ↓reduceIte, reduceCtorEq, zB, zE, zA, zS, zL, zD, zM]
     rw [wrap_id (by omega)]
     refine ⟨⟨i + 1, by omega, fun i' k' h1 h2 h3 h4 => ?_, rfl⟩, by omega⟩
     by_cases hii : i' = i
     ·subst hii; exact hnk k' h3 (by omega)
     ·exact hno i' k' h1 (by omega) h3 h4
  ·have hi : i = 3 := by simp at h; omega
   subst hi
   exact (near0_ex ha hb hno).elim
theorem rworld_t (x y : Int) : Triple P0 45 [int .i64 x, int .i64 y] [] (bl (decide (inW x y))) [] := by
 refine apiaryref1_World_triple rfl (by decide) ?_
 simp only [apiaryref1_World_pc, push_cast, ↓reduceIte, reduceCtorEq, zB, zE, zA, zS, zL, zD, zM]
 repeat refine And.intro (by simp +contextual) ?_
 refine bl_iff ?_
 unfold inW
 by_cases h1 : 0 ≤ x <;> by_cases h2 : x < 1073741824 <;> by_cases h3 : 0 ≤ y <;> by_cases h4 : y < 1073741824 <;> simp [h1, h2, h3, h4]
theorem rnear_t (x y r : Int) (h : inW x y) (hr : 0 ≤ r ∧ r ≤ 12) : Triple P0 21 [int .i64 x, int .i64 y, int .i64 r] [] (.tup [(near x y r.toNat).v, bl true]) [] := by
 refine apiaryref1_Near_triple rfl (by decide) ?_
 have c1 : decide (r < 0) = false := by simp; omega
 have c2 : decide (r > 12) = false := by simp; omega
 simp only [apiaryref1_Near_pc, push_cast, ↓reduceIte, reduceCtorEq, zB, zE, zA, zS, zL, zD, zM]
 refine call_mk (rworld_t x y) rfl trivial ?_
 rw [decide_eq_true h]
 simp only [c1, c2, push_cast, ↓reduceIte, reduceCtorEq, zB, zE, zA, zS, zL, zD, zM]
 have hk : (12 - r).toNat = 12 - r.toNat := by omega
 have hk2 : (12 - r).toNat ≤ 12 := by omega
 have h' := h
 unfold inW at h'
 rw [show IntKind.i64.wrap (45 * x) = 45 * x from wrap_id (by omega), show IntKind.i64.wrap (26 * y) = 26 * y from wrap_id (by omega), show IntKind.i64.wrap (52 * y) = 52 * y from wrap_id (by omega), show IntKind.i64.wrap (45 * x - 26 * y) = 45 * x - 26 * y from wrap_id (by omega), show IntKind.i64.wrap (12 - r) = 12 - r from wrap_id (by omega)]
 refine call_mk (rconj_t (12 - r) (by omega)) rfl trivial ?_
 have hb := betaN_in (12 - r).toNat hk2
 have hm := axm_In h hk2
 simp only [Ei.v, Ei.rv, push_cast, ↓reduceIte, reduceCtorEq, zB, zE, zA, zS, zL, zD, zM]
 refine call_as (as' := [(ax x y).v, (betaN (12 - r).toNat).conj.v]) rfl ?_
 refine call_mk (rmul_t _ _ ((ax_In h).mono (by decide)) ((conj_In hb).mono (by decide)) (hm.mono (by decide))) rfl trivial ?_
 simp only [Ei.v, Ei.rv, push_cast, ↓reduceIte, reduceCtorEq, zB, zE, zA, zS, zL, zD, zM]
 rw [show IntKind.i64.wrap (12 - r) = 12 - r from wrap_id (by omega)]
 refine dcall_mk (seven_t (12 - r) (by omega) (by omega)) rfl trivial ?_
 simp only [push_cast, ↓reduceIte, reduceCtorEq, zB, zE, zA, zS, zL, zD, zM]
 have hp := p7 (12 - r).toNat hk2
 rw [show IntKind.i64.wrap (2340 * 7 ^ (12 - r).toNat) = 2340 * 7 ^ (12 - r).toNat from wrap_id (by omega)]
 refine dcall_as (as' := [((ax x y).mul (betaN (12 - r).toNat).conj).v, int .i64 (2340 * 7 ^ (12 - r).toNat)]) rfl ?_
 refine dcall_mk (rround_t _ _ (hm.mono (by decide)) (by omega)) rfl trivial ?_
 simp only [Ei.v, Ei.rv, near, hk, push_cast, ↓reduceIte, reduceCtorEq, zB, zE, zA, zS, zL, zD, zM]
 kernel_rfl

noncomputable def apiaryref1_Unit_pc : PC :=
  (.seq (.reg [p_a 2 (.new [(.r (.v (.int .i64 0))), (.r (.v (.int .i64 0)))])])
 (.seq (.reg [p_s 4 (.build [(.r (.v (.int .i64 0))), (.r (.v (.int .i64 0)))] [(0, 1, (o_i 1))]), p_s 5 (.build [(.r (.v (.int .i64 0))), (.r (.v (.int .i64 0)))] [(1, 1, (o_i 1))]),
 p_s 6 (.build [(.r (.v (.int .i64 0))), (.r (.v (.int .i64 0)))] [(0, 1, (o_i (-1))), (1, 1, (o_i 1))]), p_s 7 (.build [(.r (.v (.int .i64 0))), (.r (.v (.int .i64 0)))] [(0, 1, (o_i (-1)))]),
 p_s 8 (.build [(.r (.v (.int .i64 0))), (.r (.v (.int .i64 0)))] [(1, 1, (o_i (-1)))]), p_s 9 (.build [(.r (.v (.int .i64 0))), (.r (.v (.int .i64 0)))] [(0, 1, (o_i 1)), (1, 1, (o_i (-1)))]),
 p_s 10 (.build [(.r (.v (.int .i64 0))), (.r (.v (.int .i64 0))), (.r (.v (.int .i64 0))), (.r (.v (.int .i64 0))), (.r (.v (.int .i64 0))), (.r (.v (.int .i64 0))), (.r (.v (.int .i64 0))), (.r (.v (.int .i64 0))), (.r (.v (.int .i64 0))), (.r (.v (.int .i64 0))), (.r (.v (.int .i64 0))), (.r (.v (.int .i64 0)))] [(0, 2, (.t 4)), (2, 2, (.t 5)), (4, 2, (.t 6)), (6, 2, (.t 7)), (8, 2, (.t 8)), (10, 2, (.t 9))]),
 p_a 3 (.new [(.r (.v (.int .i64 0))), (.r (.v (.int .i64 0))), (.r (.v (.int .i64 0))), (.r (.v (.int .i64 0))), (.r (.v (.int .i64 0))), (.r (.v (.int .i64 0))), (.r (.v (.int .i64 0))), (.r (.v (.int .i64 0))), (.r (.v (.int .i64 0))), (.r (.v (.int .i64 0))), (.r (.v (.int .i64 0))), (.r (.v (.int .i64 0)))]),
 ⟨none, none, 0, .act (.st 12 (.t 3) (.t 10))⟩])
 (.seq (.reg [p_m 11 0, p_s 12 (.bin .rem (.t 11) (o_i 6)), p_s 13 (.bin .add (.t 12) (o_i 6)), p_s 14 (.bin .rem (.t 13) (o_i 6)), p_s 15 (.iaa 6 2 (.t 3) (.t 14)), p_s 16 (.ld (some 2) (.t 15)),
 ⟨none, none, 0, .act (.st 2 (.t 2) (.t 16))⟩])
 .ret)))
theorem apiaryref1_Unit_triple : Fun P0 86 1 [(2, false, some (53, (some 2)))] apiaryref1_Unit_pc := fun_mk Go.Proofs.Tryz.func86 rfl (by decide) (by kernel_rfl) (by decide) rfl (by kernel_rfl) (by kernel_rfl) (by decide)
noncomputable def apiaryref1_parent_pc : PC :=
  (.seq (.reg [p_a 1 (.box (.t 0)), p_a 2 (.new [(.r (.v (.int .i64 0))), (.r (.v (.int .i64 0)))]), p_s 3 (.mov (o_i 0))])
 (.seq (.reg [p_s 13 (.ld (some 2) (.t 1)), p_s 14 (.build [(.r (.v (.int .i64 0))), (.r (.v (.int .i64 0)))] [(0, 1, (o_i 3)), (1, 1, (o_i (-1)))]), p_c 15 1 46 [.t 13, .t 14],
 p_m 12 15, p_s 16 (.ext (.t 12) 0), p_s 17 (.ext (.t 12) 1), p_a 4 (.new [(.r (.v (.int .i64 0))), (.r (.v (.int .i64 0)))]), ⟨none, none, 0, .act (.st 2 (.t 4) (.t 16))⟩,
 p_m 5 17])
 (.seq (.reg [p_s 19 (.ld (some 2) (.t 4)), p_c 20 2 48 [(.t 19), (o_i 7)], p_m 18 20, p_s 21 (.ext (.t 18) 0), p_s 22 (.ext (.t 18) 1), p_a 6 (.new [(.r (.v (.int .i64 0))), (.r (.v (.int .i64 0)))]),
 ⟨none, none, 0, .act (.st 2 (.t 6) (.t 21))⟩, p_m 7 22])
 (.seq (.reg [p_s 24 (.ld (some 2) (.t 6)), p_s 25 (.build [(.r (.v (.int .i64 0))), (.r (.v (.int .i64 0)))] [(0, 1, (o_i 2)), (1, 1, (o_i 1))]), p_c 26 3 46 [.t 24, .t 25],
 p_m 23 26, p_s 27 (.ext (.t 23) 0), p_s 28 (.ext (.t 23) 1), p_a 8 (.new [(.r (.v (.int .i64 0))), (.r (.v (.int .i64 0)))]), ⟨none, none, 0, .act (.st 2 (.t 8) (.t 27))⟩,
 p_m 9 28])
 (.seq (.reg [p_s 29 (.fa 0 (.t 1)), p_s 30 (.ld none (.t 29)), p_s 31 (.fa 0 (.t 8)), p_s 32 (.ld none (.t 31)), p_s 33 (.bin .sub (.t 30) (.t 32)), p_s 34 (.fa 1 (.t 1)), p_s 35 (.ld none (.t 34)),
 p_s 36 (.fa 1 (.t 8)), p_s 37 (.ld none (.t 36)), p_s 38 (.bin .sub (.t 35) (.t 37)), p_s 39 (.build [(.r (.v (.int .i64 0))), (.r (.v (.int .i64 0)))] [(0, 1, (.t 33)), (1, 1, (.t 38))]),
 p_a 10 (.new [(.r (.v (.int .i64 0))), (.r (.v (.int .i64 0)))]), ⟨none, none, 0, .act (.st 2 (.t 10) (.t 39))⟩])
 (.seq (.seq (.reg [p_s 11 (.mov (o_i 0))])
 (.block 0 (.loop (.seq (.seq (.reg [p_m 40 11, p_s 41 (.bin .lss (.t 40) (o_i 6))])
 (.cond (.t 41)
 .skip
 (.exit 0)))
 (.seq (.block 1 (.seq (.drw [p_m 44 11, p_c 45 4 86 [.t 44], p_s 46 (.ld (some 2) (.t 10)), p_s 47 (.eqa false [0, 0] (.t 45) (.t 46))]
 [[], [0], [], [0, 1, 2]])
 (.cond (.t 47)
 (.seq (.reg [p_s 48 (.ld (some 2) (.t 6)), p_m 49 11, p_s 50 (.bin .add (.t 49) (o_i 1)), ⟨none, none, 0, .act (.st 2 (.t 2) (.t 48))⟩, p_m 3 50])
 .ret)
 .skip)))
 (.reg [p_m 42 11, p_s 43 (.bin .add (.t 42) (o_i 1)), p_m 11 43]))))))
 (.seq (.reg [p_s 51 (.ld (some 2) (.t 6)), ⟨none, none, 0, .act (.st 2 (.t 2) (.t 51))⟩, p_s 3 (.mov (o_i 0))])
 .ret)))))))
theorem apiaryref1_parent_triple : Fun P0 50 1 [(2, false, some (53, (some 2))), (3, false, none)] apiaryref1_parent_pc := fun_mk Go.Proofs.Tryz.func50 rfl (by decide) (by kernel_rfl) (by decide) rfl (by kernel_rfl) (by kernel_rfl) (by decide)
noncomputable def apiaryref1_Ok_pc : PC :=
  (.seq (.reg [p_a 1 (.box (.t 0)), p_s 2 (.mov (.c (.r (.v (.bool false)))))])
 (.seq (.seq (.reg [p_s 5 (.fa 0 (.t 1)), p_s 6 (.ld none (.t 5)), p_s 7 (.bin .lss (.t 6) (o_i 0)), p_m 8 7, p_g 9 8 false (.fa 0 (.t 1)), p_g 10 8 false (.ld none (.t 9)), p_g 11 8 false (.bin .gtr (.t 10) (o_i 12)),
 p_s 12 (.pick (.t 8) (.c (.r (.v (.bool true)))) (.t 11)), p_m 13 12, p_g 14 13 false (.fa 1 (.t 1)), p_g 15 13 false (.fa 0 (.t 14)), p_g 16 13 false (.ld none (.t 15)),
 p_g 17 13 false (.bin .lss (.t 16) (o_i (-1073741824))), p_s 18 (.pick (.t 13) (.c (.r (.v (.bool true)))) (.t 17)), p_m 19 18, p_g 20 19 false (.fa 1 (.t 1)), p_g 21 19 false (.fa 0 (.t 20)),
 p_g 22 19 false (.ld none (.t 21)), p_g 23 19 false (.bin .gtr (.t 22) (o_i 1073741824)), p_s 24 (.pick (.t 19) (.c (.r (.v (.bool true)))) (.t 23)), p_m 25 24,
 p_g 26 25 false (.fa 1 (.t 1)), p_g 27 25 false (.fa 1 (.t 26)), p_g 28 25 false (.ld none (.t 27)), p_g 29 25 false (.bin .lss (.t 28) (o_i (-1073741824))), p_s 30 (.pick (.t 25) (.c (.r (.v (.bool true)))) (.t 29)),
 p_m 31 30, p_g 32 31 false (.fa 1 (.t 1)), p_g 33 31 false (.fa 1 (.t 32)), p_g 34 31 false (.ld none (.t 33)), p_g 35 31 false (.bin .gtr (.t 34) (o_i 1073741824)),
 p_s 36 (.pick (.t 31) (.c (.r (.v (.bool true)))) (.t 35))])
 (.cond (.t 36)
 (.seq (.reg [p_s 2 (.mov (.c (.r (.v (.bool false)))))])
 .ret)
 .skip))
 (.seq (.reg [p_s 37 (.fa 1 (.t 1)), p_s 38 (.ld (some 2) (.t 37)), p_a 3 (.new [(.r (.v (.int .i64 0))), (.r (.v (.int .i64 0)))]), ⟨none, none, 0, .act (.st 2 (.t 3) (.t 38))⟩])
 (.seq (.seq (.reg [p_s 4 (.mov (o_i 0))])
 (.block 0 (.loop (.seq (.seq (.reg [p_m 39 4, p_s 40 (.fa 0 (.t 1)), p_s 41 (.ld none (.t 40)), p_s 42 (.bin .lss (.t 39) (.t 41))])
 (.cond (.t 42)
 .skip
 (.exit 0)))
 (.seq (.block 1 (.reg [p_s 46 (.ld (some 2) (.t 3)), p_c 47 1 50 [.t 46], p_m 45 47, p_s 48 (.ext (.t 45) 0), p_s 49 (.ext (.t 45) 1), ⟨none, none, 0, .act (.st 2 (.t 3) (.t 48))⟩]))
 (.reg [p_m 43 4, p_s 44 (.bin .add (.t 43) (o_i 1)), p_m 4 44]))))))
 (.seq (.reg [p_s 50 (.fa 0 (.t 3)), p_s 51 (.ld none (.t 50)), p_s 52 (.bin .geq (.t 51) (o_i (-512))), p_m 53 52, p_g 54 53 true (.fa 0 (.t 3)), p_g 55 53 true (.ld none (.t 54)),
 p_g 56 53 true (.bin .leq (.t 55) (o_i 511)), p_s 57 (.pick (.t 53) (.t 56) (.c (.r (.v (.bool false))))), p_m 58 57, p_g 59 58 true (.fa 1 (.t 3)), p_g 60 58 true (.ld none (.t 59)),
 p_g 61 58 true (.bin .geq (.t 60) (o_i (-512))), p_s 62 (.pick (.t 58) (.t 61) (.c (.r (.v (.bool false))))), p_m 63 62, p_g 64 63 true (.fa 1 (.t 3)), p_g 65 63 true (.ld none (.t 64)),
 p_g 66 63 true (.bin .leq (.t 65) (o_i 511)), p_s 67 (.pick (.t 63) (.t 66) (.c (.r (.v (.bool false))))), p_m 2 67])
 .ret)))))
theorem apiaryref1_Ok_triple : Fun P0 49 1 [(2, false, none)] apiaryref1_Ok_pc := fun_mk Go.Proofs.Tryz.func49 rfl (by decide) (by kernel_rfl) (by decide) rfl (by kernel_rfl) (by kernel_rfl) (by decide)
def vvB : List AV := [int .i64 1, int .i64 1, int .i64 (-1), int .i64 2, int .i64 (-2), int .i64 1, int .i64 (-1), int .i64 (-1), int .i64 1, int .i64 (-2), int .i64 2, int .i64 (-1)]
theorem runit_t (k : Int) (hk : 0 ≤ k ∧ k < 6) : Triple P0 86 [int .i64 k] [] ((uni k.toNat).v) [] := by
 refine apiaryref1_Unit_triple rfl (by decide) ?_
 have hm : (IntKind.i64.wrap (Int.tmod k 6 + 6)).tmod 6 = k := by
  rw [zao hk.1, wrap_id (by omega), zao (by omega)]; omega
 simp only [apiaryref1_Unit_pc, hm, Ei.v, Ei.rv, push_cast, ↓reduceIte, reduceCtorEq, zB, zE, zA, zS, zL, zD, zM]
 refine ⟨by decide, by decide, hk, by omega, ?_⟩
 rcases (show k = 0 ∨ k = 1 ∨ k = 2 ∨ k = 3 ∨ k = 4 ∨ k = 5 by omega) with rfl | rfl | rfl | rfl | rfl | rfl
 all_goals
  simp only [zab, Nat.zero_mul, Nat.add_zero, zad, uni_0, uni_1, uni_2, uni_3, uni_4, uni_5, push_cast, ↓reduceIte, reduceCtorEq, zB, zE, zA, zS, zL, zD, zM]
theorem rparent_t (z : Ei) (h : z.In 1073741824) : Triple P0 50 [z.v] [] (.tup [(pr z).v, int .i64 (dg z)]) [] := by
 refine apiaryref1_parent_triple rfl (by decide) ?_
 simp only [apiaryref1_parent_pc, Ei.v, Ei.rv, push_cast, ↓reduceIte, reduceCtorEq, zB, zE, zA, zS, zL, zD, zM]
 have h1 : (z.mul ⟨3, -1⟩).In 9663676416 := (mul_In h (show (⟨3, -1⟩ : Ei).In 3 by unfold Ei.In; decide)).mono (by decide)
 have h2 : (pr z).In 1073741824 := pr_In h (by decide)
 have h3 : ((pr z).mul beta).In 6442450944 := (mul_In h2 (show beta.In 2 by unfold Ei.In; decide)).mono (by decide)
 have hl := lft_In z
 refine call_as (as' := [z.v, Ei.v ⟨3, -1⟩]) rfl ?_
 refine call_mk (rmul_t _ _ (h.mono (by decide)) (show (⟨3, -1⟩ : Ei).In _ by unfold Ei.In; decide) (h1.mono (by decide))) rfl trivial ?_
 simp only [Ei.v, Ei.rv, push_cast, ↓reduceIte, reduceCtorEq, zB, zE, zA, zS, zL, zD, zM]
 refine call_as (as' := [(z.mul ⟨3, -1⟩).v, int .i64 7]) rfl ?_
 refine call_mk (rround_t _ 7 (h1.mono (by decide)) (by decide)) rfl trivial ?_
 rw [show (z.mul ⟨3, -1⟩).round 7 = pr z from rfl]
 simp only [Ei.v, Ei.rv, push_cast, ↓reduceIte, reduceCtorEq, zB, zE, zA, zS, zL, zD, zM]
 refine call_as (as' := [(pr z).v, beta.v]) rfl ?_
 refine call_mk (rmul_t _ _ (h2.mono (by decide)) (show beta.In _ by unfold Ei.In; decide) (h3.mono (by decide))) rfl trivial ?_
 have e1 : z.a - ((pr z).mul beta).a = (lft z).a := rfl
 have e2 : z.b - ((pr z).mul beta).b = (lft z).b := rfl
 unfold Ei.In at hl
 rw [← e1, ← e2] at hl
 simp only [Ei.v, Ei.rv, push_cast, ↓reduceIte, reduceCtorEq, zB, zE, zA, zS, zL, zD, zM]
 rw [show IntKind.i64.wrap (z.a - ((pr z).mul beta).a) = (lft z).a by rw [← e1]; exact wrap_id (by omega), show IntKind.i64.wrap (z.b - ((pr z).mul beta).b) = (lft z).b by rw [← e2]; exact wrap_id (by omega)]
 rw [show dg z = dgOf (lft z) from rfl]
 generalize lft z = l at *
 generalize pr z = q at *
 refine run_loop [(11, false), (10, false), (6, false), (2, false)] (fun vs pos los => ∃ i : Int, (0 ≤ i ∧ i ≤ 6) ∧ (∀ j : Nat, (j : Int) < i → uni j ≠ l) ∧ vs = [int .i64 i, .ptr 2000000 0 0, .ptr 2000001 0 0, .ptr 2000002 0 0] ∧ pos = [] ∧ los = [.box [int .i64 l.a, int .i64 l.b], .box [int .i64 q.a, int .i64 q.b], .box [int .i64 0, int .i64 0]])
  (fun vs _ _ => match vs with | .r (.v (.int _ j)) :: _ => (6 - j).toNat | _ => 0) rfl ?_ ?_
 ·simp only [push_cast, ↓reduceIte, reduceCtorEq, zB, zE, zA, zS, zL, zD, zM]
  exact ⟨0, by omega, fun j hj => by omega, rfl⟩
 ·rintro vs pos los ⟨i, i6, hj, rfl, rfl, rfl⟩
  simp only [push_cast, ↓reduceIte, reduceCtorEq, zB, zE, zA, zS, zL, zD, zM]
  refine cnd_mk (fun h => ?_) (fun h => ?_)
  ·simp only [decide_eq_true_eq] at h
   simp only [push_cast, ↓reduceIte, reduceCtorEq, zB, zE, zA, zS, zL, zD, zM]
   refine dcall_mk (runit_t i ⟨i6.1, h⟩) rfl trivial ?_
   simp only [Ei.v, Ei.rv, push_cast, ↓reduceIte, reduceCtorEq, zB, zE, zA, zS, zL, zD, zM]
   refine ⟨by kernel_rfl, cnd_mk (fun h' => ?_) (fun h' => ?_)⟩
   ·have e : uni i.toNat = l := by
     simp only [Bool.and_eq_true, beq_iff_eq] at h'
     exact Ei.ext' h'.1 h'.2
    simp only [push_cast, ↓reduceIte, reduceCtorEq, zB, zE, zA, zS, zL, zD, zM]
    rw [← e, dgOf_uni _ (by omega), wrap_id (by omega), show ((i.toNat + 1 : Nat) : Int) = i + 1 by omega]
   ·have e : uni i.toNat ≠ l := fun e => by rw [e] at h'; simp at h'
    simp only [push_cast, ↓reduceIte, reduceCtorEq, zB, zE, zA, zS, zL, zD, zM]
    rw [wrap_id (by omega)]
    refine ⟨⟨i + 1, by omega, fun j hj' => ?_, rfl⟩, by omega⟩
    by_cases hji : (j : Int) = i
    ·rw [show j = i.toNat by omega]; exact e
    ·exact hj j (by omega)
  ·have hi : i = 6 := by simp at h; omega
   subst hi
   simp only [push_cast, ↓reduceIte, reduceCtorEq, zB, zE, zA, zS, zL, zD, zM]
   rw [dgOf_no l fun j h6 => hj j (by omega)]
   rfl
theorem rokc_t (r : Int) (z : Ei) (h0 : 0 ≤ r) (h : okc r.toNat z) : Triple P0 49 [cel r z] [] (bl true) [] := by
 refine apiaryref1_Ok_triple rfl (by decide) ?_
 obtain ⟨r12, hz, ha, hb⟩ := h
 have hz' := hz
 unfold Ei.In at hz'
 have c1 : decide (r < 0) = false := by simp; omega
 have c2 : decide (r > 12) = false := by simp; omega
 have c3 : decide (z.a < -1073741824) = false := by simp; omega
 have c4 : decide (z.a > 1073741824) = false := by simp; omega
 have c5 : decide (z.b < -1073741824) = false := by simp; omega
 have c6 : decide (z.b > 1073741824) = false := by simp; omega
 simp only [apiaryref1_Ok_pc, cel, c1, c2, c3, c4, c5, c6, push_cast, ↓reduceIte, reduceCtorEq, zB, zE, zA, zS, zL, zD, zM]
 refine run_loop [(4, false), (1, false), (3, false)] (fun vs pos los => ∃ i : Int, (0 ≤ i ∧ i ≤ r) ∧ vs = [int .i64 i, .ptr 2000000 0 0, .ptr 2000001 0 0] ∧ pos = [] ∧ los = [.box [int .i64 r, int .i64 z.a, int .i64 z.b], .box [int .i64 (anc i.toNat z).a, int .i64 (anc i.toNat z).b]])
  (fun vs _ _ => match vs with | .r (.v (.int _ j)) :: _ => (r - j).toNat | _ => 0) rfl ?_ ?_
 ·simp only [push_cast, ↓reduceIte, reduceCtorEq, zB, zE, zA, zS, zL, zD, zM]
  exact ⟨0, by omega, rfl, rfl⟩
 ·rintro vs pos los ⟨i, i6, rfl, rfl, rfl⟩
  simp only [push_cast, ↓reduceIte, reduceCtorEq, zB, zE, zA, zS, zL, zD, zM]
  refine cnd_mk (fun h => ?_) (fun h => ?_)
  ·simp only [decide_eq_true_eq] at h
   simp only [push_cast, ↓reduceIte, reduceCtorEq, zB, zE, zA, zS, zL, zD, zM]
   have hp := anc_In i.toNat hz (by decide)
   refine call_as (as' := [(anc i.toNat z).v]) rfl ?_
   refine call_mk (rparent_t _ hp) rfl trivial ?_
   simp only [Ei.v, Ei.rv, push_cast, ↓reduceIte, reduceCtorEq, zB, zE, zA, zS, zL, zD, zM]
   rw [show IntKind.i64.wrap (i + 1) = i + 1 from wrap_id (by omega)]
   refine ⟨⟨i + 1, by omega, rfl, ?_⟩, by omega⟩
   rw [show (i + 1).toNat = i.toNat + 1 by omega, anc_succ]
  ·have hi : i = r := by simp at h; omega
   subst hi
   simp only [ge_iff_le, ha.1, ha.2, hb.1, hb.2, push_cast, ↓reduceIte, reduceCtorEq, zB, zE, zA, zS, zL, zD, zM]

noncomputable def apiaryref1_Word_pc : PC :=
  (.seq (.reg [p_a 1 (.box (.t 0)), p_s 2 (.mov (.c (.r (.v (.int .u64 0))))), p_s 3 (.mov (o_i 0))])
 (.seq (.seq (.reg [p_s 10 (.ld (some 3) (.t 1)), p_c 11 1 49 [.t 10], p_s 12 (.un .not (.t 11))])
 (.cond (.t 12)
 (.seq (.reg [p_s 2 (.mov (.c (.r (.v (.int .u64 0))))), p_s 3 (.mov (o_i 2))])
 .ret)
 .skip))
 (.seq (.reg [p_s 13 (.fa 1 (.t 1)), p_s 14 (.ld (some 2) (.t 13)), p_a 4 (.new [(.r (.v (.int .i64 0))), (.r (.v (.int .i64 0)))]), ⟨none, none, 0, .act (.st 2 (.t 4) (.t 14))⟩])
 (.seq (.reg [p_s 5 (.mov (.c (.r (.v (.int .u64 68719476735)))))])
 (.seq (.seq (.reg [p_s 15 (.fa 0 (.t 1)), p_s 16 (.ld none (.t 15)), p_m 6 16])
 (.block 0 (.loop (.seq (.seq (.reg [p_m 17 6, p_s 18 (.bin .gtr (.t 17) (o_i 0))])
 (.cond (.t 18)
 .skip
 (.exit 0)))
 (.seq (.block 1 (.seq (.reg [p_s 22 (.ld (some 2) (.t 4)), p_c 23 2 50 [.t 22], p_m 21 23, p_s 24 (.ext (.t 21) 0), p_s 25 (.ext (.t 21) 1), p_a 7 (.new [(.r (.v (.int .i64 0))), (.r (.v (.int .i64 0)))]),
 ⟨none, none, 0, .act (.st 2 (.t 7) (.t 24))⟩, p_m 8 25])
 (.seq (.reg [p_m 26 6, p_s 27 (.bin .mul (o_i 3) (.t 26)), p_s 28 (.bin .sub (o_i 36) (.t 27)), p_m 9 28])
 (.seq (.drw [p_m 29 5, p_m 30 9, p_s 31 (.bin .shl (.c (.r (.v (.int .u64 7)))) (.t 30)), p_s 32 (.bin .andNot (.t 29) (.t 31)), p_m 33 8, p_s 34 (.conv .u64 (.t 33)), p_m 35 9,
 p_s 36 (.bin .shl (.t 34) (.t 35)), p_s 37 (.bin .or (.t 32) (.t 36)), p_m 5 37]
 [[], [], [1], [0, 1, 2], [], [4], [], [4, 5, 6], [0, 1, 2, 3, 4, 5, 6, 7], [0, 1, 2, 3, 4, 5, 6, 7, 8]])
 (.reg [p_s 38 (.ld (some 2) (.t 7)), ⟨none, none, 0, .act (.st 2 (.t 4) (.t 38))⟩])))))
 (.reg [p_m 19 6, p_s 20 (.bin .sub (.t 19) (o_i 1)), p_m 6 20]))))))
 (.seq (.reg [p_m 39 5, p_s 40 (.bin .or (.t 39) (.c (.r (.v (.int .u64 1152921504606846976))))), p_s 41 (.fa 0 (.t 1)), p_s 42 (.ld none (.t 41)), p_s 43 (.conv .u64 (.t 42)),
 p_s 44 (.bin .shl (.t 43) (.c (.r (.v (.int .u64 56))))), p_s 45 (.bin .or (.t 40) (.t 44)), p_s 46 (.fa 0 (.t 4)), p_s 47 (.ld none (.t 46)), p_s 48 (.bin .add (.t 47) (o_i 512)),
 p_s 49 (.conv .u64 (.t 48)), p_s 50 (.bin .shl (.t 49) (.c (.r (.v (.int .u64 46))))), p_s 51 (.bin .or (.t 45) (.t 50)), p_s 52 (.fa 1 (.t 4)), p_s 53 (.ld none (.t 52)),
 p_s 54 (.bin .add (.t 53) (o_i 512)), p_s 55 (.conv .u64 (.t 54)), p_s 56 (.bin .shl (.t 55) (.c (.r (.v (.int .u64 36))))), p_s 57 (.bin .or (.t 51) (.t 56)), p_m 2 57,
 p_s 3 (.mov (o_i 0))])
 .ret))))))
theorem apiaryref1_Word_triple : Fun P0 22 1 [(2, false, none), (3, false, none)] apiaryref1_Word_pc := fun_mk Go.Proofs.Tryz.func22 rfl (by decide) (by kernel_rfl) (by decide) rfl (by kernel_rfl) (by kernel_rfl) (by decide)
theorem un64 {a : Nat} (h : a < 18446744073709551616) : IntKind.u64.wrap (a : Int) = a := by rw [IntKind.wrap_u64]; omega
theorem ofI (a : Nat) (h : a < 18446744073709551616) : (zaa IntKind.u64.bits (a : Int)).toNat = a := by
 rw [show IntKind.u64.bits = 64 from rfl, BitVec.toNat_ofInt]
 omega
theorem or_u {a b : Nat} (ha : a < 18446744073709551616) (hb : b < 18446744073709551616) : IntKind.u64.wrap (zaa IntKind.u64.bits (a : Int) ||| zaa IntKind.u64.bits (b : Int)).toNat = ((a ||| b : Nat) : Int) := by
 rw [BitVec.toNat_or, ofI a ha, ofI b hb]
 exact un64 (zas (n := 64) ha hb)
theorem not_toNat (x : BitVec 64) : (~~~ x).toNat = 2 ^ 64 - 1 - x.toNat := BitVec.toNat_not
theorem andnot_u {a b : Nat} (ha : a < 18446744073709551616) (hb : b < 18446744073709551616) : IntKind.u64.wrap (zaa IntKind.u64.bits (a : Int) &&& ~~~ zaa IntKind.u64.bits (b : Int)).toNat = ((a &&& (2 ^ 64 - 1 - b) : Nat) : Int) := by
 rw [BitVec.toNat_and, ofI a ha, show (~~~ zaa IntKind.u64.bits (b : Int)).toNat = 2 ^ 64 - 1 - (zaa IntKind.u64.bits (b : Int)).toNat from not_toNat _, ofI b hb]
 exact un64 (zat Nat.and_le_left ha)
theorem and_u {a n : Nat} (m : Int) (hm : m = 2 ^ n - 1) (hn : n ≤ 62) (ha : a < 18446744073709551616) : IntKind.u64.wrap (zaa IntKind.u64.bits (a : Int) &&& zaa IntKind.u64.bits m).toNat = ((a % 2 ^ n : Nat) : Int) := by
 have h1 : 2 ^ n ≤ 2 ^ 62 := zac (by decide) hn
 have h2 := Nat.two_pow_pos n
 have h3 : ((2 ^ n : Nat) : Int) = (2 : Int) ^ n := by simp
 have h4 : m = ((2 ^ n - 1 : Nat) : Int) := by rw [hm, ← h3]; omega
 rw [h4, BitVec.toNat_and, ofI a ha, ofI _ (by omega), Nat.and_two_pow_sub_one_eq_mod]
 exact un64 (zat (Nat.mod_le _ _) ha)
theorem shl_u {a k : Nat} {s : Int} (hs : s.toNat = k) (hk : k ≤ 63) (h : a * 2 ^ k < 18446744073709551616) : IntKind.u64.wrap ((a : Int) * 2 ^ min s.toNat IntKind.u64.bits) = ((a * 2 ^ k : Nat) : Int) := by
 rw [hs, show min k IntKind.u64.bits = k from zap (by simp [IntKind.bits]; omega), show (a : Int) * 2 ^ k = ((a * 2 ^ k : Nat) : Int) by simp]
 exact un64 h
def uw (n : Nat) : AV := int .u64 n
theorem rword_t (r : Int) (z : Ei) (h0 : 0 ≤ r) (h_ : okc r.toNat z) : Triple P0 22 [cel r z] [] (.tup [uw (word r.toNat z), int .i64 0]) [] := by
 refine apiaryref1_Word_triple rfl (by decide) ?_
 have h' := h_
 obtain ⟨r12, hz, ha, hb⟩ := h'
 simp only [apiaryref1_Word_pc, cel, push_cast, ↓reduceIte, reduceCtorEq, zB, zE, zA, zS, zL, zD, zM]
 refine call_as (as' := [cel r z]) rfl ?_
 refine call_mk (rokc_t r z h0 h_) rfl trivial ?_
 simp only [push_cast, ↓reduceIte, reduceCtorEq, zB, zE, zA, zS, zL, zD, zM]
 have hw0 := wordI_r r.toNat z (by omega)
 refine run_loop [(6, false), (1, false), (4, false), (5, false)] (fun vs pos los => ∃ i : Int, (0 ≤ i ∧ i ≤ r) ∧ vs = [int .i64 i, .ptr 2000000 0 0, .ptr 2000001 0 0, int .u64 (wordI r.toNat z i.toNat)] ∧ pos = [] ∧ los = [.box [int .i64 r, int .i64 z.a, int .i64 z.b], .box [int .i64 (anc (r - i).toNat z).a, int .i64 (anc (r - i).toNat z).b]])
  (fun vs _ _ => match vs with | .r (.v (.int _ j)) :: _ => j.toNat | _ => 0) rfl ?_ ?_
 ·simp only [push_cast, ↓reduceIte, reduceCtorEq, zB, zE, zA, zS, zL, zD, zM]
  refine ⟨r, by omega, ?_⟩
  rw [hw0, Int.sub_self]
  exact ⟨rfl, rfl⟩
 ·rintro vs pos los ⟨i, i6, rfl, rfl, rfl⟩
  simp only [push_cast, ↓reduceIte, reduceCtorEq, zB, zE, zA, zS, zL, zD, zM]
  refine cnd_mk (fun h => ?_) (fun h => ?_)
  ·simp only [decide_eq_true_eq] at h
   have hp := anc_In (r - i).toNat hz (by decide)
   simp only [push_cast, ↓reduceIte, reduceCtorEq, zB, zE, zA, zS, zL, zD, zM]
   refine call_as (as' := [(anc (r - i).toNat z).v]) rfl ?_
   refine call_mk (rparent_t _ hp) rfl trivial ?_
   simp only [Ei.v, Ei.rv, push_cast, ↓reduceIte, reduceCtorEq, zB, zE, zA, zS, zL, zD, zM]
   rw [show IntKind.i64.wrap (3 * i) = 3 * i from wrap_id (by omega), show IntKind.i64.wrap (36 - 3 * i) = 36 - 3 * i from wrap_id (by omega), show IntKind.i64.wrap (i - 1) = i - 1 from wrap_id (by omega)]
   have hl := wordI_lt r.toNat z i.toNat (by omega) r12
   have hst := wordI_step r.toNat z i.toNat (by omega) (by omega) r12
   have hd := dg_lt (anc (r - i).toNat z)
   have hat : (36 - 3 * i).toNat = 36 - 3 * i.toNat := by omega
   have hp2 : 2 ^ (36 - 3 * i.toNat) ≤ 2 ^ 33 := zac (by decide) (by omega)
   have hd2 : dg (anc (r - i).toNat z) * 2 ^ (36 - 3 * i.toNat) ≤ 6 * 2 ^ (36 - 3 * i.toNat) := Nat.mul_le_mul_right _ (by omega)
   rw [un64 (show dg (anc (r - i).toNat z) < 18446744073709551616 by omega), show (7 : Int) = ((7 : Nat) : Int) from rfl, shl_u hat (by omega) (by omega), shl_u hat (by omega) (by omega), andnot_u (by omega) (by omega), or_u (zat Nat.and_le_left (by omega)) (by omega)]
   rw [show (r - i).toNat = r.toNat - i.toNat by omega] at *
   rw [hst]
   refine ⟨by omega, by omega, by kernel_rfl, ⟨i - 1, by omega, ?_, ?_⟩, by omega⟩
   ·rw [show (i - 1).toNat = i.toNat - 1 by omega]
   ·rw [show (r - (i - 1)).toNat = r.toNat - i.toNat + 1 by omega, anc_succ]
  ·have hi : i = 0 := by simp at h; omega
   subst hi
   simp only [push_cast, ↓reduceIte, reduceCtorEq, zB, zE, zA, zS, zL, zD, zM]
   refine ⟨by decide, by decide, by decide, ?_⟩
   have hl := wordI_lt r.toNat z 0 (by omega) r12
   rw [show (r - 0).toNat = r.toNat by omega]
   obtain ⟨A, hA⟩ : ∃ A : Nat, (anc r.toNat z).a + 512 = A := ⟨((anc r.toNat z).a + 512).toNat, by omega⟩
   obtain ⟨B, hB⟩ : ∃ B : Nat, (anc r.toNat z).b + 512 = B := ⟨((anc r.toNat z).b + 512).toNat, by omega⟩
   have ho := word_or r.toNat z r12 A B (by omega) (by omega) hA hB
   have hwl := word_lt r.toNat z h_
   obtain ⟨R, rfl⟩ : ∃ R : Nat, r = R := ⟨r.toNat, by omega⟩
   rw [zan] at *
   rw [hA, hB, show IntKind.i64.wrap (A : Int) = A from wrap_id (by omega), show IntKind.i64.wrap (B : Int) = B from wrap_id (by omega), un64 (show A < 18446744073709551616 by omega), un64 (show B < 18446744073709551616 by omega), un64 (show R < 18446744073709551616 by omega)]
   rw [shl_u (k := 56) rfl (by decide) (by omega), shl_u (k := 46) rfl (by decide) (by omega), shl_u (k := 36) rfl (by decide) (by omega), show (1152921504606846976 : Int) = ((1152921504606846976 : Nat) : Int) from rfl, zaf]
   have l1 : wordI R z 0 ||| 1152921504606846976 < 18446744073709551616 := zas (n := 64) (by omega) (by omega)
   have l2 : wordI R z 0 ||| 1152921504606846976 ||| R * 2 ^ 56 < 18446744073709551616 := zas (n := 64) l1 (by omega)
   have l3 : wordI R z 0 ||| 1152921504606846976 ||| R * 2 ^ 56 ||| A * 2 ^ 46 < 18446744073709551616 := zas (n := 64) l2 (by omega)
   rw [or_u (by omega) (by omega), or_u l1 (by omega), or_u l2 (by omega), or_u l3 (by omega), ho]
   rfl
def isWB (w : Nat) : Bool := decide (w / 1152921504606846976 = 1) && decide (resW w ≤ 12) && (List.range 13).all fun i => decide (i = 0) || (decide (dgt w i = 7) == decide (resW w < i))
theorem isWB_iff (w : Nat) : isWB w = true ↔ isW w := by
 simp only [isWB, isW, Bool.and_eq_true, decide_eq_true_eq, List.all_eq_true, zaq, Bool.or_eq_true, beq_iff_eq, decide_eq_decide]
 constructor
 ·rintro ⟨⟨h1, h2⟩, h3⟩
  refine ⟨h1, h2, fun i i1 i2 => ?_⟩
  rcases h3 i (by omega) with h | h
  ·omega
  ·exact h
 ·rintro ⟨h1, h2, h3⟩
  refine ⟨⟨h1, h2⟩, fun i hi => ?_⟩
  by_cases h0 : i = 0
  ·exact .inl h0
  ·exact .inr (h3 i (by omega) (by omega))
theorem isWB_word {r : Nat} {z : Ei} (h : okc r z) : isWB (word r z) = true := (isWB_iff _).2 (word_isW r z h).1
theorem shru {a k : Nat} {s : Int} (hs : s.toNat = k) (hk : k ≤ 63) : (a : Int).fdiv (2 ^ min s.toNat IntKind.u64.bits) = ((a / 2 ^ k : Nat) : Int) := by
 rw [hs, show min k IntKind.u64.bits = k from zap (by simp [IntKind.bits]; omega)]
 rw [Int.fdiv_eq_ediv_of_nonneg _ (by have := Int.pow_pos (n := 2) (m := k) (by decide); omega)]
 simp
theorem shr_and {a k n : Nat} {s m : Int} (hs : s.toNat = k) (hk : k ≤ 63) (hm : m = 2 ^ n - 1) (hn : n ≤ 62) (ha : a < 18446744073709551616) :
  IntKind.u64.wrap (zaa IntKind.u64.bits ((a : Int).fdiv (2 ^ min s.toNat IntKind.u64.bits)) &&& zaa IntKind.u64.bits m).toNat = ((a / 2 ^ k % 2 ^ n : Nat) : Int) := by
 rw [shru hs hk, and_u m hm hn (zat (Nat.div_le_self _ _) ha)]
theorem down_In (w : Nat) (i : Nat) (hi : i ≤ 12) : (down w i).In 1000000000000 := by
 have h : ∀ i : Nat, ∀ n : Int, (down w i).In n → 1 ≤ n → (down w (i + 1)).In (5 * n) := fun i n hn h1 => by
  have hd : ∀ d, (uni d).In 1 := fun d => by unfold uni; split <;> unfold Ei.In <;> decide
  have hu := hd (dgt w (i + 1) - 1)
  unfold Ei.In at hn hu ⊢
  rw [down, child]
  split <;> simp only [Ei.mul, beta, Ei.add] <;> omega
 have h0 : (down w 0).In 512 := by
  unfold Ei.In down baseW
  dsimp only
  omega
 have h1 := h 0 _ h0 (by decide)
 have h2 := h 1 _ h1 (by decide)
 have h3 := h 2 _ h2 (by decide)
 have h4 := h 3 _ h3 (by decide)
 have h5 := h 4 _ h4 (by decide)
 have h6 := h 5 _ h5 (by decide)
 have h7 := h 6 _ h6 (by decide)
 have h8 := h 7 _ h7 (by decide)
 have h9 := h 8 _ h8 (by decide)
 have h10 := h 9 _ h9 (by decide)
 have h11 := h 10 _ h10 (by decide)
 have h12 := h 11 _ h11 (by decide)
 rcases (show i = 0 ∨ i = 1 ∨ i = 2 ∨ i = 3 ∨ i = 4 ∨ i = 5 ∨ i = 6 ∨ i = 7 ∨ i = 8 ∨ i = 9 ∨ i = 10 ∨ i = 11 ∨ i = 12 by omega) with rfl | rfl | rfl | rfl | rfl | rfl | rfl | rfl | rfl | rfl | rfl | rfl | rfl
 ·exact h0.mono (by decide)
 ·exact h1.mono (by decide)
 ·exact h2.mono (by decide)
 ·exact h3.mono (by decide)
 ·exact h4.mono (by decide)
 ·exact h5.mono (by decide)
 ·exact h6.mono (by decide)
 ·exact h7.mono (by decide)
 ·exact h8.mono (by decide)
 ·exact h9.mono (by decide)
 ·exact h10.mono (by decide)
 ·exact h11.mono (by decide)
 ·exact h12.mono (by decide)

noncomputable def apiaryref9_WordOf_pc : PC :=
  (.seq (.reg [p_s 6 (.mov (.c (.r (.v (.int .u64 0)))))])
 (.seq (.reg [p_m 12 0, p_m 13 1, p_m 14 2, p_c 15 1 21 [.t 12, .t 13, .t 14], p_m 11 15, p_s 16 (.ext (.t 11) 0), p_s 17 (.ext (.t 11) 1), p_a 7 (.new [(.r (.v (.int .i64 0))), (.r (.v (.int .i64 0)))]),
 ⟨none, none, 0, .act (.st 2 (.t 7) (.t 16))⟩, p_m 8 17])
 (.seq (.reg [p_m 19 2, p_s 20 (.ld (some 2) (.t 7)), p_s 21 (.build [(.r (.v (.int .i64 0))), (.r (.v (.int .i64 0))), (.r (.v (.int .i64 0)))] [(0, 1, (.t 19)), (1, 2, (.t 20))]),
 p_c 22 2 22 [.t 21], p_m 18 22, p_s 23 (.ext (.t 18) 0), p_s 24 (.ext (.t 18) 1), p_m 9 23, p_m 10 24])
 (.seq (.reg [p_m 25 9, p_m 6 25])
 .ret))))
theorem apiaryref9_WordOf_triple : Fun P0 7 3 [(6, false, none)] apiaryref9_WordOf_pc := fun_mk Go.Proofs.Tryz.func7 rfl (by decide) (by kernel_rfl) (by decide) rfl (by kernel_rfl) (by kernel_rfl) (by decide)
def wordOf (x y : Int) (r : Nat) : Nat := word r (near x y r)
theorem rwordOf_t (x y r : Int) (h : inW x y) (hr : 0 ≤ r ∧ r ≤ 12) : Triple P0 7 [int .i64 x, int .i64 y, int .i64 r] [] (uw (wordOf x y r.toNat)) [] := by
 refine apiaryref9_WordOf_triple rfl (by decide) ?_
 simp only [apiaryref9_WordOf_pc, push_cast, ↓reduceIte, reduceCtorEq, zB, zE, zA, zS, zL, zD, zM]
 refine call_mk (rnear_t x y r h hr) rfl trivial ?_
 simp only [Ei.v, Ei.rv, push_cast, ↓reduceIte, reduceCtorEq, zB, zE, zA, zS, zL, zD, zM]
 refine call_as (as' := [cel r (near x y r.toNat)]) rfl ?_
 refine call_mk (rword_t r (near x y r.toNat) hr.1 (near_okc x y r.toNat h.1 h.2 (by omega))) rfl trivial ?_
 simp only [uw, push_cast, ↓reduceIte, reduceCtorEq, zB, zE, zA, zS, zL, zD, zM]
 rfl
def wordU (w i : Nat) : Nat := w / 8 ^ (13 - i) * 8 ^ (13 - i)

theorem awake22_t : Triple P0 9 [] [] (bl true) [] := by
 refine apiarylaw22_awake_triple rfl (by decide) ?_
 simp only [apiarylaw22_awake_pc, push_cast, ↓reduceIte, reduceCtorEq, zB, zE, zA, zS, zL, zD, zM]
 refine call_as (as' := [Til.v ⟨1, 1, 0, 0⟩]) rfl ?_
 refine call_mk (origin_t ⟨1, 1, 0, 0⟩ (by decide)) rfl trivial ?_
 simp only [push_cast, ↓reduceIte, reduceCtorEq, zB, zE, zA, zS, zL, zD, zM]
 rw [show (1 : Int) * 2 ^ (30 - (1 : Int)).toNat = 536870912 by decide, show (0 : Int) * 2 ^ (30 - (1 : Int)).toNat = 0 by decide, show (2 : Int) ^ (30 - (1 : Int)).toNat = 536870912 by decide]
 simp only [push_cast, ↓reduceIte, reduceCtorEq, zB, zE, zA, zS, zL, zD, zM]
 have k0 : Til.ok ⟨0, 0, 0, 0⟩ := ⟨by decide, by decide, by decide, by decide⟩
 have k1 : Til.ok ⟨0, 0, 0, 12⟩ := ⟨by decide, by decide, by decide, by decide⟩
 have k2 : Til.ok ⟨18, 0, 0, 12⟩ := ⟨by decide, by decide, by decide, by decide⟩
 have t0 : tis ⟨0, 0, 0, 0⟩ = true := by decide
 have t1 : tis ⟨0, 0, 0, 12⟩ = true := by decide
 have f0 : fine ⟨0, 0, 0, 0⟩ = false := by decide +kernel
 have f1 : fine ⟨0, 0, 0, 12⟩ = true := by decide +kernel
 have f2 : fine ⟨18, 0, 0, 12⟩ = false := by decide +kernel
 refine call_as (as' := [Til.v ⟨0, 0, 0, 0⟩]) rfl ?_
 refine call_mk (ok_t ⟨0, 0, 0, 0⟩ k0) rfl trivial ?_
 simp only [t0, f0, push_cast, ↓reduceIte, reduceCtorEq, zB, zE, zA, zS, zL, zD, zM]
 refine call_as (as' := [Til.v ⟨0, 0, 0, 12⟩]) rfl ?_
 refine call_mk (ok_t ⟨0, 0, 0, 12⟩ k1) rfl trivial ?_
 simp only [t1, f1, push_cast, ↓reduceIte, reduceCtorEq, zB, zE, zA, zS, zL, zD, zM]
 refine call_as (as' := [Til.v ⟨0, 0, 0, 12⟩]) rfl ?_
 refine call_mk (fine_t ⟨0, 0, 0, 12⟩ k1) rfl trivial ?_
 simp only [f1, push_cast, ↓reduceIte, reduceCtorEq, zB, zE, zA, zS, zL, zD, zM]
 refine call_as (as' := [Til.v ⟨18, 0, 0, 12⟩]) rfl ?_
 refine call_mk (fine_t ⟨18, 0, 0, 12⟩ k2) rfl trivial ?_
 simp only [f2, push_cast, ↓reduceIte, reduceCtorEq, zB, zE, zA, zS, zL, zD, zM]

theorem rtile_t (t : Til) : Triple P0 42 [t.v] [] (bl (tis t)) [] := by
 refine apiaryref9_tile_triple rfl (by decide) ?_
 by_cases h1 : 0 ≤ t.z ∧ t.z ≤ 18
 ·have e1 : decide (t.z ≥ 0) = true := by simp [h1.1]
  have e2 : decide (t.z ≤ 18) = true := by simp [h1.2]
  have hs := shift_t t.z h1.1 (by omega)
  by_cases h2 : 0 ≤ t.x
  ·have e3 : decide (t.x ≥ 0) = true := by simp [h2]
   by_cases h3 : t.x < 2 ^ t.z.toNat
   ·have e4 : decide (t.x < 2 ^ t.z.toNat) = true := by simp [h3]
    by_cases h4 : 0 ≤ t.y
    ·have e5 : decide (t.y ≥ 0) = true := by simp [h4]
     simp only [apiaryref9_tile_pc, Til.v, e1, e2, e3, push_cast, ↓reduceIte, reduceCtorEq, zB, zE, zA, zS, zL, zD, zM]
     refine dcall_mk hs rfl trivial ?_
     simp only [e4, e5, push_cast, ↓reduceIte, reduceCtorEq, zB, zE, zA, zS, zL, zD, zM]
     refine dcall_mk hs rfl trivial ?_
     simp only [e4, e5, push_cast, ↓reduceIte, reduceCtorEq, zB, zE, zA, zS, zL, zD, zM]
     refine ⟨by kernel_rfl, ?_⟩
     refine bl_iff ?_
     simp [tis]
     omega
    ·have e5 : decide (t.y ≥ 0) = false := by simp; omega
     have e6 : tis t = false := by simp [tis]; omega
     simp only [apiaryref9_tile_pc, Til.v, e1, e2, e3, push_cast, ↓reduceIte, reduceCtorEq, zB, zE, zA, zS, zL, zD, zM]
     refine dcall_mk hs rfl trivial ?_
     simp only [e4, e5, e6, push_cast, ↓reduceIte, reduceCtorEq, zB, zE, zA, zS, zL, zD, zM]
     (show _ = true); kernel_rfl
   ·have e4 : decide (t.x < 2 ^ t.z.toNat) = false := by simp; omega
    have e6 : tis t = false := by simp [tis]; omega
    simp only [apiaryref9_tile_pc, Til.v, e1, e2, e3, push_cast, ↓reduceIte, reduceCtorEq, zB, zE, zA, zS, zL, zD, zM]
    refine dcall_mk hs rfl trivial ?_
    simp only [e4, e6, push_cast, ↓reduceIte, reduceCtorEq, zB, zE, zA, zS, zL, zD, zM]
    (show _ = true); kernel_rfl
  ·have e3 : decide (t.x ≥ 0) = false := by simp; omega
   have e6 : tis t = false := by simp [tis]; omega
   simp only [apiaryref9_tile_pc, Til.v, e1, e2, e3, e6, push_cast, ↓reduceIte, reduceCtorEq, zB, zE, zA, zS, zL, zD, zM]
   (show _ = true); kernel_rfl
 ·have e6 : tis t = false := by simp [tis]; omega
  by_cases h0 : 0 ≤ t.z
  ·have e1 : decide (t.z ≥ 0) = true := by simp [h0]
   have e2 : decide (t.z ≤ 18) = false := by simp; omega
   simp only [apiaryref9_tile_pc, Til.v, e1, e2, e6, push_cast, ↓reduceIte, reduceCtorEq, zB, zE, zA, zS, zL, zD, zM]
   (show _ = true); kernel_rfl
  ·have e1 : decide (t.z ≥ 0) = false := by simp; omega
   simp only [apiaryref9_tile_pc, Til.v, e1, e6, push_cast, ↓reduceIte, reduceCtorEq, zB, zE, zA, zS, zL, zD, zM]
   (show _ = true); kernel_rfl

theorem rfine_t (t : Til) (ht : t.ok) : Triple P0 20 [t.v] [] (bl (fine t)) [] := by
 refine apiaryref9_Fine_triple rfl (by decide) ?_
 simp only [apiaryref9_Fine_pc, Til.v, push_cast, ↓reduceIte, reduceCtorEq, zB, zE, zA, zS, zL, zD, zM]
 refine dcall_as (as' := [t.v]) rfl ?_
 refine dcall_mk (rtile_t t) rfl trivial ?_
 cases hti : tis t with
 | false =>
  simp only [push_cast, ↓reduceIte, reduceCtorEq, zB, zE, zA, zS, zL, zD, zM]
  exact ⟨by kernel_rfl, by simp [fine, hti]⟩
 | true =>
  have hr : 0 ≤ t.z ∧ t.z ≤ 18 ∧ 0 ≤ t.r ∧ t.r ≤ 12 := by simp [tis] at hti; omega
  have w1 : IntKind.i64.wrap (12 - t.r) = 12 - t.r := wrap_id (by omega)
  have w2 : IntKind.i64.wrap (18 - t.z) = 18 - t.z := wrap_id (by omega)
  have w3 : IntKind.i64.wrap (2 * (18 - t.z)) = 2 * (18 - t.z) := wrap_id (by omega)
  have h7 := p7 (12 - t.r).toNat (by omega)
  have h2 := p2 (2 * (18 - t.z)).toNat (by omega)
  have hq : (2 : Int) ^ (2 * (18 - t.z)).toNat = 2 ^ (18 - t.z).toNat * 2 ^ (18 - t.z).toNat := by
   rw [← Int.pow_add]; congr 1; omega
  simp only [w1, w2, w3, push_cast, ↓reduceIte, reduceCtorEq, zB, zE, zA, zS, zL, zD, zM]
  refine dcall_mk (seven_t (12 - t.r) (by omega) (by omega)) rfl trivial ?_
  simp only [w1, w2, w3, push_cast, ↓reduceIte, reduceCtorEq, zB, zE, zA, zS, zL, zD, zM]
  refine dcall_mk (shift_t (2 * (18 - t.z)) (by omega) (by omega)) rfl trivial ?_
  simp only [w1, w2, w3, push_cast, ↓reduceIte, reduceCtorEq, zB, zE, zA, zS, zL, zD, zM]
  refine ⟨by kernel_rfl, ?_⟩
  rw [wrap_id (by omega), wrap_id (by omega)]
  refine bl_iff ?_
  rw [hq, ← Int.mul_assoc]
  simp [fine, hti]
theorem tmod_in (a n : Int) (hn : 0 < n) : -n < a.tmod n ∧ a.tmod n < n ∧ (a.tmod n + n) % n = a % n := by
 have h0 := zam a (show n ≠ 0 by omega)
 have h1 := zal a hn
 rw [Int.tmod_eq_emod]
 split
 ·refine ⟨by omega, by omega, ?_⟩
  rw [show a % n - ((0 : Nat) : Int) + n = a % n + n by omega, Int.add_emod_right, Int.emod_emod]
 ·rename_i h
  have h2 : a % n ≠ 0 := fun h3 => h (.inr (Int.dvd_of_emod_eq_zero h3))
  refine ⟨by omega, by omega, ?_⟩
  rw [show a % n - (n.natAbs : Int) + n = a % n by omega, Int.emod_emod]
def coarse (z : Int) : Nat → Nat
 | 0 => 0
 | n + 1 => if fine ⟨z, 0, 0, (n + 1 : Nat)⟩ then coarse z n else n + 1
def tileOf (x y z r : Int) : Til := ⟨z % 19, (x % 1073741824) / 2 ^ (30 - z % 19).toNat, (y % 1073741824) / 2 ^ (30 - z % 19).toNat, coarse (z % 19) (r % 13).toNat⟩
theorem coarse_le (z : Int) : ∀ n, coarse z n ≤ n
 | 0 => Nat.le_refl _
 | n + 1 => by
  have := coarse_le z n
  unfold coarse
  split <;> omega
theorem tis_of (x y z r : Int) : tis (tileOf x y z r) = true := by
 have h1 := coarse_le (z % 19) (r % 13).toNat
 have hz : 0 ≤ z % 19 ∧ z % 19 ≤ 18 := by omega
 have hp := p2 (30 - z % 19).toNat (by omega)
 have hq := p2 (z % 19).toNat (by omega)
 have hpq : (2 : Int) ^ (30 - z % 19).toNat * 2 ^ (z % 19).toNat = 1073741824 := by
  rw [← Int.pow_add, show (30 - z % 19).toNat + (z % 19).toNat = 30 by omega]; rfl
 have key : ∀ a : Int, 0 ≤ (a % 1073741824) / 2 ^ (30 - z % 19).toNat ∧ (a % 1073741824) / 2 ^ (30 - z % 19).toNat < 2 ^ (z % 19).toNat := fun a => by
  refine ⟨Int.ediv_nonneg (by omega) (by omega), ?_⟩
  rw [Int.ediv_lt_iff_lt_mul (by omega), Int.mul_comm, hpq]
  omega
 have kx := key x
 have ky := key y
 have hc : (0 : Int) ≤ (coarse (z % 19) (r % 13).toNat : Nat) ∧ ((coarse (z % 19) (r % 13).toNat : Nat) : Int) ≤ 12 := by omega
 exact decide_eq_true ⟨hz.1, hz.2, hc.1, hc.2, kx.1, kx.2, ky.1, ky.2⟩
theorem coarse_not (z : Int) : ∀ n, (coarse z n = 0) ∨ fine ⟨z, 0, 0, (coarse z n : Nat)⟩ = false
 | 0 => .inl rfl
 | n + 1 => by
  unfold coarse
  split
  ·exact coarse_not z n
  ·rename_i h
   right
   simpa using h
theorem fine_xy {a b : Til} (hz : a.z = b.z) (hr : a.r = b.r) (ha : tis a = true) (hb : tis b = true) : fine a = fine b := by
 simp only [fine, ha, hb, hz, hr]
theorem fine_zero {t : Til} (h : t.r = 0) : fine t = false := by
 cases hti : tis t with
 | false => simp [fine, hti]
 | true =>
  have hr : 0 ≤ t.z ∧ t.z ≤ 18 := by simp [tis] at hti; omega
  have hq : (2 : Int) ^ (18 - t.z).toNat ≤ 262144 := by
   have h1 : 2 ^ (18 - t.z).toNat ≤ 2 ^ 18 := zac (by decide) (by omega)
   have h3 : ((2 ^ (18 - t.z).toNat : Nat) : Int) = (2 : Int) ^ (18 - t.z).toNat := by simp
   omega
  have hp := p2 (18 - t.z).toNat (by omega)
  have hm : 16 * (2 : Int) ^ (18 - t.z).toNat * 2 ^ (18 - t.z).toNat ≤ 4194304 * 262144 := Int.mul_le_mul (by omega) hq (by omega) (by omega)
  simp only [fine, hti, h, Bool.true_and, decide_eq_false_iff_not]
  have : (7 : Int) ^ (12 - (0 : Int)).toNat = 13841287201 := by decide
  omega
theorem fine_of (x y z r : Int) : fine (tileOf x y z r) = false := by
 rcases coarse_not (z % 19) (r % 13).toNat with h | h
 ·exact fine_zero (by simp [tileOf, h])
 ·by_cases h0 : coarse (z % 19) (r % 13).toNat = 0
  ·exact fine_zero (by simp [tileOf, h0])
  ·rw [← h]
   have h1 := coarse_le (z % 19) (r % 13).toNat
   have hp := p2 (z % 19).toNat (by omega)
   refine fine_xy rfl rfl (tis_of x y z r) ?_
   simp only [tis, decide_eq_true_eq]
   omega
theorem and30 (x : Int) (hx : in64 x) : IntKind.i64.wrap ((zaa IntKind.i64.bits x &&& zaa IntKind.i64.bits 1073741823).toNat) = x % 1073741824 := by
 have e : (zaa 64 1073741823).toNat = 2 ^ 30 - 1 := by decide
 rw [show IntKind.i64.bits = 64 from rfl, BitVec.toNat_and, e, Nat.and_two_pow_sub_one_eq_mod, BitVec.toNat_ofInt]
 rw [wrap_id (by unfold in64 at hx; omega)]
 omega
theorem tile_t (x y z r : Int) (hx : in64 x) (hy : in64 y) (hz : in64 z) (hr : in64 r) : Triple P0 6 [int .i64 x, int .i64 y, int .i64 z, int .i64 r] [] (tileOf x y z r).v [] := by
 refine apiarylaw22_Tile_triple rfl (by decide) ?_
 have m1 : IntKind.i64.wrap (z.tmod 19 + 19) = z.tmod 19 + 19 := wrap_id (by have := tmod_in z 19 (by decide); omega)
 have m2 : (z.tmod 19 + 19).tmod 19 = z % 19 := by
  have := tmod_in z 19 (by decide)
  rw [zao (by omega), this.2.2]
 have m3 : IntKind.i64.wrap (r.tmod 13 + 13) = r.tmod 13 + 13 := wrap_id (by have := tmod_in r 13 (by decide); omega)
 have m4 : (r.tmod 13 + 13).tmod 13 = r % 13 := by
  have := tmod_in r 13 (by decide)
  rw [zao (by omega), this.2.2]
 simp only [apiarylaw22_Tile_pc, m1, m2, m3, m4, push_cast, ↓reduceIte, reduceCtorEq, zB, zE, zA, zS, zL, zD, zM]
 refine ⟨by decide, by decide, by decide, by decide, ?_⟩
 generalize hzz : z % 19 = z'
 have hz' : 0 ≤ z' ∧ z' ≤ 18 := by omega
 have hp := p2 z'.toNat (by omega)
 refine run_loop [(0, false), (1, false), (2, false), (3, false), (8, false)] (fun vs pos los => ∃ n : Nat, n ≤ 12 ∧ coarse z' n = coarse z' (r % 13).toNat ∧
  vs = [int .i64 x, int .i64 y, int .i64 z', int .i64 n, .ptr 2000000 0 0] ∧ pos = [] ∧ los = [.box [int .i64 0, int .i64 0, int .i64 0, int .i64 0]])
  (fun vs _ _ => match vs with | _ :: _ :: _ :: .r (.v (.int _ j)) :: _ => j.toNat | _ => 0) rfl ?_ ?_
 ·simp only [push_cast, ↓reduceIte, reduceCtorEq, zB, zE, zA, zS, zL, zD, zM]
  exact ⟨(r % 13).toNat, by omega, rfl, by rw [Int.toNat_of_nonneg (by omega)]⟩
 ·rintro vs pos los ⟨n, hn, hc, rfl, rfl, rfl⟩
  have fin : tileOf x y z r = ⟨z', (x % 1073741824) / 2 ^ (30 - z').toNat, (y % 1073741824) / 2 ^ (30 - z').toNat, (coarse z' n : Nat)⟩ := by
   simp only [tileOf, hzz, hc]
  have w1 : IntKind.i64.wrap (30 - z') = 30 - z' := wrap_id (by omega)
  have sh : ∀ a : Int, a.fdiv (2 ^ min (30 - z').toNat IntKind.i64.bits) = a / 2 ^ (30 - z').toNat := fun a => by
   rw [show min (30 - z').toNat IntKind.i64.bits = (30 - z').toNat from zap (by simp [IntKind.bits]; omega)]
   exact Int.fdiv_eq_ediv_of_nonneg _ (Int.le_of_lt (Int.pow_pos (by decide)))
  cases n with
  | zero =>
   simp only [Int.reduceLT, gt_iff_lt, Int.lt_irrefl, and30 x hx, and30 y hy, w1, sh, fin, Til.v, coarse, push_cast, ↓reduceIte, reduceCtorEq, zB, zE, zA, zS, zL, zD, zM]
   refine ⟨by omega, by omega, ?_⟩
   (show _ = true); kernel_rfl
  | succ n =>
   have e1 : decide (((n + 1 : Nat) : Int) > 0) = true := by simp
   have w2 : IntKind.i64.wrap (((n + 1 : Nat) : Int) - 1) = n := by rw [wrap_id (by omega)]; omega
   generalize hm : ((n + 1 : Nat) : Int) = m
   rw [hm] at e1 w2
   simp only [e1, push_cast, ↓reduceIte, reduceCtorEq, zB, zE, zA, zS, zL, zD, zM]
   refine call_as (as' := [Til.v ⟨z', 0, 0, m⟩]) rfl ?_
   refine call_mk (rfine_t ⟨z', 0, 0, m⟩ ⟨by unfold in64; dsimp; omega, by show in64 0; decide, by show in64 0; decide, by unfold in64; dsimp; omega⟩) rfl trivial ?_
   cases hf : fine ⟨z', 0, 0, m⟩ with
   | true =>
    simp only [w2, push_cast, ↓reduceIte, reduceCtorEq, zB, zE, zA, zS, zL, zD, zM]
    refine ⟨⟨n, by omega, ?_, rfl⟩, by omega⟩
    rw [← hc]
    simp only [coarse, hm, hf, if_true]
   | false =>
    have hk : coarse z' (n + 1) = n + 1 := by simp [coarse, hm, hf]
    rw [hk, hm] at fin
    simp only [and30 x hx, and30 y hy, w1, sh, fin, Til.v, push_cast, ↓reduceIte, reduceCtorEq, zB, zE, zA, zS, zL, zD, zM]
    refine ⟨by omega, by omega, ?_⟩
    (show _ = true); kernel_rfl


def mnN (f : Nat → Int) : Nat → Int
 | 0 => f 0
 | k + 1 => min (mnN f k) (f k)
def mxN (f : Nat → Int) : Nat → Int
 | 0 => f 0
 | k + 1 => max (mxN f k) (f k)
theorem mnN_le (f : Nat → Int) (k i : Nat) (h : i < k) : mnN f k ≤ f i := by
 induction k with
 | zero => omega
 | succ k ih =>
  rw [mnN]
  by_cases hi : i = k
  ·subst hi; omega
  ·have := ih (by omega); omega
theorem mxN_ge (f : Nat → Int) (k i : Nat) (h : i < k) : f i ≤ mxN f k := by
 induction k with
 | zero => omega
 | succ k ih =>
  rw [mxN]
  by_cases hi : i = k
  ·subst hi; omega
  ·have := ih (by omega); omega
def beside (z : Ei) (r : Nat) (lx ly ux uy : Int) : Prop := (mxN (hx z r) 6 < lx ∨ ux < mnN (hx z r) 6) ∨ (mxN (hy z r) 6 < ly ∨ uy < mnN (hy z r) 6)
instance (z : Ei) (r : Nat) (lx ly ux uy : Int) : Decidable (beside z r lx ly ux uy) := inferInstanceAs (Decidable (_ ∨ _))
def outs (z : Ei) (r : Nat) (lx ly ux uy : Int) (i : Nat) : Prop := crs z r i ((i + 1) % 6) lx ly < 0 ∧ crs z r i ((i + 1) % 6) ux ly < 0 ∧ crs z r i ((i + 1) % 6) ux uy < 0 ∧ crs z r i ((i + 1) % 6) lx uy < 0
instance (z : Ei) (r : Nat) (lx ly ux uy : Int) (i : Nat) : Decidable (outs z r lx ly ux uy i) := inferInstanceAs (Decidable (_ ∧ _))
def touch (z : Ei) (r : Nat) (lx ly ux uy : Int) : Bool := !decide (beside z r lx ly ux uy) && (List.range 6).all fun i => !decide (outs z r lx ly ux uy i)
theorem beside_no {z : Ei} {r : Nat} {lx ly ux uy : Int} (h : beside z r lx ly ux uy) : touch z r lx ly ux uy = false := by simp [touch, h]
theorem corner_up (A B x y lx ly ux uy : Int) (h1 : lx ≤ x ∧ x ≤ ux) (h2 : ly ≤ y ∧ y ≤ uy) :
  A * y - B * x ≤ A * ly - B * lx ∨ A * y - B * x ≤ A * ly - B * ux ∨ A * y - B * x ≤ A * uy - B * ux ∨ A * y - B * x ≤ A * uy - B * lx := by
 have ay : A * y ≤ A * ly ∨ A * y ≤ A * uy := by
  rcases Int.le_total 0 A with h | h
  ·exact .inr (Int.mul_le_mul_of_nonneg_left h2.2 h)
  ·exact .inl (Int.mul_le_mul_of_nonpos_left h h2.1)
 have bx : B * lx ≤ B * x ∨ B * ux ≤ B * x := by
  rcases Int.le_total 0 B with h | h
  ·exact .inl (Int.mul_le_mul_of_nonneg_left h1.1 h)
  ·exact .inr (Int.mul_le_mul_of_nonpos_left h h1.2)
 omega
theorem crs_eq (z : Ei) (r i j : Nat) (x y : Int) : crs z r i j x y = ((kx r j - kx r i) * y - (ky r j - ky r i) * x) - ((kx r j - kx r i) * hy z r i - (ky r j - ky r i) * hx z r i) := by
 unfold crs
 rw [Int.mul_sub, Int.mul_sub]
 omega
theorem own_touch {x y : Int} {z : Ei} {r : Nat} (h : Lies x y z r) {lx ly ux uy : Int} (h1 : lx ≤ 3 * x ∧ 3 * x ≤ ux) (h2 : ly ≤ 3 * y ∧ 3 * y ≤ uy) : touch z r lx ly ux uy = true := by
 obtain ⟨_, hc, ⟨a, a6, ha⟩, ⟨b, b6, hb⟩, ⟨c, c6, hcc⟩, ⟨d, d6, hd⟩⟩ := h
 have e1 := mnN_le (hx z r) 6 a a6
 have e2 := mxN_ge (hx z r) 6 b b6
 have e3 := mnN_le (hy z r) 6 c c6
 have e4 := mxN_ge (hy z r) 6 d d6
 simp only [touch, Bool.and_eq_true, Bool.not_eq_true', decide_eq_false_iff_not, List.all_eq_true, zaq]
 refine ⟨by unfold beside; omega, fun i hi => ?_⟩
 have := hc i hi
 have hu := corner_up (kx r ((i + 1) % 6) - kx r i) (ky r ((i + 1) % 6) - ky r i) (3 * x) (3 * y) lx ly ux uy h1 h2
 simp only [outs, crs_eq] at this ⊢
 omega
def rng (a b : Int) : List Int := (List.range (b + 1 - a).toNat).map fun i : Nat => a + (i : Int)
theorem rng_nil {a b : Int} (h : b < a) : rng a b = [] := by
 unfold rng
 rw [show (b + 1 - a).toNat = 0 by omega]; rfl
theorem rng_snoc {a b : Int} (h : a ≤ b) : rng a b = rng a (b - 1) ++ [b] := by
 unfold rng
 rw [show (b + 1 - a).toNat = (b - 1 + 1 - a).toNat + 1 by omega, List.range_succ, List.map_append]
 congr 1
 simp only [List.map_cons, List.map_nil, List.cons.injEq, and_true]
 omega
theorem mem_rng {a b i : Int} : i ∈ rng a b ↔ a ≤ i ∧ i ≤ b := by
 unfold rng
 simp only [List.mem_map, zaq]
 constructor
 ·rintro ⟨k, hk, rfl⟩; omega
 ·intro h; exact ⟨(i - a).toNat, by omega, by omega⟩
theorem rng_add {a b c : Int} (h1 : a ≤ b + 1) (h2 : b ≤ c) : rng a c = rng a b ++ rng (b + 1) c := by
 obtain ⟨n, hn⟩ : ∃ n : Nat, c = b + n := ⟨(c - b).toNat, by omega⟩
 subst hn
 induction n with
 | zero => rw [rng_nil (a := b + 1) (by omega)]; simp
 | succ n ih =>
  rw [rng_snoc (a := a) (by omega), rng_snoc (a := b + 1) (by omega)]
  rw [show b + ((n + 1 : Nat) : Int) - 1 = b + n by omega, ih (by omega), List.append_assoc]
theorem rng_filter {a b A B : Int} (p : Int → Bool) (h1 : a ≤ A) (h2 : B ≤ b) (h : ∀ i, a ≤ i → i ≤ b → ¬ (A ≤ i ∧ i ≤ B) → p i = false) : (rng a b).filter p = (rng A B).filter p := by
 by_cases hAB : A ≤ B + 1
 ·have e0 : ∀ l : List Int, (∀ i, i ∈ l → p i = false) → l.filter p = [] := fun l hl => zaw.2 fun i hi => by simp [hl i hi]
  rw [rng_add (a := a) (b := A - 1) (c := b) (by omega) (by omega), rng_add (a := A - 1 + 1) (b := B) (c := b) (by omega) (by omega), List.filter_append, List.filter_append,
   e0 (rng a (A - 1)) (fun i hi => by rw [mem_rng] at hi; exact h i (by omega) (by omega) (by omega)),
   e0 (rng (B + 1) b) (fun i hi => by rw [mem_rng] at hi; exact h i (by omega) (by omega) (by omega)), show A - 1 + 1 = A by omega]
  simp
 ·rw [rng_nil (a := A) (b := B) (by omega)]
  exact zaw.2 fun i hi => by rw [mem_rng] at hi; simp [h i hi.1 hi.2 (by omega)]
def rowT (p : Int → Int → Bool) (a b k : Int) : List (Int × Int) := ((rng a b).filter fun i => p i k).map fun i => (i, k)
def rowsT (p : Int → Int → Bool) (a b c d : Int) : List (Int × Int) := (rng c d).flatMap (rowT p a b)
theorem mem_rowsT {p : Int → Int → Bool} {a b c d i k : Int} (h1 : a ≤ i ∧ i ≤ b) (h2 : c ≤ k ∧ k ≤ d) (h : p i k = true) : (i, k) ∈ rowsT p a b c d := by
 unfold rowsT rowT
 simp only [List.mem_flatMap, List.mem_map, List.mem_filter, mem_rng]
 exact ⟨k, h2, i, ⟨h1, h⟩, rfl⟩
theorem rowsT_wide (p : Int → Int → Bool) {a b c d A B C D : Int} (h1 : a ≤ A) (h2 : B ≤ b) (h3 : c ≤ C) (h4 : D ≤ d)
  (hx : ∀ i k, a ≤ i → i ≤ b → c ≤ k → k ≤ d → ¬ (A ≤ i ∧ i ≤ B) → p i k = false) (hy : ∀ i k, a ≤ i → i ≤ b → c ≤ k → k ≤ d → ¬ (C ≤ k ∧ k ≤ D) → p i k = false) : rowsT p a b c d = rowsT p A B C D := by
 have e1 : ∀ k, c ≤ k → k ≤ d → rowT p a b k = rowT p A B k := fun k k1 k2 => by
  unfold rowT
  rw [rng_filter (A := A) (B := B) (fun i => p i k) h1 h2 fun i i1 i2 => hx i k i1 i2 k1 k2]
 have e2 : ∀ k, c ≤ k → k ≤ d → ¬ (C ≤ k ∧ k ≤ D) → rowT p a b k = [] := fun k k1 k2 k3 => by
  unfold rowT
  rw [List.map_eq_nil_iff, zaw]
  intro i hi
  rw [mem_rng] at hi
  simp [hy i k hi.1 hi.2 k1 k2 k3]
 have e3 : ∀ l : List Int, (∀ k, k ∈ l → c ≤ k ∧ k ≤ d) → l.flatMap (rowT p a b) = (l.filter fun k => decide (C ≤ k ∧ k ≤ D)).flatMap (rowT p A B) := fun l hl => by
  induction l with
  | nil => rfl
  | cons k l ih =>
   have hk := hl k (by simp)
   have ih' := ih fun j hj => hl j (by simp [hj])
   rw [List.flatMap_cons, ih', List.filter_cons]
   by_cases hC : C ≤ k ∧ k ≤ D
   ·simp only [hC, and_self, decide_true, if_true, List.flatMap_cons]
    rw [e1 k hk.1 hk.2]
   ·simp only [hC, decide_false, Bool.false_eq_true, if_false]
    rw [e2 k hk.1 hk.2 hC]; rfl
 unfold rowsT
 rw [e3 _ fun k hk => by rw [mem_rng] at hk; exact hk]
 rw [rng_filter (A := C) (B := D) _ h3 h4 fun i i1 i2 i3 => by simp; omega]
 congr 1
 exact List.filter_eq_self.2 fun k hk => by rw [mem_rng] at hk; simp; omega
def tlo (m s last : Int) : Int := min (max (m.tdiv (3 * s) - 1) 0) last
def thi (m s last : Int) : Int := min (max (m.tdiv (3 * s) + 1) 0) last
def dlo (m s : Int) : Int := max (m.tdiv (3 * s) - 2) 0
def dhi (m s last : Int) : Int := min (m.tdiv (3 * s) + 2) last
theorem tdiv_lt (m n : Int) (hn : 0 < n) : m < (m.tdiv n + 1) * n := by
 rw [zag, Int.one_mul]
 have h := Int.tmod_add_tdiv_mul m n
 have : m.tmod n < n := Int.tmod_lt_of_pos m hn
 omega
theorem tdiv_ge {m n : Int} (hn : 0 < n) (h : 0 < m.tdiv n) : m.tdiv n * n ≤ m := by
 have hm : 0 ≤ m := by
  rcases Int.le_total 0 m with h1 | h1
  ·exact h1
  ·have : m.tdiv n ≤ 0 := by
    rcases Int.lt_or_le m 0 with h2 | h2
    ·have h3 := Int.neg_tdiv (-m) n
     rw [Int.neg_neg] at h3
     have h4 := Int.tdiv_nonneg (show 0 ≤ -m by omega) (show 0 ≤ n by omega)
     omega
    ·have : m = 0 := by omega
     subst this; simp
   omega
 have h := Int.tmod_add_tdiv_mul m n
 have := Int.tmod_nonneg n hm
 omega
theorem axis_out {lo hi s last i : Int} (hs : 0 < s) (h0 : 0 ≤ i) (h1 : i ≤ last) (h : ¬ (tlo lo s last ≤ i ∧ i ≤ thi hi s last)) : hi < 3 * (i * s) ∨ 3 * ((i + 1) * s) < lo := by
 have h3 : 0 < 3 * s := by omega
 unfold tlo thi at h
 have hA := tdiv_lt hi (3 * s) h3
 have hB : 0 < lo.tdiv (3 * s) → _ := tdiv_ge h3
 generalize hi.tdiv (3 * s) = q at *
 generalize lo.tdiv (3 * s) = u at *
 rcases (show q + 2 ≤ i ∨ i + 2 ≤ u by omega) with c | c
 ·left
  have : (q + 1) * (3 * s) ≤ i * (3 * s) := zah (by omega) (by omega)
  rw [Int.mul_left_comm i 3 s] at this
  omega
 ·right
  have hB := hB (by omega)
  have : (i + 1 + 1) * (3 * s) ≤ u * (3 * s) := zah (by omega) (by omega)
  rw [zag (i + 1), Int.mul_left_comm (i + 1) 3 s] at this
  omega
def tch (z : Ei) (r : Nat) (s i k : Int) : Bool := touch z r (3 * (i * s)) (3 * (k * s)) (3 * ((i + 1) * s)) (3 * ((k + 1) * s))
theorem tch_x {z : Ei} {r : Nat} {s i k last : Int} (hs : 0 < s) (h0 : 0 ≤ i) (h1 : i ≤ last) (h : ¬ (tlo (mnN (hx z r) 6) s last ≤ i ∧ i ≤ thi (mxN (hx z r) 6) s last)) : tch z r s i k = false :=
 beside_no (.inl (axis_out hs h0 h1 h))
theorem tch_y {z : Ei} {r : Nat} {s i k last : Int} (hs : 0 < s) (h0 : 0 ≤ k) (h1 : k ≤ last) (h : ¬ (tlo (mnN (hy z r) 6) s last ≤ k ∧ k ≤ thi (mxN (hy z r) 6) s last)) : tch z r s i k = false :=
 beside_no (.inr (axis_out hs h0 h1 h))
theorem ends_in {lo hi s last i : Int} (hs : 0 < s) (h0 : 0 ≤ i) (h1 : i ≤ last) (h2 : lo ≤ 3 * ((i + 1) * s)) (h3 : 3 * (i * s) ≤ hi) : dlo lo s ≤ tlo lo s last ∧ thi hi s last ≤ dhi hi s last := by
 have h4 : 0 < 3 * s := by omega
 have hA := tdiv_lt hi (3 * s) h4
 have hB : 0 < lo.tdiv (3 * s) → _ := tdiv_ge h4
 have hq : 0 ≤ hi.tdiv (3 * s) := Int.tdiv_nonneg (by have := zak h0 (Int.le_of_lt hs); omega) (by omega)
 unfold dlo tlo thi dhi
 generalize hi.tdiv (3 * s) = q at *
 generalize lo.tdiv (3 * s) = u at *
 refine ⟨?_, by omega⟩
 have : ¬ last + 2 ≤ u := fun c => by
  have hB := hB (by omega)
  have e1 : (last + 1 + 1) * (3 * s) ≤ u * (3 * s) := zah (by omega) (by omega)
  have e2 : (i + 1) * s ≤ (last + 1) * s := zah (by omega) (by omega)
  rw [zag (last + 1), Int.mul_left_comm (last + 1) 3 s] at e1
  omega
 omega
def progT (z : Ei) (r : Nat) (s last : Int) : List (Int × Int) := rowsT (tch z r s) (tlo (mnN (hx z r) 6) s last) (thi (mxN (hx z r) 6) s last) (tlo (mnN (hy z r) 6) s last) (thi (mxN (hy z r) 6) s last)
def docT (z : Ei) (r : Nat) (s last : Int) : List (Int × Int) := rowsT (tch z r s) (dlo (mnN (hx z r) 6) s) (dhi (mxN (hx z r) 6) s last) (dlo (mnN (hy z r) 6) s) (dhi (mxN (hy z r) 6) s last)
theorem tiles_same {x y : Int} {z : Ei} {r : Nat} (h : Lies x y z r) {s last i k : Int} (hs : 0 < s) (i0 : 0 ≤ i ∧ i ≤ last) (k0 : 0 ≤ k ∧ k ≤ last) (hx : i * s ≤ x ∧ x < (i + 1) * s) (hy : k * s ≤ y ∧ y < (k + 1) * s) :
  docT z r s last = progT z r s last ∧ (i, k) ∈ progT z r s last := by
 have ht : tch z r s i k = true := own_touch h ⟨by omega, by omega⟩ ⟨by omega, by omega⟩
 have hb : ¬ beside z r (3 * (i * s)) (3 * (k * s)) (3 * ((i + 1) * s)) (3 * ((k + 1) * s)) := fun hb => by
  have := beside_no hb
  rw [tch, this] at ht
  cases ht
 unfold beside at hb
 have ex := ends_in (lo := mnN (Go.Ev.hx z r) 6) (hi := mxN (Go.Ev.hx z r) 6) hs i0.1 i0.2 (by omega) (by omega)
 have ey := ends_in (lo := mnN (Go.Ev.hy z r) 6) (hi := mxN (Go.Ev.hy z r) 6) hs k0.1 k0.2 (by omega) (by omega)
 refine ⟨rowsT_wide _ ex.1 ex.2 ey.1 ey.2 (fun i' k' a b c d e => tch_x hs (by unfold dlo at a; omega) (by unfold dhi at b; omega) e) (fun i' k' a b c d e => tch_y hs (by unfold dlo at c; omega) (by unfold dhi at d; omega) e), mem_rowsT ?_ ?_ ht⟩
 ·apply Classical.byContradiction
  intro c
  rw [tch_x hs i0.1 i0.2 c] at ht
  cases ht
 ·apply Classical.byContradiction
  intro c
  rw [tch_y hs k0.1 k0.2 c] at ht
  cases ht

noncomputable def cover_inThirds_pc : PC :=
  (.seq (.reg [p_a 2 (.box (.t 0)), p_a 3 (.box (.t 1)), p_a 4 (.new [(.r (.v (.int .i64 0))), (.r (.v (.int .i64 0))), (.r (.v (.int .i64 0))), (.r (.v (.int .i64 0)))]), p_s 5 (.mov (.c (.r (.v (.bool false)))))])
 (.seq (.reg [p_a 6 (.new [(.r (.v (.int .i64 0))), (.r (.v (.int .i64 0))), (.r (.v (.int .i64 0))), (.r (.v (.int .i64 0)))])])
 (.seq (.seq (.reg [p_s 8 (.mov (o_i 0))])
 (.block 0 (.loop (.seq (.reg [p_s 9 (.bin .lss (.t 8) (o_i 2))])
 (.seq (.cond (.t 9)
 .skip
 (.exit 0))
 (.seq (.block 1 (.seq (.reg [p_m 10 8, p_m 7 10])
 (.seq (.seq (.drw [p_m 11 7, p_s 12 (.iaa 2 1 (.t 2) (.t 11)), p_s 13 (.ld none (.t 12)), p_s 14 (.bin .lss (.t 13) (o_i (-2147483648))), p_m 15 14, p_g 16 15 false (.mov (.t 7)),
 p_g 17 15 false (.iaa 2 1 (.t 3) (.t 16)), p_g 18 15 false (.ld none (.t 17)), p_g 19 15 false (.bin .gtr (.t 18) (o_i 2147483648)), p_s 20 (.pick (.t 15) (.c (.r (.v (.bool true)))) (.t 19)),
 p_m 21 20, p_g 22 21 false (.mov (.t 7)), p_g 23 21 false (.iaa 2 1 (.t 3) (.t 22)), p_g 24 21 false (.ld none (.t 23)), p_g 25 21 false (.mov (.t 7)), p_g 26 21 false (.iaa 2 1 (.t 2) (.t 25)),
 p_g 27 21 false (.ld none (.t 26)), p_g 28 21 false (.bin .lss (.t 24) (.t 27)), p_s 29 (.pick (.t 21) (.c (.r (.v (.bool true)))) (.t 28))]
 [[], [0], [0, 1], [0, 1, 2], [0, 1, 2, 3], [0, 1, 2, 3, 4], [0, 1, 2, 3, 4, 5], [0, 1, 2, 3, 4, 5, 6], [0, 1, 2, 3, 4, 5, 6, 7], [0, 1, 2, 3, 4, 5, 6, 7, 8], [0, 1, 2, 3, 4, 5, 6, 7, 8, 9], [0, 1, 2, 3, 4, 5, 6, 7, 8, 9, 10], [0, 1, 2, 3, 4, 5, 6, 7, 8, 9, 10, 11], [0, 1, 2, 3, 4, 5, 6, 7, 8, 9, 10, 11, 12], [0, 1, 2, 3, 4, 5, 6, 7, 8, 9, 10], [0, 1, 2, 3, 4, 5, 6, 7, 8, 9, 10, 14], [0, 1, 2, 3, 4, 5, 6, 7, 8, 9, 10, 14, 15], [0, 1, 2, 3, 4, 5, 6, 7, 8, 9, 10, 11, 12, 13, 14, 15, 16], [0, 1, 2, 3, 4, 5, 6, 7, 8, 9, 10, 11, 12, 13, 14, 15, 16, 17]])
 (.cond (.t 29)
 (.seq (.reg [p_s 30 (.ld (some 4) (.t 6)), ⟨none, none, 0, .act (.st 4 (.t 4) (.t 30))⟩, p_s 5 (.mov (.c (.r (.v (.bool false)))))])
 .ret)
 .skip))
 (.drw [p_m 31 7, p_m 32 7, p_m 33 7, p_s 34 (.iaa 2 1 (.t 2) (.t 33)), p_s 35 (.ld none (.t 34)), p_s 36 (.bin .mul (o_i 3) (.t 35)), p_m 37 7, p_s 38 (.iaa 2 1 (.t 3) (.t 37)),
 p_s 39 (.ld none (.t 38)), p_s 40 (.bin .mul (o_i 3) (.t 39)), p_s 41 (.fa 0 (.t 6)), p_s 42 (.iaa 2 1 (.t 41) (.t 31)), ⟨none, none, 0, .act (.st 1 (.t 42) (.t 36))⟩,
 p_s 43 (.fa 2 (.t 6)), p_s 44 (.iaa 2 1 (.t 43) (.t 32)), ⟨none, none, 0, .act (.st 1 (.t 44) (.t 40))⟩]
 [[], [], [], [2], [2, 3], [2, 3, 4], [], [6], [6, 7], [6, 7, 8], [], [0, 2, 3, 4, 5, 10], [0, 2, 3, 4, 5, 10, 11], [], [0, 1, 2, 3, 4, 5, 6, 7, 8, 9, 10, 11, 12, 13], [0, 1, 2, 3, 4, 5, 6, 7, 8, 9, 10, 11, 12, 13, 14]]))))
 (.reg [p_s 45 (.bin .add (.t 8) (o_i 1)), p_m 8 45])))))))
 (.seq (.reg [p_s 46 (.ld (some 4) (.t 6)), ⟨none, none, 0, .act (.st 4 (.t 4) (.t 46))⟩, p_s 5 (.mov (.c (.r (.v (.bool true)))))])
 .ret))))
theorem cover_inThirds_triple : Fun P0 114 2 [(4, false, some (167, (some 4))), (5, false, none)] cover_inThirds_pc := fun_mk Go.Proofs.Tryz.func114 rfl (by decide) (by kernel_rfl) (by decide) rfl (by kernel_rfl) (by kernel_rfl) (by decide)
noncomputable def cover_box_corners_pc : PC :=
  (.seq (.reg [p_a 1 (.box (.t 0)), p_s 2 (.mov (.c (.nils 2 (.agg [(.v (.int .i64 0)), (.v (.int .i64 0))]))))])
 (.seq (.reg [p_s 3 (.fa 0 (.t 1)), p_s 4 (.ld (some 2) (.t 3)), p_s 5 (.fa 2 (.t 1)), p_s 6 (.iaa 2 1 (.t 5) (o_i 0)), p_s 7 (.ld none (.t 6)), p_s 8 (.fa 0 (.t 1)), p_s 9 (.iaa 2 1 (.t 8) (o_i 1)),
 p_s 10 (.ld none (.t 9)), p_s 11 (.build [(.r (.v (.int .i64 0))), (.r (.v (.int .i64 0)))] [(0, 1, (.t 7)), (1, 1, (.t 10))]), p_s 12 (.fa 2 (.t 1)), p_s 13 (.ld (some 2) (.t 12)),
 p_s 14 (.fa 0 (.t 1)), p_s 15 (.iaa 2 1 (.t 14) (o_i 0)), p_s 16 (.ld none (.t 15)), p_s 17 (.fa 2 (.t 1)), p_s 18 (.iaa 2 1 (.t 17) (o_i 1)), p_s 19 (.ld none (.t 18)),
 p_s 20 (.build [(.r (.v (.int .i64 0))), (.r (.v (.int .i64 0)))] [(0, 1, (.t 16)), (1, 1, (.t 19))]), p_a 21 (.bsl 2 (.agg [(.v (.int .i64 0)), (.v (.int .i64 0))]) [(.t 4), (.t 11), (.t 13), (.t 20)]),
 p_m 2 21])
 .ret))
theorem cover_box_corners_triple : Fun P0 173 1 [(2, false, none)] cover_box_corners_pc := fun_mk Go.Proofs.Tryz.func173 rfl (by decide) (by kernel_rfl) (by decide) rfl (by kernel_rfl) (by kernel_rfl) (by decide)
noncomputable def cover_box_beside_pc : PC :=
  (.seq (.reg [p_a 2 (.box (.t 0)), p_s 4 (.mov (.c (.r (.v (.bool false)))))])
 (.seq (.seq (.reg [p_s 10 (.mov (o_i 0))])
 (.block 0 (.loop (.seq (.reg [p_s 11 (.bin .lss (.t 10) (o_i 2))])
 (.seq (.cond (.t 11)
 .skip
 (.exit 0))
 (.seq (.block 1 (.seq (.reg [p_m 12 10, p_m 5 12])
 (.seq (.drw [p_m 13 1, p_m 14 5, p_s 15 (.ia 2 (.agg [(.v (.int .i64 0)), (.v (.int .i64 0))]) (.t 13) (o_i 0)), p_s 16 (.iaa 2 1 (.t 15) (.t 14)), p_s 17 (.ld none (.t 16)),
 p_m 18 1, p_m 19 5, p_s 20 (.ia 2 (.agg [(.v (.int .i64 0)), (.v (.int .i64 0))]) (.t 18) (o_i 0)), p_s 21 (.iaa 2 1 (.t 20) (.t 19)), p_s 22 (.ld none (.t 21)),
 p_m 6 17, p_m 7 22]
 [[], [], [0], [0, 1, 2], [0, 1, 2, 3], [], [], [5], [5, 6, 7], [5, 6, 7, 8], [0, 1, 2, 3, 4], [0, 1, 2, 3, 4, 5, 6, 7, 8, 9, 10]])
 (.seq (.seq (.reg [p_m 23 1, p_s 24 (.len false (.t 23)), p_s 25 (.mov (o_i 0))])
 (.block 2 (.loop (.seq (.reg [p_s 26 (.bin .lss (.t 25) (.t 24))])
 (.seq (.cond (.t 26)
 .skip
 (.exit 2))
 (.seq (.block 3 (.seq (.reg [p_s 27 (.ia 2 (.agg [(.v (.int .i64 0)), (.v (.int .i64 0))]) (.t 23) (.t 25)), p_s 28 (.ld (some 2) (.t 27)), p_a 9 (.new [(.r (.v (.int .i64 0))), (.r (.v (.int .i64 0)))]),
 ⟨none, none, 0, .act (.st 2 (.t 9) (.t 28))⟩])
 (.drw [p_m 29 6, p_m 30 5, p_s 31 (.iaa 2 1 (.t 9) (.t 30)), p_s 32 (.ld none (.t 31)), p_s 33 (.mm false (.t 29) [(.t 32)]), p_m 34 7, p_m 35 5, p_s 36 (.iaa 2 1 (.t 9) (.t 35)),
 p_s 37 (.ld none (.t 36)), p_s 38 (.mm true (.t 34) [(.t 37)]), p_m 6 33, p_m 7 38]
 [[], [], [1], [1, 2], [0, 1, 2, 3], [], [], [6], [6, 7], [5, 6, 7, 8], [0, 1, 2, 3, 4], [0, 1, 2, 3, 4, 5, 6, 7, 8, 9, 10]])))
 (.reg [p_s 39 (.bin .add (.t 25) (o_i 1)), p_m 25 39])))))))
 (.seq (.reg [p_m 40 7, p_m 41 5, p_s 42 (.fa 0 (.t 2)), p_s 43 (.iaa 2 1 (.t 42) (.t 41)), p_s 44 (.ld none (.t 43)), p_s 45 (.bin .lss (.t 40) (.t 44)), p_m 46 45, p_g 47 46 false (.mov (.t 6)),
 p_g 48 46 false (.mov (.t 5)), p_g 49 46 false (.fa 2 (.t 2)), p_g 50 46 false (.iaa 2 1 (.t 49) (.t 48)), p_g 51 46 false (.ld none (.t 50)), p_g 52 46 false (.bin .gtr (.t 47) (.t 51)),
 p_s 53 (.pick (.t 46) (.c (.r (.v (.bool true)))) (.t 52))])
 (.cond (.t 53)
 (.seq (.reg [p_s 4 (.mov (.c (.r (.v (.bool true)))))])
 .ret)
 .skip))))))
 (.reg [p_s 54 (.bin .add (.t 10) (o_i 1)), p_m 10 54])))))))
 (.seq (.reg [p_s 4 (.mov (.c (.r (.v (.bool false)))))])
 .ret)))
theorem cover_box_beside_triple : Fun P0 148 2 [(4, false, none)] cover_box_beside_pc := fun_mk Go.Proofs.Tryz.func148 rfl (by decide) (by kernel_rfl) (by decide) rfl (by kernel_rfl) (by kernel_rfl) (by decide)
noncomputable def cover_box_outside_pc : PC :=
  (.seq (.reg [p_a 3 (.box (.t 0)), p_a 4 (.box (.t 1)), p_a 5 (.box (.t 2)), p_s 6 (.mov (.c (.r (.v (.bool false)))))])
 (.seq (.seq (.reg [p_s 9 (.ld (some 4) (.t 3)), p_c 10 1 173 [.t 9], p_s 11 (.len false (.t 10)), p_s 12 (.mov (o_i 0))])
 (.block 0 (.loop (.seq (.reg [p_s 13 (.bin .lss (.t 12) (.t 11))])
 (.seq (.cond (.t 13)
 .skip
 (.exit 0))
 (.seq (.block 1 (.seq (.reg [p_s 14 (.ia 2 (.agg [(.v (.int .i64 0)), (.v (.int .i64 0))]) (.t 10) (.t 12)), p_s 15 (.ld (some 2) (.t 14)), p_a 8 (.new [(.r (.v (.int .i64 0))), (.r (.v (.int .i64 0)))]),
 ⟨none, none, 0, .act (.st 2 (.t 8) (.t 15))⟩])
 (.seq (.reg [p_s 16 (.iaa 2 1 (.t 5) (o_i 0)), p_s 17 (.ld none (.t 16)), p_s 18 (.iaa 2 1 (.t 4) (o_i 0)), p_s 19 (.ld none (.t 18)), p_s 20 (.bin .sub (.t 17) (.t 19)), p_s 21 (.iaa 2 1 (.t 8) (o_i 1)),
 p_s 22 (.ld none (.t 21)), p_s 23 (.iaa 2 1 (.t 4) (o_i 1)), p_s 24 (.ld none (.t 23)), p_s 25 (.bin .sub (.t 22) (.t 24)), p_s 26 (.bin .mul (.t 20) (.t 25)), p_s 27 (.iaa 2 1 (.t 5) (o_i 1)),
 p_s 28 (.ld none (.t 27)), p_s 29 (.iaa 2 1 (.t 4) (o_i 1)), p_s 30 (.ld none (.t 29)), p_s 31 (.bin .sub (.t 28) (.t 30)), p_s 32 (.iaa 2 1 (.t 8) (o_i 0)), p_s 33 (.ld none (.t 32)),
 p_s 34 (.iaa 2 1 (.t 4) (o_i 0)), p_s 35 (.ld none (.t 34)), p_s 36 (.bin .sub (.t 33) (.t 35)), p_s 37 (.bin .mul (.t 31) (.t 36)), p_s 38 (.bin .sub (.t 26) (.t 37)),
 p_s 39 (.bin .geq (.t 38) (o_i 0))])
 (.cond (.t 39)
 (.seq (.reg [p_s 6 (.mov (.c (.r (.v (.bool false)))))])
 .ret)
 .skip))))
 (.reg [p_s 40 (.bin .add (.t 12) (o_i 1)), p_m 12 40])))))))
 (.seq (.reg [p_s 6 (.mov (.c (.r (.v (.bool true)))))])
 .ret)))
theorem cover_box_outside_triple : Fun P0 149 3 [(6, false, none)] cover_box_outside_pc := fun_mk Go.Proofs.Tryz.func149 rfl (by decide) (by kernel_rfl) (by decide) rfl (by kernel_rfl) (by kernel_rfl) (by decide)
noncomputable def cover_box_touches_pc : PC :=
  (.seq (.reg [p_a 2 (.box (.t 0)), p_s 4 (.mov (.c (.r (.v (.bool false)))))])
 (.seq (.seq (.reg [p_s 7 (.ld (some 4) (.t 2)), p_m 8 1, p_c 9 1 148 [.t 7, .t 8]])
 (.cond (.t 9)
 (.seq (.reg [p_s 4 (.mov (.c (.r (.v (.bool false)))))])
 .ret)
 .skip))
 (.seq (.seq (.reg [p_m 10 1, p_s 11 (.len false (.t 10)), p_s 12 (.mov (o_i 0))])
 (.block 0 (.loop (.seq (.reg [p_s 13 (.bin .lss (.t 12) (.t 11))])
 (.seq (.cond (.t 13)
 .skip
 (.exit 0))
 (.seq (.block 1 (.seq (.reg [p_m 14 12, p_s 15 (.ia 2 (.agg [(.v (.int .i64 0)), (.v (.int .i64 0))]) (.t 10) (.t 12)), p_s 16 (.ld (some 2) (.t 15)), p_a 6 (.new [(.r (.v (.int .i64 0))), (.r (.v (.int .i64 0)))]),
 p_m 5 14, ⟨none, none, 0, .act (.st 2 (.t 6) (.t 16))⟩])
 (.seq (.drw [p_s 17 (.ld (some 4) (.t 2)), p_s 18 (.ld (some 2) (.t 6)), p_m 19 1, p_m 20 5, p_s 21 (.bin .add (.t 20) (o_i 1)), p_m 22 1, p_s 23 (.len false (.t 22)), p_s 24 (.bin .rem (.t 21) (.t 23)),
 p_s 25 (.ia 2 (.agg [(.v (.int .i64 0)), (.v (.int .i64 0))]) (.t 19) (.t 24)), p_s 26 (.ld (some 2) (.t 25)), p_c 27 2 149 [.t 17, .t 18, .t 26]]
 [[], [], [], [], [3], [], [5], [3, 4, 5, 6], [2, 3, 4, 5, 6, 7], [2, 3, 4, 5, 6, 7, 8], [0, 1, 2, 3, 4, 5, 6, 7, 8, 9]])
 (.cond (.t 27)
 (.seq (.reg [p_s 4 (.mov (.c (.r (.v (.bool false)))))])
 .ret)
 .skip))))
 (.reg [p_s 28 (.bin .add (.t 12) (o_i 1)), p_m 12 28])))))))
 (.seq (.reg [p_s 4 (.mov (.c (.r (.v (.bool true)))))])
 .ret))))
theorem cover_box_touches_triple : Fun P0 116 2 [(4, false, none)] cover_box_touches_pc := fun_mk Go.Proofs.Tryz.func116 rfl (by decide) (by kernel_rfl) (by decide) rfl (by kernel_rfl) (by kernel_rfl) (by decide)
noncomputable def cover_Touches_pc : PC :=
  (.seq (.reg [p_a 3 (.box (.t 0)), p_a 4 (.box (.t 1)), p_a 5 (.box (.t 2)), p_s 6 (.mov (.c (.r (.v (.bool false)))))])
 (.seq (.reg [p_s 12 (.ld (some 2) (.t 4)), p_s 13 (.ld (some 2) (.t 5)), p_c 14 1 114 [.t 12, .t 13], p_m 11 14, p_s 15 (.ext (.t 11) 0), p_s 16 (.ext (.t 11) 1), p_a 7 (.new [(.r (.v (.int .i64 0))), (.r (.v (.int .i64 0))), (.r (.v (.int .i64 0))), (.r (.v (.int .i64 0)))]),
 ⟨none, none, 0, .act (.st 4 (.t 7) (.t 15))⟩, p_m 8 16])
 (.seq (.seq (.reg [p_m 17 8, p_s 18 (.un .not (.t 17)), p_m 19 18, p_g 20 19 false (.ld (some 3) (.t 3)), ⟨(some 21), (some (19, false)), 2, .call 115 [(.t 20)]⟩, p_g 22 19 false (.un .not (.t 21)),
 p_s 23 (.pick (.t 19) (.c (.r (.v (.bool true)))) (.t 22))])
 (.cond (.t 23)
 (.seq (.reg [p_s 6 (.mov (.c (.r (.v (.bool false)))))])
 .ret)
 .skip))
 (.seq (.reg [p_s 25 (.fa 1 (.t 3)), p_s 26 (.ld (some 2) (.t 25)), p_s 27 (.fa 0 (.t 3)), p_s 28 (.ld none (.t 27)), p_c 29 3 27 [.t 26, .t 28], p_m 24 29, p_s 30 (.ext (.t 24) 0),
 p_s 31 (.ext (.t 24) 1), p_m 9 30, p_m 10 31])
 (.seq (.reg [p_s 32 (.ld (some 4) (.t 7)), p_m 33 9, p_c 34 4 116 [.t 32, .t 33], p_m 6 34])
 .ret)))))
theorem cover_Touches_triple : Fun P0 76 3 [(6, false, none)] cover_Touches_pc := fun_mk Go.Proofs.Tryz.func76 rfl (by decide) (by kernel_rfl) (by decide) rfl (by kernel_rfl) (by kernel_rfl) (by decide)
def pv (x y : Int) : AV := .r (pnt x y)
def bxv (lx ly ux uy : Int) : AV := .r (.agg [.v (.int .i64 lx), .v (.int .i64 ly), .v (.int .i64 ux), .v (.int .i64 uy)])
def in31 (x : Int) : Prop := -2147483648 ≤ x ∧ x ≤ 2147483648
def ibx (lx ly ux uy i : Int) : List AV := if i = 0 then [int .i64 0, int .i64 0, int .i64 0, int .i64 0] else if i = 1 then [int .i64 (3 * lx), int .i64 0, int .i64 (3 * ux), int .i64 0] else [int .i64 (3 * lx), int .i64 (3 * ly), int .i64 (3 * ux), int .i64 (3 * uy)]
theorem ibx_0 (lx ly ux uy : Int) : ibx lx ly ux uy 0 = [int .i64 0, int .i64 0, int .i64 0, int .i64 0] := rfl
theorem ibx_1 (lx ly ux uy : Int) : ibx lx ly ux uy 1 = [int .i64 (3 * lx), int .i64 0, int .i64 (3 * ux), int .i64 0] := rfl
theorem ibx_2 (lx ly ux uy : Int) : ibx lx ly ux uy 2 = [int .i64 (3 * lx), int .i64 (3 * ly), int .i64 (3 * ux), int .i64 (3 * uy)] := rfl
theorem inThirds_t (lx ly ux uy : Int) (h1 : in31 lx) (h2 : in31 ly) (h3 : in31 ux) (h4 : in31 uy) (hx : lx ≤ ux) (hy : ly ≤ uy) : Triple P0 114 [pv lx ly, pv ux uy] [] (.tup [bxv (3 * lx) (3 * ly) (3 * ux) (3 * uy), bl true]) [] := by
 refine cover_inThirds_triple rfl (by decide) ?_
 simp only [cover_inThirds_pc, pv, pnt, bxv, push_cast, ↓reduceIte, reduceCtorEq, zB, zE, zA, zS, zL, zD, zM]
 unfold in31 at h1 h2 h3 h4
 refine run_loop [(8, false), (6, false), (4, false), (3, false), (2, false)] (fun vs pos los => ∃ i : Int, (i = 0 ∨ i = 1 ∨ i = 2) ∧ vs = [int .i64 i, .ptr 2000000 0 0, .ptr 2000001 0 0, .ptr 2000002 0 0, .ptr 2000003 0 0] ∧ pos = [] ∧
  los = [.box (ibx lx ly ux uy i), .box [int .i64 0, int .i64 0, int .i64 0, int .i64 0], .box [int .i64 ux, int .i64 uy], .box [int .i64 lx, int .i64 ly]])
  (fun vs _ _ => match vs with | .r (.v (.int _ j)) :: _ => (2 - j).toNat | _ => 0) rfl ?_ ?_
 ·simp only [push_cast, ↓reduceIte, reduceCtorEq, zB, zE, zA, zS, zL, zD, zM]
  exact ⟨0, by omega, rfl, rfl⟩
 ·rintro vs pos los ⟨i, rfl | rfl | rfl, rfl, rfl, rfl⟩
  ·have g1 : decide (lx < -2147483648) = false := by simp; omega
   have g2 : decide (ux > 2147483648) = false := by simp; omega
   have g3 : decide (ux < lx) = false := by simp; omega
   have g0 : decide ((0 : Int) < 2) = true := rfl
   have e1 : IntKind.i64.wrap (3 * lx) = 3 * lx := wrap_id (by omega)
   have e2 : IntKind.i64.wrap (3 * ux) = 3 * ux := wrap_id (by omega)
   have e3 : IntKind.i64.wrap (0 + 1) = 1 := by decide
   simp only [ibx_0, g0, g1, g2, g3, e1, e2, e3, zab, push_cast, ↓reduceIte, reduceCtorEq, zB, zE, zA, zS, zL, zD, zM]
   repeat refine And.intro (by first | decide | kernel_rfl) ?_
   exact ⟨⟨1, by omega, rfl, rfl⟩, by decide⟩
  ·have g1 : decide (ly < -2147483648) = false := by simp; omega
   have g2 : decide (uy > 2147483648) = false := by simp; omega
   have g3 : decide (uy < ly) = false := by simp; omega
   have g0 : decide ((1 : Int) < 2) = true := rfl
   have e1 : IntKind.i64.wrap (3 * ly) = 3 * ly := wrap_id (by omega)
   have e2 : IntKind.i64.wrap (3 * uy) = 3 * uy := wrap_id (by omega)
   have e3 : IntKind.i64.wrap (1 + 1) = 2 := by decide
   simp only [ibx_1, g0, g1, g2, g3, e1, e2, e3, zab, push_cast, ↓reduceIte, reduceCtorEq, zB, zE, zA, zS, zL, zD, zM]
   repeat refine And.intro (by first | decide | kernel_rfl) ?_
   exact ⟨⟨2, by omega, rfl, rfl⟩, by decide⟩
  ·have g0 : decide ((2 : Int) < 2) = false := rfl
   simp only [ibx_2, g0, zab, push_cast, ↓reduceIte, reduceCtorEq, zB, zE, zA, zS, zL, zD, zM]
theorem corners_t (lx ly ux uy : Int) : Triple P0 173 [bxv lx ly ux uy] [] (.own 1000000 0 0 4) [.row 2 (pnt 0 0) true true [pnt lx ly, pnt ux ly, pnt ux uy, pnt lx uy]] := by
 refine cover_box_corners_triple rfl (by decide) ?_
 simp only [cover_box_corners_pc, pnt, bxv, zab, push_cast, ↓reduceIte, reduceCtorEq, zB, zE, zA, zS, zL, zD, zM]
 decide
theorem hexL_lenI (z : Ei) (r : Nat) : ((hexL z r 6).length : Int) = 6 := by rw [hexL_len]; rfl
theorem hexL_at (z : Ei) (r n i : Nat) (h : i < n) (d : RV) : (hexL z r n).getD i d = .agg [.v (.int .i64 (hx z r i)), .v (.int .i64 (hy z r i))] := by
 rw [List.getD_eq_getElem?_getD]
 simp [hexL, h, hexP, pnt]
def hexIn (z : Ei) (r : Nat) : Prop := ∀ i, i < 6 → (-4294967296 ≤ hx z r i ∧ hx z r i ≤ 4294967296) ∧ (-4294967296 ≤ hy z r i ∧ hy z r i ≤ 4294967296)
abbrev hexS (z : Ei) (r : Nat) : AV := .r (.sl 2 (hexL z r 6))
theorem beside_t (z : Ei) (r : Nat) (lx ly ux uy : Int) (hb : hexIn z r) : Triple P0 148 [bxv lx ly ux uy, hexS z r] [] (bl (decide (beside z r lx ly ux uy))) [] := by
 refine cover_box_beside_triple rfl (by decide) ?_
 simp only [cover_box_beside_pc, bxv, push_cast, ↓reduceIte, reduceCtorEq, zB, zE, zA, zS, zL, zD, zM]
 refine run_loop [(10, false), (2, false), (1, false)] (fun vs pos los => ∃ i : Int, (i = 0 ∨ (i = 1 ∧ ¬ (mxN (hx z r) 6 < lx ∨ ux < mnN (hx z r) 6)) ∨ (i = 2 ∧ ¬ beside z r lx ly ux uy)) ∧ vs = [int .i64 i, .ptr 2000000 0 0, hexS z r] ∧ pos = [] ∧
  los = [.box [int .i64 lx, int .i64 ly, int .i64 ux, int .i64 uy]])
  (fun vs _ _ => match vs with | .r (.v (.int _ j)) :: _ => (2 - j).toNat | _ => 0) rfl ?_ ?_
 ·simp only [push_cast, ↓reduceIte, reduceCtorEq, zB, zE, zA, zS, zL, zD, zM]
  exact ⟨0, by omega, rfl⟩
 ·rintro vs pos los ⟨i, hi | hi | hi, rfl, rfl, rfl⟩
  ·obtain rfl := hi
   have g0 : decide ((0 : Int) < 2) = true := rfl
   simp only [g0, hexL_lenI, hexL_at z r 6 0 (by decide), zab, push_cast, ↓reduceIte, reduceCtorEq, zB, zE, zA, zS, zL, zD, zM]
   repeat refine And.intro (by first | decide | kernel_rfl) ?_
   refine run_loop [(25, false), (24, false), (23, false), (6, false), (7, false), (5, false), (2, false), (1, false), (10, false)] (fun vs pos los => ∃ k : Nat, k ≤ 6 ∧ vs = [int .i64 k, int .i64 6, hexS z r, int .i64 (mnN (hx z r) k), int .i64 (mxN (hx z r) k), int .i64 0, .ptr 2000000 0 0, hexS z r, int .i64 0] ∧ pos = [] ∧
    los = [.box [int .i64 lx, int .i64 ly, int .i64 ux, int .i64 uy]])
    (fun vs _ _ => match vs with | .r (.v (.int _ j)) :: _ => (6 - j).toNat | _ => 0) rfl ?_ ?_
   ·simp only [push_cast, ↓reduceIte, reduceCtorEq, zB, zE, zA, zS, zL, zD, zM]
    exact ⟨0, by omega, rfl⟩
   ·rintro vs pos los ⟨k, hk, rfl, rfl, rfl⟩
    simp only [push_cast, ↓reduceIte, reduceCtorEq, zB, zE, zA, zS, zL, zD, zM]
    refine cnd_mk (fun h => ?_) (fun h => ?_)
    ·have hi : k < 6 := by simp at h; omega
     simp only [hexL_lenI, zan, hexL_at z r 6 k hi, zab, push_cast, ↓reduceIte, reduceCtorEq, zB, zE, zA, zS, zL, zD, zM]
     rw [show IntKind.i64.wrap ((k : Int) + 1) = ((k + 1 : Nat) : Int) by rw [wrap_id (by omega)]; omega]
     refine ⟨by omega, by decide, by decide, by kernel_rfl, ⟨k + 1, by omega, rfl⟩, by omega⟩
    ·have hi : k = 6 := by simp at h; omega
     subst hi
     simp only [zab, push_cast, ↓reduceIte, reduceCtorEq, zB, zE, zA, zS, zL, zD, zM]
     repeat refine And.intro (by first | decide | exact fun _ => by decide | (simp +contextual; done) | kernel_rfl) ?_
     refine cnd_mk (fun h => ?_) (fun h => ?_)
     ·have hbe : mxN (hx z r) 6 < lx ∨ ux < mnN (hx z r) 6 := by simpa using h
      simp only [push_cast, ↓reduceIte, reduceCtorEq, zB, zE, zA, zS, zL, zD, zM]
      rw [decide_eq_true (show beside z r lx ly ux uy from .inl hbe)]
     ·have hne : ¬ (mxN (hx z r) 6 < lx ∨ ux < mnN (hx z r) 6) := by
       have := h
       simp at this
       omega
      simp only [push_cast, ↓reduceIte, reduceCtorEq, zB, zE, zA, zS, zL, zD, zM]
      refine ⟨⟨1, .inr (.inl ⟨rfl, hne⟩), rfl⟩, by decide⟩
  ·obtain ⟨rfl, hn⟩ := hi
   have g0 : decide ((1 : Int) < 2) = true := rfl
   simp only [g0, hexL_lenI, hexL_at z r 6 0 (by decide), zab, push_cast, ↓reduceIte, reduceCtorEq, zB, zE, zA, zS, zL, zD, zM]
   repeat refine And.intro (by first | decide | kernel_rfl) ?_
   refine run_loop [(25, false), (24, false), (23, false), (6, false), (7, false), (5, false), (2, false), (1, false), (10, false)] (fun vs pos los => ∃ k : Nat, k ≤ 6 ∧ vs = [int .i64 k, int .i64 6, hexS z r, int .i64 (mnN (hy z r) k), int .i64 (mxN (hy z r) k), int .i64 1, .ptr 2000000 0 0, hexS z r, int .i64 1] ∧ pos = [] ∧
    los = [.box [int .i64 lx, int .i64 ly, int .i64 ux, int .i64 uy]])
    (fun vs _ _ => match vs with | .r (.v (.int _ j)) :: _ => (6 - j).toNat | _ => 0) rfl ?_ ?_
   ·simp only [push_cast, ↓reduceIte, reduceCtorEq, zB, zE, zA, zS, zL, zD, zM]
    exact ⟨0, by omega, rfl⟩
   ·rintro vs pos los ⟨k, hk, rfl, rfl, rfl⟩
    simp only [push_cast, ↓reduceIte, reduceCtorEq, zB, zE, zA, zS, zL, zD, zM]
    refine cnd_mk (fun h => ?_) (fun h => ?_)
    ·have hi : k < 6 := by simp at h; omega
     simp only [hexL_lenI, zan, hexL_at z r 6 k hi, zab, push_cast, ↓reduceIte, reduceCtorEq, zB, zE, zA, zS, zL, zD, zM]
     rw [show IntKind.i64.wrap ((k : Int) + 1) = ((k + 1 : Nat) : Int) by rw [wrap_id (by omega)]; omega]
     refine ⟨by omega, by decide, by decide, by kernel_rfl, ⟨k + 1, by omega, rfl⟩, by omega⟩
    ·have hi : k = 6 := by simp at h; omega
     subst hi
     simp only [zab, push_cast, ↓reduceIte, reduceCtorEq, zB, zE, zA, zS, zL, zD, zM]
     repeat refine And.intro (by first | decide | exact fun _ => by decide | (simp +contextual; done) | kernel_rfl) ?_
     refine cnd_mk (fun h => ?_) (fun h => ?_)
     ·have hbe : mxN (hy z r) 6 < ly ∨ uy < mnN (hy z r) 6 := by simpa using h
      simp only [push_cast, ↓reduceIte, reduceCtorEq, zB, zE, zA, zS, zL, zD, zM]
      rw [decide_eq_true (show beside z r lx ly ux uy from .inr hbe)]
     ·have hne : ¬ (mxN (hy z r) 6 < ly ∨ uy < mnN (hy z r) 6) := by
       have := h
       simp at this
       omega
      simp only [push_cast, ↓reduceIte, reduceCtorEq, zB, zE, zA, zS, zL, zD, zM]
      refine ⟨⟨2, .inr (.inr ⟨rfl, fun hc => hc.elim hn hne⟩), rfl⟩, by decide⟩
  ·obtain ⟨rfl, hn⟩ := hi
   have g0 : decide ((2 : Int) < 2) = false := rfl
   simp only [g0, push_cast, ↓reduceIte, reduceCtorEq, zB, zE, zA, zS, zL, zD, zM]
   rw [decide_eq_false hn]
def in32 (x : Int) : Prop := -4294967296 ≤ x ∧ x ≤ 4294967296
def in28 (x : Int) : Prop := -268435456 ≤ x ∧ x ≤ 268435456
def crP (p0 p1 q0 q1 x y : Int) : Int := (q0 - p0) * (y - p1) - (q1 - p1) * (x - p0)
theorem crP_in {p0 p1 q0 q1 x y : Int} (h0 : in32 p0) (h1 : in32 p1) (d0 : in28 (q0 - p0)) (d1 : in28 (q1 - p1)) (hx : in32 x) (hy : in32 y) :
  IntKind.i64.wrap (IntKind.i64.wrap (IntKind.i64.wrap (q0 - p0) * IntKind.i64.wrap (y - p1)) - IntKind.i64.wrap (IntKind.i64.wrap (q1 - p1) * IntKind.i64.wrap (x - p0))) = crP p0 p1 q0 q1 x y := by
 unfold in32 at h0 h1 hx hy
 unfold in28 at d0 d1
 have m1 := mul_in (n := 268435456) (m := 8589934592) d0 (y := y - p1) (by omega)
 have m2 := mul_in (n := 268435456) (m := 8589934592) d1 (y := x - p0) (by omega)
 unfold crP
 rw [show IntKind.i64.wrap (q0 - p0) = q0 - p0 from wrap_id (by omega), show IntKind.i64.wrap (q1 - p1) = q1 - p1 from wrap_id (by omega), show IntKind.i64.wrap (y - p1) = y - p1 from wrap_id (by omega), show IntKind.i64.wrap (x - p0) = x - p0 from wrap_id (by omega)]
 generalize (q0 - p0) * (y - p1) = A at *
 generalize (q1 - p1) * (x - p0) = B at *
 rw [show IntKind.i64.wrap A = A from wrap_id (by omega), show IntKind.i64.wrap B = B from wrap_id (by omega), wrap_id (by omega)]
def cnx (lx ux : Int) (i : Nat) : Int := if i = 0 ∨ i = 3 then lx else ux
def cny (ly uy : Int) (i : Nat) : Int := if i = 0 ∨ i = 1 then ly else uy
def cnL (lx ly ux uy : Int) : List RV := [pnt lx ly, pnt ux ly, pnt ux uy, pnt lx uy]
theorem cnL_at (lx ly ux uy : Int) (i : Nat) (h : i < 4) (d : RV) : (cnL lx ly ux uy).getD i d = .agg [.v (.int .i64 (cnx lx ux i)), .v (.int .i64 (cny ly uy i))] := by
 rcases (show i = 0 ∨ i = 1 ∨ i = 2 ∨ i = 3 by omega) with rfl | rfl | rfl | rfl <;> rfl
def outP (p0 p1 q0 q1 lx ly ux uy : Int) : Prop := ∀ i, i < 4 → crP p0 p1 q0 q1 (cnx lx ux i) (cny ly uy i) < 0
instance (p0 p1 q0 q1 lx ly ux uy : Int) : Decidable (outP p0 p1 q0 q1 lx ly ux uy) := inferInstanceAs (Decidable (∀ i, i < 4 → _))
theorem outside_t (lx ly ux uy p0 p1 q0 q1 : Int) (h1 : in32 lx) (h2 : in32 ly) (h3 : in32 ux) (h4 : in32 uy) (h5 : in32 p0) (h6 : in32 p1) (d0 : in28 (q0 - p0)) (d1 : in28 (q1 - p1)) :
  Triple P0 149 [bxv lx ly ux uy, pv p0 p1, pv q0 q1] [] (bl (decide (outP p0 p1 q0 q1 lx ly ux uy))) [] := by
 refine cover_box_outside_triple rfl (by decide) ?_
 simp only [cover_box_outside_pc, bxv, pv, pnt, push_cast, ↓reduceIte, reduceCtorEq, zB, zE, zA, zS, zL, zD, zM]
 refine call_as (as' := [bxv lx ly ux uy]) rfl ?_
 refine call_mk (corners_t lx ly ux uy) rfl trivial ?_
 simp only [pnt, push_cast, ↓reduceIte, reduceCtorEq, zB, zE, zA, zS, zL, zD, zM]
 refine run_loop [(12, false), (11, false), (10, false), (5, false), (4, false)] (fun vs pos los => ∃ i : Nat, i ≤ 4 ∧ (∀ j, j < i → crP p0 p1 q0 q1 (cnx lx ux j) (cny ly uy j) < 0) ∧ vs = [int .i64 i, int .i64 4, .own 2000000 0 0 4, .ptr 2000001 0 0, .ptr 2000002 0 0] ∧ pos = [] ∧
  los = [.row 2 (.agg [.v (.int .i64 0), .v (.int .i64 0)]) true true (cnL lx ly ux uy), .box [int .i64 q0, int .i64 q1], .box [int .i64 p0, int .i64 p1]])
  (fun vs _ _ => match vs with | .r (.v (.int _ j)) :: _ => (4 - j).toNat | _ => 0) rfl ?_ ?_
 ·simp only [push_cast, ↓reduceIte, reduceCtorEq, zB, zE, zA, zS, zL, zD, zM]
  exact ⟨0, by omega, fun j hj => by omega, rfl, rfl⟩
 ·rintro vs pos los ⟨i, i4, hj, rfl, rfl, rfl⟩
  simp only [push_cast, ↓reduceIte, reduceCtorEq, zB, zE, zA, zS, zL, zD, zM]
  refine cnd_mk (fun h => ?_) (fun h => ?_)
  ·have hi : i < 4 := by simp at h; omega
   have hcx : in32 (cnx lx ux i) := by unfold cnx; split <;> assumption
   have hcy : in32 (cny ly uy i) := by unfold cny; split <;> assumption
   simp only [zan, zad, cnL_at lx ly ux uy i hi, crP_in h5 h6 d0 d1 hcx hcy, zab, push_cast, ↓reduceIte, reduceCtorEq, zB, zE, zA, zS, zL, zD, zM]
   refine ⟨by omega, ?_⟩
   repeat refine And.intro (by first | decide | omega | kernel_rfl) ?_
   refine cnd_mk (fun h' => ?_) (fun h' => ?_)
   ·have hc : ¬ crP p0 p1 q0 q1 (cnx lx ux i) (cny ly uy i) < 0 := by simp at h'; omega
    simp only [push_cast, ↓reduceIte, reduceCtorEq, zB, zE, zA, zS, zL, zD, zM]
    rw [decide_eq_false (show ¬ outP p0 p1 q0 q1 lx ly ux uy from fun c => hc (c i hi))]
   ·have hc : crP p0 p1 q0 q1 (cnx lx ux i) (cny ly uy i) < 0 := by simp at h'; omega
    simp only [push_cast, ↓reduceIte, reduceCtorEq, zB, zE, zA, zS, zL, zD, zM]
    rw [show IntKind.i64.wrap ((i : Int) + 1) = ((i + 1 : Nat) : Int) by rw [wrap_id (by omega)]; omega]
    refine ⟨⟨i + 1, by omega, fun j hj' => ?_, rfl⟩, by omega⟩
    by_cases hji : j = i
    ·subst hji; exact hc
    ·exact hj j (by omega)
  ·have hi : i = 4 := by simp at h; omega
   subst hi
   simp only [push_cast, ↓reduceIte, reduceCtorEq, zB, zE, zA, zS, zL, zD, zM]
   rw [decide_eq_true (show outP p0 p1 q0 q1 lx ly ux uy from hj)]
theorem outP_iff (z : Ei) (r i j : Nat) (lx ly ux uy : Int) (hj : j = (i + 1) % 6) : outP (hx z r i) (hy z r i) (hx z r j) (hy z r j) lx ly ux uy ↔ outs z r lx ly ux uy i := by
 subst hj
 have e : ∀ x y, crP (hx z r i) (hy z r i) (hx z r ((i + 1) % 6)) (hy z r ((i + 1) % 6)) x y = crs z r i ((i + 1) % 6) x y := fun x y => by
  simp only [crP, crs]
  rw [show hx z r ((i + 1) % 6) - hx z r i = kx r ((i + 1) % 6) - kx r i by rw [hx_eq, hx_eq]; omega, show hy z r ((i + 1) % 6) - hy z r i = ky r ((i + 1) % 6) - ky r i by rw [hy_eq, hy_eq]; omega]
 simp only [outP, outs, e]
 constructor
 ·intro h
  exact ⟨h 0 (by decide), h 1 (by decide), h 2 (by decide), h 3 (by decide)⟩
 ·rintro ⟨h0, h1, h2, h3⟩ k hk
  rcases (show k = 0 ∨ k = 1 ∨ k = 2 ∨ k = 3 by omega) with rfl | rfl | rfl | rfl
  ·exact h0
  ·exact h1
  ·exact h2
  ·exact h3
theorem btouches_t (z : Ei) (r : Nat) (hr : r ≤ 12) (lx ly ux uy : Int) (hb : hexIn z r) (h1 : in32 lx) (h2 : in32 ly) (h3 : in32 ux) (h4 : in32 uy) : Triple P0 116 [bxv lx ly ux uy, hexS z r] [] (bl (touch z r lx ly ux uy)) [] := by
 refine cover_box_touches_triple rfl (by decide) ?_
 simp only [cover_box_touches_pc, bxv, push_cast, ↓reduceIte, reduceCtorEq, zB, zE, zA, zS, zL, zD, zM]
 refine call_as (as' := [bxv lx ly ux uy, hexS z r]) rfl ?_
 refine call_mk (beside_t z r lx ly ux uy hb) rfl trivial ?_
 by_cases hbe : beside z r lx ly ux uy
 ·rw [decide_eq_true hbe]
  simp only [push_cast, ↓reduceIte, reduceCtorEq, zB, zE, zA, zS, zL, zD, zM]
  rw [beside_no hbe]
 ·rw [decide_eq_false hbe]
  simp only [hexL_lenI, push_cast, ↓reduceIte, reduceCtorEq, zB, zE, zA, zS, zL, zD, zM]
  refine run_loop [(12, false), (11, false), (10, false), (2, false), (1, false)] (fun vs pos los => ∃ i : Nat, i ≤ 6 ∧ (∀ j, j < i → ¬ outs z r lx ly ux uy j) ∧ vs = [int .i64 i, int .i64 6, hexS z r, .ptr 2000000 0 0, hexS z r] ∧ pos = [] ∧
   los = [.box [int .i64 lx, int .i64 ly, int .i64 ux, int .i64 uy]])
   (fun vs _ _ => match vs with | .r (.v (.int _ j)) :: _ => (6 - j).toNat | _ => 0) rfl ?_ ?_
  ·simp only [push_cast, ↓reduceIte, reduceCtorEq, zB, zE, zA, zS, zL, zD, zM]
   exact ⟨0, by omega, fun j hj => by omega, rfl⟩
  ·rintro vs pos los ⟨i, i6, hj, rfl, rfl, rfl⟩
   simp only [push_cast, ↓reduceIte, reduceCtorEq, zB, zE, zA, zS, zL, zD, zM]
   refine cnd_mk (fun h => ?_) (fun h => ?_)
   ·have hi : i < 6 := by simp at h; omega
    obtain ⟨J, hJ⟩ : ∃ J, J = (i + 1) % 6 := ⟨_, rfl⟩
    have hJ6 : J < 6 := by omega
    have hm : (IntKind.i64.wrap ((i : Int) + 1)).tmod 6 = (J : Int) := by
     rw [wrap_id (by omega), zao (by omega)]; omega
    simp only [hexL_lenI, hm, zan, hexL_at z r 6 i hi, hexL_at z r 6 J hJ6, zab, push_cast, ↓reduceIte, reduceCtorEq, zB, zE, zA, zS, zL, zD, zM]
    refine ⟨by omega, ?_⟩
    repeat refine And.intro (by first | decide | omega | kernel_rfl) ?_
    refine dcall_as (as' := [bxv lx ly ux uy, pv (hx z r i) (hy z r i), pv (hx z r J) (hy z r J)]) rfl ?_
    have k1 := k_in r i hr hi
    have k2 := k_in r J hr hJ6
    refine dcall_mk (outside_t lx ly ux uy _ _ _ _ h1 h2 h3 h4 (hb i hi).1 (hb i hi).2 (by rw [hx_eq, hx_eq]; unfold in28; omega) (by rw [hy_eq, hy_eq]; unfold in28; omega)) rfl trivial ?_
    simp only [push_cast, ↓reduceIte, reduceCtorEq, zB, zE, zA, zS, zL, zD, zM]
    repeat refine And.intro (by first | decide | omega | kernel_rfl) ?_
    have hio := outP_iff z r i J lx ly ux uy hJ
    refine cnd_mk (fun h' => ?_) (fun h' => ?_)
    ·have ho : outs z r lx ly ux uy i := hio.1 (by simpa using h')
     simp only [push_cast, ↓reduceIte, reduceCtorEq, zB, zE, zA, zS, zL, zD, zM]
     have : touch z r lx ly ux uy = false := by
      simp only [touch, hbe, decide_false, Bool.not_false, Bool.true_and]
      rw [List.all_eq_false]
      exact ⟨i, zaq.2 hi, by simp [ho]⟩
     rw [this]
    ·have ho : ¬ outs z r lx ly ux uy i := fun c => by
      have := hio.2 c
      simp [this] at h'
     simp only [push_cast, ↓reduceIte, reduceCtorEq, zB, zE, zA, zS, zL, zD, zM]
     rw [show IntKind.i64.wrap ((i : Int) + 1) = ((i + 1 : Nat) : Int) by rw [wrap_id (by omega)]; omega]
     refine ⟨⟨i + 1, by omega, fun j hj' => ?_, rfl⟩, by omega⟩
     by_cases hji : j = i
     ·subst hji; exact ho
     ·exact hj j (by omega)
   ·have hi : i = 6 := by simp at h; omega
    subst hi
    simp only [push_cast, ↓reduceIte, reduceCtorEq, zB, zE, zA, zS, zL, zD, zM]
    have : touch z r lx ly ux uy = true := by
     simp only [touch, hbe, decide_false, Bool.not_false, Bool.true_and, List.all_eq_true, zaq, Bool.not_eq_true', decide_eq_false_iff_not]
     exact hj
    rw [this]
theorem take_hexL (z : Ei) (r : Nat) : List.take 6 (hexL z r 6) = hexL z r 6 := rfl
attribute [push_cast high] take_hexL
theorem ctouches_t (z : Ei) (r : Int) (h0 : 0 ≤ r) (hk : okc r.toNat z) (lx ly ux uy : Int) (hb : hexIn z r.toNat) (h1 : 0 ≤ lx ∧ lx ≤ ux ∧ ux ≤ 1073741824) (h2 : 0 ≤ ly ∧ ly ≤ uy ∧ uy ≤ 1073741824) :
  Triple P0 76 [cel r z, pv lx ly, pv ux uy] [] (bl (touch z r.toNat (3 * lx) (3 * ly) (3 * ux) (3 * uy))) [] := by
 refine cover_Touches_triple rfl (by decide) ?_
 simp only [cover_Touches_pc, cel, pv, pnt, push_cast, ↓reduceIte, reduceCtorEq, zB, zE, zA, zS, zL, zD, zM]
 refine call_as (as' := [pv lx ly, pv ux uy]) rfl ?_
 refine call_mk (inThirds_t lx ly ux uy (by unfold in31; omega) (by unfold in31; omega) (by unfold in31; omega) (by unfold in31; omega) h1.2.1 h2.2.1) rfl trivial ?_
 simp only [bxv, push_cast, ↓reduceIte, reduceCtorEq, zB, zE, zA, zS, zL, zD, zM]
 refine call_as (as' := [cel r z]) rfl ?_
 refine call_mk (cok_t r z h0 hk) rfl trivial ?_
 simp only [push_cast, ↓reduceIte, reduceCtorEq, zB, zE, zA, zS, zL, zD, zM]
 have hr : r ≤ 12 := by have := hk.1; omega
 refine call_as (as' := [z.v, int .i64 r]) rfl ?_
 refine call_mk (hex_t z r hk.2.1 ⟨h0, hr⟩) rfl trivial ?_
 simp only [pnt, push_cast, ↓reduceIte, reduceCtorEq, zB, zE, zA, zS, zL, zD, zM]
 refine callA_give ?_
 simp only [push_cast, ↓reduceIte, reduceCtorEq, zB, zE, zA, zS, zL, zD, zM]
 refine call_as (as' := [bxv (3 * lx) (3 * ly) (3 * ux) (3 * uy), hexS z r.toNat]) rfl ?_
 refine call_mk (btouches_t z r.toNat hk.1 _ _ _ _ hb (by unfold in32; omega) (by unfold in32; omega) (by unfold in32; omega) (by unfold in32; omega)) rfl trivial ?_
 simp only [push_cast, ↓reduceIte, reduceCtorEq, zB, zE, zA, zS, zL, zD, zM]

noncomputable def view_framed_pc : PC :=
  (.seq (.reg [p_a 1 (.box (.t 0)), p_a 2 (.new [(.r (.v (.int .i64 0))), (.r (.v (.int .i64 0))), (.r (.v (.int .i64 0))), (.r (.v (.int .i64 0)))])])
 (.seq (.reg [p_s 7 (.ld (some 4) (.t 1)), p_c 8 1 24 [.t 7], p_m 6 8, p_s 9 (.ext (.t 6) 0), p_s 10 (.ext (.t 6) 1), p_s 11 (.ext (.t 6) 2), p_m 3 9, p_m 4 10, p_m 5 11])
 (.seq (.reg [p_m 12 3, p_m 13 4, p_s 14 (.build [(.r (.v (.int .i64 0))), (.r (.v (.int .i64 0)))] [(0, 1, (.t 12)), (1, 1, (.t 13))]), p_m 15 3, p_m 16 5, p_s 17 (.bin .add (.t 15) (.t 16)),
 p_m 18 4, p_m 19 5, p_s 20 (.bin .add (.t 18) (.t 19)), p_s 21 (.build [(.r (.v (.int .i64 0))), (.r (.v (.int .i64 0)))] [(0, 1, (.t 17)), (1, 1, (.t 20))]), p_s 22 (.build [(.r (.v (.int .i64 0))), (.r (.v (.int .i64 0))), (.r (.v (.int .i64 0))), (.r (.v (.int .i64 0)))] [(0, 2, (.t 14)), (2, 2, (.t 21))]),
 ⟨none, none, 0, .act (.st 4 (.t 2) (.t 22))⟩])
 .ret)))
theorem view_framed_triple : Fun P0 39 1 [(2, false, some (80, (some 4)))] view_framed_pc := fun_mk Go.Proofs.Tryz.func39 rfl (by decide) (by kernel_rfl) (by decide) rfl (by kernel_rfl) (by kernel_rfl) (by decide)
noncomputable def view_frame_touches_pc : PC :=
  (.seq (.reg [p_a 2 (.box (.t 0)), p_a 3 (.box (.t 1)), p_s 4 (.mov (.c (.r (.v (.bool false)))))])
 (.seq (.reg [p_s 5 (.ld (some 3) (.t 3)), p_s 6 (.fa 0 (.t 2)), p_s 7 (.ld (some 2) (.t 6)), p_s 8 (.fa 2 (.t 2)), p_s 9 (.ld (some 2) (.t 8)), p_c 10 1 76 [.t 5, .t 7, .t 9],
 p_m 4 10])
 .ret))
theorem view_frame_touches_triple : Fun P0 40 2 [(4, false, none)] view_frame_touches_pc := fun_mk Go.Proofs.Tryz.func40 rfl (by decide) (by kernel_rfl) (by decide) rfl (by kernel_rfl) (by kernel_rfl) (by decide)
noncomputable def view_Touches_pc : PC :=
  (.seq (.reg [p_a 2 (.box (.t 0)), p_a 3 (.box (.t 1)), p_s 4 (.mov (.c (.r (.v (.bool false)))))])
 (.seq (.drw [p_s 5 (.ld (some 4) (.t 2)), p_c 6 1 23 [.t 5], p_m 7 6, p_g 8 7 true (.ld (some 4) (.t 2)), ⟨(some 9), (some (7, true)), 2, .call 39 [(.t 8)]⟩, p_g 10 7 true (.ld (some 3) (.t 3)),
 ⟨(some 11), (some (7, true)), 3, .call 40 [(.t 9), (.t 10)]⟩, p_s 12 (.pick (.t 7) (.t 11) (.c (.r (.v (.bool false))))), p_m 4 12]
 [[], [0], [0, 1], [0, 1, 2], [0, 1, 2, 3], [0, 1, 2], [0, 1, 2, 3, 4, 5], [0, 1, 2, 3, 4, 5, 6], [0, 1, 2, 3, 4, 5, 6, 7]])
 .ret))
theorem view_Touches_triple : Fun P0 26 2 [(4, false, none)] view_Touches_pc := fun_mk Go.Proofs.Tryz.func26 rfl (by decide) (by kernel_rfl) (by decide) rfl (by kernel_rfl) (by kernel_rfl) (by decide)
theorem side_in {z : Int} (h : 0 ≤ z ∧ z ≤ 18) : 4096 ≤ (2 : Int) ^ (30 - z).toNat ∧ (2 : Int) ^ (30 - z).toNat ≤ 1073741824 := by
 have h1 : 2 ^ (30 - z).toNat ≤ 2 ^ 30 := zac (by decide) (by omega)
 have h2 : 2 ^ 12 ≤ 2 ^ (30 - z).toNat := zac (by decide) (by omega)
 have h3 : ((2 ^ (30 - z).toNat : Nat) : Int) = (2 : Int) ^ (30 - z).toNat := by simp
 omega
theorem tile_in {t : Til} (h : tis t = true) : (0 ≤ t.x * 2 ^ (30 - t.z).toNat ∧ (t.x + 1) * 2 ^ (30 - t.z).toNat ≤ 1073741824) ∧ (0 ≤ t.y * 2 ^ (30 - t.z).toNat ∧ (t.y + 1) * 2 ^ (30 - t.z).toNat ≤ 1073741824) := by
 simp only [tis, decide_eq_true_eq] at h
 obtain ⟨z0, z1, r0, r1, x0, x1, y0, y1⟩ := h
 have hs := side_in ⟨z0, z1⟩
 have hpq : (2 : Int) ^ t.z.toNat * 2 ^ (30 - t.z).toNat = 1073741824 := by
  rw [← Int.pow_add, show t.z.toNat + (30 - t.z).toNat = 30 by omega]; rfl
 have hx : (t.x + 1) * 2 ^ (30 - t.z).toNat ≤ 1073741824 := by rw [← hpq]; exact zah (by omega) (by omega)
 have hy : (t.y + 1) * 2 ^ (30 - t.z).toNat ≤ 1073741824 := by rw [← hpq]; exact zah (by omega) (by omega)
 exact ⟨⟨zak x0 (by omega), hx⟩, zak y0 (by omega), hy⟩
theorem framed_t (t : Til) (h : tis t = true) : Triple P0 39 [t.v] [] (bxv (t.x * 2 ^ (30 - t.z).toNat) (t.y * 2 ^ (30 - t.z).toNat) ((t.x + 1) * 2 ^ (30 - t.z).toNat) ((t.y + 1) * 2 ^ (30 - t.z).toNat)) [] := by
 refine view_framed_triple rfl (by decide) ?_
 have hi := tile_in h
 have hs := side_in (show 0 ≤ t.z ∧ t.z ≤ 18 by simp only [tis, decide_eq_true_eq] at h; omega)
 simp only [view_framed_pc, Til.v, bxv, push_cast, ↓reduceIte, reduceCtorEq, zB, zE, zA, zS, zL, zD, zM]
 refine call_as (as' := [t.v]) rfl ?_
 refine call_mk (origin_t t h) rfl trivial ?_
 simp only [push_cast, ↓reduceIte, reduceCtorEq, zB, zE, zA, zS, zL, zD, zM]
 rw [zag, Int.one_mul, zag, Int.one_mul] at *
 rw [wrap_id (by omega), wrap_id (by omega)]
theorem ftouches_t (z : Ei) (r : Int) (h0 : 0 ≤ r) (hk : okc r.toNat z) (lx ly ux uy : Int) (hb : hexIn z r.toNat) (h1 : 0 ≤ lx ∧ lx ≤ ux ∧ ux ≤ 1073741824) (h2 : 0 ≤ ly ∧ ly ≤ uy ∧ uy ≤ 1073741824) :
  Triple P0 40 [bxv lx ly ux uy, cel r z] [] (bl (touch z r.toNat (3 * lx) (3 * ly) (3 * ux) (3 * uy))) [] := by
 refine view_frame_touches_triple rfl (by decide) ?_
 simp only [view_frame_touches_pc, cel, bxv, push_cast, ↓reduceIte, reduceCtorEq, zB, zE, zA, zS, zL, zD, zM]
 refine call_as (as' := [cel r z, pv lx ly, pv ux uy]) rfl ?_
 refine call_mk (ctouches_t z r h0 hk lx ly ux uy hb h1 h2) rfl trivial ?_
 simp only [push_cast, ↓reduceIte, reduceCtorEq, zB, zE, zA, zS, zL, zD, zM]
theorem vtouches_t (t : Til) (h : tis t = true) (z : Ei) (r : Int) (h0 : 0 ≤ r) (hk : okc r.toNat z) (hb : hexIn z r.toNat) :
  Triple P0 26 [t.v, cel r z] [] (bl (tch z r.toNat (2 ^ (30 - t.z).toNat) t.x t.y)) [] := by
 refine view_Touches_triple rfl (by decide) ?_
 have hi := tile_in h
 have hz : 0 ≤ t.z ∧ t.z ≤ 18 := by simp only [tis, decide_eq_true_eq] at h; omega
 have hs := side_in hz
 simp only [view_Touches_pc, Til.v, cel, push_cast, ↓reduceIte, reduceCtorEq, zB, zE, zA, zS, zL, zD, zM]
 refine dcall_as (as' := [t.v]) rfl ?_
 refine dcall_mk (is_t t) rfl trivial ?_
 rw [h]
 simp only [push_cast, ↓reduceIte, reduceCtorEq, zB, zE, zA, zS, zL, zD, zM]
 refine dcall_as (as' := [t.v]) rfl ?_
 refine dcall_mk (framed_t t h) rfl trivial ?_
 simp only [bxv, push_cast, ↓reduceIte, reduceCtorEq, zB, zE, zA, zS, zL, zD, zM]
 refine dcall_as (as' := [bxv (t.x * 2 ^ (30 - t.z).toNat) (t.y * 2 ^ (30 - t.z).toNat) ((t.x + 1) * 2 ^ (30 - t.z).toNat) ((t.y + 1) * 2 ^ (30 - t.z).toNat), cel r z]) rfl ?_
 refine dcall_mk (ftouches_t z r h0 hk _ _ _ _ hb ⟨hi.1.1, by rw [zag]; omega, hi.1.2⟩ ⟨hi.2.1, by rw [zag]; omega, hi.2.2⟩) rfl trivial ?_
 simp only [push_cast, ↓reduceIte, reduceCtorEq, zB, zE, zA, zS, zL, zD, zM]
 exact ⟨by kernel_rfl, rfl⟩
def tilR (z r : Int) (p : Int × Int) : RV := .agg [.v (.int .i64 z), .v (.int .i64 p.1), .v (.int .i64 p.2), .v (.int .i64 r)]
abbrev tilZ : RV := .agg [.v (.int .i64 0), .v (.int .i64 0), .v (.int .i64 0), .v (.int .i64 0)]
def tilsA (n : Nat) : AV := if n = 0 ∨ 10000 < n then .nils 4 tilZ else .own 1000000 0 0 n
def tilsO (z r : Int) (l : List (Int × Int)) : List Ob := if l.length = 0 ∨ 10000 < l.length then [] else [.row 4 tilZ true true (l.map (tilR z r))]
def pair2 (a c i : Int) : List AV := if i = 0 then [int .i64 0, int .i64 0] else if i = 1 then [int .i64 a, int .i64 0] else [int .i64 a, int .i64 c]

def in125 (x : Int) : Prop := -42535295865117307932921825928971026432 ≤ x ∧ x ≤ 42535295865117307932921825928971026432
def sg (x : Int) : Int := if x < 0 then -1 else if 0 < x then 1 else 0

def bxC (lx ly ux uy : Int) : List AV := [int .i64 (3 * lx), int .i64 (3 * ly), int .i64 (3 * ux), int .i64 (3 * ly), int .i64 (3 * ux), int .i64 (3 * uy), int .i64 (3 * lx), int .i64 (3 * uy)]

theorem word_cell (r : Nat) (z : Ei) (h : okc r z) : isWB (word r z) = true ∧ resW (word r z) = r ∧ down (word r z) r = z ∧ word r z < 18446744073709551616 := by
 refine ⟨isWB_word h, (word_isW r z h).2, ?_, word_lt r z h⟩
 rw [word_down r r z h (Nat.le_refl _), Nat.sub_self]
 rfl
theorem til_ok {t : Til} (h : tis t = true) : t.ok := by
 have hb : 0 ≤ t.z ∧ t.z ≤ 18 ∧ 0 ≤ t.r ∧ t.r ≤ 12 ∧ 0 ≤ t.x ∧ t.x < 2 ^ t.z.toNat ∧ 0 ≤ t.y ∧ t.y < 2 ^ t.z.toNat := by simpa [tis] using h
 have hp := p2 t.z.toNat (by omega)
 unfold Til.ok in64
 omega
theorem lies_hexIn {x y : Int} {z : Ei} {r : Nat} (hr : r ≤ 12) (hw : inW x y) (h : Lies x y z r) : hexIn z r := fun i hi => by
 have h1 := h.1
 have h2 := k_in r i hr hi
 unfold inW at hw
 rw [hx_eq, hy_eq]
 omega
structure TilF (x y : Int) (t : Til) (Z : Ei) (s last : Int) : Prop where
 b : 0 ≤ t.z ∧ t.z ≤ 18 ∧ 0 ≤ t.r ∧ t.r ≤ 12
 w : inW x y
 k : okc t.r.toNat Z
 l : Lies x y Z t.r.toNat
 h : hexIn Z t.r.toNat
 s1 : 4096 ≤ s ∧ s ≤ 1073741824
 l1 : 0 ≤ last ∧ last ≤ 262143
 same : docT Z t.r.toNat s last = progT Z t.r.toNat s last
 own : (t.x, t.y) ∈ progT Z t.r.toNat s last
theorem tilF (x y z r : Int) (Z : Ei) (hZ : near (x % 1073741824) (y % 1073741824) (tileOf x y z r).r.toNat = Z) : TilF (x % 1073741824) (y % 1073741824) (tileOf x y z r) Z (2 ^ (30 - (tileOf x y z r).z).toNat) (2 ^ (tileOf x y z r).z.toNat - 1) := by
 have hti := tis_of x y z r
 have hw : inW (x % 1073741824) (y % 1073741824) := by unfold inW; omega
 have hx : (tileOf x y z r).x = (x % 1073741824) / 2 ^ (30 - (tileOf x y z r).z).toNat := rfl
 have hy : (tileOf x y z r).y = (y % 1073741824) / 2 ^ (30 - (tileOf x y z r).z).toNat := rfl
 generalize tileOf x y z r = t at *
 generalize x % 1073741824 = X at *
 generalize y % 1073741824 = Y at *
 have hb : 0 ≤ t.z ∧ t.z ≤ 18 ∧ 0 ≤ t.r ∧ t.r ≤ 12 ∧ 0 ≤ t.x ∧ t.x < 2 ^ t.z.toNat ∧ 0 ≤ t.y ∧ t.y < 2 ^ t.z.toNat := by simpa [tis] using hti
 have hp := p2 t.z.toNat (by omega)
 have hl18 : (2 : Int) ^ t.z.toNat ≤ 262144 := by
  have h1 : 2 ^ t.z.toNat ≤ 2 ^ 18 := zac (by decide) (by omega)
  have h3 : ((2 ^ t.z.toNat : Nat) : Int) = (2 : Int) ^ t.z.toNat := by simp
  omega
 have hs := side_in (show 0 ≤ t.z ∧ t.z ≤ 18 by omega)
 have hl : Lies X Y Z t.r.toNat := by rw [← hZ]; exact lies X Y t.r.toNat (by omega)
 generalize hS : (2 : Int) ^ (30 - t.z).toNat = s at *
 have q1 := Int.mul_ediv_add_emod X s
 have q2 := zam X (show s ≠ 0 by omega)
 have q3 := zal X (show 0 < s by omega)
 have q4 := Int.mul_ediv_add_emod Y s
 have q5 := zam Y (show s ≠ 0 by omega)
 have q6 := zal Y (show 0 < s by omega)
 rw [← hx, Int.mul_comm] at q1
 rw [← hy, Int.mul_comm] at q4
 have hh := tiles_same hl (s := s) (last := 2 ^ t.z.toNat - 1) (i := t.x) (k := t.y) (by omega) (by omega) (by omega) (by rw [zag, Int.one_mul]; omega) (by rw [zag, Int.one_mul]; omega)
 exact ⟨by omega, hw, by rw [← hZ]; exact near_okc X Y t.r.toNat hw.1 hw.2 (by omega), hl, lies_hexIn (by omega) hw hl, hs, by omega, hh.1, hh.2⟩

section
variable (X Y A B C : Nat → Int)
def sd (i : Nat) (x y : Int) : Int := A i * y - B i * x - C i
def Tch (lx ly ux uy : Int) : Prop := ¬ (mxN X 6 < lx ∨ ux < mnN X 6) ∧ ¬ (mxN Y 6 < ly ∨ uy < mnN Y 6) ∧
 ∀ i, i < 6 → ¬ (sd A B C i lx ly < 0 ∧ sd A B C i ux ly < 0 ∧ sd A B C i ux uy < 0 ∧ sd A B C i lx uy < 0)
variable {X Y A B C}
end

def eA (r i : Nat) : Int := kx r ((i + 1) % 6) - kx r i
def eB (r i : Nat) : Int := ky r ((i + 1) % 6) - ky r i
def eC (z : Ei) (r i : Nat) : Int := eA r i * hy z r i - eB r i * hx z r i

noncomputable def ident_digitOf_pc : PC :=
  (.seq (.reg [p_s 4 (.mov (.c (.r (.v (.int .u64 0)))))])
 (.seq (.reg [p_m 5 0, p_m 6 1, p_s 7 (.bin .sub (.t 6) (o_i 1)), p_s 8 (.bin .mul (o_i 3) (.t 7)), p_s 9 (.bin .sub (o_i 33) (.t 8)), p_s 10 (.conv .u64 (.t 9)), p_s 11 (.bin .shr (.t 5) (.t 10)),
 p_s 12 (.bin .and (.t 11) (.c (.r (.v (.int .u64 7))))), p_m 4 12])
 .ret))
theorem ident_digitOf_triple : Fun P0 51 2 [(4, false, none)] ident_digitOf_pc := fun_mk Go.Proofs.Tryz.func51 rfl (by decide) (by kernel_rfl) (by decide) rfl (by kernel_rfl) (by kernel_rfl) (by decide)
noncomputable def ident_Cell_pc : PC :=
  (.seq (.reg [p_a 2 (.new [(.r (.v (.int .i64 0))), (.r (.v (.int .i64 0))), (.r (.v (.int .i64 0)))]), p_s 3 (.mov (o_i 0))])
 (.seq (.reg [p_m 10 0, p_s 11 (.bin .shr (.t 10) (.c (.r (.v (.int .u64 56))))), p_s 12 (.bin .and (.t 11) (.c (.r (.v (.int .u64 15))))), p_s 13 (.conv .i64 (.t 12)), p_m 4 13])
 (.seq (.seq (.reg [p_m 14 0, p_s 15 (.bin .shr (.t 14) (.c (.r (.v (.int .u64 60))))), p_s 16 (.bin .neq (.t 15) (.c (.r (.v (.int .u64 1))))), p_m 17 16, p_g 18 17 false (.mov (.t 4)),
 p_g 19 17 false (.bin .gtr (.t 18) (o_i 12)), p_s 20 (.pick (.t 17) (.c (.r (.v (.bool true)))) (.t 19))])
 (.cond (.t 20)
 (.seq (.reg [p_s 21 (.build [(.r (.v (.int .i64 0))), (.r (.v (.int .i64 0))), (.r (.v (.int .i64 0)))] []), ⟨none, none, 0, .act (.st 3 (.t 2) (.t 21))⟩, p_s 3 (.mov (o_i 5))])
 .ret)
 .skip))
 (.seq (.reg [p_m 22 0, p_s 23 (.bin .shr (.t 22) (.c (.r (.v (.int .u64 46))))), p_s 24 (.bin .and (.t 23) (.c (.r (.v (.int .u64 1023))))), p_s 25 (.conv .i64 (.t 24)), p_s 26 (.bin .sub (.t 25) (o_i 512)),
 p_m 27 0, p_s 28 (.bin .shr (.t 27) (.c (.r (.v (.int .u64 36))))), p_s 29 (.bin .and (.t 28) (.c (.r (.v (.int .u64 1023))))), p_s 30 (.conv .i64 (.t 29)), p_s 31 (.bin .sub (.t 30) (o_i 512)),
 p_s 32 (.build [(.r (.v (.int .i64 0))), (.r (.v (.int .i64 0)))] [(0, 1, (.t 26)), (1, 1, (.t 31))]), p_s 33 (.build [(.r (.v (.int .i64 0))), (.r (.v (.int .i64 0))), (.r (.v (.int .i64 0)))] [(1, 2, (.t 32))]),
 p_a 5 (.new [(.r (.v (.int .i64 0))), (.r (.v (.int .i64 0))), (.r (.v (.int .i64 0)))]), ⟨none, none, 0, .act (.st 3 (.t 5) (.t 33))⟩])
 (.seq (.seq (.reg [p_s 6 (.mov (o_i 1))])
 (.block 0 (.loop (.seq (.seq (.reg [p_m 34 6, p_s 35 (.bin .leq (.t 34) (o_i 12))])
 (.cond (.t 35)
 .skip
 (.exit 0)))
 (.seq (.block 1 (.seq (.reg [p_m 38 0, p_m 39 6, p_c 40 1 51 [.t 38, .t 39], p_m 7 40])
 (.seq (.seq (.reg [p_m 41 7, p_s 42 (.bin .eql (.t 41) (.c (.r (.v (.int .u64 7))))), p_m 43 6, p_m 44 4, p_s 45 (.bin .gtr (.t 43) (.t 44)), p_s 46 (.beq true (.t 42) (.t 45))])
 (.cond (.t 46)
 (.seq (.reg [p_s 47 (.build [(.r (.v (.int .i64 0))), (.r (.v (.int .i64 0))), (.r (.v (.int .i64 0)))] []), ⟨none, none, 0, .act (.st 3 (.t 2) (.t 47))⟩, p_s 3 (.mov (o_i 5))])
 .ret)
 .skip))
 (.seq (.seq (.reg [p_m 48 7, p_s 49 (.bin .eql (.t 48) (.c (.r (.v (.int .u64 7)))))])
 (.cond (.t 49)
 (.exit 1)
 .skip))
 (.seq (.reg [p_s 51 (.fa 1 (.t 5)), p_s 52 (.ld (some 2) (.t 51)), p_s 53 (.build [(.r (.v (.int .i64 0))), (.r (.v (.int .i64 0)))] [(0, 1, (o_i 2)), (1, 1, (o_i 1))]), p_c 54 2 52 [.t 52, .t 53],
 p_m 50 54, p_s 55 (.ext (.t 50) 0), p_s 56 (.ext (.t 50) 1), p_a 8 (.new [(.r (.v (.int .i64 0))), (.r (.v (.int .i64 0)))]), ⟨none, none, 0, .act (.st 2 (.t 8) (.t 55))⟩,
 p_m 9 56])
 (.seq (.seq (.reg [p_m 57 7, p_s 58 (.bin .gtr (.t 57) (.c (.r (.v (.int .u64 0)))))])
 (.cond (.t 58)
 (.drw [p_s 60 (.ld (some 2) (.t 8)), p_m 61 7, p_s 62 (.conv .i64 (.t 61)), p_s 63 (.bin .sub (.t 62) (o_i 1)), p_c 64 3 54 [.t 63], p_c 65 4 53 [.t 60, .t 64], p_m 59 65,
 p_s 66 (.ext (.t 59) 0), p_s 67 (.ext (.t 59) 1), ⟨none, none, 0, .act (.st 2 (.t 8) (.t 66))⟩]
 [[], [], [1], [1, 2], [1, 2, 3], [0, 1, 2, 3, 4], [0, 1, 2, 3, 4, 5], [0, 1, 2, 3, 4, 5, 6], [0, 1, 2, 3, 4, 5, 6], [0, 1, 2, 3, 4, 5, 6, 7]])
 .skip))
 (.reg [p_m 68 6, p_s 69 (.ld (some 2) (.t 8)), p_s 70 (.build [(.r (.v (.int .i64 0))), (.r (.v (.int .i64 0))), (.r (.v (.int .i64 0)))] [(0, 1, (.t 68)), (1, 2, (.t 69))]),
 ⟨none, none, 0, .act (.st 3 (.t 5) (.t 70))⟩])))))))
 (.reg [p_m 36 6, p_s 37 (.bin .add (.t 36) (o_i 1)), p_m 6 37]))))))
 (.seq (.reg [p_s 71 (.ld (some 3) (.t 5)), ⟨none, none, 0, .act (.st 3 (.t 2) (.t 71))⟩, p_s 3 (.mov (o_i 0))])
 .ret))))))
theorem ident_Cell_triple : Fun P0 25 1 [(2, false, some (59, (some 3))), (3, false, none)] ident_Cell_pc := fun_mk Go.Proofs.Tryz.func25 rfl (by decide) (by kernel_rfl) (by decide) rfl (by kernel_rfl) (by kernel_rfl) (by decide)
theorem dig_t (w i : Nat) (hw : w < 18446744073709551616) (hi : 1 ≤ i ∧ i ≤ 12) : Triple P0 51 [uw w, int .i64 i] [] (uw (dgt w i)) [] := by
 refine ident_digitOf_triple rfl (by decide) ?_
 have w1 : IntKind.i64.wrap ((i : Int) - 1) = (i : Int) - 1 := wrap_id (by omega)
 have w2 : IntKind.i64.wrap (3 * ((i : Int) - 1)) = 3 * ((i : Int) - 1) := wrap_id (by omega)
 have w3 : IntKind.i64.wrap (33 - 3 * ((i : Int) - 1)) = 36 - 3 * (i : Int) := by rw [wrap_id (by omega)]; omega
 have w4 : IntKind.u64.wrap (36 - 3 * (i : Int)) = 36 - 3 * (i : Int) := by simp [IntKind.wrap, IntKind.bits, IntKind.signed]; omega
 have e5 : IntKind.u64.wrap (zaa IntKind.u64.bits ((w : Int).fdiv (2 ^ min (36 - 3 * (i : Int)).toNat IntKind.u64.bits)) &&& zaa IntKind.u64.bits 7).toNat = (dgt w i : Int) := by
  rw [shr_and (k := 36 - 3 * i) (n := 3) (by omega) (by omega) (by decide) (by decide) hw]
  rw [show 2 ^ (36 - 3 * i) = 8 ^ (12 - i) by rw [show (8 : Nat) = 2 ^ 3 from rfl, ← Nat.pow_mul]; congr 1; omega]
  rfl
 simp only [ident_digitOf_pc, uw, w1, w2, w3, w4, e5, push_cast, ↓reduceIte, reduceCtorEq, zB, zE, zA, zS, zL, zD, zM]
 omega
set_option maxHeartbeats 1000000 in
theorem icell_t (w : Nat) (hw : w < 18446744073709551616) (hB : isWB w = true) : Triple P0 25 [uw w] [] (.tup [cel (resW w) (down w (resW w)), int .i64 0]) [] := by
 refine ident_Cell_triple rfl (by decide) ?_
 obtain ⟨m1, m2, m3⟩ := (isWB_iff w).1 hB
 have e1 : (w : Int).fdiv (2 ^ min (Int.toNat 60) IntKind.u64.bits) = 1 := by
  have : (w : Int).fdiv (2 ^ min (Int.toNat 60) IntKind.u64.bits) = ((w / 1152921504606846976 : Nat) : Int) := shru (k := 60) rfl (by decide)
  rw [this, m1]; rfl
 have e2 : IntKind.i64.wrap (IntKind.u64.wrap (zaa IntKind.u64.bits ((w : Int).fdiv (2 ^ min (Int.toNat 56) IntKind.u64.bits)) &&& zaa IntKind.u64.bits 15).toNat) = (resW w : Int) := by
  rw [shr_and (k := 56) (n := 4) rfl (by decide) (by decide) (by decide) hw]
  exact wrap_id (by omega)
 have e3 : IntKind.i64.wrap (IntKind.i64.wrap (IntKind.u64.wrap (zaa IntKind.u64.bits ((w : Int).fdiv (2 ^ min (Int.toNat 46) IntKind.u64.bits)) &&& zaa IntKind.u64.bits 1023).toNat) - 512) = (down w 0).a := by
  rw [shr_and (k := 46) (n := 10) rfl (by decide) (by decide) (by decide) hw, show ∀ x : Nat, x < 1024 → IntKind.i64.wrap (IntKind.i64.wrap (x : Int) - 512) = x - 512 from fun x hx => by rw [wrap_id (x := (x : Int)) (by omega), wrap_id (by omega)]]
  ·rfl
  ·omega
 have e4 : IntKind.i64.wrap (IntKind.i64.wrap (IntKind.u64.wrap (zaa IntKind.u64.bits ((w : Int).fdiv (2 ^ min (Int.toNat 36) IntKind.u64.bits)) &&& zaa IntKind.u64.bits 1023).toNat) - 512) = (down w 0).b := by
  rw [shr_and (k := 36) (n := 10) rfl (by decide) (by decide) (by decide) hw, show ∀ x : Nat, x < 1024 → IntKind.i64.wrap (IntKind.i64.wrap (x : Int) - 512) = x - 512 from fun x hx => by rw [wrap_id (x := (x : Int)) (by omega), wrap_id (by omega)]]
  ·rfl
  ·omega
 have g1 : ((1 : Int) != 1) = false := rfl
 have g2 : decide ((resW w : Int) > 12) = false := by simp; omega
 simp only [ident_Cell_pc, uw, e1, e2, e3, e4, g1, g2, push_cast, ↓reduceIte, reduceCtorEq, zB, zE, zA, zS, zL, zD, zM]
 repeat refine And.intro (by first | decide | omega | exact fun _ => by decide | (simp +contextual; done) | kernel_rfl) ?_
 clear e1 e2 e3 e4
 refine run_loop [(6, false), (0, false), (4, false), (5, false), (2, false)] (fun vs pos los => ∃ i : Nat, (1 ≤ i ∧ i ≤ 13) ∧ vs = [int .i64 i, int .u64 w, int .i64 (resW w), .ptr 2000000 0 0, .ptr 2000001 0 0] ∧ pos = [] ∧ los = [.box [int .i64 (min (i - 1) (resW w) : Nat), int .i64 (down w (min (i - 1) (resW w))).a, int .i64 (down w (min (i - 1) (resW w))).b], .box [int .i64 0, int .i64 0, int .i64 0]])
  (fun vs _ _ => match vs with | .r (.v (.int _ j)) :: _ => (13 - j).toNat | _ => 0) rfl ?_ ?_
 ·simp only [push_cast, ↓reduceIte, reduceCtorEq, zB, zE, zA, zS, zL, zD, zM]
  refine ⟨1, by omega, rfl, ?_⟩
  rw [show min (1 - 1) (resW w) = 0 by omega]
  rfl
 ·rintro vs pos los ⟨i, i6, rfl, rfl, rfl⟩
  obtain ⟨mi, hmi⟩ : ∃ mi, min (i - 1) (resW w) = mi := ⟨_, rfl⟩
  rw [hmi]
  simp only [push_cast, ↓reduceIte, reduceCtorEq, zB, zE, zA, zS, zL, zD, zM]
  refine cnd_mk (fun hi => ?_) (fun hi => ?_)
  ·have hi : i ≤ 12 := by simp at hi; omega
   have hD8 : dgt w i < 8 := Nat.mod_lt _ (by decide)
   have wi : IntKind.i64.wrap ((i : Int) + 1) = (i : Int) + 1 := wrap_id (by omega)
   simp only [push_cast, ↓reduceIte, reduceCtorEq, zB, zE, zA, zS, zL, zD, zM]
   refine call_as (as' := [uw w, int .i64 i]) rfl ?_
   refine call_mk (dig_t w i hw ⟨i6.1, hi⟩) rfl trivial ?_
   by_cases hc : resW w < i
   ·have hd7 := (m3 i i6.1 hi).2 hc
    have f1 : (((7 : Nat) : Int) == 7) = true := rfl
    have f1' : ((7 : Int) == 7) = true := rfl
    have f2 : decide ((i : Int) > (resW w : Int)) = true := by simp; omega
    have f3 : (true != true) = false := rfl
    rw [hd7]
    simp only [uw, f1, f1', f2, f3, wi, push_cast, ↓reduceIte, reduceCtorEq, zB, zE, zA, zS, zL, zD, zM]
    refine ⟨⟨i + 1, by omega, rfl, ?_⟩, by omega⟩
    rw [show min (i + 1 - 1) (resW w) = mi by omega]
   ·have hd7 : dgt w i ≠ 7 := fun e => hc ((m3 i i6.1 hi).1 e)
    obtain rfl : mi = i - 1 := by omega
    have f1 : ((dgt w i : Int) == 7) = false := by simp; omega
    have f2 : decide ((i : Int) > (resW w : Int)) = false := by simp; omega
    have f3 : (false != false) = false := rfl
    have hz := down_In w (i - 1) (by omega)
    have hz2 := down_In w i hi
    have hzm : ((down w (i - 1)).mul beta).In 10000000000000 := (mul_In hz (show beta.In 2 by unfold Ei.In; decide)).mono (by decide)
    have hdn : down w i = child (down w (i - 1)) (dgt w i) := by
     conv => lhs; rw [show i = i - 1 + 1 by omega]
     rw [down, show i - 1 + 1 = i by omega]
    simp only [uw, f1, f2, f3, wi, push_cast, ↓reduceIte, reduceCtorEq, zB, zE, zA, zS, zL, zD, zM]
    refine call_as (as' := [(down w (i - 1)).v, beta.v]) rfl ?_
    refine call_mk (emul_t _ _ (hz.mono (by decide)) (show beta.In _ by unfold Ei.In; decide) (hzm.mono (by decide))) rfl trivial ?_
    simp only [Ei.v, Ei.rv, push_cast, ↓reduceIte, reduceCtorEq, zB, zE, zA, zS, zL, zD, zM]
    refine cnd_mk (fun hp => ?_) (fun hp => ?_)
    ·have hp' : 0 < dgt w i := by simp at hp; omega
     have wd : IntKind.i64.wrap (dgt w i : Int) = (dgt w i : Int) := wrap_id (by omega)
     have wd1 : IntKind.i64.wrap ((dgt w i : Int) - 1) = (dgt w i : Int) - 1 := wrap_id (by omega)
     have hch : child (down w (i - 1)) (dgt w i) = ((down w (i - 1)).mul beta).add (uni (dgt w i - 1)) := by
      unfold child
      rw [if_neg (by omega)]
     rw [hch] at hdn
     simp only [wd, wd1, push_cast, ↓reduceIte, reduceCtorEq, zB, zE, zA, zS, zL, zD, zM]
     refine dcall_mk (eunit_t ((dgt w i : Int) - 1) (by omega)) rfl trivial ?_
     rw [show ((dgt w i : Int) - 1).toNat = dgt w i - 1 by omega]
     have hu : (uni (dgt w i - 1)).In 1 := by unfold uni; split <;> unfold Ei.In <;> decide
     simp only [Ei.v, Ei.rv, push_cast, ↓reduceIte, reduceCtorEq, zB, zE, zA, zS, zL, zD, zM]
     refine dcall_as (as' := [((down w (i - 1)).mul beta).v, (uni (dgt w i - 1)).v]) rfl ?_
     refine dcall_mk (eadd_t _ _ (hzm.mono (by decide)) (hu.mono (by decide)) (by rw [← hdn]; exact hz2.mono (by decide))) rfl trivial ?_
     rw [← hdn]
     simp only [wi, Ei.v, Ei.rv, push_cast, ↓reduceIte, reduceCtorEq, zB, zE, zA, zS, zL, zD, zM]
     repeat refine And.intro (by first | decide | omega | exact fun _ => by decide | (simp +contextual; done) | kernel_rfl) ?_
     refine ⟨⟨i + 1, by omega, rfl, ?_⟩, by omega⟩
     rw [show min (i + 1 - 1) (resW w) = i by omega]
    ·have hp' : dgt w i = 0 := by simp at hp; omega
     have hch : child (down w (i - 1)) (dgt w i) = (down w (i - 1)).mul beta := by
      unfold child
      rw [if_pos (by omega)]
     rw [hch] at hdn
     simp only [wi, push_cast, ↓reduceIte, reduceCtorEq, zB, zE, zA, zS, zL, zD, zM]
     refine ⟨⟨i + 1, by omega, rfl, ?_⟩, by omega⟩
     rw [show min (i + 1 - 1) (resW w) = i by omega, hdn]
  ·have hi : i = 13 := by simp at hi; omega
   subst hi
   obtain rfl : mi = resW w := by omega
   simp only [cel, push_cast, ↓reduceIte, reduceCtorEq, zB, zE, zA, zS, zL, zD, zM]

noncomputable def clip_line_keeps_pc : PC :=
  (.seq (.reg [p_a 2 (.box (.t 0)), p_a 3 (.box (.t 1)), p_s 4 (.mov (.c (.r (.v (.bool false)))))])
 (.seq (.seq (.reg [p_s 5 (.fa 2 (.t 2)), p_s 6 (.ld none (.t 5))])
 (.cond (.t 6)
 (.seq (.drw [p_s 7 (.fa 0 (.t 2)), p_s 8 (.ld none (.t 7)), p_s 9 (.iaa 2 1 (.t 3) (.t 8)), p_s 10 (.ld none (.t 9)), p_s 11 (.fa 1 (.t 2)), p_s 12 (.ld none (.t 11)), p_s 13 (.bin .geq (.t 10) (.t 12)),
 p_m 4 13]
 [[], [0], [0, 1], [0, 1, 2], [], [4], [0, 1, 2, 3, 4, 5], [0, 1, 2, 3, 4, 5, 6]])
 .ret)
 .skip))
 (.seq (.drw [p_s 14 (.fa 0 (.t 2)), p_s 15 (.ld none (.t 14)), p_s 16 (.iaa 2 1 (.t 3) (.t 15)), p_s 17 (.ld none (.t 16)), p_s 18 (.fa 1 (.t 2)), p_s 19 (.ld none (.t 18)),
 p_s 20 (.bin .leq (.t 17) (.t 19)), p_m 4 20]
 [[], [0], [0, 1], [0, 1, 2], [], [4], [0, 1, 2, 3, 4, 5], [0, 1, 2, 3, 4, 5, 6]])
 .ret)))
theorem clip_line_keeps_triple : Fun P0 123 2 [(4, false, none)] clip_line_keeps_pc := fun_mk Go.Proofs.Tryz.func123 rfl (by decide) (by kernel_rfl) (by decide) rfl (by kernel_rfl) (by kernel_rfl) (by decide)
noncomputable def clip_line_between_pc : PC :=
  (.seq (.reg [p_a 3 (.box (.t 0)), p_a 4 (.box (.t 1)), p_a 5 (.box (.t 2)), p_s 6 (.mov (.c (.r (.v (.bool false)))))])
 (.seq (.drw [p_s 9 (.fa 0 (.t 3)), p_s 10 (.ld none (.t 9)), p_s 11 (.iaa 2 1 (.t 4) (.t 10)), p_s 12 (.ld none (.t 11)), p_s 13 (.fa 0 (.t 3)), p_s 14 (.ld none (.t 13)), p_s 15 (.iaa 2 1 (.t 5) (.t 14)),
 p_s 16 (.ld none (.t 15)), p_m 7 12, p_m 8 16]
 [[], [0], [0, 1], [0, 1, 2], [], [4], [4, 5], [4, 5, 6], [0, 1, 2, 3], [0, 1, 2, 3, 4, 5, 6, 7, 8]])
 (.seq (.reg [p_m 17 7, p_s 18 (.fa 1 (.t 3)), p_s 19 (.ld none (.t 18)), p_s 20 (.bin .lss (.t 17) (.t 19)), p_m 21 20, p_g 22 21 true (.fa 1 (.t 3)), p_g 23 21 true (.ld none (.t 22)),
 p_g 24 21 true (.mov (.t 8)), p_g 25 21 true (.bin .lss (.t 23) (.t 24)), p_s 26 (.pick (.t 21) (.t 25) (.c (.r (.v (.bool false))))), p_m 27 26, p_g 28 27 false (.mov (.t 8)),
 p_g 29 27 false (.fa 1 (.t 3)), p_g 30 27 false (.ld none (.t 29)), p_g 31 27 false (.bin .lss (.t 28) (.t 30)), p_g 32 27 false (.mov (.t 31)), p_g 33 32 true (.fa 1 (.t 3)),
 p_g 34 32 true (.ld none (.t 33)), p_g 35 32 true (.mov (.t 7)), p_g 36 32 true (.bin .lss (.t 34) (.t 35)), p_g 37 27 false (.pick (.t 32) (.t 36) (.c (.r (.v (.bool false))))),
 p_s 38 (.pick (.t 27) (.c (.r (.v (.bool true)))) (.t 37)), p_m 6 38])
 .ret)))
theorem clip_line_between_triple : Fun P0 124 3 [(6, false, none)] clip_line_between_pc := fun_mk Go.Proofs.Tryz.func124 rfl (by decide) (by kernel_rfl) (by decide) rfl (by kernel_rfl) (by kernel_rfl) (by decide)
noncomputable def clip_line_cross_pc : PC :=
  (.seq (.reg [p_a 3 (.box (.t 0)), p_a 4 (.box (.t 1)), p_a 5 (.box (.t 2)), p_a 6 (.new [(.r (.v (.int .i64 0))), (.r (.v (.int .i64 0)))])])
 (.seq (.drw [p_s 15 (.fa 0 (.t 3)), p_s 16 (.ld none (.t 15)), p_s 17 (.fa 0 (.t 3)), p_s 18 (.ld none (.t 17)), p_s 19 (.bin .sub (o_i 1) (.t 18)), p_m 7 16, p_m 8 19]
 [[], [0], [], [2], [2, 3], [0, 1], [0, 1, 2, 3, 4, 5]])
 (.seq (.drw [p_m 20 7, p_s 21 (.iaa 2 1 (.t 5) (.t 20)), p_s 22 (.ld none (.t 21)), p_m 23 7, p_s 24 (.iaa 2 1 (.t 4) (.t 23)), p_s 25 (.ld none (.t 24)), p_s 26 (.bin .sub (.t 22) (.t 25)),
 p_m 9 26]
 [[], [0], [0, 1], [], [3], [3, 4], [0, 1, 2, 3, 4, 5], [0, 1, 2, 3, 4, 5, 6]])
 (.seq (.drw [p_m 27 8, p_s 28 (.iaa 2 1 (.t 5) (.t 27)), p_s 29 (.ld none (.t 28)), p_m 30 8, p_s 31 (.iaa 2 1 (.t 4) (.t 30)), p_s 32 (.ld none (.t 31)), p_s 33 (.bin .sub (.t 29) (.t 32)),
 p_s 34 (.fa 1 (.t 3)), p_s 35 (.ld none (.t 34)), p_m 36 7, p_s 37 (.iaa 2 1 (.t 4) (.t 36)), p_s 38 (.ld none (.t 37)), p_s 39 (.bin .sub (.t 35) (.t 38)), p_s 40 (.bin .mul (.t 33) (.t 39)),
 p_m 10 40]
 [[], [0], [0, 1], [], [3], [3, 4], [0, 1, 2, 3, 4, 5], [], [7], [], [9], [9, 10], [7, 8, 9, 10, 11], [0, 1, 2, 3, 4, 5, 6, 7, 8, 9, 10, 11, 12], [0, 1, 2, 3, 4, 5, 6, 7, 8, 9, 10, 11, 12, 13]])
 (.seq (.seq (.reg [p_m 41 9, p_s 42 (.bin .lss (.t 41) (o_i 0))])
 (.cond (.t 42)
 (.reg [p_m 43 10, p_s 44 (.un .neg (.t 43)), p_m 45 9, p_s 46 (.un .neg (.t 45)), p_m 10 44, p_m 9 46])
 .skip))
 (.seq (.reg [p_m 48 10, p_m 49 9, p_c 50 1 66 [.t 48, .t 49], p_m 47 50, p_s 51 (.ext (.t 47) 0), p_s 52 (.ext (.t 47) 1), p_s 53 (.ext (.t 47) 2), p_m 11 51, p_m 12 52, p_m 13 53])
 (.seq (.reg [p_a 14 (.new [(.r (.v (.int .i64 0))), (.r (.v (.int .i64 0)))])])
 (.seq (.drw [p_m 54 7, p_m 55 8, p_s 56 (.fa 1 (.t 3)), p_s 57 (.ld none (.t 56)), p_m 58 8, p_s 59 (.iaa 2 1 (.t 4) (.t 58)), p_s 60 (.ld none (.t 59)), p_m 61 11, p_s 62 (.bin .add (.t 60) (.t 61)),
 p_s 63 (.iaa 2 1 (.t 14) (.t 54)), ⟨none, none, 0, .act (.st 1 (.t 63) (.t 57))⟩, p_s 64 (.iaa 2 1 (.t 14) (.t 55)), ⟨none, none, 0, .act (.st 1 (.t 64) (.t 62))⟩]
 [[], [], [], [2], [], [4], [4, 5], [], [4, 5, 6, 7], [0, 2, 3], [0, 2, 3, 9], [0, 1, 2, 3, 4, 5, 6, 7, 8, 9, 10], [0, 1, 2, 3, 4, 5, 6, 7, 8, 9, 10, 11]])
 (.seq (.reg [p_s 65 (.ld (some 2) (.t 14)), ⟨none, none, 0, .act (.st 2 (.t 6) (.t 65))⟩])
 .ret)))))))))
theorem clip_line_cross_triple : Fun P0 125 3 [(6, false, some (32, (some 2)))] clip_line_cross_pc := fun_mk Go.Proofs.Tryz.func125 rfl (by decide) (by kernel_rfl) (by decide) rfl (by kernel_rfl) (by kernel_rfl) (by decide)
abbrev P2 := Int × Int
def pv2 (p : P2) : AV := .r (pnt p.1 p.2)
structure Lin where
 axis : Int
 at' : Int
 above : Bool
def Lin.v (l : Lin) : AV := .r (.agg [.v (.int .i64 l.axis), .v (.int .i64 l.at'), .v (.bool l.above)])
def Lin.ok (l : Lin) : Prop := l.axis = 0 ∨ l.axis = 1
def sel (a : Int) (p : P2) : Int := if a = 0 then p.1 else p.2
def keepsP (l : Lin) (p : P2) : Bool := if l.above then decide (sel l.axis p ≥ l.at') else decide (sel l.axis p ≤ l.at')
def betwP (l : Lin) (p q : P2) : Bool := (decide (sel l.axis p < l.at') && decide (l.at' < sel l.axis q)) || (decide (sel l.axis q < l.at') && decide (l.at' < sel l.axis p))
def crossP (l : Lin) (p q : P2) : P2 :=
 let d := sel l.axis q - sel l.axis p
 let e := (sel (1 - l.axis) q - sel (1 - l.axis) p) * (l.at' - sel l.axis p)
 let n := if d < 0 then (-e) / (-d) else if 0 < d then e / d else 0
 if l.axis = 0 then (l.at', p.2 + n) else (p.1 + n, l.at')
theorem bool4 (a b c d : Bool) : (bif bif a then b else false then true else bif c then d else false) = (a && b || c && d) := by cases a <;> cases b <;> cases c <;> cases d <;> rfl
theorem keeps_t (l : Lin) (hl : l.ok) (p : P2) : Triple P0 123 [l.v, pv2 p] [] (bl (keepsP l p)) [] := by
 refine clip_line_keeps_triple rfl (by decide) ?_
 obtain ⟨a, c, b⟩ := l
 have d : decide ((0 : Nat) < 2) = true := rfl
 rcases hl with rfl | rfl <;> cases b <;> simp only [clip_line_keeps_pc, Lin.v, pv2, pnt, keepsP, sel, zaf, zab, Int.reduceEq, zad, push_cast, ↓reduceIte, reduceCtorEq, zB, zE, zA, zS, zL, zD, zM]
 all_goals (repeat refine And.intro (by first | decide | omega | exact fun _ => by decide | (simp +contextual; done) | kernel_rfl) ?_)
 all_goals first | done | kernel_rfl | rfl
theorem between_t (l : Lin) (hl : l.ok) (p q : P2) : Triple P0 124 [l.v, pv2 p, pv2 q] [] (bl (betwP l p q)) [] := by
 refine clip_line_between_triple rfl (by decide) ?_
 obtain ⟨a, c, b⟩ := l
 rcases hl with rfl | rfl <;> simp only [clip_line_between_pc, Lin.v, pv2, pnt, betwP, sel, zaf, zab, Int.reduceEq, zad, push_cast, ↓reduceIte, reduceCtorEq, zB, zE, zA, zS, zL, zD, zM]
 all_goals (repeat refine And.intro (by first | decide | omega | exact fun _ => by decide | (simp +contextual; done) | kernel_rfl) ?_)
 all_goals exact ⟨fun h => by rw [h]; rfl, by rw [bool4]⟩
set_option maxHeartbeats 1000000 in
theorem cross_t (l : Lin) (hl : l.ok) (p q : P2) (hc : -9007199254740992 ≤ l.at' ∧ l.at' ≤ 9007199254740992) (hp : (-1099511627776 ≤ p.1 ∧ p.1 ≤ 1099511627776) ∧ (-1099511627776 ≤ p.2 ∧ p.2 ≤ 1099511627776))
  (hq : (-1073741824 ≤ q.1 - p.1 ∧ q.1 - p.1 ≤ 1073741824) ∧ (-1073741824 ≤ q.2 - p.2 ∧ q.2 - p.2 ≤ 1073741824)) (hb : betwP l p q = true) :
  Triple P0 125 [l.v, pv2 p, pv2 q] [] (pv2 (crossP l p q)) [] := by
 refine clip_line_cross_triple rfl (by decide) ?_
 obtain ⟨a, c, b⟩ := l
 obtain ⟨px, py⟩ := p
 obtain ⟨qx, qy⟩ := q
 simp only at hc hp hq
 rcases hl with h | h <;> simp only at h <;> subst h
 ·have hbt : (px < c ∧ c < qx) ∨ (qx < c ∧ c < px) := by simpa [betwP, sel] using hb
  have w1 : IntKind.i64.wrap (1 - 0) = 1 := rfl
  obtain ⟨d, hD⟩ : ∃ d, qx - px = d := ⟨_, rfl⟩
  have w2 : IntKind.i64.wrap (qx - px) = d := by rw [wrap_id (by omega)]; exact hD
  have w3 : IntKind.i64.wrap (qy - py) = qy - py := wrap_id (by omega)
  have w4 : IntKind.i64.wrap (c - px) = c - px := wrap_id (by omega)
  have hm := mul_in (x := qy - py) (y := c - px) (n := 1073741824) (m := 1073741824) (by omega) (by omega)
  obtain ⟨e, hE⟩ : ∃ e, (qy - py) * (c - px) = e := ⟨_, rfl⟩
  rw [hE] at hm
  have w5 : IntKind.i64.wrap ((qy - py) * (c - px)) = e := by rw [hE]; exact wrap_id (by omega)
  have hcr : crossP ⟨0, c, b⟩ (px, py) (qx, qy) = (c, py + (if qx - px < 0 then (-((qy - py) * (c - px))) / (-(qx - px)) else if 0 < qx - px then ((qy - py) * (c - px)) / (qx - px) else 0)) := rfl
  rw [hcr, hE, hD]
  have wn : IntKind.i64.wrap (0 - e) = -e := by rw [wrap_id (by omega)]; omega
  have wd : IntKind.i64.wrap (0 - d) = -d := by rw [wrap_id (by omega)]; omega
  simp only [clip_line_cross_pc, Lin.v, pv2, pnt, w1, w2, w3, w4, w5, zaf, zab, zad, push_cast, ↓reduceIte, reduceCtorEq, zB, zE, zA, zS, zL, zD, zM]
  repeat refine And.intro (by first | decide | omega | exact fun _ => by decide | (simp +contextual; done) | kernel_rfl) ?_
  refine cnd_mk (fun hn => ?_) (fun hn => ?_)
  ·have hn' : d < 0 := by simpa using hn
   have hf := floor_t (-e) (-d) (by unfold in64; omega) (by unfold in64; omega)
   rw [if_pos (by omega), if_pos (by omega)] at hf
   rw [if_pos hn']
   have hb1 := zau (-e) (-d)
   have w6 : IntKind.i64.wrap (py + (-e) / (-d)) = py + (-e) / (-d) := wrap_id (by omega)
   simp only [wn, wd, push_cast, ↓reduceIte, reduceCtorEq, zB, zE, zA, zS, zL, zD, zM]
   refine call_mk hf rfl trivial ?_
   simp only [w6, w1, zaf, zab, zad, push_cast, ↓reduceIte, reduceCtorEq, zB, zE, zA, zS, zL, zD, zM]
   repeat refine And.intro (by first | decide | omega | exact fun _ => by decide | (simp +contextual; done) | kernel_rfl) ?_
   first | done | rfl | kernel_rfl
  ·have hn' : ¬ d < 0 := by simpa using hn
   have hd0 : 0 < d := by omega
   have hf := floor_t e d (by unfold in64; omega) (by unfold in64; omega)
   rw [if_pos hd0, if_pos hd0] at hf
   rw [if_neg hn', if_pos hd0]
   have hb1 := zau e d
   have w6 : IntKind.i64.wrap (py + e / d) = py + e / d := wrap_id (by omega)
   simp only [wn, wd, push_cast, ↓reduceIte, reduceCtorEq, zB, zE, zA, zS, zL, zD, zM]
   refine call_mk hf rfl trivial ?_
   simp only [w6, w1, zaf, zab, zad, push_cast, ↓reduceIte, reduceCtorEq, zB, zE, zA, zS, zL, zD, zM]
   repeat refine And.intro (by first | decide | omega | exact fun _ => by decide | (simp +contextual; done) | kernel_rfl) ?_
   first | done | rfl | kernel_rfl
 ·have hbt : (py < c ∧ c < qy) ∨ (qy < c ∧ c < py) := by simpa [betwP, sel] using hb
  have w1 : IntKind.i64.wrap (1 - 1) = 0 := rfl
  obtain ⟨d, hD⟩ : ∃ d, qy - py = d := ⟨_, rfl⟩
  have w2 : IntKind.i64.wrap (qy - py) = d := by rw [wrap_id (by omega)]; exact hD
  have w3 : IntKind.i64.wrap (qx - px) = qx - px := wrap_id (by omega)
  have w4 : IntKind.i64.wrap (c - py) = c - py := wrap_id (by omega)
  have hm := mul_in (x := qx - px) (y := c - py) (n := 1073741824) (m := 1073741824) (by omega) (by omega)
  obtain ⟨e, hE⟩ : ∃ e, (qx - px) * (c - py) = e := ⟨_, rfl⟩
  rw [hE] at hm
  have w5 : IntKind.i64.wrap ((qx - px) * (c - py)) = e := by rw [hE]; exact wrap_id (by omega)
  have hcr : crossP ⟨1, c, b⟩ (px, py) (qx, qy) = (px + (if qy - py < 0 then (-((qx - px) * (c - py))) / (-(qy - py)) else if 0 < qy - py then ((qx - px) * (c - py)) / (qy - py) else 0), c) := rfl
  rw [hcr, hE, hD]
  have wn : IntKind.i64.wrap (0 - e) = -e := by rw [wrap_id (by omega)]; omega
  have wd : IntKind.i64.wrap (0 - d) = -d := by rw [wrap_id (by omega)]; omega
  simp only [clip_line_cross_pc, Lin.v, pv2, pnt, w1, w2, w3, w4, w5, zaf, zab, zad, push_cast, ↓reduceIte, reduceCtorEq, zB, zE, zA, zS, zL, zD, zM]
  repeat refine And.intro (by first | decide | omega | exact fun _ => by decide | (simp +contextual; done) | kernel_rfl) ?_
  refine cnd_mk (fun hn => ?_) (fun hn => ?_)
  ·have hn' : d < 0 := by simpa using hn
   have hf := floor_t (-e) (-d) (by unfold in64; omega) (by unfold in64; omega)
   rw [if_pos (by omega), if_pos (by omega)] at hf
   rw [if_pos hn']
   have hb1 := zau (-e) (-d)
   have w6 : IntKind.i64.wrap (px + (-e) / (-d)) = px + (-e) / (-d) := wrap_id (by omega)
   simp only [wn, wd, push_cast, ↓reduceIte, reduceCtorEq, zB, zE, zA, zS, zL, zD, zM]
   refine call_mk hf rfl trivial ?_
   simp only [w6, w1, zaf, zab, zad, push_cast, ↓reduceIte, reduceCtorEq, zB, zE, zA, zS, zL, zD, zM]
   repeat refine And.intro (by first | decide | omega | exact fun _ => by decide | (simp +contextual; done) | kernel_rfl) ?_
   first | done | rfl | kernel_rfl
  ·have hn' : ¬ d < 0 := by simpa using hn
   have hd0 : 0 < d := by omega
   have hf := floor_t e d (by unfold in64; omega) (by unfold in64; omega)
   rw [if_pos hd0, if_pos hd0] at hf
   rw [if_neg hn', if_pos hd0]
   have hb1 := zau e d
   have w6 : IntKind.i64.wrap (px + e / d) = px + e / d := wrap_id (by omega)
   simp only [wn, wd, push_cast, ↓reduceIte, reduceCtorEq, zB, zE, zA, zS, zL, zD, zM]
   refine call_mk hf rfl trivial ?_
   simp only [w6, w1, zaf, zab, zad, push_cast, ↓reduceIte, reduceCtorEq, zB, zE, zA, zS, zL, zD, zM]
   repeat refine And.intro (by first | decide | omega | exact fun _ => by decide | (simp +contextual; done) | kernel_rfl) ?_
   first | done | rfl | kernel_rfl

noncomputable def clip_ok_pc : PC :=
  (.seq (.reg [p_s 2 (.mov (.c (.r (.v (.bool false)))))])
 (.seq (.seq (.reg [p_m 8 0, p_s 9 (.len false (.t 8)), p_s 10 (.bin .gtr (.t 9) (o_i 100))])
 (.cond (.t 10)
 (.seq (.reg [p_s 2 (.mov (.c (.r (.v (.bool false)))))])
 .ret)
 .skip))
 (.seq (.seq (.reg [p_s 11 (.mov (o_i 0))])
 (.block 0 (.loop (.seq (.reg [p_s 12 (.bin .lss (.t 11) (o_i 2))])
 (.seq (.cond (.t 12)
 .skip
 (.exit 0))
 (.seq (.block 1 (.seq (.reg [p_m 13 11, p_m 3 13])
 (.seq (.reg [p_m 14 0, p_s 15 (.len false (.t 14)), p_s 16 (.mov (o_i 0))])
 (.block 2 (.loop (.seq (.reg [p_s 17 (.bin .lss (.t 16) (.t 15))])
 (.seq (.cond (.t 17)
 .skip
 (.exit 2))
 (.seq (.block 3 (.seq (.reg [p_m 18 16, p_s 19 (.ia 2 (.agg [(.v (.int .i64 0)), (.v (.int .i64 0))]) (.t 14) (.t 16)), p_s 20 (.ld (some 2) (.t 19)), p_a 5 (.new [(.r (.v (.int .i64 0))), (.r (.v (.int .i64 0)))]),
 p_m 4 18, ⟨none, none, 0, .act (.st 2 (.t 5) (.t 20))⟩])
 (.seq (.seq (.reg [p_m 21 3, p_s 22 (.iaa 2 1 (.t 5) (.t 21)), p_s 23 (.ld none (.t 22)), p_s 24 (.bin .lss (.t 23) (o_i (-1099511627776))), p_m 25 24, p_g 26 25 false (.mov (.t 3)),
 p_g 27 25 false (.iaa 2 1 (.t 5) (.t 26)), p_g 28 25 false (.ld none (.t 27)), p_g 29 25 false (.bin .gtr (.t 28) (o_i 1099511627776)), p_s 30 (.pick (.t 25) (.c (.r (.v (.bool true)))) (.t 29))])
 (.cond (.t 30)
 (.seq (.reg [p_s 2 (.mov (.c (.r (.v (.bool false)))))])
 .ret)
 .skip))
 (.seq (.reg [p_m 31 0, p_m 32 4, p_s 33 (.sll 2 (.t 31) none (some (.t 32)) none), p_s 34 (.len false (.t 33)), p_s 35 (.mov (o_i 0))])
 (.block 4 (.loop (.seq (.reg [p_s 36 (.bin .lss (.t 35) (.t 34))])
 (.seq (.cond (.t 36)
 .skip
 (.exit 4))
 (.seq (.block 5 (.seq (.reg [p_s 37 (.ia 2 (.agg [(.v (.int .i64 0)), (.v (.int .i64 0))]) (.t 33) (.t 35)), p_s 38 (.ld (some 2) (.t 37)), p_a 7 (.new [(.r (.v (.int .i64 0))), (.r (.v (.int .i64 0)))]),
 ⟨none, none, 0, .act (.st 2 (.t 7) (.t 38))⟩])
 (.seq (.drw [p_m 39 3, p_s 40 (.iaa 2 1 (.t 5) (.t 39)), p_s 41 (.ld none (.t 40)), p_m 42 3, p_s 43 (.iaa 2 1 (.t 7) (.t 42)), p_s 44 (.ld none (.t 43)), p_s 45 (.bin .sub (.t 41) (.t 44)),
 p_s 46 (.bin .gtr (.t 45) (o_i 1073741824)), p_m 47 46, p_g 48 47 false (.mov (.t 3)), p_g 49 47 false (.iaa 2 1 (.t 7) (.t 48)), p_g 50 47 false (.ld none (.t 49)),
 p_g 51 47 false (.mov (.t 3)), p_g 52 47 false (.iaa 2 1 (.t 5) (.t 51)), p_g 53 47 false (.ld none (.t 52)), p_g 54 47 false (.bin .sub (.t 50) (.t 53)), p_g 55 47 false (.bin .gtr (.t 54) (o_i 1073741824)),
 p_s 56 (.pick (.t 47) (.c (.r (.v (.bool true)))) (.t 55))]
 [[], [0], [0, 1], [], [3], [3, 4], [0, 1, 2, 3, 4, 5], [0, 1, 2, 3, 4, 5, 6], [0, 1, 2, 3, 4, 5, 6, 7], [0, 1, 2, 3, 4, 5, 6, 7, 8], [0, 1, 2, 3, 4, 5, 6, 7, 8, 9], [0, 1, 2, 3, 4, 5, 6, 7, 8, 9, 10], [0, 1, 2, 3, 4, 5, 6, 7, 8], [0, 1, 2, 3, 4, 5, 6, 7, 8, 12], [0, 1, 2, 3, 4, 5, 6, 7, 8, 12, 13], [0, 1, 2, 3, 4, 5, 6, 7, 8, 9, 10, 11, 12, 13, 14], [0, 1, 2, 3, 4, 5, 6, 7, 8, 9, 10, 11, 12, 13, 14, 15], [0, 1, 2, 3, 4, 5, 6, 7, 8, 9, 10, 11, 12, 13, 14, 15, 16]])
 (.cond (.t 56)
 (.seq (.reg [p_s 2 (.mov (.c (.r (.v (.bool false)))))])
 .ret)
 .skip))))
 (.reg [p_s 57 (.bin .add (.t 35) (o_i 1)), p_m 35 57]))))))))))
 (.reg [p_s 58 (.bin .add (.t 16) (o_i 1)), p_m 16 58])))))))))
 (.reg [p_s 59 (.bin .add (.t 11) (o_i 1)), p_m 11 59])))))))
 (.seq (.reg [p_s 2 (.mov (.c (.r (.v (.bool true)))))])
 .ret))))
theorem clip_ok_triple : Fun P0 65 1 [(2, false, none)] clip_ok_pc := fun_mk Go.Proofs.Tryz.func65 rfl (by decide) (by kernel_rfl) (by decide) rfl (by kernel_rfl) (by kernel_rfl) (by decide)
noncomputable def clip_line_cut_pc : PC :=
  (.seq (.reg [p_a 2 (.box (.t 0)), p_s 4 (.mov (.c (.nils 2 (.agg [(.v (.int .i64 0)), (.v (.int .i64 0))]))))])
 (.seq (.reg [p_s 5 (.mov (.c (.nils 2 (.agg [(.v (.int .i64 0)), (.v (.int .i64 0))]))))])
 (.seq (.seq (.reg [p_m 9 1, p_s 10 (.len false (.t 9)), p_s 11 (.mov (o_i 0))])
 (.block 0 (.loop (.seq (.reg [p_s 12 (.bin .lss (.t 11) (.t 10))])
 (.seq (.cond (.t 12)
 .skip
 (.exit 0))
 (.seq (.block 1 (.seq (.reg [p_m 13 11, p_s 14 (.ia 2 (.agg [(.v (.int .i64 0)), (.v (.int .i64 0))]) (.t 9) (.t 11)), p_s 15 (.ld (some 2) (.t 14)), p_a 7 (.new [(.r (.v (.int .i64 0))), (.r (.v (.int .i64 0)))]),
 p_m 6 13, ⟨none, none, 0, .act (.st 2 (.t 7) (.t 15))⟩])
 (.seq (.reg [p_m 16 1, p_m 17 6, p_s 18 (.bin .add (.t 17) (o_i 1)), p_m 19 1, p_s 20 (.len false (.t 19)), p_s 21 (.bin .rem (.t 18) (.t 20)), p_s 22 (.ia 2 (.agg [(.v (.int .i64 0)), (.v (.int .i64 0))]) (.t 16) (.t 21)),
 p_s 23 (.ld (some 2) (.t 22)), p_a 8 (.new [(.r (.v (.int .i64 0))), (.r (.v (.int .i64 0)))]), ⟨none, none, 0, .act (.st 2 (.t 8) (.t 23))⟩])
 (.seq (.seq (.reg [p_s 24 (.ld (some 3) (.t 2)), p_s 25 (.ld (some 2) (.t 7)), p_c 26 1 123 [.t 24, .t 25]])
 (.cond (.t 26)
 (.reg [p_m 27 5, p_s 28 (.ld (some 2) (.t 7)), p_a 29 (.bsl 2 (.agg [(.v (.int .i64 0)), (.v (.int .i64 0))]) [(.t 28)]), p_a 30 (.app 2 (.agg [(.v (.int .i64 0)), (.v (.int .i64 0))]) 16 (.t 27) (.t 29)),
 p_m 5 30])
 .skip))
 (.seq (.reg [p_s 31 (.ld (some 3) (.t 2)), p_s 32 (.ld (some 2) (.t 7)), p_s 33 (.ld (some 2) (.t 8)), p_c 34 2 124 [.t 31, .t 32, .t 33]])
 (.cond (.t 34)
 (.reg [p_m 35 5, p_s 36 (.ld (some 3) (.t 2)), p_s 37 (.ld (some 2) (.t 7)), p_s 38 (.ld (some 2) (.t 8)), p_c 39 3 125 [.t 36, .t 37, .t 38], p_a 40 (.bsl 2 (.agg [(.v (.int .i64 0)), (.v (.int .i64 0))]) [(.t 39)]),
 p_a 41 (.app 2 (.agg [(.v (.int .i64 0)), (.v (.int .i64 0))]) 16 (.t 35) (.t 40)), p_m 5 41])
 .skip))))))
 (.reg [p_s 42 (.bin .add (.t 11) (o_i 1)), p_m 11 42])))))))
 (.seq (.reg [p_m 43 5, p_m 4 43])
 .ret))))
theorem clip_line_cut_triple : Fun P0 96 2 [(4, false, none)] clip_line_cut_pc := fun_mk Go.Proofs.Tryz.func96 rfl (by decide) (by kernel_rfl) (by decide) rfl (by kernel_rfl) (by kernel_rfl) (by decide)
def ptR (p : P2) : RV := pnt p.1 p.2
def ring2 (l : List P2) : AV := .r (.sl 2 (l.map ptR))
def RgOk (l : List P2) : Prop := l.length ≤ 100 ∧ (∀ p ∈ l, (-1099511627776 ≤ p.1 ∧ p.1 ≤ 1099511627776) ∧ (-1099511627776 ≤ p.2 ∧ p.2 ≤ 1099511627776)) ∧
 ∀ p ∈ l, ∀ q ∈ l, (-1073741824 ≤ q.1 - p.1 ∧ q.1 - p.1 ≤ 1073741824) ∧ (-1073741824 ≤ q.2 - p.2 ∧ q.2 - p.2 ≤ 1073741824)
theorem ring_get {l : List P2} {i : Nat} {p : P2} (h : l[i]? = some p) (z : RV) : (l.map ptR).getD ((i : Int)).toNat z = .agg [.v (.int .i64 p.1), .v (.int .i64 p.2)] := by
 simp [List.getD, h, ptR, pnt]
theorem ring_get0 {l : List P2} {i : Nat} {p : P2} (h : l[i]? = some p) (z : RV) : (l.map ptR).getD (0 + ((i : Int)).toNat) z = .agg [.v (.int .i64 p.1), .v (.int .i64 p.2)] := by rw [zad]; exact ring_get h z
set_option maxHeartbeats 2000000 in
theorem rok_t (l : List P2) (h : RgOk l) : Triple P0 65 [ring2 l] [] (bl true) [] := by
 obtain ⟨h1, h2, h3⟩ := h
 refine clip_ok_triple rfl (by decide) ?_
 have e1 : decide ((l.length : Int) > 100) = false := by simp; omega
 simp only [clip_ok_pc, ring2, e1, push_cast, ↓reduceIte, reduceCtorEq, zB, zE, zA, zS, zL, zD, zM]
 refine run_loop [(11, false), (0, false)] (fun vs pos los => ∃ a : Nat, a ≤ 2 ∧ vs = [int .i64 a, ring2 l] ∧ pos = [] ∧ los = [])
  (fun vs _ _ => match vs with | .r (.v (.int _ a)) :: _ => (2 - a).toNat | _ => 0) rfl ?_ ?_
 ·simp only [ring2, push_cast, ↓reduceIte, reduceCtorEq, zB, zE, zA, zS, zL, zD, zM]
  exact ⟨0, by omega, rfl⟩
 ·rintro vs pos los ⟨a, ha, rfl, rfl, rfl⟩
  simp only [ring2, push_cast, ↓reduceIte, reduceCtorEq, zB, zE, zA, zS, zL, zD, zM]
  refine cnd_mk (fun hc => ?_) (fun hc => ?_)
  ·have ha2 : a < 2 := by simp at hc; omega
   have wa : IntKind.i64.wrap ((a : Int) + 1) = (a : Int) + 1 := wrap_id (by omega)
   simp only [ring2, push_cast, ↓reduceIte, reduceCtorEq, zB, zE, zA, zS, zL, zD, zM]
   refine run_loop [(16, false), (14, false), (15, false), (3, false), (11, false), (0, false)] (fun vs pos los => ∃ k : Nat, k ≤ l.length ∧ vs = [int .i64 k, ring2 l, int .i64 l.length, int .i64 a, int .i64 a, ring2 l] ∧ pos = [] ∧ los = [])
    (fun vs _ _ => match vs with | .r (.v (.int _ a)) :: _ => (l.length - a).toNat | _ => 0) rfl ?_ ?_
   ·simp only [ring2, push_cast, ↓reduceIte, reduceCtorEq, zB, zE, zA, zS, zL, zD, zM]
    exact ⟨0, by omega, rfl⟩
   ·rintro vs pos los ⟨k, hk, rfl, rfl, rfl⟩
    simp only [ring2, push_cast, ↓reduceIte, reduceCtorEq, zB, zE, zA, zS, zL, zD, zM]
    refine cnd_mk (fun hd => ?_) (fun hd => ?_)
    ·have hk2 : k < l.length := by simpa using hd
     obtain ⟨p, hp⟩ : ∃ p, l[k]? = some p := ⟨l[k], by simp [hk2]⟩
     have hpm := List.mem_of_getElem? hp
     have hpb := h2 p hpm
     have wk : IntKind.i64.wrap ((k : Int) + 1) = (k : Int) + 1 := wrap_id (by omega)
     have hsp : ∀ (x y : Int) (z : AV), [AV.r (.v (.int .i64 x)), AV.r (.v (.int .i64 y))].getD (0 + ((a : Int)).toNat * 1) z = .r (.v (.int .i64 (if a = 0 then x else y))) := fun x y z => by
      rcases (show a = 0 ∨ a = 1 by omega) with rfl | rfl <;> rfl
     have hsp1 : ∀ (x y : Int) (z : AV), [AV.r (.v (.int .i64 x)), AV.r (.v (.int .i64 y))].getD ((a : Int)).toNat z = .r (.v (.int .i64 (if a = 0 then x else y))) := fun x y z => by
      rcases (show a = 0 ∨ a = 1 by omega) with rfl | rfl <;> rfl
     obtain ⟨P, hP⟩ : ∃ P, (if a = 0 then p.1 else p.2) = P := ⟨_, rfl⟩
     have hPb : -1099511627776 ≤ P ∧ P ≤ 1099511627776 := by rw [← hP]; split; exact hpb.1; exact hpb.2
     have d1 : decide (P < -1099511627776) = false := by simp; omega
     have d2 : decide (P > 1099511627776) = false := by simp; omega
     have wz : ((k : Int) - 0).toNat = k := by omega
     simp only [ring2, List.length_map, ring_get hp, ring_get0 hp, hsp, hsp1, hP, d1, d2, push_cast, ↓reduceIte, reduceCtorEq, zB, zE, zA, zS, zL, zD, zM]
     repeat refine And.intro (by first | decide | omega | exact fun _ => by decide | (simp +contextual; done) | kernel_rfl) ?_
     refine run_loop [(35, false), (33, false), (34, false), (5, false), (16, false), (14, false), (15, false), (3, false), (11, false), (0, false)] (fun vs pos los => ∃ j : Nat, j ≤ k ∧ vs = [int .i64 j, ring2 (l.take k), int .i64 k, .ptr 2000000 0 0, int .i64 k, ring2 l, int .i64 l.length, int .i64 a, int .i64 a, ring2 l] ∧ pos = [] ∧ los = [.box [int .i64 p.1, int .i64 p.2]])
      (fun vs _ _ => match vs with | .r (.v (.int _ a)) :: _ => (k - a).toNat | _ => 0) rfl ?_ ?_
     ·simp only [ring2, List.length_take, List.length_map, List.map_take, zan, zaf, List.drop_zero, zap (Nat.le_of_lt hk2), push_cast, ↓reduceIte, reduceCtorEq, zB, zE, zA, zS, zL, zD, zM]
      exact ⟨0, by omega, by simp⟩
     ·rintro vs pos los ⟨j, hj, rfl, rfl, rfl⟩
      simp only [ring2, push_cast, ↓reduceIte, reduceCtorEq, zB, zE, zA, zS, zL, zD, zM]
      refine cnd_mk (fun he => ?_) (fun he => ?_)
      ·have hj2 : j < k := by simpa using he
       have hjl : j < (l.take k).length := by simp; omega
       obtain ⟨q, hq⟩ : ∃ q, (l.take k)[j]? = some q := ⟨(l.take k)[j], by simp [hj2, show j < l.length by omega]⟩
       have hqm := List.mem_of_mem_take (List.mem_of_getElem? hq)
       have hpq := h3 p hpm q hqm
       have wj : IntKind.i64.wrap ((j : Int) + 1) = (j : Int) + 1 := wrap_id (by omega)
       obtain ⟨Q, hQ⟩ : ∃ Q, (if a = 0 then q.1 else q.2) = Q := ⟨_, rfl⟩
       have hQb : -1073741824 ≤ Q - P ∧ Q - P ≤ 1073741824 := by rw [← hQ, ← hP]; split; exact hpq.1; exact hpq.2
       have u1 : IntKind.i64.wrap (P - Q) = P - Q := wrap_id (by omega)
       have u2 : IntKind.i64.wrap (Q - P) = Q - P := wrap_id (by omega)
       have d3 : decide (P - Q > 1073741824) = false := by simp; omega
       have d4 : decide (Q - P > 1073741824) = false := by simp; omega
       simp only [ring2, List.length_map, List.length_take, zap (Nat.le_of_lt hk2), ring_get hq, ring_get0 hq, hsp, hsp1, hP, hQ, u1, u2, d3, d4, wj, push_cast, ↓reduceIte, reduceCtorEq, zB, zE, zA, zS, zL, zD, zM]
       repeat refine And.intro (by first | decide | omega | exact fun _ => by decide | (simp +contextual; done) | kernel_rfl) ?_
       exact ⟨⟨j + 1, by omega, by simp⟩, by omega⟩
      ·simp only [ring2, wk, push_cast, ↓reduceIte, reduceCtorEq, zB, zE, zA, zS, zL, zD, zM]
       exact ⟨⟨k + 1, by omega, by simp⟩, by omega⟩
    ·simp only [ring2, wa, push_cast, ↓reduceIte, reduceCtorEq, zB, zE, zA, zS, zL, zD, zM]
     exact ⟨⟨a + 1, by omega, rfl⟩, by omega⟩
  ·simp only [ring2, push_cast, ↓reduceIte, reduceCtorEq, zB, zE, zA, zS, zL, zD, zM]

end Go.Ev
