import Derived.Test.YtjpejkfhkbaakaaGeoB
namespace Go.Ev
open Go
set_option linter.unnecessarySimpa false
set_option linter.unusedSimpArgs false
set_option linter.unusedVariables false
theorem or_high {a b k : Nat} (h : a < 2 ^ k) : a ||| b * 2 ^ k = b * 2 ^ k + a := by
  rw [Nat.or_comm, ← Nat.shiftLeft_eq, Nat.shiftLeft_add_eq_or_of_lt h]
theorem p8 (n : Nat) : 0 < 8 ^ n := Nat.pow_pos (by decide)
/-- A digit in its place: taken out, and another put in. -/
theorem dig_put {a b d k : Nat} (hb : b < 2 ^ k) (hd : d < 8) (hk : k + 3 ≤ 64) (ha : (a * 8 + 7) * 2 ^ k + b < 2 ^ 64) :
    (((a * 8 + 7) * 2 ^ k + b) &&& (2 ^ 64 - 1 - 7 * 2 ^ k)) ||| d * 2 ^ k = (a * 8 + d) * 2 ^ k + b := by
  have h7 : ∀ j, Nat.testBit 7 j = decide (j < 3) := fun j => by
    rcases (show j = 0 ∨ j = 1 ∨ j = 2 ∨ 3 ≤ j by omega) with rfl | rfl | rfl | hj
    · rfl
    · rfl
    · rfl
    · rw [Nat.testBit_lt_two_pow (Nat.lt_of_lt_of_le (by decide : 7 < 2 ^ 3) (Nat.pow_le_pow_right (by decide) hj))]; simp; omega
  have hd3 : ∀ j, 3 ≤ j → Nat.testBit d j = false := fun j hj => Nat.testBit_lt_two_pow (Nat.lt_of_lt_of_le (by omega : d < 2 ^ 3) (Nat.pow_le_pow_right (by decide) hj))
  have hs : 7 * 2 ^ k < 2 ^ 64 := by
    have : 2 ^ (k + 3) ≤ 2 ^ 64 := Nat.pow_le_pow_right (by decide) hk
    rw [Nat.pow_add] at this
    have := Nat.two_pow_pos k
    omega
  apply Nat.eq_of_testBit_eq
  intro j
  rw [Nat.testBit_or, Nat.testBit_and, show 2 ^ 64 - 1 - 7 * 2 ^ k = 2 ^ 64 - (7 * 2 ^ k + 1) by omega, Nat.testBit_two_pow_sub_succ hs]
  rw [Nat.mul_comm _ (2 ^ k), Nat.mul_comm 7, Nat.mul_comm d, Nat.mul_comm (a * 8 + d)]
  rw [Nat.testBit_two_pow_mul_add _ hb, Nat.testBit_two_pow_mul_add _ hb, Nat.testBit_two_pow_mul, Nat.testBit_two_pow_mul]
  by_cases hj : j < k
  · simp [hj, Nat.not_le.2 hj]
    intro hx
    omega
  · rw [if_neg hj, if_neg hj]
    have hkj : k ≤ j := by omega
    simp only [hkj, ge_iff_le, decide_true, Bool.true_and]
    rw [show a * 8 + 7 = 2 ^ 3 * a + 7 by omega, show a * 8 + d = 2 ^ 3 * a + d by omega, Nat.testBit_two_pow_mul_add a (show 7 < 2 ^ 3 by decide), Nat.testBit_two_pow_mul_add a (show d < 2 ^ 3 from hd), h7]
    by_cases h3 : j - k < 3
    · simp [h3]
    · rw [hd3 _ (by omega)]
      simp only [h3, if_false, decide_false, Bool.not_false, Bool.and_true, Bool.or_false]
      by_cases h64 : j < 64
      · simp [h64]
      · simp only [h64, decide_false, Bool.and_false]
        apply Eq.symm
        apply Nat.testBit_lt_two_pow
        have e : (a * 8 + 7) * 2 ^ k + b < 2 ^ j := Nat.lt_of_lt_of_le ha (Nat.pow_le_pow_right (by decide) (by omega))
        have e2 : 2 ^ j = 2 ^ (j - k - 3) * 8 * 2 ^ k := by rw [show (8 : Nat) = 2 ^ 3 from rfl, ← Nat.pow_add, ← Nat.pow_add]; congr 1; omega
        rw [e2] at e
        have : (a * 8 + 7) * 2 ^ k < 2 ^ (j - k - 3) * 8 * 2 ^ k := by omega
        have := Nat.lt_of_mul_lt_mul_right this
        omega
/-- A word whose digits from number i + 1 on are written. -/
def wordI (r : Nat) (z : Ei) (i : Nat) : Nat := ((8 ^ i - 1) * 8 ^ (r - i) + val (r - i) z) * 8 ^ (12 - r) + (8 ^ (12 - r) - 1)
theorem wordI_r (r : Nat) (z : Ei) (hr : r ≤ 12) : wordI r z r = 68719476735 := by
  unfold wordI
  rw [Nat.sub_self, val, Nat.pow_zero, Nat.mul_one, Nat.add_zero, Nat.sub_mul, ← Nat.pow_add, show r + (12 - r) = 12 by omega, Nat.one_mul]
  have : 8 ^ (12 - r) ≤ 8 ^ 12 := Nat.pow_le_pow_right (by decide) (by omega)
  have := p8 (12 - r)
  omega
theorem val_snoc (k : Nat) (z : Ei) : val (k + 1) z = dg (anc k z) * 8 ^ k + val k z := by
  induction k generalizing z with
  | zero => simp [val, anc]
  | succ k ih =>
    rw [val, ih (pr z), val, anc, Nat.pow_succ]
    generalize dg (anc k (pr z)) = e
    generalize 8 ^ k = p
    generalize val k (pr z) = q
    rw [Nat.add_mul, Nat.mul_assoc]
    omega
theorem wordI_low (r : Nat) (z : Ei) (i : Nat) (hi : i ≤ r) (hr : r ≤ 12) : val (r - i) z * 8 ^ (12 - r) + (8 ^ (12 - r) - 1) < 2 ^ (36 - 3 * i) := by
  have h1 := val_lt (r - i) z
  have e : 2 ^ (36 - 3 * i) = 8 ^ (r - i) * 8 ^ (12 - r) := by
    rw [← Nat.pow_add, show (8 : Nat) = 2 ^ 3 from rfl, ← Nat.pow_mul]; congr 1; omega
  rw [e]
  have hp := p8 (12 - r)
  generalize 8 ^ (12 - r) = p at *
  generalize val (r - i) z = v at *
  have h2 : (v + 1) * p ≤ 8 ^ (r - i) * p := Nat.mul_le_mul_right _ h1
  rw [Nat.add_mul] at h2
  omega
theorem wordI_eq (r : Nat) (z : Ei) (i : Nat) (hi : i ≤ r) (hr : r ≤ 12) : wordI r z i = (8 ^ i - 1) * 2 ^ (36 - 3 * i) + (val (r - i) z * 8 ^ (12 - r) + (8 ^ (12 - r) - 1)) := by
  have e : 2 ^ (36 - 3 * i) = 8 ^ (r - i) * 8 ^ (12 - r) := by
    rw [← Nat.pow_add, show (8 : Nat) = 2 ^ 3 from rfl, ← Nat.pow_mul]; congr 1; omega
  unfold wordI
  rw [e, Nat.add_mul, Nat.mul_assoc, Nat.add_assoc]
theorem wordI_lt (r : Nat) (z : Ei) (i : Nat) (hi : i ≤ r) (hr : r ≤ 12) : wordI r z i < 68719476736 := by
  rw [wordI_eq r z i hi hr]
  have h := wordI_low r z i hi hr
  have e : (8 : Nat) ^ i * 2 ^ (36 - 3 * i) = 68719476736 := by
    rw [show (8 : Nat) = 2 ^ 3 from rfl, ← Nat.pow_mul, ← Nat.pow_add, show 3 * i + (36 - 3 * i) = 36 by omega]
  rw [Nat.sub_mul, e, Nat.one_mul]
  have := Nat.two_pow_pos (36 - 3 * i)
  have : 2 ^ (36 - 3 * i) ≤ 2 ^ 36 := Nat.pow_le_pow_right (by decide) (by omega)
  omega
theorem wordI_step (r : Nat) (z : Ei) (i : Nat) (h1 : 1 ≤ i) (hi : i ≤ r) (hr : r ≤ 12) :
    ((wordI r z i &&& (2 ^ 64 - 1 - 7 * 2 ^ (36 - 3 * i))) ||| dg (anc (r - i) z) * 2 ^ (36 - 3 * i)) = wordI r z (i - 1) := by
  have hl := wordI_lt r z i hi hr
  have hlow := wordI_low r z i hi hr
  have hd := dg_lt (anc (r - i) z)
  have e8 : (8 : Nat) ^ i - 1 = (8 ^ (i - 1) - 1) * 8 + 7 := by
    have : (8 : Nat) ^ i = 8 ^ (i - 1) * 8 := by conv => lhs; rw [show i = i - 1 + 1 by omega, Nat.pow_succ]
    have := p8 (i - 1)
    omega
  have e0 := wordI_eq r z i hi hr
  rw [e8] at e0
  rw [e0] at hl ⊢
  rw [dig_put hlow (by omega) (by omega) (by omega), wordI_eq r z (i - 1) (by omega) hr, show r - (i - 1) = r - i + 1 by omega, val_snoc]
  have e9 : 2 ^ (36 - 3 * (i - 1)) = 8 * 2 ^ (36 - 3 * i) := by rw [show (8 : Nat) = 2 ^ 3 from rfl, ← Nat.pow_add]; congr 1; omega
  have e10 : 8 ^ (r - i) * 8 ^ (12 - r) = 2 ^ (36 - 3 * i) := by
    rw [← Nat.pow_add, show (8 : Nat) = 2 ^ 3 from rfl, ← Nat.pow_mul]; congr 1; omega
  rw [e9, ← e10]
  generalize 8 ^ (i - 1) - 1 = A
  generalize 8 ^ (r - i) = B
  generalize 8 ^ (12 - r) = C
  generalize dg (anc (r - i) z) = D
  generalize val (r - i) z = V
  simp only [Nat.add_mul, Nat.mul_assoc]
  omega
theorem word_or (r : Nat) (z : Ei) (hr : r ≤ 12) (A B : Nat) (hA : A < 1024) (hB : B < 1024) (hA' : (anc r z).a + 512 = A) (hB' : (anc r z).b + 512 = B) :
    ((((wordI r z 0 ||| 1152921504606846976) ||| r * 2 ^ 56) ||| A * 2 ^ 46) ||| B * 2 ^ 36) = word r z := by
  have hl := wordI_lt r z 0 (by omega) hr
  have e : word r z = hd36 r (anc r z) * 2 ^ 36 + wordI r z 0 := by
    unfold word wordI
    rw [Nat.add_mul, Nat.mul_assoc, ← Nat.pow_add, show r + (12 - r) = 12 by omega]
    simp
    omega
  rw [e]
  generalize wordI r z 0 = w at *
  rw [Nat.or_assoc, Nat.or_assoc, Nat.or_assoc, Nat.or_comm, Nat.or_assoc, Nat.or_assoc, Nat.or_assoc]
  rw [Nat.or_comm (B * 2 ^ 36), or_high (show w < 2 ^ 36 from hl), Nat.or_comm (A * 2 ^ 46), or_high (show B * 2 ^ 36 + w < 2 ^ 46 by omega), Nat.or_comm (r * 2 ^ 56), or_high (show A * 2 ^ 46 + (B * 2 ^ 36 + w) < 2 ^ 56 by omega),
    show (1152921504606846976 : Nat) = 1 * 2 ^ 60 from rfl, Nat.or_comm (1 * 2 ^ 60), or_high (show r * 2 ^ 56 + (A * 2 ^ 46 + (B * 2 ^ 36 + w)) < 2 ^ 60 by omega)]
  unfold hd36
  omega
end Go.Ev
