import Derived.Test.YtjagonphgaphaaaP1
/- Plain facts on groups of seven bits. -/
namespace Go.Ev
open Go
set_option linter.unnecessarySimpa false
set_option linter.unusedSimpArgs false
set_option linter.unusedVariables false
open Go.RowKit

/-- How many groups of seven bits. -/
def groups : Nat → Nat → Nat
  | 0, _ => 0
  | f + 1, m => if m = 0 then 0 else 1 + groups f (m / 128)
theorem groups_nought (f : Nat) : groups f 0 = 0 := by cases f <;> rfl
theorem groups_on {f m : Nat} (h : 0 < m) (hm : m < 128 ^ f) : ∃ f', f = f' + 1 ∧ groups f m = 1 + groups f' (m / 128) ∧ m / 128 < 128 ^ f' := by
  match f with
  | 0 => simp at hm; omega
  | f' + 1 =>
    refine ⟨f', rfl, by rw [groups, if_neg (by omega)], ?_⟩
    rw [Nat.pow_succ] at hm
    omega
theorem varF_groups : ∀ (f n : Nat), n < 128 ^ (f + 1) → (varF (f + 1) n).length = 1 + groups f (n / 128) := by
  intro f
  induction f with
  | zero =>
    intro n h
    rw [varF, if_pos (by simpa using h)]
    rfl
  | succ f ih =>
    intro n h
    rw [varF]
    split
    · have e : n / 128 = 0 := by omega
      rw [e, groups_nought]
      rfl
    · have h2 : n / 128 < 128 ^ (f + 1) := by rw [Nat.pow_succ] at h; omega
      rw [List.length_cons, ih _ h2, groups, if_neg (by omega)]
      omega
theorem varL_groups (n : Nat) (h : n < 18446744073709551616) : (varL n).length = 1 + groups 9 (n / 128) :=
  varF_groups 9 n (Nat.lt_of_lt_of_le h (by decide))
theorem or_128 : ∀ x : Fin 256, x.val ||| 128 = x.val % 128 + 128 := by decide +kernel
theorem byte_more2 (n : Nat) : bits BinOp.or IntKind.u8 ((n : Int) % 256) 128 = ((UInt8.ofNat (n % 128 + 128)).toNat : Int) := by
  have e : ((n : Int) % 256) = ((n % 256 : Nat) : Int) := by omega
  rw [e]
  have := u8_or_nat (n % 256) 128 (by omega) (by decide)
  rw [show ((128 : Nat) : Int) = 128 from rfl] at this
  rw [this]
  have h := or_128 ⟨n % 256, by omega⟩
  simp only at h
  rw [h]
  simp
  omega
theorem and_u64_u8 {b : Nat} (hb : b < 256) : bits BinOp.and IntKind.u64 (b : Int) 127 = IntKind.u64.wrap (bits BinOp.and IntKind.u8 (b : Int) 127) := by
  have h1 := u8_and_nat b 127 hb (by decide)
  have h2 := u64_and_nat b 127 (by omega) (by decide)
  rw [show ((127 : Nat) : Int) = 127 from rfl, nat_mask7] at h1 h2
  rw [h1, h2, IntKind.wrap_u64]
  omega
theorem take_bits_r {k m b : Nat} (hk : k ≤ 9) (hm : m < 2 ^ (7 * k)) (hb : b < 256) (h9 : k = 9 → b ≤ 1) :
    bits BinOp.or IntKind.u64 (m : Int) (IntKind.u64.wrap (bits BinOp.and IntKind.u64 (b : Int) 127 * 2 ^ (7 * k))) = ((m + b % 128 * 2 ^ (7 * k) : Nat) : Int) := by
  rw [and_u64_u8 hb]
  exact take_bits hk hm hb h9
theorem take_bits_r9 {m : Nat} (hm : m < 2 ^ (7 * 9)) :
    bits BinOp.or IntKind.u64 (m : Int) (IntKind.u64.wrap (bits BinOp.and IntKind.u64 1 127 * 9223372036854775808)) = ((m + 1 % 128 * 2 ^ (7 * 9) : Nat) : Int) := by
  have h := take_bits_r (k := 9) (b := 1) (by omega) hm (by omega) (by omega)
  rw [show (2 : Int) ^ (7 * 9) = 9223372036854775808 from by decide] at h
  exact h
theorem and7 {n : Nat} (h : n < 18446744073709551616) : bits BinOp.and IntKind.u64 (n : Int) 7 = (n : Int) % 8 := by
  have h2 := u64_and_nat n 7 h (by decide)
  rw [show ((7 : Nat) : Int) = 7 from rfl, nat_mask3] at h2
  rw [h2]
  omega
theorem oneL_none1 {l : List UInt8} {tag k : Nat} (ht : take l = (tag, k)) (h : k = 0 ∨ tag / 8 < 1 ∨ 1000 < tag / 8) : oneL l = none := by
  unfold oneL; rw [ht, if_pos h]
theorem oneL_none2 {l : List UInt8} {tag k n : Nat} (ht : take l = (tag, k)) (hn : take (l.drop k) = (n, 0)) : oneL l = none := by
  unfold oneL; rw [ht]; simp only [hn]; split <;> rfl
theorem oneL_none3 {l : List UInt8} {tag k : Nat} (ht : take l = (tag, k)) (h0 : tag % 8 ≠ 0) (h2 : tag % 8 ≠ 2) : oneL l = none := by
  unfold oneL; rw [ht]; simp only [if_neg h0, h2, false_and, if_false]; split <;> (try rfl); split <;> rfl
theorem oneL_none4 {l : List UInt8} {tag k n j : Nat} (ht : take l = (tag, k)) (hn : take (l.drop k) = (n, j)) (h0 : tag % 8 ≠ 0) (h2 : l.length - k - j < n) : oneL l = none := by
  unfold oneL; rw [ht]; simp only [hn, if_neg h0]
  rw [if_neg (show ¬ (tag % 8 = 2 ∧ n ≤ l.length - k - j) by omega)]
  split <;> (try rfl); split <;> rfl
theorem oneL_num {l : List UInt8} {tag k n j : Nat} (ht : take l = (tag, k)) (hn : take (l.drop k) = (n, j)) (h1 : ¬ (k = 0 ∨ tag / 8 < 1 ∨ 1000 < tag / 8)) (hj : j ≠ 0) (h0 : tag % 8 = 0) :
    oneL l = some ((tag / 8, 0, n, []), k + j) := by
  unfold oneL; rw [ht]; simp only [hn, if_neg h1, if_neg hj, if_pos h0]
theorem oneL_data {l : List UInt8} {tag k n j : Nat} (ht : take l = (tag, k)) (hn : take (l.drop k) = (n, j)) (h1 : ¬ (k = 0 ∨ tag / 8 < 1 ∨ 1000 < tag / 8)) (hj : j ≠ 0) (h0 : tag % 8 = 2) (h2 : n ≤ l.length - k - j) :
    oneL l = some ((tag / 8, 2, 0, (l.drop (k + j)).take n), k + j + n) := by
  unfold oneL; rw [ht]; simp only [hn, if_neg h1, if_neg hj, h0]
  rw [if_neg (by omega), if_pos ⟨trivial, h2⟩]
end Go.Ev
