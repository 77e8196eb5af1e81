/- Plain facts on fields that are cut, or of other kinds. -/
import Derived.Test.YtjagonphgaphaaaRefNum
namespace Go.Proofs.Ytjagonphgaphaaa
open Go.RowKit
set_option linter.unusedVariables false

theorem varL_drop (n : Nat) (rest : List UInt8) : (varL n ++ rest).drop (varL n).length = rest := by simp
/-- What one field is behind its tag. -/
theorem oneL_tag (t : Nat) (rest : List UInt8) (ht : t < 18446744073709551616) (h1 : 1 ≤ t / 8) (h2 : t / 8 ≤ 1000) (n j : Nat) (hn : take rest = (n, j)) :
    oneL (varL t ++ rest) = if j = 0 then none else if t % 8 = 0 then some ((t / 8, 0, n, []), (varL t).length + j)
      else if t % 8 = 2 ∧ n ≤ rest.length - j then some ((t / 8, 2, 0, (rest.drop j).take n), (varL t).length + j + n) else none := by
  have hp := varL_pos t
  unfold oneL
  rw [take_var t rest ht]
  simp only [varL_drop, hn]
  rw [if_neg (by omega)]
  split
  · rfl
  · split
    · rfl
    · have e1 : (varL t ++ rest).length - (varL t).length - j = rest.length - j := by simp
      have e2 : (varL t ++ rest).drop ((varL t).length + j) = rest.drop j := by rw [← List.drop_drop, varL_drop]
      rw [e1, e2]
theorem readL_none {l : List UInt8} (h : 0 < l.length) (h1 : oneL l = none) : readL l = none := by
  unfold readL
  exact readF_no h h1
theorem readL_all {l : List UInt8} {x : Fld} {k : Nat} (h1 : oneL l = some (x, k)) (hk : l.length ≤ k) : readL l = some [x] := by
  obtain ⟨a, b⟩ := oneL_bound h1
  obtain ⟨f', hf, e⟩ := readF_on (by omega) (Nat.le_refl _) h1
  unfold readL
  rw [e, List.drop_eq_nil_of_le hk, readF_nil]
  rfl
theorem take_0 : take [0] = (0, 1) := by decide
theorem readL_var0 (f k : Nat) (h1 : 1 ≤ f) (h2 : f ≤ 1000) (hk : k < 8) : (readL (varL (8 * f + k) ++ [0])).isSome = (decide (k = 0) || decide (k = 2)) := by
  have h := oneL_tag (8 * f + k) [0] (by omega) (by omega) (by omega) 0 1 take_0
  rw [if_neg (by omega), show (8 * f + k) % 8 = k from by omega] at h
  by_cases h0 : k = 0
  · rw [if_pos h0] at h
    rw [readL_all h (by simp)]
    simp [h0]
  · rw [if_neg h0] at h
    by_cases hk2 : k = 2
    · rw [if_pos ⟨hk2, by simp⟩] at h
      rw [readL_all h (by simp)]
      simp [hk2]
    · rw [if_neg (by simp [hk2])] at h
      rw [readL_none (by simp) h]
      simp [h0, hk2]
theorem readL_8008 : readL (varL 8008 ++ [5]) = none := by decide
theorem readL_cut (f : Int) (x : List UInt8) (g0 : 1 ≤ f) (g1 : f ≤ 1000) (hx : 0 < x.length) (hx2 : x.length < 1048576) : readL ((bytesL f x).take ((bytesL f x).length - 1)) = none := by
  have hp := varL_pos (8 * f + 2).toNat
  have hp2 := varL_pos x.length
  have e1 : (bytesL f x).take ((bytesL f x).length - 1) = varL (8 * f + 2).toNat ++ (varL x.length ++ x.take (x.length - 1)) := by
    unfold bytesL
    rw [List.append_assoc, List.take_append, List.take_append]
    simp only [List.length_append]
    rw [List.take_of_length_le (by omega), List.take_of_length_le (by omega), show (varL (8 * f + 2).toNat).length + ((varL x.length).length + x.length) - 1 - (varL (8 * f + 2).toNat).length - (varL x.length).length = x.length - 1 from by omega]
  rw [e1]
  refine readL_none (by simp; omega) ?_
  rw [oneL_tag _ _ (by omega) (by omega) (by omega) x.length (varL x.length).length (take_var _ _ (by omega)), if_neg (by omega), if_neg (by omega), if_neg]
  simp
  omega
def longL (c : UInt8) : List UInt8 := [255, 255, 255, 255, 255, 255, 255, 255, 255, c]
theorem varsL_long1 : varsL (longL 1) = some [18446744073709551615] := by decide
theorem varsL_long : ∀ c : Fin 256, c.val ≠ 1 → varsL (longL (UInt8.ofNat c.val)) = none := by decide +kernel
theorem i64_and_mask (z : Int) (k : Nat) (m : Nat) (hk : k < 63) (hm : m = 2 ^ k - 1) (h1 : -9223372036854775808 ≤ z) (h2 : z ≤ 9223372036854775807) :
    bits BinOp.and IntKind.i64 z (m : Int) = z % (2 ^ k : Nat) := by
  have hp : 2 ^ k ≤ 2 ^ 62 := Nat.pow_le_pow_right (by decide) (by omega)
  have hp0 : 0 < 2 ^ k := Nat.two_pow_pos k
  have hml : m < 2 ^ 64 := by omega
  show IntKind.i64.wrap ((BitVec.ofInt 64 z &&& BitVec.ofInt 64 (m : Int)).toNat : Int) = _
  have e1 : (BitVec.ofInt 64 (m : Int)).toNat = m := by
    rw [BitVec.ofInt_natCast, BitVec.toNat_ofNat]; exact Nat.mod_eq_of_lt hml
  have e2 : (BitVec.ofInt 64 z).toNat = (z % 18446744073709551616).toNat := by rw [BitVec.toNat_ofInt]; rfl
  rw [BitVec.toNat_and, e1, e2, hm, Nat.and_two_pow_sub_one_eq_mod, IntKind.wrap_i64]
  have hd : (2 ^ k : Nat) ∣ 18446744073709551616 := ⟨2 ^ (64 - k), by rw [← Nat.pow_add, show k + (64 - k) = 64 from by omega]⟩
  have e3 : (((z % 18446744073709551616).toNat % 2 ^ k : Nat) : Int) = z % (2 ^ k : Nat) := by
    rw [Int.natCast_emod]
    rw [show (((z % 18446744073709551616).toNat : Nat) : Int) = z % 18446744073709551616 from by omega]
    exact Int.emod_emod_of_dvd z (Int.natCast_dvd_natCast.2 hd)
  rw [e3]
  have h3 := Int.emod_nonneg z (show ((2 ^ k : Nat) : Int) ≠ 0 by omega)
  have h4 := Int.emod_lt_of_pos z (show (0 : Int) < ((2 ^ k : Nat) : Int) by omega)
  omega
theorem and511 {z : Int} (h1 : -9223372036854775808 ≤ z) (h2 : z ≤ 9223372036854775807) : bits BinOp.and IntKind.i64 z 511 = z % 512 := i64_and_mask z 9 511 (by omega) (by decide) h1 h2
theorem and255 {z : Int} (h1 : -9223372036854775808 ≤ z) (h2 : z ≤ 9223372036854775807) : bits BinOp.and IntKind.i64 z 255 = z % 256 := i64_and_mask z 8 255 (by omega) (by decide) h1 h2
theorem and65535 {z : Int} (h1 : -9223372036854775808 ≤ z) (h2 : z ≤ 9223372036854775807) : bits BinOp.and IntKind.i64 z 65535 = z % 65536 := i64_and_mask z 16 65535 (by omega) (by decide) h1 h2
theorem and1023 {z : Int} (h1 : -9223372036854775808 ≤ z) (h2 : z ≤ 9223372036854775807) : bits BinOp.and IntKind.i64 z 1023 = z % 1024 := i64_and_mask z 10 1023 (by omega) (by decide) h1 h2
theorem andu7 {z : Int} (h1 : 0 ≤ z) (h2 : z < 256) : bits BinOp.and IntKind.u8 z 7 = z % 8 := by
  have := u8_and z 7 h1 h2 (by decide) (by decide)
  rw [show (7 : Int).toNat = 7 from rfl, nat_mask3] at this
  rw [this]
  omega
theorem errN_var0 (f k : Int) (h1 : 1 ≤ f) (h2 : f ≤ 1000) (hk : 0 ≤ k) (hk2 : k < 8) : errN (readL ([] ++ varL (8 * f + k).toNat ++ [0])) = if k = 0 ∨ k = 2 then 0 else 10 := by
  have h := readL_var0 f.toNat k.toNat (by omega) (by omega) (by omega)
  rw [show 8 * f.toNat + k.toNat = (8 * f + k).toNat from by omega] at h
  unfold errN
  rw [List.nil_append, h]
  by_cases a : k = 0
  · simp [a]
  · by_cases b : k = 2
    · simp [b]
    · have e1 : ¬ k.toNat = 0 := by omega
      have e2 : ¬ k.toNat = 2 := by omega
      simp [a, b, e1, e2]
end Go.Proofs.Ytjagonphgaphaaa
