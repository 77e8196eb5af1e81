import Derived.Test.YtjpejkfhkbaakaaEvSet
namespace Go.Ev
open Go
set_option linter.unnecessarySimpa false
set_option linter.unusedSimpArgs false
set_option linter.unusedVariables false
def in64 (x : Int) : Prop := -9223372036854775808 ≤ x ∧ x ≤ 9223372036854775807
instance (x : Int) : Decidable (in64 x) := inferInstanceAs (Decidable (_ ∧ _))
theorem wrap_id {x : Int} (h : -9223372036854775808 ≤ x ∧ x ≤ 9223372036854775807) : IntKind.i64.wrap x = x := by rw [IntKind.wrap_i64]; omega
theorem wrap_in (x : Int) : in64 (IntKind.i64.wrap x) := by rw [IntKind.wrap_i64]; unfold in64; omega
theorem and_mask (x m : Int) (n : Nat) (hn : n ≤ 62) (hm : m = 2 ^ n - 1) : IntKind.i64.wrap ((BitVec.ofInt IntKind.i64.bits x &&& BitVec.ofInt IntKind.i64.bits m).toNat) = x % 2 ^ n := by
  have hp : 2 ^ n ≤ 2 ^ 62 := Nat.pow_le_pow_right (by decide) hn
  have hq : 1 ≤ 2 ^ n := Nat.one_le_two_pow
  have e3 : ((2 ^ n : Nat) : Int) = (2 : Int) ^ n := by simp
  have e : (BitVec.ofInt 64 m).toNat = 2 ^ n - 1 := by
    rw [BitVec.toNat_ofInt, hm, ← e3]
    omega
  have hd : ((2 ^ 64 : Nat) : Int) % (2 : Int) ^ n = 0 := by
    rw [show (64 : Nat) = (64 - n) + n by omega, Nat.pow_add]
    simp
  have hmod : (x % ((2 ^ 64 : Nat) : Int)).toNat % 2 ^ n = (x % (2 : Int) ^ n).toNat := by
    have h1 : 0 ≤ x % ((2 ^ 64 : Nat) : Int) := Int.emod_nonneg _ (by decide)
    have h2 : 0 ≤ x % (2 : Int) ^ n := Int.emod_nonneg _ (by omega)
    apply Int.ofNat.inj
    show (((x % ((2 ^ 64 : Nat) : Int)).toNat % 2 ^ n : Nat) : Int) = ((x % (2 : Int) ^ n).toNat : Int)
    rw [Int.natCast_emod, Int.toNat_of_nonneg h1, Int.toNat_of_nonneg h2, e3, Int.emod_emod_of_dvd _ (Int.dvd_of_emod_eq_zero hd)]
  have h2 : 0 ≤ x % (2 : Int) ^ n := Int.emod_nonneg _ (by omega)
  have h3 : x % (2 : Int) ^ n < 2 ^ n := Int.emod_lt_of_pos _ (by omega)
  rw [show IntKind.i64.bits = 64 from rfl, BitVec.toNat_and, e, Nat.and_two_pow_sub_one_eq_mod, BitVec.toNat_ofInt, hmod, Int.toNat_of_nonneg h2]
  exact wrap_id (by omega)
theorem bl_iff {a b : Bool} (h : a = true ↔ b = true) : AV.r (.v (.bool a)) = bl b := by
  have : a = b := Bool.eq_iff_iff.2 h
  rw [this]
/-- A text of these bytes. -/
def bstr (l : List UInt8) : ByteArray := ⟨l.toArray⟩
theorem bstr_size (l : List UInt8) : (bstr l).size = l.length := by simp [bstr, ByteArray.size]
theorem bstr_app (l r : List UInt8) : bstr l ++ bstr r = bstr (l ++ r) := by
  apply ByteArray.ext
  simp [bstr]
theorem bstr_sub (l : List UInt8) (a b : Nat) (hb : b ≤ l.length) : (bstr l).extract a b = bstr ((l.take b).drop a) := by
  apply ByteArray.ext
  simp [bstr, List.extract_eq_take_drop, List.drop_take]
theorem bstr_of (s : ByteArray) : s = bstr s.data.toList := by
  apply ByteArray.ext
  simp [bstr]
theorem bstr_inj {l r : List UInt8} (h : bstr l = bstr r) : l = r := by
  have := congrArg ByteArray.data h
  simpa [bstr] using this
theorem bstr_list (l : List UInt8) : (bstr l).toList = l := by rw [ByteArray.toList_eq]; simp [bstr]
theorem bstr_data (l : List UInt8) : (bstr l).data.toList = l := by simp [bstr]
theorem maxLen_big : 4611686018427387904 ≤ maxLen := by decide
/-- A byte in a row. -/
def by8 (c : UInt8) : RV := .v (.int .u8 c.toNat)
abbrev bys (l : List UInt8) : List RV := l.map by8
/-- Bytes that are read. -/
abbrev sb (l : List UInt8) : AV := .r (.sl 1 (bys l))
/-- A row of bytes of one's own. -/
abbrev rowB (l : List UInt8) : Ob := .row 1 (.v (.int .u8 0)) true true (bys l)
theorem good_by8 (c : UInt8) : RV.good 1 (by8 c) = true := rfl
theorem cells_by8 (c : UInt8) : RV.cells (by8 c) = [by8 c] := rfl
theorem one_by8 (c : UInt8) : RV.one (by8 c) = true := rfl
theorem take_map_len {α β : Type} (f : α → β) (l : List α) : List.take l.length (List.map f l) = List.map f l := List.take_of_length_le (by simp)
attribute [push_cast high] good_by8 cells_by8 one_by8 take_map_len
theorem by8_isByte (c : UInt8) : isByte (by8 c) = true := by
  have := c.toNat_lt
  simp [isByte, by8]
  omega
theorem bys_isByte (l : List UInt8) : (bys l).all isByte = true := by
  rw [List.all_eq_true]
  intro x hx
  obtain ⟨c, _, rfl⟩ := List.mem_map.1 hx
  exact by8_isByte c
theorem byteOf_by8 (c : UInt8) : byteOf (by8 c) = c := by simp [byteOf, by8]
theorem bys_back (l : List UInt8) : (bys l).map byteOf = l := by
  rw [List.map_map]
  have : byteOf ∘ by8 = id := funext byteOf_by8
  rw [this, List.map_id]
theorem bstr_of_bys (l : List UInt8) : (⟨((bys l).map byteOf).toArray⟩ : ByteArray) = bstr l := by rw [bys_back]; rfl
theorem and_mask_u (x m : Int) (n : Nat) (hn : n ≤ 63) (hm : m = 2 ^ n - 1) (h0 : 0 ≤ x) (h1 : x < 18446744073709551616) : IntKind.u64.wrap ((BitVec.ofInt IntKind.u64.bits x &&& BitVec.ofInt IntKind.u64.bits m).toNat) = x % 2 ^ n := by
  have hp : 2 ^ n ≤ 2 ^ 63 := Nat.pow_le_pow_right (by decide) hn
  have hq : 1 ≤ 2 ^ n := Nat.one_le_two_pow
  have e3 : ((2 ^ n : Nat) : Int) = (2 : Int) ^ n := by simp
  have e : (BitVec.ofInt 64 m).toNat = 2 ^ n - 1 := by
    rw [BitVec.toNat_ofInt, hm, ← e3]
    omega
  have ex : (BitVec.ofInt 64 x).toNat = x.toNat := by rw [BitVec.toNat_ofInt]; omega
  rw [show IntKind.u64.bits = 64 from rfl, BitVec.toNat_and, e, ex, Nat.and_two_pow_sub_one_eq_mod, IntKind.wrap_u64]
  have h2 : ((x.toNat % 2 ^ n : Nat) : Int) = x % 2 ^ n := by rw [Int.natCast_emod, Int.toNat_of_nonneg h0, e3]
  have h3 : 0 ≤ x % (2 : Int) ^ n := Int.emod_nonneg _ (by omega)
  have h4 : x % (2 : Int) ^ n < 2 ^ n := Int.emod_lt_of_pos _ (by omega)
  rw [h2]
  omega
theorem shr_u (x : Int) (k : Nat) (hk : k ≤ 63) : x.fdiv (2 ^ min k IntKind.u64.bits) = x / 2 ^ k := by
  rw [show min k IntKind.u64.bits = k from Nat.min_eq_left (by simp [IntKind.bits]; omega)]
  exact Int.fdiv_eq_ediv_of_nonneg _ (Int.le_of_lt (Int.pow_pos (by decide)))
theorem shr_i (x : Int) (k : Nat) (hk : k ≤ 63) : x.fdiv (2 ^ min k IntKind.i64.bits) = x / 2 ^ k := by
  rw [show min k IntKind.i64.bits = k from Nat.min_eq_left (by simp [IntKind.bits]; omega)]
  exact Int.fdiv_eq_ediv_of_nonneg _ (Int.le_of_lt (Int.pow_pos (by decide)))
end Go.Ev
