/- Plain arithmetic for the layer of fields as bytes: no program in sight. -/
import Derived.WalkKit
namespace Go.Ev
open Go
set_option linter.unnecessarySimpa false
set_option linter.unusedSimpArgs false
set_option linter.unusedVariables false
open Go.RowKit

def zig (n : Int) : Int := if 0 ≤ n then 2 * n else -2 * n - 1

theorem zig_bounds {n : Int} (h1 : -9223372036854775808 ≤ n) (h2 : n ≤ 9223372036854775807) : 0 ≤ zig n ∧ zig n < 18446744073709551616 := by
  unfold zig; split <;> omega
theorem zig_pos {n : Int} (h : 0 ≤ n) : zig n = 2 * n := if_pos h
theorem zig_neg {n : Int} (h : n < 0) : zig n = -2 * n - 1 := if_neg (by omega)
theorem zig_odd {n : Int} (h1 : -9223372036854775808 ≤ n) (h2 : n ≤ 9223372036854775807) :
    (bits BinOp.and IntKind.u64 (zig n) 1 == IntKind.u64.wrap n / 9223372036854775808) = true := by
  obtain ⟨h3, h4⟩ := zig_bounds h1 h2
  rw [beq_iff_eq, u64_and _ _ h3 h4 (by decide) (by decide), IntKind.wrap_u64]
  rw [show (1 : Int).toNat = 1 from rfl, nat_mask1]
  unfold zig at *
  split <;> omega

theorem zig_odd0 {n : Int} (h1 : 0 ≤ n) (h2 : n ≤ 9223372036854775807) : (bits BinOp.and IntKind.u64 (zig n) 1 == n / 9223372036854775808) = true := by
  have h := zig_odd (n := n) (by omega) h2
  rw [IntKind.wrap_u64, Int.emod_eq_of_lt (by omega) (by omega)] at h
  exact h

theorem neg_back {n : Int} (h1 : -9223372036854775808 ≤ n) (h2 : n < 0) : wrap64 (wrap64 (-n) - 1) = -n - 1 := by
  unfold wrap64; omega

theorem xor_ones (x : BitVec 64) : (x ^^^ BitVec.ofInt 64 18446744073709551615).toNat = 18446744073709551615 - x.toNat := by
  have h : BitVec.ofInt 64 18446744073709551615 = BitVec.allOnes 64 := by decide
  rw [h, BitVec.xor_allOnes, BitVec.toNat_not]

theorem zig_bits (n : Int) (h1 : -9223372036854775808 ≤ n) (h2 : n ≤ 9223372036854775807) :
    bits BinOp.xor IntKind.u64 (IntKind.u64.wrap (wrap64 (n * 2))) (IntKind.u64.wrap (n / 9223372036854775808)) = zig n := by
  have e : IntKind.u64.wrap (wrap64 (n * 2)) = (n * 2) % 18446744073709551616 := by
    rw [IntKind.wrap_u64]; unfold wrap64; omega
  rw [e]
  unfold zig
  by_cases h : 0 ≤ n
  · have e2 : n / 9223372036854775808 = 0 := by omega
    rw [e2, if_pos h, u64_xor _ _ (by omega) (by omega) (by decide) (by decide)]
    have e3 : (IntKind.u64.wrap 0).toNat = 0 := by decide
    rw [e3, Nat.xor_zero]
    omega
  · have e2 : n / 9223372036854775808 = -1 := by omega
    have e3 : IntKind.u64.wrap (-1) = 18446744073709551615 := by decide
    rw [e2, if_neg h, e3]
    show IntKind.u64.wrap ((BitVec.ofInt 64 _ ^^^ BitVec.ofInt 64 18446744073709551615).toNat : Int) = _
    rw [xor_ones, BitVec.toNat_ofInt, IntKind.wrap_u64]
    omega


/-- The groups of seven bits of a number, at most f of them. -/
def varF : Nat → Nat → List UInt8
  | 0, _ => []
  | f + 1, n => if n < 128 then [UInt8.ofNat n] else UInt8.ofNat (n % 128 + 128) :: varF f (n / 128)
def varL (n : Nat) : List UInt8 := varF 10 n

theorem varF_len (f : Nat) : ∀ n, (varF f n).length ≤ f := by
  induction f with
  | zero => intro n; exact Nat.le_refl _
  | succ f ih =>
    intro n
    rw [varF]
    split
    · simp
    · have := ih (n / 128); simp; omega
theorem varL_len (n : Nat) : (varL n).length ≤ 10 := varF_len 10 n

theorem byte_more (n : Nat) (h : n < 18446744073709551616) :
    bits BinOp.or IntKind.u8 (bits BinOp.and IntKind.u64 (n : Int) 127 % 256) 128 = ((UInt8.ofNat (n % 128 + 128)).toNat : Int) := by
  have e1 : bits BinOp.and IntKind.u64 (n : Int) 127 = ((n % 128 : Nat) : Int) := by
    have := u64_and_nat n 127 h (by decide)
    rw [nat_mask7] at this
    exact this
  have e2 : ((n % 128 : Nat) : Int) % 256 = ((n % 128 : Nat) : Int) := by omega
  rw [e1, e2]
  have := u8_or_nat (n % 128) 128 (by omega) (by decide)
  rw [show ((128 : Nat) : Int) = 128 from rfl] at this
  rw [this, Nat.or_comm, nat_join 7 128 (n % 128) (by decide) (by omega)]
  simp
  omega
theorem byte_last (n : Nat) (h : n ≤ 127) : (n : Int) = ((UInt8.ofNat n).toNat : Int) := by
  simp
  omega

theorem varF_big {f n : Nat} (h : 127 < n) (hf : n < 128 ^ f) : ∃ f', f = f' + 1 ∧ 1 ≤ f' ∧ n / 128 < 128 ^ f' ∧ varF f n = UInt8.ofNat (n % 128 + 128) :: varF f' (n / 128) := by
  match f with
  | 0 => simp at hf; omega
  | f' + 1 =>
    refine ⟨f', rfl, ?_, ?_, ?_⟩
    · match f' with
      | 0 => simp at hf; omega
      | k + 1 => omega
    · rw [Nat.pow_succ] at hf
      omega
    · rw [varF, if_neg (by omega)]
theorem varF_small {f n : Nat} (h : n ≤ 127) (hf : 1 ≤ f) : varF f n = [UInt8.ofNat n] := by
  match f with
  | f' + 1 => rw [varF, if_pos (by omega)]

/-- The number at the front of bytes and how many bytes it has; (0, 0): none. i groups are read, they made n. -/
def takeF : Nat → Nat → List UInt8 → Nat × Nat
  | _, _, [] => (0, 0)
  | i, n, c :: t =>
    if (i = 9 ∧ 1 < c.toNat) ∨ (0 < i ∧ c.toNat = 0) then (0, 0)
    else if c.toNat < 128 then (n + c.toNat % 128 * 2 ^ (7 * i), i + 1) else takeF (i + 1) (n + c.toNat % 128 * 2 ^ (7 * i)) t
def take (l : List UInt8) : Nat × Nat := takeF 0 0 l

theorem takeF_none (k m : Nat) (bs : List UInt8) (h : bs.length ≤ k) : takeF k m (bs.drop k) = (0, 0) := by
  rw [List.drop_eq_nil_of_le h]; rfl
theorem takeF_no {k m b : Nat} {bs : List UInt8} (h : k < bs.length) (hb : bs[k].toNat = b) (hc : (k = 9 ∧ 1 < b) ∨ (0 < k ∧ b = 0)) : takeF k m (bs.drop k) = (0, 0) := by
  rw [List.drop_eq_getElem_cons h, takeF, hb, if_pos hc]
theorem takeF_end {k m b : Nat} {bs : List UInt8} (h : k < bs.length) (hb : bs[k].toNat = b) (hc : ¬ ((k = 9 ∧ 1 < b) ∨ (0 < k ∧ b = 0))) (h2 : b < 128) :
    takeF k m (bs.drop k) = (m + b % 128 * 2 ^ (7 * k), k + 1) := by
  rw [List.drop_eq_getElem_cons h, takeF, hb, if_neg hc, if_pos h2]
theorem takeF_on {k m b : Nat} {bs : List UInt8} (h : k < bs.length) (hb : bs[k].toNat = b) (hc : ¬ ((k = 9 ∧ 1 < b) ∨ (0 < k ∧ b = 0))) (h2 : ¬ b < 128) :
    takeF k m (bs.drop k) = takeF (k + 1) (m + b % 128 * 2 ^ (7 * k)) (bs.drop (k + 1)) := by
  rw [List.drop_eq_getElem_cons h, takeF, hb, if_neg hc, if_neg h2]
theorem take_bits {k m b : Nat} (hk : k ≤ 9) (hm : m < 2 ^ (7 * k)) (hb : b < 256) (h9 : k = 9 → b ≤ 1) :
    bits BinOp.or IntKind.u64 (m : Int) (IntKind.u64.wrap (IntKind.u64.wrap (bits BinOp.and IntKind.u8 (b : Int) 127) * 2 ^ (7 * k))) = ((m + b % 128 * 2 ^ (7 * k) : Nat) : Int) := by
  have e1 : bits BinOp.and IntKind.u8 (b : Int) 127 = ((b % 128 : Nat) : Int) := by
    have := u8_and_nat b 127 hb (by decide)
    rw [nat_mask7] at this
    exact this
  have hp : 2 ^ (7 * k) ≤ 2 ^ 63 := Nat.pow_le_pow_right (by decide) (by omega)
  have hq : b % 128 * 2 ^ (7 * k) ≤ 2 ^ 63 := by
    by_cases h : k = 9
    · have := h9 h
      exact Nat.le_trans (Nat.mul_le_mul_right _ (show b % 128 ≤ 1 by omega)) (by omega)
    · have h8 : 2 ^ (7 * k) ≤ 2 ^ 56 := Nat.pow_le_pow_right (by decide) (by omega)
      exact Nat.le_trans (Nat.mul_le_mul (show b % 128 ≤ 127 by omega) h8) (by decide)
  have e2 : IntKind.u64.wrap ((b % 128 : Nat) : Int) = ((b % 128 : Nat) : Int) := by rw [IntKind.wrap_u64]; omega
  have e3 : IntKind.u64.wrap (((b % 128 : Nat) : Int) * 2 ^ (7 * k)) = ((b % 128 * 2 ^ (7 * k) : Nat) : Int) := by
    have e4 : ((b % 128 : Nat) : Int) * 2 ^ (7 * k) = ((b % 128 * 2 ^ (7 * k) : Nat) : Int) := by simp
    rw [e4, IntKind.wrap_u64]
    generalize b % 128 * 2 ^ (7 * k) = x at *
    omega
  rw [e1, e2, e3, u64_or_nat _ _ (by omega) (by omega)]
  congr 1
  rw [Nat.or_comm, nat_join (7 * k) _ _ (Nat.mul_mod_left _ _) hm, Nat.add_comm]
theorem take_bits9 {m : Nat} (hm : m < 2 ^ (7 * 9)) :
    bits BinOp.or IntKind.u64 (m : Int) (IntKind.u64.wrap (IntKind.u64.wrap (bits BinOp.and IntKind.u8 1 127) * 9223372036854775808)) = ((m + 1 % 128 * 2 ^ (7 * 9) : Nat) : Int) := by
  have h := take_bits (k := 9) (b := 1) (by omega) hm (by omega) (by omega)
  rw [show (2 : Int) ^ (7 * 9) = 9223372036854775808 from by decide] at h
  exact h
theorem take_less {k m b : Nat} (hm : m < 2 ^ (7 * k)) : m + b % 128 * 2 ^ (7 * k) < 2 ^ (7 * (k + 1)) := by
  have h : b % 128 * 2 ^ (7 * k) ≤ 127 * 2 ^ (7 * k) := Nat.mul_le_mul_right _ (by omega)
  rw [show 7 * (k + 1) = 7 * k + 7 from by omega, Nat.pow_add]
  omega

theorem takeF_bound : ∀ (l : List UInt8) (i n : Nat), i ≤ 9 → n < 2 ^ (7 * i) → (takeF i n l).1 < 18446744073709551616 ∧ (takeF i n l).2 ≤ 10 ∧ ((takeF i n l).2 = 0 ∨ (takeF i n l).2 ≤ i + l.length) := by
  intro l
  induction l with
  | nil => intro i n _ _; simp [takeF]
  | cons c t ih =>
    intro i n hi hn
    have hc := c.toNat_lt
    rw [takeF]
    split
    · simp
    · rename_i h1
      split
      · rename_i h2
        refine ⟨?_, by simp; omega, by simp⟩
        have := take_less (k := i) (m := n) (b := c.toNat) hn
        by_cases h9 : i = 9
        · subst h9
          have h3 : c.toNat ≤ 1 := by omega
          have h4 : c.toNat % 128 * 2 ^ (7 * 9) ≤ 1 * 2 ^ (7 * 9) := Nat.mul_le_mul_right _ (by omega)
          simp only at h4 ⊢
          omega
        · have : 2 ^ (7 * (i + 1)) ≤ 2 ^ 63 := Nat.pow_le_pow_right (by decide) (by omega)
          simp only
          omega
      · rename_i h2
        have h9 : i ≠ 9 := by omega
        obtain ⟨a, b, d⟩ := ih (i + 1) _ (by omega) (take_less (k := i) (m := n) (b := c.toNat) hn)
        refine ⟨a, b, ?_⟩
        simp only [List.length_cons]
        omega
theorem take_bound (l : List UInt8) : (take l).1 < 18446744073709551616 ∧ (take l).2 ≤ 10 ∧ (take l).2 ≤ l.length := by
  obtain ⟨a, b, c⟩ := takeF_bound l 0 0 (by omega) (by decide)
  unfold take
  exact ⟨a, b, by omega⟩

/-- A field: its number, its kind, its value, its bytes. -/
abbrev Fld := Nat × Nat × Nat × List UInt8
def oneL (l : List UInt8) : Option (Fld × Nat) :=
  if (take l).2 = 0 ∨ (take l).1 / 8 < 1 ∨ 1000 < (take l).1 / 8 then none
  else if (take (l.drop (take l).2)).2 = 0 then none
  else if (take l).1 % 8 = 0 then some (((take l).1 / 8, 0, (take (l.drop (take l).2)).1, []), (take l).2 + (take (l.drop (take l).2)).2)
  else if (take l).1 % 8 = 2 ∧ (take (l.drop (take l).2)).1 ≤ l.length - (take l).2 - (take (l.drop (take l).2)).2 then
    some (((take l).1 / 8, 2, 0, (l.drop ((take l).2 + (take (l.drop (take l).2)).2)).take (take (l.drop (take l).2)).1), (take l).2 + (take (l.drop (take l).2)).2 + (take (l.drop (take l).2)).1)
  else none
def varsF : Nat → List UInt8 → Option (List Nat)
  | _, [] => some []
  | 0, _ :: _ => none
  | f + 1, c :: l => if (take (c :: l)).2 = 0 then none else (varsF f ((c :: l).drop (take (c :: l)).2)).map ((take (c :: l)).1 :: ·)
def varsL (l : List UInt8) : Option (List Nat) := varsF l.length l
def readF : Nat → List UInt8 → Option (List Fld)
  | _, [] => some []
  | 0, _ :: _ => none
  | f + 1, c :: l => match oneL (c :: l) with
    | none => none
    | some (x, k) => (readF f ((c :: l).drop k)).map (x :: ·)
def readL (l : List UInt8) : Option (List Fld) := readF l.length l

theorem varsF_nil (f : Nat) : varsF f [] = some [] := by cases f <;> rfl
theorem varsF_no {f : Nat} {l : List UInt8} (h : 0 < l.length) (h2 : (take l).2 = 0) : varsF f l = none := by
  match f, l, h with
  | 0, c :: l, _ => rfl
  | f + 1, c :: l, _ => rw [varsF, if_pos h2]
theorem varsF_on {f n k : Nat} {l : List UInt8} (h : 0 < l.length) (hf : l.length ≤ f) (h1 : take l = (n, k)) (h2 : k ≠ 0) : ∃ f', f = f' + 1 ∧ varsF f l = (varsF f' (l.drop k)).map (n :: ·) := by
  match f, l, h with
  | 0, c :: l, _ => simp at hf
  | f + 1, c :: l, _ => exact ⟨f, rfl, by rw [varsF, h1, if_neg h2]⟩
theorem readF_nil (f : Nat) : readF f [] = some [] := by cases f <;> rfl
theorem readF_no {f : Nat} {l : List UInt8} (h : 0 < l.length) (h2 : oneL l = none) : readF f l = none := by
  match f, l, h with
  | 0, c :: l, _ => rfl
  | f + 1, c :: l, _ => rw [readF, h2]
theorem readF_on {f k : Nat} {x : Fld} {l : List UInt8} (h : 0 < l.length) (hf : l.length ≤ f) (h1 : oneL l = some (x, k)) : ∃ f', f = f' + 1 ∧ readF f l = (readF f' (l.drop k)).map (x :: ·) := by
  match f, l, h with
  | 0, c :: l, _ => simp at hf
  | f + 1, c :: l, _ => exact ⟨f, rfl, by rw [readF, h1]⟩
theorem oneL_bound {l : List UInt8} {x : Fld} {k : Nat} (h : oneL l = some (x, k)) : 2 ≤ k ∧ k ≤ l.length := by
  obtain ⟨_, _, t3⟩ := take_bound l
  obtain ⟨_, _, s3⟩ := take_bound (l.drop (take l).2)
  rw [List.length_drop] at s3
  unfold oneL at h
  split at h
  · cases h
  · split at h
    · cases h
    · split at h
      · simp only [Option.some.injEq, Prod.mk.injEq] at h
        omega
      · split at h
        · simp only [Option.some.injEq, Prod.mk.injEq] at h
          omega
        · cases h

theorem ofNat_toNat_small {n : Nat} (h : n < 256) : (UInt8.ofNat n).toNat = n := by simp; omega
/-- What was written is read: the groups of a number, whatever stands behind them. -/
theorem takeF_var : ∀ (f i n m : Nat) (rest : List UInt8), 1 ≤ f → i ≤ 9 → n < 128 ^ f → (0 < i → 0 < n) → m < 2 ^ (7 * i) → m + n * 2 ^ (7 * i) < 18446744073709551616 →
    takeF i m (varF f n ++ rest) = (m + n * 2 ^ (7 * i), i + (varF f n).length) := by
  intro f
  induction f with
  | zero => intro i n m rest h; omega
  | succ f ih =>
    intro i n m rest _ hi hn h0 hm hb
    have h9 : i = 9 → n ≤ 1 := by
      rintro rfl
      rw [show 2 ^ (7 * 9) = 9223372036854775808 from by decide] at hb
      omega
    rw [varF]
    split
    · rename_i hs
      rw [List.singleton_append, takeF, ofNat_toNat_small (by omega), if_neg (by omega), if_pos hs, Nat.mod_eq_of_lt hs]
      rfl
    · rename_i hs
      have hi9 : i ≠ 9 := fun h => by have := h9 h; omega
      have e : (UInt8.ofNat (n % 128 + 128)).toNat = n % 128 + 128 := ofNat_toNat_small (by omega)
      have e2 : (n % 128 + 128) % 128 = n % 128 := by omega
      rw [List.cons_append, takeF, e, if_neg (by omega), if_neg (by omega), e2]
      have hsum : m + n % 128 * 2 ^ (7 * i) + n / 128 * 2 ^ (7 * (i + 1)) = m + n * 2 ^ (7 * i) := by
        rw [show 7 * (i + 1) = 7 * i + 7 from by omega, Nat.pow_add]
        generalize 2 ^ (7 * i) = p
        have : n / 128 * (p * 2 ^ 7) = (n / 128 * 128) * p := by rw [Nat.mul_comm p, ← Nat.mul_assoc]
        rw [this, Nat.add_assoc, ← Nat.add_mul]
        congr 2
        omega
      have hf : 1 ≤ f := by
        match f with
        | 0 => simp at hn; omega
        | k + 1 => omega
      rw [ih (i + 1) (n / 128) _ rest hf (by omega) (by rw [Nat.pow_succ] at hn; omega) (by omega) (take_less hm) (by rw [hsum]; exact hb), hsum]
      simp
      omega
theorem take_var (n : Nat) (rest : List UInt8) (h : n < 18446744073709551616) : take (varL n ++ rest) = (n, (varL n).length) := by
  unfold take varL
  rw [takeF_var 10 0 n 0 rest (by omega) (by omega) (Nat.lt_of_lt_of_le h (by decide)) (by omega) (by decide) (by simpa using h)]
  simp
theorem varF_pos (f n : Nat) (h : 1 ≤ f) : 0 < (varF f n).length := by
  match f with
  | f + 1 => rw [varF]; split <;> simp
theorem varL_pos (n : Nat) : 0 < (varL n).length := varF_pos 10 n (by omega)
/-- Groups none of which is the last run over the end. -/
theorem takeF_high : ∀ (l : List UInt8) (i m : Nat), (∀ c ∈ l, 128 ≤ c.toNat) → takeF i m l = (0, 0) := by
  intro l
  induction l with
  | nil => intro i m _; rfl
  | cons c t ih =>
    intro i m h
    have hc := h c (by simp)
    rw [takeF]
    split
    · rfl
    · rw [if_neg (by omega)]
      exact ih _ _ fun x hx => h x (by simp [hx])
theorem takeF_high0 : ∀ (l : List UInt8) (i m : Nat), (∀ c ∈ l, 128 ≤ c.toNat) → (0 < i ∨ l ≠ []) → takeF i m (l ++ [0]) = (0, 0) := by
  intro l
  induction l with
  | nil => intro i m _ h; rw [List.nil_append, takeF, if_pos]; right; exact ⟨by simpa using h, rfl⟩
  | cons c t ih =>
    intro i m h _
    have hc := h c (by simp)
    rw [List.cons_append, takeF]
    split
    · rfl
    · rw [if_neg (by omega)]
      exact ih _ _ (fun x hx => h x (by simp [hx])) (.inl (by omega))
theorem varF_init : ∀ (f n : Nat), 1 ≤ f → n < 128 ^ f → ∃ l c, varF f n = l ++ [c] ∧ c.toNat < 128 ∧ ∀ x ∈ l, 128 ≤ x.toNat := by
  intro f
  induction f with
  | zero => intro n h; omega
  | succ f ih =>
    intro n _ hn
    rw [varF]
    split
    · exact ⟨[], _, rfl, by rw [ofNat_toNat_small (by omega)]; omega, by simp⟩
    · rename_i hs
      have hf : 1 ≤ f := by
        match f with
        | 0 => simp at hn; omega
        | k + 1 => omega
      obtain ⟨l, c, e, hc, hl⟩ := ih (n / 128) hf (by rw [Nat.pow_succ] at hn; omega)
      refine ⟨UInt8.ofNat (n % 128 + 128) :: l, c, by rw [e]; rfl, hc, fun x hx => ?_⟩
      rcases List.mem_cons.1 hx with rfl | hx
      · rw [ofNat_toNat_small (by omega)]; omega
      · exact hl x hx
theorem varL_init (n : Nat) (h : n < 18446744073709551616) : ∃ l c, varL n = l ++ [c] ∧ c.toNat < 128 ∧ ∀ x ∈ l, 128 ≤ x.toNat :=
  varF_init 10 n (by omega) (Nat.lt_of_lt_of_le h (by decide))
theorem varsL_take {l : List UInt8} {n k : Nat} (h : 0 < l.length) (h1 : take l = (n, k)) (h2 : k ≠ 0) : varsL l = (varsF (l.length - 1) (l.drop k)).map (n :: ·) := by
  obtain ⟨f', hf, e⟩ := varsF_on h (Nat.le_refl _) h1 h2
  unfold varsL
  rw [e]
  congr 1
  congr 1
  omega
theorem varsL_var (n : Nat) (h : n < 18446744073709551616) : varsL (varL n) = some [n] := by
  have hp := varL_pos n
  have h1 := take_var n [] h
  rw [List.append_nil] at h1
  rw [varsL_take hp h1 (by omega), List.drop_length, varsF_nil]
  rfl
theorem varsL_bad {l : List UInt8} (h : 0 < l.length) (h1 : take l = (0, 0)) : varsL l = none := by
  unfold varsL
  exact varsF_no h (by rw [h1])
/-- How many groups of seven bits a number has. -/
theorem varF_count : ∀ (f n : Nat), 1 ≤ f → n < 128 ^ f → (varF f n).length = if n < 128 then 1 else 1 + (varF (f - 1) (n / 128)).length := by
  intro f n h hn
  match f with
  | f + 1 =>
    rw [varF]
    split
    · rfl
    · simp; omega
end Go.Ev
