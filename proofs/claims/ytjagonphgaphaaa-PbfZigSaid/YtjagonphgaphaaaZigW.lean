/- PbfZig's walk: numbers near nought are small ones; all are told apart. Conditions: two numbers of 64 bits. -/
import Derived.Test.YtjagonphgaphaaaAwake
namespace Go.Proofs.Ytjagonphgaphaaa
open Go.RowKit
set_option linter.unusedVariables false

set_option maxRecDepth 100000 in
theorem zig_walk1 (a b : Int) (w : World) (a1 : 0 ≤ a) (a2 : a ≤ 9223372036854775807) (b1 : 0 ≤ b) (b2 : b ≤ 9223372036854775807) :
    Calls Try.prog 3 #[.int .i64 a, .int .i64 b] w fun e w' => e = .returned (.bool true) ∧ Below w.heap.size w w' := by
  have h1 := zig_odd0 a1 a2
  obtain ⟨za1, za2⟩ := zig_bounds (n := a) (by omega) a2
  obtain ⟨zb1, zb2⟩ := zig_bounds (n := b) (by omega) b2
  rcases (show a < b ∨ b < a ∨ a = b from by omega) with h | h | h
  · have h2 : zig a < zig b := by rw [zig_pos a1, zig_pos b1]; omega
    have h3 : (a == b) = false := by rw [beq_eq_false_iff_ne]; omega
    have h4 : (zig a == zig b) = false := by rw [beq_eq_false_iff_ne]; omega
    go_enter Try.func3, Try.ntmps3
    go_wp2_with fail
    refine (zig_any a w (by omega) a2).mono ?_
    rintro e w1 ⟨rfl, rfl⟩
    go_wp2_with fail
    refine (zig_any b w (by omega) b2).mono ?_
    rintro e w1 ⟨rfl, rfl⟩
    generalize zig a = x at *
    generalize zig b = y at *
    go_wp2_with fail
    refine (awake_any w).mono ?_
    rintro e w2 ⟨rfl, hb⟩
    go_wp2_with fail
    go_ret
    exact ⟨rfl, hb⟩
  · have h2 : zig b < zig a := by rw [zig_pos a1, zig_pos b1]; omega
    have h3 : (a == b) = false := by rw [beq_eq_false_iff_ne]; omega
    have h4 : (zig a == zig b) = false := by rw [beq_eq_false_iff_ne]; omega
    go_enter Try.func3, Try.ntmps3
    go_wp2_with fail
    refine (zig_any a w (by omega) a2).mono ?_
    rintro e w1 ⟨rfl, rfl⟩
    go_wp2_with fail
    refine (zig_any b w (by omega) b2).mono ?_
    rintro e w1 ⟨rfl, rfl⟩
    generalize zig a = x at *
    generalize zig b = y at *
    go_wp2_with fail
    refine (awake_any w).mono ?_
    rintro e w2 ⟨rfl, hb⟩
    go_wp2_with fail
    go_ret
    exact ⟨rfl, hb⟩
  · obtain rfl : a = b := by omega
    clear h
    go_enter Try.func3, Try.ntmps3
    go_wp2_with fail
    refine (zig_any a w (by omega) a2).mono ?_
    rintro e w1 ⟨rfl, rfl⟩
    go_wp2_with fail
    refine (zig_any a w (by omega) a2).mono ?_
    rintro e w1 ⟨rfl, rfl⟩
    generalize zig a = x at *
    go_wp2_with fail
    refine (awake_any w).mono ?_
    rintro e w2 ⟨rfl, hb⟩
    go_wp2_with fail
    go_ret
    exact ⟨rfl, hb⟩

set_option maxRecDepth 100000 in
theorem zig_walk2 (a b : Int) (w : World) (a1 : 0 ≤ a) (a2 : a ≤ 9223372036854775807) (b0 : b < 0) (b1 : -9223372036854775808 ≤ b) (b2 : b ≤ 9223372036854775807) :
    Calls Try.prog 3 #[.int .i64 a, .int .i64 b] w fun e w' => e = .returned (.bool true) ∧ Below w.heap.size w w' := by
  have h1 := zig_odd0 a1 a2
  have hwb := neg_back b1 b0
  obtain ⟨za1, za2⟩ := zig_bounds (n := a) (by omega) a2
  obtain ⟨zb1, zb2⟩ := zig_bounds (n := b) (by omega) b2
  rcases (show a < -b - 1 ∨ -b - 1 < a ∨ a = -b - 1 from by omega) with h | h | h
  · have h2 : zig a < zig b := by rw [zig_pos a1, zig_neg b0]; omega
    have h3 : (a == b) = false := by rw [beq_eq_false_iff_ne]; omega
    have h4 : (zig a == zig b) = false := by rw [beq_eq_false_iff_ne]; omega
    go_enter Try.func3, Try.ntmps3
    go_wp2_with fail
    refine (zig_any a w (by omega) a2).mono ?_
    rintro e w1 ⟨rfl, rfl⟩
    go_wp2_with fail
    refine (zig_any b w (by omega) b2).mono ?_
    rintro e w1 ⟨rfl, rfl⟩
    generalize zig a = x at *
    generalize zig b = y at *
    go_wp2_with fail
    refine (awake_any w).mono ?_
    rintro e w2 ⟨rfl, hb⟩
    go_wp2_with fail
    go_ret
    exact ⟨rfl, hb⟩
  · have h2 : zig b < zig a := by rw [zig_pos a1, zig_neg b0]; omega
    have h3 : (a == b) = false := by rw [beq_eq_false_iff_ne]; omega
    have h4 : (zig a == zig b) = false := by rw [beq_eq_false_iff_ne]; omega
    go_enter Try.func3, Try.ntmps3
    go_wp2_with fail
    refine (zig_any a w (by omega) a2).mono ?_
    rintro e w1 ⟨rfl, rfl⟩
    go_wp2_with fail
    refine (zig_any b w (by omega) b2).mono ?_
    rintro e w1 ⟨rfl, rfl⟩
    generalize zig a = x at *
    generalize zig b = y at *
    go_wp2_with fail
    refine (awake_any w).mono ?_
    rintro e w2 ⟨rfl, hb⟩
    go_wp2_with fail
    go_ret
    exact ⟨rfl, hb⟩
  · have h2 : zig a ≠ zig b := by rw [zig_pos a1, zig_neg b0]; omega
    have h3 : (a == b) = false := by rw [beq_eq_false_iff_ne]; omega
    have h4 : (zig a == zig b) = false := by rw [beq_eq_false_iff_ne]; omega
    have h5 : -b - 1 ≤ a := by omega
    clear h
    go_enter Try.func3, Try.ntmps3
    go_wp2_with fail
    refine (zig_any a w (by omega) a2).mono ?_
    rintro e w1 ⟨rfl, rfl⟩
    go_wp2_with fail
    refine (zig_any b w (by omega) b2).mono ?_
    rintro e w1 ⟨rfl, rfl⟩
    generalize zig a = x at *
    generalize zig b = y at *
    go_wp2_with fail
    refine (awake_any w).mono ?_
    rintro e w2 ⟨rfl, hb⟩
    go_wp2_with fail
    go_ret
    exact ⟨rfl, hb⟩

set_option maxRecDepth 100000 in
theorem zig_walk3 (a b : Int) (w : World) (a0 : a < 0) (a1 : -9223372036854775808 ≤ a) (a2 : a ≤ 9223372036854775807) (b1 : 0 ≤ b) (b2 : b ≤ 9223372036854775807) :
    Calls Try.prog 3 #[.int .i64 a, .int .i64 b] w fun e w' => e = .returned (.bool true) ∧ Below w.heap.size w w' := by
  have h1 := zig_odd a1 (by omega)
  have hwa := neg_back a1 a0
  obtain ⟨za1, za2⟩ := zig_bounds (n := a) (by omega) a2
  obtain ⟨zb1, zb2⟩ := zig_bounds (n := b) (by omega) b2
  rcases (show -a - 1 < b ∨ b < -a - 1 ∨ -a - 1 = b from by omega) with h | h | h
  · have h2 : zig a < zig b := by rw [zig_neg a0, zig_pos b1]; omega
    have h3 : (a == b) = false := by rw [beq_eq_false_iff_ne]; omega
    have h4 : (zig a == zig b) = false := by rw [beq_eq_false_iff_ne]; omega
    go_enter Try.func3, Try.ntmps3
    go_wp2_with fail
    refine (zig_any a w (by omega) a2).mono ?_
    rintro e w1 ⟨rfl, rfl⟩
    go_wp2_with fail
    refine (zig_any b w (by omega) b2).mono ?_
    rintro e w1 ⟨rfl, rfl⟩
    generalize zig a = x at *
    generalize zig b = y at *
    go_wp2_with fail
    refine (awake_any w).mono ?_
    rintro e w2 ⟨rfl, hb⟩
    go_wp2_with fail
    go_ret
    exact ⟨rfl, hb⟩
  · have h2 : zig b < zig a := by rw [zig_neg a0, zig_pos b1]; omega
    have h3 : (a == b) = false := by rw [beq_eq_false_iff_ne]; omega
    have h4 : (zig a == zig b) = false := by rw [beq_eq_false_iff_ne]; omega
    go_enter Try.func3, Try.ntmps3
    go_wp2_with fail
    refine (zig_any a w (by omega) a2).mono ?_
    rintro e w1 ⟨rfl, rfl⟩
    go_wp2_with fail
    refine (zig_any b w (by omega) b2).mono ?_
    rintro e w1 ⟨rfl, rfl⟩
    generalize zig a = x at *
    generalize zig b = y at *
    go_wp2_with fail
    refine (awake_any w).mono ?_
    rintro e w2 ⟨rfl, hb⟩
    go_wp2_with fail
    go_ret
    exact ⟨rfl, hb⟩
  · have h2 : zig a ≠ zig b := by rw [zig_neg a0, zig_pos b1]; omega
    have h3 : (a == b) = false := by rw [beq_eq_false_iff_ne]; omega
    have h4 : (zig a == zig b) = false := by rw [beq_eq_false_iff_ne]; omega
    have h5 : b ≤ -a - 1 := by omega
    clear h
    go_enter Try.func3, Try.ntmps3
    go_wp2_with fail
    refine (zig_any a w (by omega) a2).mono ?_
    rintro e w1 ⟨rfl, rfl⟩
    go_wp2_with fail
    refine (zig_any b w (by omega) b2).mono ?_
    rintro e w1 ⟨rfl, rfl⟩
    generalize zig a = x at *
    generalize zig b = y at *
    go_wp2_with fail
    refine (awake_any w).mono ?_
    rintro e w2 ⟨rfl, hb⟩
    go_wp2_with fail
    go_ret
    exact ⟨rfl, hb⟩

set_option maxRecDepth 100000 in
theorem zig_walk4 (a b : Int) (w : World) (a0 : a < 0) (a1 : -9223372036854775808 ≤ a) (a2 : a ≤ 9223372036854775807) (b0 : b < 0) (b1 : -9223372036854775808 ≤ b) (b2 : b ≤ 9223372036854775807) :
    Calls Try.prog 3 #[.int .i64 a, .int .i64 b] w fun e w' => e = .returned (.bool true) ∧ Below w.heap.size w w' := by
  have h1 := zig_odd a1 (by omega)
  have hwa := neg_back a1 a0
  have hwb := neg_back b1 b0
  obtain ⟨za1, za2⟩ := zig_bounds (n := a) (by omega) a2
  obtain ⟨zb1, zb2⟩ := zig_bounds (n := b) (by omega) b2
  rcases (show -a - 1 < -b - 1 ∨ -b - 1 < -a - 1 ∨ -a - 1 = -b - 1 from by omega) with h | h | h
  · have h2 : zig a < zig b := by rw [zig_neg a0, zig_neg b0]; omega
    have h3 : (a == b) = false := by rw [beq_eq_false_iff_ne]; omega
    have h4 : (zig a == zig b) = false := by rw [beq_eq_false_iff_ne]; omega
    go_enter Try.func3, Try.ntmps3
    go_wp2_with fail
    refine (zig_any a w (by omega) a2).mono ?_
    rintro e w1 ⟨rfl, rfl⟩
    go_wp2_with fail
    refine (zig_any b w (by omega) b2).mono ?_
    rintro e w1 ⟨rfl, rfl⟩
    generalize zig a = x at *
    generalize zig b = y at *
    go_wp2_with fail
    refine (awake_any w).mono ?_
    rintro e w2 ⟨rfl, hb⟩
    go_wp2_with fail
    go_ret
    exact ⟨rfl, hb⟩
  · have h2 : zig b < zig a := by rw [zig_neg a0, zig_neg b0]; omega
    have h3 : (a == b) = false := by rw [beq_eq_false_iff_ne]; omega
    have h4 : (zig a == zig b) = false := by rw [beq_eq_false_iff_ne]; omega
    go_enter Try.func3, Try.ntmps3
    go_wp2_with fail
    refine (zig_any a w (by omega) a2).mono ?_
    rintro e w1 ⟨rfl, rfl⟩
    go_wp2_with fail
    refine (zig_any b w (by omega) b2).mono ?_
    rintro e w1 ⟨rfl, rfl⟩
    generalize zig a = x at *
    generalize zig b = y at *
    go_wp2_with fail
    refine (awake_any w).mono ?_
    rintro e w2 ⟨rfl, hb⟩
    go_wp2_with fail
    go_ret
    exact ⟨rfl, hb⟩
  · obtain rfl : a = b := by omega
    clear h
    go_enter Try.func3, Try.ntmps3
    go_wp2_with fail
    refine (zig_any a w (by omega) a2).mono ?_
    rintro e w1 ⟨rfl, rfl⟩
    go_wp2_with fail
    refine (zig_any a w (by omega) a2).mono ?_
    rintro e w1 ⟨rfl, rfl⟩
    generalize zig a = x at *
    go_wp2_with fail
    refine (awake_any w).mono ?_
    rintro e w2 ⟨rfl, hb⟩
    go_wp2_with fail
    go_ret
    exact ⟨rfl, hb⟩

theorem zig_walk (a b : Int) (w : World) (a1 : -9223372036854775808 ≤ a) (a2 : a ≤ 9223372036854775807) (b1 : -9223372036854775808 ≤ b) (b2 : b ≤ 9223372036854775807) :
    Calls Try.prog 3 #[.int .i64 a, .int .i64 b] w fun e w' => e = .returned (.bool true) ∧ Below w.heap.size w w' := by
  by_cases ha : 0 ≤ a <;> by_cases hb : 0 ≤ b
  · exact zig_walk1 a b w ha a2 hb b2
  · exact zig_walk2 a b w ha a2 (by omega) b1 b2
  · exact zig_walk3 a b w (by omega) a1 a2 hb b2
  · exact zig_walk4 a b w (by omega) a1 a2 (by omega) b1 b2
end Go.Proofs.Ytjagonphgaphaaa
