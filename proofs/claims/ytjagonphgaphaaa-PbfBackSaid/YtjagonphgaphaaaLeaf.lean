/- Contracts of the small functions: Zig, ok. Conditions: the argument is a number of 64 bits. -/
import Derived.Test.YtjagonphgaphaaaChecked
import Derived.Test.YtjagonphgaphaaaPlain
import Derived.WalkKit
import Derived.WalkSpells
namespace Go.Proofs.Ytjagonphgaphaaa
open Go.RowKit
set_option linter.unusedVariables false

theorem ret_int {k : IntKind} {a b : Int} (h : a = b) : Ending.returned (.int k a) = .returned (.int k b) := by rw [h]
theorem ret_bool {a b : Bool} (h : a = b) : Ending.returned (.bool a) = .returned (.bool b) := by rw [h]

theorem zig_any (n : Int) (w : World) (h1 : -9223372036854775808 ≤ n) (h2 : n ≤ 9223372036854775807) :
    Calls Try.prog 9 #[.int .i64 n] w fun e w' => e = .returned (.int .u64 (zig n)) ∧ w = w' := by
  go_enter Try.func9, Try.ntmps9
  go_wp2
  go_ret
  exact ⟨ret_int (zig_bits n h1 h2), rfl⟩
def okB (n : Int) : Bool := decide (1 ≤ n) && decide (n ≤ 1000)
theorem ok_any (n : Int) (w : World) (h1 : -9223372036854775808 ≤ n) (h2 : n ≤ 9223372036854775807) :
    Calls Try.prog 32 #[.int .i64 n] w fun e w' => e = .returned (.bool (okB n)) ∧ w = w' := by
  by_cases h : 1 ≤ n
  all_goals
    go_enter Try.func32, Try.ntmps32
    go_wp2
    go_ret
    exact ⟨ret_bool (by unfold okB; simp; try omega), rfl⟩
end Go.Proofs.Ytjagonphgaphaaa
