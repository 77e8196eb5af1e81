import Derived.Test.YtncigiadbcmcfaaDoorNames1
import Derived.Lib.LaidTab
import Derived.Stop.LaidErr
import Derived.Test.YtncigiadbcmcfaaDoorRows
namespace Go.Ev
open Go
set_option linter.unnecessarySimpa false
set_option linter.unusedSimpArgs false
set_option linter.unusedVariables false
theorem glob_pow : (Go.Proofs.Tryd.prog).globalNamed "internal/strconv.uint64pow10" = some 0 := by kernel_rfl
/-- What the rows' conditions give. -/
theorem gl3 {W : World} (hL : laidMet Go.Proofs.Tryd.prog Go.Proofs.YtncigiadbcmcfaaDoor.Rows.namesNumbersRow.laid W) : Gl Go.Proofs.Tryd.prog W fun _ => False := by
  have h2 := hL.tail.tail
  have ht : Lib.TabIs Go.Proofs.Tryd.prog W "internal/strconv.uint64pow10" .u64 Lib.pow10Tab := Lib.tabIs_of_head (rest := []) (g := 0) (t := 40) (e := 32) (n := 20) glob_pow (by kernel_rfl) (by kernel_rfl) (by kernel_rfl) (by kernel_rfl) (by kernel_rfl) h2
  refine ⟨fun g hg => ⟨id, ?_⟩, fun h => (by cases h), fun h => (by cases h)⟩
  unfold Lib.TabIs World.var? at ht
  rw [hg] at ht
  simp only [Option.bind_some] at ht
  split at ht
  · rename_i cs e fr hc
    refine ⟨cs, e, fr, hc, ?_⟩
    simp only [Option.some.injEq] at ht
    rw [ht]
    simp [pow10s, Lib.pow10Tab]
  · cases ht
end Go.Ev
