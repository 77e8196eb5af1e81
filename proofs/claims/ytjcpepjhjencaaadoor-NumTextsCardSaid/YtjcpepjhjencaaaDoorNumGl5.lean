import Derived.Test.YtjcpepjhjencaaaDoorNumT3
import Derived.Lib.LaidTab
import Derived.Stop.LaidErr
import Derived.Test.YtjcpepjhjencaaaDoorRows
namespace Go.Ev
open Go
set_option linter.unnecessarySimpa false
set_option linter.unusedSimpArgs false
set_option linter.unusedVariables false
theorem starE : "*" ++ "errors.errorString" = "*errors.errorString" := by decide
theorem rowE (u : TypeId) (h : Go.Proofs.Tryd.prog.typeName? 3 u = some "*errors.errorString") : u = 82 :=
  typeName_ptr_named (nm := "errors.errorString") (by rw [starE]; kernel_rfl) (by kernel_rfl) (by decide) u (by rw [starE]; exact h)
/-- What the row's condition gives. -/
theorem gl5 {W : World} (hL : laidMet Go.Proofs.Tryd.prog Go.Proofs.YtjcpepjhjencaaaDoor.Rows.numTextsRow.laid W) : Gl Go.Proofs.Tryd.prog W fun _ => False := by
  have h2 := hL.tail.tail
  have ht : Lib.TabIs Go.Proofs.Tryd.prog W "internal/strconv.uint64pow10" .u64 Lib.pow10Tab := Lib.tabIs_of_head (g := 2) (t := 76) (e := 29) (n := 20) glob_pow (by kernel_rfl) (by kernel_rfl) (by kernel_rfl) (by kernel_rfl) (by kernel_rfl) h2
  obtain ⟨a1, s1, hv1, -, -, -⟩ := laid_sentinel h2.tail glob_rng (ti := 50) (by kernel_rfl) Go.Proofs.Tryd.underlying50 rowE Go.Proofs.Tryd.underlying82 Go.Proofs.Tryd.underlying84 rfl rfl Go.Proofs.Tryd.underlying9 (by kernel_rfl) (by kernel_rfl)
  obtain ⟨a2, s2, hv2, -, -, -⟩ := laid_sentinel h2.tail.tail glob_syn (ti := 50) (by kernel_rfl) Go.Proofs.Tryd.underlying50 rowE Go.Proofs.Tryd.underlying82 Go.Proofs.Tryd.underlying84 rfl rfl Go.Proofs.Tryd.underlying9 (by kernel_rfl) (by kernel_rfl)
  have key : ∀ (name : String) (cs0 : Array Value) (g : Nat), W.var? Go.Proofs.Tryd.prog name = some cs0 → Go.Proofs.Tryd.prog.globalNamed name = some g → ∃ cs e fr, W.heap[g]? = some (.cells cs e fr) ∧ cs = cs0 := fun name cs0 g hv hg => by
    unfold World.var? at hv
    rw [hg] at hv
    simp only [Option.bind_some] at hv
    split at hv
    · rename_i cs e fr hc
      exact ⟨cs, e, fr, hc, Option.some.inj hv⟩
    · cases hv
  refine ⟨fun g hg => ⟨id, ?_⟩, fun _ g hg => ⟨id, ?_⟩, fun _ g hg => ⟨id, ?_⟩⟩
  · obtain ⟨cs, e, fr, h1, h2⟩ := key _ _ g ht hg
    exact ⟨cs, e, fr, h1, by rw [h2]; simp [pow10s, Lib.pow10Tab]⟩
  · obtain ⟨cs, e, fr, h1, h2⟩ := key _ _ g hv2 hg
    exact ⟨cs, e, fr, h1, _, _, h2⟩
  · obtain ⟨cs, e, fr, h1, h2⟩ := key _ _ g hv1 hg
    exact ⟨cs, e, fr, h1, _, _, h2⟩
theorem rel0_s {w : World} (s : ByteArray) : Rel0 w (strv (bstr s.data.toList)) (.string s) := by rw [← bstr_of]; exact rel0_v _
end Go.Ev
