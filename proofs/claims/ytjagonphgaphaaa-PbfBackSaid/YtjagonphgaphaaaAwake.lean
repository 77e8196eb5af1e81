/- Contract of awake: true. Conditions: none. -/
import Derived.Test.YtjagonphgaphaaaRead
import Derived.Test.YtjagonphgaphaaaRefVar
namespace Go.Proofs.Ytjagonphgaphaaa
open Go.RowKit
set_option linter.unusedVariables false

theorem varL_300 : ([] ++ varL ((1 : Int) * 8).toNat ++ varL (300 : Int).toNat : List UInt8) = [8, 172, 2] := by decide
theorem readL_300 : readL [8, 172, 2] = some [(1, 0, 300, [])] := by decide

set_option maxRecDepth 100000 in
theorem awake_any (w : World) :
    Calls Try.prog 10 #[] w fun e w' => e = .returned (.bool true) ∧ Below w.heap.size w w' := by
  go_enter Try.func10, Try.ntmps10
  go_wp2_with fail
  refine (num_yes none 0 [] 1 300 w w.heap.size (Nat.le_refl _) (by omega) (by omega) (by omega) (by omega) reads_nil (by decide)).mono ?_
  rintro e w1 ⟨v1, rfl, ho1, hb1⟩
  rw [varL_300] at ho1
  obtain ⟨A1, c1, rfl, hc1⟩ := own_form ho1
  have hs1 := hb1.size
  go_wp2_with fail
  refine (read_any A1 c1 [8, 172, 2] w1 w1.heap.size (Nat.le_refl _) (own_reads ho1 rfl) hc1 (by decide)).mono ?_
  rw [readL_300]
  rintro e w2 ⟨v2, xs, rfl, ho2, hf2, hb2⟩
  obtain ⟨dv, rest, rfl, hdv, hrest⟩ := hf2
  obtain rfl : rest = [] := hrest
  have hst := reads_str (P := Try.prog) [8, 172, 2] c1 ((own_reads ho1 rfl).below hb2) 27 9 5 Try.underlying27 Try.underlying5 Try.underlying9
  have hsz2 := hb2.size
  obtain ⟨g, cap, rfl, _, _⟩ := ho2.form (by decide)
  have hc0 : w2.cell? ⟨g, 0, none⟩ = some (.int .i64 1) := ho2.cellAt 0 (by decide)
  have hc2 : w2.cell? ⟨g, 2, none⟩ = some (.int .u64 300) := ho2.cellAt 2 (by decide)
  rw [show errN (some [((1, 0, 300, []) : Fld)]) = 0 from rfl]
  simp only [Option.getD_some, List.length_cons, List.length_nil] at hst ho2 ⊢
  clear ho2 ho1 hdv hc1
  go_wp2_with fail
  refine (zig_any (-1) w2 (by decide) (by decide)).mono ?_
  rintro e w3 ⟨rfl, rfl⟩
  rw [show zig (-1) = 1 from rfl]
  go_wp2_with fail
  go_ret
  exact ⟨rfl, hb1.trans (hb2.mono hs1)⟩
end Go.Proofs.Ytjagonphgaphaaa
