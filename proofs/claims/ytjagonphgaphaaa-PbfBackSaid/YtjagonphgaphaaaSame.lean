/- Same: two rows of numbers are one. -/
import Derived.Test.YtjagonphgaphaaaRefNum
import Derived.Deep.QuietTactic
import Derived.BigQuiet
namespace Go.Proofs.Ytjagonphgaphaaa
open Go.RowKit
set_option linter.unusedVariables false

theorem below_drewN {B : Nat} {a w : World} (h : Below B a w) (n : Nat) : Below B a (w.drewN n) := ⟨h.os, h.tape, h.output, h.size, h.block⟩

set_option maxRecDepth 100000 in
theorem same_yes {B1 B2 : Nat} (A1 A2 : Option Addr) (c1 c2 : Nat) (l : List Nat) (w : World) (h1 : Reads w B1 1 A1 l.length (l.map u64v)) (h2 : Reads w B2 1 A2 l.length (l.map u64v)) (hl : l.length ≤ 1048576) :
    Calls Try.prog 18 #[.slice A1 l.length c1, .slice A2 l.length c2] w fun e w' => e = .returned (.bool true) ∧ Below w.heap.size w w' := by
  go_enter Try.func18, Try.ntmps18
  go_wp2_with fail
  go_loopw [5] (fun i wr => ∃ k : Nat, k ≤ l.length ∧ i = .int .i64 (k : Int) ∧ Below w.heap.size w wr ∧ (∀ p, wr.cell? p = w.cell? p)) (fun i _ => l.length - (intOf i).toNat)
  case atStart => exact ⟨0, by omega, rfl, Below.refl _ _, fun _ => rfl⟩
  case round =>
    obtain ⟨k, hk, rfl, hnx, hsame⟩ := hrel
    by_cases hlt : k < l.length
    · obtain ⟨a1, rfl, hc1⟩ := reads_u64 h1 hlt
      obtain ⟨a2, rfl, hc2⟩ := reads_u64 h2 hlt
      rw [← hsame] at hc1 hc2
      have Hs := hide hsame
      clear hsame h1 h2
      generalize l[k] = n at *
      have hk0 : (0 : Int) ≤ (k : Int) := by omega
      have hk1 : (k : Int) < (l.length : Int) := by omega
      go_wp2_with fail
      go_quiet (fail)
      go_wp2_with fail
      refine ⟨⟨k + 1, by omega, by go_num, ?_, ?_⟩, by simp [intOf]; omega⟩
      · exact below_drewN hnx _
      · exact Hs.out
    · go_wp2_with fail
      go_ret
      exact ⟨rfl, hnx⟩
end Go.Proofs.Ytjagonphgaphaaa
