import Derived.Test.YtpjimnjfjopedaaTrB
import Derived.Test.YtpjimnjfjopedaaEvOpen
namespace Go.Ev
open Go Go.ChangeShapes Go.WideShapes Go.RowKit
set_option linter.unnecessarySimpa false
set_option linter.unusedSimpArgs false
set_option linter.unusedVariables false
structure Ky.Wf (k : Ky) : Prop where
  c0 : 0 ≤ k.c
  c1 : k.c < 18446744073709551616
  v0 : -9223372036854775808 ≤ k.v
  v1 : k.v ≤ 9223372036854775807
  d0 : -9223372036854775808 ≤ k.d
  d1 : k.d ≤ 9223372036854775807
section
variable {H : Type} {enc : TypeId × Value → H} {w : World} {base : Nat} {spare : Nat → Bool} {held : Bool}
theorem key_cells {n : Nat} {cs : List Value} {x : DataW H × List MemPlace} (h : DataW.trod enc Go.Proofs.Try.prog w base spare held n 24 cs = some x) : ∃ k : Ky, cs = kc k ∧ k.Wf := by
  obtain ⟨xs, n', _, _, hl, hxl, hf⟩ := DataW.trod_struct Go.Proofs.Try.underlying24 h
  have hc : Go.Proofs.Try.prog.cellsOf 24 = 3 := by kernel_rfl
  have h1 : Go.Proofs.Try.prog.cellsOf 22 = 1 := by kernel_rfl
  have h2 : Go.Proofs.Try.prog.cellsOf 2 = 1 := by kernel_rfl
  rw [hc] at hl
  match cs, hl with
  | [a, b, c], _ =>
    have hxs : ∀ i, i < 3 → ∃ y, xs[i]? = some y := fun i hi => ⟨xs[i]'(by rw [hxl]; exact hi), by simp [show i < xs.length by rw [hxl]; exact hi]⟩
    obtain ⟨y0, e0⟩ := hxs 0 (by omega)
    obtain ⟨y1, e1⟩ := hxs 1 (by omega)
    obtain ⟨y2, e2⟩ := hxs 2 (by omega)
    have g0 : DataW.trod enc Go.Proofs.Try.prog w base spare held n' 22 (([a, b, c].drop 0).take (Go.Proofs.Try.prog.cellsOf 22)) = xs[0]? := hf 0 _ rfl
    have g1 : DataW.trod enc Go.Proofs.Try.prog w base spare held n' 2 (([a, b, c].drop 1).take (Go.Proofs.Try.prog.cellsOf 2)) = xs[1]? := hf 1 _ rfl
    have g2 : DataW.trod enc Go.Proofs.Try.prog w base spare held n' 2 (([a, b, c].drop 2).take (Go.Proofs.Try.prog.cellsOf 2)) = xs[2]? := hf 2 _ rfl
    rw [e0, h1] at g0
    rw [e1, h2] at g1
    rw [e2, h2] at g2
    obtain ⟨z0, q0, _, w0⟩ := DataW.trod_int Go.Proofs.Try.underlying22 g0
    obtain ⟨z1, q1, _, w1⟩ := DataW.trod_int Go.Proofs.Try.underlying2 g1
    obtain ⟨z2, q2, _, w2⟩ := DataW.trod_int Go.Proofs.Try.underlying2 g2
    simp at q0 q1 q2
    subst q0; subst q1; subst q2
    have b0 := bounds_u64 w0
    have b1 := bounds_i64 w1
    have b2 := bounds_i64 w2
    exact ⟨⟨z0, z1, z2⟩, rfl, ⟨by simpa using b0.1, by simp only; omega, by simpa using b1.1, by simp only; omega, by simpa using b2.1, by simp only; omega⟩⟩
theorem open_key {r : Reach} {b0 : Nat} {v : Value} {d : DataW H} {p : List MemPlace} (hv : Value.okWide Go.Proofs.Try.prog w r b0 24 v) (h : DataW.Trod enc Go.Proofs.Try.prog w base spare held 24 v d p) : ∃ k : Ky, v = k.val ∧ k.Wf :=
  open_flat kc Ky.Wf Go.Proofs.Try.underlying24 (fun _ _ _ h => key_cells h) hv h
theorem open_keys {r : Reach} {b0 : Nat} {v : Value} {d : DataW H} {p : List MemPlace} (hv : Value.okWide Go.Proofs.Try.prog w r b0 28 v) (h : DataW.Trod enc Go.Proofs.Try.prog w base spare held 28 v d p) : ∃ l : List Ky, Rel0 w (.r (keys l)) v ∧ ∀ k ∈ l, k.Wf :=
  open_rows 3 Ky.rv kc Ky.Wf Go.Proofs.Try.underlying28 (by kernel_rfl) (by omega) (fun _ _ _ h => key_cells h) (fun _ => rfl) (fun k j y hj => by
    match j, hj with
    | 0, hj => simp [Ky.rv, RV.cells] at hj; exact ⟨_, hj.symm, rfl, rfl⟩
    | 1, hj => simp [Ky.rv, RV.cells] at hj; exact ⟨_, hj.symm, rfl, rfl⟩
    | 2, hj => simp [Ky.rv, RV.cells] at hj; exact ⟨_, hj.symm, rfl, rfl⟩
    | j + 3, hj => simp [Ky.rv, RV.cells] at hj) (okWide_slice Go.Proofs.Try.underlying28 hv) h
end
end Go.Ev
