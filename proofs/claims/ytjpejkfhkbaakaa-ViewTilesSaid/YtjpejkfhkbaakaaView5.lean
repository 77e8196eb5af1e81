import Derived.Test.YtjpejkfhkbaakaaView4
namespace Go.Ev
open Go
set_option linter.unnecessarySimpa false
set_option linter.unusedSimpArgs false
set_option linter.unusedVariables false
theorem fine_down {t u : Til} (ht : tis t = true) (hf : fine t = false) (hr : u.r ≤ t.r) (hr0 : 0 ≤ u.r) (hz : t.z ≤ u.z) (hz1 : u.z ≤ 18) : fine u = false := by
  cases hu : tis u with
  | false => simp [fine, hu]
  | true =>
    have h0 : 0 ≤ t.z ∧ t.r ≤ 12 := by simp [tis] at ht; omega
    simp only [fine, ht, hu, Bool.true_and, decide_eq_false_iff_not, Int.not_lt] at hf ⊢
    have h1 : 7 ^ (12 - t.r).toNat ≤ 7 ^ (12 - u.r).toNat := Nat.pow_le_pow_right (by decide) (by omega)
    have h2 : 2 ^ (18 - u.z).toNat ≤ 2 ^ (18 - t.z).toNat := Nat.pow_le_pow_right (by decide) (by omega)
    have h3 := Nat.mul_le_mul h2 h2
    have e1 : ((7 ^ (12 - t.r).toNat : Nat) : Int) = (7 : Int) ^ (12 - t.r).toNat := by simp
    have e2 : ((7 ^ (12 - u.r).toNat : Nat) : Int) = (7 : Int) ^ (12 - u.r).toNat := by simp
    have e3 : ((2 ^ (18 - t.z).toNat * 2 ^ (18 - t.z).toNat : Nat) : Int) = (2 : Int) ^ (18 - t.z).toNat * 2 ^ (18 - t.z).toNat := by simp
    have e4 : ((2 ^ (18 - u.z).toNat * 2 ^ (18 - u.z).toNat : Nat) : Int) = (2 : Int) ^ (18 - u.z).toNat * 2 ^ (18 - u.z).toNat := by simp
    rw [Int.mul_assoc] at hf ⊢
    omega
set_option maxRecDepth 100000 in
theorem viewFine_t (x y z r : Int) (hx : in64 x) (hy : in64 y) (hz : in64 z) (hr : in64 r) : Triple Go.Proofs.Try.prog 3 [int .i64 x, int .i64 y, int .i64 z, int .i64 r] [] (bl true) [] := by
  refine apiarylaw22_ViewFine_triple rfl (by decide) ?_
  simp only [apiarylaw22_ViewFine_pc, List.length_nil, push_cast, ↓reduceIte, reduceCtorEq, Nat.reduceBEq, Nat.reduceEqDiff, Nat.reduceAdd, Nat.reduceSub, Nat.reduceLT, Nat.reduceLeDiff, Nat.reduceMul]
  refine call_mk (tile_t x y z r hx hy hz hr) rfl trivial ?_
  have hti := tis_of x y z r
  have hfi := fine_of x y z r
  generalize tileOf x y z r = t at hti hfi
  have hb : 0 ≤ t.z ∧ t.z ≤ 18 ∧ 0 ≤ t.r ∧ t.r ≤ 12 ∧ 0 ≤ t.x ∧ t.x < 2 ^ t.z.toNat ∧ 0 ≤ t.y ∧ t.y < 2 ^ t.z.toNat := by simpa [tis] using hti
  have hp := p2 t.z.toNat (by omega)
  have i0 : ∀ a : Int, 0 ≤ a → a ≤ 1000000000000 → in64 a := fun a h1 h2 => by unfold in64; omega
  have w1 : IntKind.i64.wrap (t.r - 1) = t.r - 1 := wrap_id (by omega)
  have w2 : IntKind.i64.wrap (t.z + 1) = t.z + 1 := wrap_id (by omega)
  have w3 : IntKind.i64.wrap (2 * t.x) = 2 * t.x := wrap_id (by omega)
  have w4 : IntKind.i64.wrap (2 * t.y) = 2 * t.y := wrap_id (by omega)
  have f1 : fine ⟨t.z, t.x, t.y, max (t.r - 1) 0⟩ = false := fine_down hti hfi (by dsimp; omega) (by dsimp; omega) (by dsimp; omega) (by dsimp; omega)
  have t3 : tis ⟨t.z, -1, t.y, t.r⟩ = false := by simp [tis]
  have f3 : fine ⟨t.z, -1, t.y, t.r⟩ = false := by simp [fine, t3]
  have k0 : t.ok := ⟨i0 _ (by omega) (by omega), i0 _ (by omega) (by omega), i0 _ (by omega) (by omega), i0 _ (by omega) (by omega)⟩
  have k1 : Til.ok ⟨t.z, t.x, t.y, max (t.r - 1) 0⟩ := ⟨k0.1, k0.2.1, k0.2.2.1, i0 _ (by dsimp; omega) (by dsimp; omega)⟩
  have k3 : Til.ok ⟨t.z, -1, t.y, t.r⟩ := ⟨k0.1, by show in64 (-1); decide, k0.2.2.1, k0.2.2.2⟩
  simp only [Til.v, w1, push_cast, ↓reduceIte, reduceCtorEq, Nat.reduceBEq, Nat.reduceEqDiff, Nat.reduceAdd, Nat.reduceSub, Nat.reduceLT, Nat.reduceLeDiff, Nat.reduceMul]
  refine cnd_mk (fun h => ?_) (fun h => ?_)
  · have hz : t.z < 18 := by simpa using h
    have f2 : fine ⟨t.z + 1, 2 * t.x, 2 * t.y, t.r⟩ = false := fine_down hti hfi (by dsimp; omega) (by dsimp; omega) (by dsimp; omega) (by dsimp; omega)
    have k2 : Til.ok ⟨t.z + 1, 2 * t.x, 2 * t.y, t.r⟩ := ⟨i0 _ (by dsimp; omega) (by dsimp; omega), i0 _ (by dsimp; omega) (by dsimp; omega), i0 _ (by dsimp; omega) (by dsimp; omega), k0.2.2.2⟩
    simp only [w2, w3, w4, push_cast, ↓reduceIte, reduceCtorEq, Nat.reduceBEq, Nat.reduceEqDiff, Nat.reduceAdd, Nat.reduceSub, Nat.reduceLT, Nat.reduceLeDiff, Nat.reduceMul]
    refine ⟨by kernel_rfl, ?_⟩
    refine call_as (as' := [t.v]) rfl ?_
    refine call_mk (fine_t t k0) rfl trivial ?_
    simp only [hfi, push_cast, ↓reduceIte, reduceCtorEq, Nat.reduceBEq, Nat.reduceEqDiff, Nat.reduceAdd, Nat.reduceSub, Nat.reduceLT, Nat.reduceLeDiff, Nat.reduceMul]
    refine call_as (as' := [Til.v ⟨t.z, t.x, t.y, max (t.r - 1) 0⟩]) rfl ?_
    refine call_mk (fine_t _ k1) rfl trivial ?_
    simp only [f1, push_cast, ↓reduceIte, reduceCtorEq, Nat.reduceBEq, Nat.reduceEqDiff, Nat.reduceAdd, Nat.reduceSub, Nat.reduceLT, Nat.reduceLeDiff, Nat.reduceMul]
    refine call_as (as' := [Til.v ⟨t.z + 1, 2 * t.x, 2 * t.y, t.r⟩]) rfl ?_
    refine call_mk (fine_t _ k2) rfl trivial ?_
    simp only [f2, push_cast, ↓reduceIte, reduceCtorEq, Nat.reduceBEq, Nat.reduceEqDiff, Nat.reduceAdd, Nat.reduceSub, Nat.reduceLT, Nat.reduceLeDiff, Nat.reduceMul]
    refine call_as (as' := [Til.v ⟨t.z, -1, t.y, t.r⟩]) rfl ?_
    refine call_mk (fine_t _ k3) rfl trivial ?_
    simp only [f3, push_cast, ↓reduceIte, reduceCtorEq, Nat.reduceBEq, Nat.reduceEqDiff, Nat.reduceAdd, Nat.reduceSub, Nat.reduceLT, Nat.reduceLeDiff, Nat.reduceMul]
    refine call_as (as' := [Til.v ⟨t.z, -1, t.y, t.r⟩]) rfl ?_
    refine call_mk (ok_t _ k3) rfl trivial ?_
    simp only [t3, push_cast, ↓reduceIte, reduceCtorEq, Nat.reduceBEq, Nat.reduceEqDiff, Nat.reduceAdd, Nat.reduceSub, Nat.reduceLT, Nat.reduceLeDiff, Nat.reduceMul]
    refine call_mk awake22_t rfl trivial ?_
    simp only [push_cast, ↓reduceIte, reduceCtorEq, Nat.reduceBEq, Nat.reduceEqDiff, Nat.reduceAdd, Nat.reduceSub, Nat.reduceLT, Nat.reduceLeDiff, Nat.reduceMul]
  · simp only [push_cast, ↓reduceIte, reduceCtorEq, Nat.reduceBEq, Nat.reduceEqDiff, Nat.reduceAdd, Nat.reduceSub, Nat.reduceLT, Nat.reduceLeDiff, Nat.reduceMul]
    refine call_as (as' := [t.v]) rfl ?_
    refine call_mk (fine_t t k0) rfl trivial ?_
    simp only [hfi, push_cast, ↓reduceIte, reduceCtorEq, Nat.reduceBEq, Nat.reduceEqDiff, Nat.reduceAdd, Nat.reduceSub, Nat.reduceLT, Nat.reduceLeDiff, Nat.reduceMul]
    refine call_as (as' := [Til.v ⟨t.z, t.x, t.y, max (t.r - 1) 0⟩]) rfl ?_
    refine call_mk (fine_t _ k1) rfl trivial ?_
    simp only [f1, push_cast, ↓reduceIte, reduceCtorEq, Nat.reduceBEq, Nat.reduceEqDiff, Nat.reduceAdd, Nat.reduceSub, Nat.reduceLT, Nat.reduceLeDiff, Nat.reduceMul]
    refine call_as (as' := [t.v]) rfl ?_
    refine call_mk (fine_t _ k0) rfl trivial ?_
    simp only [hfi, push_cast, ↓reduceIte, reduceCtorEq, Nat.reduceBEq, Nat.reduceEqDiff, Nat.reduceAdd, Nat.reduceSub, Nat.reduceLT, Nat.reduceLeDiff, Nat.reduceMul]
    refine call_as (as' := [Til.v ⟨t.z, -1, t.y, t.r⟩]) rfl ?_
    refine call_mk (fine_t _ k3) rfl trivial ?_
    simp only [f3, push_cast, ↓reduceIte, reduceCtorEq, Nat.reduceBEq, Nat.reduceEqDiff, Nat.reduceAdd, Nat.reduceSub, Nat.reduceLT, Nat.reduceLeDiff, Nat.reduceMul]
    refine call_as (as' := [Til.v ⟨t.z, -1, t.y, t.r⟩]) rfl ?_
    refine call_mk (ok_t _ k3) rfl trivial ?_
    simp only [t3, push_cast, ↓reduceIte, reduceCtorEq, Nat.reduceBEq, Nat.reduceEqDiff, Nat.reduceAdd, Nat.reduceSub, Nat.reduceLT, Nat.reduceLeDiff, Nat.reduceMul]
    refine call_mk awake22_t rfl trivial ?_
    simp only [push_cast, ↓reduceIte, reduceCtorEq, Nat.reduceBEq, Nat.reduceEqDiff, Nat.reduceAdd, Nat.reduceSub, Nat.reduceLT, Nat.reduceLeDiff, Nat.reduceMul]
end Go.Ev
