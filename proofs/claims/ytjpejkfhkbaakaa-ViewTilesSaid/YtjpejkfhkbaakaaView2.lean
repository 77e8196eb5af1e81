import Derived.Test.YtjpejkfhkbaakaaView1
namespace Go.Ev
open Go
set_option linter.unnecessarySimpa false
set_option linter.unusedSimpArgs false
set_option linter.unusedVariables false
set_option maxRecDepth 100000 in
theorem awake22_t : Triple Go.Proofs.Try.prog 8 [] [] (bl true) [] := by
  refine apiarylaw22_awake_triple rfl (by decide) ?_
  simp only [apiarylaw22_awake_pc, List.length_nil, push_cast, ↓reduceIte, reduceCtorEq, Nat.reduceBEq, Nat.reduceEqDiff, Nat.reduceAdd, Nat.reduceSub, Nat.reduceLT, Nat.reduceLeDiff, Nat.reduceMul]
  refine call_as (as' := [Til.v ⟨1, 1, 0, 0⟩]) rfl ?_
  refine call_mk (origin_t ⟨1, 1, 0, 0⟩ (by decide)) rfl trivial ?_
  simp only [push_cast, ↓reduceIte, reduceCtorEq, Nat.reduceBEq, Nat.reduceEqDiff, Nat.reduceAdd, Nat.reduceSub, Nat.reduceLT, Nat.reduceLeDiff, Nat.reduceMul]
  rw [show (1 : Int) * 2 ^ (30 - (1 : Int)).toNat = 536870912 by decide, show (0 : Int) * 2 ^ (30 - (1 : Int)).toNat = 0 by decide, show (2 : Int) ^ (30 - (1 : Int)).toNat = 536870912 by decide]
  simp only [push_cast, ↓reduceIte, reduceCtorEq, Nat.reduceBEq, Nat.reduceEqDiff, Nat.reduceAdd, Nat.reduceSub, Nat.reduceLT, Nat.reduceLeDiff, Nat.reduceMul]
  have k0 : Til.ok ⟨0, 0, 0, 0⟩ := ⟨by decide, by decide, by decide, by decide⟩
  have k1 : Til.ok ⟨0, 0, 0, 12⟩ := ⟨by decide, by decide, by decide, by decide⟩
  have k2 : Til.ok ⟨18, 0, 0, 12⟩ := ⟨by decide, by decide, by decide, by decide⟩
  have t0 : tis ⟨0, 0, 0, 0⟩ = true := by decide
  have t1 : tis ⟨0, 0, 0, 12⟩ = true := by decide
  have f0 : fine ⟨0, 0, 0, 0⟩ = false := by decide +kernel
  have f1 : fine ⟨0, 0, 0, 12⟩ = true := by decide +kernel
  have f2 : fine ⟨18, 0, 0, 12⟩ = false := by decide +kernel
  refine call_as (as' := [Til.v ⟨0, 0, 0, 0⟩]) rfl ?_
  refine call_mk (ok_t ⟨0, 0, 0, 0⟩ k0) rfl trivial ?_
  simp only [t0, f0, push_cast, ↓reduceIte, reduceCtorEq, Nat.reduceBEq, Nat.reduceEqDiff, Nat.reduceAdd, Nat.reduceSub, Nat.reduceLT, Nat.reduceLeDiff, Nat.reduceMul]
  refine call_as (as' := [Til.v ⟨0, 0, 0, 12⟩]) rfl ?_
  refine call_mk (ok_t ⟨0, 0, 0, 12⟩ k1) rfl trivial ?_
  simp only [t1, f1, push_cast, ↓reduceIte, reduceCtorEq, Nat.reduceBEq, Nat.reduceEqDiff, Nat.reduceAdd, Nat.reduceSub, Nat.reduceLT, Nat.reduceLeDiff, Nat.reduceMul]
  refine call_as (as' := [Til.v ⟨0, 0, 0, 12⟩]) rfl ?_
  refine call_mk (fine_t ⟨0, 0, 0, 12⟩ k1) rfl trivial ?_
  simp only [f1, push_cast, ↓reduceIte, reduceCtorEq, Nat.reduceBEq, Nat.reduceEqDiff, Nat.reduceAdd, Nat.reduceSub, Nat.reduceLT, Nat.reduceLeDiff, Nat.reduceMul]
  refine call_as (as' := [Til.v ⟨18, 0, 0, 12⟩]) rfl ?_
  refine call_mk (fine_t ⟨18, 0, 0, 12⟩ k2) rfl trivial ?_
  simp only [f2, push_cast, ↓reduceIte, reduceCtorEq, Nat.reduceBEq, Nat.reduceEqDiff, Nat.reduceAdd, Nat.reduceSub, Nat.reduceLT, Nat.reduceLeDiff, Nat.reduceMul]
end Go.Ev
