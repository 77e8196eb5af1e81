import Derived.Test.YtjpejkfhkbaakaaView2
namespace Go.Ev
open Go
set_option linter.unnecessarySimpa false
set_option linter.unusedSimpArgs false
set_option linter.unusedVariables false
set_option maxRecDepth 100000 in
theorem rtile_t (t : Til) : Triple Go.Proofs.Try.prog 23 [t.v] [] (bl (tis t)) [] := by
  refine apiaryref9_tile_triple rfl (by decide) ?_
  by_cases h1 : 0 ≤ t.z ∧ t.z ≤ 18
  · have e1 : decide (t.z ≥ 0) = true := by simp [h1.1]
    have e2 : decide (t.z ≤ 18) = true := by simp [h1.2]
    have hs := shift_t t.z h1.1 (by omega)
    by_cases h2 : 0 ≤ t.x
    · have e3 : decide (t.x ≥ 0) = true := by simp [h2]
      by_cases h3 : t.x < 2 ^ t.z.toNat
      · have e4 : decide (t.x < 2 ^ t.z.toNat) = true := by simp [h3]
        by_cases h4 : 0 ≤ t.y
        · have e5 : decide (t.y ≥ 0) = true := by simp [h4]
          simp only [apiaryref9_tile_pc, Til.v, List.length_nil, e1, e2, e3, push_cast, ↓reduceIte, reduceCtorEq, Nat.reduceBEq, Nat.reduceEqDiff, Nat.reduceAdd, Nat.reduceSub, Nat.reduceLT, Nat.reduceLeDiff, Nat.reduceMul]
          refine dcall_mk hs rfl trivial ?_
          simp only [e4, e5, push_cast, ↓reduceIte, reduceCtorEq, Nat.reduceBEq, Nat.reduceEqDiff, Nat.reduceAdd, Nat.reduceSub, Nat.reduceLT, Nat.reduceLeDiff, Nat.reduceMul]
          refine dcall_mk hs rfl trivial ?_
          simp only [e4, e5, push_cast, ↓reduceIte, reduceCtorEq, Nat.reduceBEq, Nat.reduceEqDiff, Nat.reduceAdd, Nat.reduceSub, Nat.reduceLT, Nat.reduceLeDiff, Nat.reduceMul]
          refine ⟨by kernel_rfl, ?_⟩
          refine bl_iff ?_
          simp [tis]
          omega
        · have e5 : decide (t.y ≥ 0) = false := by simp; omega
          have e6 : tis t = false := by simp [tis]; omega
          simp only [apiaryref9_tile_pc, Til.v, List.length_nil, e1, e2, e3, push_cast, ↓reduceIte, reduceCtorEq, Nat.reduceBEq, Nat.reduceEqDiff, Nat.reduceAdd, Nat.reduceSub, Nat.reduceLT, Nat.reduceLeDiff, Nat.reduceMul]
          refine dcall_mk hs rfl trivial ?_
          simp only [e4, e5, e6, push_cast, ↓reduceIte, reduceCtorEq, Nat.reduceBEq, Nat.reduceEqDiff, Nat.reduceAdd, Nat.reduceSub, Nat.reduceLT, Nat.reduceLeDiff, Nat.reduceMul]
          (show _ = true); kernel_rfl
      · have e4 : decide (t.x < 2 ^ t.z.toNat) = false := by simp; omega
        have e6 : tis t = false := by simp [tis]; omega
        simp only [apiaryref9_tile_pc, Til.v, List.length_nil, e1, e2, e3, push_cast, ↓reduceIte, reduceCtorEq, Nat.reduceBEq, Nat.reduceEqDiff, Nat.reduceAdd, Nat.reduceSub, Nat.reduceLT, Nat.reduceLeDiff, Nat.reduceMul]
        refine dcall_mk hs rfl trivial ?_
        simp only [e4, e6, push_cast, ↓reduceIte, reduceCtorEq, Nat.reduceBEq, Nat.reduceEqDiff, Nat.reduceAdd, Nat.reduceSub, Nat.reduceLT, Nat.reduceLeDiff, Nat.reduceMul]
        (show _ = true); kernel_rfl
    · have e3 : decide (t.x ≥ 0) = false := by simp; omega
      have e6 : tis t = false := by simp [tis]; omega
      simp only [apiaryref9_tile_pc, Til.v, List.length_nil, e1, e2, e3, e6, push_cast, ↓reduceIte, reduceCtorEq, Nat.reduceBEq, Nat.reduceEqDiff, Nat.reduceAdd, Nat.reduceSub, Nat.reduceLT, Nat.reduceLeDiff, Nat.reduceMul]
      (show _ = true); kernel_rfl
  · have e6 : tis t = false := by simp [tis]; omega
    by_cases h0 : 0 ≤ t.z
    · have e1 : decide (t.z ≥ 0) = true := by simp [h0]
      have e2 : decide (t.z ≤ 18) = false := by simp; omega
      simp only [apiaryref9_tile_pc, Til.v, List.length_nil, e1, e2, e6, push_cast, ↓reduceIte, reduceCtorEq, Nat.reduceBEq, Nat.reduceEqDiff, Nat.reduceAdd, Nat.reduceSub, Nat.reduceLT, Nat.reduceLeDiff, Nat.reduceMul]
      (show _ = true); kernel_rfl
    · have e1 : decide (t.z ≥ 0) = false := by simp; omega
      simp only [apiaryref9_tile_pc, Til.v, List.length_nil, e1, e6, push_cast, ↓reduceIte, reduceCtorEq, Nat.reduceBEq, Nat.reduceEqDiff, Nat.reduceAdd, Nat.reduceSub, Nat.reduceLT, Nat.reduceLeDiff, Nat.reduceMul]
      (show _ = true); kernel_rfl
end Go.Ev
