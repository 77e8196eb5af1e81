import Derived.Test.YtjcpepjhjencaaaDoorNum10
namespace Go.Ev
open Go
set_option linter.unnecessarySimpa false
set_option linter.unusedSimpArgs false
set_option linter.unusedVariables false
theorem pow_out2 {a : Int} {i k : Nat} (ha : a ≠ 0) (h : ¬ in64 (a ^ i)) : ¬ in64 (a ^ (i + k)) := by
  intro hT
  rw [Int.pow_add] at hT
  have hk0 : a ^ k ≠ 0 := Int.pow_ne_zero ha
  have h1 : (a ^ i * a ^ k).natAbs = (a ^ i).natAbs * (a ^ k).natAbs := Int.natAbs_mul _ _
  have h2 : 1 ≤ (a ^ k).natAbs := by omega
  by_cases h3 : (a ^ k).natAbs = 1
  · have h4 : a.natAbs ^ k = 1 := by rw [← Int.natAbs_pow]; exact h3
    rcases Nat.pow_eq_one.1 h4 with h5 | h5
    · have : (a ^ i).natAbs = 1 := by rw [Int.natAbs_pow, h5, Nat.one_pow]
      apply h; unfold in64; omega
    · subst h5
      simp at hT
      exact h hT
  · have h5 : (a ^ i).natAbs * 2 ≤ (a ^ i).natAbs * (a ^ k).natAbs := Nat.mul_le_mul_left _ (by omega)
    unfold in64 at h hT
    omega
set_option maxRecDepth 100000 in
theorem numPowers_t (a i k : Int) (ha : in64 a) (hi : in64 i) (hk : in64 k) : Triple Go.Proofs.Tryd.prog 4 [int .i64 a, int .i64 i, int .i64 k] [] (bl true) [] := by
  refine apiarylaw1_NumPowers_triple rfl (by decide) ?_
  obtain ⟨K, hK, K1, K2⟩ : ∃ K, k % 2 ^ 5 = K ∧ 0 ≤ K ∧ K ≤ 31 := by
    have h1 : 0 ≤ k % 2 ^ 5 := Int.emod_nonneg _ (by decide)
    have h2 : k % 2 ^ 5 < 2 ^ 5 := Int.emod_lt_of_pos _ (by decide)
    exact ⟨_, rfl, h1, by omega⟩
  obtain ⟨I, hI, I1, I2⟩ : ∃ K, i % 2 ^ 5 = K ∧ 0 ≤ K ∧ K ≤ 31 := by
    have h1 : 0 ≤ i % 2 ^ 5 := Int.emod_nonneg _ (by decide)
    have h2 : i % 2 ^ 5 < 2 ^ 5 := Int.emod_lt_of_pos _ (by decide)
    exact ⟨_, rfl, h1, by omega⟩
  have i0 : ∀ x : Int, -1 ≤ x ∧ x ≤ 2000000 → in64 x := fun x h => by unfold in64; omega
  have w1 : IntKind.i64.wrap (I + K) = I + K := wrap_id (by omega)
  have w2 : IntKind.i64.wrap (2 * I) = 2 * I := wrap_id (by omega)
  have w3 : IntKind.i64.wrap (2 * I + 1) = 2 * I + 1 := wrap_id (by omega)
  have w4 : IntKind.i64.wrap (I + 1) = I + 1 := wrap_id (by omega)
  have e2 : ∀ x y : Int, 0 ≤ x → (if x < 0 then AV.tup [int .i64 0, bl false] else sm y) = sm y := fun x y hx => if_neg (by omega)
  have s1 : sm (1 ^ (1048576 : Int).toNat) = .tup [int .i64 1, bl true] := by rw [Int.one_pow]; exact sm_in (by decide)
  have s2 : sm ((-1) ^ (2 * I + 1).toNat) = .tup [int .i64 (-1), bl true] := by
    rw [pow_odd, if_pos (by omega)]; exact sm_in (by decide)
  have s3 : sm (0 ^ (I + 1).toNat) = .tup [int .i64 0, bl true] := by
    rw [Int.zero_pow (by omega)]; exact sm_in (by decide)
  have hadd : (I + K).toNat = I.toNat + K.toNat := by omega
  simp only [apiarylaw1_NumPowers_pc, and_mask k 31 5 (by decide) (by decide), and_mask i 31 5 (by decide) (by decide), hK, hI, List.length_nil, push_cast, ↓reduceIte, reduceCtorEq, Nat.reduceBEq, Nat.reduceEqDiff, Nat.reduceAdd, Nat.reduceSub, Nat.reduceLT, Nat.reduceLeDiff, Nat.reduceMul]
  refine call_mk (pow_t a I ha (i0 _ (by omega))) rfl trivial ?_
  rw [e2 _ _ I1]
  simp only [sm_vl, push_cast, ↓reduceIte, reduceCtorEq, Nat.reduceBEq, Nat.reduceEqDiff, Nat.reduceAdd, Nat.reduceSub, Nat.reduceLT, Nat.reduceLeDiff, Nat.reduceMul]
  refine call_mk (pow_t a K ha (i0 _ (by omega))) rfl trivial ?_
  rw [e2 _ _ K1]
  simp only [sm_vl, w1, push_cast, ↓reduceIte, reduceCtorEq, Nat.reduceBEq, Nat.reduceEqDiff, Nat.reduceAdd, Nat.reduceSub, Nat.reduceLT, Nat.reduceLeDiff, Nat.reduceMul]
  refine call_mk (pow_t a (I + K) ha (i0 _ (by omega))) rfl trivial ?_
  rw [e2 _ _ (by omega)]
  simp only [sm_vl, w1, push_cast, ↓reduceIte, reduceCtorEq, Nat.reduceBEq, Nat.reduceEqDiff, Nat.reduceAdd, Nat.reduceSub, Nat.reduceLT, Nat.reduceLeDiff, Nat.reduceMul]
  have both : okl (a ^ I.toNat) = true → okl (a ^ K.toNat) = true → (decide (in64 (a ^ (I + K).toNat))) = okl (vl (a ^ I.toNat) * vl (a ^ K.toNat)) ∧ vl (a ^ (I + K).toNat) = vl (vl (a ^ I.toNat) * vl (a ^ K.toNat)) := fun h1 h2 => by
    rw [vl_yes h1, vl_yes h2, ← Int.pow_add, hadd]
    exact ⟨rfl, rfl⟩
  have none : okl (a ^ I.toNat) = false ∨ okl (a ^ K.toNat) = false → a ≠ 0 → okl (a ^ (I + K).toNat) = false := fun h ha => by
    rw [hadd]
    rcases h with h | h
    · exact okl_no (pow_out2 ha (of_decide_eq_false h))
    · rw [Nat.add_comm]
      exact okl_no (pow_out2 ha (of_decide_eq_false h))
  cases h1 : okl (a ^ I.toNat) <;> cases h2 : okl (a ^ K.toNat)
  case true.true =>
    obtain ⟨b1, b2⟩ := both h1 h2
    simp only [push_cast, ↓reduceIte, reduceCtorEq, Nat.reduceBEq, Nat.reduceEqDiff, Nat.reduceAdd, Nat.reduceSub, Nat.reduceLT, Nat.reduceLeDiff, Nat.reduceMul]
    refine call_mk (mul_t _ _ (vl_in _) (vl_in _)) rfl trivial ?_
    rw [sm_vl, ← b2, ← b1]
    simp only [okl, bne_self_eq_false, push_cast, ↓reduceIte, reduceCtorEq, Nat.reduceBEq, Nat.reduceEqDiff, Nat.reduceAdd, Nat.reduceSub, Nat.reduceLT, Nat.reduceLeDiff, Nat.reduceMul]
    refine call_mk (pow_t 1 1048576 (by decide) (i0 _ (by omega))) rfl trivial ?_
    rw [e2 _ _ (by decide), s1]
    simp only [w2, w3, w4, push_cast, ↓reduceIte, reduceCtorEq, Nat.reduceBEq, Nat.reduceEqDiff, Nat.reduceAdd, Nat.reduceSub, Nat.reduceLT, Nat.reduceLeDiff, Nat.reduceMul]
    refine call_mk (pow_t (-1) (2 * I + 1) (by decide) (i0 _ (by omega))) rfl trivial ?_
    rw [e2 _ _ (by omega), s2]
    simp only [w2, w3, w4, push_cast, ↓reduceIte, reduceCtorEq, Nat.reduceBEq, Nat.reduceEqDiff, Nat.reduceAdd, Nat.reduceSub, Nat.reduceLT, Nat.reduceLeDiff, Nat.reduceMul]
    refine call_mk (pow_t 0 (I + 1) (by decide) (i0 _ (by omega))) rfl trivial ?_
    rw [e2 _ _ (by omega), s3]
    simp only [w2, w3, w4, push_cast, ↓reduceIte, reduceCtorEq, Nat.reduceBEq, Nat.reduceEqDiff, Nat.reduceAdd, Nat.reduceSub, Nat.reduceLT, Nat.reduceLeDiff, Nat.reduceMul]
    refine call_mk (pow_t a (-1) ha (i0 _ (by omega))) rfl trivial ?_
    rw [if_pos (by decide)]
    simp only [w2, w3, w4, push_cast, ↓reduceIte, reduceCtorEq, Nat.reduceBEq, Nat.reduceEqDiff, Nat.reduceAdd, Nat.reduceSub, Nat.reduceLT, Nat.reduceLeDiff, Nat.reduceMul]
    refine call_mk awake1_t rfl trivial ?_
    simp only [push_cast, ↓reduceIte, reduceCtorEq, Nat.reduceBEq, Nat.reduceEqDiff, Nat.reduceAdd, Nat.reduceSub, Nat.reduceLT, Nat.reduceLeDiff, Nat.reduceMul]
  all_goals
    have hz : (bif okl (a ^ (I + K).toNat) then a != 0 else false) = false := by
      by_cases h0 : a = 0
      · simp [h0]
      · rw [none (by first | exact .inl h1 | exact .inr h2) h0]; rfl
    simp only [push_cast, ↓reduceIte, reduceCtorEq, Nat.reduceBEq, Nat.reduceEqDiff, Nat.reduceAdd, Nat.reduceSub, Nat.reduceLT, Nat.reduceLeDiff, Nat.reduceMul]
    repeat refine And.intro (by simp +contextual) ?_
    refine cnd_mk (fun h => ?_) (fun h => ?_)
    · rw [hz] at h; cases h
    simp only [push_cast, ↓reduceIte, reduceCtorEq, Nat.reduceBEq, Nat.reduceEqDiff, Nat.reduceAdd, Nat.reduceSub, Nat.reduceLT, Nat.reduceLeDiff, Nat.reduceMul]
    refine call_mk (pow_t 1 1048576 (by decide) (i0 _ (by omega))) rfl trivial ?_
    rw [e2 _ _ (by decide), s1]
    simp only [w2, w3, w4, push_cast, ↓reduceIte, reduceCtorEq, Nat.reduceBEq, Nat.reduceEqDiff, Nat.reduceAdd, Nat.reduceSub, Nat.reduceLT, Nat.reduceLeDiff, Nat.reduceMul]
    refine call_mk (pow_t (-1) (2 * I + 1) (by decide) (i0 _ (by omega))) rfl trivial ?_
    rw [e2 _ _ (by omega), s2]
    simp only [w2, w3, w4, push_cast, ↓reduceIte, reduceCtorEq, Nat.reduceBEq, Nat.reduceEqDiff, Nat.reduceAdd, Nat.reduceSub, Nat.reduceLT, Nat.reduceLeDiff, Nat.reduceMul]
    refine call_mk (pow_t 0 (I + 1) (by decide) (i0 _ (by omega))) rfl trivial ?_
    rw [e2 _ _ (by omega), s3]
    simp only [w2, w3, w4, push_cast, ↓reduceIte, reduceCtorEq, Nat.reduceBEq, Nat.reduceEqDiff, Nat.reduceAdd, Nat.reduceSub, Nat.reduceLT, Nat.reduceLeDiff, Nat.reduceMul]
    refine call_mk (pow_t a (-1) ha (i0 _ (by omega))) rfl trivial ?_
    rw [if_pos (by decide)]
    simp only [w2, w3, w4, push_cast, ↓reduceIte, reduceCtorEq, Nat.reduceBEq, Nat.reduceEqDiff, Nat.reduceAdd, Nat.reduceSub, Nat.reduceLT, Nat.reduceLeDiff, Nat.reduceMul]
    refine call_mk awake1_t rfl trivial ?_
    simp only [push_cast, ↓reduceIte, reduceCtorEq, Nat.reduceBEq, Nat.reduceEqDiff, Nat.reduceAdd, Nat.reduceSub, Nat.reduceLT, Nat.reduceLeDiff, Nat.reduceMul]
end Go.Ev
