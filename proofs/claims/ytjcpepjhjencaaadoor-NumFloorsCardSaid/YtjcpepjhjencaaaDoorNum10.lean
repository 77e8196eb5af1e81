import Derived.Test.YtjcpepjhjencaaaDoorNum9
namespace Go.Ev
open Go
set_option linter.unnecessarySimpa false
set_option linter.unusedSimpArgs false
set_option linter.unusedVariables false
theorem sm_in {x : Int} (h : in64 x) : sm x = .tup [int .i64 x, bl true] := (sm_yes rfl h).symm
set_option maxRecDepth 100000 in
theorem numBack_t (a b k : Int) (ha : in64 a) (hb : in64 b) (hk : in64 k) : Triple Go.Proofs.Tryd.prog 7 [int .i64 a, int .i64 b, int .i64 k] [] (bl true) [] := by
  refine apiarylaw1_NumBack_triple rfl (by decide) ?_
  obtain ⟨K, hK, K1, K2⟩ : ∃ K, k % 2 ^ 5 = K ∧ 0 ≤ K ∧ K ≤ 31 := by
    have h1 : 0 ≤ k % 2 ^ 5 := Int.emod_nonneg _ (by decide)
    have h2 : k % 2 ^ 5 < 2 ^ 5 := Int.emod_lt_of_pos _ (by decide)
    exact ⟨_, rfl, h1, by omega⟩
  have iK : in64 K := by unfold in64; omega
  have hp : 1 ≤ (2 : Int) ^ K.toNat ∧ (2 : Int) ^ K.toNat ≤ 2147483648 := by
    have h1 : 2 ^ K.toNat ≤ 2 ^ 31 := Nat.pow_le_pow_right (by decide) (by omega)
    have h2 : 1 ≤ 2 ^ K.toNat := Nat.one_le_two_pow
    have h3 : ((2 ^ K.toNat : Nat) : Int) = (2 : Int) ^ K.toNat := by simp
    omega
  have ip : in64 (2 ^ K.toNat) := by unfold in64; omega
  have e1 : (if K < 0 then AV.tup [int .i64 0, bl false] else sm (2 ^ K.toNat)) = .tup [int .i64 (2 ^ K.toNat), bl true] := by rw [if_neg (by omega), sm_in ip]
  have e2 : ∀ y, (if K < 0 then AV.tup [int .i64 0, bl false] else sm y) = sm y := fun y => if_neg (by omega)
  simp only [apiarylaw1_NumBack_pc, and_mask k 31 5 (by decide) (by decide), hK, List.length_nil, push_cast, ↓reduceIte, reduceCtorEq, Nat.reduceBEq, Nat.reduceEqDiff, Nat.reduceAdd, Nat.reduceSub, Nat.reduceLT, Nat.reduceLeDiff, Nat.reduceMul]
  refine call_mk (add_t a b ha hb) rfl trivial ?_
  cases hs : okl (a + b) with
  | true =>
    simp only [sm_in (okl_in hs), push_cast, ↓reduceIte, reduceCtorEq, Nat.reduceBEq, Nat.reduceEqDiff, Nat.reduceAdd, Nat.reduceSub, Nat.reduceLT, Nat.reduceLeDiff, Nat.reduceMul]
    refine call_mk (sub_t (a + b) b (okl_in hs) hb) rfl trivial ?_
    rw [show a + b - b = a by omega]
    simp only [sm_in ha, bne_self_eq_false, push_cast, ↓reduceIte, reduceCtorEq, Nat.reduceBEq, Nat.reduceEqDiff, Nat.reduceAdd, Nat.reduceSub, Nat.reduceLT, Nat.reduceLeDiff, Nat.reduceMul]
    refine call_mk (floor_t a b ha hb) rfl trivial ?_
    by_cases hb0 : 0 < b
    · have r0 := Int.emod_nonneg a (show b ≠ 0 by omega)
      have r1 := Int.emod_lt_of_pos a hb0
      have g1 : decide (a % b < 0) = false := by simp; omega
      have g2 : decide (a % b ≥ b) = false := by simp; omega
      have iq : in64 (a / b) := (floor_facts ha hb0).1
      have ir : in64 (a % b) := by unfold in64 at *; omega
      have ea : a / b * b + a % b = a := by have := Int.ediv_mul_add_emod a b; omega
      simp only [hb0, push_cast, ↓reduceIte, reduceCtorEq, Nat.reduceBEq, Nat.reduceEqDiff, Nat.reduceAdd, Nat.reduceSub, Nat.reduceLT, Nat.reduceLeDiff, Nat.reduceMul]
      refine call_mk (mul_t (a / b) b iq hb) rfl trivial ?_
      cases hm : okl (a / b * b) with
      | true =>
        simp only [sm_in (okl_in hm), push_cast, ↓reduceIte, reduceCtorEq, Nat.reduceBEq, Nat.reduceEqDiff, Nat.reduceAdd, Nat.reduceSub, Nat.reduceLT, Nat.reduceLeDiff, Nat.reduceMul]
        refine call_mk (add_t (a / b * b) (a % b) (okl_in hm) ir) rfl trivial ?_
        rw [ea]
        simp only [sm_in ha, bne_self_eq_false, g1, g2, push_cast, ↓reduceIte, reduceCtorEq, Nat.reduceBEq, Nat.reduceEqDiff, Nat.reduceAdd, Nat.reduceSub, Nat.reduceLT, Nat.reduceLeDiff, Nat.reduceMul]
        refine call_mk (pow_t 2 K (by decide) iK) rfl trivial ?_
        rw [e1]
        simp only [push_cast, ↓reduceIte, reduceCtorEq, Nat.reduceBEq, Nat.reduceEqDiff, Nat.reduceAdd, Nat.reduceSub, Nat.reduceLT, Nat.reduceLeDiff, Nat.reduceMul]
        refine call_mk (shl_t a K ha iK) rfl trivial ?_
        rw [e2]
        simp only [sm_vl, push_cast, ↓reduceIte, reduceCtorEq, Nat.reduceBEq, Nat.reduceEqDiff, Nat.reduceAdd, Nat.reduceSub, Nat.reduceLT, Nat.reduceLeDiff, Nat.reduceMul]
        refine call_mk (mul_t a (2 ^ K.toNat) ha ip) rfl trivial ?_
        simp only [sm_vl, push_cast, ↓reduceIte, reduceCtorEq, Nat.reduceBEq, Nat.reduceEqDiff, Nat.reduceAdd, Nat.reduceSub, Nat.reduceLT, Nat.reduceLeDiff, Nat.reduceMul]
        refine call_mk awake1_t rfl trivial ?_
        simp only [push_cast, ↓reduceIte, reduceCtorEq, Nat.reduceBEq, Nat.reduceEqDiff, Nat.reduceAdd, Nat.reduceSub, Nat.reduceLT, Nat.reduceLeDiff, Nat.reduceMul]
      | false =>
        simp only [sm_vl, hm, g1, g2, push_cast, ↓reduceIte, reduceCtorEq, Nat.reduceBEq, Nat.reduceEqDiff, Nat.reduceAdd, Nat.reduceSub, Nat.reduceLT, Nat.reduceLeDiff, Nat.reduceMul]
        refine call_mk (pow_t 2 K (by decide) iK) rfl trivial ?_
        rw [e1]
        simp only [push_cast, ↓reduceIte, reduceCtorEq, Nat.reduceBEq, Nat.reduceEqDiff, Nat.reduceAdd, Nat.reduceSub, Nat.reduceLT, Nat.reduceLeDiff, Nat.reduceMul]
        refine call_mk (shl_t a K ha iK) rfl trivial ?_
        rw [e2]
        simp only [sm_vl, push_cast, ↓reduceIte, reduceCtorEq, Nat.reduceBEq, Nat.reduceEqDiff, Nat.reduceAdd, Nat.reduceSub, Nat.reduceLT, Nat.reduceLeDiff, Nat.reduceMul]
        refine call_mk (mul_t a (2 ^ K.toNat) ha ip) rfl trivial ?_
        simp only [sm_vl, push_cast, ↓reduceIte, reduceCtorEq, Nat.reduceBEq, Nat.reduceEqDiff, Nat.reduceAdd, Nat.reduceSub, Nat.reduceLT, Nat.reduceLeDiff, Nat.reduceMul]
        refine call_mk awake1_t rfl trivial ?_
        simp only [push_cast, ↓reduceIte, reduceCtorEq, Nat.reduceBEq, Nat.reduceEqDiff, Nat.reduceAdd, Nat.reduceSub, Nat.reduceLT, Nat.reduceLeDiff, Nat.reduceMul]
    · have g1 : decide (b > 0) = false := by simp; omega
      simp only [hb0, g1, push_cast, ↓reduceIte, reduceCtorEq, Nat.reduceBEq, Nat.reduceEqDiff, Nat.reduceAdd, Nat.reduceSub, Nat.reduceLT, Nat.reduceLeDiff, Nat.reduceMul]
      refine call_mk (pow_t 2 K (by decide) iK) rfl trivial ?_
      rw [e1]
      simp only [push_cast, ↓reduceIte, reduceCtorEq, Nat.reduceBEq, Nat.reduceEqDiff, Nat.reduceAdd, Nat.reduceSub, Nat.reduceLT, Nat.reduceLeDiff, Nat.reduceMul]
      refine call_mk (shl_t a K ha iK) rfl trivial ?_
      rw [e2]
      simp only [sm_vl, push_cast, ↓reduceIte, reduceCtorEq, Nat.reduceBEq, Nat.reduceEqDiff, Nat.reduceAdd, Nat.reduceSub, Nat.reduceLT, Nat.reduceLeDiff, Nat.reduceMul]
      refine call_mk (mul_t a (2 ^ K.toNat) ha ip) rfl trivial ?_
      simp only [sm_vl, push_cast, ↓reduceIte, reduceCtorEq, Nat.reduceBEq, Nat.reduceEqDiff, Nat.reduceAdd, Nat.reduceSub, Nat.reduceLT, Nat.reduceLeDiff, Nat.reduceMul]
      refine call_mk awake1_t rfl trivial ?_
      simp only [push_cast, ↓reduceIte, reduceCtorEq, Nat.reduceBEq, Nat.reduceEqDiff, Nat.reduceAdd, Nat.reduceSub, Nat.reduceLT, Nat.reduceLeDiff, Nat.reduceMul]
  | false =>
    simp only [sm_vl, hs, push_cast, ↓reduceIte, reduceCtorEq, Nat.reduceBEq, Nat.reduceEqDiff, Nat.reduceAdd, Nat.reduceSub, Nat.reduceLT, Nat.reduceLeDiff, Nat.reduceMul]
    refine call_mk (floor_t a b ha hb) rfl trivial ?_
    by_cases hb0 : 0 < b
    · have r0 := Int.emod_nonneg a (show b ≠ 0 by omega)
      have r1 := Int.emod_lt_of_pos a hb0
      have g1 : decide (a % b < 0) = false := by simp; omega
      have g2 : decide (a % b ≥ b) = false := by simp; omega
      have iq : in64 (a / b) := (floor_facts ha hb0).1
      have ir : in64 (a % b) := by unfold in64 at *; omega
      have ea : a / b * b + a % b = a := by have := Int.ediv_mul_add_emod a b; omega
      simp only [hb0, push_cast, ↓reduceIte, reduceCtorEq, Nat.reduceBEq, Nat.reduceEqDiff, Nat.reduceAdd, Nat.reduceSub, Nat.reduceLT, Nat.reduceLeDiff, Nat.reduceMul]
      refine call_mk (mul_t (a / b) b iq hb) rfl trivial ?_
      cases hm : okl (a / b * b) with
      | true =>
        simp only [sm_in (okl_in hm), push_cast, ↓reduceIte, reduceCtorEq, Nat.reduceBEq, Nat.reduceEqDiff, Nat.reduceAdd, Nat.reduceSub, Nat.reduceLT, Nat.reduceLeDiff, Nat.reduceMul]
        refine call_mk (add_t (a / b * b) (a % b) (okl_in hm) ir) rfl trivial ?_
        rw [ea]
        simp only [sm_in ha, bne_self_eq_false, g1, g2, push_cast, ↓reduceIte, reduceCtorEq, Nat.reduceBEq, Nat.reduceEqDiff, Nat.reduceAdd, Nat.reduceSub, Nat.reduceLT, Nat.reduceLeDiff, Nat.reduceMul]
        refine call_mk (pow_t 2 K (by decide) iK) rfl trivial ?_
        rw [e1]
        simp only [push_cast, ↓reduceIte, reduceCtorEq, Nat.reduceBEq, Nat.reduceEqDiff, Nat.reduceAdd, Nat.reduceSub, Nat.reduceLT, Nat.reduceLeDiff, Nat.reduceMul]
        refine call_mk (shl_t a K ha iK) rfl trivial ?_
        rw [e2]
        simp only [sm_vl, push_cast, ↓reduceIte, reduceCtorEq, Nat.reduceBEq, Nat.reduceEqDiff, Nat.reduceAdd, Nat.reduceSub, Nat.reduceLT, Nat.reduceLeDiff, Nat.reduceMul]
        refine call_mk (mul_t a (2 ^ K.toNat) ha ip) rfl trivial ?_
        simp only [sm_vl, push_cast, ↓reduceIte, reduceCtorEq, Nat.reduceBEq, Nat.reduceEqDiff, Nat.reduceAdd, Nat.reduceSub, Nat.reduceLT, Nat.reduceLeDiff, Nat.reduceMul]
        refine call_mk awake1_t rfl trivial ?_
        simp only [push_cast, ↓reduceIte, reduceCtorEq, Nat.reduceBEq, Nat.reduceEqDiff, Nat.reduceAdd, Nat.reduceSub, Nat.reduceLT, Nat.reduceLeDiff, Nat.reduceMul]
      | false =>
        simp only [sm_vl, hm, g1, g2, push_cast, ↓reduceIte, reduceCtorEq, Nat.reduceBEq, Nat.reduceEqDiff, Nat.reduceAdd, Nat.reduceSub, Nat.reduceLT, Nat.reduceLeDiff, Nat.reduceMul]
        refine call_mk (pow_t 2 K (by decide) iK) rfl trivial ?_
        rw [e1]
        simp only [push_cast, ↓reduceIte, reduceCtorEq, Nat.reduceBEq, Nat.reduceEqDiff, Nat.reduceAdd, Nat.reduceSub, Nat.reduceLT, Nat.reduceLeDiff, Nat.reduceMul]
        refine call_mk (shl_t a K ha iK) rfl trivial ?_
        rw [e2]
        simp only [sm_vl, push_cast, ↓reduceIte, reduceCtorEq, Nat.reduceBEq, Nat.reduceEqDiff, Nat.reduceAdd, Nat.reduceSub, Nat.reduceLT, Nat.reduceLeDiff, Nat.reduceMul]
        refine call_mk (mul_t a (2 ^ K.toNat) ha ip) rfl trivial ?_
        simp only [sm_vl, push_cast, ↓reduceIte, reduceCtorEq, Nat.reduceBEq, Nat.reduceEqDiff, Nat.reduceAdd, Nat.reduceSub, Nat.reduceLT, Nat.reduceLeDiff, Nat.reduceMul]
        refine call_mk awake1_t rfl trivial ?_
        simp only [push_cast, ↓reduceIte, reduceCtorEq, Nat.reduceBEq, Nat.reduceEqDiff, Nat.reduceAdd, Nat.reduceSub, Nat.reduceLT, Nat.reduceLeDiff, Nat.reduceMul]
    · have g1 : decide (b > 0) = false := by simp; omega
      simp only [hb0, g1, push_cast, ↓reduceIte, reduceCtorEq, Nat.reduceBEq, Nat.reduceEqDiff, Nat.reduceAdd, Nat.reduceSub, Nat.reduceLT, Nat.reduceLeDiff, Nat.reduceMul]
      refine call_mk (pow_t 2 K (by decide) iK) rfl trivial ?_
      rw [e1]
      simp only [push_cast, ↓reduceIte, reduceCtorEq, Nat.reduceBEq, Nat.reduceEqDiff, Nat.reduceAdd, Nat.reduceSub, Nat.reduceLT, Nat.reduceLeDiff, Nat.reduceMul]
      refine call_mk (shl_t a K ha iK) rfl trivial ?_
      rw [e2]
      simp only [sm_vl, push_cast, ↓reduceIte, reduceCtorEq, Nat.reduceBEq, Nat.reduceEqDiff, Nat.reduceAdd, Nat.reduceSub, Nat.reduceLT, Nat.reduceLeDiff, Nat.reduceMul]
      refine call_mk (mul_t a (2 ^ K.toNat) ha ip) rfl trivial ?_
      simp only [sm_vl, push_cast, ↓reduceIte, reduceCtorEq, Nat.reduceBEq, Nat.reduceEqDiff, Nat.reduceAdd, Nat.reduceSub, Nat.reduceLT, Nat.reduceLeDiff, Nat.reduceMul]
      refine call_mk awake1_t rfl trivial ?_
      simp only [push_cast, ↓reduceIte, reduceCtorEq, Nat.reduceBEq, Nat.reduceEqDiff, Nat.reduceAdd, Nat.reduceSub, Nat.reduceLT, Nat.reduceLeDiff, Nat.reduceMul]
end Go.Ev
