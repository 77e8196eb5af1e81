import Derived.Test.YtjpejkfhkbaakaaNum4
namespace Go.Ev
open Go
set_option linter.unnecessarySimpa false
set_option linter.unusedSimpArgs false
set_option linter.unusedVariables false
theorem pow_unit {a : Int} (h : -1 ≤ a ∧ a ≤ 1) (n : Nat) : -1 ≤ a ^ n ∧ a ^ n ≤ 1 := by
  induction n with
  | zero => simp
  | succ n ih =>
    rw [Int.pow_succ]
    have : a = -1 ∨ a = 0 ∨ a = 1 := by omega
    rcases this with rfl | rfl | rfl <;> omega
theorem pow_odd (n : Nat) : (-1 : Int) ^ n = if n % 2 = 1 then -1 else 1 := by
  induction n with
  | zero => rfl
  | succ n ih =>
    rw [Int.pow_succ, ih]
    split <;> split <;> omega
set_option maxRecDepth 100000 in
theorem rpow_t (a k : Int) (ha : in64 a) (hk : in64 k) : Triple Go.Proofs.Try.prog 43 [int .i64 a, int .i64 k] [] (if k < 0 then .tup [int .i64 0, bl false] else sm (a ^ k.toNat)) [] := by
  refine apiaryref1_Pow_triple rfl (by decide) ?_
  simp only [apiaryref1_Pow_pc, List.length_nil, push_cast, ↓reduceIte, reduceCtorEq, Nat.reduceBEq, Nat.reduceEqDiff, Nat.reduceAdd, Nat.reduceSub, Nat.reduceLT, Nat.reduceLeDiff, Nat.reduceMul]
  refine cnd_mk (fun h1 => ?_) (fun h1 => ?_)
  · simp only [decide_eq_true_eq] at h1
    simp only [if_pos h1, push_cast, ↓reduceIte, reduceCtorEq, Nat.reduceBEq, Nat.reduceEqDiff, Nat.reduceAdd, Nat.reduceSub, Nat.reduceLT, Nat.reduceLeDiff, Nat.reduceMul]
  · simp only [decide_eq_false_iff_not] at h1
    simp only [if_neg h1, push_cast, ↓reduceIte, reduceCtorEq, Nat.reduceBEq, Nat.reduceEqDiff, Nat.reduceAdd, Nat.reduceSub, Nat.reduceLT, Nat.reduceLeDiff, Nat.reduceMul]
    refine run_loop [(0, false), (1, false), (6, false), (7, false)] (fun vs pos los => ∃ (n i : Int), 0 ≤ i ∧ i ≤ k ∧ in64 n ∧ n = a ^ i.toNat ∧ vs = [int .i64 a, int .i64 k, int .i64 n, int .i64 i] ∧ pos = [] ∧ los = [])
      (fun vs _ _ => match vs with | [_, _, _, .r (.v (.int _ j))] => (k - j).toNat | _ => 0) rfl ?_ ?_
    · simp only [push_cast, ↓reduceIte, reduceCtorEq, Nat.reduceBEq, Nat.reduceEqDiff, Nat.reduceAdd, Nat.reduceSub, Nat.reduceLT, Nat.reduceLeDiff, Nat.reduceMul]
      exact ⟨1, 0, by omega, by omega, by decide, by simp, rfl⟩
    · rintro vs pos los ⟨n, i, i0, ik, hn, hna, rfl, rfl, rfl⟩
      simp only [push_cast, ↓reduceIte, reduceCtorEq, Nat.reduceBEq, Nat.reduceEqDiff, Nat.reduceAdd, Nat.reduceSub, Nat.reduceLT, Nat.reduceLeDiff, Nat.reduceMul]
      unfold in64 at hk
      refine cnd_mk (fun h => ?_) (fun h => ?_)
      · simp only [decide_eq_true_eq] at h
        simp only [push_cast, ↓reduceIte, reduceCtorEq, Nat.reduceBEq, Nat.reduceEqDiff, Nat.reduceAdd, Nat.reduceSub, Nat.reduceLT, Nat.reduceLeDiff, Nat.reduceMul]
        repeat refine And.intro (by simp +contextual) ?_
        have hT : n * a * a ^ (k - i - 1).toNat = a ^ k.toNat := by
          rw [hna, Int.mul_assoc, ← Int.pow_succ', ← Int.pow_add]
          congr 1
          omega
        refine cnd_mk (fun h2 => ?_) (fun h2 => ?_)
        · simp only [push_cast, ↓reduceIte, reduceCtorEq, Nat.reduceBEq, Nat.reduceEqDiff, Nat.reduceAdd, Nat.reduceSub, Nat.reduceLT, Nat.reduceLeDiff, Nat.reduceMul]
          have h3 : n = 0 ∨ a = 1 := by
            by_cases p : n = 0 <;> by_cases q : n = 1 <;> by_cases r : a = 1 <;> simp [p, q, r] at h2 ⊢
          refine sm_yes ?_ ?_
          · rcases h3 with h3 | h3
            · rw [← hT, h3]; simp
            · rw [hna, h3, Int.one_pow, Int.one_pow]
          · rcases h3 with h3 | h3
            · rw [← hT, h3]; simp; decide
            · rw [h3, Int.one_pow]; decide
        · simp only [push_cast, ↓reduceIte, reduceCtorEq, Nat.reduceBEq, Nat.reduceEqDiff, Nat.reduceAdd, Nat.reduceSub, Nat.reduceLT, Nat.reduceLeDiff, Nat.reduceMul]
          refine cnd_mk (fun h4 => ?_) (fun h4 => ?_)
          · simp only [push_cast, ↓reduceIte, reduceCtorEq, Nat.reduceBEq, Nat.reduceEqDiff, Nat.reduceAdd, Nat.reduceSub, Nat.reduceLT, Nat.reduceLeDiff, Nat.reduceMul]
            have h4 : a = -1 := by simpa using h4
            subst h4
            have e0 : k.tmod 2 = k % 2 := Int.tmod_eq_emod_of_nonneg (by omega)
            refine ⟨by decide, ?_⟩
            rw [e0]
            refine cnd_mk (fun h5 => ?_) (fun h5 => ?_)
            · simp only [push_cast, ↓reduceIte, reduceCtorEq, Nat.reduceBEq, Nat.reduceEqDiff, Nat.reduceAdd, Nat.reduceSub, Nat.reduceLT, Nat.reduceLeDiff, Nat.reduceMul]
              have h5 : k % 2 = 1 := by simpa using h5
              exact sm_yes (by rw [pow_odd, if_pos (by omega)]) (by rw [pow_odd, if_pos (by omega)]; decide)
            · simp only [push_cast, ↓reduceIte, reduceCtorEq, Nat.reduceBEq, Nat.reduceEqDiff, Nat.reduceAdd, Nat.reduceSub, Nat.reduceLT, Nat.reduceLeDiff, Nat.reduceMul]
              have h5 : ¬ k % 2 = 1 := by simpa using h5
              exact sm_yes (by rw [pow_odd, if_neg (by omega)]) (by rw [pow_odd, if_neg (by omega)]; decide)
          · simp only [push_cast, ↓reduceIte, reduceCtorEq, Nat.reduceBEq, Nat.reduceEqDiff, Nat.reduceAdd, Nat.reduceSub, Nat.reduceLT, Nat.reduceLeDiff, Nat.reduceMul]
            refine call_mk (times_t n a hn ha) rfl trivial ?_
            simp only [wide, push_cast, ↓reduceIte, reduceCtorEq, Nat.reduceBEq, Nat.reduceEqDiff, Nat.reduceAdd, Nat.reduceSub, Nat.reduceLT, Nat.reduceLeDiff, Nat.reduceMul]
            have hb : (n * a).natAbs ≤ 9223372036854775808 * 9223372036854775808 := by
              rw [Int.natAbs_mul]
              unfold in64 at hn ha
              exact Nat.mul_le_mul (by omega) (by omega)
            refine call_as (as' := [wide (n * a)]) rfl ?_
            refine call_mk (small_t (n * a) (by omega)) rfl trivial ?_
            simp only [sm, push_cast, ↓reduceIte, reduceCtorEq, Nat.reduceBEq, Nat.reduceEqDiff, Nat.reduceAdd, Nat.reduceSub, Nat.reduceLT, Nat.reduceLeDiff, Nat.reduceMul]
            refine cnd_mk (fun h6 => ?_) (fun h6 => ?_)
            · simp only [push_cast, ↓reduceIte, reduceCtorEq, Nat.reduceBEq, Nat.reduceEqDiff, Nat.reduceAdd, Nat.reduceSub, Nat.reduceLT, Nat.reduceLeDiff, Nat.reduceMul]
              have h6 : ¬ in64 (n * a) := by simpa using h6
              refine sm_no ?_
              exact pow_out (fun hs => by rw [hna]; exact pow_unit hs _) hn ha h6 hT
            · simp only [push_cast, ↓reduceIte, reduceCtorEq, Nat.reduceBEq, Nat.reduceEqDiff, Nat.reduceAdd, Nat.reduceSub, Nat.reduceLT, Nat.reduceLeDiff, Nat.reduceMul]
              have h6 : in64 (n * a) := by simpa using h6
              rw [if_pos h6, show IntKind.i64.wrap (i + 1) = i + 1 from wrap_id (by omega)]
              refine ⟨⟨n * a, i + 1, by omega, by omega, h6, ?_, rfl⟩, by omega⟩
              rw [show (i + 1).toNat = i.toNat + 1 by omega, Int.pow_succ, ← hna]
      · simp only [decide_eq_false_iff_not] at h
        simp only [push_cast, ↓reduceIte, reduceCtorEq, Nat.reduceBEq, Nat.reduceEqDiff, Nat.reduceAdd, Nat.reduceSub, Nat.reduceLT, Nat.reduceLeDiff, Nat.reduceMul]
        have : i = k := by omega
        subst this
        exact sm_yes hna (by rw [← hna]; exact hn)
end Go.Ev
