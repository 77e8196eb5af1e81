import Derived.Test.YtjpejkfhkbaakaaGeo2
namespace Go.Ev
open Go
set_option linter.unnecessarySimpa false
set_option linter.unusedSimpArgs false
set_option linter.unusedVariables false
/-- Behind i of the candidates. -/
def pkN (d a b : Int) (i : Nat) : Int × Ei := (cands.take i).foldl (pk d a b) (0, ⟨0, 0⟩)
theorem pkN_succ (d a b : Int) (i : Nat) (z : Ei) (h : cands[i]? = some z) : pkN d a b (i + 1) = pk d a b (pkN d a b i) z := by
  unfold pkN
  rw [List.take_add_one, h]
  simp
theorem pkN_end {d a b : Int} (ha : 0 ≤ a ∧ a < d) (hb : 0 ≤ b ∧ b < d) : (pkN d a b 3).2 = near0 d a b := near0_least ha hb
theorem pkN_in (d a b : Int) : ∀ i, (0 ≤ (pkN d a b i).2.a ∧ (pkN d a b i).2.a ≤ 1) ∧ (0 ≤ (pkN d a b i).2.b ∧ (pkN d a b i).2.b ≤ 1)
  | 0 => by simp [pkN]
  | i + 1 => by
    have ih := pkN_in d a b i
    rcases h : cands[i]? with _ | z
    · have : pkN d a b (i + 1) = pkN d a b i := by unfold pkN; rw [List.take_add_one, h]; simp
      rw [this]; exact ih
    · rw [pkN_succ d a b i z h]
      unfold pk
      split
      · have : z ∈ cands := List.mem_of_getElem? h
        simp [cands] at this
        rcases this with rfl | rfl | rfl <;> simp
      · exact ih
theorem div_in {a d n : Int} (h : -n ≤ a ∧ a ≤ n) (hd : 1 ≤ d) : -n ≤ a / d ∧ a / d ≤ n := by
  have h1 := Int.mul_ediv_add_emod a d
  have h5 := Int.emod_lt_of_pos a (show 0 < d by omega)
  have h6 := Int.emod_nonneg a (show d ≠ 0 by omega)
  generalize a / d = q at *
  generalize a % d = r at *
  constructor
  · rcases Int.lt_or_le q 0 with hq | hq
    · have : d * (q + 1) ≤ 1 * (q + 1) := Int.mul_le_mul_of_nonpos_right (by omega) (by omega)
      rw [Int.mul_add] at this
      omega
    · omega
  · rcases Int.lt_or_le q 0 with hq | hq
    · omega
    · have : 1 * q ≤ d * q := Int.mul_le_mul_of_nonneg_right (by omega) hq
      omega
set_option maxRecDepth 100000 in
theorem eround_t (u : Ei) (d : Int) (hu : u.In 1152921504606846976) (hd : 1 ≤ d ∧ d ≤ 1125899906842624) : Triple Go.Proofs.Try.prog 60 [u.v, int .i64 d] [] (.tup [(u.round d).v, bl true]) [] := by
  refine eisen_Round_triple rfl (by decide) ?_
  have hu' := hu
  unfold Ei.In at hu'
  have c1 : decide (d < 1) = false := by simp; omega
  have c2 : decide (d > 1125899906842624) = false := by simp; omega
  have ia : in64 u.a := by unfold in64; omega
  have ib : in64 u.b := by unfold in64; omega
  have ed : in64 d := by unfold in64; omega
  simp only [eisen_Round_pc, Ei.v, Ei.rv, List.length_nil, c1, c2, push_cast, ↓reduceIte, reduceCtorEq, Nat.reduceBEq, Nat.reduceEqDiff, Nat.reduceAdd, Nat.reduceSub, Nat.reduceLT, Nat.reduceLeDiff, Nat.reduceMul]
  refine call_mk (within_t _ _ ia (by decide)) rfl trivial ?_
  rw [show decide (-1152921504606846976 ≤ u.a ∧ u.a ≤ 1152921504606846976) = true from decide_eq_true hu'.1]
  simp only [push_cast, ↓reduceIte, reduceCtorEq, Nat.reduceBEq, Nat.reduceEqDiff, Nat.reduceAdd, Nat.reduceSub, Nat.reduceLT, Nat.reduceLeDiff, Nat.reduceMul]
  refine call_mk (within_t _ _ ib (by decide)) rfl trivial ?_
  rw [show decide (-1152921504606846976 ≤ u.b ∧ u.b ≤ 1152921504606846976) = true from decide_eq_true hu'.2]
  simp only [push_cast, ↓reduceIte, reduceCtorEq, Nat.reduceBEq, Nat.reduceEqDiff, Nat.reduceAdd, Nat.reduceSub, Nat.reduceLT, Nat.reduceLeDiff, Nat.reduceMul]
  refine call_mk (floor_t _ _ ia ed) rfl trivial ?_
  have hd0 : 0 < d := by omega
  simp only [hd0, if_true, push_cast, ↓reduceIte, reduceCtorEq, Nat.reduceBEq, Nat.reduceEqDiff, Nat.reduceAdd, Nat.reduceSub, Nat.reduceLT, Nat.reduceLeDiff, Nat.reduceMul]
  refine call_mk (floor_t _ _ ib ed) rfl trivial ?_
  simp only [hd0, if_true, push_cast, ↓reduceIte, reduceCtorEq, Nat.reduceBEq, Nat.reduceEqDiff, Nat.reduceAdd, Nat.reduceSub, Nat.reduceLT, Nat.reduceLeDiff, Nat.reduceMul]
  have ha : 0 ≤ u.a % d ∧ u.a % d < d := ⟨Int.emod_nonneg _ (by omega), Int.emod_lt_of_pos _ hd0⟩
  have hb : 0 ≤ u.b % d ∧ u.b % d < d := ⟨Int.emod_nonneg _ (by omega), Int.emod_lt_of_pos _ hd0⟩
  have hqa : -1152921504606846976 ≤ u.a / d ∧ u.a / d ≤ 1152921504606846976 := div_in hu'.1 hd.1
  have hqb : -1152921504606846976 ≤ u.b / d ∧ u.b / d ≤ 1152921504606846976 := div_in hu'.2 hd.1
  generalize hA : u.a % d = a at *
  generalize hB : u.b % d = b at *
  generalize hQa : u.a / d = qa at *
  generalize hQb : u.b / d = qb at *
  refine ⟨by simp, ?_⟩
  refine run_loop [(57, false), (58, false), (59, false), (1, false), (4, false), (5, false), (6, false), (7, false), (9, false), (10, false), (12, false), (13, false)] (fun vs pos los => ∃ i : Nat, i ≤ 3 ∧ vs = [.own 2000000 0 0 3, int .i64 3, int .i64 i, int .i64 d, .ptr 2000001 0 0, bl false, int .i64 qa, int .i64 a, int .i64 qb, int .i64 b, int .i64 (pkN d a b i).1, .ptr 2000002 0 0] ∧ pos = [] ∧
      los = [.row 2 (Ei.rv ⟨0, 0⟩) true true (cands.map Ei.rv), .box [int .i64 0, int .i64 0], .box [int .i64 (pkN d a b i).2.a, int .i64 (pkN d a b i).2.b]])
    (fun vs _ _ => match vs with | _ :: _ :: .r (.v (.int _ j)) :: _ => (3 - j).toNat | _ => 0) rfl ?_ ?_
  · simp only [push_cast, ↓reduceIte, reduceCtorEq, Nat.reduceBEq, Nat.reduceEqDiff, Nat.reduceAdd, Nat.reduceSub, Nat.reduceLT, Nat.reduceLeDiff, Nat.reduceMul]
    exact ⟨0, by omega, rfl, rfl⟩
  · rintro vs pos los ⟨i, i3, rfl, rfl, rfl⟩
    simp only [push_cast, ↓reduceIte, reduceCtorEq, Nat.reduceBEq, Nat.reduceEqDiff, Nat.reduceAdd, Nat.reduceSub, Nat.reduceLT, Nat.reduceLeDiff, Nat.reduceMul]
    refine cnd_mk (fun h => ?_) (fun h => ?_)
    · have hi : i = 0 ∨ i = 1 ∨ i = 2 := by simp at h; omega
      obtain ⟨z, hz, hzz⟩ : ∃ z, cands[i]? = some z ∧ ((z = ⟨0, 1⟩ ∨ z = ⟨1, 0⟩ ∨ z = ⟨1, 1⟩)) := by
        rcases hi with rfl | rfl | rfl
        · exact ⟨_, rfl, by simp⟩
        · exact ⟨_, rfl, by simp⟩
        · exact ⟨_, rfl, by simp⟩
      have hg : (List.map Ei.rv cands).getD i (Ei.rv ⟨0, 0⟩) = .agg [.v (.int .i64 z.a), .v (.int .i64 z.b)] := by
        rw [List.getD_eq_getElem?_getD, List.getElem?_map, hz]; rfl
      have hn : (IntKind.i64.wrap (IntKind.i64.wrap (IntKind.i64.wrap (z.a * z.a) + IntKind.i64.wrap (z.a * z.b)) + IntKind.i64.wrap (z.b * z.b))) = z.a * z.a + z.a * z.b + z.b * z.b := by
        rcases hzz with rfl | rfl | rfl <;> decide
      have hf : IntKind.i64.wrap (IntKind.i64.wrap (IntKind.i64.wrap (d * (z.a * z.a + z.a * z.b + z.b * z.b)) - IntKind.i64.wrap (z.a * IntKind.i64.wrap (IntKind.i64.wrap (2 * a) + b))) - IntKind.i64.wrap (z.b * IntKind.i64.wrap (a + IntKind.i64.wrap (2 * b)))) = fr d a b z := by
        rw [show IntKind.i64.wrap (2 * a) = 2 * a from wrap_id (by omega), show IntKind.i64.wrap (2 * b) = 2 * b from wrap_id (by omega), show IntKind.i64.wrap (2 * a + b) = 2 * a + b from wrap_id (by omega), show IntKind.i64.wrap (a + 2 * b) = a + 2 * b from wrap_id (by omega)]
        rcases hzz with rfl | rfl | rfl <;> simp only [fr, Int.zero_mul, Int.mul_zero, Int.one_mul, Int.mul_one, Int.add_zero, Int.zero_add, IntKind.wrap_i64] <;> omega
      have hs := pkN_succ d a b i z hz
      simp only [Int.toNat_natCast, Nat.zero_add, hg, hn, hf, push_cast, ↓reduceIte, reduceCtorEq, Nat.reduceBEq, Nat.reduceEqDiff, Nat.reduceAdd, Nat.reduceSub, Nat.reduceLT, Nat.reduceLeDiff, Nat.reduceMul]
      refine ⟨by omega, ?_⟩
      refine cnd_mk (fun h' => ?_) (fun h' => ?_)
      · simp only [decide_eq_true_eq] at h'
        simp only [push_cast, ↓reduceIte, reduceCtorEq, Nat.reduceBEq, Nat.reduceEqDiff, Nat.reduceAdd, Nat.reduceSub, Nat.reduceLT, Nat.reduceLeDiff, Nat.reduceMul]
        refine ⟨by kernel_rfl, ?_⟩
        rw [show IntKind.i64.wrap (i + 1) = i + 1 from wrap_id (by omega)]
        refine ⟨⟨i + 1, by omega, ?_, ?_⟩, by omega⟩
        · rw [hs, pk, if_pos h'] <;> rfl
        · rw [hs, pk, if_pos h'] <;> rfl
      · simp only [decide_eq_false_iff_not] at h'
        simp only [push_cast, ↓reduceIte, reduceCtorEq, Nat.reduceBEq, Nat.reduceEqDiff, Nat.reduceAdd, Nat.reduceSub, Nat.reduceLT, Nat.reduceLeDiff, Nat.reduceMul]
        rw [show IntKind.i64.wrap (i + 1) = i + 1 from wrap_id (by omega)]
        refine ⟨⟨i + 1, by omega, ?_, ?_⟩, by omega⟩
        · rw [hs, pk, if_neg h'] <;> rfl
        · rw [hs, pk, if_neg h'] <;> rfl
    · have : i = 3 := by simp at h; omega
      subst this
      simp only [push_cast, ↓reduceIte, reduceCtorEq, Nat.reduceBEq, Nat.reduceEqDiff, Nat.reduceAdd, Nat.reduceSub, Nat.reduceLT, Nat.reduceLeDiff, Nat.reduceMul]
      have hN := pkN_in d a b 3
      rw [wrap_id (by omega), wrap_id (by omega), pkN_end ha hb, ← hQa, ← hQb, ← hA, ← hB]
      rfl
end Go.Ev
