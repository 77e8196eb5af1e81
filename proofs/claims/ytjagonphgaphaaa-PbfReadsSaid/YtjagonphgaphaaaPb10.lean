import Derived.Test.YtjagonphgaphaaaPb9
namespace Go.Ev
open Go Go.RowKit
set_option linter.unnecessarySimpa false
set_option linter.unusedSimpArgs false
set_option linter.unusedVariables false
theorem bstr_drop (l : List UInt8) (k n : Nat) (hn : n = l.length) : (bstr l).extract k n = bstr (l.drop k) := by
  rw [bstr_sub _ _ _ (by omega), List.take_of_length_le (by omega)]
theorem varsR_some {m : List Nat} (hm : m ≠ []) : varsR (some m) = .tup [.own 1000000 0 0 m.length, int .i64 0] ∧ varsO (some m) = [rowN m] := by
  cases m with
  | nil => exact absurd rfl hm
  | cons => exact ⟨rfl, rfl⟩
set_option maxRecDepth 100000 in
theorem rvars_t (l : List UInt8) (hl : l.length ≤ 1000000000) : Triple Go.Proofs.Try.prog 17 [strv (bstr l)] [] (varsR (varsL l)) (varsO (varsL l)) := by
  refine apiaryref21_Vars_triple rfl (by decide) ?_
  obtain ⟨L, hL, L0⟩ : ∃ L : Int, L = l.length ∧ 0 ≤ L := ⟨_, rfl, by omega⟩
  simp only [apiaryref21_Vars_pc, List.length_nil, push_cast, ↓reduceIte, reduceCtorEq, Nat.reduceBEq, Nat.reduceEqDiff, Nat.reduceAdd, Nat.reduceSub, Nat.reduceLT, Nat.reduceLeDiff, Nat.reduceMul]
  have hmax := maxLen_big
  refine run_loop [(0, false), (4, false), (5, false)] (fun vs pos los => ∃ (A : Int) (k f : Nat) (ns : List Nat), A = k ∧ k ≤ l.length ∧ l.length - k ≤ f ∧ ns.length ≤ k ∧ varsL l = (varsF f (l.drop k)).map (ns ++ ·) ∧ pos = [] ∧
    ((ns = [] ∧ vs = [strv (bstr l), .nils 1 (.v (.int .u64 0)), int .i64 A] ∧ los = []) ∨ (ns ≠ [] ∧ vs = [strv (bstr l), .own 2000000 0 0 ns.length, int .i64 A] ∧ los = [rowN ns])))
    (fun vs _ _ => match vs with | [_, _, .r (.v (.int _ j))] => (L - j).toNat | _ => 0) rfl ?_ ?_
  · simp only [push_cast, ↓reduceIte, reduceCtorEq, Nat.reduceBEq, Nat.reduceEqDiff, Nat.reduceAdd, Nat.reduceSub, Nat.reduceLT, Nat.reduceLeDiff, Nat.reduceMul]
    refine ⟨0, 0, l.length, [], rfl, by omega, by omega, by simp, ?_, .inl ⟨rfl, rfl⟩⟩
    show varsF l.length l = _
    cases h : varsF l.length l <;> simp [h]
  · rintro vs pos los ⟨A, k, f, ns, hA, hk, hf, hnk, hv, rfl, hc⟩
    have hrl : (l.drop k).length = l.length - k := List.length_drop
    have hb := take_bound (l.drop k)
    obtain ⟨U, hU⟩ : ∃ U : Int, U = (take (l.drop k)).1 := ⟨_, rfl⟩
    obtain ⟨K, hK⟩ : ∃ K : Int, K = (take (l.drop k)).2 := ⟨_, rfl⟩
    have hext : (bstr l).extract A.toNat L.toNat = bstr (l.drop k) := by rw [toNat_int hA, toNat_int hL, bstr_drop l k _ rfl]
    have hsnoc : nums64 ns ++ [.v (.int .u64 U)] = nums64 (ns ++ [(take (l.drop k)).1]) := by rw [hU]; exact nums_snoc _ _
    have wk : IntKind.i64.wrap (A + K) = A + K := wrap_id (by omega)
    have htake := take_t (l.drop k)
    rcases hc with ⟨rfl, rfl, rfl⟩ | ⟨hns, rfl, rfl⟩
    · simp only [bstr_size, ← hL, push_cast, ↓reduceIte, reduceCtorEq, Nat.reduceBEq, Nat.reduceEqDiff, Nat.reduceAdd, Nat.reduceSub, Nat.reduceLT, Nat.reduceLeDiff, Nat.reduceMul]
      refine cnd_mk (fun h => ?_) (fun h => ?_)
      · have hr0 : A < L := by simpa using h
        simp only [bstr_size, ← hL, hext, push_cast, ↓reduceIte, reduceCtorEq, Nat.reduceBEq, Nat.reduceEqDiff, Nat.reduceAdd, Nat.reduceSub, Nat.reduceLT, Nat.reduceLeDiff, Nat.reduceMul]
        refine ⟨⟨by omega, by omega, by omega⟩, ?_⟩
        refine call_mk (runvar_t (l.drop k) (by omega)) rfl trivial ?_
        rw [← hU, ← hK]
        simp only [push_cast, ↓reduceIte, reduceCtorEq, Nat.reduceBEq, Nat.reduceEqDiff, Nat.reduceAdd, Nat.reduceSub, Nat.reduceLT, Nat.reduceLeDiff, Nat.reduceMul]
        by_cases k0 : K = 0
        · have g0 : (K == 0) = true := by simp [k0]
          simp only [g0, push_cast, ↓reduceIte, reduceCtorEq, Nat.reduceBEq, Nat.reduceEqDiff, Nat.reduceAdd, Nat.reduceSub, Nat.reduceLT, Nat.reduceLeDiff, Nat.reduceMul]
          rw [hv, varsF_no (by omega) (by omega)]
          exact ⟨rfl, rfl⟩
        · have g0 : (K == 0) = false := by simp [k0]
          obtain ⟨f', hf', hv'⟩ := varsF_on (f := f) (n := (take (l.drop k)).1) (k := (take (l.drop k)).2) (by omega) (by omega) rfl (by omega)
          simp only [g0, wk, push_cast, ↓reduceIte, reduceCtorEq, Nat.reduceBEq, Nat.reduceEqDiff, Nat.reduceAdd, Nat.reduceSub, Nat.reduceLT, Nat.reduceLeDiff, Nat.reduceMul]
          refine ⟨by simp, by omega, ⟨A + K, k + (take (l.drop k)).2, f', [(take (l.drop k)).1], by omega, by omega, by omega, by simp only [List.length_cons, List.length_nil]; omega, ?_, .inr ⟨by simp, rfl, by rw [hU]; rfl⟩⟩, by omega⟩
          rw [hv, hv', Option.map_map, List.drop_drop]
          congr 1
      · have hr0 : k = l.length := by have : ¬ A < L := by simpa using h
                                      omega
        simp only [push_cast, ↓reduceIte, reduceCtorEq, Nat.reduceBEq, Nat.reduceEqDiff, Nat.reduceAdd, Nat.reduceSub, Nat.reduceLT, Nat.reduceLeDiff, Nat.reduceMul]
        rw [hv, List.drop_of_length_le (by omega), varsF_nil]
        exact ⟨rfl, rfl⟩
    · simp only [bstr_size, ← hL, push_cast, ↓reduceIte, reduceCtorEq, Nat.reduceBEq, Nat.reduceEqDiff, Nat.reduceAdd, Nat.reduceSub, Nat.reduceLT, Nat.reduceLeDiff, Nat.reduceMul]
      refine cnd_mk (fun h => ?_) (fun h => ?_)
      · have hr0 : A < L := by simpa using h
        simp only [bstr_size, ← hL, hext, push_cast, ↓reduceIte, reduceCtorEq, Nat.reduceBEq, Nat.reduceEqDiff, Nat.reduceAdd, Nat.reduceSub, Nat.reduceLT, Nat.reduceLeDiff, Nat.reduceMul]
        refine ⟨⟨by omega, by omega, by omega⟩, ?_⟩
        refine call_mk (runvar_t (l.drop k) (by omega)) rfl trivial ?_
        rw [← hU, ← hK]
        simp only [push_cast, ↓reduceIte, reduceCtorEq, Nat.reduceBEq, Nat.reduceEqDiff, Nat.reduceAdd, Nat.reduceSub, Nat.reduceLT, Nat.reduceLeDiff, Nat.reduceMul]
        by_cases k0 : K = 0
        · have g0 : (K == 0) = true := by simp [k0]
          simp only [g0, push_cast, ↓reduceIte, reduceCtorEq, Nat.reduceBEq, Nat.reduceEqDiff, Nat.reduceAdd, Nat.reduceSub, Nat.reduceLT, Nat.reduceLeDiff, Nat.reduceMul]
          rw [hv, varsF_no (by omega) (by omega)]
          exact ⟨rfl, rfl⟩
        · have g0 : (K == 0) = false := by simp [k0]
          obtain ⟨f', hf', hv'⟩ := varsF_on (f := f) (n := (take (l.drop k)).1) (k := (take (l.drop k)).2) (by omega) (by omega) rfl (by omega)
          simp only [g0, wk, take_nums, push_cast, ↓reduceIte, reduceCtorEq, Nat.reduceBEq, Nat.reduceEqDiff, Nat.reduceAdd, Nat.reduceSub, Nat.reduceLT, Nat.reduceLeDiff, Nat.reduceMul]
          rw [hsnoc]
          refine ⟨by simp, by omega, ⟨A + K, k + (take (l.drop k)).2, f', ns ++ [(take (l.drop k)).1], by omega, by omega, by omega, by rw [List.length_append, List.length_singleton]; omega, ?_, .inr ⟨by simp, by simp, rfl⟩⟩, by omega⟩
          rw [hv, hv', Option.map_map, List.drop_drop]
          congr 1
          funext x
          simp
      · have hr0 : k = l.length := by have : ¬ A < L := by simpa using h
                                      omega
        simp only [push_cast, ↓reduceIte, reduceCtorEq, Nat.reduceBEq, Nat.reduceEqDiff, Nat.reduceAdd, Nat.reduceSub, Nat.reduceLT, Nat.reduceLeDiff, Nat.reduceMul]
        rw [hv, List.drop_of_length_le (by omega), varsF_nil, Option.map_some, List.append_nil, (varsR_some hns).1, (varsR_some hns).2]
        exact ⟨rfl, rfl⟩
theorem getD_nums (ns : List Nat) (i : Nat) (z : RV) (hi : i < ns.length) : (nums64 ns).getD i z = .v (.int .u64 (ns[i] : Nat)) := by
  simp [nums64, List.getD, hi]
set_option maxRecDepth 100000 in
theorem same_t (ns : List Nat) (hl : ns.length ≤ 1000000000000) : Triple Go.Proofs.Try.prog 18 [.r (.sl 1 (nums64 ns)), .r (.sl 1 (nums64 ns))] [] (bl true) [] := by
  refine apiaryref1_Same_triple rfl (by decide) ?_
  obtain ⟨L, hL, L0⟩ : ∃ L : Int, L = ns.length ∧ 0 ≤ L := ⟨_, rfl, by omega⟩
  simp only [apiaryref1_Same_pc, List.length_nil, nums_len, ← hL, bne_self_eq_false, push_cast, ↓reduceIte, reduceCtorEq, Nat.reduceBEq, Nat.reduceEqDiff, Nat.reduceAdd, Nat.reduceSub, Nat.reduceLT, Nat.reduceLeDiff, Nat.reduceMul]
  refine run_loop [(0, false), (1, false), (5, false)] (fun vs pos los => ∃ A : Int, 0 ≤ A ∧ A ≤ L ∧ vs = [.r (.sl 1 (nums64 ns)), .r (.sl 1 (nums64 ns)), int .i64 A] ∧ pos = [] ∧ los = [])
    (fun vs _ _ => match vs with | [_, _, .r (.v (.int _ j))] => (L - j).toNat | _ => 0) rfl ?_ ?_
  · simp only [push_cast, ↓reduceIte, reduceCtorEq, Nat.reduceBEq, Nat.reduceEqDiff, Nat.reduceAdd, Nat.reduceSub, Nat.reduceLT, Nat.reduceLeDiff, Nat.reduceMul]
    exact ⟨0, by omega, by omega, rfl⟩
  · rintro vs pos los ⟨A, A0, A1, rfl, rfl, rfl⟩
    simp only [nums_len, ← hL, push_cast, ↓reduceIte, reduceCtorEq, Nat.reduceBEq, Nat.reduceEqDiff, Nat.reduceAdd, Nat.reduceSub, Nat.reduceLT, Nat.reduceLeDiff, Nat.reduceMul]
    refine cnd_mk (fun h => ?_) (fun h => ?_)
    · have h : A < L := by simpa using h
      have hin : A.toNat < ns.length := by omega
      have wk : IntKind.i64.wrap (A + 1) = A + 1 := wrap_id (by omega)
      simp only [getD_nums ns A.toNat _ hin, nums_len, ← hL, wk, bne_self_eq_false, push_cast, ↓reduceIte, reduceCtorEq, Nat.reduceBEq, Nat.reduceEqDiff, Nat.reduceAdd, Nat.reduceSub, Nat.reduceLT, Nat.reduceLeDiff, Nat.reduceMul]
      exact ⟨⟨A0, h⟩, ⟨A0, h⟩, (by kernel_rfl), ⟨A + 1, by omega, by omega, rfl⟩, by omega⟩
    · simp only [push_cast, ↓reduceIte, reduceCtorEq, Nat.reduceBEq, Nat.reduceEqDiff, Nat.reduceAdd, Nat.reduceSub, Nat.reduceLT, Nat.reduceLeDiff, Nat.reduceMul]
end Go.Ev
