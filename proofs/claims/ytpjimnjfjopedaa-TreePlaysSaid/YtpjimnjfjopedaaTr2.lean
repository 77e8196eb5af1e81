import Derived.Test.YtpjimnjfjopedaaTr1
namespace Go.Ev
open Go
set_option linter.unnecessarySimpa false
set_option linter.unusedSimpArgs false
set_option linter.unusedVariables false
set_option maxRecDepth 100000 in
/-- The least place from which on p holds. -/
theorem search_t (F : FuncId) (A B : List AV) (hA : hidL A = []) (hB : hidL B = []) (hfn : isFn Go.Proofs.Try.prog F = true) (p : Nat → Bool) (n r : Nat) (hn : n ≤ maxLen) (hr : r ≤ n)
    (h0 : ∀ i, i < r → p i = false) (h1 : ∀ i, r ≤ i → i < n → p i = true)
    (hF : ∀ i : Nat, i < n → Triple Go.Proofs.Try.prog F [int .i64 i, .ptr 1000000 0 0, .ptr 1000001 0 0] [.box A, .box B] (bl (p i)) [.box A, .box B]) :
    Triple Go.Proofs.Try.prog 28 [int .i64 n, .fn (.func F) [.ptr 1000000 0 0, .ptr 1000001 0 0] 0] [.box A, .box B] (int .i64 r) [.box A, .box B] := by
  refine sort_Search_triple rfl (by simp) ?_
  simp only [sort_Search_pc, List.length_nil, push_cast, ↓reduceIte, reduceCtorEq, Nat.reduceBEq, Nat.reduceEqDiff, Nat.reduceAdd, Nat.reduceSub, Nat.reduceLT, Nat.reduceLeDiff, Nat.reduceMul]
  have hmax := maxLen_big
  have iA : ∀ F, imL F A = A := fun F => imL_free F A hA
  have iB : ∀ F, imL F B = B := fun F => imL_free F B hB
  refine run_loop [(1, false), (5, false), (6, false)] (fun vs pos los => ∃ (lo hi : Int), 0 ≤ lo ∧ lo ≤ r ∧ (r : Int) ≤ hi ∧ hi ≤ n ∧
    vs = [.fn (.func F) [.ptr 1000000 0 0, .ptr 1000001 0 0] 0, int .i64 lo, int .i64 hi] ∧ pos = [.box A, .box B] ∧ los = [])
    (fun vs _ _ => match vs with | [_, .r (.v (.int _ a)), .r (.v (.int _ b))] => (b - a).toNat | _ => 0) rfl ?_ ?_
  · simp only [hA, hB, iA, iB, hfn, List.nil_append, push_cast, ↓reduceIte, reduceCtorEq, Nat.reduceBEq, Nat.reduceEqDiff, Nat.reduceAdd, Nat.reduceSub, Nat.reduceLT, Nat.reduceLeDiff, Nat.reduceMul]
    refine ⟨0, n, by omega, by omega, by omega, by omega, ?_⟩
    simp
  · rintro vs pos los ⟨lo, hi, l0, lr, rh, hn', rfl, rfl, rfl⟩
    simp only [hA, hB, iA, iB, hfn, List.nil_append, push_cast, ↓reduceIte, reduceCtorEq, Nat.reduceBEq, Nat.reduceEqDiff, Nat.reduceAdd, Nat.reduceSub, Nat.reduceLT, Nat.reduceLeDiff, Nat.reduceMul]
    refine cnd_mk (fun h => ?_) (fun h => ?_)
    · simp only [hA, hB, iA, iB, hfn, List.nil_append, push_cast, ↓reduceIte, reduceCtorEq, Nat.reduceBEq, Nat.reduceEqDiff, Nat.reduceAdd, Nat.reduceSub, Nat.reduceLT, Nat.reduceLeDiff, Nat.reduceMul]
      have hlt : lo < hi := by simpa using h
      have hmx : (n : Int) ≤ 9223372036854775807 := by have := hn; simp only [maxLen] at this; omega
      have hw2 : IntKind.u64.wrap (IntKind.i64.wrap (lo + hi)) = lo + hi := by rw [IntKind.wrap_i64, IntKind.wrap_u64]; omega
      have hs : (lo + hi).fdiv (2 ^ min (Int.toNat 1) IntKind.u64.bits) = (lo + hi) / 2 := shr_u (lo + hi) 1 (by decide)
      have hw3 : IntKind.i64.wrap ((lo + hi) / 2) = (lo + hi) / 2 := wrap_id ⟨by omega, by omega⟩
      obtain ⟨M, hM⟩ : ∃ M : Nat, (lo + hi) / 2 = M := ⟨((lo + hi) / 2).toNat, by omega⟩
      rw [hM] at hw3
      simp only [hw2, hs, hM, hw3]
      refine ⟨by decide, call_mk (hF M (by omega)) rfl ⟨rfl, rfl, trivial⟩ ?_⟩
      simp only [hA, hB, iA, iB, hfn, List.nil_append, push_cast, ↓reduceIte, reduceCtorEq, Nat.reduceBEq, Nat.reduceEqDiff, Nat.reduceAdd, Nat.reduceSub, Nat.reduceLT, Nat.reduceLeDiff, Nat.reduceMul]
      have hw4 : IntKind.i64.wrap ((M : Int) + 1) = M + 1 := wrap_id ⟨by omega, by omega⟩
      refine cnd_mk (fun h2 => ?_) (fun h2 => ?_)
      · simp only [hA, hB, iA, iB, hfn, hw4, List.nil_append, push_cast, ↓reduceIte, reduceCtorEq, Nat.reduceBEq, Nat.reduceEqDiff, Nat.reduceAdd, Nat.reduceSub, Nat.reduceLT, Nat.reduceLeDiff, Nat.reduceMul]
        have hp : p M = false := by simpa using h2
        have hMr : M < r := Nat.lt_of_not_le fun hle => by rw [h1 M hle (by omega)] at hp; cases hp
        refine ⟨⟨M + 1, hi, by omega, by omega, by omega, by omega, ?_⟩, by omega⟩
        simp
      · simp only [hA, hB, iA, iB, hfn, List.nil_append, push_cast, ↓reduceIte, reduceCtorEq, Nat.reduceBEq, Nat.reduceEqDiff, Nat.reduceAdd, Nat.reduceSub, Nat.reduceLT, Nat.reduceLeDiff, Nat.reduceMul]
        have hp : p M = true := by simpa using h2
        have hMr : r ≤ M := Nat.le_of_not_lt fun hlt => by rw [h0 M hlt] at hp; cases hp
        refine ⟨⟨lo, M, by omega, by omega, by omega, by omega, ?_⟩, by omega⟩
        simp
    · simp only [hA, hB, iA, iB, hfn, List.nil_append, push_cast, ↓reduceIte, reduceCtorEq, Nat.reduceBEq, Nat.reduceEqDiff, Nat.reduceAdd, Nat.reduceSub, Nat.reduceLT, Nat.reduceLeDiff, Nat.reduceMul]
      have hlt : ¬ lo < hi := by simpa using h
      have e : lo = r := by omega
      rw [e]
end Go.Ev
