import Derived.Test.YtjagonphgaphaaaPb7
namespace Go.Ev
open Go Go.RowKit
set_option linter.unnecessarySimpa false
set_option linter.unusedSimpArgs false
set_option linter.unusedVariables false
set_option maxRecDepth 100000 in
theorem rzig_t (n : Int) (hn : in64 n) : Triple Go.Proofs.Try.prog 24 [int .i64 n] [] (int .u64 (zig n)) [] := by
  refine apiaryref21_Zig_triple rfl (by decide) ?_
  simp only [apiaryref21_Zig_pc, List.length_nil, push_cast, ↓reduceIte, reduceCtorEq, Nat.reduceBEq, Nat.reduceEqDiff, Nat.reduceAdd, Nat.reduceSub, Nat.reduceLT, Nat.reduceLeDiff, Nat.reduceMul]
  have e1 : n.fdiv (2 ^ min (Int.toNat 63) IntKind.i64.bits) = n / 9223372036854775808 := shr_i n 63 (by decide)
  have e2 : IntKind.u64.wrap (IntKind.u64.wrap n * 2 ^ min (Int.toNat 1) IntKind.u64.bits) = IntKind.u64.wrap (IntKind.i64.wrap (n * 2)) := by
    rw [show (2 : Int) ^ min (Int.toNat 1) IntKind.u64.bits = 2 from rfl, IntKind.wrap_u64, IntKind.wrap_u64, IntKind.wrap_u64, IntKind.wrap_i64]
    omega
  refine ⟨by decide, by decide, ?_⟩
  rw [e1, e2, zigV n hn]
set_option maxRecDepth 100000 in
theorem rfieldOk_t (f : Int) : Triple Go.Proofs.Try.prog 26 [int .i64 f] [] (bl (okB f)) [] := by
  refine apiaryref21_fieldOk_triple rfl (by decide) ?_
  simp only [apiaryref21_fieldOk_pc, List.length_nil, push_cast, ↓reduceIte, reduceCtorEq, Nat.reduceBEq, Nat.reduceEqDiff, Nat.reduceAdd, Nat.reduceSub, Nat.reduceLT, Nat.reduceLeDiff, Nat.reduceMul]
  repeat refine And.intro (by simp +contextual) ?_
  refine bl_iff ?_
  simp [okB]
set_option maxRecDepth 100000 in
theorem rnum_t (f n : Int) (hf : in64 f) (n0 : 0 ≤ n) (hn : n < 18446744073709551616) : Triple Go.Proofs.Try.prog 13 [int .i64 f, int .u64 n] [] (strv (bstr (numL f n))) [] := by
  refine apiaryref21_Num_triple rfl (by decide) ?_
  simp only [apiaryref21_Num_pc, List.length_nil, push_cast, ↓reduceIte, reduceCtorEq, Nat.reduceBEq, Nat.reduceEqDiff, Nat.reduceAdd, Nat.reduceSub, Nat.reduceLT, Nat.reduceLeDiff, Nat.reduceMul]
  refine call_mk (rfieldOk_t f) rfl trivial ?_
  cases hk : okB f with
  | false =>
    simp only [numL, hk, push_cast, ↓reduceIte, reduceCtorEq, Nat.reduceBEq, Nat.reduceEqDiff, Nat.reduceAdd, Nat.reduceSub, Nat.reduceLT, Nat.reduceLeDiff, Nat.reduceMul]
    rfl
  | true =>
    have h1 : 1 ≤ f ∧ f ≤ 1000 := by simpa [okB] using hk
    have e1 : IntKind.u64.wrap (IntKind.i64.wrap (8 * f)) = f * 8 := by rw [wrap_id (x := 8 * f) (by omega), IntKind.wrap_u64]; omega
    have l1 := varL_len (f * 8).toNat
    have l2 := varL_len n.toNat
    simp only [numL, hk, e1, push_cast, ↓reduceIte, reduceCtorEq, Nat.reduceBEq, Nat.reduceEqDiff, Nat.reduceAdd, Nat.reduceSub, Nat.reduceLT, Nat.reduceLeDiff, Nat.reduceMul]
    refine call_mk (rvar_t (f * 8) (by omega) (by omega)) rfl trivial ?_
    simp only [push_cast, ↓reduceIte, reduceCtorEq, Nat.reduceBEq, Nat.reduceEqDiff, Nat.reduceAdd, Nat.reduceSub, Nat.reduceLT, Nat.reduceLeDiff, Nat.reduceMul]
    refine call_mk (rvar_t n n0 hn) rfl trivial ?_
    simp only [bstr_size, bstr_app, push_cast, ↓reduceIte, reduceCtorEq, Nat.reduceBEq, Nat.reduceEqDiff, Nat.reduceAdd, Nat.reduceSub, Nat.reduceLT, Nat.reduceLeDiff, Nat.reduceMul]
    omega
set_option maxRecDepth 100000 in
theorem rbytes_t (f : Int) (x : List UInt8) (hf : in64 f) (hx : x.length ≤ 1000000000000) : Triple Go.Proofs.Try.prog 12 [int .i64 f, strv (bstr x)] [] (strv (bstr (bytesL f x))) [] := by
  refine apiaryref21_Bytes_triple rfl (by decide) ?_
  simp only [apiaryref21_Bytes_pc, List.length_nil, push_cast, ↓reduceIte, reduceCtorEq, Nat.reduceBEq, Nat.reduceEqDiff, Nat.reduceAdd, Nat.reduceSub, Nat.reduceLT, Nat.reduceLeDiff, Nat.reduceMul]
  refine call_mk (rfieldOk_t f) rfl trivial ?_
  cases hk : okB f with
  | false =>
    simp only [bytesL, hk, push_cast, ↓reduceIte, reduceCtorEq, Nat.reduceBEq, Nat.reduceEqDiff, Nat.reduceAdd, Nat.reduceSub, Nat.reduceLT, Nat.reduceLeDiff, Nat.reduceMul]
    rfl
  | true =>
    have h1 : 1 ≤ f ∧ f ≤ 1000 := by simpa [okB] using hk
    have e1 : IntKind.u64.wrap (IntKind.i64.wrap (IntKind.i64.wrap (8 * f) + 2)) = f * 8 + 2 := by rw [wrap_id (x := 8 * f) (by omega), wrap_id (x := 8 * f + 2) (by omega), IntKind.wrap_u64]; omega
    obtain ⟨X, hX, X0, X1⟩ : ∃ X : Int, X = x.length ∧ 0 ≤ X ∧ X ≤ 1000000000000 := ⟨_, rfl, by omega, by omega⟩
    have e4 : IntKind.u64.wrap X = X := by rw [IntKind.wrap_u64]; omega
    have eX : varL x.length = varL X.toNat := by rw [hX]; rfl
    have l1 := varL_len (f * 8 + 2).toNat
    have l2 := varL_len X.toNat
    simp only [bytesL, hk, e1, eX, ← hX, push_cast, ↓reduceIte, reduceCtorEq, Nat.reduceBEq, Nat.reduceEqDiff, Nat.reduceAdd, Nat.reduceSub, Nat.reduceLT, Nat.reduceLeDiff, Nat.reduceMul]
    refine call_mk (rvar_t (f * 8 + 2) (by omega) (by omega)) rfl trivial ?_
    simp only [bstr_size, ← hX, e4, push_cast, ↓reduceIte, reduceCtorEq, Nat.reduceBEq, Nat.reduceEqDiff, Nat.reduceAdd, Nat.reduceSub, Nat.reduceLT, Nat.reduceLeDiff, Nat.reduceMul]
    refine call_mk (rvar_t X (by omega) (by omega)) rfl trivial ?_
    simp only [bstr_size, bstr_app, List.length_append, List.append_assoc, push_cast, ↓reduceIte, reduceCtorEq, Nat.reduceBEq, Nat.reduceEqDiff, Nat.reduceAdd, Nat.reduceSub, Nat.reduceLT, Nat.reduceLeDiff, Nat.reduceMul]
    exact ⟨by omega, by omega⟩
set_option maxRecDepth 100000 in
theorem rpack_t (f : Int) (ns : List Int) (hf : in64 f) (hn : ∀ n ∈ ns, 0 ≤ n ∧ n < 18446744073709551616) (hns : ns.length ≤ 1000000000) :
    Triple Go.Proofs.Try.prog 11 [int .i64 f, .r (.sl 1 (ns.map fun n => .v (.int .u64 n)))] [] (strv (bstr (bytesL f (ns.flatMap fun n => varL n.toNat)))) [] := by
  refine apiaryref21_Pack_triple rfl (by decide) ?_
  obtain ⟨N, hN, N0, N1⟩ : ∃ N : Int, N = ns.length ∧ 0 ≤ N ∧ N ≤ 1000000000 := ⟨_, rfl, by omega, by omega⟩
  simp only [apiaryref21_Pack_pc, List.length_nil, ← hN, push_cast, ↓reduceIte, reduceCtorEq, Nat.reduceBEq, Nat.reduceEqDiff, Nat.reduceAdd, Nat.reduceSub, Nat.reduceLT, Nat.reduceLeDiff, Nat.reduceMul]
  have hlen : ∀ i : Nat, ((ns.take i).flatMap fun n => varL n.toNat).length ≤ 10 * i := fun i => by
    induction i with
    | zero => simp
    | succ i ih =>
      rw [List.take_add_one, List.flatMap_append, List.length_append]
      have : ((ns[i]?.toList).flatMap fun n => varL n.toNat).length ≤ 10 := by
        cases ns[i]? with
        | none => simp
        | some n => simpa using varL_len n.toNat
      omega
  refine run_loop [(0, false), (1, false), (5, false), (6, false)] (fun vs pos los => ∃ (i : Int) (r : List UInt8), 0 ≤ i ∧ i ≤ N ∧ r = (ns.take i.toNat).flatMap (fun n => varL n.toNat) ∧
    vs = [int .i64 f, .r (.sl 1 (ns.map fun n => .v (.int .u64 n))), strv (bstr r), int .i64 i] ∧ pos = [] ∧ los = [])
    (fun vs _ _ => match vs with | [_, _, _, .r (.v (.int _ j))] => (N - j).toNat | _ => 0) rfl ?_ ?_
  · simp only [push_cast, ↓reduceIte, reduceCtorEq, Nat.reduceBEq, Nat.reduceEqDiff, Nat.reduceAdd, Nat.reduceSub, Nat.reduceLT, Nat.reduceLeDiff, Nat.reduceMul]
    exact ⟨0, [], by omega, by omega, rfl, rfl⟩
  · rintro vs pos los ⟨i, r, i0, iN, hr, rfl, rfl, rfl⟩
    have hrl := hlen i.toNat
    rw [← hr] at hrl
    simp only [← hN, push_cast, ↓reduceIte, reduceCtorEq, Nat.reduceBEq, Nat.reduceEqDiff, Nat.reduceAdd, Nat.reduceSub, Nat.reduceLT, Nat.reduceLeDiff, Nat.reduceMul]
    refine cnd_mk (fun h => ?_) (fun h => ?_)
    · have hi : i < N := by simpa using h
      have hin : i.toNat < ns.length := by omega
      have hb := hn _ (List.getElem_mem hin)
      have hg : (List.map (fun n => RV.v (.int .u64 n)) ns).getD i.toNat (.v (.int .u64 0)) = .v (.int .u64 ns[i.toNat]) := by simp [List.getD, hin]
      have w4 : IntKind.i64.wrap (i + 1) = i + 1 := wrap_id (by omega)
      have hv := varL_len (ns[i.toNat]).toNat
      simp only [hg, ← hN, push_cast, ↓reduceIte, reduceCtorEq, Nat.reduceBEq, Nat.reduceEqDiff, Nat.reduceAdd, Nat.reduceSub, Nat.reduceLT, Nat.reduceLeDiff, Nat.reduceMul]
      refine ⟨⟨i0, hi⟩, ?_⟩
      refine call_mk (rvar_t _ hb.1 hb.2) rfl trivial ?_
      simp only [w4, bstr_size, bstr_app, push_cast, ↓reduceIte, reduceCtorEq, Nat.reduceBEq, Nat.reduceEqDiff, Nat.reduceAdd, Nat.reduceSub, Nat.reduceLT, Nat.reduceLeDiff, Nat.reduceMul]
      refine ⟨by omega, ⟨i + 1, r ++ varL (ns[i.toNat]).toNat, by omega, by omega, ?_, rfl⟩, by omega⟩
      rw [show (i + 1).toNat = i.toNat + 1 by omega, List.take_succ_eq_append_getElem hin, List.flatMap_append, ← hr]
      simp
    · have hi : i = N := by have : ¬ i < N := by simpa using h
                            omega
      rw [hi, show N.toNat = ns.length by omega, List.take_length] at hr
      simp only [push_cast, ↓reduceIte, reduceCtorEq, Nat.reduceBEq, Nat.reduceEqDiff, Nat.reduceAdd, Nat.reduceSub, Nat.reduceLT, Nat.reduceLeDiff, Nat.reduceMul]
      refine call_mk (rbytes_t f r hf (by omega)) rfl trivial ?_
      simp only [← hr, push_cast, ↓reduceIte, reduceCtorEq, Nat.reduceBEq, Nat.reduceEqDiff, Nat.reduceAdd, Nat.reduceSub, Nat.reduceLT, Nat.reduceLeDiff, Nat.reduceMul]
end Go.Ev
