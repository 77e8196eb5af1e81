import Derived.Test.YtjagonphgaphaaaPb4
namespace Go.Ev
open Go Go.RowKit
set_option linter.unnecessarySimpa false
set_option linter.unusedSimpArgs false
set_option linter.unusedVariables false
abbrev rowF (fs : List Fld) : Ob := .row 4 (.agg [.v (.int .i64 0), .v (.int .i64 0), .v (.int .u64 0), .sl 1 []]) true true (fs.map fldV)
abbrev nilF : AV := .nils 4 (.agg [.v (.int .i64 0), .v (.int .i64 0), .v (.int .u64 0), .sl 1 []])
/-- What is told of fields, or none. -/
def readR : Option (List Fld) → AV
  | none => .tup [nilF, int .i64 10]
  | some [] => .tup [nilF, int .i64 0]
  | some (n :: ns) => .tup [.own 1000000 0 0 (n :: ns).length, int .i64 0]
def readO : Option (List Fld) → List Ob
  | none => []
  | some [] => []
  | some (n :: ns) => [rowF (n :: ns)]
theorem readR_some {m : List Fld} (hm : m ≠ []) : readR (some m) = .tup [.own 1000000 0 0 m.length, int .i64 0] ∧ readO (some m) = [rowF m] := by
  cases m with
  | nil => exact absurd rfl hm
  | cons => exact ⟨rfl, rfl⟩
set_option maxRecDepth 100000 in
theorem read_t (l : List UInt8) (hl : l.length ≤ 100000000) : Triple Go.Proofs.Try.prog 14 [sb l] [] (readR (readL l)) (readO (readL l)) := by
  refine pbf_Read_triple rfl (by decide) ?_
  simp only [pbf_Read_pc, List.length_nil, push_cast, ↓reduceIte, reduceCtorEq, Nat.reduceBEq, Nat.reduceEqDiff, Nat.reduceAdd, Nat.reduceSub, Nat.reduceLT, Nat.reduceLeDiff, Nat.reduceMul]
  have hmax := maxLen_big
  refine run_loop [(0, false), (4, false)] (fun vs pos los => ∃ (r : List UInt8) (f : Nat) (ns : List Fld), r.length ≤ f ∧ r.length + ns.length ≤ l.length ∧ readL l = (readF f r).map (ns ++ ·) ∧ pos = [] ∧
    ((ns = [] ∧ vs = [sb r, nilF] ∧ los = []) ∨ (ns ≠ [] ∧ vs = [sb r, .own 2000000 0 0 ns.length] ∧ los = [rowF ns])))
    (fun vs _ _ => match vs with | .r (.sl _ xs) :: _ => xs.length | _ => 0) rfl ?_ ?_
  · simp only [push_cast, ↓reduceIte, reduceCtorEq, Nat.reduceBEq, Nat.reduceEqDiff, Nat.reduceAdd, Nat.reduceSub, Nat.reduceLT, Nat.reduceLeDiff, Nat.reduceMul]
    refine ⟨l, l.length, [], Nat.le_refl _, by simp, ?_, .inl ⟨rfl, rfl⟩⟩
    show readF l.length l = _
    cases readF l.length l <;> simp
  · rintro vs pos los ⟨r, f, ns, hf, hlen, hv, rfl, hc⟩
    obtain ⟨R, hR, R0⟩ : ∃ R : Int, R = r.length ∧ 0 ≤ R := ⟨_, rfl, by omega⟩
    have hdr : ∀ k : Nat, List.drop k (List.take R.toNat (bys r)) = bys (r.drop k) := fun k => by
      rw [List.take_of_length_le (by simp; omega)]
      exact drop_by8 r _
    have hdl : ∀ k : Nat, (r.drop k).length = r.length - k := fun k => List.length_drop
    rcases hc with ⟨rfl, rfl, rfl⟩ | ⟨hns, rfl, rfl⟩
    · simp only [← hR, push_cast, ↓reduceIte, reduceCtorEq, Nat.reduceBEq, Nat.reduceEqDiff, Nat.reduceAdd, Nat.reduceSub, Nat.reduceLT, Nat.reduceLeDiff, Nat.reduceMul]
      refine cnd_mk (fun h => ?_) (fun h => ?_)
      · have hr0 : 0 < r.length := by have : R > 0 := by simpa using h
                                      omega
        simp only [← hR, push_cast, ↓reduceIte, reduceCtorEq, Nat.reduceBEq, Nat.reduceEqDiff, Nat.reduceAdd, Nat.reduceSub, Nat.reduceLT, Nat.reduceLeDiff, Nat.reduceMul]
        refine call_mk (one_t r (by omega)) rfl trivial ?_
        cases ho : oneL r with
        | none =>
          simp only [oneR, fldV, push_cast, ↓reduceIte, reduceCtorEq, Nat.reduceBEq, Nat.reduceEqDiff, Nat.reduceAdd, Nat.reduceSub, Nat.reduceLT, Nat.reduceLeDiff, Nat.reduceMul]
          rw [hv, readF_no hr0 ho]
          exact ⟨rfl, rfl⟩
        | some p =>
          obtain ⟨x, k⟩ := p
          have hb := oneL_bound ho
          obtain ⟨K, hK⟩ : ∃ K : Int, K = k := ⟨_, rfl⟩
          have g0 : (K == 0) = false := by rw [beq_eq_false_iff_ne]; omega
          obtain ⟨f', hf', hv'⟩ := readF_on hr0 hf ho
          have hdk := hdl k
          simp only [oneR, ← hK, g0, ← hR, fldV, push_cast, ↓reduceIte, reduceCtorEq, Nat.reduceBEq, Nat.reduceEqDiff, Nat.reduceAdd, Nat.reduceSub, Nat.reduceLT, Nat.reduceLeDiff, Nat.reduceMul]
          rw [hdr, toNat_int hK]
          refine ⟨by simp, by omega, ⟨by omega, by omega, by omega⟩, ⟨r.drop k, f', [x], by omega, by simp only [List.length_cons, List.length_nil] at hlen ⊢; omega, ?_, .inr ⟨by simp, rfl, rfl⟩⟩, by simp only [List.length_map]; omega⟩
          rw [hv, hv', Option.map_map]
          congr 1
      · have hr0 : r = [] := by
          have : ¬ R > 0 := by simpa using h
          exact List.eq_nil_of_length_eq_zero (by omega)
        simp only [push_cast, ↓reduceIte, reduceCtorEq, Nat.reduceBEq, Nat.reduceEqDiff, Nat.reduceAdd, Nat.reduceSub, Nat.reduceLT, Nat.reduceLeDiff, Nat.reduceMul]
        rw [hv, hr0, readF_nil]
        exact ⟨rfl, rfl⟩
    · simp only [← hR, push_cast, ↓reduceIte, reduceCtorEq, Nat.reduceBEq, Nat.reduceEqDiff, Nat.reduceAdd, Nat.reduceSub, Nat.reduceLT, Nat.reduceLeDiff, Nat.reduceMul]
      refine cnd_mk (fun h => ?_) (fun h => ?_)
      · have hr0 : 0 < r.length := by have : R > 0 := by simpa using h
                                      omega
        simp only [← hR, push_cast, ↓reduceIte, reduceCtorEq, Nat.reduceBEq, Nat.reduceEqDiff, Nat.reduceAdd, Nat.reduceSub, Nat.reduceLT, Nat.reduceLeDiff, Nat.reduceMul]
        refine call_mk (one_t r (by omega)) rfl trivial ?_
        cases ho : oneL r with
        | none =>
          simp only [oneR, fldV, push_cast, ↓reduceIte, reduceCtorEq, Nat.reduceBEq, Nat.reduceEqDiff, Nat.reduceAdd, Nat.reduceSub, Nat.reduceLT, Nat.reduceLeDiff, Nat.reduceMul]
          rw [hv, readF_no hr0 ho]
          exact ⟨rfl, rfl⟩
        | some p =>
          obtain ⟨x, k⟩ := p
          have hb := oneL_bound ho
          obtain ⟨K, hK⟩ : ∃ K : Int, K = k := ⟨_, rfl⟩
          have g0 : (K == 0) = false := by rw [beq_eq_false_iff_ne]; omega
          obtain ⟨f', hf', hv'⟩ := readF_on hr0 hf ho
          have hdk := hdl k
          have hx : fldV x = .agg [.v (.int .i64 (x.1 : Nat)), .v (.int .i64 (x.2.1 : Nat)), .v (.int .u64 (x.2.2.1 : Nat)), .sl 1 (bys x.2.2.2)] := rfl
          simp only [oneR, ← hK, g0, ← hR, hx, take_map_len, push_cast, ↓reduceIte, reduceCtorEq, Nat.reduceBEq, Nat.reduceEqDiff, Nat.reduceAdd, Nat.reduceSub, Nat.reduceLT, Nat.reduceLeDiff, Nat.reduceMul]
          rw [hdr, toNat_int hK]
          refine ⟨by simp, by omega, ⟨by omega, by omega, by omega⟩, ⟨r.drop k, f', ns ++ [x], by omega, by rw [List.length_append, hdk, List.length_singleton]; omega, ?_, .inr ⟨by simp, by simp, by simp [fldV]⟩⟩, by simp only [List.length_map]; omega⟩
          rw [hv, hv', Option.map_map]
          congr 1
          funext y
          simp
      · have hr0 : r = [] := by
          have : ¬ R > 0 := by simpa using h
          exact List.eq_nil_of_length_eq_zero (by omega)
        simp only [push_cast, ↓reduceIte, reduceCtorEq, Nat.reduceBEq, Nat.reduceEqDiff, Nat.reduceAdd, Nat.reduceSub, Nat.reduceLT, Nat.reduceLeDiff, Nat.reduceMul]
        rw [hv, hr0, readF_nil, Option.map_some, List.append_nil, (readR_some hns).1, (readR_some hns).2]
        exact ⟨rfl, rfl⟩
end Go.Ev
