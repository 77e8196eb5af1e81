import Derived.Test.YtjagonphgaphaaaPb2
namespace Go.Ev
open Go Go.RowKit
set_option linter.unnecessarySimpa false
set_option linter.unusedSimpArgs false
set_option linter.unusedVariables false
theorem takeV {U i C : Int} {m k b : Nat} (hU : U = m) (hi : i = k) (hC : C = b) (hk : k ≤ 9) (hm : m < 2 ^ (7 * k)) (hb : b < 256) (h9 : k = 9 → b ≤ 1) :
    IntKind.u64.wrap ((BitVec.ofInt IntKind.u64.bits U ||| BitVec.ofInt IntKind.u64.bits (IntKind.u64.wrap (IntKind.u64.wrap (IntKind.u8.wrap ((BitVec.ofInt IntKind.u8.bits C &&& BitVec.ofInt IntKind.u8.bits 127).toNat)) * 2 ^ min (IntKind.u64.wrap (IntKind.i64.wrap (7 * i))).toNat IntKind.u64.bits))).toNat) = ((m + b % 128 * 2 ^ (7 * k) : Nat) : Int) := by
  have e1 : IntKind.i64.wrap (7 * i) = 7 * i := wrap_id (by omega)
  have e2 : IntKind.u64.wrap (7 * i) = 7 * i := by rw [IntKind.wrap_u64]; omega
  rw [e1, e2, show (7 * i).toNat = 7 * k by omega, show min (7 * k) IntKind.u64.bits = 7 * k from Nat.min_eq_left (by simp [IntKind.bits]; omega), hU, hC]
  exact take_bits hk hm hb h9
theorem getD_by8 (l : List UInt8) (i : Nat) (z : RV) (hi : i < l.length) : (List.map by8 l).getD i z = .v (.int .u8 (l[i].toNat : Int)) := by
  simp [List.getD, hi, by8]
set_option maxRecDepth 100000 in
theorem take_t (l : List UInt8) (hl : l.length ≤ 140737488355328) : Triple Go.Proofs.Try.prog 29 [sb l] [] (.tup [int .u64 (take l).1, int .i64 (take l).2]) [] := by
  refine pbf_take_triple rfl (by decide) ?_
  obtain ⟨N, hN, N0, N1⟩ : ∃ N : Int, N = l.length ∧ 0 ≤ N ∧ N ≤ 140737488355328 := ⟨_, rfl, by omega, by omega⟩
  simp only [pbf_take_pc, List.length_nil, ← hN, push_cast, ↓reduceIte, reduceCtorEq, Nat.reduceBEq, Nat.reduceEqDiff, Nat.reduceAdd, Nat.reduceSub, Nat.reduceLT, Nat.reduceLeDiff, Nat.reduceMul]
  refine run_loop [(4, false), (7, false), (8, false), (9, false)] (fun vs pos los => ∃ (i U : Int) (k m : Nat), i = k ∧ U = m ∧ k ≤ l.length ∧ k ≤ 9 ∧ m < 2 ^ (7 * k) ∧ take l = takeF k m (l.drop k) ∧
    vs = [int .u64 U, sb l, int .i64 N, int .i64 i] ∧ pos = [] ∧ los = [])
    (fun vs _ _ => match vs with | [_, _, _, .r (.v (.int _ j))] => (N - j).toNat | _ => 0) rfl ?_ ?_
  · simp only [push_cast, ↓reduceIte, reduceCtorEq, Nat.reduceBEq, Nat.reduceEqDiff, Nat.reduceAdd, Nat.reduceSub, Nat.reduceLT, Nat.reduceLeDiff, Nat.reduceMul]
    exact ⟨0, 0, 0, 0, rfl, rfl, by omega, by omega, by decide, rfl, rfl⟩
  · rintro vs pos los ⟨i, U, k, m, hik, hUm, hkl, hk9, hm, ht, rfl, rfl, rfl⟩
    simp only [push_cast, ↓reduceIte, reduceCtorEq, Nat.reduceBEq, Nat.reduceEqDiff, Nat.reduceAdd, Nat.reduceSub, Nat.reduceLT, Nat.reduceLeDiff, Nat.reduceMul]
    refine cnd_mk (fun h => ?_) (fun h => ?_)
    · have hi : i < N := by simpa using h
      have hin : k < l.length := by omega
      have hit : i.toNat = k := by omega
      obtain ⟨b, hb⟩ : ∃ b, l[k].toNat = b := ⟨_, rfl⟩
      have hb2 : b < 256 := by rw [← hb]; exact l[k].toNat_lt
      obtain ⟨C, hC⟩ : ∃ C : Int, C = b := ⟨_, rfl⟩
      have hg : (List.map by8 l).getD i.toNat (.v (.int .u8 0)) = .v (.int .u8 C) := by
        rw [hit, getD_by8 l k _ hin, hC, hb]
      have w4 : IntKind.i64.wrap (i + 1) = i + 1 := wrap_id (by omega)
      simp only [hg, push_cast, ↓reduceIte, reduceCtorEq, Nat.reduceBEq, Nat.reduceEqDiff, Nat.reduceAdd, Nat.reduceSub, Nat.reduceLT, Nat.reduceLeDiff, Nat.reduceMul]
      refine ⟨⟨by omega, by omega⟩, ?_⟩
      repeat refine And.intro (by by_cases c1 : i = 9 <;> by_cases c2 : C > 1 <;> by_cases c3 : i > 0 <;> by_cases c4 : C = 0 <;> simp [c1, c2, c3, c4] <;> omega) ?_
      refine cnd_mk (fun h2 => ?_) (fun h2 => ?_)
      · have hc : (k = 9 ∧ 1 < b) ∨ (0 < k ∧ b = 0) := by
          by_cases c1 : i = 9 <;> by_cases c2 : C > 1 <;> by_cases c3 : i > 0 <;> by_cases c4 : C = 0 <;> simp [c1, c2, c3, c4] at h2 <;> omega
        simp only [push_cast, ↓reduceIte, reduceCtorEq, Nat.reduceBEq, Nat.reduceEqDiff, Nat.reduceAdd, Nat.reduceSub, Nat.reduceLT, Nat.reduceLeDiff, Nat.reduceMul]
        rw [ht, takeF_no hin hb hc]
        rfl
      · have hc : ¬ ((k = 9 ∧ 1 < b) ∨ (0 < k ∧ b = 0)) := by
          intro hc
          by_cases c1 : i = 9 <;> by_cases c2 : C > 1 <;> by_cases c3 : i > 0 <;> by_cases c4 : C = 0 <;> simp [c1, c2, c3, c4] at h2 <;> omega
        have hv := takeV hUm hik hC hk9 hm hb2 (fun h9 => by omega)
        have hml := take_less (b := b) hm
        have hw7 : 0 ≤ IntKind.u64.wrap (IntKind.i64.wrap (7 * i)) := by rw [IntKind.wrap_u64]; omega
        generalize hm' : m + b % 128 * 2 ^ (7 * k) = m' at hv hml
        generalize hV : ((m' : Nat) : Int) = V at hv
        simp only [hv, push_cast, ↓reduceIte, reduceCtorEq, Nat.reduceBEq, Nat.reduceEqDiff, Nat.reduceAdd, Nat.reduceSub, Nat.reduceLT, Nat.reduceLeDiff, Nat.reduceMul]
        by_cases c1 : C < 128
        · have g1 : decide (C < 128) = true := by simp [c1]
          simp only [g1, w4, push_cast, ↓reduceIte, reduceCtorEq, Nat.reduceBEq, Nat.reduceEqDiff, Nat.reduceAdd, Nat.reduceSub, Nat.reduceLT, Nat.reduceLeDiff, Nat.reduceMul]
          refine ⟨hw7, ?_⟩
          rw [ht, takeF_end hin hb hc (by omega), hm']
          refine congrArg AV.tup ?_
          rw [← hV, show i + 1 = ((k + 1 : Nat) : Int) by omega]
        · have g1 : decide (C < 128) = false := by simp; omega
          simp only [g1, w4, push_cast, ↓reduceIte, reduceCtorEq, Nat.reduceBEq, Nat.reduceEqDiff, Nat.reduceAdd, Nat.reduceSub, Nat.reduceLT, Nat.reduceLeDiff, Nat.reduceMul]
          refine ⟨hw7, ⟨i + 1, V, k + 1, m', by omega, by omega, by omega, by omega, hml, ?_, rfl⟩, by omega⟩
          rw [ht, takeF_on hin hb hc (by omega), hm']
    · have hi : ¬ i < N := by simpa using h
      simp only [push_cast, ↓reduceIte, reduceCtorEq, Nat.reduceBEq, Nat.reduceEqDiff, Nat.reduceAdd, Nat.reduceSub, Nat.reduceLT, Nat.reduceLeDiff, Nat.reduceMul]
      rw [ht, takeF_none k m l (by omega)]
      rfl
theorem toNat_int {x : Int} {n : Nat} (h : x = n) : x.toNat = n := by omega
def nums64 (ns : List Nat) : List RV := ns.map fun n : Nat => RV.v (.int .u64 (n : Int))
/-- A row of numbers. -/
abbrev rowN (ns : List Nat) : Ob := .row 1 (.v (.int .u64 0)) true true (nums64 ns)
/-- What is told of numbers, or none. -/
def varsR : Option (List Nat) → AV
  | none => .tup [.nils 1 (.v (.int .u64 0)), int .i64 10]
  | some [] => .tup [.nils 1 (.v (.int .u64 0)), int .i64 0]
  | some (n :: ns) => .tup [.own 1000000 0 0 (n :: ns).length, int .i64 0]
def varsO : Option (List Nat) → List Ob
  | none => []
  | some [] => []
  | some (n :: ns) => [rowN (n :: ns)]
theorem nums_snoc (ns : List Nat) (n : Nat) : nums64 ns ++ [.v (.int .u64 (n : Int))] = nums64 (ns ++ [n]) := by simp [nums64]
theorem nums_len (ns : List Nat) : (nums64 ns).length = ns.length := by simp [nums64]
theorem take_nums (ns : List Nat) : List.take ns.length (nums64 ns) = nums64 ns := List.take_of_length_le (by rw [nums_len]; exact Nat.le_refl _)
theorem drop_by8 (l : List UInt8) (k : Nat) : List.drop k (List.map by8 l) = List.map by8 (l.drop k) := by rw [List.map_drop]
set_option maxRecDepth 100000 in
theorem vars_t (l : List UInt8) (hl : l.length ≤ 1000000000) : Triple Go.Proofs.Try.prog 16 [sb l] [] (varsR (varsL l)) (varsO (varsL l)) := by
  refine pbf_Vars_triple rfl (by decide) ?_
  simp only [pbf_Vars_pc, List.length_nil, push_cast, ↓reduceIte, reduceCtorEq, Nat.reduceBEq, Nat.reduceEqDiff, Nat.reduceAdd, Nat.reduceSub, Nat.reduceLT, Nat.reduceLeDiff, Nat.reduceMul]
  have hmax := maxLen_big
  refine run_loop [(0, false), (4, false)] (fun vs pos los => ∃ (r : List UInt8) (f : Nat) (ns : List Nat), r.length ≤ f ∧ r.length + ns.length ≤ l.length ∧ varsL l = (varsF f r).map (ns ++ ·) ∧ pos = [] ∧
    ((ns = [] ∧ vs = [sb r, .nils 1 (.v (.int .u64 0))] ∧ los = []) ∨ (ns ≠ [] ∧ vs = [sb r, .own 2000000 0 0 ns.length] ∧ los = [rowN ns])))
    (fun vs _ _ => match vs with | .r (.sl _ xs) :: _ => xs.length | _ => 0) rfl ?_ ?_
  · simp only [push_cast, ↓reduceIte, reduceCtorEq, Nat.reduceBEq, Nat.reduceEqDiff, Nat.reduceAdd, Nat.reduceSub, Nat.reduceLT, Nat.reduceLeDiff, Nat.reduceMul]
    refine ⟨l, l.length, [], Nat.le_refl _, by simp, ?_, .inl ⟨rfl, rfl⟩⟩
    show varsF l.length l = _
    cases varsF l.length l <;> simp
  · rintro vs pos los ⟨r, f, ns, hf, hlen, hv, rfl, hc⟩
    obtain ⟨R, hR, R0⟩ : ∃ R : Int, R = r.length ∧ 0 ≤ R := ⟨_, rfl, by omega⟩
    have hb := take_bound r
    obtain ⟨U, hU⟩ : ∃ U : Int, U = (take r).1 := ⟨_, rfl⟩
    obtain ⟨K, hK⟩ : ∃ K : Int, K = (take r).2 := ⟨_, rfl⟩
    have hdr : List.drop (take r).2 (List.take R.toNat (bys r)) = bys (r.drop (take r).2) := by
      rw [List.take_of_length_le (by simp; omega)]
      exact drop_by8 r _
    have hdl : (r.drop (take r).2).length = r.length - (take r).2 := List.length_drop
    have hsnoc : nums64 ns ++ [.v (.int .u64 U)] = nums64 (ns ++ [(take r).1]) := by rw [hU]; exact nums_snoc _ _
    rcases hc with ⟨rfl, rfl, rfl⟩ | ⟨hns, rfl, rfl⟩
    · simp only [← hR, push_cast, ↓reduceIte, reduceCtorEq, Nat.reduceBEq, Nat.reduceEqDiff, Nat.reduceAdd, Nat.reduceSub, Nat.reduceLT, Nat.reduceLeDiff, Nat.reduceMul]
      refine cnd_mk (fun h => ?_) (fun h => ?_)
      · have hr0 : 0 < r.length := by have : R > 0 := by simpa using h
                                      omega
        simp only [← hR, push_cast, ↓reduceIte, reduceCtorEq, Nat.reduceBEq, Nat.reduceEqDiff, Nat.reduceAdd, Nat.reduceSub, Nat.reduceLT, Nat.reduceLeDiff, Nat.reduceMul]
        refine call_mk (take_t r (by omega)) rfl trivial ?_
        rw [← hU, ← hK]
        simp only [← hR, push_cast, ↓reduceIte, reduceCtorEq, Nat.reduceBEq, Nat.reduceEqDiff, Nat.reduceAdd, Nat.reduceSub, Nat.reduceLT, Nat.reduceLeDiff, Nat.reduceMul]
        by_cases k0 : K = 0
        · have g0 : (K == 0) = true := by simp [k0]
          simp only [g0, push_cast, ↓reduceIte, reduceCtorEq, Nat.reduceBEq, Nat.reduceEqDiff, Nat.reduceAdd, Nat.reduceSub, Nat.reduceLT, Nat.reduceLeDiff, Nat.reduceMul]
          rw [hv, varsF_no hr0 (by omega)]
          exact ⟨rfl, rfl⟩
        · have g0 : (K == 0) = false := by simp [k0]
          obtain ⟨f', hf', hv'⟩ := varsF_on (n := (take r).1) (k := (take r).2) hr0 hf rfl (by omega)
          simp only [g0, ← hR, drop_by8, toNat_int hK, push_cast, ↓reduceIte, reduceCtorEq, Nat.reduceBEq, Nat.reduceEqDiff, Nat.reduceAdd, Nat.reduceSub, Nat.reduceLT, Nat.reduceLeDiff, Nat.reduceMul]
          rw [hdr]
          refine ⟨by simp, by omega, ⟨by omega, by omega, by omega⟩, ⟨r.drop (take r).2, f', [(take r).1], by omega, by simp only [List.length_cons, List.length_nil] at hlen ⊢; omega, ?_, .inr ⟨by simp, rfl, by rw [hU]; rfl⟩⟩, by simp only [List.length_map]; omega⟩
          rw [hv, hv', Option.map_map]
          congr 1
      · have hr0 : r = [] := by
          have : ¬ R > 0 := by simpa using h
          exact List.eq_nil_of_length_eq_zero (by omega)
        simp only [push_cast, ↓reduceIte, reduceCtorEq, Nat.reduceBEq, Nat.reduceEqDiff, Nat.reduceAdd, Nat.reduceSub, Nat.reduceLT, Nat.reduceLeDiff, Nat.reduceMul]
        rw [hv, hr0, varsF_nil]
        exact ⟨rfl, rfl⟩
    · simp only [← hR, push_cast, ↓reduceIte, reduceCtorEq, Nat.reduceBEq, Nat.reduceEqDiff, Nat.reduceAdd, Nat.reduceSub, Nat.reduceLT, Nat.reduceLeDiff, Nat.reduceMul]
      have hout : ∀ m : List Nat, m ≠ [] → varsR (some m) = .tup [.own 1000000 0 0 m.length, int .i64 0] ∧ varsO (some m) = [rowN m] := fun m hm => by
        cases m with
        | nil => exact absurd rfl hm
        | cons => exact ⟨rfl, rfl⟩
      refine cnd_mk (fun h => ?_) (fun h => ?_)
      · have hr0 : 0 < r.length := by have : R > 0 := by simpa using h
                                      omega
        simp only [← hR, push_cast, ↓reduceIte, reduceCtorEq, Nat.reduceBEq, Nat.reduceEqDiff, Nat.reduceAdd, Nat.reduceSub, Nat.reduceLT, Nat.reduceLeDiff, Nat.reduceMul]
        refine call_mk (take_t r (by omega)) rfl trivial ?_
        rw [← hU, ← hK]
        simp only [← hR, push_cast, ↓reduceIte, reduceCtorEq, Nat.reduceBEq, Nat.reduceEqDiff, Nat.reduceAdd, Nat.reduceSub, Nat.reduceLT, Nat.reduceLeDiff, Nat.reduceMul]
        by_cases k0 : K = 0
        · have g0 : (K == 0) = true := by simp [k0]
          simp only [g0, push_cast, ↓reduceIte, reduceCtorEq, Nat.reduceBEq, Nat.reduceEqDiff, Nat.reduceAdd, Nat.reduceSub, Nat.reduceLT, Nat.reduceLeDiff, Nat.reduceMul]
          rw [hv, varsF_no hr0 (by omega)]
          exact ⟨rfl, rfl⟩
        · have g0 : (K == 0) = false := by simp [k0]
          obtain ⟨f', hf', hv'⟩ := varsF_on (n := (take r).1) (k := (take r).2) hr0 hf rfl (by omega)
          simp only [g0, ← hR, drop_by8, toNat_int hK, take_nums, push_cast, ↓reduceIte, reduceCtorEq, Nat.reduceBEq, Nat.reduceEqDiff, Nat.reduceAdd, Nat.reduceSub, Nat.reduceLT, Nat.reduceLeDiff, Nat.reduceMul]
          rw [hdr, hsnoc]
          refine ⟨by simp, by omega, ⟨by omega, by omega, by omega⟩, ⟨r.drop (take r).2, f', ns ++ [(take r).1], by omega, by rw [List.length_append, hdl, List.length_singleton]; omega, ?_, .inr ⟨by simp, by simp, rfl⟩⟩, by simp only [List.length_map]; omega⟩
          rw [hv, hv', Option.map_map]
          congr 1
          funext x
          simp
      · have hr0 : r = [] := by
          have : ¬ R > 0 := by simpa using h
          exact List.eq_nil_of_length_eq_zero (by omega)
        simp only [push_cast, ↓reduceIte, reduceCtorEq, Nat.reduceBEq, Nat.reduceEqDiff, Nat.reduceAdd, Nat.reduceSub, Nat.reduceLT, Nat.reduceLeDiff, Nat.reduceMul]
        rw [hv, hr0, varsF_nil, Option.map_some, List.append_nil, (hout ns hns).1, (hout ns hns).2]
        exact ⟨rfl, rfl⟩
end Go.Ev
