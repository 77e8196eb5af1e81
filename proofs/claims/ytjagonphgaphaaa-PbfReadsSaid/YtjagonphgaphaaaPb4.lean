import Derived.Test.YtjagonphgaphaaaPb3
namespace Go.Ev
open Go Go.RowKit
set_option linter.unnecessarySimpa false
set_option linter.unusedSimpArgs false
set_option linter.unusedVariables false
theorem seg_bys (l : List UInt8) (a n : Nat) : List.drop a (List.take (a + n) (bys l)) = bys ((l.drop a).take n) := by
  show List.drop a (List.take (a + n) (List.map by8 l)) = List.map by8 ((l.drop a).take n)
  rw [List.drop_take, ← List.map_drop, ← List.map_take, Nat.add_sub_cancel_left]
/-- A field, as a value. -/
def fldV (x : Fld) : RV := .agg [.v (.int .i64 (x.1 : Nat)), .v (.int .i64 (x.2.1 : Nat)), .v (.int .u64 (x.2.2.1 : Nat)), .sl 1 (bys x.2.2.2)]
/-- What is told of the field at the front. -/
def oneR : Option (Fld × Nat) → AV
  | none => .tup [.r (fldV (0, 0, 0, [])), int .i64 0]
  | some (x, k) => .tup [.r (fldV x), int .i64 (k : Nat)]
theorem oneR_none : AV.tup [.r (.agg [.v (.int .i64 0), .v (.int .i64 0), .v (.int .u64 0), .sl 1 []]), .r (.v (.int .i64 0))] = oneR none := rfl
theorem oneR_some {a b c k : Int} {x : Fld} {n : Nat} {d : List RV} (ha : a = (x.1 : Nat)) (hb : b = (x.2.1 : Nat)) (hc : c = (x.2.2.1 : Nat)) (hd : d = bys x.2.2.2) (hk : k = (n : Nat)) :
    AV.tup [.r (.agg [.v (.int .i64 a), .v (.int .i64 b), .v (.int .u64 c), .sl 1 d]), .r (.v (.int .i64 k))] = oneR (some (x, n)) := by
  rw [ha, hb, hc, hd, hk]; rfl
set_option maxRecDepth 100000 in
theorem one_t (l : List UInt8) (hl : l.length ≤ 1000000000) : Triple Go.Proofs.Try.prog 27 [sb l] [] (oneR (oneL l)) [] := by
  refine pbf_one_triple rfl (by decide) ?_
  have hmax := maxLen_big
  obtain ⟨R, hR, R0⟩ : ∃ R : Int, R = l.length ∧ 0 ≤ R := ⟨_, rfl, by omega⟩
  obtain ⟨ht1, ht2, ht3⟩ := take_bound l
  obtain ⟨T, hT⟩ : ∃ U : Int, U = (take l).1 := ⟨_, rfl⟩
  obtain ⟨K, hK⟩ : ∃ K : Int, K = (take l).2 := ⟨_, rfl⟩
  have m8 : IntKind.i64.wrap (T.tmod 8) = T % 8 := by rw [Int.tmod_eq_emod_of_nonneg (by omega)]; exact wrap_id (by omega)
  have d8 : IntKind.u64.wrap (T.tdiv 8) = T / 8 := by rw [Int.tdiv_eq_ediv_of_nonneg (by omega), IntKind.wrap_u64]; omega
  have d8i : IntKind.i64.wrap (T / 8) = T / 8 := wrap_id (by omega)
  simp only [pbf_one_pc, List.length_nil, push_cast, ↓reduceIte, reduceCtorEq, Nat.reduceBEq, Nat.reduceEqDiff, Nat.reduceAdd, Nat.reduceSub, Nat.reduceLT, Nat.reduceLeDiff, Nat.reduceMul]
  refine call_mk (take_t l (by omega)) rfl trivial ?_
  rw [← hT, ← hK]
  simp only [m8, d8, push_cast, ↓reduceIte, reduceCtorEq, Nat.reduceBEq, Nat.reduceEqDiff, Nat.reduceAdd, Nat.reduceSub, Nat.reduceLT, Nat.reduceLeDiff, Nat.reduceMul]
  repeat refine And.intro (by by_cases c1 : K = 0 <;> by_cases c2 : T / 8 < 1 <;> by_cases c3 : T / 8 > 1000 <;> simp [c1, c2, c3] <;> omega) ?_
  refine cnd_mk (fun h => ?_) (fun h => ?_)
  · have hc : (take l).2 = 0 ∨ (take l).1 / 8 < 1 ∨ 1000 < (take l).1 / 8 := by
      by_cases c1 : K = 0 <;> by_cases c2 : T / 8 < 1 <;> by_cases c3 : T / 8 > 1000 <;> simp [c1, c2, c3] at h <;> omega
    have hone : oneL l = none := if_pos hc
    simp only [push_cast, ↓reduceIte, reduceCtorEq, Nat.reduceBEq, Nat.reduceEqDiff, Nat.reduceAdd, Nat.reduceSub, Nat.reduceLT, Nat.reduceLeDiff, Nat.reduceMul]
    rw [hone]
    exact oneR_none
  · have hc : ¬ ((take l).2 = 0 ∨ (take l).1 / 8 < 1 ∨ 1000 < (take l).1 / 8) := by
      intro hc
      by_cases c1 : K = 0 <;> by_cases c2 : T / 8 < 1 <;> by_cases c3 : T / 8 > 1000 <;> simp [c1, c2, c3] at h <;> omega
    have hdr : List.drop K.toNat (List.take R.toNat (bys l)) = bys (l.drop (take l).2) := by
      rw [List.take_of_length_le (by simp; omega), toNat_int hK]
      exact drop_by8 l _
    obtain ⟨hn1, hn2, hn3⟩ := take_bound (l.drop (take l).2)
    have hdl : (l.drop (take l).2).length = l.length - (take l).2 := List.length_drop
    obtain ⟨U, hU⟩ : ∃ U : Int, U = (take (l.drop (take l).2)).1 := ⟨_, rfl⟩
    obtain ⟨J, hJ⟩ : ∃ U : Int, U = (take (l.drop (take l).2)).2 := ⟨_, rfl⟩
    have hkj : IntKind.i64.wrap (K + J) = K + J := wrap_id (by omega)
    simp only [m8, d8, d8i, ← hR, push_cast, ↓reduceIte, reduceCtorEq, Nat.reduceBEq, Nat.reduceEqDiff, Nat.reduceAdd, Nat.reduceSub, Nat.reduceLT, Nat.reduceLeDiff, Nat.reduceMul]
    rw [hdr]
    refine ⟨by omega, ⟨by omega, by omega, by omega⟩, ?_⟩
    refine call_mk (take_t (l.drop (take l).2) (by omega)) rfl trivial ?_
    rw [← hU, ← hJ]
    simp only [m8, d8, d8i, push_cast, ↓reduceIte, reduceCtorEq, Nat.reduceBEq, Nat.reduceEqDiff, Nat.reduceAdd, Nat.reduceSub, Nat.reduceLT, Nat.reduceLeDiff, Nat.reduceMul]
    by_cases j0 : J = 0
    · have g : (J == 0) = true := by simp [j0]
      have hone : oneL l = none := by
        rw [oneL, if_neg hc, if_pos (by omega)]
      simp only [g, push_cast, ↓reduceIte, reduceCtorEq, Nat.reduceBEq, Nat.reduceEqDiff, Nat.reduceAdd, Nat.reduceSub, Nat.reduceLT, Nat.reduceLeDiff, Nat.reduceMul]
      rw [hone]
      exact oneR_none
    · have g : (J == 0) = false := by simp [j0]
      simp only [g, push_cast, ↓reduceIte, reduceCtorEq, Nat.reduceBEq, Nat.reduceEqDiff, Nat.reduceAdd, Nat.reduceSub, Nat.reduceLT, Nat.reduceLeDiff, Nat.reduceMul]
      by_cases t0 : T % 8 = 0
      · have g2 : (T % 8 == 0) = true := by simp [t0]
        have hone : oneL l = some (((take l).1 / 8, 0, (take (l.drop (take l).2)).1, []), (take l).2 + (take (l.drop (take l).2)).2) := by
          rw [oneL, if_neg hc, if_neg (by omega), if_pos (by omega)]
        simp only [g2, hkj, push_cast, ↓reduceIte, reduceCtorEq, Nat.reduceBEq, Nat.reduceEqDiff, Nat.reduceAdd, Nat.reduceSub, Nat.reduceLT, Nat.reduceLeDiff, Nat.reduceMul]
        rw [hone]
        exact oneR_some (by dsimp only; omega) (by dsimp only; omega) (by dsimp only; omega) rfl (by omega)
      · have g2 : (T % 8 == 0) = false := by simp [t0]
        simp only [g2, push_cast, ↓reduceIte, reduceCtorEq, Nat.reduceBEq, Nat.reduceEqDiff, Nat.reduceAdd, Nat.reduceSub, Nat.reduceLT, Nat.reduceLeDiff, Nat.reduceMul]
        by_cases t2 : T % 8 = 2
        · have g3 : (T % 8 == 2) = true := by simp [t2]
          have wR : IntKind.u64.wrap (IntKind.i64.wrap (IntKind.i64.wrap (R - K) - J)) = R - K - J := by
            rw [wrap_id (x := R - K) (by omega), wrap_id (x := R - K - J) (by omega), IntKind.wrap_u64]; omega
          simp only [g3, ← hR, push_cast, ↓reduceIte, reduceCtorEq, Nat.reduceBEq, Nat.reduceEqDiff, Nat.reduceAdd, Nat.reduceSub, Nat.reduceLT, Nat.reduceLeDiff, Nat.reduceMul]
          rw [wR]
          by_cases un : U ≤ R - K - J
          · have g4 : decide (U ≤ R - K - J) = true := by simp [un]
            have wU : IntKind.i64.wrap U = U := wrap_id (by omega)
            have wS : IntKind.i64.wrap (K + J + U) = K + J + U := wrap_id (by omega)
            have hone : oneL l = some (((take l).1 / 8, 2, 0, (l.drop ((take l).2 + (take (l.drop (take l).2)).2)).take (take (l.drop (take l).2)).1), (take l).2 + (take (l.drop (take l).2)).2 + (take (l.drop (take l).2)).1) := by
              rw [oneL, if_neg hc, if_neg (by omega), if_neg (by omega), if_pos ⟨by omega, by omega⟩]
            simp only [g4, hkj, wU, wS, ← hR, push_cast, ↓reduceIte, reduceCtorEq, Nat.reduceBEq, Nat.reduceEqDiff, Nat.reduceAdd, Nat.reduceSub, Nat.reduceLT, Nat.reduceLeDiff, Nat.reduceMul]
            have hseg : List.drop (K + J).toNat (List.take (K + J + U).toNat (bys l)) = bys ((l.drop ((take l).2 + (take (l.drop (take l).2)).2)).take (take (l.drop (take l).2)).1) := by
              rw [show (K + J + U).toNat = (take l).2 + (take (l.drop (take l).2)).2 + (take (l.drop (take l).2)).1 by omega, show (K + J).toNat = (take l).2 + (take (l.drop (take l).2)).2 by omega, seg_bys]
            have hsl : (bys ((l.drop ((take l).2 + (take (l.drop (take l).2)).2)).take (take (l.drop (take l).2)).1)).length ≤ 1000000000 := by
              rw [List.length_map, List.length_take, List.length_drop]; omega
            rw [hone, hseg]
            have hfin : ∀ s : List RV, s = bys ((l.drop ((take l).2 + (take (l.drop (take l).2)).2)).take (take (l.drop (take l).2)).1) → AV.tup [.r (.agg [.v (.int .i64 (T / 8)), .v (.int .i64 (T % 8)), .v (.int .u64 0), .sl 1 s]), .r (.v (.int .i64 (K + J + U)))] = oneR (some (((take l).1 / 8, 2, 0, (l.drop ((take l).2 + (take (l.drop (take l).2)).2)).take (take (l.drop (take l).2)).1), (take l).2 + (take (l.drop (take l).2)).2 + (take (l.drop (take l).2)).1)) :=
              fun s hs => oneR_some (by dsimp only; omega) (by dsimp only; omega) rfl hs (by omega)
            generalize hsg : bys ((l.drop ((take l).2 + (take (l.drop (take l).2)).2)).take (take (l.drop (take l).2)).1) = sg at hsl hfin
            refine ⟨by simp, ⟨by omega, by omega, by omega, by omega⟩, ⟨by omega, by omega⟩, ?_⟩
            refine hfin _ ?_
            rw [Nat.zero_add, List.take_length]
          · have g4 : decide (U ≤ R - K - J) = false := by simp; omega
            have hone : oneL l = none := by
              rw [oneL, if_neg hc, if_neg (by omega), if_neg (by omega), if_neg (by omega)]
            simp only [g4, push_cast, ↓reduceIte, reduceCtorEq, Nat.reduceBEq, Nat.reduceEqDiff, Nat.reduceAdd, Nat.reduceSub, Nat.reduceLT, Nat.reduceLeDiff, Nat.reduceMul]
            rw [hone]
            exact oneR_none
        · have g3 : (T % 8 == 2) = false := by simp [t2]
          have hone : oneL l = none := by
            rw [oneL, if_neg hc, if_neg (by omega), if_neg (by omega), if_neg (by omega)]
          simp only [g3, push_cast, ↓reduceIte, reduceCtorEq, Nat.reduceBEq, Nat.reduceEqDiff, Nat.reduceAdd, Nat.reduceSub, Nat.reduceLT, Nat.reduceLeDiff, Nat.reduceMul]
          rw [hone]
          exact oneR_none
end Go.Ev
