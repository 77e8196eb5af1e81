import Derived.Test.YtjcpepjhjencaaaDoorNumT1
namespace Go.Ev
open Go Go.RowKit
set_option linter.unnecessarySimpa false
set_option linter.unusedSimpArgs false
set_option linter.unusedVariables false
theorem bstr_data (l : List UInt8) : (bstr l).data.toList = l := by simp [bstr]
/-- A number, or none. -/
def opt (o : Option Int) : AV := match o with
  | some v => .tup [int .i64 v, bl true]
  | none => .tup [int .i64 0, bl false]
theorem rpd_no {neg : Bool} {d : List UInt8} (h : d.length = 0 ∨ 19 < d.length ∨ (isNought d = true ∧ (1 < d.length ∨ neg = true))) : rpd neg d = none := by
  unfold rpd; rw [if_pos h]
theorem rpd_bad {neg : Bool} {d : List UInt8} (h : d.all isDig = false) : rpd neg d = none := by
  unfold rpd
  rw [if_pos h]
  split <;> rfl
theorem rpd_yes {neg : Bool} {d : List UInt8} (h : ¬ (d.length = 0 ∨ 19 < d.length ∨ (isNought d = true ∧ (1 < d.length ∨ neg = true)))) (hd : d.all isDig = true) :
    rpd neg d = if neg = true then (if dval 0 d ≤ 9223372036854775808 then some (-(dval 0 d : Int)) else none) else (if dval 0 d < 9223372036854775808 then some (dval 0 d : Int) else none) := by
  unfold rpd; rw [if_neg h, if_neg (by rw [hd]; simp)]
theorem dval_19 {l : List UInt8} (h : l.all isDig = true) (hl : l.length ≤ 19) : dval 0 l < 10000000000000000000 := by
  have h2 : 10 ^ l.length ≤ 10 ^ 19 := Nat.pow_le_pow_right (by decide) hl
  have h1 := dval_lt l 0 h
  rw [Nat.zero_add, Nat.one_mul] at h1
  exact Nat.lt_of_lt_of_le h1 h2
theorem dval_18 {l : List UInt8} (h : l.all isDig = true) (hl : l.length ≤ 18) : dval 0 l < 1000000000000000000 := by
  have h2 : 10 ^ l.length ≤ 10 ^ 18 := Nat.pow_le_pow_right (by decide) hl
  have h1 := dval_lt l 0 h
  rw [Nat.zero_add, Nat.one_mul] at h1
  exact Nat.lt_of_lt_of_le h1 h2
theorem take_step {d : List UInt8} {i : Nat} (hi : i < d.length) : d.take (i + 1) = d.take i ++ [d.getD i 0] := by
  rw [List.take_succ_eq_append_getElem hi]
  simp [List.getD, hi]
theorem dval_step {d : List UInt8} {i : Nat} (hi : i < d.length) : dval 0 (d.take (i + 1)) = dval 0 (d.take i) * 10 + ((d.getD i 0).toNat - 48) := by
  rw [take_step hi, dval_app]; rfl
theorem all_step {d : List UInt8} {i : Nat} (hi : i < d.length) : (d.take (i + 1)).all isDig = ((d.take i).all isDig && isDig (d.getD i 0)) := by
  rw [take_step hi, List.all_append]; simp
theorem all_bad {d : List UInt8} {i : Nat} (hi : i < d.length) (h : isDig (d.getD i 0) = false) : d.all isDig = false := by
  rw [← List.take_append_drop (i + 1) d, List.all_append, all_step hi, h]; simp
set_option maxRecDepth 100000 in
theorem rparse_t (l : List UInt8) (hl : l.length ≤ 9223372036854775807) : Triple Go.Proofs.Tryd.prog 27 [strv (bstr l)] [] (opt (rp l)) [] := by
  refine apiaryref1_Parse_triple rfl (by decide) ?_
  simp only [apiaryref1_Parse_pc, List.length_nil, bstr_size, bstr_data, push_cast, ↓reduceIte, reduceCtorEq, Nat.reduceBEq, Nat.reduceEqDiff, Nat.reduceAdd, Nat.reduceSub, Nat.reduceLT, Nat.reduceLeDiff, Nat.reduceMul]
  refine ⟨by simp only [decide_eq_true_eq]; omega, ?_⟩
  refine cnd_join (fun e ob => ∃ (neg : Bool) (d : List UInt8), e 4 = bl neg ∧ e 5 = strv (bstr d) ∧ rp l = rpd neg d ∧ d.length ≤ l.length ∧ ob = fun _ => none) ?_ (fun h => ?_) (fun h => ?_)
  · rintro e ob ⟨neg, d, h4, h5, hrp, hdl, rfl⟩
    rw [hrp]
    simp only [h4, h5, bstr_size, bstr_data, bstr_list, push_cast, ↓reduceIte, reduceCtorEq, Nat.reduceBEq, Nat.reduceEqDiff, Nat.reduceAdd, Nat.reduceSub, Nat.reduceLT, Nat.reduceLeDiff, Nat.reduceMul]
    generalize hN : ((d.length : Nat) : Int) = N
    generalize hC : (((d.getD (Int.toNat 0) 0).toNat : Nat) : Int) = C
    generalize hB : (d == ({ data := #[] } : ByteArray).toList) = B
    have hB0 : B = true → d = [] := fun h => by
      rw [← hB, ByteArray.toList_eq] at h
      simpa using h
    have hB1 : B = false → 1 ≤ N := fun h => by
      cases d with
      | nil => rw [← hB, ByteArray.toList_eq] at h; cases h
      | cons c r => simp at hN; omega
    have hC48 : C = 48 → isNought d = true ∨ d = [] := fun h => by
      cases d with
      | nil => exact .inr rfl
      | cons c r =>
        left
        have : ((c.toNat : Nat) : Int) = 48 := by rw [← h, ← hC]; rfl
        simp only [isNought, decide_eq_true_eq]
        omega
    have hCn : C ≠ 48 → isNought d = false := fun h => by
      cases d with
      | nil => rfl
      | cons c r =>
        simp only [isNought, decide_eq_false_iff_not]
        intro h2
        apply h
        rw [← hC]
        show ((c.toNat : Nat) : Int) = 48
        omega
    have hN0 : 0 ≤ N := by omega
    repeat refine And.intro (by cases B <;> cases neg <;> by_cases c1 : N > 19 <;> by_cases c2 : C = 48 <;> by_cases c3 : N > 1 <;> simp [c1, c2, c3] <;> simp at hB1 <;> omega) ?_
    refine cnd_mk (fun h => ?_) (fun h => ?_)
    · simp only [push_cast, ↓reduceIte, reduceCtorEq, Nat.reduceBEq, Nat.reduceEqDiff, Nat.reduceAdd, Nat.reduceSub, Nat.reduceLT, Nat.reduceLeDiff, Nat.reduceMul]
      have hr : d.length = 0 ∨ 19 < d.length ∨ (isNought d = true ∧ (1 < d.length ∨ neg = true)) := by
        cases B with
        | true => exact .inl (by rw [hB0 rfl]; rfl)
        | false =>
          by_cases c1 : N > 19
          · exact .inr (.inl (by omega))
          · by_cases c2 : C = 48
            · have hd : isNought d = true := (hC48 c2).resolve_right (fun e => by have := hB1 rfl; subst e; simp at hN; omega)
              by_cases c3 : N > 1
              · exact .inr (.inr ⟨hd, .inl (by omega)⟩)
              · cases neg with
                | true => exact .inr (.inr ⟨hd, .inr rfl⟩)
                | false => simp [c1, c2, c3] at h
            · simp [c1, c2] at h
      rw [rpd_no hr]; rfl
    · have hr : N ≤ 19 ∧ 1 ≤ N ∧ ¬ (d.length = 0 ∨ 19 < d.length ∨ (isNought d = true ∧ (1 < d.length ∨ neg = true))) := by
        cases B with
        | true => simp at h
        | false =>
          have N1 := hB1 rfl
          by_cases c1 : N > 19
          · simp [c1] at h
          · refine ⟨by omega, N1, ?_⟩
            rintro (h5 | h5 | ⟨h5, h6⟩)
            · omega
            · omega
            · by_cases c2 : C = 48
              · rcases h6 with h6 | h6
                · have c3 : N > 1 := by omega
                  simp [c1, c2, c3] at h
                · subst h6
                  simp [c1, c2] at h
              · rw [hCn c2] at h5; cases h5
      obtain ⟨N19, N1, hrr⟩ := hr
      clear h
      simp only [h4, h5, push_cast, ↓reduceIte, reduceCtorEq, Nat.reduceBEq, Nat.reduceEqDiff, Nat.reduceAdd, Nat.reduceSub, Nat.reduceLT, Nat.reduceLeDiff, Nat.reduceMul]
      have hlt : ∀ i : Nat, i ≤ 19 → (d.take i).all isDig = true → dval 0 (d.take i) < 10000000000000000000 := fun i hi ha =>
        dval_19 ha (Nat.le_trans (List.length_take_le i d) hi)
      refine run_loop [(4, false), (5, false), (6, false), (7, false)] (fun vs pos los => ∃ (i U : Int), 0 ≤ i ∧ i ≤ N ∧ (d.take i.toNat).all isDig = true ∧ U = dval 0 (d.take i.toNat) ∧
        vs = [bl neg, strv (bstr d), int .u64 U, int .i64 i] ∧ pos = [] ∧ los = []) (fun vs _ _ => match vs with | [_, _, _, .r (.v (.int _ j))] => (N - j).toNat | _ => 0) rfl ?_ ?_
      · simp only [h4, h5, push_cast, ↓reduceIte, reduceCtorEq, Nat.reduceBEq, Nat.reduceEqDiff, Nat.reduceAdd, Nat.reduceSub, Nat.reduceLT, Nat.reduceLeDiff, Nat.reduceMul]
        exact ⟨0, 0, by omega, by omega, by simp, by rw [show (0 : Int).toNat = 0 from rfl, List.take_zero]; rfl, rfl⟩
      · rintro vs pos los ⟨i, U, i0, iN, ha, hU, rfl, rfl, rfl⟩
        have hUl := hlt i.toNat (by omega) ha
        simp only [bstr_size, bstr_data, hN, push_cast, ↓reduceIte, reduceCtorEq, Nat.reduceBEq, Nat.reduceEqDiff, Nat.reduceAdd, Nat.reduceSub, Nat.reduceLT, Nat.reduceLeDiff, Nat.reduceMul]
        refine cnd_mk (fun h => ?_) (fun h => ?_)
        · have hi : i < N := by simpa using h
          have hin : i.toNat < d.length := by omega
          have hs1 := dval_step hin
          have hU18 := dval_18 ha (Nat.le_trans (List.length_take_le _ d) (show i.toNat ≤ 18 by omega))
          have hs2 := all_step hin
          have hbad := all_bad hin
          have hCl := (d.getD i.toNat 0).toNat_lt
          have hdg : isDig (d.getD i.toNat 0) = decide (48 ≤ (d.getD i.toNat 0).toNat ∧ (d.getD i.toNat 0).toNat ≤ 57) := rfl
          simp only [bstr_size, bstr_data, hN, push_cast, ↓reduceIte, reduceCtorEq, Nat.reduceBEq, Nat.reduceEqDiff, Nat.reduceAdd, Nat.reduceSub, Nat.reduceLT, Nat.reduceLeDiff, Nat.reduceMul]
          generalize hC' : (((d.getD i.toNat 0).toNat : Nat) : Int) = C'
          refine ⟨⟨i0, hi⟩, fun _ => ⟨i0, hi⟩, ?_⟩
          repeat refine And.intro (by simp +contextual) ?_
          refine cnd_mk (fun h2 => ?_) (fun h2 => ?_)
          · simp only [push_cast, ↓reduceIte, reduceCtorEq, Nat.reduceBEq, Nat.reduceEqDiff, Nat.reduceAdd, Nat.reduceSub, Nat.reduceLT, Nat.reduceLeDiff, Nat.reduceMul]
            have : isDig (d.getD i.toNat 0) = false := by
              rw [hdg, decide_eq_false_iff_not]
              by_cases c1 : C' < 48
              · omega
              · by_cases c2 : C' > 57
                · omega
                · simp [c1, c2] at h2
            rw [rpd_bad (hbad this)]; rfl
          · have c1 : ¬ C' < 48 := fun c1 => by simp [c1] at h2
            have c2 : ¬ C' > 57 := fun c2 => by simp [c1, c2] at h2
            have w1 : IntKind.u64.wrap (10 * U) = (10 * U) % 18446744073709551616 := IntKind.wrap_u64 _
            have w2 : IntKind.u8.wrap (C' - 48) = C' - 48 := by rw [IntKind.wrap_u8]; omega
            have w3 : IntKind.u64.wrap (C' - 48) = C' - 48 := by rw [IntKind.wrap_u64]; omega
            have w4 : IntKind.i64.wrap (i + 1) = i + 1 := wrap_id (by omega)
            have hst : (i + 1).toNat = i.toNat + 1 := by omega
            have ha2 : (d.take (i.toNat + 1)).all isDig = true := by rw [hs2, ha, hdg, Bool.true_and, decide_eq_true_eq]; omega
            have hUl2 := hlt (i.toNat + 1) (by omega) ha2
            have w5 : IntKind.u64.wrap ((10 * U) % 18446744073709551616 + (C' - 48)) = dval 0 (d.take (i.toNat + 1)) := by rw [IntKind.wrap_u64, hs1]; omega
            generalize hV : ((dval 0 (d.take (i.toNat + 1)) : Nat) : Int) = V at w5
            simp only [bstr_size, bstr_data, hN, hC', w1, w2, w3, w4, w5, push_cast, ↓reduceIte, reduceCtorEq, Nat.reduceBEq, Nat.reduceEqDiff, Nat.reduceAdd, Nat.reduceSub, Nat.reduceLT, Nat.reduceLeDiff, Nat.reduceMul]
            refine ⟨⟨i0, hi⟩, ⟨i + 1, V, by omega, by omega, by rw [hst]; exact ha2, by rw [hst, hV], rfl⟩, by omega⟩
        · have hi : i = N := by have : ¬ i < N := by simpa using h
                                omega
          have htk : d.take i.toNat = d := List.take_of_length_le (by omega)
          rw [htk] at ha hU hUl
          rw [rpd_yes hrr ha]
          simp only [push_cast, ↓reduceIte, reduceCtorEq, Nat.reduceBEq, Nat.reduceEqDiff, Nat.reduceAdd, Nat.reduceSub, Nat.reduceLT, Nat.reduceLeDiff, Nat.reduceMul]
          cases neg with
          | true =>
            by_cases c1 : U ≤ 9223372036854775808
            · have g1 : decide (U ≤ 9223372036854775808) = true := by simp [c1]
              have w1 : IntKind.i64.wrap (IntKind.u64.wrap (0 - U)) = -U := by rw [IntKind.wrap_u64, IntKind.wrap_i64]; omega
              simp only [g1, w1, push_cast, ↓reduceIte, reduceCtorEq, Nat.reduceBEq, Nat.reduceEqDiff, Nat.reduceAdd, Nat.reduceSub, Nat.reduceLT, Nat.reduceLeDiff, Nat.reduceMul]
              rw [if_pos (by omega), ← hU]; rfl
            · have g1 : decide (U ≤ 9223372036854775808) = false := by simp; omega
              simp only [g1, push_cast, ↓reduceIte, reduceCtorEq, Nat.reduceBEq, Nat.reduceEqDiff, Nat.reduceAdd, Nat.reduceSub, Nat.reduceLT, Nat.reduceLeDiff, Nat.reduceMul]
              rw [if_neg (by omega)]; rfl
          | false =>
            by_cases c1 : U ≥ 9223372036854775808
            · have g1 : decide (U ≥ 9223372036854775808) = true := by simp; omega
              simp only [g1, push_cast, ↓reduceIte, reduceCtorEq, Nat.reduceBEq, Nat.reduceEqDiff, Nat.reduceAdd, Nat.reduceSub, Nat.reduceLT, Nat.reduceLeDiff, Nat.reduceMul]
              rw [if_neg (by omega)]; rfl
            · have g1 : decide (U ≥ 9223372036854775808) = false := by simp; omega
              have w1 : IntKind.i64.wrap U = U := wrap_id (by omega)
              simp only [g1, w1, push_cast, ↓reduceIte, reduceCtorEq, Nat.reduceBEq, Nat.reduceEqDiff, Nat.reduceAdd, Nat.reduceSub, Nat.reduceLT, Nat.reduceLeDiff, Nat.reduceMul]
              rw [if_pos (by omega), ← hU]; rfl
  · simp only [bstr_size, push_cast, ↓reduceIte, reduceCtorEq, Nat.reduceBEq, Nat.reduceEqDiff, Nat.reduceAdd, Nat.reduceSub, Nat.reduceLT, Nat.reduceLeDiff, Nat.reduceMul]
    cases l with
    | nil => exact absurd h (by decide)
    | cons c r =>
      have hc : c.toNat = 45 := by
        have : (((c.toNat : Nat) : Int) == 45) = true := by simpa using h
        have := eq_of_beq this
        omega
      refine ⟨by simp at hl ⊢; omega, true, r, by rw [h], ?_, ?_, by simp⟩
      · rw [show (Int.toNat 1) = 1 from rfl, Int.toNat_natCast, bstr_sub _ _ _ (Nat.le_refl _), List.take_length]
        rfl
      · simp [rp, isNeg, hc]
  · simp only [push_cast, ↓reduceIte, reduceCtorEq, Nat.reduceBEq, Nat.reduceEqDiff, Nat.reduceAdd, Nat.reduceSub, Nat.reduceLT, Nat.reduceLeDiff, Nat.reduceMul]
    cases l with
    | nil => exact ⟨false, [], by rw [h], rfl, rfl, by simp⟩
    | cons c r =>
      have hc : ¬ c.toNat = 45 := fun hc => by
        have : (((c.toNat : Nat) : Int) == 45) = false := by simpa using h
        have := ne_of_beq_false this
        omega
      exact ⟨false, c :: r, by rw [h], rfl, by simp [rp, isNeg, hc], by simp⟩
end Go.Ev
