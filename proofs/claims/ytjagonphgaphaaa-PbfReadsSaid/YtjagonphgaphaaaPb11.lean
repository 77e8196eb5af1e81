import Derived.Test.YtjagonphgaphaaaPb10
namespace Go.Ev
open Go Go.RowKit
set_option linter.unnecessarySimpa false
set_option linter.unusedSimpArgs false
set_option linter.unusedVariables false
theorem bstr_seg (l : List UInt8) (a n : Nat) (hn : a + n ≤ l.length) : (bstr l).extract a (a + n) = bstr ((l.drop a).take n) := by
  rw [bstr_sub _ _ _ hn, List.drop_take, Nat.add_sub_cancel_left]
theorem fldV_eq {a b c : Int} {x : Fld} {s : List RV} (ha : a = (x.1 : Nat)) (hb : b = (x.2.1 : Nat)) (hc : c = (x.2.2.1 : Nat)) (hs : s = bys x.2.2.2) :
    RV.agg [.v (.int .i64 a), .v (.int .i64 b), .v (.int .u64 c), .sl 1 s] = fldV x := by rw [ha, hb, hc, hs]; rfl
set_option maxHeartbeats 1000000 in
set_option maxRecDepth 100000 in
theorem rfields_t (l : List UInt8) (hl : l.length ≤ 100000000) : Triple Go.Proofs.Try.prog 15 [strv (bstr l)] [] (readR (readL l)) (readO (readL l)) := by
  refine apiaryref21_Fields_triple rfl (by decide) ?_
  obtain ⟨L, hL, L0⟩ : ∃ L : Int, L = l.length ∧ 0 ≤ L := ⟨_, rfl, by omega⟩
  simp only [apiaryref21_Fields_pc, List.length_nil, push_cast, ↓reduceIte, reduceCtorEq, Nat.reduceBEq, Nat.reduceEqDiff, Nat.reduceAdd, Nat.reduceSub, Nat.reduceLT, Nat.reduceLeDiff, Nat.reduceMul]
  have hmax := maxLen_big
  refine run_loop [(0, false), (4, false), (5, false)] (fun vs pos los => ∃ (A : Int) (k f : Nat) (ns : List Fld), A = k ∧ k ≤ l.length ∧ l.length - k ≤ f ∧ ns.length ≤ k ∧ readL l = (readF f (l.drop k)).map (ns ++ ·) ∧ pos = [] ∧
    ((ns = [] ∧ vs = [strv (bstr l), nilF, int .i64 A] ∧ los = []) ∨ (ns ≠ [] ∧ vs = [strv (bstr l), .own 2000000 0 0 ns.length, int .i64 A] ∧ los = [rowF ns])))
    (fun vs _ _ => match vs with | [_, _, .r (.v (.int _ j))] => (L - j).toNat | _ => 0) rfl ?_ ?_
  · simp only [push_cast, ↓reduceIte, reduceCtorEq, Nat.reduceBEq, Nat.reduceEqDiff, Nat.reduceAdd, Nat.reduceSub, Nat.reduceLT, Nat.reduceLeDiff, Nat.reduceMul]
    refine ⟨0, 0, l.length, [], rfl, by omega, by omega, by simp, ?_, .inl ⟨rfl, rfl⟩⟩
    show readF l.length l = _
    cases h : readF l.length l <;> simp [h]
  · rintro vs pos los ⟨A, k, f, ns, hA, hk, hf, hnk, hv, rfl, hc⟩
    generalize hr : l.drop k = r at hv
    have hrl : r.length = l.length - k := by rw [← hr]; exact List.length_drop
    have hb := take_bound r
    obtain ⟨T, hT⟩ : ∃ U : Int, U = (take r).1 := ⟨_, rfl⟩
    obtain ⟨K, hK⟩ : ∃ K : Int, K = (take r).2 := ⟨_, rfl⟩
    generalize hr2 : r.drop (take r).2 = r2
    have hrl2 : r2.length = r.length - (take r).2 := by rw [← hr2]; exact List.length_drop
    have hlk : l.drop (k + (take r).2) = r2 := by rw [← hr2, ← hr, List.drop_drop]
    have hb2 := take_bound r2
    obtain ⟨U, hU⟩ : ∃ U : Int, U = (take r2).1 := ⟨_, rfl⟩
    obtain ⟨J, hJ⟩ : ∃ K : Int, K = (take r2).2 := ⟨_, rfl⟩
    have hext : (bstr l).extract A.toNat L.toNat = bstr r := by rw [toNat_int hA, toNat_int hL, bstr_drop l k _ rfl, hr]
    have hext2 : (bstr l).extract (A + K).toNat L.toNat = bstr r2 := by rw [show (A + K).toNat = k + (take r).2 by omega, toNat_int hL, bstr_drop l _ _ rfl, hlk]
    have wk : IntKind.i64.wrap (A + K) = A + K := wrap_id (by omega)
    have wj : IntKind.i64.wrap (A + K + J) = A + K + J := wrap_id (by omega)
    have s3 : T.fdiv (2 ^ min (Int.toNat 3) IntKind.u64.bits) = T / 8 := shr_u T 3 (by decide)
    have a7 : IntKind.u64.wrap ((BitVec.ofInt IntKind.u64.bits T &&& BitVec.ofInt IntKind.u64.bits 7).toNat) = T % 8 := and_mask_u T 7 3 (by decide) (by decide) (by omega) (by omega)
    have c8 : IntKind.i64.wrap (T / 8) = T / 8 := wrap_id (by omega)
    have m8 : IntKind.i64.wrap (T % 8) = T % 8 := wrap_id (by omega)
    have wl : IntKind.u64.wrap (IntKind.i64.wrap (L - (A + K + J))) = L - (A + K + J) := by rw [wrap_id (x := L - (A + K + J)) (by omega), IntKind.wrap_u64]; omega
    have on1 : (take r).2 = 0 ∨ (take r).1 / 8 < 1 ∨ 1000 < (take r).1 / 8 → oneL r = none := fun h => oneL_none1 (tag := (take r).1) (k := (take r).2) rfl h
    have bad : oneL r = none → 0 < r.length → readR (readL l) = readR none ∧ readO (readL l) = readO none := fun h h0 => by
      rw [hv, readF_no h0 h]; exact ⟨rfl, rfl⟩
    have hdd : ∀ a, List.drop (k + a) l = r.drop a := fun a => by rw [← hr, List.drop_drop]
    rcases hc with ⟨rfl, rfl, rfl⟩ | ⟨hns, rfl, rfl⟩
    · simp only [bstr_size, ← hL, push_cast, ↓reduceIte, reduceCtorEq, Nat.reduceBEq, Nat.reduceEqDiff, Nat.reduceAdd, Nat.reduceSub, Nat.reduceLT, Nat.reduceLeDiff, Nat.reduceMul]
      refine cnd_mk (fun h => ?_) (fun h => ?_)
      · have hr0 : A < L := by simpa using h
        have hr1 : 0 < r.length := by omega
        simp only [bstr_size, ← hL, hext, push_cast, ↓reduceIte, reduceCtorEq, Nat.reduceBEq, Nat.reduceEqDiff, Nat.reduceAdd, Nat.reduceSub, Nat.reduceLT, Nat.reduceLeDiff, Nat.reduceMul]
        refine ⟨⟨by omega, by omega, by omega⟩, ?_⟩
        refine call_mk (runvar_t r (by omega)) rfl trivial ?_
        rw [← hT, ← hK]
        simp only [s3, a7, push_cast, ↓reduceIte, reduceCtorEq, Nat.reduceBEq, Nat.reduceEqDiff, Nat.reduceAdd, Nat.reduceSub, Nat.reduceLT, Nat.reduceLeDiff, Nat.reduceMul]
        repeat refine And.intro (by by_cases c1 : K = 0 <;> by_cases c2 : T / 8 < 1 <;> by_cases c3 : T / 8 > 1000 <;> by_cases c4 : T % 8 = 0 <;> simp [c1, c2, c3, c4] <;> omega) ?_
        refine cnd_mk (fun h2 => ?_) (fun h2 => ?_)
        · have hone : oneL r = none := by
            by_cases c1 : (take r).2 = 0 ∨ (take r).1 / 8 < 1 ∨ 1000 < (take r).1 / 8
            · exact on1 c1
            · refine oneL_none3 (tag := (take r).1) (k := (take r).2) rfl ?_ ?_
              · intro c4
                simp [show ¬ K = 0 by omega, show ¬ T / 8 < 1 by omega, show ¬ T / 8 > 1000 by omega, show T % 8 = 0 by omega] at h2
              · intro c4
                simp [show ¬ K = 0 by omega, show ¬ T / 8 < 1 by omega, show ¬ T / 8 > 1000 by omega, show T % 8 = 2 by omega] at h2
          simp only [push_cast, ↓reduceIte, reduceCtorEq, Nat.reduceBEq, Nat.reduceEqDiff, Nat.reduceAdd, Nat.reduceSub, Nat.reduceLT, Nat.reduceLeDiff, Nat.reduceMul]
          rw [(bad hone hr1).1, (bad hone hr1).2]
          exact ⟨rfl, rfl⟩
        · have hc1 : ¬ ((take r).2 = 0 ∨ (take r).1 / 8 < 1 ∨ 1000 < (take r).1 / 8) := by
            intro hc1
            by_cases c1 : K = 0 <;> by_cases c2 : T / 8 < 1 <;> by_cases c3 : T / 8 > 1000 <;> simp [c1, c2, c3] at h2 <;> omega
          have hc2 : T % 8 = 0 ∨ T % 8 = 2 := by
            by_cases c1 : K = 0 <;> by_cases c2 : T / 8 < 1 <;> by_cases c3 : T / 8 > 1000 <;> by_cases c4 : T % 8 = 0 <;> by_cases c5 : T % 8 = 2 <;> simp [c1, c2, c3, c4, c5] at h2 ⊢
          simp only [wk, s3, a7, c8, m8, bstr_size, ← hL, hext2, push_cast, ↓reduceIte, reduceCtorEq, Nat.reduceBEq, Nat.reduceEqDiff, Nat.reduceAdd, Nat.reduceSub, Nat.reduceLT, Nat.reduceLeDiff, Nat.reduceMul]
          refine ⟨by decide, ⟨by omega, by omega, by omega⟩, ?_⟩
          refine call_mk (runvar_t r2 (by omega)) rfl trivial ?_
          rw [← hU, ← hJ]
          simp only [push_cast, ↓reduceIte, reduceCtorEq, Nat.reduceBEq, Nat.reduceEqDiff, Nat.reduceAdd, Nat.reduceSub, Nat.reduceLT, Nat.reduceLeDiff, Nat.reduceMul]
          by_cases j0 : J = 0
          · have g : (J == 0) = true := by simp [j0]
            have hone : oneL r = none := oneL_none2 (tag := (take r).1) (k := (take r).2) (n := (take r2).1) rfl (by rw [hr2]; exact Prod.ext rfl (show (take r2).2 = 0 by omega))
            simp only [g, push_cast, ↓reduceIte, reduceCtorEq, Nat.reduceBEq, Nat.reduceEqDiff, Nat.reduceAdd, Nat.reduceSub, Nat.reduceLT, Nat.reduceLeDiff, Nat.reduceMul]
            rw [(bad hone hr1).1, (bad hone hr1).2]
            exact ⟨rfl, rfl⟩
          · have g : (J == 0) = false := by simp [j0]
            rcases hc2 with c0 | c0
            · have ho := oneL_num (l := r) (tag := (take r).1) (k := (take r).2) (n := (take r2).1) (j := (take r2).2) rfl (by rw [hr2]) hc1 (by omega) (by omega)
              obtain ⟨f', hf', hv'⟩ := readF_on (f := f) hr1 (by omega) ho
              have g2 : ((0 : Int) == 0) = true := rfl
              simp only [g, c0, g2, wj, take_map_len, push_cast, ↓reduceIte, reduceCtorEq, Nat.reduceBEq, Nat.reduceEqDiff, Nat.reduceAdd, Nat.reduceSub, Nat.reduceLT, Nat.reduceLeDiff, Nat.reduceMul]
              have hx : RV.agg [.v (.int .i64 (T / 8)), .v (.int .i64 0), .v (.int .u64 U), .sl 1 []] = fldV ((take r).1 / 8, 0, (take r2).1, []) := fldV_eq (by dsimp only; omega) rfl (by dsimp only; omega) rfl
              rw [hx]
              refine ⟨by simp, by omega, ⟨A + K + J, k + ((take r).2 + (take r2).2), f', [((take r).1 / 8, 0, (take r2).1, [])], by omega, by omega, by omega, by simp only [List.length_cons, List.length_nil]; omega, ?_, .inr ⟨by simp, rfl, rfl⟩⟩, by omega⟩
              rw [hv, hv', Option.map_map, hdd]
              congr 1
            · have g2 : ((2 : Int) == 0) = false := rfl
              by_cases un : U > L - (A + K + J)
              · have g3 : decide (U > L - (A + K + J)) = true := by simp [un]
                have hone : oneL r = none := oneL_none4 (tag := (take r).1) (k := (take r).2) (n := (take r2).1) (j := (take r2).2) rfl (by rw [hr2]) (by omega) (by omega)
                simp only [g, c0, g2, wj, wl, bstr_size, ← hL, g3, push_cast, ↓reduceIte, reduceCtorEq, Nat.reduceBEq, Nat.reduceEqDiff, Nat.reduceAdd, Nat.reduceSub, Nat.reduceLT, Nat.reduceLeDiff, Nat.reduceMul]
                rw [(bad hone hr1).1, (bad hone hr1).2]
                exact ⟨rfl, rfl⟩
              · have g3 : decide (U > L - (A + K + J)) = false := by simp; omega
                have ho := oneL_data (l := r) (tag := (take r).1) (k := (take r).2) (n := (take r2).1) (j := (take r2).2) rfl (by rw [hr2]) hc1 (by omega) (by omega) (by omega)
                obtain ⟨f', hf', hv'⟩ := readF_on (f := f) hr1 (by omega) ho
                have cu : IntKind.i64.wrap U = U := wrap_id (by omega)
                have wu : IntKind.i64.wrap (A + K + J + U) = A + K + J + U := wrap_id (by omega)
                have hseg : (bstr l).extract (A + K + J).toNat (A + K + J + U).toNat = bstr ((r.drop ((take r).2 + (take r2).2)).take (take r2).1) := by
                  rw [show (A + K + J).toNat = k + ((take r).2 + (take r2).2) by omega, show (A + K + J + U).toNat = k + ((take r).2 + (take r2).2) + (take r2).1 by omega, bstr_seg _ _ _ (by omega), ← hr, List.drop_drop]
                have hsl : ((r.drop ((take r).2 + (take r2).2)).take (take r2).1).length ≤ 100000000 := by rw [List.length_take, List.length_drop]; omega
                simp only [g, c0, g2, g3, wj, wl, cu, wu, bstr_size, ← hL, hseg, bstr_data, take_map_len, push_cast, ↓reduceIte, reduceCtorEq, Nat.reduceBEq, Nat.reduceEqDiff, Nat.reduceAdd, Nat.reduceSub, Nat.reduceLT, Nat.reduceLeDiff, Nat.reduceMul]
                have hx : RV.agg [.v (.int .i64 (T / 8)), .v (.int .i64 2), .v (.int .u64 0), .sl 1 (List.map (fun b : UInt8 => RV.v (.int .u8 b.toNat)) ((r.drop ((take r).2 + (take r2).2)).take (take r2).1))] = fldV ((take r).1 / 8, 2, 0, (r.drop ((take r).2 + (take r2).2)).take (take r2).1) := fldV_eq (by dsimp only; omega) rfl rfl rfl
                rw [hx]
                refine ⟨⟨by omega, by omega, by omega⟩, by omega, by simp, by omega, ⟨A + K + J + U, k + ((take r).2 + (take r2).2 + (take r2).1), f', [((take r).1 / 8, 2, 0, (r.drop ((take r).2 + (take r2).2)).take (take r2).1)], by omega, by omega, by omega, by simp only [List.length_cons, List.length_nil]; omega, ?_, .inr ⟨by simp, rfl, rfl⟩⟩, by omega⟩
                rw [hv, hv', Option.map_map, hdd]
                congr 1
      · have hr0 : k = l.length := by have : ¬ A < L := by simpa using h
                                      omega
        simp only [push_cast, ↓reduceIte, reduceCtorEq, Nat.reduceBEq, Nat.reduceEqDiff, Nat.reduceAdd, Nat.reduceSub, Nat.reduceLT, Nat.reduceLeDiff, Nat.reduceMul]
        rw [hv, ← hr, List.drop_of_length_le (by omega), readF_nil]
        exact ⟨rfl, rfl⟩
    · simp only [bstr_size, ← hL, push_cast, ↓reduceIte, reduceCtorEq, Nat.reduceBEq, Nat.reduceEqDiff, Nat.reduceAdd, Nat.reduceSub, Nat.reduceLT, Nat.reduceLeDiff, Nat.reduceMul]
      refine cnd_mk (fun h => ?_) (fun h => ?_)
      · have hr0 : A < L := by simpa using h
        have hr1 : 0 < r.length := by omega
        simp only [bstr_size, ← hL, hext, push_cast, ↓reduceIte, reduceCtorEq, Nat.reduceBEq, Nat.reduceEqDiff, Nat.reduceAdd, Nat.reduceSub, Nat.reduceLT, Nat.reduceLeDiff, Nat.reduceMul]
        refine ⟨⟨by omega, by omega, by omega⟩, ?_⟩
        refine call_mk (runvar_t r (by omega)) rfl trivial ?_
        rw [← hT, ← hK]
        simp only [s3, a7, push_cast, ↓reduceIte, reduceCtorEq, Nat.reduceBEq, Nat.reduceEqDiff, Nat.reduceAdd, Nat.reduceSub, Nat.reduceLT, Nat.reduceLeDiff, Nat.reduceMul]
        repeat refine And.intro (by by_cases c1 : K = 0 <;> by_cases c2 : T / 8 < 1 <;> by_cases c3 : T / 8 > 1000 <;> by_cases c4 : T % 8 = 0 <;> simp [c1, c2, c3, c4] <;> omega) ?_
        refine cnd_mk (fun h2 => ?_) (fun h2 => ?_)
        · have hone : oneL r = none := by
            by_cases c1 : (take r).2 = 0 ∨ (take r).1 / 8 < 1 ∨ 1000 < (take r).1 / 8
            · exact on1 c1
            · refine oneL_none3 (tag := (take r).1) (k := (take r).2) rfl ?_ ?_
              · intro c4
                simp [show ¬ K = 0 by omega, show ¬ T / 8 < 1 by omega, show ¬ T / 8 > 1000 by omega, show T % 8 = 0 by omega] at h2
              · intro c4
                simp [show ¬ K = 0 by omega, show ¬ T / 8 < 1 by omega, show ¬ T / 8 > 1000 by omega, show T % 8 = 2 by omega] at h2
          simp only [push_cast, ↓reduceIte, reduceCtorEq, Nat.reduceBEq, Nat.reduceEqDiff, Nat.reduceAdd, Nat.reduceSub, Nat.reduceLT, Nat.reduceLeDiff, Nat.reduceMul]
          rw [(bad hone hr1).1, (bad hone hr1).2]
          exact ⟨rfl, rfl⟩
        · have hc1 : ¬ ((take r).2 = 0 ∨ (take r).1 / 8 < 1 ∨ 1000 < (take r).1 / 8) := by
            intro hc1
            by_cases c1 : K = 0 <;> by_cases c2 : T / 8 < 1 <;> by_cases c3 : T / 8 > 1000 <;> simp [c1, c2, c3] at h2 <;> omega
          have hc2 : T % 8 = 0 ∨ T % 8 = 2 := by
            by_cases c1 : K = 0 <;> by_cases c2 : T / 8 < 1 <;> by_cases c3 : T / 8 > 1000 <;> by_cases c4 : T % 8 = 0 <;> by_cases c5 : T % 8 = 2 <;> simp [c1, c2, c3, c4, c5] at h2 ⊢
          simp only [wk, s3, a7, c8, m8, bstr_size, ← hL, hext2, push_cast, ↓reduceIte, reduceCtorEq, Nat.reduceBEq, Nat.reduceEqDiff, Nat.reduceAdd, Nat.reduceSub, Nat.reduceLT, Nat.reduceLeDiff, Nat.reduceMul]
          refine ⟨by decide, ⟨by omega, by omega, by omega⟩, ?_⟩
          refine call_mk (runvar_t r2 (by omega)) rfl trivial ?_
          rw [← hU, ← hJ]
          simp only [push_cast, ↓reduceIte, reduceCtorEq, Nat.reduceBEq, Nat.reduceEqDiff, Nat.reduceAdd, Nat.reduceSub, Nat.reduceLT, Nat.reduceLeDiff, Nat.reduceMul]
          by_cases j0 : J = 0
          · have g : (J == 0) = true := by simp [j0]
            have hone : oneL r = none := oneL_none2 (tag := (take r).1) (k := (take r).2) (n := (take r2).1) rfl (by rw [hr2]; exact Prod.ext rfl (show (take r2).2 = 0 by omega))
            simp only [g, push_cast, ↓reduceIte, reduceCtorEq, Nat.reduceBEq, Nat.reduceEqDiff, Nat.reduceAdd, Nat.reduceSub, Nat.reduceLT, Nat.reduceLeDiff, Nat.reduceMul]
            rw [(bad hone hr1).1, (bad hone hr1).2]
            exact ⟨rfl, rfl⟩
          · have g : (J == 0) = false := by simp [j0]
            rcases hc2 with c0 | c0
            · have ho := oneL_num (l := r) (tag := (take r).1) (k := (take r).2) (n := (take r2).1) (j := (take r2).2) rfl (by rw [hr2]) hc1 (by omega) (by omega)
              obtain ⟨f', hf', hv'⟩ := readF_on (f := f) hr1 (by omega) ho
              have g2 : ((0 : Int) == 0) = true := rfl
              simp only [g, c0, g2, wj, take_map_len, push_cast, ↓reduceIte, reduceCtorEq, Nat.reduceBEq, Nat.reduceEqDiff, Nat.reduceAdd, Nat.reduceSub, Nat.reduceLT, Nat.reduceLeDiff, Nat.reduceMul]
              have hx : RV.agg [.v (.int .i64 (T / 8)), .v (.int .i64 0), .v (.int .u64 U), .sl 1 []] = fldV ((take r).1 / 8, 0, (take r2).1, []) := fldV_eq (by dsimp only; omega) rfl (by dsimp only; omega) rfl
              rw [hx]
              refine ⟨by simp, by omega, ⟨A + K + J, k + ((take r).2 + (take r2).2), f', ns ++ [((take r).1 / 8, 0, (take r2).1, [])], by omega, by omega, by omega, by rw [List.length_append, List.length_singleton]; omega, ?_, .inr ⟨by simp, by simp, by simp⟩⟩, by omega⟩
              rw [hv, hv', Option.map_map, hdd]
              congr 1
              funext y
              simp
            · have g2 : ((2 : Int) == 0) = false := rfl
              by_cases un : U > L - (A + K + J)
              · have g3 : decide (U > L - (A + K + J)) = true := by simp [un]
                have hone : oneL r = none := oneL_none4 (tag := (take r).1) (k := (take r).2) (n := (take r2).1) (j := (take r2).2) rfl (by rw [hr2]) (by omega) (by omega)
                simp only [g, c0, g2, wj, wl, bstr_size, ← hL, g3, push_cast, ↓reduceIte, reduceCtorEq, Nat.reduceBEq, Nat.reduceEqDiff, Nat.reduceAdd, Nat.reduceSub, Nat.reduceLT, Nat.reduceLeDiff, Nat.reduceMul]
                rw [(bad hone hr1).1, (bad hone hr1).2]
                exact ⟨rfl, rfl⟩
              · have g3 : decide (U > L - (A + K + J)) = false := by simp; omega
                have ho := oneL_data (l := r) (tag := (take r).1) (k := (take r).2) (n := (take r2).1) (j := (take r2).2) rfl (by rw [hr2]) hc1 (by omega) (by omega) (by omega)
                obtain ⟨f', hf', hv'⟩ := readF_on (f := f) hr1 (by omega) ho
                have cu : IntKind.i64.wrap U = U := wrap_id (by omega)
                have wu : IntKind.i64.wrap (A + K + J + U) = A + K + J + U := wrap_id (by omega)
                have hseg : (bstr l).extract (A + K + J).toNat (A + K + J + U).toNat = bstr ((r.drop ((take r).2 + (take r2).2)).take (take r2).1) := by
                  rw [show (A + K + J).toNat = k + ((take r).2 + (take r2).2) by omega, show (A + K + J + U).toNat = k + ((take r).2 + (take r2).2) + (take r2).1 by omega, bstr_seg _ _ _ (by omega), ← hr, List.drop_drop]
                have hsl : ((r.drop ((take r).2 + (take r2).2)).take (take r2).1).length ≤ 100000000 := by rw [List.length_take, List.length_drop]; omega
                simp only [g, c0, g2, g3, wj, wl, cu, wu, bstr_size, ← hL, hseg, bstr_data, take_map_len, push_cast, ↓reduceIte, reduceCtorEq, Nat.reduceBEq, Nat.reduceEqDiff, Nat.reduceAdd, Nat.reduceSub, Nat.reduceLT, Nat.reduceLeDiff, Nat.reduceMul]
                have hx : RV.agg [.v (.int .i64 (T / 8)), .v (.int .i64 2), .v (.int .u64 0), .sl 1 (List.map (fun b : UInt8 => RV.v (.int .u8 b.toNat)) ((r.drop ((take r).2 + (take r2).2)).take (take r2).1))] = fldV ((take r).1 / 8, 2, 0, (r.drop ((take r).2 + (take r2).2)).take (take r2).1) := fldV_eq (by dsimp only; omega) rfl rfl rfl
                rw [hx]
                refine ⟨⟨by omega, by omega, by omega⟩, by omega, by simp, by omega, ⟨A + K + J + U, k + ((take r).2 + (take r2).2 + (take r2).1), f', ns ++ [((take r).1 / 8, 2, 0, (r.drop ((take r).2 + (take r2).2)).take (take r2).1)], by omega, by omega, by omega, by rw [List.length_append, List.length_singleton]; omega, ?_, .inr ⟨by simp, by simp, by simp⟩⟩, by omega⟩
                rw [hv, hv', Option.map_map, hdd]
                congr 1
                funext y
                simp
      · have hr0 : k = l.length := by have : ¬ A < L := by simpa using h
                                      omega
        simp only [push_cast, ↓reduceIte, reduceCtorEq, Nat.reduceBEq, Nat.reduceEqDiff, Nat.reduceAdd, Nat.reduceSub, Nat.reduceLT, Nat.reduceLeDiff, Nat.reduceMul]
        rw [hv, ← hr, List.drop_of_length_le (by omega), readF_nil, Option.map_some, List.append_nil, (readR_some hns).1, (readR_some hns).2]
        exact ⟨rfl, rfl⟩
end Go.Ev
