/- The document's reader of rows of numbers. -/
import Derived.Test.YtjagonphgaphaaaUnvar
namespace Go.Proofs.Ytjagonphgaphaaa
open Go.RowKit
set_option linter.unusedVariables false

theorem extract_drop (bs : List UInt8) (k n : Nat) (hn : bs.length ≤ n) : (⟨bs.toArray⟩ : ByteArray).extract k n = ⟨(bs.drop k).toArray⟩ := by
  apply ByteArray.ext
  simp
  exact List.take_of_length_le (by rw [List.length_drop]; omega)

set_option maxRecDepth 100000 in
theorem rvars_any (bs : List UInt8) (w : World) (hb : bs.length ≤ 1048576) :
    Calls Try.prog 17 #[strV bs] w fun e w' => ∃ v, e = .returned (.tuple #[v, .int .i64 (errN (varsL bs))]) ∧
      w'.ownsRow w.heap.size 22 1 v ((varsL bs).getD []).length (((varsL bs).getD []).map u64v) ∧ Below w.heap.size w w' := by
  obtain ⟨i0, hi0, hz0, hz1, hz2⟩ := info_parts info_u64
  go_enter Try.func17, Try.ntmps17
  go_wp2_with fail
  go_loopw [4, 5] (fun v i wr => ∃ (f k : Nat) (acc : List Nat), i = .int .i64 (k : Int) ∧ k ≤ bs.length ∧ (bs.drop k).length ≤ f ∧
      acc.length ≤ k ∧ varsL bs = (varsF f (bs.drop k)).map (acc ++ ·) ∧ wr.ownsRow w.heap.size 22 1 v acc.length (acc.map u64v) ∧ Below w.heap.size w wr) (fun _ i _ => bs.length - (intOf i).toNat)
  case atStart => exact ⟨bs.length, 0, [], rfl, by omega, by simp, by simp, by simp [varsL], World.ownsRow_nil _ _ _ _, Below.refl _ _⟩
  case round =>
    obtain ⟨f, k, acc, rfl, hk, hf, hl, hv, ho, hnx⟩ := hrel
    obtain ⟨A2, c2, rfl, hc2⟩ := own_form ho
    have Hv := hide hv
    have hs := hnx.size
    clear hv
    by_cases h0 : k < bs.length
    · have hdl : (bs.drop k).length = bs.length - k := List.length_drop
      obtain ⟨t1, t2, t3⟩ := take_bound (bs.drop k)
      rw [hdl] at t3
      by_cases hk0 : (take (bs.drop k)).2 ≤ 0
      · have hn : varsL bs = none := by rw [Hv.out, varsF_no (by omega) (by omega)]; rfl
        have Hn := hide hn
        clear hn
        have hdl2 : (bs.drop k).length ≤ 1048576 := by omega
        clear hdl
        go_wp2_with fail
        rw [extract_drop _ _ _ (Nat.le_refl _)]
        refine (unvar_any (bs.drop k) wr (by omega)).mono ?_
        rintro e w1 ⟨rfl, rfl⟩
        go_wp2_with fail
        go_ret2
        rw [Hn.out]
        exact ⟨_, rfl, World.ownsRow_nil _ _ _ _, hnx⟩
      · obtain ⟨f', rfl, hf'⟩ := varsF_on (by omega) hf (Prod.eta _).symm (by omega)
        have Hf' := hide hf'
        clear hf'
        generalize htn : (take (bs.drop k)).1 = n at *
        generalize htj : (take (bs.drop k)).2 = j at *
        have Htn := hide htn
        have Htj := hide htj
        have Hdl := hide hdl
        have hdl2 : (bs.drop k).length ≤ 1048576 := by omega
        rw [hdl] at hf
        clear htn htj hdl
        have hk1 : ((j : Int) == 0) = false := by rw [beq_eq_false_iff_ne]; omega
        go_wp2_with fail
        rw [extract_drop _ _ _ (Nat.le_refl _)]
        refine (unvar_any (bs.drop k) wr (by omega)).mono ?_
        rintro e w1 ⟨rfl, rfl⟩
        rw [Htn.out, Htj.out]
        go_wp2_with (at_builtin; refine stop ?_)
        intro _
        refine wpList_append_any _ rfl (.tmp 21) (.tmp 23) _ rfl w.heap.size 22 i0 _ 1 8 Try.underlying29 hi0 hz0 hz1 hz2 rfl (by omega) (.slice A2 acc.length c2) acc.length _ rfl
          (ho.alloc _) (wr.heap.size + 1) _ 1 _ [_] rfl (reads_new wr _ _) (one_new rfl) (by simp only [maxLen]; omega) (by omega) (by simp; omega) ?_
        intro v1 w1 hown1 hg1 hat1
        have hb2 : Below w.heap.size w w1 := (hnx.alloc hs _).grown hg1 (by simp; omega) (fun k hk2 => (ho.lt k hk2).1)
        have hv2 : varsL bs = (varsF f' (bs.drop (k + j))).map (acc ++ [n] ++ ·) := by
          rw [Hv.out, Hf'.out, Option.map_map, List.drop_drop]
          congr 1
          funext l
          simp
        have Hv2 := hide hv2
        clear hv2
        go_wp2_with fail
        refine ⟨⟨f', k + j, acc ++ [n], by go_num, by omega, by rw [List.length_drop]; omega, by simp; omega, Hv2.out, by simpa using hown1, hb2⟩, by simp [intOf]; omega⟩
    · have hn : bs.drop k = [] := List.drop_eq_nil_of_le (by omega)
      have hv : varsL bs = some acc := by rw [Hv.out, hn, varsF_nil]; simp
      have Hv := hide hv
      clear hv hn
      go_wp2_with fail
      go_ret2
      rw [Hv.out]
      exact ⟨_, rfl, ho, hnx⟩
end Go.Proofs.Ytjagonphgaphaaa
