/- Contract of one where the field is bytes. Conditions: the bytes read as a list. -/
import Derived.Test.YtjagonphgaphaaaOne
namespace Go.Proofs.Ytjagonphgaphaaa
open Go.RowKit
set_option linter.unusedVariables false

set_option maxRecDepth 100000 in
theorem one_data {B : Nat} (A : Option Addr) (c : Nat) (bs : List UInt8) (w : World) (hB : B ≤ w.heap.size) (hr : Reads w B 1 A bs.length (bs.map u8v)) (hc : bs.length ≤ c) (hb : bs.length ≤ 140737488355328)
    (tag k n j : Nat) (ht : take bs = (tag, k)) (h1 : k ≠ 0) (h2 : 1 ≤ tag / 8) (h3 : tag / 8 ≤ 1000) (h4 : take (bs.drop k) = (n, j)) (h5 : j ≠ 0) (h6 : tag % 8 = 2) (h7 : n ≤ bs.length - k - j) :
    Calls Try.prog 27 #[.slice A bs.length c] w fun e w' => ∃ v, e = .returned (.tuple #[.agg #[.int .i64 (tag / 8 : Nat), .int .i64 2, .int .u64 0, v], .int .i64 (k + j + n : Nat)]) ∧ w'.ownsRow w.heap.size 5 1 v n (((bs.drop (k + j)).take n).map u8v) ∧ Below w.heap.size w w' := by
  obtain ⟨t1, t2, t3⟩ := take_bound bs
  obtain ⟨s1, s2, s3⟩ := take_bound (bs.drop k)
  have Ht := hide ht
  have H4 := hide h4
  rw [ht] at t1 t2 t3
  rw [h4] at s1 s2 s3
  rw [List.length_drop] at s3
  clear ht h4
  simp only at t1 t2 t3 s1 s2 s3
  have hk0 : ((k : Int) == 0) = false := by rw [beq_eq_false_iff_ne]; omega
  have hj0 : ((j : Int) == 0) = false := by rw [beq_eq_false_iff_ne]; omega
  have hck : ¬ c = k := by omega
  have hcut := reads_drop1 hr t3 hc hck
  go_enter Try.func27, Try.ntmps27
  go_wp2_with fail
  refine (take_any A c bs _ (hr.alloc hB _) hb).mono ?_
  rintro e w1 ⟨rfl, rfl⟩
  rw [Ht.out]
  go_wp2_with fail
  refine (take_at _ _ _ _ (by simp) ((hcut.alloc hB _).alloc (by simp; omega) _) (by omega)).mono ?_
  rintro e w1 ⟨rfl, rfl⟩
  rw [H4.out]
  have h8 : (((tag : Int) % 8) == 2) = true := by rw [beq_iff_eq]; omega
  obtain ⟨i0, hi0, hz0, hz1, hz2⟩ := info_parts info_u8
  have H6 := hide h6
  clear h6
  have hb1 : Below w.heap.size w (((w.alloc (Obj.cells #[.int .i64 0, .int .i64 0, .int .u64 0, .slice none 0 0] 46)).alloc (Obj.cells #[.int .i64 ((tag : Int) / 8), .int .i64 ((tag : Int) % 8), .int .u64 0, .slice none 0 0] 46)).alloc (Obj.cells #[] 5)) :=
    (((Below.refl _ _).alloc (Nat.le_refl _) _).alloc (by simp) _).alloc (by simp; omega) _
  go_wp2_with (at_builtin; refine stop ?_)
  · intro _
    have HR : Reads w B 1 A n (((bs.drop (k + j)).take n).map u8v) := by
      have : n = 0 := by omega
      subst this
      exact reads_nil
    refine wpList_append_any _ rfl (.tmp 70) (.tmp 81) _ rfl w.heap.size 5 i0 _ 1 1 Try.underlying27 hi0 hz0 hz1 hz2 rfl (by omega) (.slice (some ⟨w.heap.size + 1 + 1, 0, none⟩) 0 0) 0 [] rfl ?_ B _ _ _ (((bs.drop (k + j)).take n).map u8v) rfl ?_ (one_u8v _) (by simp only [maxLen]; omega) (by omega) ?_ ?_
    · exact own_made2 w _ _ _ (Nat.le_refl _)
    · exact ((HR.alloc hB _).alloc (by simp; omega) _).alloc (by simp; omega) _
    · simp; omega
    intro v1 w1 hown1 hg1 hat1
    obtain ⟨A1, c1, rfl, hc1⟩ := own_form hown1
    have hs1 := hg1.size
    simp only [World.size_alloc] at hs1
    have hkA : Blk w1 w.heap.size 46 _ := (((Blk.new w _ _).alloc _).alloc _).grown hg1 (by simp [Value.ownBlock]; omega)
    have hkB : Blk w1 (w.heap.size + 1) 46 _ := ((Blk.new1 w _ _ _).alloc _).grown hg1 (by simp [Value.ownBlock])
    have hA0 := hkA.cell 0
    have hA1 := hkA.cell 1
    have hA2 := hkA.cell 2
    have hA3 := hkA.cell 3
    have hB0 := hkB.cell 0
    have hB1 := hkB.cell 1
    have hB2 := hkB.cell 2
    have hB3 := hkB.cell 3
    have hAf := fun i => hkA.frozen i
    have hBf := fun i => hkB.frozen i
    simp only [List.getElem?_toArray, List.getElem?_cons_zero, List.getElem?_cons_succ] at hA0 hA1 hA2 hA3 hB0 hB1 hB2 hB3
    go_wp2_with fail
    have e8 : ((tag : Int) % 8) = 2 := by have := H6.out; omega
    have nA := own_blk_ne hown1 hkA (by decide)
    have nB := own_blk_ne hown1 hkB (by decide)
    simp only [Nat.zero_add, List.nil_append] at hown1 nA nB
    refine bodyPost_ret (v := .tuple #[.agg #[.int .i64 (tag / 8 : Nat), .int .i64 2, .int .u64 0, .slice A1 n c1], .int .i64 (k + j + n : Nat)]) ?_ rfl ⟨_, rfl, ?_, ?_⟩
    · simp [results, Try.results27, go_sem, hA0, hA1, hA2, hA3, e8]
    · exact ownsRow_setCell_other (ownsRow_setCell_other (ownsRow_setCell_other (ownsRow_setCell_other (ownsRow_setCell_other hown1 nB _) nA _) nA _) nA _) nA _
    · exact (((((hb1.grown hg1 (by simp; omega) (by simp [Value.ownBlock]; omega)).setCell (by simp) _).setCell (Nat.le_refl _) _).setCell (Nat.le_refl _) _).setCell (Nat.le_refl _) _).setCell (Nat.le_refl _) _
  · intro _
    have hck2 : ¬ c = k + j := by assumption
    have HR : Reads w B 1 (A.map (·.add (k + j))) n (((bs.drop (k + j)).take n).map u8v) := by
      rw [List.map_take]
      exact reads_take (reads_drop1 hr (by omega) hc hck2) (by omega)
    refine wpList_append_any _ rfl (.tmp 70) (.tmp 81) _ rfl w.heap.size 5 i0 _ 1 1 Try.underlying27 hi0 hz0 hz1 hz2 rfl (by omega) (.slice (some ⟨w.heap.size + 1 + 1, 0, none⟩) 0 0) 0 [] rfl ?_ B _ _ _ (((bs.drop (k + j)).take n).map u8v) rfl ?_ (one_u8v _) (by simp only [maxLen]; omega) (by omega) ?_ ?_
    · exact own_made2 w _ _ _ (Nat.le_refl _)
    · exact ((HR.alloc hB _).alloc (by simp; omega) _).alloc (by simp; omega) _
    · simp; omega
    intro v1 w1 hown1 hg1 hat1
    obtain ⟨A1, c1, rfl, hc1⟩ := own_form hown1
    have hs1 := hg1.size
    simp only [World.size_alloc] at hs1
    have hkA : Blk w1 w.heap.size 46 _ := (((Blk.new w _ _).alloc _).alloc _).grown hg1 (by simp [Value.ownBlock]; omega)
    have hkB : Blk w1 (w.heap.size + 1) 46 _ := ((Blk.new1 w _ _ _).alloc _).grown hg1 (by simp [Value.ownBlock])
    have hA0 := hkA.cell 0
    have hA1 := hkA.cell 1
    have hA2 := hkA.cell 2
    have hA3 := hkA.cell 3
    have hB0 := hkB.cell 0
    have hB1 := hkB.cell 1
    have hB2 := hkB.cell 2
    have hB3 := hkB.cell 3
    have hAf := fun i => hkA.frozen i
    have hBf := fun i => hkB.frozen i
    simp only [List.getElem?_toArray, List.getElem?_cons_zero, List.getElem?_cons_succ] at hA0 hA1 hA2 hA3 hB0 hB1 hB2 hB3
    go_wp2_with fail
    have e8 : ((tag : Int) % 8) = 2 := by have := H6.out; omega
    have nA := own_blk_ne hown1 hkA (by decide)
    have nB := own_blk_ne hown1 hkB (by decide)
    simp only [Nat.zero_add, List.nil_append] at hown1 nA nB
    refine bodyPost_ret (v := .tuple #[.agg #[.int .i64 (tag / 8 : Nat), .int .i64 2, .int .u64 0, .slice A1 n c1], .int .i64 (k + j + n : Nat)]) ?_ rfl ⟨_, rfl, ?_, ?_⟩
    · simp [results, Try.results27, go_sem, hA0, hA1, hA2, hA3, e8]
    · exact ownsRow_setCell_other (ownsRow_setCell_other (ownsRow_setCell_other (ownsRow_setCell_other (ownsRow_setCell_other hown1 nB _) nA _) nA _) nA _) nA _
    · exact (((((hb1.grown hg1 (by simp; omega) (by simp [Value.ownBlock]; omega)).setCell (by simp) _).setCell (Nat.le_refl _) _).setCell (Nat.le_refl _) _).setCell (Nat.le_refl _) _).setCell (Nat.le_refl _) _
end Go.Proofs.Ytjagonphgaphaaa
