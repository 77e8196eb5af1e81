import Derived.Sort.AssemblyPlain
import Derived.Test.YtjpejkfhkbaakaaGreatM7
namespace Go.Ev
set_option maxRecDepth 100000
open Go
set_option linter.unusedSectionVars false
set_option linter.unnecessarySimpa false
open Nat (reduceEqDiff reduceAdd reduceSub reduceLT reduceLeDiff reduceMul)
open Go.Sort (swp insInner insOuter insertionSort ltInt)
set_option linter.unusedSimpArgs false
set_option linter.unusedVariables false
noncomputable def cmp_isNaN_uint64_pc : PC :=
  (.seq (.reg [p_s 2 (.mov (.c (.r (.v (.bool false)))))])
 (.seq (.reg [p_m 3 0, p_m 4 0, p_s 5 (.bin .neq (.t 3) (.t 4)), p_m 2 5])
 .ret))
theorem cmp_isNaN_uint64_triple : Fun Go.Proofs.Tryz.prog 177 1 [(2, false, none)] cmp_isNaN_uint64_pc := fun_mk Go.Proofs.Tryz.func177 rfl (by decide) (by kernel_rfl) (by decide) rfl (by kernel_rfl) (by kernel_rfl) (by decide)
noncomputable def cmp_Less_uint64_pc : PC :=
  (.seq (.reg [p_s 4 (.mov (.c (.r (.v (.bool false)))))])
 (.seq (.reg [p_m 5 0, p_c 6 1 177 [.t 5], p_m 7 6, p_g 8 7 true (.mov (.t 1)), ⟨(some 9), (some (7, true)), 2, .call 177 [(.t 8)]⟩, p_g 10 7 true (.un .not (.t 9)), p_s 11 (.pick (.t 7) (.t 10) (.c (.r (.v (.bool false))))),
 p_m 12 11, p_g 13 12 false (.mov (.t 0)), p_g 14 12 false (.mov (.t 1)), p_g 15 12 false (.bin .lss (.t 13) (.t 14)), p_s 16 (.pick (.t 12) (.c (.r (.v (.bool true)))) (.t 15)),
 p_m 4 16])
 .ret))
theorem cmp_Less_uint64_triple : Fun Go.Proofs.Tryz.prog 156 2 [(4, false, none)] cmp_Less_uint64_pc := fun_mk Go.Proofs.Tryz.func156 rfl (by decide) (by kernel_rfl) (by decide) rfl (by kernel_rfl) (by kernel_rfl) (by decide)
noncomputable def slices_reverseRangeOrdered_uint64_pc : PC :=
  (.seq (.reg [p_m 8 1, p_m 6 8])
 (.seq (.reg [p_m 9 2, p_s 10 (.bin .sub (.t 9) (o_i 1)), p_m 7 10])
 (.block 0 (.loop (.seq (.seq (.reg [p_m 11 6, p_m 12 7, p_s 13 (.bin .lss (.t 11) (.t 12))])
 (.cond (.t 13)
 .skip
 (.exit 0)))
 (.block 1 (.seq (.drw [p_m 14 0, p_m 15 6, p_m 16 0, p_m 17 7, p_m 18 0, p_m 19 7, p_s 20 (.ia 1 (.v (.int .u64 0)) (.t 18) (.t 19)), p_s 21 (.ld none (.t 20)), p_m 22 0, p_m 23 6, p_s 24 (.ia 1 (.v (.int .u64 0)) (.t 22) (.t 23)),
 p_s 25 (.ld none (.t 24)), p_s 26 (.ia 1 (.v (.int .u64 0)) (.t 14) (.t 15)), ⟨none, none, 0, .act (.st 1 (.t 26) (.t 21))⟩, p_s 27 (.ia 1 (.v (.int .u64 0)) (.t 16) (.t 17)),
 ⟨none, none, 0, .act (.st 1 (.t 27) (.t 25))⟩]
 [[], [], [], [], [], [], [4, 5], [4, 5, 6], [], [], [8, 9], [8, 9, 10], [0, 1, 4, 5, 6, 7, 8, 9, 10, 11], [0, 1, 4, 5, 6, 7, 8, 9, 10, 11, 12], [0, 1, 2, 3, 4, 5, 6, 7, 8, 9, 10, 11, 12, 13], [0, 1, 2, 3, 4, 5, 6, 7, 8, 9, 10, 11, 12, 13, 14]])
 (.seq (.reg [p_m 28 6, p_s 29 (.bin .add (.t 28) (o_i 1)), p_m 6 29])
 (.reg [p_m 30 7, p_s 31 (.bin .sub (.t 30) (o_i 1)), p_m 7 31])))))))))
theorem slices_reverseRangeOrdered_uint64_triple : Fun Go.Proofs.Tryz.prog 154 3 [] slices_reverseRangeOrdered_uint64_pc := fun_mk Go.Proofs.Tryz.func154 rfl (by decide) (by kernel_rfl) (by decide) rfl (by kernel_rfl) (by kernel_rfl) (by decide)
noncomputable def slices_insertionSortOrdered_uint64_pc : PC :=
  (.seq (.reg [p_m 8 1, p_s 9 (.bin .add (.t 8) (o_i 1)), p_m 6 9])
 (.block 0 (.loop (.seq (.seq (.reg [p_m 10 6, p_m 11 2, p_s 12 (.bin .lss (.t 10) (.t 11))])
 (.cond (.t 12)
 .skip
 (.exit 0)))
 (.seq (.block 1 (.seq (.reg [p_m 15 6, p_m 7 15])
 (.block 2 (.loop (.seq (.seq (.drw [p_m 16 7, p_m 17 1, p_s 18 (.bin .gtr (.t 16) (.t 17)), p_m 19 18, p_g 20 19 true (.mov (.t 0)), p_g 21 19 true (.mov (.t 7)), p_g 22 19 true (.ia 1 (.v (.int .u64 0)) (.t 20) (.t 21)),
 p_g 23 19 true (.ld none (.t 22)), p_g 24 19 true (.mov (.t 0)), p_g 25 19 true (.mov (.t 7)), p_g 26 19 true (.bin .sub (.t 25) (o_i 1)), p_g 27 19 true (.ia 1 (.v (.int .u64 0)) (.t 24) (.t 26)),
 p_g 28 19 true (.ld none (.t 27)), ⟨(some 29), (some (19, true)), 1, .call 156 [(.t 23), (.t 28)]⟩, p_s 30 (.pick (.t 19) (.t 29) (.c (.r (.v (.bool false)))))]
 [[], [], [0, 1], [0, 1, 2], [0, 1, 2, 3], [0, 1, 2, 3], [0, 1, 2, 3, 4, 5], [0, 1, 2, 3, 4, 5, 6], [0, 1, 2, 3], [0, 1, 2, 3], [0, 1, 2, 3, 9], [0, 1, 2, 3, 8, 9, 10], [0, 1, 2, 3, 8, 9, 10, 11], [0, 1, 2, 3, 4, 5, 6, 7, 8, 9, 10, 11, 12], [0, 1, 2, 3, 4, 5, 6, 7, 8, 9, 10, 11, 12, 13]])
 (.cond (.t 30)
 .skip
 (.exit 2)))
 (.seq (.block 3 (.drw [p_m 33 0, p_m 34 7, p_m 35 0, p_m 36 7, p_s 37 (.bin .sub (.t 36) (o_i 1)), p_m 38 0, p_m 39 7, p_s 40 (.bin .sub (.t 39) (o_i 1)), p_s 41 (.ia 1 (.v (.int .u64 0)) (.t 38) (.t 40)),
 p_s 42 (.ld none (.t 41)), p_m 43 0, p_m 44 7, p_s 45 (.ia 1 (.v (.int .u64 0)) (.t 43) (.t 44)), p_s 46 (.ld none (.t 45)), p_s 47 (.ia 1 (.v (.int .u64 0)) (.t 33) (.t 34)),
 ⟨none, none, 0, .act (.st 1 (.t 47) (.t 42))⟩, p_s 48 (.ia 1 (.v (.int .u64 0)) (.t 35) (.t 37)), ⟨none, none, 0, .act (.st 1 (.t 48) (.t 46))⟩]
 [[], [], [], [], [3], [], [], [6], [5, 6, 7], [5, 6, 7, 8], [], [], [10, 11], [10, 11, 12], [0, 1, 5, 6, 7, 8, 9, 10, 11, 12, 13], [0, 1, 5, 6, 7, 8, 9, 10, 11, 12, 13, 14], [0, 1, 2, 3, 4, 5, 6, 7, 8, 9, 10, 11, 12, 13, 14, 15], [0, 1, 2, 3, 4, 5, 6, 7, 8, 9, 10, 11, 12, 13, 14, 15, 16]]))
 (.reg [p_m 31 7, p_s 32 (.bin .sub (.t 31) (o_i 1)), p_m 7 32])))))))
 (.reg [p_m 13 6, p_s 14 (.bin .add (.t 13) (o_i 1)), p_m 6 14]))))))
theorem slices_insertionSortOrdered_uint64_triple : Fun Go.Proofs.Tryz.prog 150 3 [] slices_insertionSortOrdered_uint64_pc := fun_mk Go.Proofs.Tryz.func150 rfl (by decide) (by kernel_rfl) (by decide) rfl (by kernel_rfl) (by kernel_rfl) (by decide)
def bu (d : Array Int) : List AV := d.toList.map fun n => AV.r (.v (.int .u64 n))
def bc (d : Array Int) (m : Nat) : List AV := bu d ++ List.replicate m .undef
def bO (d : Array Int) (m : Nat) : Ob := .box (bc d m)
theorem hidL_none : ∀ (xs : List AV), (∀ x ∈ xs, hids x = []) → hidL xs = []
 | [], _ => rfl
 | x :: xs, h => by rw [hidL, h x (by simp), hidL_none xs fun y hy => h y (by simp [hy])]; rfl
theorem hidL_bc (d : Array Int) (m : Nat) : hidL (bc d m) = [] := hidL_none _ fun x hx => by
 rcases List.mem_append.1 hx with hx | hx
 ·obtain ⟨n, _, rfl⟩ := List.mem_map.1 hx
  rfl
 ·rw [(List.mem_replicate.1 hx).2]; rfl
theorem imL_bc (F : Ren) (d : Array Int) (m : Nat) : imL F (bc d m) = bc d m := imL_free F _ (hidL_bc d m)
theorem bu_len (d : Array Int) : (bu d).length = d.size := by simp [bu]
theorem bc_len (d : Array Int) (m : Nat) : (bc d m).length = d.size + m := by simp [bc, bu_len]
theorem bu_get {d : Array Int} {m i : Nat} (h : i < d.size) (z : AV) : (bc d m).getD i z = .r (.v (.int .u64 d[i]!)) := by
 unfold bc
 rw [List.getD_eq_getElem?_getD, List.getElem?_append_left (by rw [bu_len]; exact h)]
 simp [bu, h]
theorem bu_set {d : Array Int} {m i : Nat} (h : i < d.size) (x : Int) : List.take i (bc d m) ++ [AV.r (.v (.int .u64 x))] ++ List.drop (i + 1) (bc d m) = bc (d.setIfInBounds i x) m := by
 unfold bc
 have e : bu (d.setIfInBounds i x) = (bu d).set i (.r (.v (.int .u64 x))) := by simp [bu, List.map_set]
 rw [e, List.take_append_of_le_length (by rw [bu_len]; omega), List.drop_append_of_le_length (by rw [bu_len]; omega), List.set_eq_take_append_cons_drop, if_pos (by rw [bu_len]; exact h)]
 simp
theorem swp_size (d : Array Int) (i j : Nat) : (swp d i j).size = d.size := by simp [swp]
theorem nan_t (x : Int) : Triple Go.Proofs.Tryz.prog 177 [int .u64 x] [] (bl false) [] := by
 refine cmp_isNaN_uint64_triple rfl (by decide) ?_
 have h : (x != x) = false := by simp
 simp only [cmp_isNaN_uint64_pc, h, List.length_nil, push_cast, ↓reduceIte, reduceCtorEq, Nat.reduceBEq, reduceEqDiff, reduceAdd, reduceSub, reduceLT, reduceLeDiff, reduceMul]
theorem lt_t (x y : Int) : Triple Go.Proofs.Tryz.prog 156 [int .u64 x, int .u64 y] [] (bl (ltInt x y)) [] := by
 refine cmp_Less_uint64_triple rfl (by decide) ?_
 simp only [cmp_Less_uint64_pc, List.length_nil, push_cast, ↓reduceIte, reduceCtorEq, Nat.reduceBEq, reduceEqDiff, reduceAdd, reduceSub, reduceLT, reduceLeDiff, reduceMul]
 refine call_mk (nan_t x) rfl trivial ?_
 simp only [push_cast, ↓reduceIte, reduceCtorEq, Nat.reduceBEq, reduceEqDiff, reduceAdd, reduceSub, reduceLT, reduceLeDiff, reduceMul]
 rfl
theorem ins_t (d : Array Int) (a b : Nat) (hab : a ≤ b) (hb : b ≤ d.size) (hn : d.size ≤ 100000) (m : Nat) : Triple Go.Proofs.Tryz.prog 150 [.own 1000000 0 0 d.size, int .i64 a, int .i64 b] [bO d m] (.tup []) [bO (insertionSort ltInt d a b) m] := by
 refine slices_insertionSortOrdered_uint64_triple rfl (by simp) ?_
 have w0 : IntKind.i64.wrap ((a : Int) + 1) = (a : Int) + 1 := wrap_id (by omega)
 simp only [slices_insertionSortOrdered_uint64_pc, bO, bc_len, hidL_bc, imL_bc, w0, List.length_cons, List.length_nil, push_cast, ↓reduceIte, reduceCtorEq, Nat.reduceBEq, reduceEqDiff, reduceAdd, reduceSub, reduceLT, reduceLeDiff, reduceMul]
 generalize hN : d.size = n at *
 refine run_loop [(6, false), (0, false), (1, false), (2, false)] (fun vs pos los => ∃ (i : Nat) (e : Array Int), a + 1 ≤ i ∧ i ≤ 100002 ∧ e.size = n ∧ insertionSort ltInt d a b = insOuter ltInt a b i e ∧ vs = [int .i64 i, .own 1000000 0 0 n, int .i64 a, int .i64 b] ∧ pos = [bO e m] ∧ los = [])
  (fun vs _ _ => match vs with | .r (.v (.int _ j)) :: _ => (b - j).toNat | _ => 0) rfl ?_ ?_
 ·simp only [bO, bc_len, hidL_bc, imL_bc, push_cast, ↓reduceIte, reduceCtorEq, Nat.reduceBEq, reduceEqDiff, reduceAdd, reduceSub, reduceLT, reduceLeDiff, reduceMul]
  exact ⟨a + 1, d, by omega, by omega, hN, rfl, rfl, rfl⟩
 ·rintro vs pos los ⟨i, e, hi, hi2, he, hE, rfl, rfl, rfl⟩
  simp only [bO, bc_len, hidL_bc, imL_bc, push_cast, ↓reduceIte, reduceCtorEq, Nat.reduceBEq, reduceEqDiff, reduceAdd, reduceSub, reduceLT, reduceLeDiff, reduceMul]
  refine cnd_mk (fun h => ?_) (fun h => ?_)
  ·have h' : i < b := by
    simp at h
    omega
   have w1 : IntKind.i64.wrap ((i : Int) + 1) = (i : Int) + 1 := wrap_id (by omega)
   simp only [push_cast, ↓reduceIte, reduceCtorEq, Nat.reduceBEq, reduceEqDiff, reduceAdd, reduceSub, reduceLT, reduceLeDiff, reduceMul]
   refine run_loop [(6, false), (7, false), (0, false), (1, false), (2, false)] (fun vs pos los => ∃ (j : Nat) (f : Array Int), j ≤ i ∧ f.size = n ∧ insInner ltInt a i e = insInner ltInt a j f ∧ vs = [int .i64 i, int .i64 j, .own 1000000 0 0 n, int .i64 a, int .i64 b] ∧ pos = [bO f m] ∧ los = [])
    (fun vs _ _ => match vs with | _ :: .r (.v (.int _ j)) :: _ => j.toNat | _ => 0) rfl ?_ ?_
   ·simp only [bO, bc_len, hidL_bc, imL_bc, push_cast, ↓reduceIte, reduceCtorEq, Nat.reduceBEq, reduceEqDiff, reduceAdd, reduceSub, reduceLT, reduceLeDiff, reduceMul]
    exact ⟨i, e, by omega, he, rfl, rfl, rfl⟩
   ·rintro vs pos los ⟨j, f, hj, hf, hF, rfl, rfl, rfl⟩
    by_cases hja : j ≤ a
    ·have g0 : decide ((j : Int) > a) = false := by simp; omega
     simp only [bO, bc_len, hidL_bc, imL_bc, g0, w1, push_cast, ↓reduceIte, reduceCtorEq, Nat.reduceBEq, reduceEqDiff, reduceAdd, reduceSub, reduceLT, reduceLeDiff, reduceMul]
     repeat refine And.intro (by first | decide | omega | exact fun _ => by decide | (simp +contextual; done) | kernel_rfl) ?_
     refine ⟨⟨i + 1, f, by omega, by omega, hf, ?_, (by first | rfl | exact ⟨rfl, rfl⟩ | exact ⟨rfl, rfl, rfl⟩)⟩, by omega⟩
     rw [hE, insOuter, if_pos h', hF]
     congr 1
     cases j with
     | zero => rfl
     | succ k => rw [insInner, if_neg (by simp; omega)]
    ·obtain ⟨k, rfl⟩ : ∃ k, j = k + 1 := ⟨j - 1, by omega⟩
     have g0 : decide ((k : Int) + 1 > a) = true := by simp; omega
     have wk : IntKind.i64.wrap ((k : Int) + 1 - 1) = (k : Int) := by rw [wrap_id (by omega)]; omega
     have k1 : k < f.size := by omega
     have k2 : k + 1 < f.size := by omega
     simp only [bO, bc_len, hidL_bc, imL_bc, g0, wk, bu_get (m := m) k1, bu_get (m := m) k2, Int.toNat_natCast, Int.toNat_natCast_add_one, Nat.zero_add, push_cast, ↓reduceIte, reduceCtorEq, Nat.reduceBEq, reduceEqDiff, reduceAdd, reduceSub, reduceLT, reduceLeDiff, reduceMul]
     repeat refine And.intro (by first | decide | omega | exact fun _ => by decide | (simp +contextual; done) | kernel_rfl) ?_
     refine dcall_mk (lt_t f[k + 1]! f[k]!) rfl trivial ?_
     simp only [bO, bc_len, hidL_bc, imL_bc, g0, wk, bu_get (m := m) k1, bu_get (m := m) k2, Int.toNat_natCast, Int.toNat_natCast_add_one, Nat.zero_add, push_cast, ↓reduceIte, reduceCtorEq, Nat.reduceBEq, reduceEqDiff, reduceAdd, reduceSub, reduceLT, reduceLeDiff, reduceMul]
     refine ⟨by kernel_rfl, ?_⟩
     refine cnd_mk (fun hc => ?_) (fun hc => ?_)
     ·have k3 : k < (f.setIfInBounds (k + 1) f[k]!).size := by simpa using k1
      simp only [bO, bc_len, hidL_bc, imL_bc, g0, wk, bu_get (m := m) k1, bu_get (m := m) k2, bu_get (m := m) k3, bu_set (m := m) k2, bu_set (m := m) k3, Int.toNat_natCast, Int.toNat_natCast_add_one, Nat.zero_add, push_cast, ↓reduceIte, reduceCtorEq, Nat.reduceBEq, reduceEqDiff, reduceAdd, reduceSub, reduceLT, reduceLeDiff, reduceMul]
      repeat refine And.intro (by first | decide | omega | exact fun _ => by decide | (simp +contextual; done) | kernel_rfl) ?_
      refine ⟨⟨k, swp f (k + 1) k, by omega, by rw [swp_size]; exact hf, ?_, (by first | rfl | exact ⟨rfl, rfl⟩ | exact ⟨rfl, rfl, rfl⟩)⟩, by omega⟩
      rw [hF, insInner, if_pos]
      simp [hc]
      omega
     ·simp only [bO, bc_len, hidL_bc, imL_bc, g0, wk, w1, bu_get (m := m) k1, bu_get (m := m) k2, Int.toNat_natCast, Int.toNat_natCast_add_one, Nat.zero_add, push_cast, ↓reduceIte, reduceCtorEq, Nat.reduceBEq, reduceEqDiff, reduceAdd, reduceSub, reduceLT, reduceLeDiff, reduceMul]
      refine ⟨⟨i + 1, f, by omega, by omega, hf, ?_, (by first | rfl | exact ⟨rfl, rfl⟩ | exact ⟨rfl, rfl, rfl⟩)⟩, by omega⟩
      rw [hE, insOuter, if_pos h', hF, insInner, if_neg]
      simp [hc]
  ·have h' : ¬ i < b := by
    simp at h
    omega
   simp only [hidL_bc, imL_bc, push_cast, ↓reduceIte, reduceCtorEq, Nat.reduceBEq, reduceEqDiff, reduceAdd, reduceSub, reduceLT, reduceLeDiff, reduceMul]
   rw [hE, insOuter, if_neg h']

open Go.Sort (swp ltInt reverseLoop reverseRange siftDown heapSort heapBuild heapPop)
noncomputable def slices_siftDownOrdered_uint64_pc : PC :=
  (.seq (.reg [p_m 10 1, p_m 8 10])
 (.block 0 (.loop (.block 1 (.seq (.reg [p_m 11 8, p_s 12 (.bin .mul (o_i 2) (.t 11)), p_s 13 (.bin .add (.t 12) (o_i 1)), p_m 9 13])
 (.seq (.seq (.reg [p_m 14 9, p_m 15 2, p_s 16 (.bin .geq (.t 14) (.t 15))])
 (.cond (.t 16)
 (.exit 0)
 .skip))
 (.seq (.seq (.drw [p_m 17 9, p_s 18 (.bin .add (.t 17) (o_i 1)), p_m 19 2, p_s 20 (.bin .lss (.t 18) (.t 19)), p_m 21 20, p_g 22 21 true (.mov (.t 0)), p_g 23 21 true (.mov (.t 3)),
 p_g 24 21 true (.mov (.t 9)), p_g 25 21 true (.bin .add (.t 23) (.t 24)), p_g 26 21 true (.ia 1 (.v (.int .u64 0)) (.t 22) (.t 25)), p_g 27 21 true (.ld none (.t 26)),
 p_g 28 21 true (.mov (.t 0)), p_g 29 21 true (.mov (.t 3)), p_g 30 21 true (.mov (.t 9)), p_g 31 21 true (.bin .add (.t 29) (.t 30)), p_g 32 21 true (.bin .add (.t 31) (o_i 1)),
 p_g 33 21 true (.ia 1 (.v (.int .u64 0)) (.t 28) (.t 32)), p_g 34 21 true (.ld none (.t 33)), ⟨(some 35), (some (21, true)), 1, .call 156 [(.t 27), (.t 34)]⟩, p_s 36 (.pick (.t 21) (.t 35) (.c (.r (.v (.bool false)))))]
 [[], [0], [], [0, 1, 2], [0, 1, 2, 3], [0, 1, 2, 3, 4], [0, 1, 2, 3, 4], [0, 1, 2, 3, 4], [0, 1, 2, 3, 4, 6, 7], [0, 1, 2, 3, 4, 5, 6, 7, 8], [0, 1, 2, 3, 4, 5, 6, 7, 8, 9], [0, 1, 2, 3, 4], [0, 1, 2, 3, 4], [0, 1, 2, 3, 4], [0, 1, 2, 3, 4, 12, 13], [0, 1, 2, 3, 4, 12, 13, 14], [0, 1, 2, 3, 4, 11, 12, 13, 14, 15], [0, 1, 2, 3, 4, 11, 12, 13, 14, 15, 16], [0, 1, 2, 3, 4, 5, 6, 7, 8, 9, 10, 11, 12, 13, 14, 15, 16, 17], [0, 1, 2, 3, 4, 5, 6, 7, 8, 9, 10, 11, 12, 13, 14, 15, 16, 17, 18]])
 (.cond (.t 36)
 (.reg [p_m 37 9, p_s 38 (.bin .add (.t 37) (o_i 1)), p_m 9 38])
 .skip))
 (.seq (.seq (.drw [p_m 39 0, p_m 40 3, p_m 41 8, p_s 42 (.bin .add (.t 40) (.t 41)), p_s 43 (.ia 1 (.v (.int .u64 0)) (.t 39) (.t 42)), p_s 44 (.ld none (.t 43)), p_m 45 0, p_m 46 3,
 p_m 47 9, p_s 48 (.bin .add (.t 46) (.t 47)), p_s 49 (.ia 1 (.v (.int .u64 0)) (.t 45) (.t 48)), p_s 50 (.ld none (.t 49)), p_c 51 2 156 [.t 44, .t 50], p_s 52 (.un .not (.t 51))]
 [[], [], [], [1, 2], [0, 1, 2, 3], [0, 1, 2, 3, 4], [], [], [], [7, 8], [6, 7, 8, 9], [6, 7, 8, 9, 10], [0, 1, 2, 3, 4, 5, 6, 7, 8, 9, 10, 11], [0, 1, 2, 3, 4, 5, 6, 7, 8, 9, 10, 11, 12]])
 (.cond (.t 52)
 .ret
 .skip))
 (.seq (.drw [p_m 53 0, p_m 54 3, p_m 55 8, p_s 56 (.bin .add (.t 54) (.t 55)), p_m 57 0, p_m 58 3, p_m 59 9, p_s 60 (.bin .add (.t 58) (.t 59)), p_m 61 0, p_m 62 3, p_m 63 9,
 p_s 64 (.bin .add (.t 62) (.t 63)), p_s 65 (.ia 1 (.v (.int .u64 0)) (.t 61) (.t 64)), p_s 66 (.ld none (.t 65)), p_m 67 0, p_m 68 3, p_m 69 8, p_s 70 (.bin .add (.t 68) (.t 69)),
 p_s 71 (.ia 1 (.v (.int .u64 0)) (.t 67) (.t 70)), p_s 72 (.ld none (.t 71)), p_s 73 (.ia 1 (.v (.int .u64 0)) (.t 53) (.t 56)), ⟨none, none, 0, .act (.st 1 (.t 73) (.t 66))⟩,
 p_s 74 (.ia 1 (.v (.int .u64 0)) (.t 57) (.t 60)), ⟨none, none, 0, .act (.st 1 (.t 74) (.t 72))⟩]
 [[], [], [], [1, 2], [], [], [], [5, 6], [], [], [], [9, 10], [8, 9, 10, 11], [8, 9, 10, 11, 12], [], [], [], [15, 16], [14, 15, 16, 17], [14, 15, 16, 17, 18], [0, 1, 2, 3, 8, 9, 10, 11, 12, 13, 14, 15, 16, 17, 18, 19], [0, 1, 2, 3, 8, 9, 10, 11, 12, 13, 14, 15, 16, 17, 18, 19, 20], [0, 1, 2, 3, 4, 5, 6, 7, 8, 9, 10, 11, 12, 13, 14, 15, 16, 17, 18, 19, 20, 21], [0, 1, 2, 3, 4, 5, 6, 7, 8, 9, 10, 11, 12, 13, 14, 15, 16, 17, 18, 19, 20, 21, 22]])
 (.reg [p_m 75 9, p_m 8 75]))))))))))
theorem slices_siftDownOrdered_uint64_triple : Fun Go.Proofs.Tryz.prog 174 4 [] slices_siftDownOrdered_uint64_pc := fun_mk Go.Proofs.Tryz.func174 rfl (by decide) (by kernel_rfl) (by decide) rfl (by kernel_rfl) (by kernel_rfl) (by decide)
noncomputable def slices_heapSortOrdered_uint64_pc : PC :=
  (.seq (.reg [p_m 11 1, p_m 6 11])
 (.seq (.reg [p_s 7 (.mov (o_i 0))])
 (.seq (.reg [p_m 12 2, p_m 13 1, p_s 14 (.bin .sub (.t 12) (.t 13)), p_m 8 14])
 (.seq (.seq (.reg [p_m 15 8, p_s 16 (.bin .sub (.t 15) (o_i 1)), p_s 17 (.bin .quo (.t 16) (o_i 2)), p_m 9 17])
 (.block 0 (.loop (.seq (.seq (.reg [p_m 18 9, p_s 19 (.bin .geq (.t 18) (o_i 0))])
 (.cond (.t 19)
 .skip
 (.exit 0)))
 (.seq (.block 1 (.reg [p_m 22 0, p_m 23 9, p_m 24 8, p_m 25 6, p_c 26 1 174 [.t 22, .t 23, .t 24, .t 25]]))
 (.reg [p_m 20 9, p_s 21 (.bin .sub (.t 20) (o_i 1)), p_m 9 21]))))))
 (.seq (.reg [p_m 27 8, p_s 28 (.bin .sub (.t 27) (o_i 1)), p_m 10 28])
 (.block 2 (.loop (.seq (.seq (.reg [p_m 29 10, p_s 30 (.bin .geq (.t 29) (o_i 0))])
 (.cond (.t 30)
 .skip
 (.exit 2)))
 (.seq (.block 3 (.seq (.drw [p_m 33 0, p_m 34 6, p_m 35 0, p_m 36 6, p_m 37 10, p_s 38 (.bin .add (.t 36) (.t 37)), p_m 39 0, p_m 40 6, p_m 41 10, p_s 42 (.bin .add (.t 40) (.t 41)), p_s 43 (.ia 1 (.v (.int .u64 0)) (.t 39) (.t 42)),
 p_s 44 (.ld none (.t 43)), p_m 45 0, p_m 46 6, p_s 47 (.ia 1 (.v (.int .u64 0)) (.t 45) (.t 46)), p_s 48 (.ld none (.t 47)), p_s 49 (.ia 1 (.v (.int .u64 0)) (.t 33) (.t 34)),
 ⟨none, none, 0, .act (.st 1 (.t 49) (.t 44))⟩, p_s 50 (.ia 1 (.v (.int .u64 0)) (.t 35) (.t 38)), ⟨none, none, 0, .act (.st 1 (.t 50) (.t 48))⟩]
 [[], [], [], [], [], [3, 4], [], [], [], [7, 8], [6, 7, 8, 9], [6, 7, 8, 9, 10], [], [], [12, 13], [12, 13, 14], [0, 1, 6, 7, 8, 9, 10, 11, 12, 13, 14, 15], [0, 1, 6, 7, 8, 9, 10, 11, 12, 13, 14, 15, 16], [0, 1, 2, 3, 4, 5, 6, 7, 8, 9, 10, 11, 12, 13, 14, 15, 16, 17], [0, 1, 2, 3, 4, 5, 6, 7, 8, 9, 10, 11, 12, 13, 14, 15, 16, 17, 18]])
 (.reg [p_m 51 0, p_m 52 7, p_m 53 10, p_m 54 6, p_c 55 2 174 [.t 51, .t 52, .t 53, .t 54]])))
 (.reg [p_m 31 10, p_s 32 (.bin .sub (.t 31) (o_i 1)), p_m 10 32]))))))))))
theorem slices_heapSortOrdered_uint64_triple : Fun Go.Proofs.Tryz.prog 151 3 [] slices_heapSortOrdered_uint64_pc := fun_mk Go.Proofs.Tryz.func151 rfl (by decide) (by kernel_rfl) (by decide) rfl (by kernel_rfl) (by kernel_rfl) (by decide)
theorem rev_t (d : Array Int) (a b : Nat) (hab : a ≤ b) (hb1 : 1 ≤ b) (hb : b ≤ d.size) (hn : d.size ≤ 100000) (m : Nat) : Triple Go.Proofs.Tryz.prog 154 [.own 1000000 0 0 d.size, int .i64 a, int .i64 b] [bO d m] (.tup []) [bO (reverseRange d a b) m] := by
 refine slices_reverseRangeOrdered_uint64_triple rfl (by simp) ?_
 have w0 : IntKind.i64.wrap ((b : Int) - 1) = ((b - 1 : Nat) : Int) := by rw [wrap_id (by omega)]; omega
 obtain ⟨b1, hb1'⟩ : ∃ b1, b - 1 = b1 := ⟨_, rfl⟩
 rw [hb1'] at w0
 simp only [slices_reverseRangeOrdered_uint64_pc, bO, bc_len, hidL_bc, imL_bc, w0, List.length_cons, List.length_nil, push_cast, ↓reduceIte, reduceCtorEq, Nat.reduceBEq, reduceEqDiff, reduceAdd, reduceSub, reduceLT, reduceLeDiff, reduceMul]
 generalize hN : d.size = n at *
 refine run_loop [(6, false), (7, false), (0, false)] (fun vs pos los => ∃ (i j : Nat) (e : Array Int), j < n ∧ i ≤ j + 1 ∧ e.size = n ∧ reverseRange d a b = reverseLoop i j e ∧ vs = [int .i64 i, int .i64 j, .own 1000000 0 0 n] ∧ pos = [bO e m] ∧ los = [])
  (fun vs _ _ => match vs with | .r (.v (.int _ i)) :: .r (.v (.int _ j)) :: _ => (j - i).toNat | _ => 0) rfl ?_ ?_
 ·simp only [bO, bc_len, hidL_bc, imL_bc, push_cast, ↓reduceIte, reduceCtorEq, Nat.reduceBEq, reduceEqDiff, reduceAdd, reduceSub, reduceLT, reduceLeDiff, reduceMul]
  exact ⟨a, b1, d, by omega, by omega, hN, by rw [reverseRange, hb1'], (by first | rfl | exact ⟨rfl, rfl⟩ | exact ⟨rfl, rfl, rfl⟩)⟩
 ·rintro vs pos los ⟨i, j, e, hj, hi, he, hE, rfl, rfl, rfl⟩
  simp only [bO, bc_len, hidL_bc, imL_bc, push_cast, ↓reduceIte, reduceCtorEq, Nat.reduceBEq, reduceEqDiff, reduceAdd, reduceSub, reduceLT, reduceLeDiff, reduceMul]
  refine cnd_mk (fun h => ?_) (fun h => ?_)
  ·have h' : i < j := by
    simp at h
    omega
   obtain ⟨k, rfl⟩ : ∃ k, j = k + 1 := ⟨j - 1, by omega⟩
   have w1 : IntKind.i64.wrap ((i : Int) + 1) = (i : Int) + 1 := wrap_id (by omega)
   have wk : IntKind.i64.wrap ((k : Int) + 1 - 1) = (k : Int) := by rw [wrap_id (by omega)]; omega
   have k1 : i < e.size := by omega
   have k2 : k + 1 < e.size := by omega
   have k3 : k + 1 < (e.setIfInBounds i e[k + 1]!).size := by simpa using k2
   simp only [bO, bc_len, hidL_bc, imL_bc, w1, wk, bu_get (m := m) k1, bu_get (m := m) k2, bu_get (m := m) k3, bu_set (m := m) k1, bu_set (m := m) k3, Int.toNat_natCast, Int.toNat_natCast_add_one, Nat.zero_add, push_cast, ↓reduceIte, reduceCtorEq, Nat.reduceBEq, reduceEqDiff, reduceAdd, reduceSub, reduceLT, reduceLeDiff, reduceMul]
   repeat refine And.intro (by first | decide | omega | exact fun _ => by decide | (simp +contextual; done) | kernel_rfl) ?_
   refine ⟨⟨i + 1, k, swp e i (k + 1), by omega, by omega, by rw [swp_size]; exact he, ?_, (by first | rfl | exact ⟨rfl, rfl⟩ | exact ⟨rfl, rfl, rfl⟩)⟩, by omega⟩
   rw [hE, reverseLoop, if_pos h']
   rfl
  ·have h' : ¬ i < j := by
    simp at h
    omega
   simp only [hidL_bc, imL_bc, bc_len, push_cast, ↓reduceIte, reduceCtorEq, Nat.reduceBEq, reduceEqDiff, reduceAdd, reduceSub, reduceLT, reduceLeDiff, reduceMul]
   rw [hE, reverseLoop, if_neg h']
theorem siftDown_size (hi first : Nat) : ∀ (k root : Nat) (d : Array Int), hi - root ≤ k → (siftDown ltInt hi first root d).size = d.size := by
 intro k
 induction k with
 | zero =>
  intro root d hk
  rw [siftDown]
  rw [dif_pos (by omega)]
 | succ k ih =>
  intro root d hk
  rw [siftDown]
  split
  ·rfl
  ·split
   ·split
    ·rfl
    ·split
     ·rw [ih _ _ (by omega), swp_size]
     ·rfl
   ·split
    ·rfl
    ·rw [ih _ _ (by omega), swp_size]
theorem sift_t (d : Array Int) (lo hi first : Nat) (hb : first + hi ≤ d.size) (hl : lo ≤ 100000) (hn : d.size ≤ 100000) (m : Nat) : Triple Go.Proofs.Tryz.prog 174 [.own 1000000 0 0 d.size, int .i64 lo, int .i64 hi, int .i64 first] [bO d m] (.tup []) [bO (siftDown ltInt hi first lo d) m] := by
 refine slices_siftDownOrdered_uint64_triple rfl (by simp) ?_
 simp only [slices_siftDownOrdered_uint64_pc, bO, bc_len, hidL_bc, imL_bc, List.length_cons, List.length_nil, push_cast, ↓reduceIte, reduceCtorEq, Nat.reduceBEq, reduceEqDiff, reduceAdd, reduceSub, reduceLT, reduceLeDiff, reduceMul]
 generalize hN : d.size = n at *
 refine run_loop [(8, false), (0, false), (2, false), (3, false)] (fun vs pos los => ∃ (r : Nat) (e : Array Int), r ≤ 100000 ∧ e.size = n ∧ siftDown ltInt hi first lo d = siftDown ltInt hi first r e ∧ vs = [int .i64 r, .own 1000000 0 0 n, int .i64 hi, int .i64 first] ∧ pos = [bO e m] ∧ los = [])
  (fun vs _ _ => match vs with | .r (.v (.int _ i)) :: _ => (hi - i).toNat | _ => 0) rfl ?_ ?_
 ·simp only [bO, bc_len, hidL_bc, imL_bc, push_cast, ↓reduceIte, reduceCtorEq, Nat.reduceBEq, reduceEqDiff, reduceAdd, reduceSub, reduceLT, reduceLeDiff, reduceMul]
  exact ⟨lo, d, hl, hN, rfl, (by first | rfl | exact ⟨rfl, rfl⟩ | exact ⟨rfl, rfl, rfl⟩)⟩
 ·rintro vs pos los ⟨r, e, hr, he, hE, rfl, rfl, rfl⟩
  obtain ⟨c, hc⟩ : ∃ c, 2 * r + 1 = c := ⟨_, rfl⟩
  have w1 : IntKind.i64.wrap (2 * (r : Int)) = 2 * (r : Int) := wrap_id (by omega)
  have w2 : IntKind.i64.wrap (2 * (r : Int) + 1) = (c : Int) := by rw [wrap_id (by omega)]; omega
  simp only [bO, bc_len, hidL_bc, imL_bc, w1, w2, push_cast, ↓reduceIte, reduceCtorEq, Nat.reduceBEq, reduceEqDiff, reduceAdd, reduceSub, reduceLT, reduceLeDiff, reduceMul]
  refine cnd_mk (fun h => ?_) (fun h => ?_)
  ·have h' : c ≥ hi := by
    simp at h
    omega
   simp only [hidL_bc, imL_bc, bc_len, push_cast, ↓reduceIte, reduceCtorEq, Nat.reduceBEq, reduceEqDiff, reduceAdd, reduceSub, reduceLT, reduceLeDiff, reduceMul]
   rw [hE, siftDown, dif_pos (by omega)]
  ·have h' : ¬ c ≥ hi := by
    simp at h
    omega
   have w3 : IntKind.i64.wrap ((c : Int) + 1) = (c : Int) + 1 := wrap_id (by omega)
   obtain ⟨x, hx⟩ : ∃ x, first + c = x := ⟨_, rfl⟩
   obtain ⟨y, hy⟩ : ∃ y, first + r = y := ⟨_, rfl⟩
   have w4 : IntKind.i64.wrap ((first : Int) + c) = (x : Int) := by rw [wrap_id (by omega)]; omega
   have w5 : IntKind.i64.wrap ((first : Int) + r) = (y : Int) := by rw [wrap_id (by omega)]; omega
   have w6 : IntKind.i64.wrap ((x : Int) + 1) = (x : Int) + 1 := wrap_id (by omega)
   have kx : x < e.size := by omega
   have ky : y < e.size := by omega
   have hdn : ∀ q, siftDown ltInt hi first r e = q ↔ (if c + 1 < hi && ltInt e[x]! e[x + 1]! then
     if !ltInt e[y]! e[x + 1]! then e else siftDown ltInt hi first (c + 1) (swp e y (x + 1)) else
     if !ltInt e[y]! e[x]! then e else siftDown ltInt hi first c (swp e y x)) = q := fun q => by
    rw [siftDown, dif_neg (by omega), hc, hx, hy, show 2 * r + 2 = c + 1 by omega, show first + (c + 1) = x + 1 by omega]
    by_cases hcc : (c + 1 < hi && ltInt e[x]! e[x + 1]!) = true
    ·have : c + 1 < hi := by simp at hcc; exact hcc.1
     rw [if_pos hcc, if_pos hcc, dif_pos this]
    ·rw [if_neg hcc, if_neg hcc]
   by_cases hc1 : c + 1 < hi
   ·have g1 : decide ((c : Int) + 1 < hi) = true := by simp; omega
    have kx1 : x + 1 < e.size := by omega
    simp only [bO, bc_len, hidL_bc, imL_bc, w1, w2, w3, w4, w5, w6, g1, bu_get (m := m) kx, bu_get (m := m) ky, bu_get (m := m) kx1, Int.toNat_natCast, Int.toNat_natCast_add_one, Nat.zero_add, push_cast, ↓reduceIte, reduceCtorEq, Nat.reduceBEq, reduceEqDiff, reduceAdd, reduceSub, reduceLT, reduceLeDiff, reduceMul]
    repeat refine And.intro (by first | decide | omega | exact fun _ => by decide | (simp +contextual; done) | kernel_rfl) ?_
    refine dcall_mk (lt_t e[x]! e[x + 1]!) rfl trivial ?_
    simp only [bO, bc_len, hidL_bc, imL_bc, w1, w2, w3, w4, w5, w6, g1, bu_get (m := m) kx, bu_get (m := m) ky, bu_get (m := m) kx1, Int.toNat_natCast, Int.toNat_natCast_add_one, Nat.zero_add, push_cast, ↓reduceIte, reduceCtorEq, Nat.reduceBEq, reduceEqDiff, reduceAdd, reduceSub, reduceLT, reduceLeDiff, reduceMul]
    repeat refine And.intro (by first | decide | omega | exact fun _ => by decide | (simp +contextual; done) | kernel_rfl) ?_
    refine cnd_mk (fun hl => ?_) (fun hl => ?_)
    ·have w7 : IntKind.i64.wrap ((first : Int) + (c + 1)) = (x : Int) + 1 := by rw [wrap_id (by omega)]; omega
     simp only [bO, bc_len, hidL_bc, imL_bc, w1, w2, w3, w4, w5, w6, w7, g1, bu_get (m := m) kx, bu_get (m := m) ky, bu_get (m := m) kx1, Int.toNat_natCast, Int.toNat_natCast_add_one, Nat.zero_add, push_cast, ↓reduceIte, reduceCtorEq, Nat.reduceBEq, reduceEqDiff, reduceAdd, reduceSub, reduceLT, reduceLeDiff, reduceMul]
     repeat refine And.intro (by first | decide | omega | exact fun _ => by decide | (simp +contextual; done) | kernel_rfl) ?_
     refine dcall_mk (lt_t e[y]! e[x + 1]!) rfl trivial ?_
     simp only [bO, bc_len, hidL_bc, imL_bc, w1, w2, w3, w4, w5, w6, w7, g1, bu_get (m := m) kx, bu_get (m := m) ky, bu_get (m := m) kx1, Int.toNat_natCast, Int.toNat_natCast_add_one, Nat.zero_add, push_cast, ↓reduceIte, reduceCtorEq, Nat.reduceBEq, reduceEqDiff, reduceAdd, reduceSub, reduceLT, reduceLeDiff, reduceMul]
     repeat refine And.intro (by first | decide | omega | exact fun _ => by decide | (simp +contextual; done) | kernel_rfl) ?_
     refine cnd_mk (fun hm => ?_) (fun hm => ?_)
     ·simp only [bO, bc_len, hidL_bc, imL_bc, push_cast, ↓reduceIte, reduceCtorEq, Nat.reduceBEq, reduceEqDiff, reduceAdd, reduceSub, reduceLT, reduceLeDiff, reduceMul]
      rw [hE, (hdn _).2 rfl, if_pos (by simp [hc1, hl]), if_pos hm]
     ·have kx2 : x + 1 < (e.setIfInBounds y e[x + 1]!).size := by simpa using kx1
      simp only [bO, bc_len, hidL_bc, imL_bc, w1, w2, w3, w4, w5, w6, w7, g1, bu_get (m := m) kx, bu_get (m := m) ky, bu_get (m := m) kx1, bu_get (m := m) kx2, bu_set (m := m) ky, bu_set (m := m) kx2, Int.toNat_natCast, Int.toNat_natCast_add_one, Nat.zero_add, push_cast, ↓reduceIte, reduceCtorEq, Nat.reduceBEq, reduceEqDiff, reduceAdd, reduceSub, reduceLT, reduceLeDiff, reduceMul]
      repeat refine And.intro (by first | decide | omega | exact fun _ => by decide | (simp +contextual; done) | kernel_rfl) ?_
      refine ⟨⟨c + 1, swp e y (x + 1), by omega, by rw [swp_size]; exact he, ?_, (by first | rfl | exact ⟨rfl, rfl⟩ | exact ⟨rfl, rfl, rfl⟩)⟩, by omega⟩
      rw [hE, (hdn _).2 rfl, if_pos (by simp [hc1, hl]), if_neg (by simp [hm])]
    ·simp only [bO, bc_len, hidL_bc, imL_bc, w1, w2, w3, w4, w5, w6, g1, bu_get (m := m) kx, bu_get (m := m) ky, bu_get (m := m) kx1, Int.toNat_natCast, Int.toNat_natCast_add_one, Nat.zero_add, push_cast, ↓reduceIte, reduceCtorEq, Nat.reduceBEq, reduceEqDiff, reduceAdd, reduceSub, reduceLT, reduceLeDiff, reduceMul]
     repeat refine And.intro (by first | decide | omega | exact fun _ => by decide | (simp +contextual; done) | kernel_rfl) ?_
     refine dcall_mk (lt_t e[y]! e[x]!) rfl trivial ?_
     simp only [bO, bc_len, hidL_bc, imL_bc, w1, w2, w3, w4, w5, w6, g1, bu_get (m := m) kx, bu_get (m := m) ky, Int.toNat_natCast, Int.toNat_natCast_add_one, Nat.zero_add, push_cast, ↓reduceIte, reduceCtorEq, Nat.reduceBEq, reduceEqDiff, reduceAdd, reduceSub, reduceLT, reduceLeDiff, reduceMul]
     repeat refine And.intro (by first | decide | omega | exact fun _ => by decide | (simp +contextual; done) | kernel_rfl) ?_
     refine cnd_mk (fun hm => ?_) (fun hm => ?_)
     ·simp only [bO, bc_len, hidL_bc, imL_bc, push_cast, ↓reduceIte, reduceCtorEq, Nat.reduceBEq, reduceEqDiff, reduceAdd, reduceSub, reduceLT, reduceLeDiff, reduceMul]
      rw [hE, (hdn _).2 rfl, if_neg (by simp [hl]), if_pos hm]
     ·have kx2 : x < (e.setIfInBounds y e[x]!).size := by simpa using kx
      simp only [bO, bc_len, hidL_bc, imL_bc, w1, w2, w3, w4, w5, w6, g1, bu_get (m := m) kx, bu_get (m := m) ky, bu_get (m := m) kx2, bu_set (m := m) ky, bu_set (m := m) kx2, Int.toNat_natCast, Int.toNat_natCast_add_one, Nat.zero_add, push_cast, ↓reduceIte, reduceCtorEq, Nat.reduceBEq, reduceEqDiff, reduceAdd, reduceSub, reduceLT, reduceLeDiff, reduceMul]
      repeat refine And.intro (by first | decide | omega | exact fun _ => by decide | (simp +contextual; done) | kernel_rfl) ?_
      refine ⟨⟨c, swp e y x, by omega, by rw [swp_size]; exact he, ?_, (by first | rfl | exact ⟨rfl, rfl⟩ | exact ⟨rfl, rfl, rfl⟩)⟩, by omega⟩
      rw [hE, (hdn _).2 rfl, if_neg (by simp [hl]), if_neg (by simp [hm])]
   ·have g1 : decide ((c : Int) + 1 < hi) = false := by simp; omega
    simp only [bO, bc_len, hidL_bc, imL_bc, w1, w2, w3, w4, w5, w6, g1, bu_get (m := m) kx, bu_get (m := m) ky, Int.toNat_natCast, Int.toNat_natCast_add_one, Nat.zero_add, push_cast, ↓reduceIte, reduceCtorEq, Nat.reduceBEq, reduceEqDiff, reduceAdd, reduceSub, reduceLT, reduceLeDiff, reduceMul]
    repeat refine And.intro (by first | decide | omega | exact fun _ => by decide | (simp +contextual; done) | kernel_rfl) ?_
    refine dcall_mk (lt_t e[y]! e[x]!) rfl trivial ?_
    simp only [bO, bc_len, hidL_bc, imL_bc, w1, w2, w3, w4, w5, w6, g1, bu_get (m := m) kx, bu_get (m := m) ky, Int.toNat_natCast, Int.toNat_natCast_add_one, Nat.zero_add, push_cast, ↓reduceIte, reduceCtorEq, Nat.reduceBEq, reduceEqDiff, reduceAdd, reduceSub, reduceLT, reduceLeDiff, reduceMul]
    repeat refine And.intro (by first | decide | omega | exact fun _ => by decide | (simp +contextual; done) | kernel_rfl) ?_
    refine cnd_mk (fun hm => ?_) (fun hm => ?_)
    ·simp only [bO, bc_len, hidL_bc, imL_bc, push_cast, ↓reduceIte, reduceCtorEq, Nat.reduceBEq, reduceEqDiff, reduceAdd, reduceSub, reduceLT, reduceLeDiff, reduceMul]
     rw [hE, (hdn _).2 rfl, if_neg (by simp [hc1]), if_pos hm]
    ·have kx2 : x < (e.setIfInBounds y e[x]!).size := by simpa using kx
     simp only [bO, bc_len, hidL_bc, imL_bc, w1, w2, w3, w4, w5, w6, g1, bu_get (m := m) kx, bu_get (m := m) ky, bu_get (m := m) kx2, bu_set (m := m) ky, bu_set (m := m) kx2, Int.toNat_natCast, Int.toNat_natCast_add_one, Nat.zero_add, push_cast, ↓reduceIte, reduceCtorEq, Nat.reduceBEq, reduceEqDiff, reduceAdd, reduceSub, reduceLT, reduceLeDiff, reduceMul]
     repeat refine And.intro (by first | decide | omega | exact fun _ => by decide | (simp +contextual; done) | kernel_rfl) ?_
     refine ⟨⟨c, swp e y x, by omega, by rw [swp_size]; exact he, ?_, (by first | rfl | exact ⟨rfl, rfl⟩ | exact ⟨rfl, rfl, rfl⟩)⟩, by omega⟩
     rw [hE, (hdn _).2 rfl, if_neg (by simp [hc1]), if_neg (by simp [hm])]
theorem heapBuild_size (hi first : Nat) : ∀ (k : Nat) (d : Array Int), (heapBuild ltInt hi first k d).size = d.size
 | 0, d => rfl
 | k + 1, d => by rw [heapBuild, heapBuild_size hi first k, siftDown_size hi first (hi - k) k d (Nat.le_refl _)]
theorem heap_t (d : Array Int) (a b : Nat) (hab : a < b) (hb : b ≤ d.size) (hn : d.size ≤ 100000) (m : Nat) : Triple Go.Proofs.Tryz.prog 151 [.own 1000000 0 0 d.size, int .i64 a, int .i64 b] [bO d m] (.tup []) [bO (heapSort ltInt d a b) m] := by
 refine slices_heapSortOrdered_uint64_triple rfl (by simp) ?_
 obtain ⟨hi, hhi⟩ : ∃ hi, b - a = hi := ⟨_, rfl⟩
 have w0 : IntKind.i64.wrap ((b : Int) - a) = (hi : Int) := by rw [wrap_id (by omega)]; omega
 obtain ⟨k0, hk0⟩ : ∃ k, (hi - 1) / 2 = k := ⟨_, rfl⟩
 have w1 : IntKind.i64.wrap ((hi : Int) - 1) = ((hi - 1 : Nat) : Int) := by rw [wrap_id (by omega)]; omega
 obtain ⟨h1, hh1⟩ : ∃ h1, hi - 1 = h1 := ⟨_, rfl⟩
 rw [hh1] at w1
 have w2 : (h1 : Int).tdiv 2 = (k0 : Int) := by rw [Int.tdiv_eq_ediv_of_nonneg (by omega)]; omega
 have w2' : IntKind.i64.wrap (k0 : Int) = (k0 : Int) := wrap_id (by omega)
 generalize hN : d.size = n at *
 simp only [slices_heapSortOrdered_uint64_pc, bO, bc_len, hidL_bc, imL_bc, w0, w1, w2, w2', List.length_cons, List.length_nil, push_cast, ↓reduceIte, reduceCtorEq, Nat.reduceBEq, reduceEqDiff, reduceAdd, reduceSub, reduceLT, reduceLeDiff, reduceMul]
 repeat refine And.intro (by first | decide | omega | exact fun _ => by decide | (simp +contextual; done) | kernel_rfl) ?_
 have hE0 : heapSort ltInt d a b = heapPop ltInt a hi (heapBuild ltInt hi a (k0 + 1) d) := by rw [heapSort, hhi, hk0]
 have hs0 : (heapBuild ltInt hi a (k0 + 1) d).size = n := by rw [heapBuild_size]; exact hN
 generalize hH : heapBuild ltInt hi a (k0 + 1) d = H at *
 refine run_loop [(9, false), (0, false), (6, false), (7, false), (8, false)] (fun vs pos los => ∃ (k : Nat) (e : Array Int), k ≤ k0 + 1 ∧ e.size = n ∧ H = heapBuild ltInt hi a k e ∧ vs = [int .i64 ((k : Int) - 1), .own 1000000 0 0 n, int .i64 a, int .i64 0, int .i64 hi] ∧ pos = [bO e m] ∧ los = [])
  (fun vs _ _ => match vs with | .r (.v (.int _ i)) :: _ => (i + 1).toNat | _ => 0) rfl ?_ ?_
 ·simp only [bO, bc_len, hidL_bc, imL_bc, push_cast, ↓reduceIte, reduceCtorEq, Nat.reduceBEq, reduceEqDiff, reduceAdd, reduceSub, reduceLT, reduceLeDiff, reduceMul]
  refine ⟨k0 + 1, d, by omega, hN, hH.symm, ?_⟩
  have : ((k0 + 1 : Nat) : Int) - 1 = k0 := by omega
  rw [this]
  first | rfl | exact ⟨rfl, rfl⟩ | exact ⟨rfl, rfl, rfl⟩
 ·rintro vs pos los ⟨k, e, hk, he, hE, rfl, rfl, rfl⟩
  simp only [bO, bc_len, hidL_bc, imL_bc, push_cast, ↓reduceIte, reduceCtorEq, Nat.reduceBEq, reduceEqDiff, reduceAdd, reduceSub, reduceLT, reduceLeDiff, reduceMul]
  refine cnd_mk (fun h => ?_) (fun h => ?_)
  ·obtain ⟨q, rfl⟩ : ∃ q, k = q + 1 := ⟨k - 1, by simp at h; omega⟩
   have wq : ((q : Int) + 1 - 1) = (q : Int) := by omega
   have wq1 : IntKind.i64.wrap ((q : Int) - 1) = (q : Int) - 1 := wrap_id (by omega)
   simp only [bO, bc_len, hidL_bc, imL_bc, wq, push_cast, ↓reduceIte, reduceCtorEq, Nat.reduceBEq, reduceEqDiff, reduceAdd, reduceSub, reduceLT, reduceLeDiff, reduceMul]
   have hS := sift_t e q hi a (by omega) (by omega) (by omega) m
   rw [he] at hS
   refine call_mk hS rfl ⟨by simp [bc_len, swp_size, siftDown_size _ _ _ _ _ (Nat.le_refl _)], trivial⟩ ?_
   simp only [bO, bc_len, hidL_bc, imL_bc, wq, wq1, push_cast, ↓reduceIte, reduceCtorEq, Nat.reduceBEq, reduceEqDiff, reduceAdd, reduceSub, reduceLT, reduceLeDiff, reduceMul]
   refine ⟨⟨q, siftDown ltInt hi a q e, by omega, by rw [siftDown_size _ _ _ _ _ (Nat.le_refl _)]; exact he, hE, (by first | rfl | exact ⟨rfl, rfl⟩ | exact ⟨rfl, rfl, rfl⟩)⟩, by omega⟩
  ·obtain rfl : k = 0 := by simp at h; omega
   have hHe : H = e := hE
   subst hHe
   simp only [bO, bc_len, hidL_bc, imL_bc, w0, w1, push_cast, ↓reduceIte, reduceCtorEq, Nat.reduceBEq, reduceEqDiff, reduceAdd, reduceSub, reduceLT, reduceLeDiff, reduceMul]
   refine run_loop [(10, false), (0, false), (6, false), (7, false)] (fun vs pos los => ∃ (k : Nat) (e : Array Int), k ≤ hi ∧ e.size = n ∧ heapPop ltInt a hi H = heapPop ltInt a k e ∧ vs = [int .i64 ((k : Int) - 1), .own 1000000 0 0 n, int .i64 a, int .i64 0] ∧ pos = [bO e m] ∧ los = [])
    (fun vs _ _ => match vs with | .r (.v (.int _ i)) :: _ => (i + 1).toNat | _ => 0) rfl ?_ ?_
   ·simp only [bO, bc_len, hidL_bc, imL_bc, push_cast, ↓reduceIte, reduceCtorEq, Nat.reduceBEq, reduceEqDiff, reduceAdd, reduceSub, reduceLT, reduceLeDiff, reduceMul]
    refine ⟨hi, H, by omega, hs0, rfl, ?_⟩
    have : ((hi : Nat) : Int) - 1 = h1 := by omega
    rw [this]
    first | rfl | exact ⟨rfl, rfl⟩ | exact ⟨rfl, rfl, rfl⟩
   ·rintro vs pos los ⟨k, e, hk, he, hE, rfl, rfl, rfl⟩
    simp only [bO, bc_len, hidL_bc, imL_bc, push_cast, ↓reduceIte, reduceCtorEq, Nat.reduceBEq, reduceEqDiff, reduceAdd, reduceSub, reduceLT, reduceLeDiff, reduceMul]
    refine cnd_mk (fun h => ?_) (fun h => ?_)
    ·obtain ⟨q, rfl⟩ : ∃ q, k = q + 1 := ⟨k - 1, by simp at h; omega⟩
     have wq : ((q : Int) + 1 - 1) = (q : Int) := by omega
     have wq1 : IntKind.i64.wrap ((q : Int) - 1) = (q : Int) - 1 := wrap_id (by omega)
     obtain ⟨x, hx⟩ : ∃ x, a + q = x := ⟨_, rfl⟩
     have wx : IntKind.i64.wrap ((a : Int) + q) = (x : Int) := by rw [wrap_id (by omega)]; omega
     have ka : a < e.size := by omega
     have kx : x < e.size := by omega
     have kx2 : x < (e.setIfInBounds a e[x]!).size := by simpa using kx
     simp only [bO, bc_len, hidL_bc, imL_bc, wq, wx, bu_get (m := m) ka, bu_get (m := m) kx, bu_get (m := m) kx2, bu_set (m := m) ka, bu_set (m := m) kx2, Int.toNat_natCast, Int.toNat_natCast_add_one, Nat.zero_add, push_cast, ↓reduceIte, reduceCtorEq, Nat.reduceBEq, reduceEqDiff, reduceAdd, reduceSub, reduceLT, reduceLeDiff, reduceMul]
     repeat refine And.intro (by first | decide | omega | exact fun _ => by decide | (simp +contextual; done) | kernel_rfl) ?_
     have hS := sift_t (swp e a x) 0 q a (by rw [swp_size]; omega) (by omega) (by rw [swp_size]; omega) m
     rw [swp_size, he] at hS
     refine call_mk hS rfl ⟨by simp [bc_len, swp_size, siftDown_size _ _ _ _ _ (Nat.le_refl _)], trivial⟩ ?_
     simp only [bO, bc_len, hidL_bc, imL_bc, wq, wq1, push_cast, ↓reduceIte, reduceCtorEq, Nat.reduceBEq, reduceEqDiff, reduceAdd, reduceSub, reduceLT, reduceLeDiff, reduceMul]
     refine ⟨⟨q, siftDown ltInt q a 0 (swp e a x), by omega, by rw [siftDown_size _ _ _ _ _ (Nat.le_refl _), swp_size]; exact he, ?_, (by first | rfl | exact ⟨rfl, rfl⟩ | exact ⟨rfl, rfl, rfl⟩)⟩, by omega⟩
     rw [hE, heapPop, hx]
    ·obtain rfl : k = 0 := by simp at h; omega
     simp only [bO, bc_len, hidL_bc, imL_bc, push_cast, ↓reduceIte, reduceCtorEq, Nat.reduceBEq, reduceEqDiff, reduceAdd, reduceSub, reduceLT, reduceLeDiff, reduceMul]
     rw [hE0, hE]
     rfl

open Go.Sort (swp ltInt order2 median medianAdjacent choosePivot Hint)
noncomputable def slices_order2Ordered_uint64_pc : PC :=
  (.seq (.reg [p_s 8 (.mov (o_i 0)), p_s 9 (.mov (o_i 0))])
 (.seq (.seq (.drw [p_m 10 0, p_m 11 2, p_s 12 (.ia 1 (.v (.int .u64 0)) (.t 10) (.t 11)), p_s 13 (.ld none (.t 12)), p_m 14 0, p_m 15 1, p_s 16 (.ia 1 (.v (.int .u64 0)) (.t 14) (.t 15)),
 p_s 17 (.ld none (.t 16)), p_c 18 1 156 [.t 13, .t 17]]
 [[], [], [0, 1], [0, 1, 2], [], [], [4, 5], [4, 5, 6], [0, 1, 2, 3, 4, 5, 6, 7]])
 (.cond (.t 18)
 (.seq (.reg [p_m 19 3, p_s 20 (.nck (.t 19)), p_s 21 (.ld none (.t 20)), p_s 22 (.bin .add (.t 21) (o_i 1)), p_s 23 (.nck (.t 19)), ⟨none, none, 0, .act (.st 1 (.t 23) (.t 22))⟩])
 (.seq (.reg [p_m 24 2, p_m 25 1, p_m 8 24, p_m 9 25])
 .ret))
 .skip))
 (.seq (.reg [p_m 26 1, p_m 27 2, p_m 8 26, p_m 9 27])
 .ret)))
theorem slices_order2Ordered_uint64_triple : Fun Go.Proofs.Tryz.prog 181 4 [(8, false, none), (9, false, none)] slices_order2Ordered_uint64_pc := fun_mk Go.Proofs.Tryz.func181 rfl (by decide) (by kernel_rfl) (by decide) rfl (by kernel_rfl) (by kernel_rfl) (by decide)
noncomputable def slices_medianOrdered_uint64_pc : PC :=
  (.seq (.reg [p_s 10 (.mov (o_i 0))])
 (.seq (.reg [p_m 12 0, p_m 13 1, p_m 14 2, p_m 15 4, p_c 16 1 181 [.t 12, .t 13, .t 14, .t 15], p_m 11 16, p_s 17 (.ext (.t 11) 0), p_s 18 (.ext (.t 11) 1), p_m 1 17, p_m 2 18])
 (.seq (.reg [p_m 20 0, p_m 21 2, p_m 22 3, p_m 23 4, p_c 24 2 181 [.t 20, .t 21, .t 22, .t 23], p_m 19 24, p_s 25 (.ext (.t 19) 0), p_s 26 (.ext (.t 19) 1), p_m 2 25, p_m 3 26])
 (.seq (.reg [p_m 28 0, p_m 29 1, p_m 30 2, p_m 31 4, p_c 32 3 181 [.t 28, .t 29, .t 30, .t 31], p_m 27 32, p_s 33 (.ext (.t 27) 0), p_s 34 (.ext (.t 27) 1), p_m 1 33, p_m 2 34])
 (.seq (.reg [p_m 35 2, p_m 10 35])
 .ret)))))
theorem slices_medianOrdered_uint64_triple : Fun Go.Proofs.Tryz.prog 176 5 [(10, false, none)] slices_medianOrdered_uint64_pc := fun_mk Go.Proofs.Tryz.func176 rfl (by decide) (by kernel_rfl) (by decide) rfl (by kernel_rfl) (by kernel_rfl) (by decide)
noncomputable def slices_medianAdjacentOrdered_uint64_pc : PC :=
  (.seq (.reg [p_s 6 (.mov (o_i 0))])
 (.seq (.reg [p_m 7 0, p_m 8 1, p_s 9 (.bin .sub (.t 8) (o_i 1)), p_m 10 1, p_m 11 1, p_s 12 (.bin .add (.t 11) (o_i 1)), p_m 13 2, p_c 14 1 176 [.t 7, .t 9, .t 10, .t 12, .t 13],
 p_m 6 14])
 .ret))
theorem slices_medianAdjacentOrdered_uint64_triple : Fun Go.Proofs.Tryz.prog 175 3 [(6, false, none)] slices_medianAdjacentOrdered_uint64_pc := fun_mk Go.Proofs.Tryz.func175 rfl (by decide) (by kernel_rfl) (by decide) rfl (by kernel_rfl) (by kernel_rfl) (by decide)
noncomputable def slices_choosePivotOrdered_uint64_pc : PC :=
  (.seq (.reg [p_s 6 (.mov (o_i 0)), p_s 7 (.mov (o_i 0))])
 (.seq (.reg [p_m 13 2, p_m 14 1, p_s 15 (.bin .sub (.t 13) (.t 14)), p_m 8 15])
 (.seq (.reg [p_a 9 (.new [(.r (.v (.int .i64 0)))])])
 (.seq (.reg [p_m 16 1, p_m 17 8, p_s 18 (.bin .quo (.t 17) (o_i 4)), p_s 19 (.bin .mul (.t 18) (o_i 1)), p_s 20 (.bin .add (.t 16) (.t 19)), p_m 10 20])
 (.seq (.reg [p_m 21 1, p_m 22 8, p_s 23 (.bin .quo (.t 22) (o_i 4)), p_s 24 (.bin .mul (.t 23) (o_i 2)), p_s 25 (.bin .add (.t 21) (.t 24)), p_m 11 25])
 (.seq (.reg [p_m 26 1, p_m 27 8, p_s 28 (.bin .quo (.t 27) (o_i 4)), p_s 29 (.bin .mul (.t 28) (o_i 3)), p_s 30 (.bin .add (.t 26) (.t 29)), p_m 12 30])
 (.seq (.seq (.reg [p_m 31 8, p_s 32 (.bin .geq (.t 31) (o_i 8))])
 (.cond (.t 32)
 (.seq (.seq (.reg [p_m 33 8, p_s 34 (.bin .geq (.t 33) (o_i 50))])
 (.cond (.t 34)
 (.seq (.reg [p_m 35 0, p_m 36 10, p_c 37 1 175 [.t 35, .t 36, .t 9], p_m 10 37])
 (.seq (.reg [p_m 38 0, p_m 39 11, p_c 40 2 175 [.t 38, .t 39, .t 9], p_m 11 40])
 (.reg [p_m 41 0, p_m 42 12, p_c 43 3 175 [.t 41, .t 42, .t 9], p_m 12 43])))
 .skip))
 (.reg [p_m 44 0, p_m 45 10, p_m 46 11, p_m 47 12, p_c 48 4 176 [.t 44, .t 45, .t 46, .t 47, .t 9], p_m 11 48]))
 .skip))
 (.seq (.reg [p_s 49 (.ld none (.t 9))])
 (.block 0 (.seq (.reg [p_s 52 (.bin .eql (.t 49) (o_i 0)), p_m 51 52])
 (.cond (.t 51)
 (.seq (.reg [p_m 53 11, p_m 6 53, p_s 7 (.mov (o_i 1))])
 .ret)
 (.seq (.reg [p_s 55 (.bin .eql (.t 49) (o_i 12)), p_m 54 55])
 (.cond (.t 54)
 (.seq (.reg [p_m 56 11, p_m 6 56, p_s 7 (.mov (o_i 2))])
 .ret)
 (.seq (.reg [p_m 50 11, p_m 6 50, p_s 7 (.mov (o_i 0))])
 .ret))))))))))))))
theorem slices_choosePivotOrdered_uint64_triple : Fun Go.Proofs.Tryz.prog 153 3 [(6, false, none), (7, false, none)] slices_choosePivotOrdered_uint64_pc := fun_mk Go.Proofs.Tryz.func153 rfl (by decide) (by kernel_rfl) (by decide) rfl (by kernel_rfl) (by kernel_rfl) (by decide)
theorem order2_t (d : Array Int) (a b sw : Nat) (ha : a < d.size) (hb : b < d.size) (hn : d.size ≤ 100000) (hs : sw ≤ 1000) (m : Nat) :
  Triple Go.Proofs.Tryz.prog 181 [.own 1000000 0 0 d.size, int .i64 a, int .i64 b, .ptr 1000001 0 0] [bO d m, .box [int .i64 sw]]
   (.tup [int .i64 (order2 ltInt d a b sw).1, int .i64 (order2 ltInt d a b sw).2.1]) [bO d m, .box [int .i64 (order2 ltInt d a b sw).2.2]] := by
 refine slices_order2Ordered_uint64_triple rfl (by simp) ?_
 have w1 : IntKind.i64.wrap ((sw : Int) + 1) = (sw : Int) + 1 := wrap_id (by omega)
 simp only [slices_order2Ordered_uint64_pc, bO, bc_len, hidL_bc, imL_bc, w1, bu_get (m := m) ha, bu_get (m := m) hb, List.length_cons, List.length_nil, Int.toNat_natCast, Int.toNat_natCast_add_one, Nat.zero_add, push_cast, ↓reduceIte, reduceCtorEq, Nat.reduceBEq, reduceEqDiff, reduceAdd, reduceSub, reduceLT, reduceLeDiff, reduceMul]
 repeat refine And.intro (by first | decide | omega | exact fun _ => by decide | (simp +contextual; done) | kernel_rfl) ?_
 refine dcall_mk (lt_t d[b]! d[a]!) rfl trivial ?_
 simp only [bO, bc_len, hidL_bc, imL_bc, w1, bu_get (m := m) ha, bu_get (m := m) hb, Int.toNat_natCast, Int.toNat_natCast_add_one, Nat.zero_add, push_cast, ↓reduceIte, reduceCtorEq, Nat.reduceBEq, reduceEqDiff, reduceAdd, reduceSub, reduceLT, reduceLeDiff, reduceMul]
 repeat refine And.intro (by first | decide | omega | exact fun _ => by decide | (simp +contextual; done) | kernel_rfl) ?_
 refine cnd_mk (fun h => ?_) (fun h => ?_)
 ·simp only [bO, bc_len, hidL_bc, imL_bc, order2, h, w1, if_true, push_cast, ↓reduceIte, reduceCtorEq, Nat.reduceBEq, reduceEqDiff, reduceAdd, reduceSub, reduceLT, reduceLeDiff, reduceMul]
 ·simp only [bO, bc_len, hidL_bc, imL_bc, order2, h, w1, Bool.false_eq_true, if_false, push_cast, ↓reduceIte, reduceCtorEq, Nat.reduceBEq, reduceEqDiff, reduceAdd, reduceSub, reduceLT, reduceLeDiff, reduceMul]
theorem order2_in {d : Array Int} {a b sw : Nat} : (order2 ltInt d a b sw).2.2 ≤ sw + 1 ∧ ((order2 ltInt d a b sw).1 = a ∧ (order2 ltInt d a b sw).2.1 = b ∨ (order2 ltInt d a b sw).1 = b ∧ (order2 ltInt d a b sw).2.1 = a) := by
 unfold order2
 split <;> simp
theorem median_t (d : Array Int) (a b c sw : Nat) (ha : a < d.size) (hb : b < d.size) (hc : c < d.size) (hn : d.size ≤ 100000) (hs : sw ≤ 100) (m : Nat) :
  Triple Go.Proofs.Tryz.prog 176 [.own 1000000 0 0 d.size, int .i64 a, int .i64 b, int .i64 c, .ptr 1000001 0 0] [bO d m, .box [int .i64 sw]]
   (int .i64 (median ltInt d a b c sw).1) [bO d m, .box [int .i64 (median ltInt d a b c sw).2]] := by
 refine slices_medianOrdered_uint64_triple rfl (by simp) ?_
 have h1 := order2_in (d := d) (a := a) (b := b) (sw := sw)
 have t1 := order2_t d a b sw ha hb hn (by omega) m
 unfold median
 generalize order2 ltInt d a b sw = r1 at *
 obtain ⟨x1, y1, s1⟩ := r1
 simp only at h1 t1 ⊢
 have h2 := order2_in (d := d) (a := y1) (b := c) (sw := s1)
 have t2 := order2_t d y1 c s1 (by rcases h1.2 with h | h <;> omega) hc hn (by omega) m
 generalize order2 ltInt d y1 c s1 = r2 at *
 obtain ⟨x2, y2, s2⟩ := r2
 simp only at h2 t2 ⊢
 have h3 := order2_in (d := d) (a := x1) (b := x2) (sw := s2)
 have t3 := order2_t d x1 x2 s2 (by rcases h1.2 with h | h <;> omega) (by rcases h1.2 with h | h <;> rcases h2.2 with h' | h' <;> omega) hn (by omega) m
 generalize order2 ltInt d x1 x2 s2 = r3 at *
 obtain ⟨x3, y3, s3⟩ := r3
 simp only at h3 t3 ⊢
 have sl : ∀ k k' : Nat, sameLen [bO d m, .box [int .i64 k]] [bO d m, .box [int .i64 k']] := fun k k' => ⟨rfl, rfl, trivial⟩
 simp only [slices_medianOrdered_uint64_pc, bO, bc_len, hidL_bc, imL_bc, List.length_cons, List.length_nil, push_cast, ↓reduceIte, reduceCtorEq, Nat.reduceBEq, reduceEqDiff, reduceAdd, reduceSub, reduceLT, reduceLeDiff, reduceMul]
 refine call_mk t1 rfl (sl _ _) ?_
 simp only [bO, bc_len, hidL_bc, imL_bc, push_cast, ↓reduceIte, reduceCtorEq, Nat.reduceBEq, reduceEqDiff, reduceAdd, reduceSub, reduceLT, reduceLeDiff, reduceMul]
 refine call_mk t2 rfl (sl _ _) ?_
 simp only [bO, bc_len, hidL_bc, imL_bc, push_cast, ↓reduceIte, reduceCtorEq, Nat.reduceBEq, reduceEqDiff, reduceAdd, reduceSub, reduceLT, reduceLeDiff, reduceMul]
 refine call_mk t3 rfl (sl _ _) ?_
 simp only [bO, bc_len, hidL_bc, imL_bc, push_cast, ↓reduceIte, reduceCtorEq, Nat.reduceBEq, reduceEqDiff, reduceAdd, reduceSub, reduceLT, reduceLeDiff, reduceMul]
theorem median_in {d : Array Int} {a b c sw : Nat} : (median ltInt d a b c sw).2 ≤ sw + 3 ∧ ((median ltInt d a b c sw).1 = a ∨ (median ltInt d a b c sw).1 = b ∨ (median ltInt d a b c sw).1 = c) := by
 have h1 := order2_in (d := d) (a := a) (b := b) (sw := sw)
 unfold median
 generalize order2 ltInt d a b sw = r1 at *
 obtain ⟨x1, y1, s1⟩ := r1
 simp only at h1 ⊢
 have h2 := order2_in (d := d) (a := y1) (b := c) (sw := s1)
 generalize order2 ltInt d y1 c s1 = r2 at *
 obtain ⟨x2, y2, s2⟩ := r2
 simp only at h2 ⊢
 have h3 := order2_in (d := d) (a := x1) (b := x2) (sw := s2)
 generalize order2 ltInt d x1 x2 s2 = r3 at *
 obtain ⟨x3, y3, s3⟩ := r3
 simp only at h3 ⊢
 omega
theorem medadj_t (d : Array Int) (a sw : Nat) (ha1 : 1 ≤ a) (ha : a + 1 < d.size) (hn : d.size ≤ 100000) (hs : sw ≤ 100) (m : Nat) :
  Triple Go.Proofs.Tryz.prog 175 [.own 1000000 0 0 d.size, int .i64 a, .ptr 1000001 0 0] [bO d m, .box [int .i64 sw]]
   (int .i64 (medianAdjacent ltInt d a sw).1) [bO d m, .box [int .i64 (medianAdjacent ltInt d a sw).2]] := by
 refine slices_medianAdjacentOrdered_uint64_triple rfl (by simp) ?_
 obtain ⟨q, rfl⟩ : ∃ q, a = q + 1 := ⟨a - 1, by omega⟩
 have w1 : IntKind.i64.wrap ((q : Int) + 1 - 1) = (q : Int) := by rw [wrap_id (by omega)]; omega
 have w2 : IntKind.i64.wrap ((q : Int) + 1 + 1) = (q : Int) + 1 + 1 := wrap_id (by omega)
 have t := median_t d q (q + 1) (q + 1 + 1) sw (by omega) (by omega) (by omega) hn hs m
 have sl : ∀ k k' : Nat, sameLen [bO d m, .box [int .i64 k]] [bO d m, .box [int .i64 k']] := fun k k' => ⟨rfl, rfl, trivial⟩
 simp only [slices_medianAdjacentOrdered_uint64_pc, medianAdjacent, Nat.add_sub_cancel, bO, bc_len, hidL_bc, imL_bc, w1, w2, List.length_cons, List.length_nil, push_cast, ↓reduceIte, reduceCtorEq, Nat.reduceBEq, reduceEqDiff, reduceAdd, reduceSub, reduceLT, reduceLeDiff, reduceMul]
 refine call_as (as' := [.own 1000000 0 0 d.size, int .i64 q, int .i64 (q + 1 : Nat), int .i64 (q + 1 + 1 : Nat), .ptr 1000001 0 0]) rfl ?_
 refine call_mk t rfl (sl _ _) ?_
 simp only [bO, bc_len, hidL_bc, imL_bc, push_cast, ↓reduceIte, reduceCtorEq, Nat.reduceBEq, reduceEqDiff, reduceAdd, reduceSub, reduceLT, reduceLeDiff, reduceMul]

open Go.Sort (swp ltInt order2 median medianAdjacent choosePivot Hint)
def hintN : Hint → Int
 | .unknown => 0
 | .increasing => 1
 | .decreasing => 2
theorem medadj_in {d : Array Int} {a sw : Nat} : (medianAdjacent ltInt d a sw).2 ≤ sw + 3 ∧ ((medianAdjacent ltInt d a sw).1 = a - 1 ∨ (medianAdjacent ltInt d a sw).1 = a ∨ (medianAdjacent ltInt d a sw).1 = a + 1) := by
 unfold medianAdjacent
 exact median_in
set_option maxHeartbeats 2000000 in
theorem pivot_t (d : Array Int) (a b : Nat) (hl : 12 < b - a) (hb : b ≤ d.size) (hn : d.size ≤ 100000) (m : Nat) :
  Triple Go.Proofs.Tryz.prog 153 [.own 1000000 0 0 d.size, int .i64 a, int .i64 b] [bO d m]
   (.tup [int .i64 (choosePivot ltInt d a b).1, int .i64 (hintN (choosePivot ltInt d a b).2)]) [bO d m] := by
 refine slices_choosePivotOrdered_uint64_triple rfl (by simp) ?_
 have sl : ∀ k k' : Nat, sameLen [bO d m, .box [int .i64 k]] [bO d m, .box [int .i64 k']] := fun k k' => ⟨rfl, rfl, trivial⟩
 unfold choosePivot
 obtain ⟨l, hl'⟩ : ∃ l, b - a = l := ⟨_, rfl⟩
 obtain ⟨q, hq⟩ : ∃ q, l / 4 = q := ⟨_, rfl⟩
 obtain ⟨i, hi⟩ : ∃ i, a + q * 1 = i := ⟨_, rfl⟩
 obtain ⟨j, hj⟩ : ∃ j, a + q * 2 = j := ⟨_, rfl⟩
 obtain ⟨k, hk⟩ : ∃ k, a + q * 3 = k := ⟨_, rfl⟩
 have w0 : IntKind.i64.wrap ((b : Int) - a) = (l : Int) := by rw [wrap_id (by omega)]; omega
 have w1 : (l : Int).tdiv 4 = (q : Int) := by rw [Int.tdiv_eq_ediv_of_nonneg (by omega)]; omega
 have w1' : IntKind.i64.wrap (q : Int) = (q : Int) := wrap_id (by omega)
 have w2 : IntKind.i64.wrap ((q : Int) * 1) = (q : Int) * 1 := wrap_id (by omega)
 have w3 : IntKind.i64.wrap ((q : Int) * 2) = (q : Int) * 2 := wrap_id (by omega)
 have w4 : IntKind.i64.wrap ((q : Int) * 3) = (q : Int) * 3 := wrap_id (by omega)
 have w5 : IntKind.i64.wrap ((a : Int) + (q : Int) * 1) = (i : Int) := by rw [wrap_id (by omega)]; omega
 have w6 : IntKind.i64.wrap ((a : Int) + (q : Int) * 2) = (j : Int) := by rw [wrap_id (by omega)]; omega
 have w7 : IntKind.i64.wrap ((a : Int) + (q : Int) * 3) = (k : Int) := by rw [wrap_id (by omega)]; omega
 have c1 : decide ((l : Int) ≥ 8) = true := by simp; omega
 simp only [hl', hq, hi, hj, hk]
 rw [if_pos (show l ≥ 8 by omega)]
 have fin : ∀ (p s : Nat), int .i64 (hintN (if s = 0 then Hint.increasing else if s = 12 then Hint.decreasing else Hint.unknown)) = int .i64 (if s = 0 then 1 else if s = 12 then 2 else 0) := fun p s => by
  split
  ·rfl
  ·split <;> rfl
 simp only [slices_choosePivotOrdered_uint64_pc, bO, bc_len, hidL_bc, imL_bc, w0, w1, w1', w2, w3, w4, w5, w6, w7, c1, List.length_cons, List.length_nil, push_cast, ↓reduceIte, reduceCtorEq, Nat.reduceBEq, reduceEqDiff, reduceAdd, reduceSub, reduceLT, reduceLeDiff, reduceMul]
 repeat refine And.intro (by first | decide | omega | exact fun _ => by decide | (simp +contextual; done) | kernel_rfl) ?_
 by_cases h50 : l ≥ 50
 ·have c2 : decide ((l : Int) ≥ 50) = true := by simp; omega
  rw [if_pos h50]
  simp only [c2, hidL_bc, imL_bc, push_cast, ↓reduceIte, reduceCtorEq, Nat.reduceBEq, reduceEqDiff, reduceAdd, reduceSub, reduceLT, reduceLeDiff, reduceMul]
  have t1 := medadj_t d i 0 (by omega) (by omega) hn (by omega) m
  have b1 := medadj_in (d := d) (a := i) (sw := 0)
  generalize medianAdjacent ltInt d i 0 = r1 at *
  obtain ⟨p1, s1⟩ := r1
  simp only at t1 b1 ⊢
  have lt1 : p1 < d.size := by
   have e1 : i + 1 < d.size := by omega
   obtain ⟨_, h | h | h⟩ := b1 <;> rw [h] <;> omega
  have le1 : s1 ≤ 0 + 3 := b1.1
  clear b1
  refine call_mk t1 rfl (sl 0 _) ?_
  simp only [bO, bc_len, hidL_bc, imL_bc, push_cast, ↓reduceIte, reduceCtorEq, Nat.reduceBEq, reduceEqDiff, reduceAdd, reduceSub, reduceLT, reduceLeDiff, reduceMul]
  have t2 := medadj_t d j s1 (by omega) (by omega) hn (by omega) m
  have b2 := medadj_in (d := d) (a := j) (sw := s1)
  generalize medianAdjacent ltInt d j s1 = r2 at *
  obtain ⟨p2, s2⟩ := r2
  simp only at t2 b2 ⊢
  have lt2 : p2 < d.size := by
   have e1 : j + 1 < d.size := by omega
   obtain ⟨_, h | h | h⟩ := b2 <;> rw [h] <;> omega
  have le2 : s2 ≤ s1 + 3 := b2.1
  clear b2
  refine call_mk t2 rfl (sl _ _) ?_
  simp only [bO, bc_len, hidL_bc, imL_bc, push_cast, ↓reduceIte, reduceCtorEq, Nat.reduceBEq, reduceEqDiff, reduceAdd, reduceSub, reduceLT, reduceLeDiff, reduceMul]
  have t3 := medadj_t d k s2 (by omega) (by omega) hn (by omega) m
  have b3 := medadj_in (d := d) (a := k) (sw := s2)
  generalize medianAdjacent ltInt d k s2 = r3 at *
  obtain ⟨p3, s3⟩ := r3
  simp only at t3 b3 ⊢
  have lt3 : p3 < d.size := by
   have e1 : k + 1 < d.size := by omega
   obtain ⟨_, h | h | h⟩ := b3 <;> rw [h] <;> omega
  have le3 : s3 ≤ s2 + 3 := b3.1
  clear b3
  refine call_mk t3 rfl (sl _ _) ?_
  simp only [bO, bc_len, hidL_bc, imL_bc, push_cast, ↓reduceIte, reduceCtorEq, Nat.reduceBEq, reduceEqDiff, reduceAdd, reduceSub, reduceLT, reduceLeDiff, reduceMul]
  have t4 := median_t d p1 p2 p3 s3 lt1 lt2 lt3 hn (by omega) m
  generalize median ltInt d p1 p2 p3 s3 = r4 at *
  obtain ⟨p4, s4⟩ := r4
  simp only at t4 ⊢
  refine call_mk t4 rfl (sl _ _) ?_
  simp only [bO, bc_len, hidL_bc, imL_bc, push_cast, ↓reduceIte, reduceCtorEq, Nat.reduceBEq, reduceEqDiff, reduceAdd, reduceSub, reduceLT, reduceLeDiff, reduceMul]
  rw [fin p4 s4]
  by_cases e0 : s4 = 0
  ·have g0 : ((s4 : Int) == 0) = true := by simp [e0]
   simp only [g0, if_pos e0, hidL_bc, imL_bc, push_cast, ↓reduceIte, reduceCtorEq, Nat.reduceBEq, reduceEqDiff, reduceAdd, reduceSub, reduceLT, reduceLeDiff, reduceMul]
  ·have g0 : ((s4 : Int) == 0) = false := by simp; omega
   rw [if_neg e0]
   by_cases e1 : s4 = 12
   ·have g1 : ((s4 : Int) == 12) = true := by simp [e1]
    simp only [g0, g1, if_pos e1, hidL_bc, imL_bc, push_cast, ↓reduceIte, reduceCtorEq, Nat.reduceBEq, reduceEqDiff, reduceAdd, reduceSub, reduceLT, reduceLeDiff, reduceMul]
   ·have g1 : ((s4 : Int) == 12) = false := by simp; omega
    simp only [g0, g1, if_neg e1, hidL_bc, imL_bc, push_cast, ↓reduceIte, reduceCtorEq, Nat.reduceBEq, reduceEqDiff, reduceAdd, reduceSub, reduceLT, reduceLeDiff, reduceMul]
 ·have c2 : decide ((l : Int) ≥ 50) = false := by simp; omega
  rw [if_neg h50]
  simp only [c2, hidL_bc, imL_bc, push_cast, ↓reduceIte, reduceCtorEq, Nat.reduceBEq, reduceEqDiff, reduceAdd, reduceSub, reduceLT, reduceLeDiff, reduceMul]
  have t4 := median_t d i j k 0 (by omega) (by omega) (by omega) hn (by omega) m
  generalize median ltInt d i j k 0 = r4 at *
  obtain ⟨p4, s4⟩ := r4
  simp only at t4 ⊢
  refine call_mk t4 rfl (sl 0 _) ?_
  simp only [bO, bc_len, hidL_bc, imL_bc, push_cast, ↓reduceIte, reduceCtorEq, Nat.reduceBEq, reduceEqDiff, reduceAdd, reduceSub, reduceLT, reduceLeDiff, reduceMul]
  rw [fin p4 s4]
  by_cases e0 : s4 = 0
  ·have g0 : ((s4 : Int) == 0) = true := by simp [e0]
   simp only [g0, if_pos e0, hidL_bc, imL_bc, push_cast, ↓reduceIte, reduceCtorEq, Nat.reduceBEq, reduceEqDiff, reduceAdd, reduceSub, reduceLT, reduceLeDiff, reduceMul]
  ·have g0 : ((s4 : Int) == 0) = false := by simp; omega
   rw [if_neg e0]
   by_cases e1 : s4 = 12
   ·have g1 : ((s4 : Int) == 12) = true := by simp [e1]
    simp only [g0, g1, if_pos e1, hidL_bc, imL_bc, push_cast, ↓reduceIte, reduceCtorEq, Nat.reduceBEq, reduceEqDiff, reduceAdd, reduceSub, reduceLT, reduceLeDiff, reduceMul]
   ·have g1 : ((s4 : Int) == 12) = false := by simp; omega
    simp only [g0, g1, if_neg e1, hidL_bc, imL_bc, push_cast, ↓reduceIte, reduceCtorEq, Nat.reduceBEq, reduceEqDiff, reduceAdd, reduceSub, reduceLT, reduceLeDiff, reduceMul]

open Go.Sort (swp ltInt scanUp scanDown partEqLoop partitionEqual partLoop partition)
noncomputable def slices_partitionEqualOrdered_uint64_pc : PC :=
  (.seq (.reg [p_s 8 (.mov (o_i 0))])
 (.seq (.drw [p_m 11 0, p_m 12 1, p_m 13 0, p_m 14 3, p_m 15 0, p_m 16 3, p_s 17 (.ia 1 (.v (.int .u64 0)) (.t 15) (.t 16)), p_s 18 (.ld none (.t 17)), p_m 19 0, p_m 20 1, p_s 21 (.ia 1 (.v (.int .u64 0)) (.t 19) (.t 20)),
 p_s 22 (.ld none (.t 21)), p_s 23 (.ia 1 (.v (.int .u64 0)) (.t 11) (.t 12)), ⟨none, none, 0, .act (.st 1 (.t 23) (.t 18))⟩, p_s 24 (.ia 1 (.v (.int .u64 0)) (.t 13) (.t 14)),
 ⟨none, none, 0, .act (.st 1 (.t 24) (.t 22))⟩]
 [[], [], [], [], [], [], [4, 5], [4, 5, 6], [], [], [8, 9], [8, 9, 10], [0, 1, 4, 5, 6, 7, 8, 9, 10, 11], [0, 1, 4, 5, 6, 7, 8, 9, 10, 11, 12], [0, 1, 2, 3, 4, 5, 6, 7, 8, 9, 10, 11, 12, 13], [0, 1, 2, 3, 4, 5, 6, 7, 8, 9, 10, 11, 12, 13, 14]])
 (.seq (.reg [p_m 25 1, p_s 26 (.bin .add (.t 25) (o_i 1)), p_m 27 2, p_s 28 (.bin .sub (.t 27) (o_i 1)), p_m 9 26, p_m 10 28])
 (.seq (.block 0 (.loop (.block 1 (.seq (.block 2 (.loop (.seq (.seq (.drw [p_m 29 9, p_m 30 10, p_s 31 (.bin .leq (.t 29) (.t 30)), p_m 32 31, p_g 33 32 true (.mov (.t 0)), p_g 34 32 true (.mov (.t 1)), p_g 35 32 true (.ia 1 (.v (.int .u64 0)) (.t 33) (.t 34)),
 p_g 36 32 true (.ld none (.t 35)), p_g 37 32 true (.mov (.t 0)), p_g 38 32 true (.mov (.t 9)), p_g 39 32 true (.ia 1 (.v (.int .u64 0)) (.t 37) (.t 38)), p_g 40 32 true (.ld none (.t 39)),
 ⟨(some 41), (some (32, true)), 1, .call 156 [(.t 36), (.t 40)]⟩, p_g 42 32 true (.un .not (.t 41)), p_s 43 (.pick (.t 32) (.t 42) (.c (.r (.v (.bool false)))))]
 [[], [], [0, 1], [0, 1, 2], [0, 1, 2, 3], [0, 1, 2, 3], [0, 1, 2, 3, 4, 5], [0, 1, 2, 3, 4, 5, 6], [0, 1, 2, 3], [0, 1, 2, 3], [0, 1, 2, 3, 8, 9], [0, 1, 2, 3, 8, 9, 10], [0, 1, 2, 3, 4, 5, 6, 7, 8, 9, 10, 11], [0, 1, 2, 3, 4, 5, 6, 7, 8, 9, 10, 11, 12], [0, 1, 2, 3, 4, 5, 6, 7, 8, 9, 10, 11, 12, 13]])
 (.cond (.t 43)
 .skip
 (.exit 2)))
 (.block 3 (.reg [p_m 44 9, p_s 45 (.bin .add (.t 44) (o_i 1)), p_m 9 45])))))
 (.seq (.block 4 (.loop (.seq (.seq (.drw [p_m 46 9, p_m 47 10, p_s 48 (.bin .leq (.t 46) (.t 47)), p_m 49 48, p_g 50 49 true (.mov (.t 0)), p_g 51 49 true (.mov (.t 1)), p_g 52 49 true (.ia 1 (.v (.int .u64 0)) (.t 50) (.t 51)),
 p_g 53 49 true (.ld none (.t 52)), p_g 54 49 true (.mov (.t 0)), p_g 55 49 true (.mov (.t 10)), p_g 56 49 true (.ia 1 (.v (.int .u64 0)) (.t 54) (.t 55)), p_g 57 49 true (.ld none (.t 56)),
 ⟨(some 58), (some (49, true)), 2, .call 156 [(.t 53), (.t 57)]⟩, p_s 59 (.pick (.t 49) (.t 58) (.c (.r (.v (.bool false)))))]
 [[], [], [0, 1], [0, 1, 2], [0, 1, 2, 3], [0, 1, 2, 3], [0, 1, 2, 3, 4, 5], [0, 1, 2, 3, 4, 5, 6], [0, 1, 2, 3], [0, 1, 2, 3], [0, 1, 2, 3, 8, 9], [0, 1, 2, 3, 8, 9, 10], [0, 1, 2, 3, 4, 5, 6, 7, 8, 9, 10, 11], [0, 1, 2, 3, 4, 5, 6, 7, 8, 9, 10, 11, 12]])
 (.cond (.t 59)
 .skip
 (.exit 4)))
 (.block 5 (.reg [p_m 60 10, p_s 61 (.bin .sub (.t 60) (o_i 1)), p_m 10 61])))))
 (.seq (.seq (.reg [p_m 62 9, p_m 63 10, p_s 64 (.bin .gtr (.t 62) (.t 63))])
 (.cond (.t 64)
 (.exit 0)
 .skip))
 (.seq (.drw [p_m 65 0, p_m 66 9, p_m 67 0, p_m 68 10, p_m 69 0, p_m 70 10, p_s 71 (.ia 1 (.v (.int .u64 0)) (.t 69) (.t 70)), p_s 72 (.ld none (.t 71)), p_m 73 0, p_m 74 9, p_s 75 (.ia 1 (.v (.int .u64 0)) (.t 73) (.t 74)),
 p_s 76 (.ld none (.t 75)), p_s 77 (.ia 1 (.v (.int .u64 0)) (.t 65) (.t 66)), ⟨none, none, 0, .act (.st 1 (.t 77) (.t 72))⟩, p_s 78 (.ia 1 (.v (.int .u64 0)) (.t 67) (.t 68)),
 ⟨none, none, 0, .act (.st 1 (.t 78) (.t 76))⟩]
 [[], [], [], [], [], [], [4, 5], [4, 5, 6], [], [], [8, 9], [8, 9, 10], [0, 1, 4, 5, 6, 7, 8, 9, 10, 11], [0, 1, 4, 5, 6, 7, 8, 9, 10, 11, 12], [0, 1, 2, 3, 4, 5, 6, 7, 8, 9, 10, 11, 12, 13], [0, 1, 2, 3, 4, 5, 6, 7, 8, 9, 10, 11, 12, 13, 14]])
 (.seq (.reg [p_m 79 9, p_s 80 (.bin .add (.t 79) (o_i 1)), p_m 9 80])
 (.reg [p_m 81 10, p_s 82 (.bin .sub (.t 81) (o_i 1)), p_m 10 82])))))))))
 (.seq (.reg [p_m 83 9, p_m 8 83])
 .ret)))))
theorem slices_partitionEqualOrdered_uint64_triple : Fun Go.Proofs.Tryz.prog 157 4 [(8, false, none)] slices_partitionEqualOrdered_uint64_pc := fun_mk Go.Proofs.Tryz.func157 rfl (by decide) (by kernel_rfl) (by decide) rfl (by kernel_rfl) (by kernel_rfl) (by decide)
noncomputable def slices_partitionOrdered_uint64_pc : PC :=
  (.seq (.reg [p_s 8 (.mov (o_i 0)), p_s 9 (.mov (.c (.r (.v (.bool false)))))])
 (.seq (.drw [p_m 12 0, p_m 13 1, p_m 14 0, p_m 15 3, p_m 16 0, p_m 17 3, p_s 18 (.ia 1 (.v (.int .u64 0)) (.t 16) (.t 17)), p_s 19 (.ld none (.t 18)), p_m 20 0, p_m 21 1, p_s 22 (.ia 1 (.v (.int .u64 0)) (.t 20) (.t 21)),
 p_s 23 (.ld none (.t 22)), p_s 24 (.ia 1 (.v (.int .u64 0)) (.t 12) (.t 13)), ⟨none, none, 0, .act (.st 1 (.t 24) (.t 19))⟩, p_s 25 (.ia 1 (.v (.int .u64 0)) (.t 14) (.t 15)),
 ⟨none, none, 0, .act (.st 1 (.t 25) (.t 23))⟩]
 [[], [], [], [], [], [], [4, 5], [4, 5, 6], [], [], [8, 9], [8, 9, 10], [0, 1, 4, 5, 6, 7, 8, 9, 10, 11], [0, 1, 4, 5, 6, 7, 8, 9, 10, 11, 12], [0, 1, 2, 3, 4, 5, 6, 7, 8, 9, 10, 11, 12, 13], [0, 1, 2, 3, 4, 5, 6, 7, 8, 9, 10, 11, 12, 13, 14]])
 (.seq (.reg [p_m 26 1, p_s 27 (.bin .add (.t 26) (o_i 1)), p_m 28 2, p_s 29 (.bin .sub (.t 28) (o_i 1)), p_m 10 27, p_m 11 29])
 (.seq (.block 0 (.loop (.seq (.seq (.drw [p_m 30 10, p_m 31 11, p_s 32 (.bin .leq (.t 30) (.t 31)), p_m 33 32, p_g 34 33 true (.mov (.t 0)), p_g 35 33 true (.mov (.t 10)), p_g 36 33 true (.ia 1 (.v (.int .u64 0)) (.t 34) (.t 35)),
 p_g 37 33 true (.ld none (.t 36)), p_g 38 33 true (.mov (.t 0)), p_g 39 33 true (.mov (.t 1)), p_g 40 33 true (.ia 1 (.v (.int .u64 0)) (.t 38) (.t 39)), p_g 41 33 true (.ld none (.t 40)),
 ⟨(some 42), (some (33, true)), 1, .call 156 [(.t 37), (.t 41)]⟩, p_s 43 (.pick (.t 33) (.t 42) (.c (.r (.v (.bool false)))))]
 [[], [], [0, 1], [0, 1, 2], [0, 1, 2, 3], [0, 1, 2, 3], [0, 1, 2, 3, 4, 5], [0, 1, 2, 3, 4, 5, 6], [0, 1, 2, 3], [0, 1, 2, 3], [0, 1, 2, 3, 8, 9], [0, 1, 2, 3, 8, 9, 10], [0, 1, 2, 3, 4, 5, 6, 7, 8, 9, 10, 11], [0, 1, 2, 3, 4, 5, 6, 7, 8, 9, 10, 11, 12]])
 (.cond (.t 43)
 .skip
 (.exit 0)))
 (.block 1 (.reg [p_m 44 10, p_s 45 (.bin .add (.t 44) (o_i 1)), p_m 10 45])))))
 (.seq (.block 2 (.loop (.seq (.seq (.drw [p_m 46 10, p_m 47 11, p_s 48 (.bin .leq (.t 46) (.t 47)), p_m 49 48, p_g 50 49 true (.mov (.t 0)), p_g 51 49 true (.mov (.t 11)), p_g 52 49 true (.ia 1 (.v (.int .u64 0)) (.t 50) (.t 51)),
 p_g 53 49 true (.ld none (.t 52)), p_g 54 49 true (.mov (.t 0)), p_g 55 49 true (.mov (.t 1)), p_g 56 49 true (.ia 1 (.v (.int .u64 0)) (.t 54) (.t 55)), p_g 57 49 true (.ld none (.t 56)),
 ⟨(some 58), (some (49, true)), 2, .call 156 [(.t 53), (.t 57)]⟩, p_g 59 49 true (.un .not (.t 58)), p_s 60 (.pick (.t 49) (.t 59) (.c (.r (.v (.bool false)))))]
 [[], [], [0, 1], [0, 1, 2], [0, 1, 2, 3], [0, 1, 2, 3], [0, 1, 2, 3, 4, 5], [0, 1, 2, 3, 4, 5, 6], [0, 1, 2, 3], [0, 1, 2, 3], [0, 1, 2, 3, 8, 9], [0, 1, 2, 3, 8, 9, 10], [0, 1, 2, 3, 4, 5, 6, 7, 8, 9, 10, 11], [0, 1, 2, 3, 4, 5, 6, 7, 8, 9, 10, 11, 12], [0, 1, 2, 3, 4, 5, 6, 7, 8, 9, 10, 11, 12, 13]])
 (.cond (.t 60)
 .skip
 (.exit 2)))
 (.block 3 (.reg [p_m 61 11, p_s 62 (.bin .sub (.t 61) (o_i 1)), p_m 11 62])))))
 (.seq (.seq (.reg [p_m 63 10, p_m 64 11, p_s 65 (.bin .gtr (.t 63) (.t 64))])
 (.cond (.t 65)
 (.seq (.drw [p_m 66 0, p_m 67 11, p_m 68 0, p_m 69 1, p_m 70 0, p_m 71 1, p_s 72 (.ia 1 (.v (.int .u64 0)) (.t 70) (.t 71)), p_s 73 (.ld none (.t 72)), p_m 74 0, p_m 75 11, p_s 76 (.ia 1 (.v (.int .u64 0)) (.t 74) (.t 75)),
 p_s 77 (.ld none (.t 76)), p_s 78 (.ia 1 (.v (.int .u64 0)) (.t 66) (.t 67)), ⟨none, none, 0, .act (.st 1 (.t 78) (.t 73))⟩, p_s 79 (.ia 1 (.v (.int .u64 0)) (.t 68) (.t 69)),
 ⟨none, none, 0, .act (.st 1 (.t 79) (.t 77))⟩]
 [[], [], [], [], [], [], [4, 5], [4, 5, 6], [], [], [8, 9], [8, 9, 10], [0, 1, 4, 5, 6, 7, 8, 9, 10, 11], [0, 1, 4, 5, 6, 7, 8, 9, 10, 11, 12], [0, 1, 2, 3, 4, 5, 6, 7, 8, 9, 10, 11, 12, 13], [0, 1, 2, 3, 4, 5, 6, 7, 8, 9, 10, 11, 12, 13, 14]])
 (.seq (.reg [p_m 80 11, p_m 8 80, p_s 9 (.mov (.c (.r (.v (.bool true)))))])
 .ret))
 .skip))
 (.seq (.drw [p_m 81 0, p_m 82 10, p_m 83 0, p_m 84 11, p_m 85 0, p_m 86 11, p_s 87 (.ia 1 (.v (.int .u64 0)) (.t 85) (.t 86)), p_s 88 (.ld none (.t 87)), p_m 89 0, p_m 90 10,
 p_s 91 (.ia 1 (.v (.int .u64 0)) (.t 89) (.t 90)), p_s 92 (.ld none (.t 91)), p_s 93 (.ia 1 (.v (.int .u64 0)) (.t 81) (.t 82)), ⟨none, none, 0, .act (.st 1 (.t 93) (.t 88))⟩,
 p_s 94 (.ia 1 (.v (.int .u64 0)) (.t 83) (.t 84)), ⟨none, none, 0, .act (.st 1 (.t 94) (.t 92))⟩]
 [[], [], [], [], [], [], [4, 5], [4, 5, 6], [], [], [8, 9], [8, 9, 10], [0, 1, 4, 5, 6, 7, 8, 9, 10, 11], [0, 1, 4, 5, 6, 7, 8, 9, 10, 11, 12], [0, 1, 2, 3, 4, 5, 6, 7, 8, 9, 10, 11, 12, 13], [0, 1, 2, 3, 4, 5, 6, 7, 8, 9, 10, 11, 12, 13, 14]])
 (.seq (.reg [p_m 95 10, p_s 96 (.bin .add (.t 95) (o_i 1)), p_m 10 96])
 (.seq (.reg [p_m 97 11, p_s 98 (.bin .sub (.t 97) (o_i 1)), p_m 11 98])
 (.seq (.block 4 (.loop (.block 5 (.seq (.block 6 (.loop (.seq (.seq (.drw [p_m 99 10, p_m 100 11, p_s 101 (.bin .leq (.t 99) (.t 100)), p_m 102 101, p_g 103 102 true (.mov (.t 0)), p_g 104 102 true (.mov (.t 10)), p_g 105 102 true (.ia 1 (.v (.int .u64 0)) (.t 103) (.t 104)),
 p_g 106 102 true (.ld none (.t 105)), p_g 107 102 true (.mov (.t 0)), p_g 108 102 true (.mov (.t 1)), p_g 109 102 true (.ia 1 (.v (.int .u64 0)) (.t 107) (.t 108)),
 p_g 110 102 true (.ld none (.t 109)), ⟨(some 111), (some (102, true)), 3, .call 156 [(.t 106), (.t 110)]⟩, p_s 112 (.pick (.t 102) (.t 111) (.c (.r (.v (.bool false)))))]
 [[], [], [0, 1], [0, 1, 2], [0, 1, 2, 3], [0, 1, 2, 3], [0, 1, 2, 3, 4, 5], [0, 1, 2, 3, 4, 5, 6], [0, 1, 2, 3], [0, 1, 2, 3], [0, 1, 2, 3, 8, 9], [0, 1, 2, 3, 8, 9, 10], [0, 1, 2, 3, 4, 5, 6, 7, 8, 9, 10, 11], [0, 1, 2, 3, 4, 5, 6, 7, 8, 9, 10, 11, 12]])
 (.cond (.t 112)
 .skip
 (.exit 6)))
 (.block 7 (.reg [p_m 113 10, p_s 114 (.bin .add (.t 113) (o_i 1)), p_m 10 114])))))
 (.seq (.block 8 (.loop (.seq (.seq (.drw [p_m 115 10, p_m 116 11, p_s 117 (.bin .leq (.t 115) (.t 116)), p_m 118 117, p_g 119 118 true (.mov (.t 0)), p_g 120 118 true (.mov (.t 11)), p_g 121 118 true (.ia 1 (.v (.int .u64 0)) (.t 119) (.t 120)),
 p_g 122 118 true (.ld none (.t 121)), p_g 123 118 true (.mov (.t 0)), p_g 124 118 true (.mov (.t 1)), p_g 125 118 true (.ia 1 (.v (.int .u64 0)) (.t 123) (.t 124)),
 p_g 126 118 true (.ld none (.t 125)), ⟨(some 127), (some (118, true)), 4, .call 156 [(.t 122), (.t 126)]⟩, p_g 128 118 true (.un .not (.t 127)), p_s 129 (.pick (.t 118) (.t 128) (.c (.r (.v (.bool false)))))]
 [[], [], [0, 1], [0, 1, 2], [0, 1, 2, 3], [0, 1, 2, 3], [0, 1, 2, 3, 4, 5], [0, 1, 2, 3, 4, 5, 6], [0, 1, 2, 3], [0, 1, 2, 3], [0, 1, 2, 3, 8, 9], [0, 1, 2, 3, 8, 9, 10], [0, 1, 2, 3, 4, 5, 6, 7, 8, 9, 10, 11], [0, 1, 2, 3, 4, 5, 6, 7, 8, 9, 10, 11, 12], [0, 1, 2, 3, 4, 5, 6, 7, 8, 9, 10, 11, 12, 13]])
 (.cond (.t 129)
 .skip
 (.exit 8)))
 (.block 9 (.reg [p_m 130 11, p_s 131 (.bin .sub (.t 130) (o_i 1)), p_m 11 131])))))
 (.seq (.seq (.reg [p_m 132 10, p_m 133 11, p_s 134 (.bin .gtr (.t 132) (.t 133))])
 (.cond (.t 134)
 (.exit 4)
 .skip))
 (.seq (.drw [p_m 135 0, p_m 136 10, p_m 137 0, p_m 138 11, p_m 139 0, p_m 140 11, p_s 141 (.ia 1 (.v (.int .u64 0)) (.t 139) (.t 140)), p_s 142 (.ld none (.t 141)), p_m 143 0,
 p_m 144 10, p_s 145 (.ia 1 (.v (.int .u64 0)) (.t 143) (.t 144)), p_s 146 (.ld none (.t 145)), p_s 147 (.ia 1 (.v (.int .u64 0)) (.t 135) (.t 136)), ⟨none, none, 0, .act (.st 1 (.t 147) (.t 142))⟩,
 p_s 148 (.ia 1 (.v (.int .u64 0)) (.t 137) (.t 138)), ⟨none, none, 0, .act (.st 1 (.t 148) (.t 146))⟩]
 [[], [], [], [], [], [], [4, 5], [4, 5, 6], [], [], [8, 9], [8, 9, 10], [0, 1, 4, 5, 6, 7, 8, 9, 10, 11], [0, 1, 4, 5, 6, 7, 8, 9, 10, 11, 12], [0, 1, 2, 3, 4, 5, 6, 7, 8, 9, 10, 11, 12, 13], [0, 1, 2, 3, 4, 5, 6, 7, 8, 9, 10, 11, 12, 13, 14]])
 (.seq (.reg [p_m 149 10, p_s 150 (.bin .add (.t 149) (o_i 1)), p_m 10 150])
 (.reg [p_m 151 11, p_s 152 (.bin .sub (.t 151) (o_i 1)), p_m 11 152])))))))))
 (.seq (.drw [p_m 153 0, p_m 154 11, p_m 155 0, p_m 156 1, p_m 157 0, p_m 158 1, p_s 159 (.ia 1 (.v (.int .u64 0)) (.t 157) (.t 158)), p_s 160 (.ld none (.t 159)), p_m 161 0,
 p_m 162 11, p_s 163 (.ia 1 (.v (.int .u64 0)) (.t 161) (.t 162)), p_s 164 (.ld none (.t 163)), p_s 165 (.ia 1 (.v (.int .u64 0)) (.t 153) (.t 154)), ⟨none, none, 0, .act (.st 1 (.t 165) (.t 160))⟩,
 p_s 166 (.ia 1 (.v (.int .u64 0)) (.t 155) (.t 156)), ⟨none, none, 0, .act (.st 1 (.t 166) (.t 164))⟩]
 [[], [], [], [], [], [], [4, 5], [4, 5, 6], [], [], [8, 9], [8, 9, 10], [0, 1, 4, 5, 6, 7, 8, 9, 10, 11], [0, 1, 4, 5, 6, 7, 8, 9, 10, 11, 12], [0, 1, 2, 3, 4, 5, 6, 7, 8, 9, 10, 11, 12, 13], [0, 1, 2, 3, 4, 5, 6, 7, 8, 9, 10, 11, 12, 13, 14]])
 (.seq (.reg [p_m 167 11, p_m 8 167, p_s 9 (.mov (.c (.r (.v (.bool false)))))])
 .ret))))))))))))
theorem slices_partitionOrdered_uint64_triple : Fun Go.Proofs.Tryz.prog 158 4 [(8, false, none), (9, false, none)] slices_partitionOrdered_uint64_pc := fun_mk Go.Proofs.Tryz.func158 rfl (by decide) (by kernel_rfl) (by decide) rfl (by kernel_rfl) (by kernel_rfl) (by decide)
theorem parteq_eq {a i j i2 j2 : Nat} {e : Array Int} (hU : scanUp (fun x => !ltInt e[a]! x) e j i = i2) (hW : scanDown (fun x => ltInt e[a]! x) e i2 j = j2) (h1 : i ≤ i2) (h2 : j2 ≤ j) (h3 : 1 ≤ i) :
  partEqLoop ltInt a i j e = if i2 > j2 then (i2, e) else partEqLoop ltInt a (i2 + 1) (j2 - 1) (swp e i2 j2) := by
 rw [partEqLoop]
 simp only [hU, hW]
 split
 ·rfl
 ·rw [dif_pos (by omega)]
set_option maxHeartbeats 1000000 in
theorem parteq_t (d : Array Int) (a b pv : Nat) (hab : a < b) (hb : b ≤ d.size) (hp : pv < d.size) (hn : d.size ≤ 100000) (m : Nat) :
  Triple Go.Proofs.Tryz.prog 157 [.own 1000000 0 0 d.size, int .i64 a, int .i64 b, int .i64 pv] [bO d m] (int .i64 (partitionEqual ltInt d a b pv).1) [bO (partitionEqual ltInt d a b pv).2 m] := by
 refine slices_partitionEqualOrdered_uint64_triple rfl (by simp) ?_
 have ha : a < d.size := by omega
 have hp2 : pv < (d.setIfInBounds a d[pv]!).size := by simpa using hp
 have w1 : IntKind.i64.wrap ((a : Int) + 1) = (a : Int) + 1 := wrap_id (by omega)
 obtain ⟨b1, hb1⟩ : ∃ b1, b - 1 = b1 := ⟨_, rfl⟩
 have w2 : IntKind.i64.wrap ((b : Int) - 1) = (b1 : Int) := by rw [wrap_id (by omega)]; omega
 simp only [slices_partitionEqualOrdered_uint64_pc, bO, bc_len, hidL_bc, imL_bc, w1, w2, bu_get (m := m) ha, bu_get (m := m) hp, bu_get (m := m) hp2, bu_set (m := m) ha, bu_set (m := m) hp2, List.length_cons, List.length_nil, Int.toNat_natCast, Int.toNat_natCast_add_one, Nat.zero_add, push_cast, ↓reduceIte, reduceCtorEq, Nat.reduceBEq, reduceEqDiff, reduceAdd, reduceSub, reduceLT, reduceLeDiff, reduceMul]
 repeat refine And.intro (by first | decide | omega | exact fun _ => by decide | (simp +contextual; done) | kernel_rfl) ?_
 rw [show (d.setIfInBounds a d[pv]!).setIfInBounds pv d[a]! = swp d a pv from rfl]
 have hD : partitionEqual ltInt d a b pv = partEqLoop ltInt a (a + 1) b1 (swp d a pv) := by rw [partitionEqual, hb1]
 rw [hD]
 have hsz := swp_size d a pv
 generalize hN : d.size = n at *
 generalize hR : partEqLoop ltInt a (a + 1) b1 (swp d a pv) = R
 refine run_loop [(9, false), (10, false), (0, false), (1, false)] (fun vs pos los => ∃ (i j : Nat) (e : Array Int), 1 ≤ i ∧ i ≤ j + 2 ∧ j < n ∧ e.size = n ∧ R = partEqLoop ltInt a i j e ∧ vs = [int .i64 i, int .i64 j, .own 1000000 0 0 n, int .i64 a] ∧ pos = [bO e m] ∧ los = [])
  (fun vs _ _ => match vs with | .r (.v (.int _ i)) :: .r (.v (.int _ j)) :: _ => (j + 1 - i).toNat | _ => 0) rfl ?_ ?_
 ·simp only [bO, hidL_bc, imL_bc, push_cast, ↓reduceIte, reduceCtorEq, Nat.reduceBEq, reduceEqDiff, reduceAdd, reduceSub, reduceLT, reduceLeDiff, reduceMul]
  exact ⟨a + 1, b1, swp d a pv, by omega, by omega, by omega, hsz, hR.symm, (by first | rfl | exact ⟨rfl, rfl⟩ | exact ⟨rfl, rfl, rfl⟩)⟩
 ·rintro vs pos los ⟨i, j, e, hi1, hij, hj, he, hE, rfl, rfl, rfl⟩
  have hae : a < e.size := by omega
  simp only [bO, hidL_bc, imL_bc, bc_len, push_cast, ↓reduceIte, reduceCtorEq, Nat.reduceBEq, reduceEqDiff, reduceAdd, reduceSub, reduceLT, reduceLeDiff, reduceMul]
  refine run_loop [(9, false), (10, false), (0, false), (1, false)] (fun vs pos los => ∃ i' : Nat, i ≤ i' ∧ i' ≤ j + 2 ∧ scanUp (fun x => !ltInt e[a]! x) e j i = scanUp (fun x => !ltInt e[a]! x) e j i' ∧ vs = [int .i64 i', int .i64 j, .own 1000000 0 0 n, int .i64 a] ∧ pos = [bO e m] ∧ los = [])
   (fun vs _ _ => match vs with | .r (.v (.int _ i)) :: _ => (j + 1 - i).toNat | _ => 0) rfl ?_ ?_
  ·simp only [bO, hidL_bc, imL_bc, push_cast, ↓reduceIte, reduceCtorEq, Nat.reduceBEq, reduceEqDiff, reduceAdd, reduceSub, reduceLT, reduceLeDiff, reduceMul]
   exact ⟨i, by omega, by omega, rfl, (by first | rfl | exact ⟨rfl, rfl⟩ | exact ⟨rfl, rfl, rfl⟩)⟩
  ·rintro vs pos los ⟨i2, h1, h2, hU, rfl, rfl, rfl⟩
   have w3 : IntKind.i64.wrap ((i2 : Int) + 1) = (i2 : Int) + 1 := wrap_id (by omega)
   by_cases hij2 : i2 ≤ j
   ·have g0 : decide ((i2 : Int) ≤ j) = true := by simp; omega
    have hi2 : i2 < e.size := by omega
    simp only [bO, bc_len, hidL_bc, imL_bc, g0, w3, bu_get (m := m) hae, bu_get (m := m) hi2, Int.toNat_natCast, Int.toNat_natCast_add_one, Nat.zero_add, push_cast, ↓reduceIte, reduceCtorEq, Nat.reduceBEq, reduceEqDiff, reduceAdd, reduceSub, reduceLT, reduceLeDiff, reduceMul]
    repeat refine And.intro (by first | decide | omega | exact fun _ => by decide | (simp +contextual; done) | kernel_rfl) ?_
    refine dcall_mk (lt_t e[a]! e[i2]!) rfl trivial ?_
    simp only [bO, bc_len, hidL_bc, imL_bc, g0, w3, bu_get (m := m) hae, bu_get (m := m) hi2, Int.toNat_natCast, Int.toNat_natCast_add_one, Nat.zero_add, push_cast, ↓reduceIte, reduceCtorEq, Nat.reduceBEq, reduceEqDiff, reduceAdd, reduceSub, reduceLT, reduceLeDiff, reduceMul]
    repeat refine And.intro (by first | decide | omega | exact fun _ => by decide | (simp +contextual; done) | kernel_rfl) ?_
    refine cnd_mk (fun hc => ?_) (fun hc => ?_)
    ·simp only [bO, bc_len, hidL_bc, imL_bc, g0, w3, push_cast, ↓reduceIte, reduceCtorEq, Nat.reduceBEq, reduceEqDiff, reduceAdd, reduceSub, reduceLT, reduceLeDiff, reduceMul]
     refine ⟨⟨i2 + 1, by omega, by omega, ?_, (by first | rfl | exact ⟨rfl, rfl⟩ | exact ⟨rfl, rfl, rfl⟩)⟩, by omega⟩
     rw [hU, scanUp, if_pos (by simp [hij2]; simpa using hc)]
    ·have hUe : scanUp (fun x => !ltInt e[a]! x) e j i = i2 := by rw [hU, scanUp, if_neg (by simp; intro _; simpa using hc)]
     simp only [bO, bc_len, hidL_bc, imL_bc, push_cast, ↓reduceIte, reduceCtorEq, Nat.reduceBEq, reduceEqDiff, reduceAdd, reduceSub, reduceLT, reduceLeDiff, reduceMul]
     refine run_loop [(9, false), (10, false), (0, false), (1, false)] (fun vs pos los => ∃ j' : Nat, j' ≤ j ∧ i2 ≤ j' + 2 ∧ scanDown (fun x => ltInt e[a]! x) e i2 j = scanDown (fun x => ltInt e[a]! x) e i2 j' ∧ vs = [int .i64 i2, int .i64 j', .own 1000000 0 0 n, int .i64 a] ∧ pos = [bO e m] ∧ los = [])
      (fun vs _ _ => match vs with | _ :: .r (.v (.int _ j)) :: _ => j.toNat | _ => 0) rfl ?_ ?_
     ·simp only [bO, hidL_bc, imL_bc, push_cast, ↓reduceIte, reduceCtorEq, Nat.reduceBEq, reduceEqDiff, reduceAdd, reduceSub, reduceLT, reduceLeDiff, reduceMul]
      exact ⟨j, by omega, by omega, rfl, (by first | rfl | exact ⟨rfl, rfl⟩ | exact ⟨rfl, rfl, rfl⟩)⟩
     ·rintro vs pos los ⟨j2, g1, g2, hW, rfl, rfl, rfl⟩
      by_cases hij3 : i2 ≤ j2
      ·obtain ⟨k, rfl⟩ : ∃ k, j2 = k + 1 := ⟨j2 - 1, by omega⟩
       have g0 : decide ((i2 : Int) ≤ (k : Int) + 1) = true := by simp; omega
       have g3 : decide ((i2 : Int) > (k : Int) + 1) = false := by simp; omega
       have wk : IntKind.i64.wrap ((k : Int) + 1 - 1) = (k : Int) := by rw [wrap_id (by omega)]; omega
       have hk : k + 1 < e.size := by omega
       have hi2 : i2 < e.size := by omega
       simp only [bO, bc_len, hidL_bc, imL_bc, g0, wk, bu_get (m := m) hae, bu_get (m := m) hk, Int.toNat_natCast, Int.toNat_natCast_add_one, Nat.zero_add, push_cast, ↓reduceIte, reduceCtorEq, Nat.reduceBEq, reduceEqDiff, reduceAdd, reduceSub, reduceLT, reduceLeDiff, reduceMul]
       repeat refine And.intro (by first | decide | omega | exact fun _ => by decide | (simp +contextual; done) | kernel_rfl) ?_
       refine dcall_mk (lt_t e[a]! e[k + 1]!) rfl trivial ?_
       simp only [bO, bc_len, hidL_bc, imL_bc, g0, wk, bu_get (m := m) hae, bu_get (m := m) hk, Int.toNat_natCast, Int.toNat_natCast_add_one, Nat.zero_add, push_cast, ↓reduceIte, reduceCtorEq, Nat.reduceBEq, reduceEqDiff, reduceAdd, reduceSub, reduceLT, reduceLeDiff, reduceMul]
       repeat refine And.intro (by first | decide | omega | exact fun _ => by decide | (simp +contextual; done) | kernel_rfl) ?_
       refine cnd_mk (fun hc => ?_) (fun hc => ?_)
       ·simp only [bO, bc_len, hidL_bc, imL_bc, g0, wk, push_cast, ↓reduceIte, reduceCtorEq, Nat.reduceBEq, reduceEqDiff, reduceAdd, reduceSub, reduceLT, reduceLeDiff, reduceMul]
        refine ⟨⟨k, by omega, by omega, ?_, (by first | rfl | exact ⟨rfl, rfl⟩ | exact ⟨rfl, rfl, rfl⟩)⟩, by omega⟩
        rw [hW, scanDown, if_pos (by simp [hij3, hc])]
       ·have hWe : scanDown (fun x => ltInt e[a]! x) e i2 j = k + 1 := by rw [hW, scanDown, if_neg (by simp [hc])]
        have hq := parteq_eq hUe hWe h1 g1 hi1
        rw [if_neg (by omega)] at hq
        have hk2 : k + 1 < (e.setIfInBounds i2 e[k + 1]!).size := by simpa using hk
        simp only [bO, bc_len, hidL_bc, imL_bc, g3, wk, w3, bu_get (m := m) hi2, bu_get (m := m) hk, bu_get (m := m) hk2, bu_set (m := m) hi2, bu_set (m := m) hk2, Int.toNat_natCast, Int.toNat_natCast_add_one, Nat.zero_add, push_cast, ↓reduceIte, reduceCtorEq, Nat.reduceBEq, reduceEqDiff, reduceAdd, reduceSub, reduceLT, reduceLeDiff, reduceMul]
        repeat refine And.intro (by first | decide | omega | exact fun _ => by decide | (simp +contextual; done) | kernel_rfl) ?_
        refine ⟨⟨i2 + 1, k, swp e i2 (k + 1), by omega, by omega, by omega, by rw [swp_size]; exact he, by rw [hE, hq]; rfl, (by first | rfl | exact ⟨rfl, rfl⟩ | exact ⟨rfl, rfl, rfl⟩)⟩, by omega⟩
      ·have g0 : decide ((i2 : Int) ≤ j2) = false := by simp; omega
       have g3 : decide ((i2 : Int) > j2) = true := by simp; omega
       have hWe : scanDown (fun x => ltInt e[a]! x) e i2 j = j2 := by
        rw [hW]
        cases j2 with
        | zero => rfl
        | succ k => rw [scanDown, if_neg (by simp; omega)]
       have hq := parteq_eq hUe hWe h1 g1 hi1
       rw [if_pos (by omega)] at hq
       simp only [bO, bc_len, hidL_bc, imL_bc, g0, push_cast, ↓reduceIte, reduceCtorEq, Nat.reduceBEq, reduceEqDiff, reduceAdd, reduceSub, reduceLT, reduceLeDiff, reduceMul]
       repeat refine And.intro (by first | decide | omega | exact fun _ => by decide | (simp +contextual; done) | kernel_rfl) ?_
       try simp only [bO, bc_len, hidL_bc, imL_bc, g3, push_cast, ↓reduceIte, reduceCtorEq, Nat.reduceBEq, reduceEqDiff, reduceAdd, reduceSub, reduceLT, reduceLeDiff, reduceMul]
       rw [hE, hq]
       first | rfl | exact ⟨rfl, rfl⟩
   ·have g0 : decide ((i2 : Int) ≤ j) = false := by simp; omega
    have hUe : scanUp (fun x => !ltInt e[a]! x) e j i = i2 := by rw [hU, scanUp, if_neg (by simp; omega)]
    simp only [bO, bc_len, hidL_bc, imL_bc, g0, push_cast, ↓reduceIte, reduceCtorEq, Nat.reduceBEq, reduceEqDiff, reduceAdd, reduceSub, reduceLT, reduceLeDiff, reduceMul]
    repeat refine And.intro (by first | decide | omega | exact fun _ => by decide | (simp +contextual; done) | kernel_rfl) ?_
    refine run_loop [(9, false), (10, false), (0, false), (1, false)] (fun vs pos los => ∃ j' : Nat, j' ≤ j ∧ i2 ≤ j' + 2 ∧ scanDown (fun x => ltInt e[a]! x) e i2 j = scanDown (fun x => ltInt e[a]! x) e i2 j' ∧ vs = [int .i64 i2, int .i64 j', .own 1000000 0 0 n, int .i64 a] ∧ pos = [bO e m] ∧ los = [])
     (fun vs _ _ => match vs with | _ :: .r (.v (.int _ j)) :: _ => j.toNat | _ => 0) rfl ?_ ?_
    ·simp only [bO, hidL_bc, imL_bc, push_cast, ↓reduceIte, reduceCtorEq, Nat.reduceBEq, reduceEqDiff, reduceAdd, reduceSub, reduceLT, reduceLeDiff, reduceMul]
     exact ⟨j, by omega, by omega, rfl, (by first | rfl | exact ⟨rfl, rfl⟩ | exact ⟨rfl, rfl, rfl⟩)⟩
    ·rintro vs pos los ⟨j2, g1, g2, hW, rfl, rfl, rfl⟩
     by_cases hij3 : i2 ≤ j2
     ·exact absurd hij3 (by omega)
     ·have g0 : decide ((i2 : Int) ≤ j2) = false := by simp; omega
      have g3 : decide ((i2 : Int) > j2) = true := by simp; omega
      have hWe : scanDown (fun x => ltInt e[a]! x) e i2 j = j2 := by
       rw [hW]
       cases j2 with
       | zero => rfl
       | succ k => rw [scanDown, if_neg (by simp; omega)]
      have hq := parteq_eq hUe hWe h1 g1 hi1
      rw [if_pos (by omega)] at hq
      simp only [bO, bc_len, hidL_bc, imL_bc, g0, push_cast, ↓reduceIte, reduceCtorEq, Nat.reduceBEq, reduceEqDiff, reduceAdd, reduceSub, reduceLT, reduceLeDiff, reduceMul]
      repeat refine And.intro (by first | decide | omega | exact fun _ => by decide | (simp +contextual; done) | kernel_rfl) ?_
      try simp only [bO, bc_len, hidL_bc, imL_bc, g3, push_cast, ↓reduceIte, reduceCtorEq, Nat.reduceBEq, reduceEqDiff, reduceAdd, reduceSub, reduceLT, reduceLeDiff, reduceMul]
      rw [hE, hq]
      first | rfl | exact ⟨rfl, rfl⟩

open Go.Sort (swp ltInt scanUp scanDown partLoop partition)
theorem part_eq {a i j i2 j2 : Nat} {e : Array Int} (hU : scanUp (fun x => ltInt x e[a]!) e j i = i2) (hW : scanDown (fun x => !ltInt x e[a]!) e i2 j = j2) (h1 : i ≤ i2) (h2 : j2 ≤ j) (h3 : 1 ≤ i) :
  partLoop ltInt a i j e = if i2 > j2 then (j2, e) else partLoop ltInt a (i2 + 1) (j2 - 1) (swp e i2 j2) := by
 rw [partLoop]
 simp only [hU, hW]
 split
 ·rfl
 ·rw [dif_pos (by omega)]
set_option maxHeartbeats 2000000 in
theorem part_t (d : Array Int) (a b pv : Nat) (hab : a + 1 < b) (hb : b ≤ d.size) (hp : pv < d.size) (hn : d.size ≤ 100000) (m : Nat) :
  Triple Go.Proofs.Tryz.prog 158 [.own 1000000 0 0 d.size, int .i64 a, int .i64 b, int .i64 pv] [bO d m] (.tup [int .i64 (partition ltInt d a b pv).1, bl (partition ltInt d a b pv).2.1]) [bO (partition ltInt d a b pv).2.2 m] := by
 refine slices_partitionOrdered_uint64_triple rfl (by simp) ?_
 have ha : a < d.size := by omega
 have hp2 : pv < (d.setIfInBounds a d[pv]!).size := by simpa using hp
 have w1 : IntKind.i64.wrap ((a : Int) + 1) = (a : Int) + 1 := wrap_id (by omega)
 obtain ⟨b1, hb1⟩ : ∃ b1, b - 1 = b1 := ⟨_, rfl⟩
 have w2 : IntKind.i64.wrap ((b : Int) - 1) = (b1 : Int) := by rw [wrap_id (by omega)]; omega
 simp only [slices_partitionOrdered_uint64_pc, bO, bc_len, hidL_bc, imL_bc, w1, w2, bu_get (m := m) ha, bu_get (m := m) hp, bu_get (m := m) hp2, bu_set (m := m) ha, bu_set (m := m) hp2, List.length_cons, List.length_nil, Int.toNat_natCast, Int.toNat_natCast_add_one, Nat.zero_add, push_cast, ↓reduceIte, reduceCtorEq, Nat.reduceBEq, reduceEqDiff, reduceAdd, reduceSub, reduceLT, reduceLeDiff, reduceMul]
 repeat refine And.intro (by first | decide | omega | exact fun _ => by decide | (simp +contextual; done) | kernel_rfl) ?_
 rw [show (d.setIfInBounds a d[pv]!).setIfInBounds pv d[a]! = swp d a pv from rfl]
 have hsz := swp_size d a pv
 unfold partition
 simp only [hb1]
 generalize hN : d.size = n at *
 generalize swp d a pv = e0 at *
 have hae : a < e0.size := by omega
 refine run_loop [(10, false), (11, false), (0, false), (1, false)] (fun vs pos los => ∃ i' : Nat, a + 1 ≤ i' ∧ i' ≤ b1 + 2 ∧ scanUp (fun x => ltInt x e0[a]!) e0 b1 (a + 1) = scanUp (fun x => ltInt x e0[a]!) e0 b1 i' ∧ vs = [int .i64 i', int .i64 b1, .own 1000000 0 0 n, int .i64 a] ∧ pos = [bO e0 m] ∧ los = [])
  (fun vs _ _ => match vs with | .r (.v (.int _ i)) :: _ => ((b1 : Int) + 1 - i).toNat | _ => 0) rfl ?_ ?_
 ·simp only [bO, hidL_bc, imL_bc, push_cast, ↓reduceIte, reduceCtorEq, Nat.reduceBEq, reduceEqDiff, reduceAdd, reduceSub, reduceLT, reduceLeDiff, reduceMul]
  exact ⟨a + 1, by omega, by omega, rfl, (by first | rfl | exact ⟨rfl, rfl⟩ | exact ⟨rfl, rfl, rfl⟩)⟩
 ·rintro vs pos los ⟨i2, h1, h2, hU, rfl, rfl, rfl⟩
  have w3 : IntKind.i64.wrap ((i2 : Int) + 1) = (i2 : Int) + 1 := wrap_id (by omega)
  by_cases hij2 : i2 ≤ b1
  ·have g0 : decide ((i2 : Int) ≤ b1) = true := by simp; omega
   have hi2 : i2 < e0.size := by omega
   simp only [bO, bc_len, hidL_bc, imL_bc, g0, w3, bu_get (m := m) hae, bu_get (m := m) hi2, Int.toNat_natCast, Int.toNat_natCast_add_one, Nat.zero_add, push_cast, ↓reduceIte, reduceCtorEq, Nat.reduceBEq, reduceEqDiff, reduceAdd, reduceSub, reduceLT, reduceLeDiff, reduceMul]
   repeat refine And.intro (by first | decide | omega | exact fun _ => by decide | (simp +contextual; done) | kernel_rfl) ?_
   refine dcall_mk (lt_t e0[i2]! e0[a]!) rfl trivial ?_
   simp only [bO, bc_len, hidL_bc, imL_bc, g0, w3, bu_get (m := m) hae, bu_get (m := m) hi2, Int.toNat_natCast, Int.toNat_natCast_add_one, Nat.zero_add, push_cast, ↓reduceIte, reduceCtorEq, Nat.reduceBEq, reduceEqDiff, reduceAdd, reduceSub, reduceLT, reduceLeDiff, reduceMul]
   repeat refine And.intro (by first | decide | omega | exact fun _ => by decide | (simp +contextual; done) | kernel_rfl) ?_
   refine cnd_mk (fun hc => ?_) (fun hc => ?_)
   ·simp only [bO, bc_len, hidL_bc, imL_bc, g0, w3, push_cast, ↓reduceIte, reduceCtorEq, Nat.reduceBEq, reduceEqDiff, reduceAdd, reduceSub, reduceLT, reduceLeDiff, reduceMul]
    refine ⟨⟨i2 + 1, by omega, by omega, ?_, (by first | rfl | exact ⟨rfl, rfl⟩ | exact ⟨rfl, rfl, rfl⟩)⟩, by omega⟩
    rw [hU, scanUp, if_pos (by simp [hij2]; simpa using hc)]
   ·have hUe : scanUp (fun x => ltInt x e0[a]!) e0 b1 (a + 1) = i2 := by rw [hU, scanUp, if_neg (by simp; intro _; simpa using hc)]
    simp only [bO, bc_len, hidL_bc, imL_bc, push_cast, ↓reduceIte, reduceCtorEq, Nat.reduceBEq, reduceEqDiff, reduceAdd, reduceSub, reduceLT, reduceLeDiff, reduceMul]
    refine run_loop [(10, false), (11, false), (0, false), (1, false)] (fun vs pos los => ∃ j' : Nat, j' ≤ b1 ∧ i2 ≤ j' + 2 ∧ scanDown (fun x => !ltInt x e0[a]!) e0 i2 b1 = scanDown (fun x => !ltInt x e0[a]!) e0 i2 j' ∧ vs = [int .i64 i2, int .i64 j', .own 1000000 0 0 n, int .i64 a] ∧ pos = [bO e0 m] ∧ los = [])
     (fun vs _ _ => match vs with | _ :: .r (.v (.int _ j)) :: _ => j.toNat | _ => 0) rfl ?_ ?_
    ·simp only [bO, hidL_bc, imL_bc, push_cast, ↓reduceIte, reduceCtorEq, Nat.reduceBEq, reduceEqDiff, reduceAdd, reduceSub, reduceLT, reduceLeDiff, reduceMul]
     exact ⟨b1, by omega, by omega, rfl, (by first | rfl | exact ⟨rfl, rfl⟩ | exact ⟨rfl, rfl, rfl⟩)⟩
    ·rintro vs pos los ⟨j2, g1, g2, hW, rfl, rfl, rfl⟩
     by_cases hij3 : i2 ≤ j2
     ·obtain ⟨k, rfl⟩ : ∃ k, j2 = k + 1 := ⟨j2 - 1, by omega⟩
      have g0 : decide ((i2 : Int) ≤ (k : Int) + 1) = true := by simp; omega
      have g3 : decide ((i2 : Int) > (k : Int) + 1) = false := by simp; omega
      have wk : IntKind.i64.wrap ((k : Int) + 1 - 1) = (k : Int) := by rw [wrap_id (by omega)]; omega
      have hk : k + 1 < e0.size := by omega
      have hi2 : i2 < e0.size := by omega
      simp only [bO, bc_len, hidL_bc, imL_bc, g0, wk, bu_get (m := m) hae, bu_get (m := m) hk, Int.toNat_natCast, Int.toNat_natCast_add_one, Nat.zero_add, push_cast, ↓reduceIte, reduceCtorEq, Nat.reduceBEq, reduceEqDiff, reduceAdd, reduceSub, reduceLT, reduceLeDiff, reduceMul]
      repeat refine And.intro (by first | decide | omega | exact fun _ => by decide | (simp +contextual; done) | kernel_rfl) ?_
      refine dcall_mk (lt_t e0[k + 1]! e0[a]!) rfl trivial ?_
      simp only [bO, bc_len, hidL_bc, imL_bc, g0, wk, bu_get (m := m) hae, bu_get (m := m) hk, Int.toNat_natCast, Int.toNat_natCast_add_one, Nat.zero_add, push_cast, ↓reduceIte, reduceCtorEq, Nat.reduceBEq, reduceEqDiff, reduceAdd, reduceSub, reduceLT, reduceLeDiff, reduceMul]
      repeat refine And.intro (by first | decide | omega | exact fun _ => by decide | (simp +contextual; done) | kernel_rfl) ?_
      refine cnd_mk (fun hc => ?_) (fun hc => ?_)
      ·simp only [bO, bc_len, hidL_bc, imL_bc, g0, wk, push_cast, ↓reduceIte, reduceCtorEq, Nat.reduceBEq, reduceEqDiff, reduceAdd, reduceSub, reduceLT, reduceLeDiff, reduceMul]
       refine ⟨⟨k, by omega, by omega, ?_, (by first | rfl | exact ⟨rfl, rfl⟩ | exact ⟨rfl, rfl, rfl⟩)⟩, by omega⟩
       rw [hW, scanDown, if_pos (by simp [hij3]; simpa using hc)]
      ·have hWe : scanDown (fun x => !ltInt x e0[a]!) e0 i2 b1 = k + 1 := by rw [hW, scanDown, if_neg (by simp; intro _; simpa using hc)]
       have hk2 : k + 1 < (e0.setIfInBounds i2 e0[k + 1]!).size := by simpa using hk
       have hno : ¬ i2 > k + 1 := by omega
       simp only [hUe, hWe, hno, if_false, Nat.add_sub_cancel]
       simp only [bO, bc_len, hidL_bc, imL_bc, g3, wk, w3, bu_get (m := m) hi2, bu_get (m := m) hk, bu_get (m := m) hk2, bu_set (m := m) hi2, bu_set (m := m) hk2, Int.toNat_natCast, Int.toNat_natCast_add_one, Nat.zero_add, push_cast, ↓reduceIte, reduceCtorEq, Nat.reduceBEq, reduceEqDiff, reduceAdd, reduceSub, reduceLT, reduceLeDiff, reduceMul]
       repeat refine And.intro (by first | decide | omega | exact fun _ => by decide | (simp +contextual; done) | kernel_rfl) ?_
       rw [show (e0.setIfInBounds i2 e0[k + 1]!).setIfInBounds (k + 1) e0[i2]! = swp e0 i2 (k + 1) from rfl]
       obtain ⟨RR, hRR⟩ : ∃ RR, partLoop ltInt a (i2 + 1) k (swp e0 i2 (k + 1)) = RR := ⟨_, rfl⟩
       rw [hRR]
       refine run_loop [(10, false), (11, false), (0, false), (1, false)] (fun vs pos los => ∃ (i j : Nat) (e : Array Int), 1 ≤ i ∧ i ≤ j + 2 ∧ j < n ∧ e.size = n ∧ RR = partLoop ltInt a i j e ∧ vs = [int .i64 i, int .i64 j, .own 1000000 0 0 n, int .i64 a] ∧ pos = [bO e m] ∧ los = [])
        (fun vs _ _ => match vs with | .r (.v (.int _ i)) :: .r (.v (.int _ j)) :: _ => (j + 1 - i).toNat | _ => 0) rfl ?_ ?_
       ·simp only [bO, hidL_bc, imL_bc, push_cast, ↓reduceIte, reduceCtorEq, Nat.reduceBEq, reduceEqDiff, reduceAdd, reduceSub, reduceLT, reduceLeDiff, reduceMul]
        exact ⟨i2 + 1, k, swp e0 i2 (k + 1), by omega, by omega, by omega, by rw [swp_size]; exact hsz, hRR.symm, (by first | rfl | exact ⟨rfl, rfl⟩ | exact ⟨rfl, rfl, rfl⟩)⟩
       ·clear hij2 hij3 hUe hWe h1 h2 hU g0 g1 g2 g3 hW hc hk hk2 hi2 w3 wk
        rintro vs pos los ⟨i, j, e, hi1, hij, hj, he, hE, rfl, rfl, rfl⟩
        have hae : a < e.size := by omega
        simp only [bO, hidL_bc, imL_bc, bc_len, push_cast, ↓reduceIte, reduceCtorEq, Nat.reduceBEq, reduceEqDiff, reduceAdd, reduceSub, reduceLT, reduceLeDiff, reduceMul]
        refine run_loop [(10, false), (11, false), (0, false), (1, false)] (fun vs pos los => ∃ i' : Nat, i ≤ i' ∧ i' ≤ j + 2 ∧ scanUp (fun x => ltInt x e[a]!) e j (i) = scanUp (fun x => ltInt x e[a]!) e j i' ∧ vs = [int .i64 i', int .i64 j, .own 1000000 0 0 n, int .i64 a] ∧ pos = [bO e m] ∧ los = [])
         (fun vs _ _ => match vs with | .r (.v (.int _ i)) :: _ => ((j : Int) + 1 - i).toNat | _ => 0) rfl ?_ ?_
        ·simp only [bO, hidL_bc, imL_bc, push_cast, ↓reduceIte, reduceCtorEq, Nat.reduceBEq, reduceEqDiff, reduceAdd, reduceSub, reduceLT, reduceLeDiff, reduceMul]
         exact ⟨i, by omega, by omega, rfl, (by first | rfl | exact ⟨rfl, rfl⟩ | exact ⟨rfl, rfl, rfl⟩)⟩
        ·rintro vs pos los ⟨i2, h1, h2, hU, rfl, rfl, rfl⟩
         have w3 : IntKind.i64.wrap ((i2 : Int) + 1) = (i2 : Int) + 1 := wrap_id (by omega)
         by_cases hij2 : i2 ≤ j
         ·have g0 : decide ((i2 : Int) ≤ j) = true := by simp; omega
          have hi2 : i2 < e.size := by omega
          simp only [bO, bc_len, hidL_bc, imL_bc, g0, w3, bu_get (m := m) hae, bu_get (m := m) hi2, Int.toNat_natCast, Int.toNat_natCast_add_one, Nat.zero_add, push_cast, ↓reduceIte, reduceCtorEq, Nat.reduceBEq, reduceEqDiff, reduceAdd, reduceSub, reduceLT, reduceLeDiff, reduceMul]
          repeat refine And.intro (by first | decide | omega | exact fun _ => by decide | (simp +contextual; done) | kernel_rfl) ?_
          refine dcall_mk (lt_t e[i2]! e[a]!) rfl trivial ?_
          simp only [bO, bc_len, hidL_bc, imL_bc, g0, w3, bu_get (m := m) hae, bu_get (m := m) hi2, Int.toNat_natCast, Int.toNat_natCast_add_one, Nat.zero_add, push_cast, ↓reduceIte, reduceCtorEq, Nat.reduceBEq, reduceEqDiff, reduceAdd, reduceSub, reduceLT, reduceLeDiff, reduceMul]
          repeat refine And.intro (by first | decide | omega | exact fun _ => by decide | (simp +contextual; done) | kernel_rfl) ?_
          refine cnd_mk (fun hc => ?_) (fun hc => ?_)
          ·simp only [bO, bc_len, hidL_bc, imL_bc, g0, w3, push_cast, ↓reduceIte, reduceCtorEq, Nat.reduceBEq, reduceEqDiff, reduceAdd, reduceSub, reduceLT, reduceLeDiff, reduceMul]
           refine ⟨⟨i2 + 1, by omega, by omega, ?_, (by first | rfl | exact ⟨rfl, rfl⟩ | exact ⟨rfl, rfl, rfl⟩)⟩, by omega⟩
           rw [hU, scanUp, if_pos (by simp [hij2]; simpa using hc)]
          ·have hUe : scanUp (fun x => ltInt x e[a]!) e j (i) = i2 := by rw [hU, scanUp, if_neg (by simp; intro _; simpa using hc)]
           simp only [bO, bc_len, hidL_bc, imL_bc, push_cast, ↓reduceIte, reduceCtorEq, Nat.reduceBEq, reduceEqDiff, reduceAdd, reduceSub, reduceLT, reduceLeDiff, reduceMul]
           refine run_loop [(10, false), (11, false), (0, false), (1, false)] (fun vs pos los => ∃ j' : Nat, j' ≤ j ∧ i2 ≤ j' + 2 ∧ scanDown (fun x => !ltInt x e[a]!) e i2 j = scanDown (fun x => !ltInt x e[a]!) e i2 j' ∧ vs = [int .i64 i2, int .i64 j', .own 1000000 0 0 n, int .i64 a] ∧ pos = [bO e m] ∧ los = [])
            (fun vs _ _ => match vs with | _ :: .r (.v (.int _ j)) :: _ => j.toNat | _ => 0) rfl ?_ ?_
           ·simp only [bO, hidL_bc, imL_bc, push_cast, ↓reduceIte, reduceCtorEq, Nat.reduceBEq, reduceEqDiff, reduceAdd, reduceSub, reduceLT, reduceLeDiff, reduceMul]
            exact ⟨j, by omega, by omega, rfl, (by first | rfl | exact ⟨rfl, rfl⟩ | exact ⟨rfl, rfl, rfl⟩)⟩
           ·rintro vs pos los ⟨j2, g1, g2, hW, rfl, rfl, rfl⟩
            by_cases hij3 : i2 ≤ j2
            ·obtain ⟨k, rfl⟩ : ∃ k, j2 = k + 1 := ⟨j2 - 1, by omega⟩
             have g0 : decide ((i2 : Int) ≤ (k : Int) + 1) = true := by simp; omega
             have g3 : decide ((i2 : Int) > (k : Int) + 1) = false := by simp; omega
             have wk : IntKind.i64.wrap ((k : Int) + 1 - 1) = (k : Int) := by rw [wrap_id (by omega)]; omega
             have hk : k + 1 < e.size := by omega
             have hi2 : i2 < e.size := by omega
             simp only [bO, bc_len, hidL_bc, imL_bc, g0, wk, bu_get (m := m) hae, bu_get (m := m) hk, Int.toNat_natCast, Int.toNat_natCast_add_one, Nat.zero_add, push_cast, ↓reduceIte, reduceCtorEq, Nat.reduceBEq, reduceEqDiff, reduceAdd, reduceSub, reduceLT, reduceLeDiff, reduceMul]
             repeat refine And.intro (by first | decide | omega | exact fun _ => by decide | (simp +contextual; done) | kernel_rfl) ?_
             refine dcall_mk (lt_t e[k + 1]! e[a]!) rfl trivial ?_
             simp only [bO, bc_len, hidL_bc, imL_bc, g0, wk, bu_get (m := m) hae, bu_get (m := m) hk, Int.toNat_natCast, Int.toNat_natCast_add_one, Nat.zero_add, push_cast, ↓reduceIte, reduceCtorEq, Nat.reduceBEq, reduceEqDiff, reduceAdd, reduceSub, reduceLT, reduceLeDiff, reduceMul]
             repeat refine And.intro (by first | decide | omega | exact fun _ => by decide | (simp +contextual; done) | kernel_rfl) ?_
             refine cnd_mk (fun hc => ?_) (fun hc => ?_)
             ·simp only [bO, bc_len, hidL_bc, imL_bc, g0, wk, push_cast, ↓reduceIte, reduceCtorEq, Nat.reduceBEq, reduceEqDiff, reduceAdd, reduceSub, reduceLT, reduceLeDiff, reduceMul]
              refine ⟨⟨k, by omega, by omega, ?_, (by first | rfl | exact ⟨rfl, rfl⟩ | exact ⟨rfl, rfl, rfl⟩)⟩, by omega⟩
              rw [hW, scanDown, if_pos (by simp [hij3]; simpa using hc)]
             ·have hWe : scanDown (fun x => !ltInt x e[a]!) e i2 j = k + 1 := by rw [hW, scanDown, if_neg (by simp; intro _; simpa using hc)]
              have hk2 : k + 1 < (e.setIfInBounds i2 e[k + 1]!).size := by simpa using hk
              have hq := part_eq hUe hWe h1 g1 hi1
              rw [if_neg (by omega)] at hq
              simp only [bO, bc_len, hidL_bc, imL_bc, g3, wk, w3, bu_get (m := m) hi2, bu_get (m := m) hk, bu_get (m := m) hk2, bu_set (m := m) hi2, bu_set (m := m) hk2, Int.toNat_natCast, Int.toNat_natCast_add_one, Nat.zero_add, push_cast, ↓reduceIte, reduceCtorEq, Nat.reduceBEq, reduceEqDiff, reduceAdd, reduceSub, reduceLT, reduceLeDiff, reduceMul]
              repeat refine And.intro (by first | decide | omega | exact fun _ => by decide | (simp +contextual; done) | kernel_rfl) ?_
              refine ⟨⟨i2 + 1, k, swp e i2 (k + 1), by omega, by omega, by omega, by rw [swp_size]; exact he, by rw [hE, hq]; rfl, (by first | rfl | exact ⟨rfl, rfl⟩ | exact ⟨rfl, rfl, rfl⟩)⟩, by omega⟩
            ·have g0 : decide ((i2 : Int) ≤ j2) = false := by simp; omega
             have g3 : decide ((i2 : Int) > j2) = true := by simp; omega
             have hWe : scanDown (fun x => !ltInt x e[a]!) e i2 j = j2 := by
              rw [hW]
              cases j2 with
              | zero => rfl
              | succ k => rw [scanDown, if_neg (by simp; omega)]
             simp only [bO, bc_len, hidL_bc, imL_bc, g0, push_cast, ↓reduceIte, reduceCtorEq, Nat.reduceBEq, reduceEqDiff, reduceAdd, reduceSub, reduceLT, reduceLeDiff, reduceMul]
             repeat refine And.intro (by first | decide | omega | exact fun _ => by decide | (simp +contextual; done) | kernel_rfl) ?_
             have hq := part_eq hUe hWe h1 g1 hi1
             rw [if_pos (by omega)] at hq
             have hR : RR = (j2, e) := by rw [hE, hq]
             clear hE
             subst hR
             have k1 : j2 < e.size := by omega
             have k2 : a < (e.setIfInBounds j2 e[a]!).size := by simpa using hae
             simp only [bO, bc_len, hidL_bc, imL_bc, g3, bu_get (m := m) k1, bu_get (m := m) hae, bu_get (m := m) k2, bu_set (m := m) k1, bu_set (m := m) k2, Int.toNat_natCast, Int.toNat_natCast_add_one, Nat.zero_add, push_cast, ↓reduceIte, reduceCtorEq, Nat.reduceBEq, reduceEqDiff, reduceAdd, reduceSub, reduceLT, reduceLeDiff, reduceMul]
             repeat refine And.intro (by first | decide | omega | exact fun _ => by decide | (simp +contextual; done) | kernel_rfl) ?_
             first | done | rfl | exact ⟨rfl, rfl⟩
         ·have g0 : decide ((i2 : Int) ≤ j) = false := by simp; omega
          have hUe : scanUp (fun x => ltInt x e[a]!) e j (i) = i2 := by rw [hU, scanUp, if_neg (by simp; omega)]
          simp only [bO, bc_len, hidL_bc, imL_bc, g0, push_cast, ↓reduceIte, reduceCtorEq, Nat.reduceBEq, reduceEqDiff, reduceAdd, reduceSub, reduceLT, reduceLeDiff, reduceMul]
          repeat refine And.intro (by first | decide | omega | exact fun _ => by decide | (simp +contextual; done) | kernel_rfl) ?_
          refine run_loop [(10, false), (11, false), (0, false), (1, false)] (fun vs pos los => ∃ j' : Nat, j' ≤ j ∧ i2 ≤ j' + 2 ∧ scanDown (fun x => !ltInt x e[a]!) e i2 j = scanDown (fun x => !ltInt x e[a]!) e i2 j' ∧ vs = [int .i64 i2, int .i64 j', .own 1000000 0 0 n, int .i64 a] ∧ pos = [bO e m] ∧ los = [])
           (fun vs _ _ => match vs with | _ :: .r (.v (.int _ j)) :: _ => j.toNat | _ => 0) rfl ?_ ?_
          ·simp only [bO, hidL_bc, imL_bc, push_cast, ↓reduceIte, reduceCtorEq, Nat.reduceBEq, reduceEqDiff, reduceAdd, reduceSub, reduceLT, reduceLeDiff, reduceMul]
           exact ⟨j, by omega, by omega, rfl, (by first | rfl | exact ⟨rfl, rfl⟩ | exact ⟨rfl, rfl, rfl⟩)⟩
          ·rintro vs pos los ⟨j2, g1, g2, hW, rfl, rfl, rfl⟩
           by_cases hij3 : i2 ≤ j2
           ·exact absurd hij3 (by omega)
           ·have g0 : decide ((i2 : Int) ≤ j2) = false := by simp; omega
            have g3 : decide ((i2 : Int) > j2) = true := by simp; omega
            have hWe : scanDown (fun x => !ltInt x e[a]!) e i2 j = j2 := by
             rw [hW]
             cases j2 with
             | zero => rfl
             | succ k => rw [scanDown, if_neg (by simp; omega)]
            simp only [bO, bc_len, hidL_bc, imL_bc, g0, push_cast, ↓reduceIte, reduceCtorEq, Nat.reduceBEq, reduceEqDiff, reduceAdd, reduceSub, reduceLT, reduceLeDiff, reduceMul]
            repeat refine And.intro (by first | decide | omega | exact fun _ => by decide | (simp +contextual; done) | kernel_rfl) ?_
            have hq := part_eq hUe hWe h1 g1 hi1
            rw [if_pos (by omega)] at hq
            have hR : RR = (j2, e) := by rw [hE, hq]
            clear hE
            subst hR
            have k1 : j2 < e.size := by omega
            have k2 : a < (e.setIfInBounds j2 e[a]!).size := by simpa using hae
            simp only [bO, bc_len, hidL_bc, imL_bc, g3, bu_get (m := m) k1, bu_get (m := m) hae, bu_get (m := m) k2, bu_set (m := m) k1, bu_set (m := m) k2, Int.toNat_natCast, Int.toNat_natCast_add_one, Nat.zero_add, push_cast, ↓reduceIte, reduceCtorEq, Nat.reduceBEq, reduceEqDiff, reduceAdd, reduceSub, reduceLT, reduceLeDiff, reduceMul]
            repeat refine And.intro (by first | decide | omega | exact fun _ => by decide | (simp +contextual; done) | kernel_rfl) ?_
            first | done | rfl | exact ⟨rfl, rfl⟩
     ·have g0 : decide ((i2 : Int) ≤ j2) = false := by simp; omega
      have g3 : decide ((i2 : Int) > j2) = true := by simp; omega
      have hWe : scanDown (fun x => !ltInt x e0[a]!) e0 i2 b1 = j2 := by
       rw [hW]
       cases j2 with
       | zero => rfl
       | succ k => rw [scanDown, if_neg (by simp; omega)]
      simp only [bO, bc_len, hidL_bc, imL_bc, g0, push_cast, ↓reduceIte, reduceCtorEq, Nat.reduceBEq, reduceEqDiff, reduceAdd, reduceSub, reduceLT, reduceLeDiff, reduceMul]
      repeat refine And.intro (by first | decide | omega | exact fun _ => by decide | (simp +contextual; done) | kernel_rfl) ?_
      simp only [hUe, hWe, show i2 > j2 from by omega, if_true]
      have k1 : j2 < e0.size := by omega
      have k2 : a < (e0.setIfInBounds j2 e0[a]!).size := by simpa using hae
      simp only [bO, bc_len, hidL_bc, imL_bc, g3, bu_get (m := m) k1, bu_get (m := m) hae, bu_get (m := m) k2, bu_set (m := m) k1, bu_set (m := m) k2, Int.toNat_natCast, Int.toNat_natCast_add_one, Nat.zero_add, push_cast, ↓reduceIte, reduceCtorEq, Nat.reduceBEq, reduceEqDiff, reduceAdd, reduceSub, reduceLT, reduceLeDiff, reduceMul]
      repeat refine And.intro (by first | decide | omega | exact fun _ => by decide | (simp +contextual; done) | kernel_rfl) ?_
      first | done | rfl | exact ⟨rfl, rfl⟩
  ·have g0 : decide ((i2 : Int) ≤ b1) = false := by simp; omega
   have hUe : scanUp (fun x => ltInt x e0[a]!) e0 b1 (a + 1) = i2 := by rw [hU, scanUp, if_neg (by simp; omega)]
   simp only [bO, bc_len, hidL_bc, imL_bc, g0, push_cast, ↓reduceIte, reduceCtorEq, Nat.reduceBEq, reduceEqDiff, reduceAdd, reduceSub, reduceLT, reduceLeDiff, reduceMul]
   repeat refine And.intro (by first | decide | omega | exact fun _ => by decide | (simp +contextual; done) | kernel_rfl) ?_
   refine run_loop [(10, false), (11, false), (0, false), (1, false)] (fun vs pos los => ∃ j' : Nat, j' ≤ b1 ∧ i2 ≤ j' + 2 ∧ scanDown (fun x => !ltInt x e0[a]!) e0 i2 b1 = scanDown (fun x => !ltInt x e0[a]!) e0 i2 j' ∧ vs = [int .i64 i2, int .i64 j', .own 1000000 0 0 n, int .i64 a] ∧ pos = [bO e0 m] ∧ los = [])
    (fun vs _ _ => match vs with | _ :: .r (.v (.int _ j)) :: _ => j.toNat | _ => 0) rfl ?_ ?_
   ·simp only [bO, hidL_bc, imL_bc, push_cast, ↓reduceIte, reduceCtorEq, Nat.reduceBEq, reduceEqDiff, reduceAdd, reduceSub, reduceLT, reduceLeDiff, reduceMul]
    exact ⟨b1, by omega, by omega, rfl, (by first | rfl | exact ⟨rfl, rfl⟩ | exact ⟨rfl, rfl, rfl⟩)⟩
   ·rintro vs pos los ⟨j2, g1, g2, hW, rfl, rfl, rfl⟩
    by_cases hij3 : i2 ≤ j2
    ·exact absurd hij3 (by omega)
    ·have g0 : decide ((i2 : Int) ≤ j2) = false := by simp; omega
     have g3 : decide ((i2 : Int) > j2) = true := by simp; omega
     have hWe : scanDown (fun x => !ltInt x e0[a]!) e0 i2 b1 = j2 := by
      rw [hW]
      cases j2 with
      | zero => rfl
      | succ k => rw [scanDown, if_neg (by simp; omega)]
     simp only [bO, bc_len, hidL_bc, imL_bc, g0, push_cast, ↓reduceIte, reduceCtorEq, Nat.reduceBEq, reduceEqDiff, reduceAdd, reduceSub, reduceLT, reduceLeDiff, reduceMul]
     repeat refine And.intro (by first | decide | omega | exact fun _ => by decide | (simp +contextual; done) | kernel_rfl) ?_
     simp only [hUe, hWe, show i2 > j2 from by omega, if_true]
     have k1 : j2 < e0.size := by omega
     have k2 : a < (e0.setIfInBounds j2 e0[a]!).size := by simpa using hae
     simp only [bO, bc_len, hidL_bc, imL_bc, g3, bu_get (m := m) k1, bu_get (m := m) hae, bu_get (m := m) k2, bu_set (m := m) k1, bu_set (m := m) k2, Int.toNat_natCast, Int.toNat_natCast_add_one, Nat.zero_add, push_cast, ↓reduceIte, reduceCtorEq, Nat.reduceBEq, reduceEqDiff, reduceAdd, reduceSub, reduceLT, reduceLeDiff, reduceMul]
     repeat refine And.intro (by first | decide | omega | exact fun _ => by decide | (simp +contextual; done) | kernel_rfl) ?_
     first | done | rfl | exact ⟨rfl, rfl⟩

open Go.Sort (swp ltInt scanSorted partialIns partialInsertionSort)
noncomputable def slices_partialInsertionSortOrdered_uint64_pc : PC :=
  (.seq (.reg [p_s 6 (.mov (.c (.r (.v (.bool false)))))])
 (.seq (.reg [p_m 11 1, p_s 12 (.bin .add (.t 11) (o_i 1)), p_m 7 12])
 (.seq (.seq (.reg [p_s 8 (.mov (o_i 0))])
 (.block 0 (.loop (.seq (.seq (.reg [p_m 13 8, p_s 14 (.bin .lss (.t 13) (o_i 5))])
 (.cond (.t 14)
 .skip
 (.exit 0)))
 (.seq (.block 1 (.seq (.block 2 (.loop (.seq (.seq (.drw [p_m 17 7, p_m 18 2, p_s 19 (.bin .lss (.t 17) (.t 18)), p_m 20 19, p_g 21 20 true (.mov (.t 0)), p_g 22 20 true (.mov (.t 7)), p_g 23 20 true (.ia 1 (.v (.int .u64 0)) (.t 21) (.t 22)),
 p_g 24 20 true (.ld none (.t 23)), p_g 25 20 true (.mov (.t 0)), p_g 26 20 true (.mov (.t 7)), p_g 27 20 true (.bin .sub (.t 26) (o_i 1)), p_g 28 20 true (.ia 1 (.v (.int .u64 0)) (.t 25) (.t 27)),
 p_g 29 20 true (.ld none (.t 28)), ⟨(some 30), (some (20, true)), 1, .call 156 [(.t 24), (.t 29)]⟩, p_g 31 20 true (.un .not (.t 30)), p_s 32 (.pick (.t 20) (.t 31) (.c (.r (.v (.bool false)))))]
 [[], [], [0, 1], [0, 1, 2], [0, 1, 2, 3], [0, 1, 2, 3], [0, 1, 2, 3, 4, 5], [0, 1, 2, 3, 4, 5, 6], [0, 1, 2, 3], [0, 1, 2, 3], [0, 1, 2, 3, 9], [0, 1, 2, 3, 8, 9, 10], [0, 1, 2, 3, 8, 9, 10, 11], [0, 1, 2, 3, 4, 5, 6, 7, 8, 9, 10, 11, 12], [0, 1, 2, 3, 4, 5, 6, 7, 8, 9, 10, 11, 12, 13], [0, 1, 2, 3, 4, 5, 6, 7, 8, 9, 10, 11, 12, 13, 14]])
 (.cond (.t 32)
 .skip
 (.exit 2)))
 (.block 3 (.reg [p_m 33 7, p_s 34 (.bin .add (.t 33) (o_i 1)), p_m 7 34])))))
 (.seq (.seq (.reg [p_m 35 7, p_m 36 2, p_s 37 (.bin .eql (.t 35) (.t 36))])
 (.cond (.t 37)
 (.seq (.reg [p_s 6 (.mov (.c (.r (.v (.bool true)))))])
 .ret)
 .skip))
 (.seq (.seq (.reg [p_m 38 2, p_m 39 1, p_s 40 (.bin .sub (.t 38) (.t 39)), p_s 41 (.bin .lss (.t 40) (o_i 50))])
 (.cond (.t 41)
 (.seq (.reg [p_s 6 (.mov (.c (.r (.v (.bool false)))))])
 .ret)
 .skip))
 (.seq (.drw [p_m 42 0, p_m 43 7, p_m 44 0, p_m 45 7, p_s 46 (.bin .sub (.t 45) (o_i 1)), p_m 47 0, p_m 48 7, p_s 49 (.bin .sub (.t 48) (o_i 1)), p_s 50 (.ia 1 (.v (.int .u64 0)) (.t 47) (.t 49)),
 p_s 51 (.ld none (.t 50)), p_m 52 0, p_m 53 7, p_s 54 (.ia 1 (.v (.int .u64 0)) (.t 52) (.t 53)), p_s 55 (.ld none (.t 54)), p_s 56 (.ia 1 (.v (.int .u64 0)) (.t 42) (.t 43)),
 ⟨none, none, 0, .act (.st 1 (.t 56) (.t 51))⟩, p_s 57 (.ia 1 (.v (.int .u64 0)) (.t 44) (.t 46)), ⟨none, none, 0, .act (.st 1 (.t 57) (.t 55))⟩]
 [[], [], [], [], [3], [], [], [6], [5, 6, 7], [5, 6, 7, 8], [], [], [10, 11], [10, 11, 12], [0, 1, 5, 6, 7, 8, 9, 10, 11, 12, 13], [0, 1, 5, 6, 7, 8, 9, 10, 11, 12, 13, 14], [0, 1, 2, 3, 4, 5, 6, 7, 8, 9, 10, 11, 12, 13, 14, 15], [0, 1, 2, 3, 4, 5, 6, 7, 8, 9, 10, 11, 12, 13, 14, 15, 16]])
 (.seq (.seq (.reg [p_m 58 7, p_m 59 1, p_s 60 (.bin .sub (.t 58) (.t 59)), p_s 61 (.bin .geq (.t 60) (o_i 2))])
 (.cond (.t 61)
 (.seq (.reg [p_m 62 7, p_s 63 (.bin .sub (.t 62) (o_i 1)), p_m 9 63])
 (.block 4 (.loop (.seq (.seq (.reg [p_m 64 9, p_s 65 (.bin .geq (.t 64) (o_i 1))])
 (.cond (.t 65)
 .skip
 (.exit 4)))
 (.seq (.block 5 (.seq (.seq (.drw [p_m 68 0, p_m 69 9, p_s 70 (.ia 1 (.v (.int .u64 0)) (.t 68) (.t 69)), p_s 71 (.ld none (.t 70)), p_m 72 0, p_m 73 9, p_s 74 (.bin .sub (.t 73) (o_i 1)), p_s 75 (.ia 1 (.v (.int .u64 0)) (.t 72) (.t 74)),
 p_s 76 (.ld none (.t 75)), p_c 77 2 156 [.t 71, .t 76], p_s 78 (.un .not (.t 77))]
 [[], [], [0, 1], [0, 1, 2], [], [], [5], [4, 5, 6], [4, 5, 6, 7], [0, 1, 2, 3, 4, 5, 6, 7, 8], [0, 1, 2, 3, 4, 5, 6, 7, 8, 9]])
 (.cond (.t 78)
 (.exit 4)
 .skip))
 (.drw [p_m 79 0, p_m 80 9, p_m 81 0, p_m 82 9, p_s 83 (.bin .sub (.t 82) (o_i 1)), p_m 84 0, p_m 85 9, p_s 86 (.bin .sub (.t 85) (o_i 1)), p_s 87 (.ia 1 (.v (.int .u64 0)) (.t 84) (.t 86)),
 p_s 88 (.ld none (.t 87)), p_m 89 0, p_m 90 9, p_s 91 (.ia 1 (.v (.int .u64 0)) (.t 89) (.t 90)), p_s 92 (.ld none (.t 91)), p_s 93 (.ia 1 (.v (.int .u64 0)) (.t 79) (.t 80)),
 ⟨none, none, 0, .act (.st 1 (.t 93) (.t 88))⟩, p_s 94 (.ia 1 (.v (.int .u64 0)) (.t 81) (.t 83)), ⟨none, none, 0, .act (.st 1 (.t 94) (.t 92))⟩]
 [[], [], [], [], [3], [], [], [6], [5, 6, 7], [5, 6, 7, 8], [], [], [10, 11], [10, 11, 12], [0, 1, 5, 6, 7, 8, 9, 10, 11, 12, 13], [0, 1, 5, 6, 7, 8, 9, 10, 11, 12, 13, 14], [0, 1, 2, 3, 4, 5, 6, 7, 8, 9, 10, 11, 12, 13, 14, 15], [0, 1, 2, 3, 4, 5, 6, 7, 8, 9, 10, 11, 12, 13, 14, 15, 16]])))
 (.reg [p_m 66 9, p_s 67 (.bin .sub (.t 66) (o_i 1)), p_m 9 67]))))))
 .skip))
 (.seq (.reg [p_m 95 2, p_m 96 7, p_s 97 (.bin .sub (.t 95) (.t 96)), p_s 98 (.bin .geq (.t 97) (o_i 2))])
 (.cond (.t 98)
 (.seq (.reg [p_m 99 7, p_s 100 (.bin .add (.t 99) (o_i 1)), p_m 10 100])
 (.block 6 (.loop (.seq (.seq (.reg [p_m 101 10, p_m 102 2, p_s 103 (.bin .lss (.t 101) (.t 102))])
 (.cond (.t 103)
 .skip
 (.exit 6)))
 (.seq (.block 7 (.seq (.seq (.drw [p_m 106 0, p_m 107 10, p_s 108 (.ia 1 (.v (.int .u64 0)) (.t 106) (.t 107)), p_s 109 (.ld none (.t 108)), p_m 110 0, p_m 111 10, p_s 112 (.bin .sub (.t 111) (o_i 1)),
 p_s 113 (.ia 1 (.v (.int .u64 0)) (.t 110) (.t 112)), p_s 114 (.ld none (.t 113)), p_c 115 3 156 [.t 109, .t 114], p_s 116 (.un .not (.t 115))]
 [[], [], [0, 1], [0, 1, 2], [], [], [5], [4, 5, 6], [4, 5, 6, 7], [0, 1, 2, 3, 4, 5, 6, 7, 8], [0, 1, 2, 3, 4, 5, 6, 7, 8, 9]])
 (.cond (.t 116)
 (.exit 6)
 .skip))
 (.drw [p_m 117 0, p_m 118 10, p_m 119 0, p_m 120 10, p_s 121 (.bin .sub (.t 120) (o_i 1)), p_m 122 0, p_m 123 10, p_s 124 (.bin .sub (.t 123) (o_i 1)), p_s 125 (.ia 1 (.v (.int .u64 0)) (.t 122) (.t 124)),
 p_s 126 (.ld none (.t 125)), p_m 127 0, p_m 128 10, p_s 129 (.ia 1 (.v (.int .u64 0)) (.t 127) (.t 128)), p_s 130 (.ld none (.t 129)), p_s 131 (.ia 1 (.v (.int .u64 0)) (.t 117) (.t 118)),
 ⟨none, none, 0, .act (.st 1 (.t 131) (.t 126))⟩, p_s 132 (.ia 1 (.v (.int .u64 0)) (.t 119) (.t 121)), ⟨none, none, 0, .act (.st 1 (.t 132) (.t 130))⟩]
 [[], [], [], [], [3], [], [], [6], [5, 6, 7], [5, 6, 7, 8], [], [], [10, 11], [10, 11, 12], [0, 1, 5, 6, 7, 8, 9, 10, 11, 12, 13], [0, 1, 5, 6, 7, 8, 9, 10, 11, 12, 13, 14], [0, 1, 2, 3, 4, 5, 6, 7, 8, 9, 10, 11, 12, 13, 14, 15], [0, 1, 2, 3, 4, 5, 6, 7, 8, 9, 10, 11, 12, 13, 14, 15, 16]])))
 (.reg [p_m 104 10, p_s 105 (.bin .add (.t 104) (o_i 1)), p_m 10 105]))))))
 .skip))))))))
 (.reg [p_m 15 8, p_s 16 (.bin .add (.t 15) (o_i 1)), p_m 8 16]))))))
 (.seq (.reg [p_s 6 (.mov (.c (.r (.v (.bool false)))))])
 .ret))))
theorem slices_partialInsertionSortOrdered_uint64_triple : Fun Go.Proofs.Tryz.prog 155 3 [(6, false, none)] slices_partialInsertionSortOrdered_uint64_pc := fun_mk Go.Proofs.Tryz.func155 rfl (by decide) (by kernel_rfl) (by decide) rfl (by kernel_rfl) (by kernel_rfl) (by decide)
theorem pins_eq {d : Array Int} {a b : Nat} (h : b - a < 50) : partialInsertionSort ltInt d a b = (d, decide (scanSorted ltInt d b (a + 1) = b)) := by
 unfold partialInsertionSort
 rw [partialIns]
 by_cases hs : scanSorted ltInt d b (a + 1) = b
 ·simp [hs]
 ·simp [hs, h]
set_option maxHeartbeats 1000000 in
theorem pins_t (d : Array Int) (a b : Nat) (hab : a < b) (hb : b ≤ d.size) (hn : d.size < 50) (m : Nat) :
  Triple Go.Proofs.Tryz.prog 155 [.own 1000000 0 0 d.size, int .i64 a, int .i64 b] [bO d m] (bl (partialInsertionSort ltInt d a b).2) [bO d m] := by
 refine slices_partialInsertionSortOrdered_uint64_triple rfl (by simp) ?_
 rw [pins_eq (by omega)]
 have w1 : IntKind.i64.wrap ((a : Int) + 1) = (a : Int) + 1 := wrap_id (by omega)
 have w2 : IntKind.i64.wrap ((b : Int) - a) = (b : Int) - a := wrap_id (by omega)
 simp only [slices_partialInsertionSortOrdered_uint64_pc, bO, bc_len, hidL_bc, imL_bc, w1, List.length_cons, List.length_nil, Int.toNat_natCast, Int.toNat_natCast_add_one, Nat.zero_add, push_cast, ↓reduceIte, reduceCtorEq, Nat.reduceBEq, reduceEqDiff, reduceAdd, reduceSub, reduceLT, reduceLeDiff, reduceMul]
 repeat refine And.intro (by first | decide | omega | exact fun _ => by decide | (simp +contextual; done) | kernel_rfl) ?_
 generalize hN : d.size = n at *
 refine run_loop [(7, false), (8, false), (0, false), (1, false), (2, false)] (fun vs pos los => vs = [int .i64 ((a : Int) + 1), int .i64 0, .own 1000000 0 0 n, int .i64 a, int .i64 b] ∧ pos = [bO d m] ∧ los = [])
  (fun vs _ _ => 0) rfl ?_ ?_
 ·simp only [bO, hidL_bc, imL_bc, push_cast, ↓reduceIte, reduceCtorEq, Nat.reduceBEq, reduceEqDiff, reduceAdd, reduceSub, reduceLT, reduceLeDiff, reduceMul]
 ·rintro vs pos los ⟨rfl, rfl, rfl⟩
  have d05 : decide ((0 : Int) < 5) = true := by decide
  simp only [bO, bc_len, hidL_bc, imL_bc, d05, Int.toNat_natCast, Int.toNat_natCast_add_one, Nat.zero_add, push_cast, ↓reduceIte, reduceCtorEq, Nat.reduceBEq, reduceEqDiff, reduceAdd, reduceSub, reduceLT, reduceLeDiff, reduceMul]
  refine run_loop [(7, false), (8, false), (0, false), (1, false), (2, false)] (fun vs pos los => ∃ i : Nat, a + 1 ≤ i ∧ i ≤ b ∧ scanSorted ltInt d b (a + 1) = scanSorted ltInt d b i ∧ vs = [int .i64 i, int .i64 0, .own 1000000 0 0 n, int .i64 a, int .i64 b] ∧ pos = [bO d m] ∧ los = [])
   (fun vs _ _ => match vs with | .r (.v (.int _ i)) :: _ => (b - i).toNat | _ => 0) rfl ?_ ?_
  ·simp only [bO, hidL_bc, imL_bc, push_cast, ↓reduceIte, reduceCtorEq, Nat.reduceBEq, reduceEqDiff, reduceAdd, reduceSub, reduceLT, reduceLeDiff, reduceMul]
   exact ⟨a + 1, by omega, by omega, rfl, (by first | rfl | exact ⟨rfl, rfl⟩ | exact ⟨rfl, rfl, rfl⟩)⟩
  ·rintro vs pos los ⟨i, h1, h2, hU, rfl, rfl, rfl⟩
   by_cases hij : i < b
   ·obtain ⟨k, rfl⟩ : ∃ k, i = k + 1 := ⟨i - 1, by omega⟩
    have g0 : decide ((k : Int) + 1 < b) = true := by simp; omega
    have g1 : decide ((k : Int) + 1 = b) = false := by simp; omega
    have g2 : decide ((b : Int) - a < 50) = true := by simp; omega
    have w3 : IntKind.i64.wrap ((k : Int) + 1 + 1) = (k : Int) + 1 + 1 := wrap_id (by omega)
    have w4 : IntKind.i64.wrap ((k : Int) + 1 - 1) = (k : Int) := by rw [wrap_id (by omega)]; omega
    have hk : k < d.size := by omega
    have hk1 : k + 1 < d.size := by omega
    simp only [bO, bc_len, hidL_bc, imL_bc, g0, w3, w4, bu_get (m := m) hk, bu_get (m := m) hk1, Int.toNat_natCast, Int.toNat_natCast_add_one, Nat.zero_add, push_cast, ↓reduceIte, reduceCtorEq, Nat.reduceBEq, reduceEqDiff, reduceAdd, reduceSub, reduceLT, reduceLeDiff, reduceMul]
    repeat refine And.intro (by first | decide | omega | exact fun _ => by decide | (simp +contextual; done) | kernel_rfl) ?_
    refine dcall_mk (lt_t d[k + 1]! d[k]!) rfl trivial ?_
    simp only [bO, bc_len, hidL_bc, imL_bc, g0, w3, w4, bu_get (m := m) hk, bu_get (m := m) hk1, Int.toNat_natCast, Int.toNat_natCast_add_one, Nat.zero_add, push_cast, ↓reduceIte, reduceCtorEq, Nat.reduceBEq, reduceEqDiff, reduceAdd, reduceSub, reduceLT, reduceLeDiff, reduceMul]
    repeat refine And.intro (by first | decide | omega | exact fun _ => by decide | (simp +contextual; done) | kernel_rfl) ?_
    refine cnd_mk (fun hc => ?_) (fun hc => ?_)
    ·simp only [bO, bc_len, hidL_bc, imL_bc, g0, w3, w4, push_cast, ↓reduceIte, reduceCtorEq, Nat.reduceBEq, reduceEqDiff, reduceAdd, reduceSub, reduceLT, reduceLeDiff, reduceMul]
     refine ⟨⟨k + 2, by omega, by omega, ?_, (by first | rfl | exact ⟨rfl, rfl⟩ | exact ⟨rfl, rfl, rfl⟩)⟩, by omega⟩
     rw [hU, scanSorted, if_pos (by simp [hij]; simpa using hc)]
    ·have hUe : scanSorted ltInt d b (a + 1) = k + 1 := by rw [hU, scanSorted, if_neg (by simp; intro _; simpa using hc)]
     simp only [bO, bc_len, hidL_bc, imL_bc, g0, g1, g2, w2, w3, w4, push_cast, ↓reduceIte, reduceCtorEq, Nat.reduceBEq, reduceEqDiff, reduceAdd, reduceSub, reduceLT, reduceLeDiff, reduceMul]
     refine cnd_mk (fun hc => ?_) (fun hc => ?_)
     ·exfalso
      simp at hc
      omega
     ·simp only [bO, bc_len, hidL_bc, imL_bc, g2, w2, push_cast, ↓reduceIte, reduceCtorEq, Nat.reduceBEq, reduceEqDiff, reduceAdd, reduceSub, reduceLT, reduceLeDiff, reduceMul]
      rw [hUe]
      simp
      omega
   ·have g0 : decide ((i : Int) < b) = false := by simp; omega
    have g1 : decide ((i : Int) = b) = true := by simp; omega
    have hUe : scanSorted ltInt d b (a + 1) = i := by rw [hU, scanSorted, if_neg (by simp; omega)]
    simp only [bO, bc_len, hidL_bc, imL_bc, g0, g1, push_cast, ↓reduceIte, reduceCtorEq, Nat.reduceBEq, reduceEqDiff, reduceAdd, reduceSub, reduceLT, reduceLeDiff, reduceMul]
    repeat refine And.intro (by first | decide | omega | exact fun _ => by decide | (simp +contextual; done) | kernel_rfl) ?_
    refine cnd_mk (fun hc => ?_) (fun hc => ?_)
    ·simp only [bO, bc_len, hidL_bc, imL_bc, push_cast, ↓reduceIte, reduceCtorEq, Nat.reduceBEq, reduceEqDiff, reduceAdd, reduceSub, reduceLT, reduceLeDiff, reduceMul]
     rw [hUe]
     simp
     omega
    ·exfalso
     simp at hc
     omega

open Go.Sort (swp ltInt bitsLen xorNext)
noncomputable def bits_Len_pc : PC :=
  (.seq (.reg [p_s 2 (.mov (o_i 0))])
 (.seq (.cond (.c (.r (.v (.bool false))))
 (.seq (.reg [p_m 3 0, p_s 4 (.conv .u32 (.t 3)), p_c 5 1 135 [.t 4], p_m 2 5])
 .ret)
 .skip)
 (.seq (.reg [p_m 6 0, p_c 7 2 136 [.t 6], p_m 2 7])
 .ret)))
theorem bits_Len_triple : Fun Go.Proofs.Tryz.prog 100 1 [(2, false, none)] bits_Len_pc := fun_mk Go.Proofs.Tryz.func100 rfl (by decide) (by kernel_rfl) (by decide) rfl (by kernel_rfl) (by kernel_rfl) (by decide)
noncomputable def bits_Len64_pc : PC :=
  (.seq (.reg [p_s 2 (.mov (o_i 0))])
 (.seq (.seq (.reg [p_m 3 0, p_s 4 (.bin .geq (.t 3) (.c (.r (.v (.int .u64 4294967296)))))])
 (.cond (.t 4)
 (.seq (.reg [p_m 5 0, p_s 6 (.bin .shr (.t 5) (.c (.r (.v (.int .u64 32))))), p_m 0 6])
 (.reg [p_s 2 (.mov (o_i 32))]))
 .skip))
 (.seq (.seq (.reg [p_m 7 0, p_s 8 (.bin .geq (.t 7) (.c (.r (.v (.int .u64 65536)))))])
 (.cond (.t 8)
 (.seq (.reg [p_m 9 0, p_s 10 (.bin .shr (.t 9) (.c (.r (.v (.int .u64 16))))), p_m 0 10])
 (.reg [p_m 11 2, p_s 12 (.bin .add (.t 11) (o_i 16)), p_m 2 12]))
 .skip))
 (.seq (.seq (.reg [p_m 13 0, p_s 14 (.bin .geq (.t 13) (.c (.r (.v (.int .u64 256)))))])
 (.cond (.t 14)
 (.seq (.reg [p_m 15 0, p_s 16 (.bin .shr (.t 15) (.c (.r (.v (.int .u64 8))))), p_m 0 16])
 (.reg [p_m 17 2, p_s 18 (.bin .add (.t 17) (o_i 8)), p_m 2 18]))
 .skip))
 (.seq (.reg [p_m 19 2, p_m 20 0, p_s 21 (.conv .u8 (.t 20)), p_s 22 (.ixs (.c (.r (.v (.string ⟨#[0, 1, 2, 2, 3, 3, 3, 3, 4, 4, 4, 4, 4, 4, 4, 4, 5, 5, 5, 5, 5, 5, 5, 5, 5, 5, 5, 5, 5, 5, 5, 5, 6, 6, 6, 6, 6, 6, 6, 6, 6, 6, 6, 6, 6, 6, 6, 6, 6, 6, 6, 6, 6, 6, 6, 6, 6, 6, 6, 6, 6, 6, 6, 6, 7, 7, 7, 7, 7, 7, 7, 7, 7, 7, 7, 7, 7, 7, 7, 7, 7, 7, 7, 7, 7, 7, 7, 7, 7, 7, 7, 7, 7, 7, 7, 7, 7, 7, 7, 7, 7, 7, 7, 7, 7, 7, 7, 7, 7, 7, 7, 7, 7, 7, 7, 7, 7, 7, 7, 7, 7, 7, 7, 7, 7, 7, 7, 7, 8, 8, 8, 8, 8, 8, 8, 8, 8, 8, 8, 8, 8, 8, 8, 8, 8, 8, 8, 8, 8, 8, 8, 8, 8, 8, 8, 8, 8, 8, 8, 8, 8, 8, 8, 8, 8, 8, 8, 8, 8, 8, 8, 8, 8, 8, 8, 8, 8, 8, 8, 8, 8, 8, 8, 8, 8, 8, 8, 8, 8, 8, 8, 8, 8, 8, 8, 8, 8, 8, 8, 8, 8, 8, 8, 8, 8, 8, 8, 8, 8, 8, 8, 8, 8, 8, 8, 8, 8, 8, 8, 8, 8, 8, 8, 8, 8, 8, 8, 8, 8, 8, 8, 8, 8, 8, 8, 8, 8, 8, 8, 8, 8, 8, 8, 8, 8, 8, 8, 8, 8, 8, 8, 8, 8, 8, 8, 8]⟩)))) (.t 21)),
 p_s 23 (.conv .i64 (.t 22)), p_s 24 (.bin .add (.t 19) (.t 23)), p_m 2 24])
 .ret)))))
theorem bits_Len64_triple : Fun Go.Proofs.Tryz.prog 136 1 [(2, false, none)] bits_Len64_pc := fun_mk Go.Proofs.Tryz.func136 rfl (by decide) (by kernel_rfl) (by decide) rfl (by kernel_rfl) (by kernel_rfl) (by decide)
noncomputable def slices_nextPowerOfTwo_pc : PC :=
  (.seq (.reg [p_s 2 (.mov (.c (.r (.v (.int .u64 0)))))])
 (.seq (.reg [p_m 3 0, p_s 4 (.conv .u64 (.t 3)), p_c 5 1 100 [.t 4], p_s 6 (.bin .shl (.c (.r (.v (.int .u64 1)))) (.t 5)), p_m 2 6])
 .ret))
theorem slices_nextPowerOfTwo_triple : Fun Go.Proofs.Tryz.prog 161 1 [(2, false, none)] slices_nextPowerOfTwo_pc := fun_mk Go.Proofs.Tryz.func161 rfl (by decide) (by kernel_rfl) (by decide) rfl (by kernel_rfl) (by kernel_rfl) (by decide)
noncomputable def slices_xorshift_Next_pc : PC :=
  (.seq (.reg [p_s 2 (.mov (.c (.r (.v (.int .u64 0)))))])
 (.seq (.drw [p_m 3 0, p_s 4 (.nck (.t 3)), p_s 5 (.ld none (.t 4)), p_m 6 0, p_s 7 (.nck (.t 6)), p_s 8 (.ld none (.t 7)), p_s 9 (.bin .shl (.t 8) (.c (.r (.v (.int .u64 13))))),
 p_s 10 (.bin .xor (.t 5) (.t 9)), p_s 11 (.nck (.t 3)), ⟨none, none, 0, .act (.st 1 (.t 11) (.t 10))⟩]
 [[], [0], [0, 1], [], [3], [3, 4], [3, 4, 5], [0, 1, 2, 3, 4, 5, 6], [0, 1, 2, 3, 4, 5, 6, 7], [0, 1, 2, 3, 4, 5, 6, 7, 8]])
 (.seq (.drw [p_m 12 0, p_s 13 (.nck (.t 12)), p_s 14 (.ld none (.t 13)), p_m 15 0, p_s 16 (.nck (.t 15)), p_s 17 (.ld none (.t 16)), p_s 18 (.bin .shr (.t 17) (.c (.r (.v (.int .u64 7))))),
 p_s 19 (.bin .xor (.t 14) (.t 18)), p_s 20 (.nck (.t 12)), ⟨none, none, 0, .act (.st 1 (.t 20) (.t 19))⟩]
 [[], [0], [0, 1], [], [3], [3, 4], [3, 4, 5], [0, 1, 2, 3, 4, 5, 6], [0, 1, 2, 3, 4, 5, 6, 7], [0, 1, 2, 3, 4, 5, 6, 7, 8]])
 (.seq (.drw [p_m 21 0, p_s 22 (.nck (.t 21)), p_s 23 (.ld none (.t 22)), p_m 24 0, p_s 25 (.nck (.t 24)), p_s 26 (.ld none (.t 25)), p_s 27 (.bin .shl (.t 26) (.c (.r (.v (.int .u64 17))))),
 p_s 28 (.bin .xor (.t 23) (.t 27)), p_s 29 (.nck (.t 21)), ⟨none, none, 0, .act (.st 1 (.t 29) (.t 28))⟩]
 [[], [0], [0, 1], [], [3], [3, 4], [3, 4, 5], [0, 1, 2, 3, 4, 5, 6], [0, 1, 2, 3, 4, 5, 6, 7], [0, 1, 2, 3, 4, 5, 6, 7, 8]])
 (.seq (.reg [p_m 30 0, p_s 31 (.nck (.t 30)), p_s 32 (.ld none (.t 31)), p_m 2 32])
 .ret)))))
theorem slices_xorshift_Next_triple : Fun Go.Proofs.Tryz.prog 162 1 [(2, false, none)] slices_xorshift_Next_pc := fun_mk Go.Proofs.Tryz.func162 rfl (by decide) (by kernel_rfl) (by decide) rfl (by kernel_rfl) (by kernel_rfl) (by decide)
theorem u_wrap (x : Int) : IntKind.u64.wrap x = x % 18446744073709551616 := by simp [IntKind.wrap, IntKind.bits, IntKind.signed]
theorem u_wrap_id {x : Int} (h : 0 ≤ x ∧ x < 18446744073709551616) : IntKind.u64.wrap x = x := by rw [u_wrap]; omega
theorem u_shl (a : UInt64) (k : Nat) (hk : k < 64) : IntKind.u64.wrap ((a.toNat : Int) * 2 ^ k) = ((a <<< (UInt64.ofNat k)).toNat : Int) := by
 have h2 : (UInt64.ofNat k).toNat = k := by simp; omega
 rw [UInt64.toNat_shiftLeft, h2, Nat.mod_eq_of_lt hk, Nat.shiftLeft_eq, u_wrap]
 simp
theorem u_shr (a : UInt64) (k : Nat) (hk : k < 64) : (a.toNat : Int).fdiv (2 ^ k) = ((a >>> (UInt64.ofNat k)).toNat : Int) := by
 have h2 : (UInt64.ofNat k).toNat = k := by simp; omega
 rw [UInt64.toNat_shiftRight, h2, Nat.mod_eq_of_lt hk, Nat.shiftRight_eq_div_pow]
 have h3 := a.toNat_lt
 have h4 : ((2 ^ k : Nat) : Int) = (2 : Int) ^ k := by simp
 rw [← h4, Int.fdiv_eq_ediv_of_nonneg _ (Int.natCast_nonneg _), ← Int.natCast_ediv]
theorem u_bv (a : UInt64) : BitVec.ofInt IntKind.u64.bits (a.toNat : Int) = a.toBitVec := by
 apply BitVec.eq_of_toNat_eq
 rw [BitVec.toNat_ofInt]
 have := a.toNat_lt
 show ((a.toNat : Int) % ((2 ^ 64 : Nat) : Int)).toNat = a.toNat
 omega
theorem u_xor (a b : UInt64) : IntKind.u64.wrap ((BitVec.ofInt IntKind.u64.bits (a.toNat : Int) ^^^ BitVec.ofInt IntKind.u64.bits (b.toNat : Int)).toNat : Int) = ((a ^^^ b).toNat : Int) := by
 rw [u_bv, u_bv]
 have h : (a.toBitVec ^^^ b.toBitVec).toNat = (a ^^^ b).toNat := rfl
 have := (a ^^^ b).toNat_lt
 refine (congrArg IntKind.u64.wrap (congrArg Int.ofNat h)).trans ?_
 exact u_wrap_id ⟨Int.natCast_nonneg _, Int.ofNat_lt.2 this⟩
theorem len64_t (n : Nat) (hn : n < 64) : Triple Go.Proofs.Tryz.prog 136 [int .u64 n] [] (int .i64 (bitsLen n)) [] := by
 refine bits_Len64_triple rfl (by decide) ?_
 have g1 : decide ((n : Int) ≥ 4294967296) = false := by simp; omega
 have g2 : decide ((n : Int) ≥ 65536) = false := by simp; omega
 have g3 : decide ((n : Int) ≥ 256) = false := by simp; omega
 have w : IntKind.u8.wrap (n : Int) = n := by simp [IntKind.wrap, IntKind.bits, IntKind.signed]; omega
 simp only [bits_Len64_pc, g1, g2, g3, w, Int.toNat_natCast, List.length_nil, push_cast, ↓reduceIte, reduceCtorEq, Nat.reduceBEq, reduceEqDiff, reduceAdd, reduceSub, reduceLT, reduceLeDiff, reduceMul]
 refine ⟨⟨by omega, (show (n : Int) < ((256 : Nat) : Int) by omega)⟩, ?_⟩
 refine congrArg (fun z => AV.r (.v (.int .i64 z))) ?_
 clear g1 g2 g3 w
 revert n
 decide +kernel
theorem blen_t (n : Nat) (hn : n < 64) : Triple Go.Proofs.Tryz.prog 100 [int .u64 n] [] (int .i64 (bitsLen n)) [] := by
 refine bits_Len_triple rfl (by decide) ?_
 have w : IntKind.u64.wrap (n : Int) = n := u_wrap_id (by omega)
 simp only [bits_Len_pc, w, List.length_nil, push_cast, ↓reduceIte, reduceCtorEq, Nat.reduceBEq, reduceEqDiff, reduceAdd, reduceSub, reduceLT, reduceLeDiff, reduceMul]
 refine call_mk (len64_t n hn) rfl trivial ?_
 simp only [push_cast, ↓reduceIte, reduceCtorEq, Nat.reduceBEq, reduceEqDiff, reduceAdd, reduceSub, reduceLT, reduceLeDiff, reduceMul]
theorem npow_t (n : Nat) (hn : n < 64) : Triple Go.Proofs.Tryz.prog 161 [int .i64 n] [] (int .u64 (1 <<< bitsLen n : Nat)) [] := by
 refine slices_nextPowerOfTwo_triple rfl (by decide) ?_
 have w : IntKind.u64.wrap (n : Int) = n := u_wrap_id (by omega)
 simp only [slices_nextPowerOfTwo_pc, w, List.length_nil, push_cast, ↓reduceIte, reduceCtorEq, Nat.reduceBEq, reduceEqDiff, reduceAdd, reduceSub, reduceLT, reduceLeDiff, reduceMul]
 refine call_mk (blen_t n hn) rfl trivial ?_
 simp only [push_cast, ↓reduceIte, reduceCtorEq, Nat.reduceBEq, reduceEqDiff, reduceAdd, reduceSub, reduceLT, reduceLeDiff, reduceMul]
 refine ⟨by omega, ?_⟩
 refine congrArg (fun z => AV.r (.v (.int .u64 z))) ?_
 clear w
 revert n
 decide +kernel
theorem next_t (r : UInt64) : Triple Go.Proofs.Tryz.prog 162 [.ptr 1000000 0 0] [.box [int .u64 r.toNat]] (int .u64 (xorNext r).toNat) [.box [int .u64 (xorNext r).toNat]] := by
 refine slices_xorshift_Next_triple rfl (by simp) ?_
 have e1 : (min (Int.toNat 13) IntKind.u64.bits) = 13 := rfl
 have e2 : (min (Int.toNat 7) IntKind.u64.bits) = 7 := rfl
 have e3 : (min (Int.toNat 17) IntKind.u64.bits) = 17 := rfl
 have k1 : ∀ a : UInt64, a <<< (UInt64.ofNat 13) = a <<< 13 := fun _ => rfl
 have k2 : ∀ a : UInt64, a >>> (UInt64.ofNat 7) = a >>> 7 := fun _ => rfl
 have k3 : ∀ a : UInt64, a <<< (UInt64.ofNat 17) = a <<< 17 := fun _ => rfl
 have s1 := fun a => u_shl a 13 (by decide)
 have s2 := fun a => u_shr a 7 (by decide)
 have s3 := fun a => u_shl a 17 (by decide)
 simp only [slices_xorshift_Next_pc, e1, e2, e3, s1, s2, s3, k1, k2, k3, u_xor, List.length_nil, List.length_cons, push_cast, ↓reduceIte, reduceCtorEq, Nat.reduceBEq, reduceEqDiff, reduceAdd, reduceSub, reduceLT, reduceLeDiff, reduceMul]
 repeat refine And.intro (by first | decide | omega | exact fun _ => by decide | (simp +contextual; done) | kernel_rfl) ?_
 rfl

open Go.Sort (swp ltInt bitsLen xorNext breakStep breakPatterns)
noncomputable def slices_breakPatternsOrdered_uint64_pc : PC :=
  (.seq (.reg [p_m 11 2, p_m 12 1, p_s 13 (.bin .sub (.t 11) (.t 12)), p_m 6 13])
 (.seq (.reg [p_m 14 6, p_s 15 (.bin .geq (.t 14) (o_i 8))])
 (.cond (.t 15)
 (.seq (.reg [p_m 16 6, p_s 17 (.conv .u64 (.t 16)), p_a 7 (.new [(.r (.v (.int .u64 0)))]), ⟨none, none, 0, .act (.st 1 (.t 7) (.t 17))⟩])
 (.seq (.reg [p_m 18 6, p_c 19 1 161 [.t 18], p_m 8 19])
 (.seq (.reg [p_m 20 1, p_m 21 6, p_s 22 (.bin .quo (.t 21) (o_i 4)), p_s 23 (.bin .mul (.t 22) (o_i 2)), p_s 24 (.bin .add (.t 20) (.t 23)), p_s 25 (.bin .sub (.t 24) (o_i 1)),
 p_m 9 25])
 (.block 0 (.loop (.seq (.seq (.reg [p_m 26 9, p_m 27 1, p_m 28 6, p_s 29 (.bin .quo (.t 28) (o_i 4)), p_s 30 (.bin .mul (.t 29) (o_i 2)), p_s 31 (.bin .add (.t 27) (.t 30)), p_s 32 (.bin .add (.t 31) (o_i 1)),
 p_s 33 (.bin .leq (.t 26) (.t 32))])
 (.cond (.t 33)
 .skip
 (.exit 0)))
 (.seq (.block 1 (.seq (.reg [p_c 36 2 162 [.t 7], p_m 37 8, p_s 38 (.bin .sub (.t 37) (.c (.r (.v (.int .u64 1))))), p_s 39 (.bin .and (.t 36) (.t 38)), p_s 40 (.conv .i64 (.t 39)), p_m 10 40])
 (.seq (.seq (.reg [p_m 41 10, p_m 42 6, p_s 43 (.bin .geq (.t 41) (.t 42))])
 (.cond (.t 43)
 (.reg [p_m 44 10, p_m 45 6, p_s 46 (.bin .sub (.t 44) (.t 45)), p_m 10 46])
 .skip))
 (.drw [p_m 47 0, p_m 48 9, p_m 49 0, p_m 50 1, p_m 51 10, p_s 52 (.bin .add (.t 50) (.t 51)), p_m 53 0, p_m 54 1, p_m 55 10, p_s 56 (.bin .add (.t 54) (.t 55)), p_s 57 (.ia 1 (.v (.int .u64 0)) (.t 53) (.t 56)),
 p_s 58 (.ld none (.t 57)), p_m 59 0, p_m 60 9, p_s 61 (.ia 1 (.v (.int .u64 0)) (.t 59) (.t 60)), p_s 62 (.ld none (.t 61)), p_s 63 (.ia 1 (.v (.int .u64 0)) (.t 47) (.t 48)),
 ⟨none, none, 0, .act (.st 1 (.t 63) (.t 58))⟩, p_s 64 (.ia 1 (.v (.int .u64 0)) (.t 49) (.t 52)), ⟨none, none, 0, .act (.st 1 (.t 64) (.t 62))⟩]
 [[], [], [], [], [], [3, 4], [], [], [], [7, 8], [6, 7, 8, 9], [6, 7, 8, 9, 10], [], [], [12, 13], [12, 13, 14], [0, 1, 6, 7, 8, 9, 10, 11, 12, 13, 14, 15], [0, 1, 6, 7, 8, 9, 10, 11, 12, 13, 14, 15, 16], [0, 1, 2, 3, 4, 5, 6, 7, 8, 9, 10, 11, 12, 13, 14, 15, 16, 17], [0, 1, 2, 3, 4, 5, 6, 7, 8, 9, 10, 11, 12, 13, 14, 15, 16, 17, 18]]))))
 (.reg [p_m 34 9, p_s 35 (.bin .add (.t 34) (o_i 1)), p_m 9 35]))))))))
 .skip)))
theorem slices_breakPatternsOrdered_uint64_triple : Fun Go.Proofs.Tryz.prog 152 3 [] slices_breakPatternsOrdered_uint64_pc := fun_mk Go.Proofs.Tryz.func152 rfl (by decide) (by kernel_rfl) (by decide) rfl (by kernel_rfl) (by kernel_rfl) (by decide)
def brk (a l md : Nat) : Nat → Nat → UInt64 × Array Int → Array Int
 | 0, _, st => st.2
 | s + 1, idx, st => brk a l md s (idx + 1) (breakStep a l md st idx)
theorem brk_eq {d : Array Int} {a b : Nat} (h : 8 ≤ b - a) : breakPatterns d a b = brk a (b - a) (1 <<< bitsLen (b - a)) 3 (a + (b - a) / 4 * 2 - 1) (UInt64.ofNat (b - a), d) := by
 unfold breakPatterns
 simp only [show b - a ≥ 8 from h, if_true]
 rfl
theorem and_mask_n (x md : Nat) (k : Nat) (hk : k ≤ 62) (hm : md = 2 ^ k) (hx : x < 18446744073709551616) : IntKind.u64.wrap ((BitVec.ofInt IntKind.u64.bits (x : Int) &&& BitVec.ofInt IntKind.u64.bits ((md : Int) - 1)).toNat) = ((x &&& (md - 1) : Nat) : Int) := by
 rw [and_mask_u x ((md : Int) - 1) k (by omega) (by rw [hm]; simp) (Int.natCast_nonneg _) (by omega), hm, Nat.and_two_pow_sub_one_eq_mod]
 simp
set_option maxHeartbeats 1000000 in
theorem break_t (d : Array Int) (a b : Nat) (hl : 8 ≤ b - a) (hb : b ≤ d.size) (hn : d.size < 50) (m : Nat) :
  Triple Go.Proofs.Tryz.prog 152 [.own 1000000 0 0 d.size, int .i64 a, int .i64 b] [bO d m] (.tup []) [bO (breakPatterns d a b) m] := by
 refine slices_breakPatternsOrdered_uint64_triple rfl (by simp) ?_
 rw [brk_eq hl]
 have hp1 := Go.Sort.lt_two_pow_bitsLen (b - a)
 have hp2 := Go.Sort.two_pow_bitsLen_le (n := b - a) (by omega)
 obtain ⟨l, hl'⟩ : ∃ l, b - a = l := ⟨_, rfl⟩
 obtain ⟨q, hq⟩ : ∃ q, l / 4 = q := ⟨_, rfl⟩
 obtain ⟨B, hB⟩ : ∃ B, bitsLen l = B := ⟨_, rfl⟩
 obtain ⟨md, hmd⟩ : ∃ md, 1 <<< B = md := ⟨_, rfl⟩
 have hmd2 : md = 2 ^ B := by rw [← hmd, Nat.shiftLeft_eq, Nat.one_mul]
 rw [hl'] at hp1 hp2 ⊢
 rw [hB] at hp1 hp2
 rw [hB, hmd, hq]
 have hB62 : B ≤ 62 := by
  rcases Nat.lt_or_ge 62 B with h | h
  ·have := Nat.pow_le_pow_right (n := 2) (by decide) (show 7 ≤ B by omega)
   omega
  ·exact h
 rw [← hmd2] at hp1 hp2
 obtain ⟨i0, hi0⟩ : ∃ i0, a + q * 2 - 1 = i0 := ⟨_, rfl⟩
 have w0 : IntKind.i64.wrap ((b : Int) - a) = (l : Int) := by rw [wrap_id (by omega)]; omega
 have w1 : (l : Int).tdiv 4 = (q : Int) := by rw [Int.tdiv_eq_ediv_of_nonneg (by omega)]; omega
 have w1' : IntKind.i64.wrap (q : Int) = (q : Int) := wrap_id (by omega)
 have w2 : IntKind.i64.wrap ((q : Int) * 2) = (q : Int) * 2 := wrap_id (by omega)
 have w3 : IntKind.i64.wrap ((a : Int) + (q : Int) * 2) = (a : Int) + (q : Int) * 2 := wrap_id (by omega)
 have w4 : IntKind.i64.wrap ((a : Int) + (q : Int) * 2 - 1) = (i0 : Int) := by rw [wrap_id (by omega)]; omega
 have w5 : IntKind.i64.wrap ((a : Int) + (q : Int) * 2 + 1) = (i0 : Int) + 2 := by rw [wrap_id (by omega)]; omega
 have w6 : IntKind.u64.wrap (l : Int) = (l : Int) := u_wrap_id (by omega)
 have w7 : IntKind.u64.wrap ((md : Int) - 1) = (md : Int) - 1 := u_wrap_id (by omega)
 have c1 : decide ((l : Int) ≥ 8) = true := by simp; omega
 simp only [slices_breakPatternsOrdered_uint64_pc, bO, bc_len, hidL_bc, imL_bc, w0, w1, w1', w2, w3, w4, w6, c1, List.length_cons, List.length_nil, Int.toNat_natCast, Int.toNat_natCast_add_one, Nat.zero_add, push_cast, ↓reduceIte, reduceCtorEq, Nat.reduceBEq, reduceEqDiff, reduceAdd, reduceSub, reduceLT, reduceLeDiff, reduceMul]
 repeat refine And.intro (by first | decide | omega | exact fun _ => by decide | (simp +contextual; done) | kernel_rfl) ?_
 refine call_mk (npow_t l (by omega)) rfl trivial ?_
 rw [hB, hmd]
 simp only [bO, bc_len, hidL_bc, imL_bc, w0, w1, w1', w2, w3, w4, w6, c1, List.length_cons, List.length_nil, Int.toNat_natCast, Int.toNat_natCast_add_one, Nat.zero_add, push_cast, ↓reduceIte, reduceCtorEq, Nat.reduceBEq, reduceEqDiff, reduceAdd, reduceSub, reduceLT, reduceLeDiff, reduceMul]
 repeat refine And.intro (by first | decide | omega | exact fun _ => by decide | (simp +contextual; done) | kernel_rfl) ?_
 generalize hN : d.size = n at *
 obtain ⟨RR, hRR⟩ : ∃ RR, brk a l md 3 i0 (UInt64.ofNat l, d) = RR := ⟨_, rfl⟩
 rw [hi0, hRR]
 refine run_loop [(9, false), (0, false), (1, false), (6, false), (7, false), (8, false)] (fun vs pos los => ∃ (s idx : Nat) (r : UInt64) (e : Array Int), s + idx = i0 + 3 ∧ s ≤ 3 ∧ e.size = n ∧ RR = brk a l md s idx (r, e) ∧ vs = [int .i64 idx, .own 1000000 0 0 n, int .i64 a, int .i64 l, .ptr 2000000 0 0, int .u64 md] ∧ pos = [bO e m] ∧ los = [.box [int .u64 r.toNat]])
  (fun vs _ _ => match vs with | .r (.v (.int _ i)) :: _ => ((i0 : Int) + 3 - i).toNat | _ => 0) rfl ?_ ?_
 ·simp only [bO, hidL_bc, imL_bc, push_cast, ↓reduceIte, reduceCtorEq, Nat.reduceBEq, reduceEqDiff, reduceAdd, reduceSub, reduceLT, reduceLeDiff, reduceMul]
  refine ⟨3, i0, UInt64.ofNat l, d, by omega, by omega, hN, hRR.symm, (by first | rfl | exact ⟨rfl, rfl⟩ | exact ⟨rfl, rfl, rfl⟩), ?_⟩
  have : (UInt64.ofNat l).toNat = l := by simp; omega
  rw [this]
  exact ⟨rfl, rfl⟩
 ·rintro vs pos los ⟨s, idx, r, e, h1, h2, he, hE, rfl, rfl, rfl⟩
  simp only [bO, bc_len, hidL_bc, imL_bc, w1, w1', w2, w3, w5, Int.toNat_natCast, Int.toNat_natCast_add_one, Nat.zero_add, push_cast, ↓reduceIte, reduceCtorEq, Nat.reduceBEq, reduceEqDiff, reduceAdd, reduceSub, reduceLT, reduceLeDiff, reduceMul]
  repeat refine And.intro (by first | decide | omega | exact fun _ => by decide | (simp +contextual; done) | kernel_rfl) ?_
  refine cnd_mk (fun hc => ?_) (fun hc => ?_)
  ·obtain ⟨s', rfl⟩ : ∃ s', s = s' + 1 := ⟨s - 1, by simp at hc; omega⟩
   simp only [bO, bc_len, hidL_bc, imL_bc, Int.toNat_natCast, Int.toNat_natCast_add_one, Nat.zero_add, push_cast, ↓reduceIte, reduceCtorEq, Nat.reduceBEq, reduceEqDiff, reduceAdd, reduceSub, reduceLT, reduceLeDiff, reduceMul]
   refine call_mk (next_t r) rfl ⟨rfl, trivial⟩ ?_
   have hx := (xorNext r).toNat_lt
   have hand := and_mask_n (xorNext r).toNat md B hB62 hmd2 hx
   obtain ⟨o, ho⟩ : ∃ o, (xorNext r).toNat &&& (md - 1) = o := ⟨_, rfl⟩
   rw [ho] at hand
   have hole : o ≤ md - 1 := by rw [← ho]; exact Nat.and_le_right
   have wo : IntKind.i64.wrap (o : Int) = (o : Int) := wrap_id (by omega)
   simp only [bO, bc_len, hidL_bc, imL_bc, w7, hand, wo, Int.toNat_natCast, Int.toNat_natCast_add_one, Nat.zero_add, push_cast, ↓reduceIte, reduceCtorEq, Nat.reduceBEq, reduceEqDiff, reduceAdd, reduceSub, reduceLT, reduceLeDiff, reduceMul]
   repeat refine And.intro (by first | decide | omega | exact fun _ => by decide | (simp +contextual; done) | kernel_rfl) ?_
   have hidx : idx < e.size := by omega
   have wi : IntKind.i64.wrap ((idx : Int) + 1) = (idx : Int) + 1 := wrap_id (by omega)
   have fin : ∀ t : Nat, t < l → (breakStep a l md (r, e) idx) = (xorNext r, swp e idx (a + t)) → brk a l md (s' + 1) idx (r, e) = brk a l md s' (idx + 1) (xorNext r, swp e idx (a + t)) := fun t ht h => by
    rw [brk, h]
   refine cnd_mk (fun hc => ?_) (fun hc => ?_)
   ·have hge : l ≤ o := by simp at hc; omega
    obtain ⟨t, rfl⟩ : ∃ t, o = l + t := ⟨o - l, by omega⟩
    have ht : t < l := by omega
    have wt : IntKind.i64.wrap (((l + t : Nat) : Int) - l) = (t : Int) := by rw [wrap_id (by omega)]; omega
    have wat : IntKind.i64.wrap ((a : Int) + t) = ((a + t : Nat) : Int) := by rw [wrap_id (by omega)]; omega
    have k1 : a + t < e.size := by omega
    have k2 : a + t < (e.setIfInBounds idx e[a + t]!).size := by simpa using k1
    have hbs := fin t ht (by
     unfold breakStep
     simp only [ho]
     rw [if_pos (by omega)]
     simp)
    generalize hat : a + t = at' at *
    generalize hlt : l + t = lt' at *
    simp only [bO, bc_len, hidL_bc, imL_bc, wt, wat, wi, bu_get (m := m) hidx, bu_get (m := m) k1, bu_get (m := m) k2, bu_set (m := m) hidx, bu_set (m := m) k2, Int.toNat_natCast, Int.toNat_natCast_add_one, Nat.zero_add, push_cast, ↓reduceIte, reduceCtorEq, Nat.reduceBEq, reduceEqDiff, reduceAdd, reduceSub, reduceLT, reduceLeDiff, reduceMul]
    repeat refine And.intro (by first | decide | omega | exact fun _ => by decide | (simp +contextual; done) | kernel_rfl) ?_
    refine ⟨⟨s', idx + 1, xorNext r, swp e idx at', by omega, by omega, by rw [swp_size]; exact he, by rw [hE, hbs], (by first | rfl | exact ⟨rfl, rfl⟩ | exact ⟨rfl, rfl, rfl⟩)⟩, by omega⟩
   ·have hlo : o < l := by simp at hc; omega
    have wat : IntKind.i64.wrap ((a : Int) + o) = ((a + o : Nat) : Int) := by rw [wrap_id (by omega)]; omega
    have k1 : a + o < e.size := by omega
    have k2 : a + o < (e.setIfInBounds idx e[a + o]!).size := by simpa using k1
    have hbs := fin o hlo (by
     unfold breakStep
     simp only [ho]
     rw [if_neg (by omega)])
    generalize hat : a + o = at' at *
    simp only [bO, bc_len, hidL_bc, imL_bc, wat, wi, bu_get (m := m) hidx, bu_get (m := m) k1, bu_get (m := m) k2, bu_set (m := m) hidx, bu_set (m := m) k2, Int.toNat_natCast, Int.toNat_natCast_add_one, Nat.zero_add, push_cast, ↓reduceIte, reduceCtorEq, Nat.reduceBEq, reduceEqDiff, reduceAdd, reduceSub, reduceLT, reduceLeDiff, reduceMul]
    repeat refine And.intro (by first | decide | omega | exact fun _ => by decide | (simp +contextual; done) | kernel_rfl) ?_
    refine ⟨⟨s', idx + 1, xorNext r, swp e idx at', by omega, by omega, by rw [swp_size]; exact he, by rw [hE, hbs], (by first | rfl | exact ⟨rfl, rfl⟩ | exact ⟨rfl, rfl, rfl⟩)⟩, by omega⟩
  ·have hs : s = 0 := by simp at hc; omega
   subst hs
   simp only [bO, bc_len, hidL_bc, imL_bc, Int.toNat_natCast, Int.toNat_natCast_add_one, Nat.zero_add, push_cast, ↓reduceIte, reduceCtorEq, Nat.reduceBEq, reduceEqDiff, reduceAdd, reduceSub, reduceLT, reduceLeDiff, reduceMul]
   rw [hE]
   rfl

open Go.Sort (swp ltInt bitsLen breakPatterns pdq insertionSort heapSort choosePivot Hint reverseRange partialInsertionSort partition partitionEqual Below PermIn SWO)
structure Rnd (e : Array Int) (a b limit : Nat) (wb wp : Bool) (d1 : Array Int) (l1 : Nat) (d2 : Array Int) (pv : Nat) (hint : Hint) (F : Bool) : Prop where
 g1 : (if !wb then breakPatterns e a b else e) = d1
 g2 : (if !wb then limit - 1 else limit) = l1
 g3 : (if (choosePivot ltInt d1 a b).2 = .decreasing then reverseRange d1 a b else d1) = d2
 g4 : (if (choosePivot ltInt d1 a b).2 = .decreasing then (b - 1) - ((choosePivot ltInt d1 a b).1 - a) else (choosePivot ltInt d1 a b).1) = pv
 g5 : (if (choosePivot ltInt d1 a b).2 = .decreasing then Hint.increasing else (choosePivot ltInt d1 a b).2) = hint
 g6 : ((wb && wp && decide (hint = .increasing)) && (partialInsertionSort ltInt d2 a b).2) = F
section
variable {e d1 d2 : Array Int} {a b limit l1 pv : Nat} {wb wp F : Bool} {hint : Hint}
theorem pdq_small (h : b - a ≤ 12) : pdq ltInt e a b limit wb wp = insertionSort ltInt e a b := by rw [pdq, if_pos h]
theorem pdq_heap (h : ¬ b - a ≤ 12) (h0 : limit = 0) : pdq ltInt e a b limit wb wp = heapSort ltInt e a b := by rw [pdq, if_neg h, if_pos h0]
theorem pi_eq (hs : b - a < 50) (c : Bool) : (if c = true then partialInsertionSort ltInt d2 a b else (d2, false)) = (d2, c && (partialInsertionSort ltInt d2 a b).2) := by
 cases c
 ·rfl
 ·simp only [if_true, Bool.true_and]
  rw [pins_eq hs]
theorem Rnd.eq (R : Rnd e a b limit wb wp d1 l1 d2 pv hint F) (h : ¬ b - a ≤ 12) (h0 : limit ≠ 0) (hs : b - a < 50) :
  pdq ltInt e a b limit wb wp = if F = true then d2 else
   if (decide (a > 0) && !ltInt d2[a - 1]! d2[pv]!) = true then
    match partitionEqual ltInt d2 a b pv with
    | (mid, d4) => if _h : a < mid ∧ mid ≤ b then pdq ltInt d4 mid b l1 wb wp else d4
   else
    match partition ltInt d2 a b pv with
    | (mid, ap, d4) =>
     if _h : a ≤ mid ∧ mid < b then
      if mid - a < b - mid then pdq ltInt (pdq ltInt d4 a mid l1 true true) (mid + 1) b l1 (decide (mid - a ≥ (b - a) / 8)) ap
      else pdq ltInt (pdq ltInt d4 (mid + 1) b l1 true true) a mid l1 (decide (b - mid ≥ (b - a) / 8)) ap
     else d4 := by
 rw [pdq, if_neg h, if_neg h0]
 simp only [R.g1, R.g2, R.g3, R.g4, R.g5, pi_eq hs, R.g6]
theorem Rnd.facts (R : Rnd e a b limit wb wp d1 l1 d2 pv hint F) (h : a < b) (hb : b ≤ e.size) (hB : Below ltInt a b e) :
  d1.size = e.size ∧ d2.size = e.size ∧ l1 ≤ limit ∧ Below ltInt a b d2 ∧ a ≤ pv ∧ pv < b := by
 have s1 : PermIn a b e d1 := by
  rw [← R.g1]
  split
  ·exact Go.Sort.breakPatterns_holds e a b (by omega) hb
  ·exact Go.Sort.permIn_refl e a b
 have b1 : b ≤ d1.size := by rw [s1.1]; exact hb
 have s2 : PermIn a b d1 d2 := by
  rw [← R.g3]
  split
  ·exact Go.Sort.reverseRange_holds d1 a b (by omega) b1
  ·exact Go.Sort.permIn_refl d1 a b
 have hc := Go.Sort.choosePivot_holds ltInt d1 a b h
 refine ⟨s1.1, s2.1.trans s1.1, by rw [← R.g2]; split <;> omega, (hB.perm hb s1).perm b1 s2, ?_, ?_⟩
 ·rw [← R.g4]; split <;> omega
 ·rw [← R.g4]; split <;> omega
theorem Rnd.eqs (R : Rnd e a b limit wb wp d1 l1 d2 pv hint F) (h : ¬ b - a ≤ 12) (hb : b ≤ e.size) (hB : Below ltInt a b e)
  (hnl : (decide (a > 0) && !ltInt d2[a - 1]! d2[pv]!) = true) {mid : Nat} {d4 : Array Int} (hx : partitionEqual ltInt d2 a b pv = (mid, d4)) :
  a < mid ∧ mid ≤ b ∧ d4.size = e.size ∧ Below ltInt mid b d4 := by
 obtain ⟨f1, f2, f3, f4, f5, f6⟩ := R.facts (by omega) hb hB
 simp only [Bool.and_eq_true, decide_eq_true_eq, Bool.not_eq_true'] at hnl
 obtain ⟨r1, r2, r3, r4, _⟩ := Go.Sort.round_eq Go.Sort.swo_ltInt (Go.Sort.partitionEqual_holds ltInt) hnl.1 f5 f6 (by omega) f4 hnl.2 hx
 exact ⟨r1, r2, r3.trans f2, r4⟩
theorem Rnd.parts (R : Rnd e a b limit wb wp d1 l1 d2 pv hint F) (h : ¬ b - a ≤ 12) (hb : b ≤ e.size) (hB : Below ltInt a b e) {mid : Nat} {ap : Bool} {d4 : Array Int} (hx : partition ltInt d2 a b pv = (mid, ap, d4)) :
  a ≤ mid ∧ mid < b ∧ d4.size = e.size ∧ Below ltInt a mid d4 ∧ Below ltInt (mid + 1) b d4 ∧
  (pdq ltInt d4 a mid l1 true true).size = e.size ∧ Below ltInt (mid + 1) b (pdq ltInt d4 a mid l1 true true) ∧
  (pdq ltInt d4 (mid + 1) b l1 true true).size = e.size ∧ Below ltInt a mid (pdq ltInt d4 (mid + 1) b l1 true true) := by
 obtain ⟨f1, f2, f3, f4, f5, f6⟩ := R.facts (by omega) hb hB
 obtain ⟨g1, g2, hs4, hBa, hBr, hl, hr⟩ := Go.Sort.round_part Go.Sort.swo_ltInt (Go.Sort.partition_holds ltInt) f5 f6 (by omega) f4 hx
 have p1 := Go.Sort.pdq_sorts ltInt Go.Sort.swo_ltInt d4 a mid l1 true true g1 (by omega) hBa
 have p2 := Go.Sort.pdq_sorts ltInt Go.Sort.swo_ltInt d4 (mid + 1) b l1 true true (by omega) (by omega) hBr
 exact ⟨g1, g2, hs4.trans f2, hBa, hBr, p1.1.1.trans (hs4.trans f2), (hl _ p1.1 p1.2).1, p2.1.1.trans (hs4.trans f2), (hr _ p2.1 p2.2).1⟩
end

open Go.Sort (swp ltInt bitsLen breakPatterns pdq insertionSort heapSort choosePivot Hint reverseRange partialInsertionSort partition partitionEqual Below PermIn SWO)
noncomputable def slices_pdqsortOrdered_uint64_pc : PC :=
  (.seq (.reg [p_s 8 (.mov (.c (.r (.v (.bool true)))))])
 (.seq (.reg [p_s 9 (.mov (.c (.r (.v (.bool true)))))])
 (.block 0 (.loop (.block 1 (.seq (.reg [p_m 19 2, p_m 20 1, p_s 21 (.bin .sub (.t 19) (.t 20)), p_m 10 21])
 (.seq (.seq (.reg [p_m 22 10, p_s 23 (.bin .leq (.t 22) (o_i 12))])
 (.cond (.t 23)
 (.seq (.reg [p_m 24 0, p_m 25 1, p_m 26 2, p_c 27 1 150 [.t 24, .t 25, .t 26]])
 .ret)
 .skip))
 (.seq (.seq (.reg [p_m 28 3, p_s 29 (.bin .eql (.t 28) (o_i 0))])
 (.cond (.t 29)
 (.seq (.reg [p_m 30 0, p_m 31 1, p_m 32 2, p_c 33 2 151 [.t 30, .t 31, .t 32]])
 .ret)
 .skip))
 (.seq (.seq (.reg [p_m 34 8, p_s 35 (.un .not (.t 34))])
 (.cond (.t 35)
 (.seq (.reg [p_m 36 0, p_m 37 1, p_m 38 2, p_c 39 3 152 [.t 36, .t 37, .t 38]])
 (.reg [p_m 40 3, p_s 41 (.bin .sub (.t 40) (o_i 1)), p_m 3 41]))
 .skip))
 (.seq (.reg [p_m 43 0, p_m 44 1, p_m 45 2, p_c 46 4 153 [.t 43, .t 44, .t 45], p_m 42 46, p_s 47 (.ext (.t 42) 0), p_s 48 (.ext (.t 42) 1), p_m 11 47, p_m 12 48])
 (.seq (.seq (.reg [p_m 49 12, p_s 50 (.bin .eql (.t 49) (o_i 2))])
 (.cond (.t 50)
 (.seq (.reg [p_m 51 0, p_m 52 1, p_m 53 2, p_c 54 5 154 [.t 51, .t 52, .t 53]])
 (.seq (.reg [p_m 55 2, p_s 56 (.bin .sub (.t 55) (o_i 1)), p_m 57 11, p_m 58 1, p_s 59 (.bin .sub (.t 57) (.t 58)), p_s 60 (.bin .sub (.t 56) (.t 59)), p_m 11 60])
 (.reg [p_s 12 (.mov (o_i 1))])))
 .skip))
 (.seq (.seq (.reg [p_m 61 8, p_m 62 61, p_g 63 62 true (.mov (.t 9)), p_s 64 (.pick (.t 62) (.t 63) (.c (.r (.v (.bool false))))), p_m 65 64, p_g 66 65 true (.mov (.t 12)), p_g 67 65 true (.bin .eql (.t 66) (o_i 1)),
 p_s 68 (.pick (.t 65) (.t 67) (.c (.r (.v (.bool false)))))])
 (.cond (.t 68)
 (.seq (.reg [p_m 69 0, p_m 70 1, p_m 71 2, p_c 72 6 155 [.t 69, .t 70, .t 71]])
 (.cond (.t 72)
 .ret
 .skip))
 .skip))
 (.seq (.seq (.drw [p_m 73 1, p_s 74 (.bin .gtr (.t 73) (o_i 0)), p_m 75 74, p_g 76 75 true (.mov (.t 0)), p_g 77 75 true (.mov (.t 1)), p_g 78 75 true (.bin .sub (.t 77) (o_i 1)),
 p_g 79 75 true (.ia 1 (.v (.int .u64 0)) (.t 76) (.t 78)), p_g 80 75 true (.ld none (.t 79)), p_g 81 75 true (.mov (.t 0)), p_g 82 75 true (.mov (.t 11)), p_g 83 75 true (.ia 1 (.v (.int .u64 0)) (.t 81) (.t 82)),
 p_g 84 75 true (.ld none (.t 83)), ⟨(some 85), (some (75, true)), 7, .call 156 [(.t 80), (.t 84)]⟩, p_g 86 75 true (.un .not (.t 85)), p_s 87 (.pick (.t 75) (.t 86) (.c (.r (.v (.bool false)))))]
 [[], [0], [0, 1], [0, 1, 2], [0, 1, 2], [0, 1, 2, 4], [0, 1, 2, 3, 4, 5], [0, 1, 2, 3, 4, 5, 6], [0, 1, 2], [0, 1, 2], [0, 1, 2, 8, 9], [0, 1, 2, 8, 9, 10], [0, 1, 2, 3, 4, 5, 6, 7, 8, 9, 10, 11], [0, 1, 2, 3, 4, 5, 6, 7, 8, 9, 10, 11, 12], [0, 1, 2, 3, 4, 5, 6, 7, 8, 9, 10, 11, 12, 13]])
 (.cond (.t 87)
 (.seq (.reg [p_m 88 0, p_m 89 1, p_m 90 2, p_m 91 11, p_c 92 8 157 [.t 88, .t 89, .t 90, .t 91], p_m 13 92])
 (.seq (.reg [p_m 93 13, p_m 1 93])
 (.exit 1)))
 .skip))
 (.seq (.reg [p_m 95 0, p_m 96 1, p_m 97 2, p_m 98 11, p_c 99 9 158 [.t 95, .t 96, .t 97, .t 98], p_m 94 99, p_s 100 (.ext (.t 94) 0), p_s 101 (.ext (.t 94) 1), p_m 14 100, p_m 15 101])
 (.seq (.reg [p_m 102 15, p_m 9 102])
 (.seq (.reg [p_m 103 14, p_m 104 1, p_s 105 (.bin .sub (.t 103) (.t 104)), p_m 106 2, p_m 107 14, p_s 108 (.bin .sub (.t 106) (.t 107)), p_m 16 105, p_m 17 108])
 (.seq (.reg [p_m 109 10, p_s 110 (.bin .quo (.t 109) (o_i 8)), p_m 18 110])
 (.seq (.reg [p_m 111 16, p_m 112 17, p_s 113 (.bin .lss (.t 111) (.t 112))])
 (.cond (.t 113)
 (.seq (.reg [p_m 114 16, p_m 115 18, p_s 116 (.bin .geq (.t 114) (.t 115)), p_m 8 116])
 (.seq (.reg [p_m 117 0, p_m 118 1, p_m 119 14, p_m 120 3, p_c 121 10 117 [.t 117, .t 118, .t 119, .t 120]])
 (.reg [p_m 122 14, p_s 123 (.bin .add (.t 122) (o_i 1)), p_m 1 123])))
 (.seq (.reg [p_m 124 17, p_m 125 18, p_s 126 (.bin .geq (.t 124) (.t 125)), p_m 8 126])
 (.seq (.reg [p_m 127 0, p_m 128 14, p_s 129 (.bin .add (.t 128) (o_i 1)), p_m 130 2, p_m 131 3, p_c 132 11 117 [.t 127, .t 129, .t 130, .t 131]])
 (.reg [p_m 133 14, p_m 2 133]))))))))))))))))))))))
theorem slices_pdqsortOrdered_uint64_triple : Fun Go.Proofs.Tryz.prog 117 4 [] slices_pdqsortOrdered_uint64_pc := fun_mk Go.Proofs.Tryz.func117 rfl (by decide) (by kernel_rfl) (by decide) rfl (by kernel_rfl) (by kernel_rfl) (by decide)
theorem upd_upd (i : Nat) (x y : Nat × Ob) (f : Obs) : upd i x (upd i y f) = upd i x f := by
 funext n
 simp only [upd]
 split <;> rfl
def PdqT (m N : Nat) : Prop := ∀ (d : Array Int) (a b limit : Nat), b - a ≤ N → a ≤ b → b ≤ d.size → d.size < 50 → limit ≤ 100 → Below ltInt a b d →
  Triple Go.Proofs.Tryz.prog 117 [.own 1000000 0 0 d.size, int .i64 a, int .i64 b, int .i64 limit] [bO d m] (.tup []) [bO (pdq ltInt d a b limit true true) m]
theorem sl_bO {m : Nat} {f g : Array Int} (h : g.size = f.size) : sameLen [bO f m] [bO g m] := ⟨by rw [bc_len, bc_len, h], trivial⟩
set_option maxHeartbeats 2000000 in
theorem pdq_step (m N : Nat) (ih : ∀ N', N' < N → PdqT m N') : PdqT m N := by
 intro d a b limit hN hab hb hn hlim hB
 refine slices_pdqsortOrdered_uint64_triple rfl (by simp) ?_
 obtain ⟨RR, hRR⟩ : ∃ RR, pdq ltInt d a b limit true true = RR := ⟨_, rfl⟩
 rw [hRR]
 simp only [slices_pdqsortOrdered_uint64_pc, bO, bc_len, hidL_bc, imL_bc, List.length_cons, List.length_nil, Int.toNat_natCast, Int.toNat_natCast_add_one, Nat.zero_add, push_cast, ↓reduceIte, reduceCtorEq, Nat.reduceBEq, reduceEqDiff, reduceAdd, reduceSub, reduceLT, reduceLeDiff, reduceMul]
 repeat refine And.intro (by first | decide | omega | exact fun _ => by decide | (simp +contextual; done) | kernel_rfl) ?_
 obtain ⟨n, hnn⟩ : ∃ n, d.size = n := ⟨_, rfl⟩
 rw [hnn] at hb hn ⊢
 refine run_loop [(8, false), (9, false), (0, false), (1, false), (2, false), (3, false)] (fun vs pos los => ∃ (a b limit : Nat) (wb wp : Bool) (e : Array Int), a ≤ b ∧ b ≤ n ∧ e.size = n ∧ b - a ≤ N ∧ limit ≤ 100 ∧ Below ltInt a b e ∧ RR = pdq ltInt e a b limit wb wp ∧ vs = [bl wb, bl wp, .own 1000000 0 0 n, int .i64 a, int .i64 b, int .i64 limit] ∧ pos = [bO e m] ∧ los = [])
  (fun vs _ _ => match vs with | [_, _, _, .r (.v (.int _ a)), .r (.v (.int _ b)), _] => (b - a).toNat | _ => 0) rfl ?_ ?_
 ·simp only [bO, hidL_bc, imL_bc, push_cast, ↓reduceIte, reduceCtorEq, Nat.reduceBEq, reduceEqDiff, reduceAdd, reduceSub, reduceLT, reduceLeDiff, reduceMul]
  exact ⟨a, b, limit, true, true, d, hab, hb, hnn, hN, hlim, hB, hRR.symm, (by first | rfl | exact ⟨rfl, rfl⟩ | exact ⟨rfl, rfl, rfl⟩)⟩
 ·clear hRR hB hlim hN hab hb hnn
  rintro vs pos los ⟨a, b, limit, wb, wp, e, hab, hb, he, hN, hlim, hB, hRR, rfl, rfl, rfl⟩
  have w0 : IntKind.i64.wrap ((b : Int) - a) = (b : Int) - a := wrap_id (by omega)
  obtain ⟨l, hl⟩ : ∃ l, b - a = l := ⟨_, rfl⟩
  have w0 : IntKind.i64.wrap ((b : Int) - a) = (l : Int) := by rw [wrap_id (by omega)]; omega
  simp only [bO, bc_len, hidL_bc, imL_bc, w0, Int.toNat_natCast, Int.toNat_natCast_add_one, Nat.zero_add, push_cast, ↓reduceIte, reduceCtorEq, Nat.reduceBEq, reduceEqDiff, reduceAdd, reduceSub, reduceLT, reduceLeDiff, reduceMul]
  refine cnd_mk (fun hc => ?_) (fun hc => ?_)
  ·have h12 : b - a ≤ 12 := by simp at hc; omega
   simp only [bO, bc_len, hidL_bc, imL_bc, Int.toNat_natCast, Int.toNat_natCast_add_one, Nat.zero_add, push_cast, ↓reduceIte, reduceCtorEq, Nat.reduceBEq, reduceEqDiff, reduceAdd, reduceSub, reduceLT, reduceLeDiff, reduceMul]
   have ht := ins_t e a b hab (by omega) (by omega) m
   rw [he] at ht
   refine call_mk ht rfl (sl_bO (Go.Sort.insertionSort_holds Go.Sort.swo_ltInt e a b hab (by omega)).1.1) ?_
   rw [hRR, pdq_small h12]
   simp only [bO, bc_len, hidL_bc, imL_bc, Int.toNat_natCast, Int.toNat_natCast_add_one, Nat.zero_add, push_cast, ↓reduceIte, reduceCtorEq, Nat.reduceBEq, reduceEqDiff, reduceAdd, reduceSub, reduceLT, reduceLeDiff, reduceMul]
  ·have h12 : ¬ b - a ≤ 12 := by simp at hc; omega
   simp only [bO, bc_len, hidL_bc, imL_bc, Int.toNat_natCast, Int.toNat_natCast_add_one, Nat.zero_add, push_cast, ↓reduceIte, reduceCtorEq, Nat.reduceBEq, reduceEqDiff, reduceAdd, reduceSub, reduceLT, reduceLeDiff, reduceMul]
   refine cnd_mk (fun hc2 => ?_) (fun hc2 => ?_)
   ·have h0 : limit = 0 := by simp at hc2; omega
    simp only [bO, bc_len, hidL_bc, imL_bc, Int.toNat_natCast, Int.toNat_natCast_add_one, Nat.zero_add, push_cast, ↓reduceIte, reduceCtorEq, Nat.reduceBEq, reduceEqDiff, reduceAdd, reduceSub, reduceLT, reduceLeDiff, reduceMul]
    have ht := heap_t e a b (by omega) (by omega) (by omega) m
    rw [he] at ht
    refine call_mk ht rfl (sl_bO (Go.Sort.heapSort_holds Go.Sort.swo_ltInt e a b hab (by omega)).1.1) ?_
    rw [hRR, pdq_heap h12 h0]
    simp only [bO, bc_len, hidL_bc, imL_bc, Int.toNat_natCast, Int.toNat_natCast_add_one, Nat.zero_add, push_cast, ↓reduceIte, reduceCtorEq, Nat.reduceBEq, reduceEqDiff, reduceAdd, reduceSub, reduceLT, reduceLeDiff, reduceMul]
   ·have h0 : limit ≠ 0 := by simp at hc2; omega
    simp only [bO, bc_len, hidL_bc, imL_bc, Int.toNat_natCast, Int.toNat_natCast_add_one, Nat.zero_add, push_cast, ↓reduceIte, reduceCtorEq, Nat.reduceBEq, reduceEqDiff, reduceAdd, reduceSub, reduceLT, reduceLeDiff, reduceMul]
    refine cnd_join (fun E ob => ∃ (d1 : Array Int) (l1 : Nat), (if !wb then breakPatterns e a b else e) = d1 ∧ (if !wb then limit - 1 else limit) = l1 ∧ E 0 = .own 1000000 0 0 n ∧ E 1 = int .i64 a ∧ E 2 = int .i64 b ∧ E 3 = int .i64 l1 ∧ E 8 = bl wb ∧ E 9 = bl wp ∧ E 10 = int .i64 l ∧ ob = upd 1000000 (0, bO d1 m) (fun _ => none)) ?_ (fun hc3 => ?_) (fun hc3 => ?_)
    ·rintro E ob ⟨d1, l1, q1, q2, e0, e1, e2, e3, e8, e9, e10, rfl⟩
     have hz1 : d1.size = n := by
      rw [← he, ← q1]
      split
      ·exact (Go.Sort.breakPatterns_holds e a b hab (by omega)).1
      ·rfl
     simp only [bO, bc_len, hidL_bc, imL_bc, e0, e1, e2, e3, e8, e9, e10, Int.toNat_natCast, Int.toNat_natCast_add_one, Nat.zero_add, push_cast, ↓reduceIte, reduceCtorEq, Nat.reduceBEq, reduceEqDiff, reduceAdd, reduceSub, reduceLT, reduceLeDiff, reduceMul]
     have ht := pivot_t d1 a b (by omega) (by omega) (by omega) m
     rw [hz1] at ht
     refine call_mk ht rfl (sl_bO rfl) ?_
     clear ht
     obtain ⟨c, h, hch⟩ : ∃ c h, choosePivot ltInt d1 a b = (c, h) := ⟨_, _, rfl⟩
     have hcr := Go.Sort.choosePivot_holds ltInt d1 a b (by omega)
     rw [hch] at hcr ⊢
     simp only at hcr
     simp only [bO, bc_len, hidL_bc, imL_bc, e0, e1, e2, e3, e8, e9, e10, Int.toNat_natCast, Int.toNat_natCast_add_one, Nat.zero_add, push_cast, ↓reduceIte, reduceCtorEq, Nat.reduceBEq, reduceEqDiff, reduceAdd, reduceSub, reduceLT, reduceLeDiff, reduceMul]
     refine cnd_join (fun E ob => ∃ (d2 : Array Int) (pv : Nat) (hint : Hint), (if h = .decreasing then reverseRange d1 a b else d1) = d2 ∧ (if h = .decreasing then (b - 1) - (c - a) else c) = pv ∧ (if h = .decreasing then Hint.increasing else h) = hint ∧ E 0 = .own 1000000 0 0 n ∧ E 1 = int .i64 a ∧ E 2 = int .i64 b ∧ E 3 = int .i64 l1 ∧ E 8 = bl wb ∧ E 9 = bl wp ∧ E 10 = int .i64 l ∧ E 11 = int .i64 pv ∧ E 12 = int .i64 (hintN hint) ∧ ob = upd 1000000 (0, bO d2 m) (fun _ => none)) ?_ (fun hc4 => ?_) (fun hc4 => ?_)
     ·clear e0 e1 e2 e3 e8 e9 e10 E
      rintro E ob ⟨d2, pv, hint, q3, q4, q5, e0, e1, e2, e3, e8, e9, e10, e11, e12, rfl⟩
      simp only [bO, bc_len, hidL_bc, imL_bc, e0, e1, e2, e3, e8, e9, e10, e11, e12, Int.toNat_natCast, Int.toNat_natCast_add_one, Nat.zero_add, push_cast, ↓reduceIte, reduceCtorEq, Nat.reduceBEq, reduceEqDiff, reduceAdd, reduceSub, reduceLT, reduceLeDiff, reduceMul]
      have hG : (bif bif wb then wp else false then hintN hint == 1 else false) = (wb && wp && decide (hint = .increasing)) := by cases wb <;> cases wp <;> cases hint <;> rfl
      have R : Rnd e a b limit wb wp d1 l1 d2 pv hint ((wb && wp && decide (hint = .increasing)) && (partialInsertionSort ltInt d2 a b).2) := ⟨q1, q2, by rw [hch]; exact q3, by rw [hch]; exact q4, by rw [hch]; exact q5, rfl⟩
      obtain ⟨hz1', hz2, hl1, hB2, hpv1, hpv2⟩ := R.facts (by omega) (by omega) hB
      have hRe := R.eq h12 h0 (by omega)
      refine cnd_join (fun E ob => ((wb && wp && decide (hint = .increasing)) && (partialInsertionSort ltInt d2 a b).2) = false ∧ E 0 = .own 1000000 0 0 n ∧ E 1 = int .i64 a ∧ E 2 = int .i64 b ∧ E 3 = int .i64 l1 ∧ E 8 = bl wb ∧ E 9 = bl wp ∧ E 10 = int .i64 l ∧ E 11 = int .i64 pv ∧ ob = upd 1000000 (0, bO d2 m) (fun _ => none)) ?_ (fun hc5 => ?_) (fun hc5 => ?_)
      ·clear e0 e1 e2 e3 e8 e9 e10 e11 e12 E
       rintro E ob ⟨hF, e0, e1, e2, e3, e8, e9, e10, e11, rfl⟩
       rw [hF] at R hRe
       rw [if_neg (by simp)] at hRe
       clear hG hF
       by_cases ha0 : 0 < a
       ·obtain ⟨a1, rfl⟩ : ∃ a1, a = a1 + 1 := ⟨a - 1, by omega⟩
        have g0 : decide ((a1 : Int) + 1 > 0) = true := by rw [decide_eq_true_eq]; omega
        have wk : IntKind.i64.wrap ((a1 : Int) + 1 - 1) = (a1 : Int) := by rw [wrap_id (by omega)]; omega
        have k1 : a1 < d2.size := by omega
        have k2 : pv < d2.size := by omega
        simp only [bO, bc_len, hidL_bc, imL_bc, g0, wk, e0, e1, e2, e3, e8, e9, e10, e11, bu_get (m := m) k1, bu_get (m := m) k2, Int.toNat_natCast, Int.toNat_natCast_add_one, Nat.zero_add, push_cast, ↓reduceIte, reduceCtorEq, Nat.reduceBEq, reduceEqDiff, reduceAdd, reduceSub, reduceLT, reduceLeDiff, reduceMul]
        repeat refine And.intro (by first | decide | omega | exact fun _ => by decide | (simp +contextual; done) | kernel_rfl) ?_
        refine dcall_mk (lt_t d2[a1]! d2[pv]!) rfl trivial ?_
        simp only [bO, bc_len, hidL_bc, imL_bc, g0, wk, e0, e1, e2, e3, e8, e9, e10, e11, bu_get (m := m) k1, bu_get (m := m) k2, Int.toNat_natCast, Int.toNat_natCast_add_one, Nat.zero_add, push_cast, ↓reduceIte, reduceCtorEq, Nat.reduceBEq, reduceEqDiff, reduceAdd, reduceSub, reduceLT, reduceLeDiff, reduceMul]
        repeat refine And.intro (by first | decide | omega | exact fun _ => by decide | (simp +contextual; done) | kernel_rfl) ?_
        refine cnd_mk (fun hc7 => ?_) (fun hc7 => ?_)
        ·have hcon : (decide (a1 + 1 > 0) && !ltInt d2[a1 + 1 - 1]! d2[pv]!) = true := by simpa using hc7
         have ht := parteq_t d2 (a1 + 1) b pv (by omega) (by omega) (by omega) (by omega) m
         rw [hz2, he] at ht
         obtain ⟨mid, d4, hx⟩ : ∃ mid d4, partitionEqual ltInt d2 (a1 + 1) b pv = (mid, d4) := ⟨_, _, rfl⟩
         obtain ⟨r1, r2, r3, r4⟩ := R.eqs h12 (by omega) hB hcon hx
         rw [hx] at ht hRe
         simp only at ht
         rw [if_pos hcon] at hRe
         simp only [dif_pos (show a1 + 1 < mid ∧ mid ≤ b from ⟨r1, r2⟩)] at hRe
         simp only [bO, bc_len, hidL_bc, imL_bc, g0, wk, e0, e1, e2, e3, e8, e9, e10, e11, Int.toNat_natCast, Int.toNat_natCast_add_one, Nat.zero_add, push_cast, ↓reduceIte, reduceCtorEq, Nat.reduceBEq, reduceEqDiff, reduceAdd, reduceSub, reduceLT, reduceLeDiff, reduceMul]
         refine call_mk ht rfl (sl_bO (by omega)) ?_
         simp only [bO, bc_len, hidL_bc, imL_bc, g0, wk, e0, e1, e2, e3, e8, e9, e10, e11, Int.toNat_natCast, Int.toNat_natCast_add_one, Nat.zero_add, push_cast, ↓reduceIte, reduceCtorEq, Nat.reduceBEq, reduceEqDiff, reduceAdd, reduceSub, reduceLT, reduceLeDiff, reduceMul]
         exact ⟨⟨mid, b, l1, wb, wp, d4, by omega, by omega, by omega, by omega, by omega, r4, by rw [hRR, hRe], (by first | rfl | exact ⟨rfl, rfl⟩ | exact ⟨rfl, rfl, rfl⟩)⟩, by omega⟩
        ·have hcon : ¬ (decide (a1 + 1 > 0) && !ltInt d2[a1 + 1 - 1]! d2[pv]!) = true := by simpa using hc7
         simp only [bO, bc_len, hidL_bc, imL_bc, g0, wk, e0, e1, e2, e3, e8, e9, e10, e11, Int.toNat_natCast, Int.toNat_natCast_add_one, Nat.zero_add, push_cast, ↓reduceIte, reduceCtorEq, Nat.reduceBEq, reduceEqDiff, reduceAdd, reduceSub, reduceLT, reduceLeDiff, reduceMul]
         have ht := part_t d2 (a1 + 1) b pv (by omega) (by omega) (by omega) (by omega) m
         rw [hz2, he] at ht
         obtain ⟨mid, ap, d4, hx⟩ : ∃ mid ap d4, partition ltInt d2 (a1 + 1) b pv = (mid, ap, d4) := ⟨_, _, _, rfl⟩
         obtain ⟨r1, r2, r3, r4, r5, r6, r7, r8, r9⟩ := R.parts h12 (by omega) hB hx
         rw [hx] at ht hRe
         simp only at ht
         refine call_mk ht rfl (sl_bO (by omega)) ?_
         rw [if_neg (by exact hcon)] at hRe
         simp only [dif_pos (show (a1 + 1) ≤ mid ∧ mid < b from ⟨r1, r2⟩)] at hRe
         obtain ⟨t8, ht8⟩ : ∃ t8, (b - (a1 + 1)) / 8 = t8 := ⟨_, rfl⟩
         obtain ⟨x, hx'⟩ : ∃ x, mid - (a1 + 1) = x := ⟨_, rfl⟩
         obtain ⟨y, hy'⟩ : ∃ y, b - mid = y := ⟨_, rfl⟩
         have wx : IntKind.i64.wrap ((mid : Int) - ((a1 : Int) + 1)) = (x : Int) := by rw [wrap_id (by omega)]; omega
         have wy : IntKind.i64.wrap ((b : Int) - mid) = (y : Int) := by rw [wrap_id (by omega)]; omega
         have w8 : (l : Int).tdiv 8 = (t8 : Int) := by rw [Int.tdiv_eq_ediv_of_nonneg (by omega)]; omega
         have w8' : IntKind.i64.wrap (t8 : Int) = (t8 : Int) := wrap_id (by omega)
         have wm : IntKind.i64.wrap ((mid : Int) + 1) = ((mid + 1 : Nat) : Int) := by rw [wrap_id (by omega)]; omega
         have dx : decide ((x : Int) ≥ (t8 : Int)) = decide (x ≥ t8) := by simp
         have dy : decide ((y : Int) ≥ (t8 : Int)) = decide (y ≥ t8) := by simp
         rw [ht8, hx', hy'] at hRe
         clear ht
         simp only [bO, bc_len, hidL_bc, imL_bc, wx, wy, w8, w8', dx, dy, e0, e1, e2, e3, e8, e9, e10, e11, Int.toNat_natCast, Int.toNat_natCast_add_one, Nat.zero_add, push_cast, ↓reduceIte, reduceCtorEq, Nat.reduceBEq, reduceEqDiff, reduceAdd, reduceSub, reduceLT, reduceLeDiff, reduceMul]
         repeat refine And.intro (by first | decide | omega | exact fun _ => by decide | (simp +contextual; done) | kernel_rfl) ?_
         refine cnd_mk (fun hcp => ?_) (fun hcp => ?_)
         ·have hlt : x < y := by simpa using hcp
          rw [if_pos hlt] at hRe
          have ht := ih (mid - (a1 + 1)) (by omega) d4 (a1 + 1) mid l1 (by omega) r1 (by omega) (by omega) (by omega) r4
          rw [r3, he] at ht
          generalize hmm : mid + 1 = mid1 at *
          simp only [bO, bc_len, hidL_bc, imL_bc, wx, wy, wm, w8, w8', dx, dy, e0, e1, e2, e3, e8, e9, e10, e11, Int.toNat_natCast, Int.toNat_natCast_add_one, Nat.zero_add, push_cast, ↓reduceIte, reduceCtorEq, Nat.reduceBEq, reduceEqDiff, reduceAdd, reduceSub, reduceLT, reduceLeDiff, reduceMul]
          refine call_mk ht rfl (sl_bO (by omega)) ?_
          simp only [bO, bc_len, hidL_bc, imL_bc, wx, wy, wm, w8, w8', dx, dy, e0, e1, e2, e3, e8, e9, e10, e11, Int.toNat_natCast, Int.toNat_natCast_add_one, Nat.zero_add, push_cast, ↓reduceIte, reduceCtorEq, Nat.reduceBEq, reduceEqDiff, reduceAdd, reduceSub, reduceLT, reduceLeDiff, reduceMul]
          exact ⟨⟨mid1, b, l1, decide (x ≥ t8), ap, pdq ltInt d4 (a1 + 1) mid l1 true true, by omega, by omega, by omega, by omega, by omega, r7, by rw [hRR, hRe], (by first | rfl | exact ⟨rfl, rfl⟩ | exact ⟨rfl, rfl, rfl⟩)⟩, by omega⟩
         ·have hlt : ¬ x < y := by simpa using hcp
          rw [if_neg hlt] at hRe
          have ht := ih (b - (mid + 1)) (by omega) d4 (mid + 1) b l1 (by omega) (by omega) (by omega) (by omega) (by omega) r5
          rw [r3, he] at ht
          generalize hmm : mid + 1 = mid1 at *
          simp only [bO, bc_len, hidL_bc, imL_bc, wx, wy, wm, w8, w8', dx, dy, e0, e1, e2, e3, e8, e9, e10, e11, Int.toNat_natCast, Int.toNat_natCast_add_one, Nat.zero_add, push_cast, ↓reduceIte, reduceCtorEq, Nat.reduceBEq, reduceEqDiff, reduceAdd, reduceSub, reduceLT, reduceLeDiff, reduceMul]
          refine call_mk ht rfl (sl_bO (by omega)) ?_
          simp only [bO, bc_len, hidL_bc, imL_bc, wx, wy, wm, w8, w8', dx, dy, e0, e1, e2, e3, e8, e9, e10, e11, Int.toNat_natCast, Int.toNat_natCast_add_one, Nat.zero_add, push_cast, ↓reduceIte, reduceCtorEq, Nat.reduceBEq, reduceEqDiff, reduceAdd, reduceSub, reduceLT, reduceLeDiff, reduceMul]
          exact ⟨⟨(a1 + 1), mid, l1, decide (y ≥ t8), ap, pdq ltInt d4 mid1 b l1 true true, by omega, by omega, by omega, by omega, by omega, r9, by rw [hRR, hRe], (by first | rfl | exact ⟨rfl, rfl⟩ | exact ⟨rfl, rfl, rfl⟩)⟩, by omega⟩
       ·obtain rfl : a = 0 := by omega
        have g0 : decide (((0 : Nat) : Int) > 0) = false := by decide
        have g0' : decide ((0 : Int) > 0) = false := by decide
        have wk : True := trivial
        have hcon : ¬ (decide (0 > 0) && !ltInt d2[0 - 1]! d2[pv]!) = true := by simp
        simp only [bO, bc_len, hidL_bc, imL_bc, g0, g0', e0, e1, e2, e3, e8, e9, e10, e11, Int.toNat_natCast, Int.toNat_natCast_add_one, Nat.zero_add, push_cast, ↓reduceIte, reduceCtorEq, Nat.reduceBEq, reduceEqDiff, reduceAdd, reduceSub, reduceLT, reduceLeDiff, reduceMul]
        repeat refine And.intro (by first | decide | omega | exact fun _ => by decide | (simp +contextual; done) | kernel_rfl) ?_
        try simp only [bO, bc_len, hidL_bc, imL_bc, g0, wk, e0, e1, e2, e3, e8, e9, e10, e11, Int.toNat_natCast, Int.toNat_natCast_add_one, Nat.zero_add, push_cast, ↓reduceIte, reduceCtorEq, Nat.reduceBEq, reduceEqDiff, reduceAdd, reduceSub, reduceLT, reduceLeDiff, reduceMul]
        have ht := part_t d2 0 b pv (by omega) (by omega) (by omega) (by omega) m
        rw [hz2, he] at ht
        obtain ⟨mid, ap, d4, hx⟩ : ∃ mid ap d4, partition ltInt d2 0 b pv = (mid, ap, d4) := ⟨_, _, _, rfl⟩
        obtain ⟨r1, r2, r3, r4, r5, r6, r7, r8, r9⟩ := R.parts h12 (by omega) hB hx
        rw [hx] at ht hRe
        simp only at ht
        refine call_mk ht rfl (sl_bO (by omega)) ?_
        rw [if_neg (by exact hcon)] at hRe
        simp only [dif_pos (show 0 ≤ mid ∧ mid < b from ⟨r1, r2⟩)] at hRe
        obtain ⟨t8, ht8⟩ : ∃ t8, (b - 0) / 8 = t8 := ⟨_, rfl⟩
        obtain ⟨x, hx'⟩ : ∃ x, mid - 0 = x := ⟨_, rfl⟩
        obtain ⟨y, hy'⟩ : ∃ y, b - mid = y := ⟨_, rfl⟩
        have wx : IntKind.i64.wrap ((mid : Int) - 0) = (x : Int) := by rw [wrap_id (by omega)]; omega
        have wy : IntKind.i64.wrap ((b : Int) - mid) = (y : Int) := by rw [wrap_id (by omega)]; omega
        have w8 : (l : Int).tdiv 8 = (t8 : Int) := by rw [Int.tdiv_eq_ediv_of_nonneg (by omega)]; omega
        have w8' : IntKind.i64.wrap (t8 : Int) = (t8 : Int) := wrap_id (by omega)
        have wm : IntKind.i64.wrap ((mid : Int) + 1) = ((mid + 1 : Nat) : Int) := by rw [wrap_id (by omega)]; omega
        have dx : decide ((x : Int) ≥ (t8 : Int)) = decide (x ≥ t8) := by simp
        have dy : decide ((y : Int) ≥ (t8 : Int)) = decide (y ≥ t8) := by simp
        rw [ht8, hx', hy'] at hRe
        clear ht
        simp only [bO, bc_len, hidL_bc, imL_bc, wx, wy, w8, w8', dx, dy, e0, e1, e2, e3, e8, e9, e10, e11, Int.toNat_natCast, Int.toNat_natCast_add_one, Nat.zero_add, push_cast, ↓reduceIte, reduceCtorEq, Nat.reduceBEq, reduceEqDiff, reduceAdd, reduceSub, reduceLT, reduceLeDiff, reduceMul]
        repeat refine And.intro (by first | decide | omega | exact fun _ => by decide | (simp +contextual; done) | kernel_rfl) ?_
        refine cnd_mk (fun hcp => ?_) (fun hcp => ?_)
        ·have hlt : x < y := by simpa using hcp
         rw [if_pos hlt] at hRe
         have ht := ih (mid - 0) (by omega) d4 0 mid l1 (by omega) r1 (by omega) (by omega) (by omega) r4
         rw [r3, he] at ht
         generalize hmm : mid + 1 = mid1 at *
         simp only [bO, bc_len, hidL_bc, imL_bc, wx, wy, wm, w8, w8', dx, dy, e0, e1, e2, e3, e8, e9, e10, e11, Int.toNat_natCast, Int.toNat_natCast_add_one, Nat.zero_add, push_cast, ↓reduceIte, reduceCtorEq, Nat.reduceBEq, reduceEqDiff, reduceAdd, reduceSub, reduceLT, reduceLeDiff, reduceMul]
         refine call_mk ht rfl (sl_bO (by omega)) ?_
         simp only [bO, bc_len, hidL_bc, imL_bc, wx, wy, wm, w8, w8', dx, dy, e0, e1, e2, e3, e8, e9, e10, e11, Int.toNat_natCast, Int.toNat_natCast_add_one, Nat.zero_add, push_cast, ↓reduceIte, reduceCtorEq, Nat.reduceBEq, reduceEqDiff, reduceAdd, reduceSub, reduceLT, reduceLeDiff, reduceMul]
         exact ⟨⟨mid1, b, l1, decide (x ≥ t8), ap, pdq ltInt d4 0 mid l1 true true, by omega, by omega, by omega, by omega, by omega, r7, by rw [hRR, hRe], (by first | rfl | exact ⟨rfl, rfl⟩ | exact ⟨rfl, rfl, rfl⟩)⟩, by omega⟩
        ·have hlt : ¬ x < y := by simpa using hcp
         rw [if_neg hlt] at hRe
         have ht := ih (b - (mid + 1)) (by omega) d4 (mid + 1) b l1 (by omega) (by omega) (by omega) (by omega) (by omega) r5
         rw [r3, he] at ht
         generalize hmm : mid + 1 = mid1 at *
         simp only [bO, bc_len, hidL_bc, imL_bc, wx, wy, wm, w8, w8', dx, dy, e0, e1, e2, e3, e8, e9, e10, e11, Int.toNat_natCast, Int.toNat_natCast_add_one, Nat.zero_add, push_cast, ↓reduceIte, reduceCtorEq, Nat.reduceBEq, reduceEqDiff, reduceAdd, reduceSub, reduceLT, reduceLeDiff, reduceMul]
         refine call_mk ht rfl (sl_bO (by omega)) ?_
         simp only [bO, bc_len, hidL_bc, imL_bc, wx, wy, wm, w8, w8', dx, dy, e0, e1, e2, e3, e8, e9, e10, e11, Int.toNat_natCast, Int.toNat_natCast_add_one, Nat.zero_add, push_cast, ↓reduceIte, reduceCtorEq, Nat.reduceBEq, reduceEqDiff, reduceAdd, reduceSub, reduceLT, reduceLeDiff, reduceMul]
         exact ⟨⟨0, mid, l1, decide (y ≥ t8), ap, pdq ltInt d4 mid1 b l1 true true, by omega, by omega, by omega, by omega, by omega, r9, by rw [hRR, hRe], (by first | rfl | exact ⟨rfl, rfl⟩ | exact ⟨rfl, rfl, rfl⟩)⟩, by omega⟩
      ·rw [hG] at hc5
       have ht := pins_t d2 a b (by omega) (by omega) (by omega) m
       rw [hz2, he] at ht
       simp only [bO, bc_len, hidL_bc, imL_bc, e0, e1, e2, e3, e8, e9, e10, e11, e12, Int.toNat_natCast, Int.toNat_natCast_add_one, Nat.zero_add, push_cast, ↓reduceIte, reduceCtorEq, Nat.reduceBEq, reduceEqDiff, reduceAdd, reduceSub, reduceLT, reduceLeDiff, reduceMul]
       refine call_mk ht rfl (sl_bO rfl) ?_
       simp only [bO, bc_len, hidL_bc, imL_bc, e0, e1, e2, e3, e8, e9, e10, e11, e12, Int.toNat_natCast, Int.toNat_natCast_add_one, Nat.zero_add, push_cast, ↓reduceIte, reduceCtorEq, Nat.reduceBEq, reduceEqDiff, reduceAdd, reduceSub, reduceLT, reduceLeDiff, reduceMul]
       refine cnd_mk (fun hc6 => ?_) (fun hc6 => ?_)
       ·rw [hc5, hc6] at hRe
        simp only [Bool.and_self, if_true] at hRe
        simp only [bO, bc_len, hidL_bc, imL_bc, Int.toNat_natCast, Int.toNat_natCast_add_one, Nat.zero_add, push_cast, ↓reduceIte, reduceCtorEq, Nat.reduceBEq, reduceEqDiff, reduceAdd, reduceSub, reduceLT, reduceLeDiff, reduceMul]
        rw [hRR, hRe]
       ·simp only [bO, bc_len, hidL_bc, imL_bc, upd_upd, e0, e1, e2, e3, e8, e9, e10, e11, e12, Int.toNat_natCast, Int.toNat_natCast_add_one, Nat.zero_add, push_cast, ↓reduceIte, reduceCtorEq, Nat.reduceBEq, reduceEqDiff, reduceAdd, reduceSub, reduceLT, reduceLeDiff, reduceMul]
        rw [hc6]; simp
      ·rw [hG] at hc5
       simp only [bO, bc_len, hidL_bc, imL_bc, e0, e1, e2, e3, e8, e9, e10, e11, e12, Int.toNat_natCast, Int.toNat_natCast_add_one, Nat.zero_add, push_cast, ↓reduceIte, reduceCtorEq, Nat.reduceBEq, reduceEqDiff, reduceAdd, reduceSub, reduceLT, reduceLeDiff, reduceMul]
       rw [hc5]; simp
     ·have hd : h = .decreasing := by cases h <;> simp [hintN] at hc4 ⊢
      subst hd
      have ht := rev_t d1 a b (by omega) (by omega) (by omega) (by omega) m
      rw [hz1] at ht
      have wc1 : IntKind.i64.wrap ((b : Int) - 1) = (b : Int) - 1 := wrap_id (by omega)
      have wc2 : IntKind.i64.wrap ((c : Int) - a) = (c : Int) - a := wrap_id (by omega)
      have wc3 : IntKind.i64.wrap ((b : Int) - 1 - ((c : Int) - a)) = (((b - 1) - (c - a) : Nat) : Int) := by rw [wrap_id (by omega)]; omega
      generalize hpv : (b - 1) - (c - a) = pv at *
      simp only [bO, bc_len, hidL_bc, imL_bc, e0, e1, e2, e3, e8, e9, e10, Int.toNat_natCast, Int.toNat_natCast_add_one, Nat.zero_add, push_cast, ↓reduceIte, reduceCtorEq, Nat.reduceBEq, reduceEqDiff, reduceAdd, reduceSub, reduceLT, reduceLeDiff, reduceMul]
      refine call_mk ht rfl (sl_bO (Go.Sort.reverseRange_holds d1 a b (by omega) (by omega)).1) ?_
      simp only [bO, bc_len, hidL_bc, imL_bc, wc1, wc2, wc3, e0, e1, e2, e3, e8, e9, e10, Int.toNat_natCast, Int.toNat_natCast_add_one, Nat.zero_add, push_cast, ↓reduceIte, reduceCtorEq, Nat.reduceBEq, reduceEqDiff, reduceAdd, reduceSub, reduceLT, reduceLeDiff, reduceMul]
      refine ⟨_, _, _, rfl, rfl, rfl, ?_⟩
      simp only [upd_upd]
      exact ⟨trivial, rfl, trivial⟩
     ·have hd : h ≠ .decreasing := by rintro rfl; simp [hintN] at hc4
      simp only [bO, bc_len, hidL_bc, imL_bc, e0, e1, e2, e3, e8, e9, e10, Int.toNat_natCast, Int.toNat_natCast_add_one, Nat.zero_add, push_cast, ↓reduceIte, reduceCtorEq, Nat.reduceBEq, reduceEqDiff, reduceAdd, reduceSub, reduceLT, reduceLeDiff, reduceMul]
      refine ⟨_, _, _, rfl, rfl, rfl, ?_⟩
      rw [if_neg hd, if_neg hd, if_neg hd]
      simp only [upd_upd, and_self]
    ·have hwb : wb = false := by simpa using hc3
     subst hwb
     have wl : IntKind.i64.wrap ((limit : Int) - 1) = ((limit - 1 : Nat) : Int) := by rw [wrap_id (by omega)]; omega
     simp only [bO, bc_len, hidL_bc, imL_bc, Int.toNat_natCast, Int.toNat_natCast_add_one, Nat.zero_add, push_cast, ↓reduceIte, reduceCtorEq, Nat.reduceBEq, reduceEqDiff, reduceAdd, reduceSub, reduceLT, reduceLeDiff, reduceMul]
     have ht := break_t e a b (by omega) (by omega) (by omega) m
     rw [he] at ht
     have hz1 := (Go.Sort.breakPatterns_holds e a b hab (by omega)).1
     refine call_mk ht rfl (sl_bO hz1) ?_
     generalize hll : limit - 1 = l1 at *
     simp only [bO, bc_len, hidL_bc, imL_bc, wl, Int.toNat_natCast, Int.toNat_natCast_add_one, Nat.zero_add, push_cast, ↓reduceIte, reduceCtorEq, Nat.reduceBEq, reduceEqDiff, reduceAdd, reduceSub, reduceLT, reduceLeDiff, reduceMul]
     refine ⟨_, _, rfl, rfl, ?_⟩
     simp only [upd_upd, and_self]
     first | done | simpa using hll
    ·have hwb : wb = true := by simpa using hc3
     subst hwb
     simp only [bO, bc_len, hidL_bc, imL_bc, Int.toNat_natCast, Int.toNat_natCast_add_one, Nat.zero_add, push_cast, ↓reduceIte, reduceCtorEq, Nat.reduceBEq, reduceEqDiff, reduceAdd, reduceSub, reduceLT, reduceLeDiff, reduceMul]
     refine ⟨_, _, rfl, rfl, ?_⟩
     exact ⟨rfl, rfl⟩

open Go.Sort (swp ltInt bitsLen pdq sort Below)
noncomputable def slices_Sort_uint64_uint64_pc : PC :=
  (.seq (.reg [p_m 3 0, p_s 4 (.len false (.t 3)), p_m 2 4])
 (.reg [p_m 5 0, p_m 6 2, p_m 7 2, p_s 8 (.conv .u64 (.t 7)), p_c 9 1 100 [.t 8], p_c 10 2 117 [(.t 5), (o_i 0), (.t 6), (.t 9)]]))
theorem slices_Sort_uint64_uint64_triple : Fun Go.Proofs.Tryz.prog 77 1 [] slices_Sort_uint64_uint64_pc := fun_mk Go.Proofs.Tryz.func77 rfl (by decide) (by kernel_rfl) (by decide) rfl (by kernel_rfl) (by kernel_rfl) (by decide)
theorem pdq_t (m : Nat) : ∀ N, PdqT m N := by
 intro N
 induction N using Nat.strongRecOn with
 | _ N ih => exact pdq_step m N ih
def srtI (ws : List Int) : List Int := ws.mergeSort (fun x y => decide (x ≤ y))
def rw64 (ws : List Int) : List RV := ws.map fun n => RV.v (.int .u64 n)
def rowU (ws : List Int) : Ob := .row 1 (.v (.int .u64 0)) true true (rw64 ws)
theorem srtI_len (ws : List Int) : (srtI ws).length = ws.length := List.length_mergeSort ..
theorem boxOf_bc (ws : List Int) (m : Nat) : boxOf (ws.map fun n => Value.int .u64 n) m = bc ws.toArray m := by
 simp [boxOf, bc, bu, Function.comp_def]
theorem rw64_len (ws : List Int) : (rw64 ws).length = ws.length := by simp [rw64]
theorem sort_bx (d : Array Int) (hn : d.size < 50) (m : Nat) : Triple Go.Proofs.Tryz.prog 77 [.own 1000000 0 0 d.size] [bO d m] (.tup []) [bO (sort ltInt d) m] := by
 refine slices_Sort_uint64_uint64_triple rfl (by simp) ?_
 have hb : bitsLen d.size ≤ 6 := (Go.Sort.bitsLen_le_iff d.size 6).2 (by omega)
 have w : IntKind.u64.wrap (d.size : Int) = d.size := u_wrap_id (by omega)
 simp only [slices_Sort_uint64_uint64_pc, bO, bc_len, hidL_bc, imL_bc, w, List.length_cons, List.length_nil, Int.toNat_natCast, Int.toNat_natCast_add_one, Nat.zero_add, push_cast, ↓reduceIte, reduceCtorEq, Nat.reduceBEq, reduceEqDiff, reduceAdd, reduceSub, reduceLT, reduceLeDiff, reduceMul]
 refine call_mk (blen_t d.size (by omega)) rfl trivial ?_
 simp only [bO, bc_len, hidL_bc, imL_bc, w, List.length_cons, List.length_nil, Int.toNat_natCast, Int.toNat_natCast_add_one, Nat.zero_add, push_cast, ↓reduceIte, reduceCtorEq, Nat.reduceBEq, reduceEqDiff, reduceAdd, reduceSub, reduceLT, reduceLeDiff, reduceMul]
 have ht := pdq_t m d.size d 0 d.size (bitsLen d.size) (by omega) (by omega) (by omega) hn (by omega) (.inl rfl)
 refine call_mk ht rfl (sl_bO (Go.Sort.pdq_sorts ltInt Go.Sort.swo_ltInt d 0 d.size _ true true (by omega) (by omega) (.inl rfl)).1.1) ?_
 simp only [bO, bc_len, hidL_bc, imL_bc, w, List.length_cons, List.length_nil, Int.toNat_natCast, Int.toNat_natCast_add_one, Nat.zero_add, push_cast, ↓reduceIte, reduceCtorEq, Nat.reduceBEq, reduceEqDiff, reduceAdd, reduceSub, reduceLT, reduceLeDiff, reduceMul]
 rfl
def vu (ws : List Int) : List Value := ws.map fun n => Value.int .u64 n
theorem vu_len (ws : List Int) : (vu ws).length = ws.length := by simp [vu]
theorem vu_row (ws : List Int) : (vu ws).map RV.v = rw64 ws := by simp [vu, rw64, Function.comp_def]
theorem sort_b (ws : List Int) (hn : ws.length < 50) (m : Nat) : Triple Go.Proofs.Tryz.prog 77 [.own 1000000 0 0 ws.length] [.box (boxOf (vu ws) m)] (.tup []) [.box (boxOf (vu (srtI ws)) m)] := by
 have := sort_bx ws.toArray (by simpa using hn) m
 unfold vu
 rw [boxOf_bc, boxOf_bc]
 have e : (srtI ws).toArray = sort ltInt ws.toArray := by
  have := Go.Sort.sortInt ws
  unfold srtI
  rw [← this]
 rw [e]
 simpa [bO] using this
theorem sl_vu (ws ws' : List Int) (h : ws'.length = ws.length) (m : Nat) : sameLen [.box (boxOf (vu ws) m)] [.box (boxOf (vu ws') m)] := ⟨by simp [boxOf, vu_len, h], trivial⟩
theorem hid_boxOf (xs : List Value) (m : Nat) : hidL (boxOf xs m) = [] := hidL_none _ fun x hx => by
 rcases List.mem_append.1 hx with hx | hx
 ·obtain ⟨n, _, rfl⟩ := List.mem_map.1 hx
  rfl
 ·rw [(List.mem_replicate.1 hx).2]; rfl
theorem im_boxOf (F : Ren) (xs : List Value) (m : Nat) : imL F (boxOf xs m) = boxOf xs m := imL_free F _ (hid_boxOf xs m)
theorem ins_nil : Triple Go.Proofs.Tryz.prog 150 [.r (.sl 1 []), int .i64 0, int .i64 0] [] (.tup []) [] := by
 refine slices_insertionSortOrdered_uint64_triple rfl (by decide) ?_
 have g : decide (IntKind.i64.wrap (0 + 1) < 0) = false := by decide
 simp only [slices_insertionSortOrdered_uint64_pc, List.length_cons, List.length_nil, push_cast, ↓reduceIte, reduceCtorEq, Nat.reduceBEq, reduceEqDiff, reduceAdd, reduceSub, reduceLT, reduceLeDiff, reduceMul]
 refine run_loop [(6, false), (2, false)] (fun vs pos los => vs = [int .i64 (IntKind.i64.wrap (0 + 1)), int .i64 0] ∧ pos = [] ∧ los = []) (fun _ _ _ => 0) rfl ?_ ?_
 ·simp only [push_cast, ↓reduceIte, reduceCtorEq, Nat.reduceBEq, reduceEqDiff, reduceAdd, reduceSub, reduceLT, reduceLeDiff, reduceMul]
 ·rintro vs pos los ⟨rfl, rfl, rfl⟩
  simp only [g, push_cast, ↓reduceIte, reduceCtorEq, Nat.reduceBEq, reduceEqDiff, reduceAdd, reduceSub, reduceLT, reduceLeDiff, reduceMul]
theorem pdq_nil : Triple Go.Proofs.Tryz.prog 117 [.r (.sl 1 []), int .i64 0, int .i64 0, int .i64 0] [] (.tup []) [] := by
 refine slices_pdqsortOrdered_uint64_triple rfl (by decide) ?_
 have g : decide ((0 : Int) ≤ 12) = true := by decide
 have w : IntKind.i64.wrap (0 - 0) = 0 := rfl
 simp only [slices_pdqsortOrdered_uint64_pc, List.length_cons, List.length_nil, push_cast, ↓reduceIte, reduceCtorEq, Nat.reduceBEq, reduceEqDiff, reduceAdd, reduceSub, reduceLT, reduceLeDiff, reduceMul]
 refine run_loop [(8, false), (9, false), (0, false), (1, false), (2, false), (3, false)] (fun vs pos los => vs = [bl true, bl true, .r (.sl 1 []), int .i64 0, int .i64 0, int .i64 0] ∧ pos = [] ∧ los = []) (fun _ _ _ => 0) rfl ?_ ?_
 ·simp only [push_cast, ↓reduceIte, reduceCtorEq, Nat.reduceBEq, reduceEqDiff, reduceAdd, reduceSub, reduceLT, reduceLeDiff, reduceMul]
 ·rintro vs pos los ⟨rfl, rfl, rfl⟩
  simp only [w, g, push_cast, ↓reduceIte, reduceCtorEq, Nat.reduceBEq, reduceEqDiff, reduceAdd, reduceSub, reduceLT, reduceLeDiff, reduceMul]
  refine call_mk ins_nil rfl trivial ?_
  simp only [push_cast, ↓reduceIte, reduceCtorEq, Nat.reduceBEq, reduceEqDiff, reduceAdd, reduceSub, reduceLT, reduceLeDiff, reduceMul]
theorem sort_nil : Triple Go.Proofs.Tryz.prog 77 [.r (.sl 1 [])] [] (.tup []) [] := by
 refine slices_Sort_uint64_uint64_triple rfl (by decide) ?_
 simp only [slices_Sort_uint64_uint64_pc, List.length_cons, List.length_nil, push_cast, ↓reduceIte, reduceCtorEq, Nat.reduceBEq, reduceEqDiff, reduceAdd, reduceSub, reduceLT, reduceLeDiff, reduceMul]
 refine call_mk (blen_t 0 (by decide)) rfl trivial ?_
 simp only [push_cast, ↓reduceIte, reduceCtorEq, Nat.reduceBEq, reduceEqDiff, reduceAdd, reduceSub, reduceLT, reduceLeDiff, reduceMul]
 refine call_mk pdq_nil rfl trivial ?_
 simp only [push_cast, ↓reduceIte, reduceCtorEq, Nat.reduceBEq, reduceEqDiff, reduceAdd, reduceSub, reduceLT, reduceLeDiff, reduceMul]

noncomputable def stats_Stats_Cells_pc : PC :=
  (.seq (.reg [p_s 4 (.mov (.c (.nils 1 (.v (.int .u64 0)))))])
 (.seq (.seq (.reg [p_m 7 1, p_s 8 (.bin .lss (.t 7) (o_i 0)), p_m 9 8, p_g 10 9 false (.mov (.t 1)), p_g 11 9 false (.bin .geq (.t 10) (o_i 13)), p_s 12 (.pick (.t 9) (.c (.r (.v (.bool true)))) (.t 11))])
 (.cond (.t 12)
 (.seq (.reg [p_s 4 (.mov (.c (.nils 1 (.v (.int .u64 0)))))])
 .ret)
 .skip))
 (.seq (.reg [p_s 5 (.mov (.c (.nils 1 (.v (.int .u64 0)))))])
 (.seq (.seq (.reg [p_m 13 0, p_m 14 1, p_s 15 (.nck (.t 13)), p_s 16 (.fa 2 (.t 15)), p_s 17 (.iaa 13 1 (.t 16) (.t 14)), p_s 18 (.ld none (.t 17)), p_a 19 (.rng (.t 18))])
 (.block 0 (.loop (.seq (.reg [⟨(some 20), none, 0, .nxt (.t 19)⟩, p_s 21 (.ext (.t 20) 0)])
 (.seq (.cond (.t 21)
 .skip
 (.exit 0))
 (.block 1 (.seq (.reg [p_s 22 (.ent (.t 19)), p_s 23 (.ext (.t 22) 0), p_m 6 23])
 (.reg [p_m 24 5, p_m 25 6, p_a 26 (.bsl 1 (.v (.int .u64 0)) [(.t 25)]), p_a 27 (.app 1 (.v (.int .u64 0)) 8 (.t 24) (.t 26)), p_m 5 27]))))))))
 (.seq (.reg [p_m 28 5, p_c 29 1 77 [.t 28]])
 (.seq (.reg [p_m 30 5, p_m 4 30])
 .ret))))))
theorem stats_Stats_Cells_triple : Fun Go.Proofs.Tryz.prog 41 2 [(4, false, none)] stats_Stats_Cells_pc := fun_mk Go.Proofs.Tryz.func41 rfl (by decide) (by kernel_rfl) (by decide) rfl (by kernel_rfl) (by kernel_rfl) (by decide)
def kI (e : MapEntry) : Int := match e.key with | .int _ n => n | _ => 0
def KeysU (es : List MapEntry) (c : Nat) : Prop := (∀ e ∈ es, e.key = .int .u64 (kI e)) ∧ (es.map (·.born)).Nodup ∧ ∀ e ∈ es, e.born < c
theorem cm_keys {f : Nat → Nat} {es : List MapEntry} {c : Nat} (h : CM f es c) : KeysU es c := by
 obtain ⟨ws, h1, h2, h3⟩ := h.ex
 refine ⟨fun e he => ?_, h1.nd, h1.lt⟩
 have : (e.key, e.val) ∈ ws.map cnE := by rw [← h1.kv]; exact List.mem_map.2 ⟨e, he, rfl⟩
 obtain ⟨a, _, ha⟩ := List.mem_map.1 this
 simp only [ent, Prod.mk.injEq] at ha
 simp [kI, ← ha.1]
theorem left_lt {es : List MapEntry} {seen : List Nat} {e : MapEntry} (he : e ∈ leftM es seen) : (leftM es (seen ++ [e.born])).length < (leftM es seen).length := by
 have e1 : leftM es (seen ++ [e.born]) = (leftM es seen).filter fun x => !(x.born == e.born) := by
  unfold leftM
  rw [List.filter_filter]
  apply List.filter_congr
  intro x _
  simp only [List.contains_eq_mem, List.mem_append, List.mem_singleton, Bool.decide_or, Bool.not_or, Bool.and_comm]
  by_cases hx : x.born = e.born <;> simp [hx]
 rw [e1]
 have : ((leftM es seen).filter fun x => !(x.born == e.born)).length < (leftM es seen).length := by
  rw [List.length_filter_lt_length_iff_exists]
  exact ⟨e, he, by simp⟩
 exact this
structure Vis (es V : List MapEntry) (seen : List Nat) : Prop where
 s : seen = V.map (·.born)
 sub : ∀ e ∈ V, e ∈ es
 nd : seen.Nodup
 b : V.length + (leftM es seen).length ≤ es.length
theorem vis_nil (es : List MapEntry) : Vis es [] [] := ⟨rfl, by simp, by simp, by simp only [List.length_nil, Nat.zero_add]; exact List.length_filter_le ..⟩
theorem Vis.add {es V : List MapEntry} {seen : List Nat} (h : Vis es V seen) {e : MapEntry} (he : e ∈ leftM es seen) : Vis es (V ++ [e]) (seen ++ [e.born]) := by
 obtain ⟨h1, h2⟩ := List.mem_filter.1 he
 refine ⟨by rw [h.s]; simp, fun x hx => ?_, ?_, by have := h.b; have := left_lt he; simp only [List.length_append, List.length_singleton]; omega⟩
 ·rcases List.mem_append.1 hx with hx | hx
  ·exact h.sub x hx
  ·simp at hx; subst hx; exact h1
 ·rw [List.nodup_append]
  refine ⟨h.nd, by simp, fun a ha b hb => ?_⟩
  simp at hb
  subst hb
  rintro rfl
  simp at h2
  exact h2 ha
theorem Vis.all {es V : List MapEntry} {seen : List Nat} (h : Vis es V seen) (hnd : (es.map (·.born)).Nodup) (h0 : leftM es seen = []) : V.Perm es := by
 have hV : V.Nodup := by
  have := h.nd
  rw [h.s] at this
  exact (List.pairwise_map.1 this).imp fun {a b} hab e => hab (by rw [e])
 have hE : es.Nodup := (List.pairwise_map.1 hnd).imp fun {a b} hab e => hab (by rw [e])
 refine (List.perm_ext_iff_of_nodup hV hE).2 fun x => ⟨h.sub x, fun hx => ?_⟩
 have : ¬ x ∈ leftM es seen := by rw [h0]; simp
 unfold leftM at this
 rw [List.mem_filter, h.s] at this
 simp only [hx, true_and, Bool.not_eq_true', List.contains_eq_mem, decide_eq_false_iff_not, Classical.not_not, List.mem_map] at this
 obtain ⟨y, hy, e⟩ := this
 have hye := h.sub y hy
 obtain ⟨i, hi⟩ := List.getElem?_of_mem hx
 obtain ⟨j, hj⟩ := List.getElem?_of_mem hye
 have := nodup_getG hnd (i := i) (j := j) (x := x.born) (by simp [hi]) (by simp [hj, e])
 subst this
 rw [hi] at hj
 cases hj
 exact hy
theorem entV_last {es : List MapEntry} (hnd : (es.map (·.born)).Nodup) {e : MapEntry} (he : e ∈ es) (seen : List Nat) : entV es (seen ++ [e.born]) = some e := by
 unfold entV
 simp only [List.getLast?_append, List.getLast?_singleton, Option.some_or]
 cases hf : es.find? fun x => x.born == e.born with
 | none =>
  have := List.find?_eq_none.1 hf e he
  simp at this
 | some y =>
  have hy := List.mem_of_find?_eq_some hf
  have hb := List.find?_some hf
  simp at hb
  obtain ⟨i, hi⟩ := List.getElem?_of_mem he
  obtain ⟨j, hj⟩ := List.getElem?_of_mem hy
  have := nodup_getG hnd (i := i) (j := j) (x := e.born) (by simp [hi]) (by simp [hj, hb])
  subst this
  rw [hi] at hj
  exact hj.symm
theorem srtI_perm {a b : List Int} (h : a.Perm b) : srtI a = srtI b := by
 have h1 : (srtI a).Perm (srtI b) := ((List.mergeSort_perm a _).trans h).trans (List.mergeSort_perm b _).symm
 have tr : ∀ x y z : Int, decide (x ≤ y) = true → decide (y ≤ z) = true → decide (x ≤ z) = true := by simp; omega
 have tot : ∀ x y : Int, (decide (x ≤ y) || decide (y ≤ x)) = true := by simp; omega
 have s1 := List.pairwise_mergeSort tr tot a
 have s2 := List.pairwise_mergeSort tr tot b
 refine List.Perm.eq_of_pairwise (le := fun x y => decide (x ≤ y) = true) (fun x y _ _ h1 h2 => by simp at h1 h2; omega) s1 s2 h1
theorem cells_D {args : List AV} {po : List Ob} {D : AV → List Ob → Prop} (hal : args.length = 2) (hpo : po.length ≤ 1000)
  (h : run Go.Proofs.Tryz.prog po.length (RetP po.length [(4, false, none)] D) [.c stats_Stats_Cells_pc] ⟨argE 0 args, ob0 po⟩) : TripleD Go.Proofs.Tryz.prog 41 args po D :=
 tripleD_of_W (fn := Go.Proofs.Tryz.f41) (c := (Go.Proofs.Tryz.f41.body).getD .skip) (pc := stats_Stats_Cells_pc) (rs := [(4, false, none)]) Go.Proofs.Tryz.func41 rfl (by decide) (by kernel_rfl) (by rw [hal]; decide) rfl (by kernel_rfl) (by kernel_rfl) (by decide) hpo (W_of_run h)
theorem take_rw (V : List MapEntry) (x : Int) : List.take V.length (rw64 (V.map kI)) ++ [RV.v (.int .u64 x)] = rw64 (V.map kI ++ [x]) := by
 rw [List.take_of_length_le (by simp [rw64])]
 simp [rw64]
section
variable {es : List MapEntry} {c : Nat} {ns : List (List Ky)} {ce : Nat → List MapEntry} {cc : Nat → Nat}
set_option maxHeartbeats 40000000 in
theorem cells_some {r : Nat} (hr : r < 13) {E : List MapEntry} {C : Nat} (eE : ce r = E) (eC : cc r = C) (h : KeysU E C) (hn : E.length < 50) (hne : E ≠ []) :
    TripleD Go.Proofs.Tryz.prog 41 [.ptr 1000000 0 0, int .i64 r] (stOs es c ns ce cc) fun v os => ∃ m, v = .own 1000016 0 0 E.length ∧ os = stOs es c ns ce cc ++ [.box (boxOf (vu (srtI (E.map kI))) m)] := by
  refine cells_D rfl (by simp [stOs]) ?_
  have g1 : decide ((r : Int) < 0) = false := by simp
  have g2 : decide ((r : Int) ≥ 13) = false := by simp; omega
  obtain ⟨K, hK⟩ : ∃ K, srtI (E.map kI) = K := ⟨_, rfl⟩
  rw [hK]
  obtain ⟨M, hM⟩ : ∃ M, 1000003 + r = M := ⟨_, rfl⟩
  simp only [stats_Stats_Cells_pc, stOs, g1, g2, List.length_cons, List.length_nil, push_cast, ↓reduceIte, reduceCtorEq, Nat.reduceBEq, reduceEqDiff, reduceAdd, reduceSub, reduceLT, reduceLeDiff, reduceMul]
  rcases (show r = 0 ∨ r = 1 ∨ r = 2 ∨ r = 3 ∨ r = 4 ∨ r = 5 ∨ r = 6 ∨ r = 7 ∨ r = 8 ∨ r = 9 ∨ r = 10 ∨ r = 11 ∨ r = 12 by omega) with rfl | rfl | rfl | rfl | rfl | rfl | rfl | rfl | rfl | rfl | rfl | rfl | rfl <;> (
    simp only [Nat.reduceAdd] at hM
    simp only [eE, eC, Int.toNat_zero, Int.reduceToNat, push_cast, ↓reduceIte, reduceCtorEq, Nat.reduceBEq, reduceEqDiff, reduceAdd, reduceSub, reduceLT, reduceLeDiff, reduceMul]
    repeat refine And.intro (by first | decide | omega | exact fun _ => by decide | (simp +contextual; done) | kernel_rfl) ?_
    refine run_loop [(5, false), (19, false)] (fun vs pos los => ∃ (V : List MapEntry) (seen : List Nat), Vis E V seen ∧ pos = stOs es c ns ce cc ∧ ∃ st, C ≤ st ∧
        (V = [] ∧ vs = [.nils 1 (.v (.int .u64 0)), .ptr 2000000 0 0] ∧ los = [.iter (.mp M 0) C seen st] ∨
         V ≠ [] ∧ vs = [.own 2000000 0 0 V.length, .ptr 2000001 0 0] ∧ los = [rowU (V.map kI), .iter (.mp M 0) C seen st]))
      (fun _ _ los => match los with | [.iter _ _ seen _] => (leftM E seen).length | [_, .iter _ _ seen _] => (leftM E seen).length | _ => 0) rfl ?_ ?_
    · simp only [stOs, eE, eC, ← hM, push_cast, ↓reduceIte, reduceCtorEq, Nat.reduceBEq, reduceEqDiff, reduceAdd, reduceSub, reduceLT, reduceLeDiff, reduceMul]
      exact ⟨[], [], vis_nil _, C, Nat.le_refl _, by simp⟩
    · rintro vs pos los ⟨V, seen, hV, rfl, st, hst, ⟨h0, rfl, rfl⟩ | ⟨h0, rfl, rfl⟩⟩
      · subst h0
        simp only [stOs, eE, eC, ← hM, push_cast, ↓reduceIte, reduceCtorEq, Nat.reduceBEq, reduceEqDiff, reduceAdd, reduceSub, reduceLT, reduceLeDiff, reduceMul]
        have hs : seen = [] := hV.s
        refine nxt_mk h.2.2 hst (fun hl => ?_) (fun en hen => ?_)
        · exfalso
          rw [hs] at hl
          unfold leftM at hl
          simp at hl
          exact hne (List.eq_nil_iff_forall_not_mem.2 fun x hx => by simpa using hl x hx)
        · have hk : en.key = .int .u64 (kI en) := h.1 en ((hV.add hen).sub en (by simp))
          have hE := entV_last h.2.1 ((hV.add hen).sub en (by simp)) seen
          simp only [hk, hE, entR, Option.isSome_some, push_cast, ↓reduceIte, reduceCtorEq, Nat.reduceBEq, reduceEqDiff, reduceAdd, reduceSub, reduceLT, reduceLeDiff, reduceMul]
          repeat refine And.intro (by first | decide | omega | exact fun _ => by decide | (simp +contextual; done) | kernel_rfl) ?_
          exact ⟨⟨[en], _, hV.add hen, C, Nat.le_refl _, .inr ⟨by simp, rfl, rfl⟩⟩, left_lt hen⟩
      · simp only [stOs, eE, eC, ← hM, push_cast, ↓reduceIte, reduceCtorEq, Nat.reduceBEq, reduceEqDiff, reduceAdd, reduceSub, reduceLT, reduceLeDiff, reduceMul]
        refine nxt_mk h.2.2 hst (fun hl => ?_) (fun en hen => ?_)
        · simp only [rowU, rw64, push_cast, ↓reduceIte, reduceCtorEq, Nat.reduceBEq, reduceEqDiff, reduceAdd, reduceSub, reduceLT, reduceLeDiff, reduceMul]
          have hP := hV.all h.2.1 hl
          have hlen := hP.length_eq
          refine callA_box 2000000 0 (.v (.int .u64 0)) (vu (V.map kI)) (by rw [vu_row]; rfl) (by simpa [vu] using h0) (fun m => ?_)
          rw [show List.map (fun x => AV.r (RV.v x)) (vu (V.map kI)) ++ List.replicate m AV.undef = boxOf (vu (V.map kI)) m from rfl]
          have ht := sort_b (V.map kI) (by simp; omega) m
          rw [srtI_perm (hP.map kI), hK] at ht
          simp only [List.length_map] at ht
          simp only [rowU, rw64, hid_boxOf, im_boxOf, push_cast, ↓reduceIte, reduceCtorEq, Nat.reduceBEq, reduceEqDiff, reduceAdd, reduceSub, reduceLT, reduceLeDiff, reduceMul]
          refine call_mk ht rfl (sl_vu _ _ (by rw [← hK, srtI_len, List.length_map, List.length_map, hlen]) m) ?_
          simp only [rowU, rw64, hid_boxOf, im_boxOf, hlen, push_cast, ↓reduceIte, reduceCtorEq, Nat.reduceBEq, reduceEqDiff, reduceAdd, reduceSub, reduceLT, reduceLeDiff, reduceMul]
          exact ⟨m, by simp⟩
        · have hk : en.key = .int .u64 (kI en) := h.1 en ((hV.add hen).sub en (by simp))
          have hE := entV_last h.2.1 ((hV.add hen).sub en (by simp)) seen
          have hvl := (hV.add hen).b
          simp only [List.length_append, List.length_singleton] at hvl
          have hmx := maxLen_big
          simp only [hk, hE, entR, Option.isSome_some, rowU, take_rw, push_cast, ↓reduceIte, reduceCtorEq, Nat.reduceBEq, reduceEqDiff, reduceAdd, reduceSub, reduceLT, reduceLeDiff, reduceMul]
          repeat refine And.intro (by first | decide | omega | exact fun _ => by decide | (simp +contextual; done) | kernel_rfl) ?_
          exact ⟨⟨V ++ [en], _, hV.add hen, C, Nat.le_refl _, .inr ⟨by simp, by simp, by simp [rw64]⟩⟩, left_lt hen⟩)
set_option maxHeartbeats 40000000 in
theorem cells_none {r : Nat} (hr : r < 13) (h0 : ce r = []) :
  Triple Go.Proofs.Tryz.prog 41 [.ptr 1000000 0 0, int .i64 r] (stOs es c ns ce cc) (.nils 1 (.v (.int .u64 0))) (stOs es c ns ce cc) := by
 refine stats_Stats_Cells_triple rfl (by simp [stOs]) ?_
 have g1 : decide ((r : Int) < 0) = false := by simp
 have g2 : decide ((r : Int) ≥ 13) = false := by simp; omega
 obtain ⟨M, hM⟩ : ∃ M, 1000003 + r = M := ⟨_, rfl⟩
 obtain ⟨C, eC⟩ : ∃ C, cc r = C := ⟨_, rfl⟩
 simp only [stats_Stats_Cells_pc, stOs, g1, g2, List.length_cons, List.length_nil, push_cast, ↓reduceIte, reduceCtorEq, Nat.reduceBEq, reduceEqDiff, reduceAdd, reduceSub, reduceLT, reduceLeDiff, reduceMul]
 rcases (show r = 0 ∨ r = 1 ∨ r = 2 ∨ r = 3 ∨ r = 4 ∨ r = 5 ∨ r = 6 ∨ r = 7 ∨ r = 8 ∨ r = 9 ∨ r = 10 ∨ r = 11 ∨ r = 12 by omega) with rfl | rfl | rfl | rfl | rfl | rfl | rfl | rfl | rfl | rfl | rfl | rfl | rfl <;> (
  simp only [Nat.reduceAdd] at hM
  simp only [h0, eC, Int.toNat_zero, Int.reduceToNat, push_cast, ↓reduceIte, reduceCtorEq, Nat.reduceBEq, reduceEqDiff, reduceAdd, reduceSub, reduceLT, reduceLeDiff, reduceMul]
  repeat refine And.intro (by first | decide | omega | exact fun _ => by decide | (simp +contextual; done) | kernel_rfl) ?_
  refine run_loop [(5, false), (19, false)] (fun vs pos los => vs = [.nils 1 (.v (.int .u64 0)), .ptr 2000000 0 0] ∧ pos = stOs es c ns ce cc ∧ los = [.iter (.mp M 0) C [] C])
   (fun _ _ _ => 0) rfl ?_ ?_
  ·simp only [stOs, h0, eC, ← hM, push_cast, ↓reduceIte, reduceCtorEq, Nat.reduceBEq, reduceEqDiff, reduceAdd, reduceSub, reduceLT, reduceLeDiff, reduceMul]
  ·rintro vs pos los ⟨rfl, rfl, rfl⟩
   simp only [stOs, h0, eC, ← hM, push_cast, ↓reduceIte, reduceCtorEq, Nat.reduceBEq, reduceEqDiff, reduceAdd, reduceSub, reduceLT, reduceLeDiff, reduceMul]
   refine nxt_mk (by simp) (Nat.le_refl _) (fun hl => ?_) (fun en hen => ?_)
   ·simp only [push_cast, ↓reduceIte, reduceCtorEq, Nat.reduceBEq, reduceEqDiff, reduceAdd, reduceSub, reduceLT, reduceLeDiff, reduceMul]
    refine call_mk sort_nil rfl trivial ?_
    simp only [push_cast, ↓reduceIte, reduceCtorEq, Nat.reduceBEq, reduceEqDiff, reduceAdd, reduceSub, reduceLT, reduceLeDiff, reduceMul]
   ·simp [leftM] at hen)
end

def dd : List Nat → List Nat
 | [] => []
 | a :: l => if a ∈ dd l then dd l else a :: dd l
theorem dd_mem {w : Nat} : ∀ {l : List Nat}, w ∈ dd l ↔ w ∈ l
 | [] => by simp [dd]
 | a :: l => by
  rw [dd]
  split
  ·rename_i h
   rw [dd_mem, List.mem_cons]
   constructor
   ·exact .inr
   ·rintro (rfl | h2)
    ·exact dd_mem.1 h
    ·exact h2
  ·rw [List.mem_cons, List.mem_cons, dd_mem]
theorem dd_nodup : ∀ (l : List Nat), (dd l).Nodup
 | [] => by simp [dd]
 | a :: l => by
  rw [dd]
  split
  ·exact dd_nodup l
  ·rename_i h
   exact List.nodup_cons.2 ⟨h, dd_nodup l⟩
theorem dd_len : ∀ (l : List Nat), (dd l).length ≤ l.length
 | [] => by simp [dd]
 | a :: l => by
  have := dd_len l
  rw [dd]
  split <;> simp <;> omega
def wordsL (L : List Pt) (r : Nat) : List Nat := dd (L.map (·.w r))
theorem wordsL_mem {L : List Pt} {r w : Nat} : w ∈ wordsL L r ↔ ∃ p ∈ L, p.w r = w := by unfold wordsL; rw [dd_mem, List.mem_map]
def asI (ws : List Nat) : List Int := ws.map fun n : Nat => (n : Int)
def cellsL (L : List Pt) (r : Nat) : List Int := srtI (asI (wordsL L r))
theorem cm_words {L : List Pt} {r : Nat} {es : List MapEntry} {c : Nat} (h : CM (cnt L r) es c) : (es.map kI).Perm (asI (wordsL L r)) := by
 obtain ⟨ws, h1, h2, h3⟩ := h.ex
 have e : es.map kI = asI (ws.map (·.1)) := by
  have := congrArg (List.map fun q : Value × Value => match q.1 with | .int _ n => n | _ => (0 : Int)) h1.kv
  simp only [List.map_map, Function.comp_def, ent] at this
  unfold asI
  rw [List.map_map]
  exact this
 rw [e]
 refine List.Perm.map _ ((List.perm_ext_iff_of_nodup h2 (dd_nodup _)).2 fun w => ?_)
 rw [show dd (L.map (·.w r)) = wordsL L r from rfl, wordsL_mem, List.mem_map]
 constructor
 ·rintro ⟨a, ha, rfl⟩
  have := ((h3 a.1 a.2).1 ha).2
  unfold cnt at this
  rw [List.countP_pos_iff] at this
  obtain ⟨p, hp, e⟩ := this
  exact ⟨p, hp, by simpa using e⟩
 ·rintro ⟨p, hp, rfl⟩
  refine ⟨(p.w r, _), (h3 _ _).2 ⟨rfl, ?_⟩, rfl⟩
  unfold cnt
  rw [List.countP_pos_iff]
  exact ⟨p, hp, by simp⟩
theorem cellsL_len (L : List Pt) (r : Nat) : (cellsL L r).length ≤ L.length := by
 unfold cellsL asI
 rw [srtI_len, List.length_map]
 exact Nat.le_trans (dd_len _) (by simp)
theorem cm_len {L : List Pt} {r : Nat} {es : List MapEntry} {c : Nat} (h : CM (cnt L r) es c) : es.length = (cellsL L r).length := by
 have := (cm_words h).length_eq
 unfold cellsL
 rw [srtI_len, ← this, List.length_map]
section
variable {L : List Pt} {es : List MapEntry} {c : Nat} {ns : List (List Ky)} {ce : Nat → List MapEntry} {cc : Nat → Nat}
theorem cells_os (h : StL L es c ns ce cc) (hl : L.length < 50) (r : Nat) (hr : r < 13) :
  Triple Go.Proofs.Tryz.prog 41 [.ptr 1000000 0 0, int .i64 r] (stOs es c ns ce cc) (.own 1000016 0 0 (cellsL L r).length) (stOs es c ns ce cc ++ [rowU (cellsL L r)]) := by
 have hcm := h.cm r hr
 have hK := cm_keys hcm
 have hlen := cm_len hcm
 have hle := cellsL_len L r
 have hsrt : srtI ((ce r).map kI) = cellsL L r := srtI_perm (cm_words hcm)
 have hs : ∀ o ∈ stOs es c ns ce cc, imO (keepF 16) o = o := (SF L).shut ⟨es, c, ns, ce, cc, h, rfl⟩
 by_cases hne : ce r = []
 ·have h0 : cellsL L r = [] := List.length_eq_zero_iff.1 (by rw [← hlen, hne]; rfl)
  rw [h0]
  have key := cells_none (es := es) (c := c) (ns := ns) (cc := cc) hr hne
  exact nil_out (os := stOs es c ns ce cc) (by simp [stOs]) hs key
 ·have key := cells_some (es := es) (c := c) (ns := ns) hr rfl rfl hK (by omega) hne
  rw [hsrt, hlen] at key
  have := unbox (os := stOs es c ns ce cc) (ys := vu (cellsL L r)) (z := .v (.int .u64 0)) (vu_len _) (by simp [stOs]) hs (fun y hy => by
   obtain ⟨n, _, rfl⟩ := List.mem_map.1 hy
   rfl) key
  rw [vu_row] at this
  exact this
end
theorem cells_a (L : List Pt) (hl : L.length < 50) (r : Nat) (hr : r < 13) : Triple Go.Proofs.Tryz.prog 41 [.ptr 1000000 0 0, int .i64 r] [.abs (sT L)] (.own 1000001 0 0 (cellsL L r).length) [.abs (sT L), rowU (cellsL L r)] :=
 pack (F := SF L) (F' := SF L) rfl (ex := [rowU (cellsL L r)]) (fun os h => by
  obtain ⟨es, c, ns, ce, cc, h, rfl⟩ := h
  exact ⟨_, ⟨_, _, _, _, _, h, rfl⟩, cells_os h hl r hr⟩) rfl (by
  intro o ho
  simp at ho
  subst ho
  intro x hx
  obtain ⟨n, _, rfl⟩ := List.mem_map.1 hx
  trivial) (by simp [Flat])

noncomputable def apiaryref1_Same_pc : PC :=
  (.seq (.reg [p_s 4 (.mov (.c (.r (.v (.bool false)))))])
 (.seq (.seq (.reg [p_m 6 0, p_s 7 (.len false (.t 6)), p_m 8 1, p_s 9 (.len false (.t 8)), p_s 10 (.bin .neq (.t 7) (.t 9))])
 (.cond (.t 10)
 (.seq (.reg [p_s 4 (.mov (.c (.r (.v (.bool false)))))])
 .ret)
 .skip))
 (.seq (.seq (.reg [p_s 5 (.mov (o_i 0))])
 (.block 0 (.loop (.seq (.seq (.reg [p_m 11 5, p_m 12 0, p_s 13 (.len false (.t 12)), p_s 14 (.bin .lss (.t 11) (.t 13))])
 (.cond (.t 14)
 .skip
 (.exit 0)))
 (.seq (.block 1 (.seq (.drw [p_m 17 0, p_m 18 5, p_s 19 (.ia 1 (.v (.int .u64 0)) (.t 17) (.t 18)), p_s 20 (.ld none (.t 19)), p_m 21 1, p_m 22 5, p_s 23 (.ia 1 (.v (.int .u64 0)) (.t 21) (.t 22)),
 p_s 24 (.ld none (.t 23)), p_s 25 (.bin .neq (.t 20) (.t 24))]
 [[], [], [0, 1], [0, 1, 2], [], [], [4, 5], [4, 5, 6], [0, 1, 2, 3, 4, 5, 6, 7]])
 (.cond (.t 25)
 (.seq (.reg [p_s 4 (.mov (.c (.r (.v (.bool false)))))])
 .ret)
 .skip)))
 (.reg [p_m 15 5, p_s 16 (.bin .add (.t 15) (o_i 1)), p_m 5 16]))))))
 (.seq (.reg [p_s 4 (.mov (.c (.r (.v (.bool true)))))])
 .ret))))
theorem apiaryref1_Same_triple : Fun Go.Proofs.Tryz.prog 18 2 [(4, false, none)] apiaryref1_Same_pc := fun_mk Go.Proofs.Tryz.func18 rfl (by decide) (by kernel_rfl) (by decide) rfl (by kernel_rfl) (by kernel_rfl) (by decide)
theorem rw64_get {ws : List Int} {i : Nat} {n : Int} (h : ws[i]? = some n) (z : RV) : (rw64 ws).getD ((i : Int)).toNat z = .v (.int .u64 n) := by
 simp [List.getD, rw64, h]
theorem same_t (ws : List Int) (hl : ws.length ≤ 100000) : Triple Go.Proofs.Tryz.prog 18 [.r (.sl 1 (rw64 ws)), .r (.sl 1 (rw64 ws))] [] (bl true) [] := by
 refine apiaryref1_Same_triple rfl (by decide) ?_
 have e0 : ((ws.length : Int) != ws.length) = false := by simp
 simp only [apiaryref1_Same_pc, rw64_len, e0, List.length_nil, push_cast, ↓reduceIte, reduceCtorEq, Nat.reduceBEq, reduceEqDiff, reduceAdd, reduceSub, reduceLT, reduceLeDiff, reduceMul]
 refine run_loop [(5, false), (0, false), (1, false)] (fun vs pos los => ∃ i : Nat, i ≤ ws.length ∧ vs = [int .i64 i, .r (.sl 1 (rw64 ws)), .r (.sl 1 (rw64 ws))] ∧ pos = [] ∧ los = [])
  (fun vs _ _ => match vs with | .r (.v (.int _ j)) :: _ => (ws.length - j).toNat | _ => 0) rfl ?_ ?_
 ·simp only [push_cast, ↓reduceIte, reduceCtorEq, Nat.reduceBEq, reduceEqDiff, reduceAdd, reduceSub, reduceLT, reduceLeDiff, reduceMul]
  exact ⟨0, by omega, rfl⟩
 ·rintro vs pos los ⟨i, hi, rfl, rfl, rfl⟩
  simp only [rw64_len, push_cast, ↓reduceIte, reduceCtorEq, Nat.reduceBEq, reduceEqDiff, reduceAdd, reduceSub, reduceLT, reduceLeDiff, reduceMul]
  refine cnd_mk (fun h => ?_) (fun h => ?_)
  ·have h' : i < ws.length := by simpa using h
   obtain ⟨n, hn⟩ : ∃ n, ws[i]? = some n := ⟨ws[i], by simp [h']⟩
   have hj1 : IntKind.i64.wrap ((i : Int) + 1) = (i : Int) + 1 := wrap_id ⟨by omega, by omega⟩
   have en : (n != n) = false := by simp
   simp only [rw64_len, rw64_get hn, hj1, en, push_cast, ↓reduceIte, reduceCtorEq, Nat.reduceBEq, reduceEqDiff, reduceAdd, reduceSub, reduceLT, reduceLeDiff, reduceMul]
   repeat refine And.intro (by first | decide | omega | exact fun _ => by decide | (simp +contextual; done) | kernel_rfl) ?_
   exact ⟨⟨i + 1, by omega, rfl⟩, by omega⟩
  ·simp only [rw64_len, push_cast, ↓reduceIte, reduceCtorEq, Nat.reduceBEq, reduceEqDiff, reduceAdd, reduceSub, reduceLT, reduceLeDiff, reduceMul]
def rotL (l : List Pt) (t i : Nat) : List Pt := (List.range i).map fun k => l.getD ((k + t) % l.length) ⟨0, 0, 0, 0⟩

noncomputable def ident_digitOf_pc : PC :=
  (.seq (.reg [p_s 4 (.mov (.c (.r (.v (.int .u64 0)))))])
 (.seq (.reg [p_m 5 0, p_m 6 1, p_s 7 (.bin .sub (.t 6) (o_i 1)), p_s 8 (.bin .mul (o_i 3) (.t 7)), p_s 9 (.bin .sub (o_i 33) (.t 8)), p_s 10 (.conv .u64 (.t 9)), p_s 11 (.bin .shr (.t 5) (.t 10)),
 p_s 12 (.bin .and (.t 11) (.c (.r (.v (.int .u64 7))))), p_m 4 12])
 .ret))
theorem ident_digitOf_triple : Fun Go.Proofs.Tryz.prog 51 2 [(4, false, none)] ident_digitOf_pc := fun_mk Go.Proofs.Tryz.func51 rfl (by decide) (by kernel_rfl) (by decide) rfl (by kernel_rfl) (by kernel_rfl) (by decide)
noncomputable def ident_Cell_pc : PC :=
  (.seq (.reg [p_a 2 (.new [(.r (.v (.int .i64 0))), (.r (.v (.int .i64 0))), (.r (.v (.int .i64 0)))]), p_s 3 (.mov (o_i 0))])
 (.seq (.reg [p_m 10 0, p_s 11 (.bin .shr (.t 10) (.c (.r (.v (.int .u64 56))))), p_s 12 (.bin .and (.t 11) (.c (.r (.v (.int .u64 15))))), p_s 13 (.conv .i64 (.t 12)), p_m 4 13])
 (.seq (.seq (.reg [p_m 14 0, p_s 15 (.bin .shr (.t 14) (.c (.r (.v (.int .u64 60))))), p_s 16 (.bin .neq (.t 15) (.c (.r (.v (.int .u64 1))))), p_m 17 16, p_g 18 17 false (.mov (.t 4)),
 p_g 19 17 false (.bin .gtr (.t 18) (o_i 12)), p_s 20 (.pick (.t 17) (.c (.r (.v (.bool true)))) (.t 19))])
 (.cond (.t 20)
 (.seq (.reg [p_s 21 (.build [(.r (.v (.int .i64 0))), (.r (.v (.int .i64 0))), (.r (.v (.int .i64 0)))] []), ⟨none, none, 0, .act (.st 3 (.t 2) (.t 21))⟩, p_s 3 (.mov (o_i 5))])
 .ret)
 .skip))
 (.seq (.reg [p_m 22 0, p_s 23 (.bin .shr (.t 22) (.c (.r (.v (.int .u64 46))))), p_s 24 (.bin .and (.t 23) (.c (.r (.v (.int .u64 1023))))), p_s 25 (.conv .i64 (.t 24)), p_s 26 (.bin .sub (.t 25) (o_i 512)),
 p_m 27 0, p_s 28 (.bin .shr (.t 27) (.c (.r (.v (.int .u64 36))))), p_s 29 (.bin .and (.t 28) (.c (.r (.v (.int .u64 1023))))), p_s 30 (.conv .i64 (.t 29)), p_s 31 (.bin .sub (.t 30) (o_i 512)),
 p_s 32 (.build [(.r (.v (.int .i64 0))), (.r (.v (.int .i64 0)))] [(0, 1, (.t 26)), (1, 1, (.t 31))]), p_s 33 (.build [(.r (.v (.int .i64 0))), (.r (.v (.int .i64 0))), (.r (.v (.int .i64 0)))] [(1, 2, (.t 32))]),
 p_a 5 (.new [(.r (.v (.int .i64 0))), (.r (.v (.int .i64 0))), (.r (.v (.int .i64 0)))]), ⟨none, none, 0, .act (.st 3 (.t 5) (.t 33))⟩])
 (.seq (.seq (.reg [p_s 6 (.mov (o_i 1))])
 (.block 0 (.loop (.seq (.seq (.reg [p_m 34 6, p_s 35 (.bin .leq (.t 34) (o_i 12))])
 (.cond (.t 35)
 .skip
 (.exit 0)))
 (.seq (.block 1 (.seq (.reg [p_m 38 0, p_m 39 6, p_c 40 1 51 [.t 38, .t 39], p_m 7 40])
 (.seq (.seq (.reg [p_m 41 7, p_s 42 (.bin .eql (.t 41) (.c (.r (.v (.int .u64 7))))), p_m 43 6, p_m 44 4, p_s 45 (.bin .gtr (.t 43) (.t 44)), p_s 46 (.beq true (.t 42) (.t 45))])
 (.cond (.t 46)
 (.seq (.reg [p_s 47 (.build [(.r (.v (.int .i64 0))), (.r (.v (.int .i64 0))), (.r (.v (.int .i64 0)))] []), ⟨none, none, 0, .act (.st 3 (.t 2) (.t 47))⟩, p_s 3 (.mov (o_i 5))])
 .ret)
 .skip))
 (.seq (.seq (.reg [p_m 48 7, p_s 49 (.bin .eql (.t 48) (.c (.r (.v (.int .u64 7)))))])
 (.cond (.t 49)
 (.exit 1)
 .skip))
 (.seq (.reg [p_s 51 (.fa 1 (.t 5)), p_s 52 (.ld (some 2) (.t 51)), p_s 53 (.build [(.r (.v (.int .i64 0))), (.r (.v (.int .i64 0)))] [(0, 1, (o_i 2)), (1, 1, (o_i 1))]), p_c 54 2 52 [.t 52, .t 53],
 p_m 50 54, p_s 55 (.ext (.t 50) 0), p_s 56 (.ext (.t 50) 1), p_a 8 (.new [(.r (.v (.int .i64 0))), (.r (.v (.int .i64 0)))]), ⟨none, none, 0, .act (.st 2 (.t 8) (.t 55))⟩,
 p_m 9 56])
 (.seq (.seq (.reg [p_m 57 7, p_s 58 (.bin .gtr (.t 57) (.c (.r (.v (.int .u64 0)))))])
 (.cond (.t 58)
 (.drw [p_s 60 (.ld (some 2) (.t 8)), p_m 61 7, p_s 62 (.conv .i64 (.t 61)), p_s 63 (.bin .sub (.t 62) (o_i 1)), p_c 64 3 54 [.t 63], p_c 65 4 53 [.t 60, .t 64], p_m 59 65,
 p_s 66 (.ext (.t 59) 0), p_s 67 (.ext (.t 59) 1), ⟨none, none, 0, .act (.st 2 (.t 8) (.t 66))⟩]
 [[], [], [1], [1, 2], [1, 2, 3], [0, 1, 2, 3, 4], [0, 1, 2, 3, 4, 5], [0, 1, 2, 3, 4, 5, 6], [0, 1, 2, 3, 4, 5, 6], [0, 1, 2, 3, 4, 5, 6, 7]])
 .skip))
 (.reg [p_m 68 6, p_s 69 (.ld (some 2) (.t 8)), p_s 70 (.build [(.r (.v (.int .i64 0))), (.r (.v (.int .i64 0))), (.r (.v (.int .i64 0)))] [(0, 1, (.t 68)), (1, 2, (.t 69))]),
 ⟨none, none, 0, .act (.st 3 (.t 5) (.t 70))⟩])))))))
 (.reg [p_m 36 6, p_s 37 (.bin .add (.t 36) (o_i 1)), p_m 6 37]))))))
 (.seq (.reg [p_s 71 (.ld (some 3) (.t 5)), ⟨none, none, 0, .act (.st 3 (.t 2) (.t 71))⟩, p_s 3 (.mov (o_i 0))])
 .ret))))))
theorem ident_Cell_triple : Fun Go.Proofs.Tryz.prog 25 1 [(2, false, some (59, (some 3))), (3, false, none)] ident_Cell_pc := fun_mk Go.Proofs.Tryz.func25 rfl (by decide) (by kernel_rfl) (by decide) rfl (by kernel_rfl) (by kernel_rfl) (by decide)
theorem dig_t (w i : Nat) (hw : w < 18446744073709551616) (hi : 1 ≤ i ∧ i ≤ 12) : Triple Go.Proofs.Tryz.prog 51 [uw w, int .i64 i] [] (uw (dgt w i)) [] := by
 refine ident_digitOf_triple rfl (by decide) ?_
 have w1 : IntKind.i64.wrap ((i : Int) - 1) = (i : Int) - 1 := wrap_id (by omega)
 have w2 : IntKind.i64.wrap (3 * ((i : Int) - 1)) = 3 * ((i : Int) - 1) := wrap_id (by omega)
 have w3 : IntKind.i64.wrap (33 - 3 * ((i : Int) - 1)) = 36 - 3 * (i : Int) := by rw [wrap_id (by omega)]; omega
 have w4 : IntKind.u64.wrap (36 - 3 * (i : Int)) = 36 - 3 * (i : Int) := by simp [IntKind.wrap, IntKind.bits, IntKind.signed]; omega
 have e5 : IntKind.u64.wrap (BitVec.ofInt IntKind.u64.bits ((w : Int).fdiv (2 ^ min (36 - 3 * (i : Int)).toNat IntKind.u64.bits)) &&& BitVec.ofInt IntKind.u64.bits 7).toNat = (dgt w i : Int) := by
  rw [shr_and (k := 36 - 3 * i) (n := 3) (by omega) (by omega) (by decide) (by decide) hw]
  rw [show 2 ^ (36 - 3 * i) = 8 ^ (12 - i) by rw [show (8 : Nat) = 2 ^ 3 from rfl, ← Nat.pow_mul]; congr 1; omega]
  rfl
 simp only [ident_digitOf_pc, uw, w1, w2, w3, w4, e5, List.length_nil, push_cast, ↓reduceIte, reduceCtorEq, Nat.reduceBEq, reduceEqDiff, reduceAdd, reduceSub, reduceLT, reduceLeDiff, reduceMul]
 omega
set_option maxHeartbeats 1000000 in
theorem icell_t (w : Nat) (hw : w < 18446744073709551616) (hB : isWB w = true) : Triple Go.Proofs.Tryz.prog 25 [uw w] [] (.tup [cel (resW w) (down w (resW w)), int .i64 0]) [] := by
 refine ident_Cell_triple rfl (by decide) ?_
 obtain ⟨m1, m2, m3⟩ := (isWB_iff w).1 hB
 have e1 : (w : Int).fdiv (2 ^ min (Int.toNat 60) IntKind.u64.bits) = 1 := by
  have : (w : Int).fdiv (2 ^ min (Int.toNat 60) IntKind.u64.bits) = ((w / 1152921504606846976 : Nat) : Int) := shru (k := 60) rfl (by decide)
  rw [this, m1]; rfl
 have e2 : IntKind.i64.wrap (IntKind.u64.wrap (BitVec.ofInt IntKind.u64.bits ((w : Int).fdiv (2 ^ min (Int.toNat 56) IntKind.u64.bits)) &&& BitVec.ofInt IntKind.u64.bits 15).toNat) = (resW w : Int) := by
  rw [shr_and (k := 56) (n := 4) rfl (by decide) (by decide) (by decide) hw]
  exact wrap_id (by omega)
 have e3 : IntKind.i64.wrap (IntKind.i64.wrap (IntKind.u64.wrap (BitVec.ofInt IntKind.u64.bits ((w : Int).fdiv (2 ^ min (Int.toNat 46) IntKind.u64.bits)) &&& BitVec.ofInt IntKind.u64.bits 1023).toNat) - 512) = (down w 0).a := by
  rw [shr_and (k := 46) (n := 10) rfl (by decide) (by decide) (by decide) hw, show ∀ x : Nat, x < 1024 → IntKind.i64.wrap (IntKind.i64.wrap (x : Int) - 512) = x - 512 from fun x hx => by rw [wrap_id (x := (x : Int)) (by omega), wrap_id (by omega)]]
  ·rfl
  ·omega
 have e4 : IntKind.i64.wrap (IntKind.i64.wrap (IntKind.u64.wrap (BitVec.ofInt IntKind.u64.bits ((w : Int).fdiv (2 ^ min (Int.toNat 36) IntKind.u64.bits)) &&& BitVec.ofInt IntKind.u64.bits 1023).toNat) - 512) = (down w 0).b := by
  rw [shr_and (k := 36) (n := 10) rfl (by decide) (by decide) (by decide) hw, show ∀ x : Nat, x < 1024 → IntKind.i64.wrap (IntKind.i64.wrap (x : Int) - 512) = x - 512 from fun x hx => by rw [wrap_id (x := (x : Int)) (by omega), wrap_id (by omega)]]
  ·rfl
  ·omega
 have g1 : ((1 : Int) != 1) = false := rfl
 have g2 : decide ((resW w : Int) > 12) = false := by simp; omega
 simp only [ident_Cell_pc, uw, e1, e2, e3, e4, g1, g2, List.length_nil, push_cast, ↓reduceIte, reduceCtorEq, Nat.reduceBEq, reduceEqDiff, reduceAdd, reduceSub, reduceLT, reduceLeDiff, reduceMul]
 repeat refine And.intro (by first | decide | omega | exact fun _ => by decide | (simp +contextual; done) | kernel_rfl) ?_
 clear e1 e2 e3 e4
 refine run_loop [(6, false), (0, false), (4, false), (5, false), (2, false)] (fun vs pos los => ∃ i : Nat, (1 ≤ i ∧ i ≤ 13) ∧ vs = [int .i64 i, int .u64 w, int .i64 (resW w), .ptr 2000000 0 0, .ptr 2000001 0 0] ∧ pos = [] ∧ los = [.box [int .i64 (min (i - 1) (resW w) : Nat), int .i64 (down w (min (i - 1) (resW w))).a, int .i64 (down w (min (i - 1) (resW w))).b], .box [int .i64 0, int .i64 0, int .i64 0]])
  (fun vs _ _ => match vs with | .r (.v (.int _ j)) :: _ => (13 - j).toNat | _ => 0) rfl ?_ ?_
 ·simp only [push_cast, ↓reduceIte, reduceCtorEq, Nat.reduceBEq, reduceEqDiff, reduceAdd, reduceSub, reduceLT, reduceLeDiff, reduceMul]
  refine ⟨1, by omega, rfl, ?_⟩
  rw [show min (1 - 1) (resW w) = 0 by omega]
  rfl
 ·rintro vs pos los ⟨i, i6, rfl, rfl, rfl⟩
  obtain ⟨mi, hmi⟩ : ∃ mi, min (i - 1) (resW w) = mi := ⟨_, rfl⟩
  rw [hmi]
  simp only [push_cast, ↓reduceIte, reduceCtorEq, Nat.reduceBEq, reduceEqDiff, reduceAdd, reduceSub, reduceLT, reduceLeDiff, reduceMul]
  refine cnd_mk (fun hi => ?_) (fun hi => ?_)
  ·have hi : i ≤ 12 := by simp at hi; omega
   have hD8 : dgt w i < 8 := Nat.mod_lt _ (by decide)
   have wi : IntKind.i64.wrap ((i : Int) + 1) = (i : Int) + 1 := wrap_id (by omega)
   simp only [push_cast, ↓reduceIte, reduceCtorEq, Nat.reduceBEq, reduceEqDiff, reduceAdd, reduceSub, reduceLT, reduceLeDiff, reduceMul]
   refine call_as (as' := [uw w, int .i64 i]) rfl ?_
   refine call_mk (dig_t w i hw ⟨i6.1, hi⟩) rfl trivial ?_
   by_cases hc : resW w < i
   ·have hd7 := (m3 i i6.1 hi).2 hc
    have f1 : (((7 : Nat) : Int) == 7) = true := rfl
    have f1' : ((7 : Int) == 7) = true := rfl
    have f2 : decide ((i : Int) > (resW w : Int)) = true := by simp; omega
    have f3 : (true != true) = false := rfl
    rw [hd7]
    simp only [uw, f1, f1', f2, f3, wi, push_cast, ↓reduceIte, reduceCtorEq, Nat.reduceBEq, reduceEqDiff, reduceAdd, reduceSub, reduceLT, reduceLeDiff, reduceMul]
    refine ⟨⟨i + 1, by omega, rfl, ?_⟩, by omega⟩
    rw [show min (i + 1 - 1) (resW w) = mi by omega]
   ·have hd7 : dgt w i ≠ 7 := fun e => hc ((m3 i i6.1 hi).1 e)
    obtain rfl : mi = i - 1 := by omega
    have f1 : ((dgt w i : Int) == 7) = false := by simp; omega
    have f2 : decide ((i : Int) > (resW w : Int)) = false := by simp; omega
    have f3 : (false != false) = false := rfl
    have hz := down_In w (i - 1) (by omega)
    have hz2 := down_In w i hi
    have hzm : ((down w (i - 1)).mul beta).In 10000000000000 := (mul_In hz (show beta.In 2 by unfold Ei.In; decide)).mono (by decide)
    have hdn : down w i = child (down w (i - 1)) (dgt w i) := by
     conv => lhs; rw [show i = i - 1 + 1 by omega]
     rw [down, show i - 1 + 1 = i by omega]
    simp only [uw, f1, f2, f3, wi, push_cast, ↓reduceIte, reduceCtorEq, Nat.reduceBEq, reduceEqDiff, reduceAdd, reduceSub, reduceLT, reduceLeDiff, reduceMul]
    refine call_as (as' := [(down w (i - 1)).v, beta.v]) rfl ?_
    refine call_mk (emul_t _ _ (hz.mono (by decide)) (show beta.In _ by unfold Ei.In; decide) (hzm.mono (by decide))) rfl trivial ?_
    simp only [Ei.v, Ei.rv, push_cast, ↓reduceIte, reduceCtorEq, Nat.reduceBEq, reduceEqDiff, reduceAdd, reduceSub, reduceLT, reduceLeDiff, reduceMul]
    refine cnd_mk (fun hp => ?_) (fun hp => ?_)
    ·have hp' : 0 < dgt w i := by simp at hp; omega
     have wd : IntKind.i64.wrap (dgt w i : Int) = (dgt w i : Int) := wrap_id (by omega)
     have wd1 : IntKind.i64.wrap ((dgt w i : Int) - 1) = (dgt w i : Int) - 1 := wrap_id (by omega)
     have hch : child (down w (i - 1)) (dgt w i) = ((down w (i - 1)).mul beta).add (uni (dgt w i - 1)) := by
      unfold child
      rw [if_neg (by omega)]
     rw [hch] at hdn
     simp only [wd, wd1, push_cast, ↓reduceIte, reduceCtorEq, Nat.reduceBEq, reduceEqDiff, reduceAdd, reduceSub, reduceLT, reduceLeDiff, reduceMul]
     refine dcall_mk (eunit_t ((dgt w i : Int) - 1) (by omega)) rfl trivial ?_
     rw [show ((dgt w i : Int) - 1).toNat = dgt w i - 1 by omega]
     have hu : (uni (dgt w i - 1)).In 1 := by unfold uni; split <;> unfold Ei.In <;> decide
     simp only [Ei.v, Ei.rv, push_cast, ↓reduceIte, reduceCtorEq, Nat.reduceBEq, reduceEqDiff, reduceAdd, reduceSub, reduceLT, reduceLeDiff, reduceMul]
     refine dcall_as (as' := [((down w (i - 1)).mul beta).v, (uni (dgt w i - 1)).v]) rfl ?_
     refine dcall_mk (eadd_t _ _ (hzm.mono (by decide)) (hu.mono (by decide)) (by rw [← hdn]; exact hz2.mono (by decide))) rfl trivial ?_
     rw [← hdn]
     simp only [wi, Ei.v, Ei.rv, push_cast, ↓reduceIte, reduceCtorEq, Nat.reduceBEq, reduceEqDiff, reduceAdd, reduceSub, reduceLT, reduceLeDiff, reduceMul]
     repeat refine And.intro (by first | decide | omega | exact fun _ => by decide | (simp +contextual; done) | kernel_rfl) ?_
     refine ⟨⟨i + 1, by omega, rfl, ?_⟩, by omega⟩
     rw [show min (i + 1 - 1) (resW w) = i by omega]
    ·have hp' : dgt w i = 0 := by simp at hp; omega
     have hch : child (down w (i - 1)) (dgt w i) = (down w (i - 1)).mul beta := by
      unfold child
      rw [if_pos (by omega)]
     rw [hch] at hdn
     simp only [wi, push_cast, ↓reduceIte, reduceCtorEq, Nat.reduceBEq, reduceEqDiff, reduceAdd, reduceSub, reduceLT, reduceLeDiff, reduceMul]
     refine ⟨⟨i + 1, by omega, rfl, ?_⟩, by omega⟩
     rw [show min (i + 1 - 1) (resW w) = i by omega, hdn]
  ·have hi : i = 13 := by simp at hi; omega
   subst hi
   obtain rfl : mi = resW w := by omega
   simp only [cel, push_cast, ↓reduceIte, reduceCtorEq, Nat.reduceBEq, reduceEqDiff, reduceAdd, reduceSub, reduceLT, reduceLeDiff, reduceMul]

end Go.Ev
