/- Contracts of one where there is no field, or a number. Conditions: the bytes read as a list. -/
import Derived.Test.YtjagonphgaphaaaTake
namespace Go.Proofs.Ytjagonphgaphaaa
open Go.RowKit
set_option linter.unusedVariables false

def zeroFld : Value := .tuple #[.agg #[.int .i64 0, .int .i64 0, .int .u64 0, .slice none 0 0], .int .i64 0]

set_option maxRecDepth 100000 in
theorem one_none1 {B : Nat} (A : Option Addr) (c : Nat) (bs : List UInt8) (w : World) (hB : B ≤ w.heap.size) (hr : Reads w B 1 A bs.length (bs.map u8v)) (hb : bs.length ≤ 140737488355328)
    (tag k : Nat) (ht : take bs = (tag, k)) (h : k = 0 ∨ tag / 8 < 1 ∨ 1000 < tag / 8) :
    Calls Try.prog 27 #[.slice A bs.length c] w fun e w' => e = .returned zeroFld ∧ Below w.heap.size w w' := by
  obtain ⟨t1, t2, t3⟩ := take_bound bs
  have Ht := hide ht
  rw [ht] at t1 t2 t3
  clear ht
  go_enter Try.func27, Try.ntmps27
  go_wp2_with fail
  refine (take_any A c bs _ (hr.alloc hB _) hb).mono ?_
  rintro e w1 ⟨rfl, rfl⟩
  rw [Ht.out]
  go_wp2_with fail
  all_goals
    refine bodyPost_ret (v := zeroFld) (by simp [results, Try.results27, go_sem, zeroFld]) rfl ⟨rfl, ?_⟩
    exact ((Below.refl _ _).alloc (Nat.le_refl _) _).alloc (by simp) _

set_option maxRecDepth 100000 in
theorem one_none2 {B : Nat} (A : Option Addr) (c : Nat) (bs : List UInt8) (w : World) (hB : B ≤ w.heap.size) (hr : Reads w B 1 A bs.length (bs.map u8v)) (hc : bs.length ≤ c) (hb : bs.length ≤ 140737488355328)
    (tag k n : Nat) (ht : take bs = (tag, k)) (h1 : k ≠ 0) (h2 : 1 ≤ tag / 8) (h3 : tag / 8 ≤ 1000) (h4 : take (bs.drop k) = (n, 0)) :
    Calls Try.prog 27 #[.slice A bs.length c] w fun e w' => e = .returned zeroFld ∧ Below w.heap.size w w' := by
  obtain ⟨t1, t2, t3⟩ := take_bound bs
  have Ht := hide ht
  rw [ht] at t1 t2 t3
  clear ht
  have H4 := hide h4
  clear h4
  have hk0 : ((k : Int) == 0) = false := by rw [beq_eq_false_iff_ne]; omega
  go_enter Try.func27, Try.ntmps27
  go_wp2_with fail
  refine (take_any A c bs _ (hr.alloc hB _) hb).mono ?_
  rintro e w1 ⟨rfl, rfl⟩
  rw [Ht.out]
  by_cases hck : c = k
  · subst hck
    have hl : bs.length = c := by omega
    go_wp2_with fail
    refine (take_at A _ [] _ rfl (B := B) reads_nil (by decide)).mono ?_
    rintro e w1 ⟨rfl, rfl⟩
    have hj0 : ((((take []).2 : Nat) : Int) == 0) = true := rfl
    go_wp2_with fail
    refine bodyPost_ret (v := zeroFld) (by simp [results, Try.results27, go_sem, zeroFld]) rfl ⟨rfl, ?_⟩
    exact ((Below.refl _ _).alloc (Nat.le_refl _) _).alloc (by simp) _
  · have hcut := reads_drop1 hr t3 hc hck
    go_wp2_with fail
    refine (take_at _ _ _ _ (by simp) ((hcut.alloc hB _).alloc (by simp; omega) _) (by omega)).mono ?_
    rintro e w1 ⟨rfl, rfl⟩
    rw [H4.out]
    have hj0 : (((0 : Nat) : Int) == 0) = true := rfl
    go_wp2_with fail
    refine bodyPost_ret (v := zeroFld) (by simp [results, Try.results27, go_sem, zeroFld]) rfl ⟨rfl, ?_⟩
    exact ((Below.refl _ _).alloc (Nat.le_refl _) _).alloc (by simp) _

set_option maxRecDepth 100000 in
theorem one_none3 {B : Nat} (A : Option Addr) (c : Nat) (bs : List UInt8) (w : World) (hB : B ≤ w.heap.size) (hr : Reads w B 1 A bs.length (bs.map u8v)) (hc : bs.length ≤ c) (hb : bs.length ≤ 140737488355328)
    (tag k n j : Nat) (ht : take bs = (tag, k)) (h1 : k ≠ 0) (h2 : 1 ≤ tag / 8) (h3 : tag / 8 ≤ 1000) (h4 : take (bs.drop k) = (n, j)) (h5 : j ≠ 0) (h6 : 1 ≤ tag % 8) (h7 : tag % 8 ≠ 2 ∨ bs.length - k - j < n) :
    Calls Try.prog 27 #[.slice A bs.length c] w fun e w' => e = .returned zeroFld ∧ Below w.heap.size w w' := by
  obtain ⟨t1, t2, t3⟩ := take_bound bs
  obtain ⟨s1, s2, s3⟩ := take_bound (bs.drop k)
  have Ht := hide ht
  have H4 := hide h4
  rw [ht] at t1 t2 t3
  rw [h4] at s1 s2 s3
  rw [List.length_drop] at s3
  clear ht h4
  simp only at t1 t2 t3 s1 s2 s3
  have hk0 : ((k : Int) == 0) = false := by rw [beq_eq_false_iff_ne]; omega
  have hj0 : ((j : Int) == 0) = false := by rw [beq_eq_false_iff_ne]; omega
  have hck : ¬ c = k := by omega
  have hcut := reads_drop1 hr t3 hc hck
  go_enter Try.func27, Try.ntmps27
  go_wp2_with fail
  refine (take_any A c bs _ (hr.alloc hB _) hb).mono ?_
  rintro e w1 ⟨rfl, rfl⟩
  rw [Ht.out]
  go_wp2_with fail
  refine (take_at _ _ _ _ (by simp) ((hcut.alloc hB _).alloc (by simp; omega) _) (by omega)).mono ?_
  rintro e w1 ⟨rfl, rfl⟩
  rw [H4.out]
  by_cases h8 : tag % 8 = 2
  · have h9 : (((tag : Int) % 8) == 2) = true := by rw [beq_iff_eq]; omega
    have h10 : bs.length - k - j < n := by omega
    clear h8 h7
    go_wp2_with fail
    refine bodyPost_ret (v := zeroFld) (by simp [results, Try.results27, go_sem, zeroFld]) rfl ⟨rfl, ?_⟩
    exact ((Below.refl _ _).alloc (Nat.le_refl _) _).alloc (by simp) _
  · have h9 : (((tag : Int) % 8) == 2) = false := by rw [beq_eq_false_iff_ne]; omega
    clear h7
    go_wp2_with fail
    refine bodyPost_ret (v := zeroFld) (by simp [results, Try.results27, go_sem, zeroFld]) rfl ⟨rfl, ?_⟩
    exact ((Below.refl _ _).alloc (Nat.le_refl _) _).alloc (by simp) _

set_option maxRecDepth 100000 in
theorem one_num {B : Nat} (A : Option Addr) (c : Nat) (bs : List UInt8) (w : World) (hB : B ≤ w.heap.size) (hr : Reads w B 1 A bs.length (bs.map u8v)) (hc : bs.length ≤ c) (hb : bs.length ≤ 140737488355328)
    (tag k n j : Nat) (ht : take bs = (tag, k)) (h1 : k ≠ 0) (h2 : 1 ≤ tag / 8) (h3 : tag / 8 ≤ 1000) (h4 : take (bs.drop k) = (n, j)) (h5 : j ≠ 0) (h6 : tag % 8 ≤ 0) :
    Calls Try.prog 27 #[.slice A bs.length c] w fun e w' => e = .returned (.tuple #[.agg #[.int .i64 (tag / 8 : Nat), .int .i64 0, .int .u64 n, .slice none 0 0], .int .i64 (k + j : Nat)]) ∧ Below w.heap.size w w' := by
  obtain ⟨t1, t2, t3⟩ := take_bound bs
  obtain ⟨s1, s2, s3⟩ := take_bound (bs.drop k)
  have Ht := hide ht
  have H4 := hide h4
  rw [ht] at t1 t2 t3
  rw [h4] at s1 s2 s3
  rw [List.length_drop] at s3
  clear ht h4
  simp only at t1 t2 t3 s1 s2 s3
  have hk0 : ((k : Int) == 0) = false := by rw [beq_eq_false_iff_ne]; omega
  have hj0 : ((j : Int) == 0) = false := by rw [beq_eq_false_iff_ne]; omega
  have hck : ¬ c = k := by omega
  have hcut := reads_drop1 hr t3 hc hck
  go_enter Try.func27, Try.ntmps27
  go_wp2_with fail
  refine (take_any A c bs _ (hr.alloc hB _) hb).mono ?_
  rintro e w1 ⟨rfl, rfl⟩
  rw [Ht.out]
  go_wp2_with fail
  refine (take_at _ _ _ _ (by simp) ((hcut.alloc hB _).alloc (by simp; omega) _) (by omega)).mono ?_
  rintro e w1 ⟨rfl, rfl⟩
  rw [H4.out]
  have h7 : (((tag : Int) % 8) == 0) = true := by rw [beq_iff_eq]; omega
  go_wp2_with fail
  refine bodyPost_ret (v := .tuple #[.agg #[.int .i64 (tag / 8 : Nat), .int .i64 0, .int .u64 n, .slice none 0 0], .int .i64 (k + j : Nat)]) (by simp [results, Try.results27, go_sem]; omega) rfl ⟨rfl, ?_⟩
  exact ((Below.refl _ _).alloc (Nat.le_refl _) _).alloc (by simp) _
end Go.Proofs.Ytjagonphgaphaaa
