/- The document's writers: what their strings are. -/
import Derived.Test.YtjagonphgaphaaaTake
import Derived.Test.YtjagonphgaphaaaLeaf
import Derived.Test.YtjagonphgaphaaaPlain2
namespace Go.Proofs.Ytjagonphgaphaaa
open Go.RowKit
set_option linter.unusedVariables false

theorem own_snoc {α : Type} (f : α → Value) {P : List α} {c : α} {w : World} {base e : Nat} {v : Value} (h : w.ownsRow base e 1 v (P.length + 1) (P.map f ++ [f c])) :
    w.ownsRow base e 1 v (P ++ [c]).length ((P ++ [c]).map f) := by
  rw [List.length_append, List.map_append]
  exact h
theorem own_reads {w : World} {base e size : Nat} {v : Value} {A : Option Addr} {n c : Nat} {xs : List Value} (h : w.ownsRow base e size v n xs) (hv : v = .slice A n c) : Reads w w.heap.size size A n xs :=
  Reads.of_own (hv ▸ h)

theorem fieldOk_any (n : Int) (w : World) (h1 : -9223372036854775808 ≤ n) (h2 : n ≤ 9223372036854775807) :
    Calls Try.prog 26 #[.int .i64 n] w fun e w' => e = .returned (.bool (okB n)) ∧ w = w' := by
  by_cases h : 1 ≤ n
  all_goals
    go_enter Try.func26, Try.ntmps26
    go_wp2
    go_ret
    exact ⟨ret_bool (by unfold okB; simp; try omega), rfl⟩

set_option maxRecDepth 100000 in
theorem rvar_any (n : Int) (w : World) (h0 : 0 ≤ n) (h1 : n < 18446744073709551616) :
    Calls Try.prog 23 #[.int .u64 n] w fun e w' => e = .returned (.string ⟨(varL n.toNat).toArray⟩) ∧ Below w.heap.size w w' := by
  obtain ⟨i0, hi0, hz0, hz1, hz2⟩ := info_parts info_u8
  obtain ⟨n, rfl⟩ := Int.eq_ofNat_of_zero_le h0
  rw [Int.toNat_natCast]
  have hn : n < 18446744073709551616 := by omega
  clear h0 h1
  go_enter Try.func23, Try.ntmps23
  go_wp2_with fail
  go_loopw [0, 3] (fun x v wr => ∃ (f m : Nat) (P : List UInt8), x = .int .u64 (m : Int) ∧ m < 18446744073709551616 ∧ P.length + f = 10 ∧ 1 ≤ f ∧ m < 128 ^ f ∧ varL n = P ++ varF f m ∧
      wr.ownsRow w.heap.size 5 1 v P.length (P.map u8v) ∧ Below w.heap.size w wr) (fun x _ _ => (intOf x).toNat)
  case atStart => exact ⟨10, n, [], rfl, hn, rfl, by decide, Nat.lt_of_lt_of_le hn (by decide), rfl, World.ownsRow_nil _ _ _ _, Below.refl _ _⟩
  case round =>
    obtain ⟨f, m, P, rfl, hm, hf, hf1, hp, hv, ho', hnx⟩ := hrel
    obtain ⟨A1, c1, rfl, hc1⟩ := own_form ho'
    have hs := hnx.size
    have Hv := hide hv
    have Hp := hide hp
    clear hv hp
    by_cases hlt : 127 < m
    · go_wp2_with (at_builtin; refine stop ?_)
      intro _
      refine wpList_append_any _ rfl (.tmp 6) (.tmp 10) _ rfl w.heap.size 5 i0 _ 1 1 Try.underlying27 hi0 hz0 hz1 hz2 rfl (by omega) (.slice A1 P.length c1) P.length _ rfl
         (ho'.alloc _) (wr.heap.size + 1) _ 1 _ [_] rfl (reads_new wr _ _) (one_new rfl) (by simp only [maxLen]; omega) (by omega) (by simp; omega) ?_
      intro v1 w1 hown1 hg1 hat1
      have hb2 : Below w.heap.size w w1 := (hnx.alloc hs _).grown hg1 (by simp; omega) (fun k hk2 => (ho'.lt k hk2).1)
      go_wp2_with fail
      refine ⟨?_, by simp [intOf]; omega⟩
      obtain ⟨f', rfl, hf1', hp', hv'⟩ := varF_big hlt Hp.out
      refine ⟨f', m / 128, P ++ [UInt8.ofNat (m % 128 + 128)], by go_num, by omega, by simp; omega, hf1', hp', ?_, ?_, hb2⟩
      · rw [Hv.out, hv', List.append_assoc]; rfl
      · rw [byte_more2] at hown1
        exact own_snoc u8v hown1
    · go_wp2_with (at_builtin; refine stop ?_)
      intro _
      refine wpList_append_any _ rfl (.tmp 14) (.tmp 17) _ rfl w.heap.size 5 i0 _ 1 1 Try.underlying27 hi0 hz0 hz1 hz2 rfl (by omega) (.slice A1 P.length c1) P.length _ rfl
         (ho'.alloc _) (wr.heap.size + 1) _ 1 _ [_] rfl (reads_new wr _ _) (one_new rfl) (by simp only [maxLen]; omega) (by omega) (by simp; omega) ?_
      intro v1 w1 hown1 hg1 hat1
      have hb2 : Below w.heap.size w w1 := (hnx.alloc hs _).grown hg1 (by simp; omega) (fun k hk2 => (ho'.lt k hk2).1)
      rw [byte_last m (by omega)] at hown1
      obtain ⟨A2, c2, rfl, hc2⟩ := own_form hown1
      have hv' := varF_small (f := f) (n := m) (by omega) hf1
      have hst := reads_str (P := Try.prog) (P ++ [UInt8.ofNat m]) c2 (own_reads (own_snoc u8v hown1) (by rw [List.length_append]; rfl)) 27 9 5 Try.underlying27 Try.underlying5 Try.underlying9
      rw [List.length_append, List.length_singleton] at hst
      clear hown1 hv'
      go_wp2_with fail
      go_ret
      refine ⟨?_, hb2⟩
      rw [Hv.out, varF_small (f := f) (n := m) (by omega) hf1]
      simp
end Go.Proofs.Ytjagonphgaphaaa
