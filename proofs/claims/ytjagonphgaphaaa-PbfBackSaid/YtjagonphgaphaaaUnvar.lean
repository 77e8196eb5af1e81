/- The document's reader of one number. -/
import Derived.Test.YtjagonphgaphaaaRefNum
namespace Go.Proofs.Ytjagonphgaphaaa
open Go.RowKit
set_option linter.unusedVariables false

set_option maxRecDepth 100000 in
theorem unvar_any (bs : List UInt8) (w : World) (hb : bs.length ≤ 140737488355328) :
    Calls Try.prog 28 #[strV bs] w fun e w' => e = .returned (.tuple #[.int .u64 ((take bs).1 : Nat), .int .i64 ((take bs).2 : Nat)]) ∧ w = w' := by
  go_enter Try.func28, Try.ntmps28
  go_wp2_with fail
  go_loop [4, 5] (fun x i => ∃ k m : Nat, k ≤ bs.length ∧ k ≤ 9 ∧ m < 2 ^ (7 * k) ∧ i = .int .i64 (k : Int) ∧ x = .int .u64 (m : Int) ∧ take bs = takeF k m (bs.drop k)) (fun _ i => bs.length - (intOf i).toNat)
  case atStart => exact ⟨0, 0, by omega, by omega, by decide, rfl, rfl, rfl⟩
  case round =>
    obtain ⟨k, m, hk, hk9, hm, rfl, rfl, ht⟩ := hrel
    have Ht := hide ht
    have Hm := hide hm
    clear ht hm
    by_cases hlt : k < bs.length
    · obtain ⟨b, hbk⟩ : ∃ b, ((⟨bs.toArray⟩ : ByteArray)[k]'hlt).toNat = b := ⟨_, rfl⟩
      have hb2 : bs[k].toNat = b := hbk
      have hb3 : b < 256 := by rw [← hb2]; exact bs[k].toNat_lt
      have Hb2 := hide hb2
      clear hb2
      rcases (show (0 < k ∧ k < 9) ∨ k = 0 ∨ 9 ≤ k from by omega) with ⟨h1, h2⟩ | rfl | h1
      · by_cases hb0 : b ≤ 0
        · have hz : ((b : Int) == 0) = true := by rw [beq_iff_eq]; omega
          go_wp2_with fail
          go_ret2
          exact ⟨ret_two (Ht.out.trans (takeF_no hlt Hb2.out (by omega))) rfl rfl, rfl⟩
        · by_cases hb1 : b < 128
          · go_wp2_with fail
            go_ret2
            exact ⟨ret_two (Ht.out.trans (takeF_end hlt Hb2.out (by omega) hb1)) (take_bits_r (by omega) Hm.out hb3 (by omega)) (by omega), rfl⟩
          · go_wp2_with fail
            refine ⟨⟨k + 1, m + b % 128 * 2 ^ (7 * k), by omega, by omega, take_less Hm.out, by go_num, val_int (take_bits_r (by omega) Hm.out hb3 (by omega)), Ht.out.trans (takeF_on hlt Hb2.out (by omega) (by omega))⟩, by simp [intOf]; omega⟩
      · have hx := take_bits_r (k := 0) (b := b) (by omega) Hm.out (by omega) (by omega)
        simp only [Nat.mul_zero, Int.pow_zero, Int.mul_one] at hx
        have Hx := hide hx
        clear hx
        by_cases hb1 : b < 128
        · go_wp2_with fail
          go_ret2
          exact ⟨ret_two (Ht.out.trans (takeF_end hlt Hb2.out (by omega) hb1)) Hx.out rfl, rfl⟩
        · go_wp2_with fail
          refine ⟨⟨1, m + b % 128 * 2 ^ (7 * 0), by omega, by omega, take_less Hm.out, rfl, val_int Hx.out, Ht.out.trans (takeF_on hlt Hb2.out (by omega) (by omega))⟩, by simp [intOf]; omega⟩
      · by_cases hb1 : 1 < b
        · go_wp2_with fail
          go_ret2
          exact ⟨ret_two (Ht.out.trans (takeF_no hlt Hb2.out (by omega))) rfl rfl, rfl⟩
        · obtain rfl : k = 9 := by omega
          by_cases hb0 : b = 0
          · subst hb0
            go_wp2_with fail
            go_ret2
            exact ⟨ret_two (Ht.out.trans (takeF_no hlt Hb2.out (by omega))) rfl rfl, rfl⟩
          · obtain rfl : b = 1 := by omega
            go_wp2_with fail
            go_ret2
            exact ⟨ret_two (Ht.out.trans (takeF_end hlt Hb2.out (by omega) (by omega))) (take_bits_r9 Hm.out) rfl, rfl⟩
    · go_wp2_with fail
      go_ret2
      exact ⟨ret_two (Ht.out.trans (takeF_none k m bs (by omega))) rfl rfl, rfl⟩
end Go.Proofs.Ytjagonphgaphaaa
