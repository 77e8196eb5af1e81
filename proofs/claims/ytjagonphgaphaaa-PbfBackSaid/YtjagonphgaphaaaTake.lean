/- Contract of take: the number at the front of bytes. Conditions: the bytes read as a list. -/
import Derived.Test.YtjagonphgaphaaaWriter
namespace Go.Proofs.Ytjagonphgaphaaa
open Go.RowKit
set_option linter.unusedVariables false

theorem addr_add0 (a : Addr) : a.add 0 = a := rfl
theorem reads_at {w : World} {B : Nat} {A : Option Addr} {bs : List UInt8} (h : Reads w B 1 A bs.length (bs.map u8v)) {k : Nat} (hk : k < bs.length) :
    ∃ ad, A = some ad ∧ w.cell? (ad.add k) = some (.int .u8 (bs[k].toNat : Int)) := by
  obtain ⟨ad, u, e, _, hx, hc⟩ := h.at_ hk
  refine ⟨ad, e, ?_⟩
  rw [hc, ← hx]
  simp [hk]

theorem ret_two {r : Nat × Nat} {x y : Nat} {a b : Int} (h : r = (x, y)) (ha : a = (x : Int)) (hb : b = (y : Int)) :
    Ending.returned (.tuple #[.int .u64 a, .int .i64 b]) = .returned (.tuple #[.int .u64 (r.1 : Nat), .int .i64 (r.2 : Nat)]) := by rw [h, ha, hb]
theorem val_int {k : IntKind} {a b : Int} (h : a = b) : Value.int k a = .int k b := by rw [h]
set_option maxRecDepth 100000 in
theorem take_any {B : Nat} (A : Option Addr) (c : Nat) (bs : List UInt8) (w : World) (hr : Reads w B 1 A bs.length (bs.map u8v)) (hb : bs.length ≤ 140737488355328) :
    Calls Try.prog 29 #[.slice A bs.length c] w fun e w' => e = .returned (.tuple #[.int .u64 ((take bs).1 : Nat), .int .i64 ((take bs).2 : Nat)]) ∧ w = w' := by
  go_enter Try.func29, Try.ntmps29
  go_wp2_with fail
  go_loop [4, 9] (fun x i => ∃ k m : Nat, k ≤ bs.length ∧ k ≤ 9 ∧ m < 2 ^ (7 * k) ∧ i = .int .i64 (k : Int) ∧ x = .int .u64 (m : Int) ∧ take bs = takeF k m (bs.drop k)) (fun _ i => bs.length - (intOf i).toNat)
  case atStart => exact ⟨0, 0, by omega, by omega, by decide, rfl, rfl, rfl⟩
  case round =>
    obtain ⟨k, m, hk, hk9, hm, rfl, rfl, ht⟩ := hrel
    have Ht := hide ht
    have Hm := hide hm
    clear ht hm
    by_cases hlt : k < bs.length
    · obtain ⟨ad, rfl, hcell⟩ := reads_at hr hlt
      have hc256 : bs[k].toNat < 256 := bs[k].toNat_lt
      generalize hbk : bs[k].toNat = b at *
      have Hbk := hide hbk
      clear hbk hr
      rcases (show (0 < k ∧ b ≤ 0) ∨ (k < 9 ∧ 0 < k ∧ 0 < b ∧ b < 128) ∨ (k < 9 ∧ 0 < k ∧ 128 ≤ b) ∨ (k = 0 ∧ b < 128) ∨ (k = 0 ∧ 128 ≤ b) ∨ (9 ≤ k ∧ 1 < b) ∨ (9 ≤ k ∧ 0 < b ∧ b ≤ 1) from by omega) with ⟨g1, g2⟩ | ⟨g1, g2, g3, g4⟩ | ⟨g1, g2, g3⟩ | ⟨rfl, g2⟩ | ⟨rfl, g2⟩ | ⟨g1, g2⟩ | ⟨g1, g2, g3⟩
      · have hz : ((b : Int) == 0) = true := by rw [beq_iff_eq]; omega
        by_cases h9 : 9 ≤ k
        · obtain rfl : k = 9 := by omega
          have hcell2 : w.cell? ⟨ad.block, ad.off + 9, none⟩ = some (.int .u8 (b : Int)) := by simpa [Addr.add] using hcell
          clear hcell
          go_wp2_with fail
          go_ret2
          exact ⟨ret_two (Ht.out.trans (takeF_no hlt Hbk.out (by omega))) rfl rfl, rfl⟩
        · go_wp2_with fail
          go_ret2
          exact ⟨ret_two (Ht.out.trans (takeF_no hlt Hbk.out (by omega))) rfl rfl, rfl⟩
      · go_wp2_with fail
        go_ret2
        exact ⟨ret_two (Ht.out.trans (takeF_end hlt Hbk.out (by omega) g4)) (take_bits (by omega) Hm.out hc256 (by omega)) (by omega), rfl⟩
      · go_wp2_with fail
        refine ⟨⟨k + 1, m + b % 128 * 2 ^ (7 * k), by omega, by omega, take_less Hm.out, by go_num, val_int (take_bits (by omega) Hm.out hc256 (by omega)), Ht.out.trans (takeF_on hlt Hbk.out (by omega) (by omega))⟩, by simp [intOf]; omega⟩
      · rw [addr_add0] at hcell
        have hx := take_bits (k := 0) (b := b) (by omega) Hm.out (by omega) (by omega)
        simp only [Nat.mul_zero, Int.pow_zero, Int.mul_one] at hx
        have Hx := hide hx
        clear hx
        go_wp2_with fail
        go_ret2
        exact ⟨ret_two (Ht.out.trans (takeF_end hlt Hbk.out (by omega) g2)) Hx.out rfl, rfl⟩
      · rw [addr_add0] at hcell
        have hx := take_bits (k := 0) (b := b) (by omega) Hm.out (by omega) (by omega)
        simp only [Nat.mul_zero, Int.pow_zero, Int.mul_one] at hx
        have Hx := hide hx
        clear hx
        go_wp2_with fail
        refine ⟨⟨1, m + b % 128 * 2 ^ (7 * 0), by omega, by omega, take_less Hm.out, rfl, val_int Hx.out, Ht.out.trans (takeF_on hlt Hbk.out (by omega) (by omega))⟩, by simp [intOf]; omega⟩
      · go_wp2_with fail
        go_ret2
        exact ⟨ret_two (Ht.out.trans (takeF_no hlt Hbk.out (by omega))) rfl rfl, rfl⟩
      · obtain rfl : b = 1 := by omega
        obtain rfl : k = 9 := by omega
        have hcell2 : w.cell? ⟨ad.block, ad.off + 9, none⟩ = some (.int .u8 1) := by simpa [Addr.add] using hcell
        clear hcell g3 hc256
        go_wp2_with fail
        go_ret2
        exact ⟨ret_two (Ht.out.trans (takeF_end hlt Hbk.out (by omega) (by omega))) (take_bits9 Hm.out) rfl, rfl⟩
    · go_wp2_with fail
      go_ret2
      exact ⟨ret_two (Ht.out.trans (takeF_none k m bs (by omega))) rfl rfl, rfl⟩

theorem take_at {B n : Nat} (A : Option Addr) (c : Nat) (bs : List UInt8) (w : World) (hn : bs.length = n) (hr : Reads w B 1 A n (bs.map u8v)) (hb : n ≤ 140737488355328) :
    Calls Try.prog 29 #[.slice A n c] w fun e w' => e = .returned (.tuple #[.int .u64 ((take bs).1 : Nat), .int .i64 ((take bs).2 : Nat)]) ∧ w = w' := by
  subst hn
  exact take_any A c bs w hr hb
theorem reads_drop {w : World} {B : Nat} {A : Option Addr} {bs : List UInt8} {k c : Nat} (h : Reads w B 1 A bs.length (bs.map u8v)) (hk : k ≤ bs.length) (hc : bs.length ≤ c) :
    Reads w B 1 (if c = k then A else A.map (·.add k)) (bs.length - k) ((bs.drop k).map u8v) := by
  have := h.cut (k := k) hk hc
  rw [Nat.mul_one] at this
  rw [List.map_drop]
  exact this
theorem reads_drop1 {w : World} {B : Nat} {A : Option Addr} {bs : List UInt8} {k c : Nat} (h : Reads w B 1 A bs.length (bs.map u8v)) (hk : k ≤ bs.length) (hc : bs.length ≤ c) (hck : ¬ c = k) :
    Reads w B 1 (A.map (·.add k)) (bs.length - k) ((bs.drop k).map u8v) := by
  have := reads_drop h hk hc
  rwa [if_neg hck] at this
theorem reads_take {w : World} {B n : Nat} {A : Option Addr} {xs : List Value} (h : Reads w B 1 A n xs) {m : Nat} (hm : m ≤ n) : Reads w B 1 A m (xs.take m) := by
  refine ⟨by rw [List.length_take, h.1]; omega, fun h0 => ?_⟩
  obtain ⟨ad, e, hb, hc⟩ := h.2 (by omega)
  refine ⟨ad, e, hb, fun j u hu => hc j u ?_⟩
  rw [List.getElem?_take] at hu
  split at hu
  · exact hu
  · cases hu
theorem reads_nil {w : World} {B : Nat} {A : Option Addr} : Reads w B 1 A 0 ([].map u8v) := ⟨rfl, fun h => absurd h (by omega)⟩
end Go.Proofs.Ytjagonphgaphaaa
