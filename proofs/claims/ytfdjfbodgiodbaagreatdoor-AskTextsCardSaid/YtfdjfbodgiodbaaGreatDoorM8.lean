import Derived.Lib.ItoaNum
import Derived.Lib.ParseIntB
import Derived.Test.YtfdjfbodgiodbaaGreatDoorM7
open Nat renaming le_trans → zaa
namespace Go.Ev
set_option maxRecDepth 100000
open Go
set_option linter.unusedSectionVars false
set_option linter.unnecessarySimpa false
set_option linter.unusedSimpArgs false
set_option linter.unusedVariables false
def dval (acc : Nat) : List UInt8 → Nat
 | [] => acc
 | c :: r => dval (acc * 10 + (c.toNat - 48)) r
def isDig (c : UInt8) : Bool := decide (48 ≤ c.toNat ∧ c.toNat ≤ 57)
theorem dval_app (acc : Nat) (l r : List UInt8) : dval acc (l ++ r) = dval (dval acc l) r := by
 induction l generalizing acc with
 | nil => rfl
 | cons c l ih => exact ih _
theorem dval_le (l : List UInt8) : ∀ acc : Nat, acc * 10 ^ l.length ≤ dval acc l := by
 induction l with
 | nil => exact fun acc => Nat.le_of_eq (Nat.mul_one acc)
 | cons c r ih =>
  intro acc
  have h := ih (acc * 10 + (c.toNat - 48))
  show acc * 10 ^ (r.length + 1) ≤ dval (acc * 10 + (c.toNat - 48)) r
  rw [Nat.pow_succ]
  generalize 10 ^ r.length = p at h
  generalize c.toNat - 48 = d at h ⊢
  refine zaa ?_ h
  rw [Nat.mul_comm p 10, ← Nat.mul_assoc]
  exact Nat.mul_le_mul_right _ (Nat.le_add_right _ _)
theorem parse_dig {M : Nat} (hM : M ≤ 18446744073709551615) : ∀ (l : List UInt8) (acc : Nat), l.all isDig = true → dval acc l ≤ M → Lib.parseUintM M acc l = .ok (dval acc l)
 | [], acc, _, _ => rfl
 | c :: r, acc, h, hv => by
  simp only [List.all_cons, Bool.and_eq_true, isDig, decide_eq_true_eq] at h
  have h1 := dval_le r (acc * 10 + (c.toNat - 48))
  have h2 : 1 ≤ 10 ^ r.length := Nat.one_le_pow _ _ (by decide)
  have h3 : acc * 10 + (c.toNat - 48) ≤ M := zaa (zaa (Nat.le_mul_of_pos_right _ h2) h1) hv
  simp only [Lib.parseUintM, if_pos h.1, if_neg (show ¬ 1844674407370955162 ≤ acc by omega), if_neg (show ¬ M < acc * 10 + (c.toNat - 48) by omega)]
  exact parse_dig hM r _ h.2 hv
theorem dig_toNat {k : Nat} (hk : k < 10) : (UInt8.ofNat (48 + k)).toNat = 48 + k := by
 simp [UInt8.toNat_ofNat']
 omega
theorem dec_all (u : Nat) : (Lib.decDigits u).all isDig = true := by
 induction u using Nat.strongRecOn with
 | ind u ih =>
  rw [Lib.decDigits]
  split
  ·rename_i h
   simp only [List.all_cons, List.all_nil, Bool.and_true, isDig, dig_toNat h, decide_eq_true_eq]
   omega
  ·rename_i h
   rw [List.all_append, ih (u / 10) (by omega)]
   simp only [List.all_cons, List.all_nil, Bool.and_true, Bool.true_and, isDig, dig_toNat (show u % 10 < 10 by omega), decide_eq_true_eq]
   omega
theorem dec_val (u : Nat) : dval 0 (Lib.decDigits u) = u := by
 induction u using Nat.strongRecOn with
 | ind u ih =>
  rw [Lib.decDigits]
  split
  ·rename_i h
   show 0 * 10 + ((UInt8.ofNat (48 + u)).toNat - 48) = u
   rw [dig_toNat h]
   omega
  ·rename_i h
   rw [dval_app, ih (u / 10) (by omega)]
   show u / 10 * 10 + ((UInt8.ofNat (48 + u % 10)).toNat - 48) = u
   rw [dig_toNat (show u % 10 < 10 by omega)]
   omega
theorem dec_ne (u : Nat) : Lib.decDigits u ≠ [] := by
 rw [Lib.decDigits]
 split <;> simp
theorem head_app {l r : List UInt8} (hl : l ≠ []) : (l ++ r).head? = l.head? := by
 cases l with
 | nil => exact absurd rfl hl
 | cons c l => rfl
theorem dec_head (u : Nat) (hu : u ≠ 0) : ∀ c, (Lib.decDigits u).head? = some c → c.toNat ≠ 48 := by
 induction u using Nat.strongRecOn with
 | ind u ih =>
  intro c hc
  rw [Lib.decDigits] at hc
  split at hc
  ·rename_i h
   have hc := Option.some.inj hc
   rw [← hc, dig_toNat h]; omega
  ·rename_i h
   rw [head_app (dec_ne _)] at hc
   exact ih (u / 10) (by omega) (by omega) c hc
theorem dec_of (l : List UInt8) (hl : l ≠ []) (hd : l.all isDig = true) (h0 : ∀ c, l.head? = some c → c.toNat = 48 → l.length = 1) : Lib.decDigits (dval 0 l) = l := by
 obtain ⟨n, hn⟩ : ∃ n, l.length = n := ⟨_, rfl⟩
 induction n generalizing l with
 | zero => exact absurd (List.eq_nil_of_length_eq_zero hn) hl
 | succ n ih =>
  rcases List.eq_nil_or_concat l with h | ⟨r, c, h⟩
  ·exact absurd h hl
  ·rw [List.concat_eq_append] at h
   subst h
   rw [List.all_append] at hd
   simp only [Bool.and_eq_true, List.all_cons, List.all_nil, Bool.and_true] at hd
   obtain ⟨hd1, hd2⟩ := hd
   have hc : 48 ≤ c.toNat ∧ c.toNat ≤ 57 := by simpa [isDig] using hd2
   have hcc : UInt8.ofNat (48 + (c.toNat - 48)) = c := by
    apply UInt8.toNat_inj.1
    rw [dig_toNat (by omega)]; omega
   rw [dval_app]
   show Lib.decDigits (dval 0 r * 10 + (c.toNat - 48)) = _
   by_cases hr : r = []
   ·subst hr
    show Lib.decDigits (0 * 10 + (c.toNat - 48)) = [c]
    rw [Nat.zero_mul, Nat.zero_add, Lib.decDigits_one (by omega), hcc]
   ·have hlen : r.length = n := by simpa using hn
    have hh : ∀ d, r.head? = some d → d.toNat = 48 → r.length = 1 := fun d hd3 h48 => by
     have := h0 d (by rw [head_app hr]; exact hd3) h48
     simp at this
     exact absurd this hr
    have hv := ih r hr hd1 hh hlen
    have hpos : 1 ≤ dval 0 r := by
     cases r with
     | nil => exact absurd rfl hr
     | cons d r =>
      have hdd : isDig d = true := by simp at hd1; exact hd1.1
      have h1 := dval_le r (d.toNat - 48)
      have h2 : 1 ≤ 10 ^ r.length := Nat.one_le_pow _ _ (by decide)
      have h3 : d.toNat ≠ 48 := fun h48 => by
       have := h0 d (by simp) h48
       simp at this
      have h4 : 48 ≤ d.toNat := by simp [isDig] at hdd; omega
      show 1 ≤ dval (0 * 10 + (d.toNat - 48)) r
      rw [Nat.zero_mul, Nat.zero_add]
      exact zaa (zaa (by omega) (Nat.le_mul_of_pos_right _ h2)) h1
    rw [Lib.decDigits, dif_neg (by omega), show (dval 0 r * 10 + (c.toNat - 48)) / 10 = dval 0 r by omega, show (dval 0 r * 10 + (c.toNat - 48)) % 10 = c.toNat - 48 by omega, hv, hcc]

end Go.Ev
