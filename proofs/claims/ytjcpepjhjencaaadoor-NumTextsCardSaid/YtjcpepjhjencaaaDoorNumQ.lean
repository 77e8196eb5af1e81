import Derived.Test.YtjcpepjhjencaaaDoorNumP
import Derived.Lib.ParseIntBTie
namespace Go.Ev
open Go
set_option linter.unnecessarySimpa false
set_option linter.unusedSimpArgs false
set_option linter.unusedVariables false
def i64 (v : Int) : Prop := -9223372036854775808 ≤ v ∧ v ≤ 9223372036854775807
def isNeg : List UInt8 → Bool
  | c :: _ => decide (c.toNat = 45)
  | [] => false
def isNought : List UInt8 → Bool
  | c :: _ => decide (c.toNat = 48)
  | [] => false
/-- What the program reads. -/
def pv (l : List UInt8) : Option Int := match Lib.parseIntB 64 l with
  | .ok v => if Lib.itoa v = l then some v else none
  | _ => none
/-- What the document reads. -/
def rpd (neg : Bool) (d : List UInt8) : Option Int :=
  if d.length = 0 ∨ 19 < d.length ∨ (isNought d = true ∧ (1 < d.length ∨ neg = true)) then none
  else if d.all isDig = false then none
  else if neg = true then (if dval 0 d ≤ 9223372036854775808 then some (-(dval 0 d : Int)) else none)
  else (if dval 0 d < 9223372036854775808 then some (dval 0 d : Int) else none)
def rp (l : List UInt8) : Option Int := if isNeg l then rpd true l.tail else rpd false l
theorem u45 {c : UInt8} (h : c.toNat = 45) : c = 45 := UInt8.toNat_inj.1 h
theorem dec_first {u : Nat} {c : UInt8} {r : List UInt8} (h : Lib.decDigits u = c :: r) : 48 ≤ c.toNat ∧ c.toNat ≤ 57 := by
  have := dec_all u
  rw [h] at this
  simp only [List.all_cons, Bool.and_eq_true, isDig, decide_eq_true_eq] at this
  exact this.1
theorem dec_len {u k : Nat} (h : u < 10 ^ k) (hk : 1 ≤ k) : (Lib.decDigits u).length ≤ k := by
  rw [Lib.decDigits_length]
  rcases Nat.lt_or_ge k (Lib.nDigits u) with hlt | hge
  · exfalso
    have h0 : u ≠ 0 := fun h0 => by
      subst h0
      rw [Lib.nDigits_small (by decide)] at hlt
      omega
    have hd := dec_val u
    have hh := dec_head u h0
    generalize hl : Lib.decDigits u = l at hd hh
    have hlen : l.length = Lib.nDigits u := by rw [← hl, Lib.decDigits_length]
    cases l with
    | nil => exact dec_ne u hl
    | cons c r =>
      have h1 := dec_first hl
      have h2 := hh c rfl
      have h3 := dval_le r (c.toNat - 48)
      have h4 : dval (c.toNat - 48) r = u := by
        have : dval (0 * 10 + (c.toNat - 48)) r = u := hd
        rwa [Nat.zero_mul, Nat.zero_add] at this
      have h5 : k ≤ r.length := by simp at hlen; omega
      have h6 : 10 ^ k ≤ 10 ^ r.length := Nat.pow_le_pow_right (by decide) h5
      have h7 : 1 * 10 ^ r.length ≤ (c.toNat - 48) * 10 ^ r.length := Nat.mul_le_mul_right _ (by omega)
      omega
  · exact hge
theorem rpd_iff (neg : Bool) (d : List UInt8) (v : Int) : rpd neg d = some v ↔ i64 v ∧ (if neg then v < 0 ∧ Lib.decDigits v.natAbs = d else 0 ≤ v ∧ Lib.decDigits v.toNat = d) := by
  constructor
  · intro h
    unfold rpd at h
    split at h
    · cases h
    · rename_i h1
      split at h
      · cases h
      · rename_i h2
        have hd : d.all isDig = true := by simpa using h2
        have hne : d ≠ [] := fun e => h1 (.inl (by simp [e]))
        have hh : ∀ c, d.head? = some c → c.toNat = 48 → d.length = 1 ∧ neg = false := fun c hc h48 => by
          have hn : isNought d = true := by
            cases d with
            | nil => cases hc
            | cons e d => cases hc; simp [isNought, h48]
          have hlen : 0 < d.length := by
            cases d with
            | nil => exact absurd rfl hne
            | cons => simp
          refine ⟨?_, ?_⟩
          · rcases Nat.lt_or_ge 1 d.length with h5 | h5
            · exact absurd (.inr (.inr ⟨hn, .inl h5⟩)) h1
            · omega
          · cases neg with
            | false => rfl
            | true => exact absurd (.inr (.inr ⟨hn, .inr rfl⟩)) h1
        have hdec := dec_of d hne hd (fun c hc h48 => (hh c hc h48).1)
        cases neg with
        | true =>
          simp only [if_true] at h ⊢
          split at h
          · rename_i h3
            have hv := Option.some.inj h
            have hpos : dval 0 d ≠ 0 := fun h0 => by
              cases d with
              | nil => exact hne rfl
              | cons c r =>
                rw [h0] at hdec
                have : c = 48 := by
                  have := congrArg List.head? hdec
                  rw [Lib.decDigits_one (by decide)] at this
                  exact (Option.some.inj this).symm
                have := (hh c rfl (by rw [this]; rfl)).2
                cases this
            subst hv
            refine ⟨by unfold i64; omega, by omega, ?_⟩
            rw [Int.natAbs_neg, Int.natAbs_natCast, hdec]
          · cases h
        | false =>
          simp only [Bool.false_eq_true, if_false] at h ⊢
          split at h
          · rename_i h3
            have hv := Option.some.inj h
            subst hv
            refine ⟨by unfold i64; omega, by omega, ?_⟩
            rw [Int.toNat_natCast, hdec]
          · cases h
  · rintro ⟨hv, h⟩
    have key : ∀ u : Nat, u ≤ 9223372036854775808 → Lib.decDigits u = d → (neg = true → u ≠ 0) → d.all isDig = true ∧ dval 0 d = u ∧ ¬ (d.length = 0 ∨ 19 < d.length ∨ (isNought d = true ∧ (1 < d.length ∨ neg = true))) := fun u hu hud hn => by
      subst hud
      refine ⟨dec_all u, dec_val u, ?_⟩
      rintro (h1 | h1 | ⟨h1, h2⟩)
      · exact dec_ne u (List.eq_nil_of_length_eq_zero h1)
      · have := dec_len (u := u) (k := 19) (by omega) (by decide)
        omega
      · by_cases h0 : u = 0
        · subst h0
          rw [Lib.decDigits_one (by decide)] at h2
          rcases h2 with h2 | h2
          · simp at h2
          · exact hn h2 rfl
        · have h3 := dec_head u h0
          generalize Lib.decDigits u = l at h1 h3
          cases l with
          | nil => simp [isNought] at h1
          | cons c r => exact h3 c rfl (by simpa [isNought] using h1)
    unfold i64 at hv
    unfold rpd
    cases neg with
    | true =>
      simp only [if_true] at h ⊢
      obtain ⟨k1, k2, k3⟩ := key v.natAbs (by omega) h.2 (fun _ => by omega)
      rw [if_neg (by simpa using k3), if_neg (by rw [k1]; simp), if_pos (by omega), k2]
      congr 1
      omega
    | false =>
      simp only [Bool.false_eq_true, if_false] at h ⊢
      obtain ⟨k1, k2, k3⟩ := key v.toNat (by omega) h.2 (fun h => by cases h)
      rw [if_neg (by simpa using k3), if_neg (by rw [k1]; simp), if_pos (by omega), k2]
      congr 1
      omega
theorem rp_iff (l : List UInt8) (v : Int) : rp l = some v ↔ i64 v ∧ Lib.itoa v = l := by
  unfold rp
  cases l with
  | nil =>
    simp only [isNeg, Bool.false_eq_true, if_false, rpd_iff]
    refine and_congr_right fun _ => ?_
    unfold Lib.itoa
    constructor
    · rintro ⟨_, h⟩; exact absurd h (dec_ne _)
    · intro h
      split at h
      · cases h
      · exact absurd h (dec_ne _)
  | cons c r =>
    by_cases hc : c.toNat = 45
    · simp only [isNeg, hc, decide_true, if_true, List.tail_cons, rpd_iff]
      refine and_congr_right fun _ => ?_
      have := u45 hc
      subst this
      unfold Lib.itoa
      constructor
      · rintro ⟨h1, h2⟩
        rw [if_pos h1, h2]
      · intro h
        split at h
        · rename_i h1
          simp at h
          exact ⟨h1, h⟩
        · have := dec_first h
          exact absurd this.1 (by decide)
    · simp only [isNeg, hc, decide_false, Bool.false_eq_true, if_false, rpd_iff]
      refine and_congr_right fun _ => ?_
      unfold Lib.itoa
      constructor
      · rintro ⟨h1, h2⟩
        rw [if_neg (by omega), h2]
      · intro h
        split at h
        · simp at h
          exact absurd (by rw [← h.1]; rfl) hc
        · rename_i h1
          exact ⟨by omega, h⟩
theorem round_trip (v : Int) (hv : i64 v) : Lib.parseIntB 64 (Lib.itoa v) = .ok v := by
  unfold i64 at hv
  have key : ∀ u : Nat, u ≤ 9223372036854775808 → Lib.parseUintB 64 (Lib.decDigits u) = .ok u := fun u hu => by
    unfold Lib.parseUintB
    rw [if_neg (dec_ne u), parse_dig (by decide) _ _ (dec_all u) (by rw [dec_val]; omega), dec_val]
  unfold Lib.itoa
  by_cases h : v < 0
  · rw [if_pos h]
    simp only [Lib.parseIntB, show ((45 : UInt8).toNat = 45) from rfl, or_true, if_true]
    rw [key _ (by omega)]
    simp only [not_true, false_and, if_false, true_and]
    rw [if_neg (by omega)]
    congr 1
    omega
  · rw [if_neg h]
    have hd := key v.toNat (by omega)
    generalize hl : Lib.decDigits v.toNat = l at hd
    cases l with
    | nil => exact absurd hl (dec_ne _)
    | cons c r =>
      have h1 := dec_first hl
      simp only [Lib.parseIntB]
      rw [if_neg (by omega), hd]
      simp only []
      rw [if_neg (by omega), if_neg (by omega), if_neg (by omega)]
      congr 1
      omega
theorem pv_iff (l : List UInt8) (v : Int) : pv l = some v ↔ i64 v ∧ Lib.itoa v = l := by
  unfold pv
  constructor
  · intro h
    split at h
    · rename_i v' hp
      split at h
      · rename_i hi
        cases h
        have := Lib.parseIntB_bounds (B := 64) hp
        exact ⟨by unfold i64; omega, hi⟩
      · cases h
    · cases h
  · rintro ⟨hv, rfl⟩
    rw [round_trip v hv]
    simp
theorem pv_rp (l : List UInt8) : pv l = rp l := by
  cases h : rp l with
  | some v => exact (pv_iff l v).2 ((rp_iff l v).1 h)
  | none =>
    cases h2 : pv l with
    | none => rfl
    | some v => rw [(rp_iff l v).2 ((pv_iff l v).1 h2)] at h; cases h
end Go.Ev
