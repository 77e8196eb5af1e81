import Derived.Test.YtpjimnjfjopedaaTrH
namespace Go.Ev
open Go
set_option linter.unnecessarySimpa false
set_option linter.unusedSimpArgs false
set_option linter.unusedVariables false
theorem count2 {p q r : Ky → Bool} {L : List Ky} (h : ∀ x ∈ L, (p x).toNat + (q x).toNat = 1 + (r x).toNat) : L.countP p + L.countP q = L.length + L.countP r := by
  induction L with
  | nil => rfl
  | cons x L ih =>
    have h1 := h x (by simp)
    have h2 := ih fun y hy => h y (by simp [hy])
    simp only [List.countP_cons, List.length_cons]
    cases hp : p x <;> cases hq : q x <;> cases hr : r x <;> simp [hp, hq, hr] at h1 ⊢ <;> omega
theorem Srt.nodup {L : List Ky} (h : Srt L) : L.Nodup := h.imp fun {a b} hab e => by subst e; rw [kl_irr] at hab; cases hab
theorem countP_eq_mem {L : List Ky} (h : Srt L) (k : Ky) : L.countP (fun x => decide (x = k)) = (decide (k ∈ L)).toNat := by
  have := h.nodup.count (a := k)
  rw [show L.countP (fun x => decide (x = k)) = L.count k from rfl]
  rw [this]
  split <;> simp [*]
theorem three (x k : Ky) : (!kl k x).toNat + (!kl x k).toNat = 1 + (decide (x = k)).toNat := by
  rcases kl_three x k with h | h | h
  · have : x ≠ k := fun e => by subst e; rw [kl_irr] at h; cases h
    simp [h, kl_asym h, this]
  · have : x ≠ k := fun e => by subst e; rw [kl_irr] at h; cases h
    simp [h, kl_asym h, this]
  · subst h; simp [kl_irr]
theorem less_or (x k : Ky) : (kl x k).toNat + (decide (x = k)).toNat = (!kl k x).toNat := by
  rcases kl_three x k with h | h | h
  · have : x ≠ k := fun e => by subst e; rw [kl_irr] at h; cases h
    simp [h, kl_asym h, this]
  · have : x ≠ k := fun e => by subst e; rw [kl_irr] at h; cases h
    simp [h, kl_asym h, this]
  · subst h; simp [kl_irr]
theorem count3 {p q r : Ky → Bool} {L : List Ky} (h : ∀ x ∈ L, (p x).toNat + (q x).toNat = (r x).toNat) : L.countP p + L.countP q = L.countP r := by
  induction L with
  | nil => rfl
  | cons x L ih =>
    have h1 := h x (by simp)
    have h2 := ih fun y hy => h y (by simp [hy])
    simp only [List.countP_cons]
    cases hp : p x <;> cases hq : q x <;> cases hr : r x <;> simp [hp, hq, hr] at h1 ⊢ <;> omega
theorem rk_get {L : List Ky} (h : Srt L) {i : Nat} {x : Ky} (hx : L[i]? = some x) : rk L x = i := by
  have hlt := (List.getElem?_eq_some_iff.1 hx).1
  unfold rk
  conv => lhs; rw [← List.take_append_drop i L]
  rw [List.countP_append]
  have h1 : (L.take i).countP (fun q => kl q x) = i := by
    rw [List.countP_eq_length.2, List.length_take, Nat.min_eq_left (by omega)]
    intro y hy
    obtain ⟨j, hj⟩ := List.mem_iff_getElem?.1 hy
    rw [List.getElem?_take] at hj
    split at hj
    · rename_i hji; exact srt_lt h hji hj hx
    · cases hj
  have h2 : (L.drop i).countP (fun q => kl q x) = 0 := by
    rw [List.countP_eq_zero]
    intro y hy
    obtain ⟨j, hj⟩ := List.mem_iff_getElem?.1 hy
    rw [List.getElem?_drop] at hj
    rcases Nat.eq_zero_or_pos j with h0 | h0
    · subst h0
      rw [Nat.add_zero, hx] at hj
      cases hj
      rw [kl_irr]; simp
    · rw [kl_asym (srt_lt h (show i < i + j by omega) hx hj)]; simp
  omega
abbrev kLo : Ky := ⟨0, -9223372036854775808, -9223372036854775808⟩
abbrev kHi : Ky := ⟨18446744073709551615, 9223372036854775807, 9223372036854775807⟩
theorem not_lo {x : Ky} (h : x.Wf) : kl x kLo = false := by
  obtain ⟨c0, c1, v0, v1, d0, d1⟩ := h
  unfold kl
  split
  · simp; omega
  · split
    · simp; omega
    · simp; omega
theorem not_hi {x : Ky} (h : x.Wf) : kl kHi x = false := by
  obtain ⟨c0, c1, v0, v1, d0, d1⟩ := h
  unfold kl
  split
  · simp; omega
  · split
    · simp; omega
    · simp; omega
structure Parts (L : List Ky) (k : Ky) : Prop where
  sum : (rng L kLo k).length + (rng L k kHi).length = L.length + (decide (k ∈ L)).toNat
  all : rng L kLo kHi = L
  rank : rk L k + (decide (k ∈ L)).toNat = (rng L kLo k).length
  each : ∀ (i : Nat) (x : Ky), (rng L kLo k)[i]? = some x → rk L x = i
  none : rng L kHi kLo = []
theorem parts {L : List Ky} (h : Srt L) (hw : ∀ x ∈ L, x.Wf) (k : Ky) : Parts L k := by
  have hlo : ∀ x ∈ L, kl x kLo = false := fun x hx => not_lo (hw x hx)
  have hhi : ∀ x ∈ L, kl kHi x = false := fun x hx => not_hi (hw x hx)
  have eA : rng L kLo k = L.filter fun x => !kl k x := List.filter_congr fun x hx => by simp [hlo x hx]
  have eB : rng L k kHi = L.filter fun x => !kl x k := List.filter_congr fun x hx => by simp [hhi x hx]
  refine ⟨?_, ?_, ?_, fun i x hx => ?_, ?_⟩
  · rw [eA, eB, ← List.countP_eq_length_filter, ← List.countP_eq_length_filter, ← countP_eq_mem h]
    exact count2 fun x _ => three x k
  · exact List.filter_eq_self.2 fun x hx => by simp [hlo x hx, hhi x hx]
  · rw [eA, ← List.countP_eq_length_filter, ← countP_eq_mem h]
    exact count3 fun x _ => less_or x k
  · rw [eA, ← takeWhile_srt h] at hx
    have hp := List.takeWhile_prefix (l := L) fun x => !kl k x
    obtain ⟨t, ht⟩ := hp
    have : L[i]? = some x := by
      rw [← ht, List.getElem?_append_left (List.getElem?_eq_some_iff.1 hx).1]
      exact hx
    exact rk_get h this
  · refine List.filter_eq_nil_iff.2 fun x hx => ?_
    intro hc
    simp only [Bool.and_eq_true, Bool.not_eq_true'] at hc
    rcases kl_le hc.1 with h1 | h1
    · rw [← h1] at hc
      have := hc.2
      simp [kl] at this
    · rcases kl_le hc.2 with h2 | h2
      · rw [h2] at h1
        simp [kl] at h1
      · have := kl_trans h1 h2
        simp [kl] at this
end Go.Ev
