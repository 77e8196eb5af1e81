import Derived.Test.YtpjimnjfjopedaaTrJ
namespace Go.Ev
open Go
set_option linter.unnecessarySimpa false
set_option linter.unusedSimpArgs false
set_option linter.unusedVariables false
theorem srt_sub : ∀ {B A : List Ky}, Srt A → Srt B → (∀ x ∈ A, x ∈ B) → A.Sublist B
  | [], A, hA, hB, h => by
    have : A = [] := List.eq_nil_iff_forall_not_mem.2 fun x hx => by simpa using h x hx
    rw [this]
    exact List.Sublist.slnil
  | b :: B, [], hA, hB, h => List.nil_sublist _
  | b :: B, a :: A, hA, hB, h => by
    have h1 := List.pairwise_cons.1 hA
    have h2 := List.pairwise_cons.1 hB
    by_cases hab : a = b
    · subst hab
      refine (srt_sub h1.2 h2.2 fun x hx => ?_).cons_cons _
      rcases List.mem_cons.1 (h x (by simp [hx])) with rfl | q
      · have := h1.1 x hx; rw [kl_irr] at this; cases this
      · exact q
    · refine (srt_sub hA h2.2 fun x hx => ?_).cons _
      have hB' : a ∈ B := (List.mem_cons.1 (h a (by simp))).resolve_left hab
      rcases List.mem_cons.1 (h x hx) with rfl | q
      · have h3 := h2.1 a hB'
        rcases List.mem_cons.1 hx with rfl | q
        · exact absurd rfl hab
        · have h4 := kl_trans h3 (h1.1 x q)
          rw [kl_irr] at h4; cases h4
      · exact q
theorem srt_ext {A B : List Ky} (hA : Srt A) (hB : Srt B) (h : ∀ x, x ∈ A ↔ x ∈ B) : A = B :=
  (srt_sub hA hB fun x hx => (h x).1 hx).eq_of_length_le (srt_sub hB hA fun x hx => (h x).2 hx).length_le
/-- The r-th key. -/
def kf (r : Nat) : Ky := ⟨(r / 7 : Nat), ((r % 7 : Nat) : Int) - 3, 1⟩
theorem kf_lt {a b : Nat} : kl (kf a) (kf b) = decide (a < b) := by
  unfold kl kf
  simp only
  split
  · apply decide_eq_decide.2; omega
  · split
    · apply decide_eq_decide.2; omega
    · apply decide_eq_decide.2; omega
theorem kf_inj {a b : Nat} (h : kf a = kf b) : a = b := by
  have h1 : kl (kf a) (kf b) = false := by rw [h, kl_irr]
  have h2 : kl (kf b) (kf a) = false := by rw [h, kl_irr]
  rw [kf_lt] at h1 h2
  simp at h1 h2
  omega
theorem kf_srt {l : List Nat} (h : l.Pairwise (· < ·)) : Srt (l.map kf) := by
  rw [Srt, List.pairwise_map]
  exact h.imp fun {a b} hab => by rw [kf_lt]; simpa using hab
theorem turn_inj {n st i j : Nat} (hc : Nat.Coprime n st) (hi : i < n) (hj : j < i) (h : i * st % n = j * st % n) : False := by
  have h1 : (i * st - j * st) % n = 0 := Nat.sub_mod_eq_zero_of_mod_eq h
  rw [← Nat.sub_mul] at h1
  have h2 : n ∣ (i - j) * st := Nat.dvd_of_mod_eq_zero h1
  have h3 : n ∣ i - j := hc.dvd_of_dvd_mul_right h2
  have := Nat.le_of_dvd (by omega) h3
  omega
/-- All keys have come. -/
theorem all_come {n : Nat} {L : List Ky} (h : Srt L) (hl : L.length = n) (hm : ∀ x ∈ L, ∃ r, r < n ∧ x = kf r) : L = (List.range n).map kf := by
  have hr : Srt ((List.range n).map kf) := kf_srt List.pairwise_lt_range
  refine (srt_sub h hr fun x hx => ?_).eq_of_length (by simp [hl])
  obtain ⟨r, h1, rfl⟩ := hm x hx
  exact List.mem_map.2 ⟨r, List.mem_range.2 h1, rfl⟩
/-- The next step that has no divisor in common with n. -/
theorem next_step (n st : Nat) (hn : 0 < n) : ∃ T, st ≤ T ∧ T ≤ st + n ∧ Nat.Coprime n T := by
  refine ⟨n * ((st + n - 1) / n) + 1, ?_, ?_, ?_⟩
  · have h1 := Nat.div_add_mod (st + n - 1) n
    have h2 := Nat.mod_lt (st + n - 1) hn
    omega
  · have h1 := Nat.div_add_mod (st + n - 1) n
    omega
  · simp [Nat.Coprime]
/-- The first of cell 0 is not behind what is not below nought. -/
theorem firstS_le {N : List (List Ky)} (hG : Good N) {x : Ky} (h8 : x ∈ N.flatten) (h9 : kl x ⟨0, 0, 0⟩ = false) : kl x (firstS N 0).1 = false := by
  unfold firstS
  rcases hq : N.flatten.find? (fun k => !kl k ⟨0, -9223372036854775808, -9223372036854775808⟩) with _ | y
  · exact h9
  · simp only [fstO]
    split
    · obtain ⟨hy1, xs, ys, hy2, hy3⟩ := List.find?_eq_some_iff_append.1 hq
      rw [hy2] at h8
      rcases List.mem_append.1 h8 with q | q
      · have h10 := hy3 x q
        simp only [Bool.not_not] at h10
        have h11 : kl ⟨0, -9223372036854775808, -9223372036854775808⟩ ⟨0, 0, 0⟩ = true := rfl
        rw [kl_trans h10 h11] at h9
        cases h9
      · rcases List.mem_cons.1 q with rfl | q
        · exact kl_irr _
        · have hso := hG.so
          rw [hy2, Srt, List.pairwise_append] at hso
          exact kl_asym ((List.pairwise_cons.1 hso.2.1).1 x q)
    · exact h9
end Go.Ev
