import Derived.Test.YtjpejkfhkbaakaaGeoM
namespace Go.Ev
open Go
set_option linter.unnecessarySimpa false
set_option linter.unusedSimpArgs false
set_option linter.unusedVariables false
def betaN : Nat → Ei
  | 0 => ⟨1, 0⟩
  | k + 1 => (betaN k).mul beta
theorem betaN_in (k : Nat) (h : k ≤ 12) : (betaN k).In 120000 := by
  have : ∀ j : Fin 13, (betaN j.val).In 120000 := by unfold Ei.In; decide
  exact this ⟨k, by omega⟩
/-- Where a point lies, times 2340. -/
def ax (x y : Int) : Ei := ⟨45 * x - 26 * y, 52 * y⟩
def near (x y : Int) (r : Nat) : Ei := ((ax x y).mul (betaN (12 - r)).conj).round (2340 * 7 ^ (12 - r))
theorem pr_H {z : Ei} {n m : Int} (h : z.H n) (hm : 3 * n + 4 < 7 * (m + 1)) : (pr z).H m := by
  have h7 := round_spec (z.mul ⟨3, -1⟩) (d := 7) (by decide)
  unfold holds at h7
  unfold Ei.H pr at *
  simp only [Ei.mul] at *
  generalize Ei.round _ 7 = q at *
  simp only [Int.mul_one, Int.mul_neg] at *
  omega
theorem pr3_H {z : Ei} {n m : Int} (h : z.H n) (hm : 19 * n + 330 < 343 * (m + 1)) : (anc 3 z).H m := by
  obtain ⟨l1, _, g1, e1, f1⟩ := pr_spec z
  obtain ⟨l2, _, g2, e2, f2⟩ := pr_spec (pr z)
  obtain ⟨l3, _, g3, e3, f3⟩ := pr_spec (pr (pr z))
  show (pr (pr (pr z))).H m
  generalize pr (pr (pr z)) = q at *
  generalize pr (pr z) = q2 at *
  generalize pr z = q1 at *
  unfold Ei.H at *
  omega
theorem anc_add (i k : Nat) (z : Ei) : anc (i + k) z = anc k (anc i z) := by
  induction i generalizing z with
  | zero => rw [Nat.zero_add]; rfl
  | succ i ih => rw [show i + 1 + k = i + k + 1 by omega, anc, anc, ih]

theorem near_H0 (x y : Int) (hx : 0 ≤ x ∧ x < 1073741824) (hy : 0 ≤ y ∧ y < 1073741824) : (near x y 0).H 260 := by
  have h := round_spec ((ax x y).mul (betaN (12 - 0)).conj) (d := 2340 * 7 ^ (12 - 0)) (by decide)
  have e : (betaN (12 - 0)).conj = ⟨-128231, 102960⟩ := by decide
  have ed : (2340 * 7 ^ (12 - 0) : Int) = 32388612050340 := by decide
  unfold near
  generalize Ei.round _ _ = q at *
  rw [e, ed] at h
  unfold holds Ei.H at *
  simp only [Ei.mul, ax] at *
  omega
theorem near_H1 (x y : Int) (hx : 0 ≤ x ∧ x < 1073741824) (hy : 0 ≤ y ∧ y < 1073741824) : (near x y 1).H 734 := by
  have h := round_spec ((ax x y).mul (betaN (12 - 1)).conj) (d := 2340 * 7 ^ (12 - 1)) (by decide)
  have e : (betaN (12 - 1)).conj = ⟨-51346, 25807⟩ := by decide
  have ed : (2340 * 7 ^ (12 - 1) : Int) = 4626944578620 := by decide
  unfold near
  generalize Ei.round _ _ = q at *
  rw [e, ed] at h
  unfold holds Ei.H at *
  simp only [Ei.mul, ax] at *
  omega
theorem near_H2 (x y : Int) (hx : 0 ≤ x ∧ x < 1073741824) (hy : 0 ≤ y ∧ y < 1073741824) : (near x y 2).H 2004 := by
  have h := round_spec ((ax x y).mul (betaN (12 - 2)).conj) (d := 2340 * 7 ^ (12 - 2)) (by decide)
  have e : (betaN (12 - 2)).conj = ⟨-18357, 3725⟩ := by decide
  have ed : (2340 * 7 ^ (12 - 2) : Int) = 660992082660 := by decide
  unfold near
  generalize Ei.round _ _ = q at *
  rw [e, ed] at h
  unfold holds Ei.H at *
  simp only [Ei.mul, ax] at *
  omega
theorem near_H3 (x y : Int) (hx : 0 ≤ x ∧ x < 1073741824) (hy : 0 ≤ y ∧ y < 1073741824) : (near x y 3).H 4887 := by
  have h := round_spec ((ax x y).mul (betaN (12 - 3)).conj) (d := 2340 * 7 ^ (12 - 3)) (by decide)
  have e : (betaN (12 - 3)).conj = ⟨-5777, -1026⟩ := by decide
  have ed : (2340 * 7 ^ (12 - 3) : Int) = 94427440380 := by decide
  unfold near
  generalize Ei.round _ _ = q at *
  rw [e, ed] at h
  unfold holds Ei.H at *
  simp only [Ei.mul, ax] at *
  omega
theorem near_H4 (x y : Int) (hx : 0 ≤ x ∧ x < 1073741824) (hy : 0 ≤ y ∧ y < 1073741824) : (near x y 4).H 13376 := by
  have h := round_spec ((ax x y).mul (betaN (12 - 4)).conj) (d := 2340 * 7 ^ (12 - 4)) (by decide)
  have e : (betaN (12 - 4)).conj = ⟨-1504, -1265⟩ := by decide
  have ed : (2340 * 7 ^ (12 - 4) : Int) = 13489634340 := by decide
  unfold near
  generalize Ei.round _ _ = q at *
  rw [e, ed] at h
  unfold holds Ei.H at *
  simp only [Ei.mul, ax] at *
  omega
theorem near_H5 (x y : Int) (hx : 0 ≤ x ∧ x < 1073741824) (hy : 0 ≤ y ∧ y < 1073741824) : (near x y 5).H 37163 := by
  have h := round_spec ((ax x y).mul (betaN (12 - 5)).conj) (d := 2340 * 7 ^ (12 - 5)) (by decide)
  have e : (betaN (12 - 5)).conj = ⟨-249, -757⟩ := by decide
  have ed : (2340 * 7 ^ (12 - 5) : Int) = 1927090620 := by decide
  unfold near
  generalize Ei.round _ _ = q at *
  rw [e, ed] at h
  unfold holds Ei.H at *
  simp only [Ei.mul, ax] at *
  omega
theorem near_H6 (x y : Int) (hx : 0 ≤ x ∧ x < 1073741824) (hy : 0 ≤ y ∧ y < 1073741824) : (near x y 6).H 92189 := by
  have h := round_spec ((ax x y).mul (betaN (12 - 6)).conj) (d := 2340 * 7 ^ (12 - 6)) (by decide)
  have e : (betaN (12 - 6)).conj = ⟨37, -360⟩ := by decide
  have ed : (2340 * 7 ^ (12 - 6) : Int) = 275298660 := by decide
  unfold near
  generalize Ei.round _ _ = q at *
  rw [e, ed] at h
  unfold holds Ei.H at *
  simp only [Ei.mul, ax] at *
  omega
theorem near_H7 (x y : Int) (hx : 0 ≤ x ∧ x < 1073741824) (hy : 0 ≤ y ∧ y < 1073741824) : (near x y 7).H 243699 := by
  have h := round_spec ((ax x y).mul (betaN (12 - 7)).conj) (d := 2340 * 7 ^ (12 - 7)) (by decide)
  have e : (betaN (12 - 7)).conj = ⟨62, -149⟩ := by decide
  have ed : (2340 * 7 ^ (12 - 7) : Int) = 39328380 := by decide
  unfold near
  generalize Ei.round _ _ = q at *
  rw [e, ed] at h
  unfold holds Ei.H at *
  simp only [Ei.mul, ax] at *
  omega
theorem near_H8 (x y : Int) (hx : 0 ≤ x ∧ x < 1073741824) (hy : 0 ≤ y ∧ y < 1073741824) : (near x y 8).H 688202 := by
  have h := round_spec ((ax x y).mul (betaN (12 - 8)).conj) (d := 2340 * 7 ^ (12 - 8)) (by decide)
  have e : (betaN (12 - 8)).conj = ⟨39, -55⟩ := by decide
  have ed : (2340 * 7 ^ (12 - 8) : Int) = 5618340 := by decide
  unfold near
  generalize Ei.round _ _ = q at *
  rw [e, ed] at h
  unfold holds Ei.H at *
  simp only [Ei.mul, ax] at *
  omega
theorem near_H9 (x y : Int) (hx : 0 ≤ x ∧ x < 1073741824) (hy : 0 ≤ y ∧ y < 1073741824) : (near x y 9).H 1735123 := by
  have h := round_spec ((ax x y).mul (betaN (12 - 9)).conj) (d := 2340 * 7 ^ (12 - 9)) (by decide)
  have e : (betaN (12 - 9)).conj = ⟨19, -18⟩ := by decide
  have ed : (2340 * 7 ^ (12 - 9) : Int) = 802620 := by decide
  unfold near
  generalize Ei.round _ _ = q at *
  rw [e, ed] at h
  unfold holds Ei.H at *
  simp only [Ei.mul, ax] at *
  omega
theorem near_H10 (x y : Int) (hx : 0 ≤ x ∧ x < 1073741824) (hy : 0 ≤ y ∧ y < 1073741824) : (near x y 10).H 4429444 := by
  have h := round_spec ((ax x y).mul (betaN (12 - 10)).conj) (d := 2340 * 7 ^ (12 - 10)) (by decide)
  have e : (betaN (12 - 10)).conj = ⟨8, -5⟩ := by decide
  have ed : (2340 * 7 ^ (12 - 10) : Int) = 114660 := by decide
  unfold near
  generalize Ei.round _ _ = q at *
  rw [e, ed] at h
  unfold holds Ei.H at *
  simp only [Ei.mul, ax] at *
  omega
theorem near_H11 (x y : Int) (hx : 0 ≤ x ∧ x < 1073741824) (hy : 0 ≤ y ∧ y < 1073741824) : (near x y 11).H 12717090 := by
  have h := round_spec ((ax x y).mul (betaN (12 - 11)).conj) (d := 2340 * 7 ^ (12 - 11)) (by decide)
  have e : (betaN (12 - 11)).conj = ⟨3, -1⟩ := by decide
  have ed : (2340 * 7 ^ (12 - 11) : Int) = 16380 := by decide
  unfold near
  generalize Ei.round _ _ = q at *
  rw [e, ed] at h
  unfold holds Ei.H at *
  simp only [Ei.mul, ax] at *
  omega
theorem near_H12 (x y : Int) (hx : 0 ≤ x ∧ x < 1073741824) (hy : 0 ≤ y ∧ y < 1073741824) : (near x y 12).H 32579347 := by
  have h := round_spec ((ax x y).mul (betaN (12 - 12)).conj) (d := 2340 * 7 ^ (12 - 12)) (by decide)
  have e : (betaN (12 - 12)).conj = ⟨1, 0⟩ := by decide
  have ed : (2340 * 7 ^ (12 - 12) : Int) = 2340 := by decide
  unfold near
  generalize Ei.round _ _ = q at *
  rw [e, ed] at h
  unfold holds Ei.H at *
  simp only [Ei.mul, ax] at *
  omega
theorem chain0 {z : Ei} (h0 : z.H 260) : (anc 0 z).H 511 := by
  exact h0.mono (by decide)
theorem near_base0 (x y : Int) (hx : 0 ≤ x ∧ x < 1073741824) (hy : 0 ≤ y ∧ y < 1073741824) : (anc 0 (near x y 0)).H 511 := chain0 (near_H0 x y hx hy)
theorem chain1 {z : Ei} (h0 : z.H 734) : (anc 1 z).H 511 := by
  have h1 := pr_H (m := 315) h0 (by decide)
  exact h1.mono (by decide)
theorem near_base1 (x y : Int) (hx : 0 ≤ x ∧ x < 1073741824) (hy : 0 ≤ y ∧ y < 1073741824) : (anc 1 (near x y 1)).H 511 := chain1 (near_H1 x y hx hy)
theorem chain2 {z : Ei} (h0 : z.H 2004) : (anc 2 z).H 511 := by
  have h1 := pr_H (m := 859) h0 (by decide)
  have h2 := pr_H (m := 368) h1 (by decide)
  exact h2.mono (by decide)
theorem near_base2 (x y : Int) (hx : 0 ≤ x ∧ x < 1073741824) (hy : 0 ≤ y ∧ y < 1073741824) : (anc 2 (near x y 2)).H 511 := chain2 (near_H2 x y hx hy)
theorem chain3 {z : Ei} (h0 : z.H 4887) : (anc 3 z).H 511 := by
  have h1 := pr3_H (m := 271) h0 (by decide)
  exact h1.mono (by decide)
theorem near_base3 (x y : Int) (hx : 0 ≤ x ∧ x < 1073741824) (hy : 0 ≤ y ∧ y < 1073741824) : (anc 3 (near x y 3)).H 511 := chain3 (near_H3 x y hx hy)
theorem chain4 {z : Ei} (h0 : z.H 13376) : (anc 4 z).H 511 := by
  have h1 := pr_H (m := 5733) h0 (by decide)
  have h2 := pr3_H (m := 318) h1 (by decide)
  exact h2.mono (by decide)
theorem near_base4 (x y : Int) (hx : 0 ≤ x ∧ x < 1073741824) (hy : 0 ≤ y ∧ y < 1073741824) : (anc 4 (near x y 4)).H 511 := chain4 (near_H4 x y hx hy)
theorem chain5 {z : Ei} (h0 : z.H 37163) : (anc 5 z).H 511 := by
  have h1 := pr_H (m := 15927) h0 (by decide)
  have h2 := pr_H (m := 6826) h1 (by decide)
  have h3 := pr3_H (m := 379) h2 (by decide)
  exact h3.mono (by decide)
theorem near_base5 (x y : Int) (hx : 0 ≤ x ∧ x < 1073741824) (hy : 0 ≤ y ∧ y < 1073741824) : (anc 5 (near x y 5)).H 511 := chain5 (near_H5 x y hx hy)
theorem chain6 {z : Ei} (h0 : z.H 92189) : (anc 6 z).H 511 := by
  have h1 := pr3_H (m := 5107) h0 (by decide)
  have h2 := pr3_H (m := 283) h1 (by decide)
  exact h2.mono (by decide)
theorem near_base6 (x y : Int) (hx : 0 ≤ x ∧ x < 1073741824) (hy : 0 ≤ y ∧ y < 1073741824) : (anc 6 (near x y 6)).H 511 := chain6 (near_H6 x y hx hy)
theorem chain7 {z : Ei} (h0 : z.H 243699) : (anc 7 z).H 511 := by
  have h1 := pr_H (m := 104443) h0 (by decide)
  have h2 := pr3_H (m := 5786) h1 (by decide)
  have h3 := pr3_H (m := 321) h2 (by decide)
  exact h3.mono (by decide)
theorem near_base7 (x y : Int) (hx : 0 ≤ x ∧ x < 1073741824) (hy : 0 ≤ y ∧ y < 1073741824) : (anc 7 (near x y 7)).H 511 := chain7 (near_H7 x y hx hy)
theorem chain8 {z : Ei} (h0 : z.H 688202) : (anc 8 z).H 511 := by
  have h1 := pr_H (m := 294944) h0 (by decide)
  have h2 := pr_H (m := 126405) h1 (by decide)
  have h3 := pr3_H (m := 7002) h2 (by decide)
  have h4 := pr3_H (m := 388) h3 (by decide)
  exact h4.mono (by decide)
theorem near_base8 (x y : Int) (hx : 0 ≤ x ∧ x < 1073741824) (hy : 0 ≤ y ∧ y < 1073741824) : (anc 8 (near x y 8)).H 511 := chain8 (near_H8 x y hx hy)
theorem chain9 {z : Ei} (h0 : z.H 1735123) : (anc 9 z).H 511 := by
  have h1 := pr3_H (m := 96115) h0 (by decide)
  have h2 := pr3_H (m := 5325) h1 (by decide)
  have h3 := pr3_H (m := 295) h2 (by decide)
  exact h3.mono (by decide)
theorem near_base9 (x y : Int) (hx : 0 ≤ x ∧ x < 1073741824) (hy : 0 ≤ y ∧ y < 1073741824) : (anc 9 (near x y 9)).H 511 := chain9 (near_H9 x y hx hy)
theorem chain10 {z : Ei} (h0 : z.H 4429444) : (anc 10 z).H 511 := by
  have h1 := pr_H (m := 1898333) h0 (by decide)
  have h2 := pr3_H (m := 105156) h1 (by decide)
  have h3 := pr3_H (m := 5825) h2 (by decide)
  have h4 := pr3_H (m := 323) h3 (by decide)
  exact h4.mono (by decide)
theorem near_base10 (x y : Int) (hx : 0 ≤ x ∧ x < 1073741824) (hy : 0 ≤ y ∧ y < 1073741824) : (anc 10 (near x y 10)).H 511 := chain10 (near_H10 x y hx hy)
theorem chain11 {z : Ei} (h0 : z.H 12717090) : (anc 11 z).H 511 := by
  have h1 := pr_H (m := 5450182) h0 (by decide)
  have h2 := pr_H (m := 2335792) h1 (by decide)
  have h3 := pr3_H (m := 129388) h2 (by decide)
  have h4 := pr3_H (m := 7168) h3 (by decide)
  have h5 := pr3_H (m := 398) h4 (by decide)
  exact h5.mono (by decide)
theorem near_base11 (x y : Int) (hx : 0 ≤ x ∧ x < 1073741824) (hy : 0 ≤ y ∧ y < 1073741824) : (anc 11 (near x y 11)).H 511 := chain11 (near_H11 x y hx hy)
theorem chain12 {z : Ei} (h0 : z.H 32579347) : (anc 12 z).H 511 := by
  have h1 := pr3_H (m := 1804687) h0 (by decide)
  have h2 := pr3_H (m := 99969) h1 (by decide)
  have h3 := pr3_H (m := 5538) h2 (by decide)
  have h4 := pr3_H (m := 307) h3 (by decide)
  exact h4.mono (by decide)
theorem near_base12 (x y : Int) (hx : 0 ≤ x ∧ x < 1073741824) (hy : 0 ≤ y ∧ y < 1073741824) : (anc 12 (near x y 12)).H 511 := chain12 (near_H12 x y hx hy)
theorem near_H (x y : Int) (r : Nat) (hx : 0 ≤ x ∧ x < 1073741824) (hy : 0 ≤ y ∧ y < 1073741824) (hr : r ≤ 12) : (near x y r).H 32579347 := by
  rcases (show r = 0 ∨ r = 1 ∨ r = 2 ∨ r = 3 ∨ r = 4 ∨ r = 5 ∨ r = 6 ∨ r = 7 ∨ r = 8 ∨ r = 9 ∨ r = 10 ∨ r = 11 ∨ r = 12 by omega) with rfl | rfl | rfl | rfl | rfl | rfl | rfl | rfl | rfl | rfl | rfl | rfl | rfl
  · exact (near_H0 x y hx hy).mono (by decide)
  · exact (near_H1 x y hx hy).mono (by decide)
  · exact (near_H2 x y hx hy).mono (by decide)
  · exact (near_H3 x y hx hy).mono (by decide)
  · exact (near_H4 x y hx hy).mono (by decide)
  · exact (near_H5 x y hx hy).mono (by decide)
  · exact (near_H6 x y hx hy).mono (by decide)
  · exact (near_H7 x y hx hy).mono (by decide)
  · exact (near_H8 x y hx hy).mono (by decide)
  · exact (near_H9 x y hx hy).mono (by decide)
  · exact (near_H10 x y hx hy).mono (by decide)
  · exact (near_H11 x y hx hy).mono (by decide)
  · exact (near_H12 x y hx hy).mono (by decide)
theorem near_base (x y : Int) (r : Nat) (hx : 0 ≤ x ∧ x < 1073741824) (hy : 0 ≤ y ∧ y < 1073741824) (hr : r ≤ 12) : (anc r (near x y r)).H 511 := by
  rcases (show r = 0 ∨ r = 1 ∨ r = 2 ∨ r = 3 ∨ r = 4 ∨ r = 5 ∨ r = 6 ∨ r = 7 ∨ r = 8 ∨ r = 9 ∨ r = 10 ∨ r = 11 ∨ r = 12 by omega) with rfl | rfl | rfl | rfl | rfl | rfl | rfl | rfl | rfl | rfl | rfl | rfl | rfl
  · exact near_base0 x y hx hy
  · exact near_base1 x y hx hy
  · exact near_base2 x y hx hy
  · exact near_base3 x y hx hy
  · exact near_base4 x y hx hy
  · exact near_base5 x y hx hy
  · exact near_base6 x y hx hy
  · exact near_base7 x y hx hy
  · exact near_base8 x y hx hy
  · exact near_base9 x y hx hy
  · exact near_base10 x y hx hy
  · exact near_base11 x y hx hy
  · exact near_base12 x y hx hy
theorem near_okc (x y : Int) (r : Nat) (hx : 0 ≤ x ∧ x < 1073741824) (hy : 0 ≤ y ∧ y < 1073741824) (hr : r ≤ 12) : okc r (near x y r) := by
  have h1 := near_H x y r hx hy hr
  have h2 := near_base x y r hx hy hr
  unfold okc
  unfold Ei.In
  unfold Ei.H at h1 h2
  omega
end Go.Ev
