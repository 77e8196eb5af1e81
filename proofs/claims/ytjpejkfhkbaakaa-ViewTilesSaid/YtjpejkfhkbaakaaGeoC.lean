import Derived.Test.YtjpejkfhkbaakaaGeoB
namespace Go.Ev
open Go
set_option linter.unnecessarySimpa false
set_option linter.unusedSimpArgs false
set_option linter.unusedVariables false
/-- The corners' numbers. -/
def vv (i : Nat) : Ei := match i with | 0 => ⟨1, 1⟩ | 1 => ⟨-1, 2⟩ | 2 => ⟨-2, 1⟩ | 3 => ⟨-1, -1⟩ | 4 => ⟨1, -2⟩ | _ => ⟨2, -1⟩
/-- A corner, on the finest lattice, in thirds. -/
def hc (z : Ei) (r i : Nat) : Ei := (betaN (12 - r)).mul ⟨3 * z.a + (vv i).a, 3 * z.b + (vv i).b⟩
def hx (z : Ei) (r i : Nat) : Int := 52 * (hc z r i).a + 26 * (hc z r i).b
def hy (z : Ei) (r i : Nat) : Int := 45 * (hc z r i).b
def cx (z : Ei) (r : Nat) : Int := 52 * ((betaN (12 - r)).mul z).a + 26 * ((betaN (12 - r)).mul z).b
def cy (z : Ei) (r : Nat) : Int := 45 * ((betaN (12 - r)).mul z).b
/-- How far a corner is from the middle. -/
def kx (r i : Nat) : Int := 52 * ((betaN (12 - r)).mul (vv i)).a + 26 * ((betaN (12 - r)).mul (vv i)).b
def ky (r i : Nat) : Int := 45 * ((betaN (12 - r)).mul (vv i)).b
theorem hx_eq (z : Ei) (r i : Nat) : hx z r i = 3 * cx z r + kx r i := by
  simp only [hx, cx, kx, hc, Ei.mul, Int.mul_add, Int.mul_left_comm _ (3 : Int)]
  omega
theorem hy_eq (z : Ei) (r i : Nat) : hy z r i = 3 * cy z r + ky r i := by
  simp only [hy, cy, ky, hc, Ei.mul, Int.mul_add, Int.mul_left_comm _ (3 : Int)]
  omega
/-- Which side of a side a point lies on. -/
def crs (z : Ei) (r i j : Nat) (x y : Int) : Int := (kx r j - kx r i) * (y - hy z r i) - (ky r j - ky r i) * (x - hx z r i)
theorem k_in (r i : Nat) (hr : r ≤ 12) (hi : i < 6) : (-100000000 ≤ kx r i ∧ kx r i ≤ 100000000) ∧ (-100000000 ≤ ky r i ∧ ky r i ≤ 100000000) := by
  have : ∀ j : Fin 13, ∀ i : Fin 6, (-100000000 ≤ kx j.val i.val ∧ kx j.val i.val ≤ 100000000) ∧ (-100000000 ≤ ky j.val i.val ∧ ky j.val i.val ≤ 100000000) := by decide +kernel
  exact this ⟨r, by omega⟩ ⟨i, hi⟩
theorem k_opp (r i : Nat) (hr : r ≤ 12) (hi : i < 6) : 0 < (kx r ((i + 1) % 6) - kx r i) * (ky r ((i + 3) % 6) - ky r i) - (ky r ((i + 1) % 6) - ky r i) * (kx r ((i + 3) % 6) - kx r i) := by
  have : ∀ j : Fin 13, ∀ i : Fin 6, 0 < (kx j.val ((i.val + 1) % 6) - kx j.val i.val) * (ky j.val ((i.val + 3) % 6) - ky j.val i.val) - (ky j.val ((i.val + 1) % 6) - ky j.val i.val) * (kx j.val ((i.val + 3) % 6) - kx j.val i.val) := by decide +kernel
  exact this ⟨r, by omega⟩ ⟨i, hi⟩
/-- What a point's cell is to the point. -/
def Lies (x y : Int) (z : Ei) (r : Nat) : Prop :=
  ((-50000000 ≤ cx z r - x ∧ cx z r - x ≤ 50000000) ∧ (-50000000 ≤ cy z r - y ∧ cy z r - y ≤ 50000000)) ∧
  (∀ i, i < 6 → 0 ≤ crs z r i ((i + 1) % 6) (3 * x) (3 * y)) ∧
  (∃ i, i < 6 ∧ hx z r i ≤ 3 * x) ∧ (∃ i, i < 6 ∧ 3 * x ≤ hx z r i) ∧ (∃ i, i < 6 ∧ hy z r i ≤ 3 * y) ∧ (∃ i, i < 6 ∧ 3 * y ≤ hy z r i)
theorem lt6 {i : Nat} (h : i < 6) : i = 0 ∨ i = 1 ∨ i = 2 ∨ i = 3 ∨ i = 4 ∨ i = 5 := by omega
theorem lies0 (x y : Int) : Lies x y (near x y 0) 0 := by
  have h := round_spec ((ax x y).mul (betaN (12 - 0)).conj) (d := 2340 * 7 ^ (12 - 0)) (by decide)
  have e : (betaN (12 - 0)).conj = ⟨-128231, 102960⟩ := by decide
  have ed : (2340 * 7 ^ (12 - 0) : Int) = 32388612050340 := by decide
  have eb : betaN (12 - 0) = ⟨-25271, -102960⟩ := by decide
  unfold near
  generalize Ei.round _ _ = q at *
  rw [e, ed] at h
  have ex : cx q 0 = 52 * (-25271 * q.a - -102960 * q.b) + 26 * (-25271 * q.b + -102960 * q.a + -102960 * q.b) := by simp only [cx, eb, Ei.mul]
  have ey : cy q 0 = 45 * (-25271 * q.b + -102960 * q.a + -102960 * q.b) := by simp only [cy, eb, Ei.mul]
  have x0 : kx 0 0 = -1971138 := by decide
  have y0 : ky 0 0 = -10403595 := by decide
  have x1 : kx 0 1 = 8030880 := by decide
  have y1 : ky 0 1 = -6907590 := by decide
  have x2 : kx 0 2 = 10002018 := by decide
  have y2 : ky 0 2 = 3496005 := by decide
  have x3 : kx 0 3 = 1971138 := by decide
  have y3 : ky 0 3 = 10403595 := by decide
  have x4 : kx 0 4 = -8030880 := by decide
  have y4 : ky 0 4 = 6907590 := by decide
  have x5 : kx 0 5 = -10002018 := by decide
  have y5 : ky 0 5 = -3496005 := by decide
  unfold holds at h
  simp only [Ei.mul, ax] at h
  have g : ∀ i, hx q 0 i = 3 * cx q 0 + kx 0 i := fun i => hx_eq q 0 i
  have g' : ∀ i, hy q 0 i = 3 * cy q 0 + ky 0 i := fun i => hy_eq q 0 i
  have h1 := h.1
  have h2 := h.2.1
  have h3 := h.2.2
  refine ⟨by omega, fun i hi => ?_, ⟨5, by decide, ?_⟩, ⟨2, by decide, ?_⟩, ⟨0, by decide, ?_⟩, ⟨3, by decide, ?_⟩⟩
  · rcases lt6 hi with rfl | rfl | rfl | rfl | rfl | rfl <;> simp only [crs, g, g', x0, x1, x2, x3, x4, x5, y0, y1, y2, y3, y4, y5] <;> omega
  · simp only [g, x0, x1, x2, x3, x4, x5]; omega
  · simp only [g, x0, x1, x2, x3, x4, x5]; omega
  · simp only [g', y0, y1, y2, y3, y4, y5]; omega
  · simp only [g', y0, y1, y2, y3, y4, y5]; omega
theorem lies1 (x y : Int) : Lies x y (near x y 1) 1 := by
  have h := round_spec ((ax x y).mul (betaN (12 - 1)).conj) (d := 2340 * 7 ^ (12 - 1)) (by decide)
  have e : (betaN (12 - 1)).conj = ⟨-51346, 25807⟩ := by decide
  have ed : (2340 * 7 ^ (12 - 1) : Int) = 4626944578620 := by decide
  have eb : betaN (12 - 1) = ⟨-25539, -25807⟩ := by decide
  unfold near
  generalize Ei.round _ _ = q at *
  rw [e, ed] at h
  have ex : cx q 1 = 52 * (-25539 * q.a - -25807 * q.b) + 26 * (-25539 * q.b + -25807 * q.a + -25807 * q.b) := by simp only [cx, eb, Ei.mul]
  have ey : cy q 1 = 45 * (-25539 * q.b + -25807 * q.a + -25807 * q.b) := by simp only [cy, eb, Ei.mul]
  have x0 : kx 1 0 = -1992042 := by decide
  have y0 : ky 1 0 = -3471885 := by decide
  have x1 : kx 1 1 = 2012946 := by decide
  have y1 : ky 1 1 = -3459825 := by decide
  have x2 : kx 1 2 = 4004988 := by decide
  have y2 : ky 1 2 = 12060 := by decide
  have x3 : kx 1 3 = 1992042 := by decide
  have y3 : ky 1 3 = 3471885 := by decide
  have x4 : kx 1 4 = -2012946 := by decide
  have y4 : ky 1 4 = 3459825 := by decide
  have x5 : kx 1 5 = -4004988 := by decide
  have y5 : ky 1 5 = -12060 := by decide
  unfold holds at h
  simp only [Ei.mul, ax] at h
  have g : ∀ i, hx q 1 i = 3 * cx q 1 + kx 1 i := fun i => hx_eq q 1 i
  have g' : ∀ i, hy q 1 i = 3 * cy q 1 + ky 1 i := fun i => hy_eq q 1 i
  have h1 := h.1
  have h2 := h.2.1
  have h3 := h.2.2
  refine ⟨by omega, fun i hi => ?_, ⟨5, by decide, ?_⟩, ⟨2, by decide, ?_⟩, ⟨0, by decide, ?_⟩, ⟨3, by decide, ?_⟩⟩
  · rcases lt6 hi with rfl | rfl | rfl | rfl | rfl | rfl <;> simp only [crs, g, g', x0, x1, x2, x3, x4, x5, y0, y1, y2, y3, y4, y5] <;> omega
  · simp only [g, x0, x1, x2, x3, x4, x5]; omega
  · simp only [g, x0, x1, x2, x3, x4, x5]; omega
  · simp only [g', y0, y1, y2, y3, y4, y5]; omega
  · simp only [g', y0, y1, y2, y3, y4, y5]; omega
theorem lies2 (x y : Int) : Lies x y (near x y 2) 2 := by
  have h := round_spec ((ax x y).mul (betaN (12 - 2)).conj) (d := 2340 * 7 ^ (12 - 2)) (by decide)
  have e : (betaN (12 - 2)).conj = ⟨-18357, 3725⟩ := by decide
  have ed : (2340 * 7 ^ (12 - 2) : Int) = 660992082660 := by decide
  have eb : betaN (12 - 2) = ⟨-14632, -3725⟩ := by decide
  unfold near
  generalize Ei.round _ _ = q at *
  rw [e, ed] at h
  have ex : cx q 2 = 52 * (-14632 * q.a - -3725 * q.b) + 26 * (-14632 * q.b + -3725 * q.a + -3725 * q.b) := by simp only [cx, eb, Ei.mul]
  have ey : cy q 2 = 45 * (-14632 * q.b + -3725 * q.a + -3725 * q.b) := by simp only [cy, eb, Ei.mul]
  have x0 : kx 2 0 = -1141296 := by decide
  have y0 : ky 2 0 = -993690 := by decide
  have x1 : kx 2 1 = 290550 := by decide
  have y1 : ky 2 1 = -1484505 := by decide
  have x2 : kx 2 2 = 1431846 := by decide
  have y2 : ky 2 2 = -490815 := by decide
  have x3 : kx 2 3 = 1141296 := by decide
  have y3 : ky 2 3 = 993690 := by decide
  have x4 : kx 2 4 = -290550 := by decide
  have y4 : ky 2 4 = 1484505 := by decide
  have x5 : kx 2 5 = -1431846 := by decide
  have y5 : ky 2 5 = 490815 := by decide
  unfold holds at h
  simp only [Ei.mul, ax] at h
  have g : ∀ i, hx q 2 i = 3 * cx q 2 + kx 2 i := fun i => hx_eq q 2 i
  have g' : ∀ i, hy q 2 i = 3 * cy q 2 + ky 2 i := fun i => hy_eq q 2 i
  have h1 := h.1
  have h2 := h.2.1
  have h3 := h.2.2
  refine ⟨by omega, fun i hi => ?_, ⟨5, by decide, ?_⟩, ⟨2, by decide, ?_⟩, ⟨1, by decide, ?_⟩, ⟨4, by decide, ?_⟩⟩
  · rcases lt6 hi with rfl | rfl | rfl | rfl | rfl | rfl <;> simp only [crs, g, g', x0, x1, x2, x3, x4, x5, y0, y1, y2, y3, y4, y5] <;> omega
  · simp only [g, x0, x1, x2, x3, x4, x5]; omega
  · simp only [g, x0, x1, x2, x3, x4, x5]; omega
  · simp only [g', y0, y1, y2, y3, y4, y5]; omega
  · simp only [g', y0, y1, y2, y3, y4, y5]; omega
theorem lies3 (x y : Int) : Lies x y (near x y 3) 3 := by
  have h := round_spec ((ax x y).mul (betaN (12 - 3)).conj) (d := 2340 * 7 ^ (12 - 3)) (by decide)
  have e : (betaN (12 - 3)).conj = ⟨-5777, -1026⟩ := by decide
  have ed : (2340 * 7 ^ (12 - 3) : Int) = 94427440380 := by decide
  have eb : betaN (12 - 3) = ⟨-6803, 1026⟩ := by decide
  unfold near
  generalize Ei.round _ _ = q at *
  rw [e, ed] at h
  have ex : cx q 3 = 52 * (-6803 * q.a - 1026 * q.b) + 26 * (-6803 * q.b + 1026 * q.a + 1026 * q.b) := by simp only [cx, eb, Ei.mul]
  have ey : cy q 3 = 45 * (-6803 * q.b + 1026 * q.a + 1026 * q.b) := by simp only [cy, eb, Ei.mul]
  have x0 : kx 3 0 = -530634 := by decide
  have y0 : ky 3 0 = -213795 := by decide
  have x1 : kx 3 1 = -80028 := by decide
  have y1 : ky 3 1 = -566100 := by decide
  have x2 : kx 3 2 = 450606 := by decide
  have y2 : ky 3 2 = -352305 := by decide
  have x3 : kx 3 3 = 530634 := by decide
  have y3 : ky 3 3 = 213795 := by decide
  have x4 : kx 3 4 = 80028 := by decide
  have y4 : ky 3 4 = 566100 := by decide
  have x5 : kx 3 5 = -450606 := by decide
  have y5 : ky 3 5 = 352305 := by decide
  unfold holds at h
  simp only [Ei.mul, ax] at h
  have g : ∀ i, hx q 3 i = 3 * cx q 3 + kx 3 i := fun i => hx_eq q 3 i
  have g' : ∀ i, hy q 3 i = 3 * cy q 3 + ky 3 i := fun i => hy_eq q 3 i
  have h1 := h.1
  have h2 := h.2.1
  have h3 := h.2.2
  refine ⟨by omega, fun i hi => ?_, ⟨0, by decide, ?_⟩, ⟨3, by decide, ?_⟩, ⟨1, by decide, ?_⟩, ⟨4, by decide, ?_⟩⟩
  · rcases lt6 hi with rfl | rfl | rfl | rfl | rfl | rfl <;> simp only [crs, g, g', x0, x1, x2, x3, x4, x5, y0, y1, y2, y3, y4, y5] <;> omega
  · simp only [g, x0, x1, x2, x3, x4, x5]; omega
  · simp only [g, x0, x1, x2, x3, x4, x5]; omega
  · simp only [g', y0, y1, y2, y3, y4, y5]; omega
  · simp only [g', y0, y1, y2, y3, y4, y5]; omega
theorem lies4 (x y : Int) : Lies x y (near x y 4) 4 := by
  have h := round_spec ((ax x y).mul (betaN (12 - 4)).conj) (d := 2340 * 7 ^ (12 - 4)) (by decide)
  have e : (betaN (12 - 4)).conj = ⟨-1504, -1265⟩ := by decide
  have ed : (2340 * 7 ^ (12 - 4) : Int) = 13489634340 := by decide
  have eb : betaN (12 - 4) = ⟨-2769, 1265⟩ := by decide
  unfold near
  generalize Ei.round _ _ = q at *
  rw [e, ed] at h
  have ex : cx q 4 = 52 * (-2769 * q.a - 1265 * q.b) + 26 * (-2769 * q.b + 1265 * q.a + 1265 * q.b) := by simp only [cx, eb, Ei.mul]
  have ey : cy q 4 = 45 * (-2769 * q.b + 1265 * q.a + 1265 * q.b) := by simp only [cy, eb, Ei.mul]
  have x0 : kx 4 0 = -215982 := by decide
  have y0 : ky 4 0 = -10755 := by decide
  have x1 : kx 4 1 = -98670 := by decide
  have y1 : ky 4 1 = -192285 := by decide
  have x2 : kx 4 2 = 117312 := by decide
  have y2 : ky 4 2 = -181530 := by decide
  have x3 : kx 4 3 = 215982 := by decide
  have y3 : ky 4 3 = 10755 := by decide
  have x4 : kx 4 4 = 98670 := by decide
  have y4 : ky 4 4 = 192285 := by decide
  have x5 : kx 4 5 = -117312 := by decide
  have y5 : ky 4 5 = 181530 := by decide
  unfold holds at h
  simp only [Ei.mul, ax] at h
  have g : ∀ i, hx q 4 i = 3 * cx q 4 + kx 4 i := fun i => hx_eq q 4 i
  have g' : ∀ i, hy q 4 i = 3 * cy q 4 + ky 4 i := fun i => hy_eq q 4 i
  have h1 := h.1
  have h2 := h.2.1
  have h3 := h.2.2
  refine ⟨by omega, fun i hi => ?_, ⟨0, by decide, ?_⟩, ⟨3, by decide, ?_⟩, ⟨1, by decide, ?_⟩, ⟨4, by decide, ?_⟩⟩
  · rcases lt6 hi with rfl | rfl | rfl | rfl | rfl | rfl <;> simp only [crs, g, g', x0, x1, x2, x3, x4, x5, y0, y1, y2, y3, y4, y5] <;> omega
  · simp only [g, x0, x1, x2, x3, x4, x5]; omega
  · simp only [g, x0, x1, x2, x3, x4, x5]; omega
  · simp only [g', y0, y1, y2, y3, y4, y5]; omega
  · simp only [g', y0, y1, y2, y3, y4, y5]; omega
theorem lies5 (x y : Int) : Lies x y (near x y 5) 5 := by
  have h := round_spec ((ax x y).mul (betaN (12 - 5)).conj) (d := 2340 * 7 ^ (12 - 5)) (by decide)
  have e : (betaN (12 - 5)).conj = ⟨-249, -757⟩ := by decide
  have ed : (2340 * 7 ^ (12 - 5) : Int) = 1927090620 := by decide
  have eb : betaN (12 - 5) = ⟨-1006, 757⟩ := by decide
  unfold near
  generalize Ei.round _ _ = q at *
  rw [e, ed] at h
  have ex : cx q 5 = 52 * (-1006 * q.a - 757 * q.b) + 26 * (-1006 * q.b + 757 * q.a + 757 * q.b) := by simp only [cx, eb, Ei.mul]
  have ey : cy q 5 = 45 * (-1006 * q.b + 757 * q.a + 757 * q.b) := by simp only [cy, eb, Ei.mul]
  have x0 : kx 5 0 = -78468 := by decide
  have y0 : ky 5 0 = 22860 := by decide
  have x1 : kx 5 1 = -59046 := by decide
  have y1 : ky 5 1 = -56475 := by decide
  have x2 : kx 5 2 = 19422 := by decide
  have y2 : ky 5 2 = -79335 := by decide
  have x3 : kx 5 3 = 78468 := by decide
  have y3 : ky 5 3 = -22860 := by decide
  have x4 : kx 5 4 = 59046 := by decide
  have y4 : ky 5 4 = 56475 := by decide
  have x5 : kx 5 5 = -19422 := by decide
  have y5 : ky 5 5 = 79335 := by decide
  unfold holds at h
  simp only [Ei.mul, ax] at h
  have g : ∀ i, hx q 5 i = 3 * cx q 5 + kx 5 i := fun i => hx_eq q 5 i
  have g' : ∀ i, hy q 5 i = 3 * cy q 5 + ky 5 i := fun i => hy_eq q 5 i
  have h1 := h.1
  have h2 := h.2.1
  have h3 := h.2.2
  refine ⟨by omega, fun i hi => ?_, ⟨0, by decide, ?_⟩, ⟨3, by decide, ?_⟩, ⟨2, by decide, ?_⟩, ⟨5, by decide, ?_⟩⟩
  · rcases lt6 hi with rfl | rfl | rfl | rfl | rfl | rfl <;> simp only [crs, g, g', x0, x1, x2, x3, x4, x5, y0, y1, y2, y3, y4, y5] <;> omega
  · simp only [g, x0, x1, x2, x3, x4, x5]; omega
  · simp only [g, x0, x1, x2, x3, x4, x5]; omega
  · simp only [g', y0, y1, y2, y3, y4, y5]; omega
  · simp only [g', y0, y1, y2, y3, y4, y5]; omega
theorem lies6 (x y : Int) : Lies x y (near x y 6) 6 := by
  have h := round_spec ((ax x y).mul (betaN (12 - 6)).conj) (d := 2340 * 7 ^ (12 - 6)) (by decide)
  have e : (betaN (12 - 6)).conj = ⟨37, -360⟩ := by decide
  have ed : (2340 * 7 ^ (12 - 6) : Int) = 275298660 := by decide
  have eb : betaN (12 - 6) = ⟨-323, 360⟩ := by decide
  unfold near
  generalize Ei.round _ _ = q at *
  rw [e, ed] at h
  have ex : cx q 6 = 52 * (-323 * q.a - 360 * q.b) + 26 * (-323 * q.b + 360 * q.a + 360 * q.b) := by simp only [cx, eb, Ei.mul]
  have ey : cy q 6 = 45 * (-323 * q.b + 360 * q.a + 360 * q.b) := by simp only [cy, eb, Ei.mul]
  have x0 : kx 6 0 = -25194 := by decide
  have y0 : ky 6 0 = 17865 := by decide
  have x1 : kx 6 1 = -28080 := by decide
  have y1 : ky 6 1 = -12870 := by decide
  have x2 : kx 6 2 = -2886 := by decide
  have y2 : ky 6 2 = -30735 := by decide
  have x3 : kx 6 3 = 25194 := by decide
  have y3 : ky 6 3 = -17865 := by decide
  have x4 : kx 6 4 = 28080 := by decide
  have y4 : ky 6 4 = 12870 := by decide
  have x5 : kx 6 5 = 2886 := by decide
  have y5 : ky 6 5 = 30735 := by decide
  unfold holds at h
  simp only [Ei.mul, ax] at h
  have g : ∀ i, hx q 6 i = 3 * cx q 6 + kx 6 i := fun i => hx_eq q 6 i
  have g' : ∀ i, hy q 6 i = 3 * cy q 6 + ky 6 i := fun i => hy_eq q 6 i
  have h1 := h.1
  have h2 := h.2.1
  have h3 := h.2.2
  refine ⟨by omega, fun i hi => ?_, ⟨1, by decide, ?_⟩, ⟨4, by decide, ?_⟩, ⟨2, by decide, ?_⟩, ⟨5, by decide, ?_⟩⟩
  · rcases lt6 hi with rfl | rfl | rfl | rfl | rfl | rfl <;> simp only [crs, g, g', x0, x1, x2, x3, x4, x5, y0, y1, y2, y3, y4, y5] <;> omega
  · simp only [g, x0, x1, x2, x3, x4, x5]; omega
  · simp only [g, x0, x1, x2, x3, x4, x5]; omega
  · simp only [g', y0, y1, y2, y3, y4, y5]; omega
  · simp only [g', y0, y1, y2, y3, y4, y5]; omega
theorem lies7 (x y : Int) : Lies x y (near x y 7) 7 := by
  have h := round_spec ((ax x y).mul (betaN (12 - 7)).conj) (d := 2340 * 7 ^ (12 - 7)) (by decide)
  have e : (betaN (12 - 7)).conj = ⟨62, -149⟩ := by decide
  have ed : (2340 * 7 ^ (12 - 7) : Int) = 39328380 := by decide
  have eb : betaN (12 - 7) = ⟨-87, 149⟩ := by decide
  unfold near
  generalize Ei.round _ _ = q at *
  rw [e, ed] at h
  have ex : cx q 7 = 52 * (-87 * q.a - 149 * q.b) + 26 * (-87 * q.b + 149 * q.a + 149 * q.b) := by simp only [cx, eb, Ei.mul]
  have ey : cy q 7 = 45 * (-87 * q.b + 149 * q.a + 149 * q.b) := by simp only [cy, eb, Ei.mul]
  have x0 : kx 7 0 = -6786 := by decide
  have y0 : ky 7 0 = 9495 := by decide
  have x1 : kx 7 1 = -11622 := by decide
  have y1 : ky 7 1 = -1125 := by decide
  have x2 : kx 7 2 = -4836 := by decide
  have y2 : ky 7 2 = -10620 := by decide
  have x3 : kx 7 3 = 6786 := by decide
  have y3 : ky 7 3 = -9495 := by decide
  have x4 : kx 7 4 = 11622 := by decide
  have y4 : ky 7 4 = 1125 := by decide
  have x5 : kx 7 5 = 4836 := by decide
  have y5 : ky 7 5 = 10620 := by decide
  unfold holds at h
  simp only [Ei.mul, ax] at h
  have g : ∀ i, hx q 7 i = 3 * cx q 7 + kx 7 i := fun i => hx_eq q 7 i
  have g' : ∀ i, hy q 7 i = 3 * cy q 7 + ky 7 i := fun i => hy_eq q 7 i
  have h1 := h.1
  have h2 := h.2.1
  have h3 := h.2.2
  refine ⟨by omega, fun i hi => ?_, ⟨1, by decide, ?_⟩, ⟨4, by decide, ?_⟩, ⟨2, by decide, ?_⟩, ⟨5, by decide, ?_⟩⟩
  · rcases lt6 hi with rfl | rfl | rfl | rfl | rfl | rfl <;> simp only [crs, g, g', x0, x1, x2, x3, x4, x5, y0, y1, y2, y3, y4, y5] <;> omega
  · simp only [g, x0, x1, x2, x3, x4, x5]; omega
  · simp only [g, x0, x1, x2, x3, x4, x5]; omega
  · simp only [g', y0, y1, y2, y3, y4, y5]; omega
  · simp only [g', y0, y1, y2, y3, y4, y5]; omega
theorem lies8 (x y : Int) : Lies x y (near x y 8) 8 := by
  have h := round_spec ((ax x y).mul (betaN (12 - 8)).conj) (d := 2340 * 7 ^ (12 - 8)) (by decide)
  have e : (betaN (12 - 8)).conj = ⟨39, -55⟩ := by decide
  have ed : (2340 * 7 ^ (12 - 8) : Int) = 5618340 := by decide
  have eb : betaN (12 - 8) = ⟨-16, 55⟩ := by decide
  unfold near
  generalize Ei.round _ _ = q at *
  rw [e, ed] at h
  have ex : cx q 8 = 52 * (-16 * q.a - 55 * q.b) + 26 * (-16 * q.b + 55 * q.a + 55 * q.b) := by simp only [cx, eb, Ei.mul]
  have ey : cy q 8 = 45 * (-16 * q.b + 55 * q.a + 55 * q.b) := by simp only [cy, eb, Ei.mul]
  have x0 : kx 8 0 = -1248 := by decide
  have y0 : ky 8 0 = 4230 := by decide
  have x1 : kx 8 1 = -4290 := by decide
  have y1 : ky 8 1 = 1035 := by decide
  have x2 : kx 8 2 = -3042 := by decide
  have y2 : ky 8 2 = -3195 := by decide
  have x3 : kx 8 3 = 1248 := by decide
  have y3 : ky 8 3 = -4230 := by decide
  have x4 : kx 8 4 = 4290 := by decide
  have y4 : ky 8 4 = -1035 := by decide
  have x5 : kx 8 5 = 3042 := by decide
  have y5 : ky 8 5 = 3195 := by decide
  unfold holds at h
  simp only [Ei.mul, ax] at h
  have g : ∀ i, hx q 8 i = 3 * cx q 8 + kx 8 i := fun i => hx_eq q 8 i
  have g' : ∀ i, hy q 8 i = 3 * cy q 8 + ky 8 i := fun i => hy_eq q 8 i
  have h1 := h.1
  have h2 := h.2.1
  have h3 := h.2.2
  refine ⟨by omega, fun i hi => ?_, ⟨1, by decide, ?_⟩, ⟨4, by decide, ?_⟩, ⟨3, by decide, ?_⟩, ⟨0, by decide, ?_⟩⟩
  · rcases lt6 hi with rfl | rfl | rfl | rfl | rfl | rfl <;> simp only [crs, g, g', x0, x1, x2, x3, x4, x5, y0, y1, y2, y3, y4, y5] <;> omega
  · simp only [g, x0, x1, x2, x3, x4, x5]; omega
  · simp only [g, x0, x1, x2, x3, x4, x5]; omega
  · simp only [g', y0, y1, y2, y3, y4, y5]; omega
  · simp only [g', y0, y1, y2, y3, y4, y5]; omega
theorem lies9 (x y : Int) : Lies x y (near x y 9) 9 := by
  have h := round_spec ((ax x y).mul (betaN (12 - 9)).conj) (d := 2340 * 7 ^ (12 - 9)) (by decide)
  have e : (betaN (12 - 9)).conj = ⟨19, -18⟩ := by decide
  have ed : (2340 * 7 ^ (12 - 9) : Int) = 802620 := by decide
  have eb : betaN (12 - 9) = ⟨1, 18⟩ := by decide
  unfold near
  generalize Ei.round _ _ = q at *
  rw [e, ed] at h
  have ex : cx q 9 = 52 * (1 * q.a - 18 * q.b) + 26 * (1 * q.b + 18 * q.a + 18 * q.b) := by simp only [cx, eb, Ei.mul]
  have ey : cy q 9 = 45 * (1 * q.b + 18 * q.a + 18 * q.b) := by simp only [cy, eb, Ei.mul]
  have x0 : kx 9 0 = 78 := by decide
  have y0 : ky 9 0 = 1665 := by decide
  have x1 : kx 9 1 = -1404 := by decide
  have y1 : ky 9 1 = 900 := by decide
  have x2 : kx 9 2 = -1482 := by decide
  have y2 : ky 9 2 = -765 := by decide
  have x3 : kx 9 3 = -78 := by decide
  have y3 : ky 9 3 = -1665 := by decide
  have x4 : kx 9 4 = 1404 := by decide
  have y4 : ky 9 4 = -900 := by decide
  have x5 : kx 9 5 = 1482 := by decide
  have y5 : ky 9 5 = 765 := by decide
  unfold holds at h
  simp only [Ei.mul, ax] at h
  have g : ∀ i, hx q 9 i = 3 * cx q 9 + kx 9 i := fun i => hx_eq q 9 i
  have g' : ∀ i, hy q 9 i = 3 * cy q 9 + ky 9 i := fun i => hy_eq q 9 i
  have h1 := h.1
  have h2 := h.2.1
  have h3 := h.2.2
  refine ⟨by omega, fun i hi => ?_, ⟨2, by decide, ?_⟩, ⟨5, by decide, ?_⟩, ⟨3, by decide, ?_⟩, ⟨0, by decide, ?_⟩⟩
  · rcases lt6 hi with rfl | rfl | rfl | rfl | rfl | rfl <;> simp only [crs, g, g', x0, x1, x2, x3, x4, x5, y0, y1, y2, y3, y4, y5] <;> omega
  · simp only [g, x0, x1, x2, x3, x4, x5]; omega
  · simp only [g, x0, x1, x2, x3, x4, x5]; omega
  · simp only [g', y0, y1, y2, y3, y4, y5]; omega
  · simp only [g', y0, y1, y2, y3, y4, y5]; omega
theorem lies10 (x y : Int) : Lies x y (near x y 10) 10 := by
  have h := round_spec ((ax x y).mul (betaN (12 - 10)).conj) (d := 2340 * 7 ^ (12 - 10)) (by decide)
  have e : (betaN (12 - 10)).conj = ⟨8, -5⟩ := by decide
  have ed : (2340 * 7 ^ (12 - 10) : Int) = 114660 := by decide
  have eb : betaN (12 - 10) = ⟨3, 5⟩ := by decide
  unfold near
  generalize Ei.round _ _ = q at *
  rw [e, ed] at h
  have ex : cx q 10 = 52 * (3 * q.a - 5 * q.b) + 26 * (3 * q.b + 5 * q.a + 5 * q.b) := by simp only [cx, eb, Ei.mul]
  have ey : cy q 10 = 45 * (3 * q.b + 5 * q.a + 5 * q.b) := by simp only [cy, eb, Ei.mul]
  have x0 : kx 10 0 = 234 := by decide
  have y0 : ky 10 0 = 585 := by decide
  have x1 : kx 10 1 = -390 := by decide
  have y1 : ky 10 1 = 495 := by decide
  have x2 : kx 10 2 = -624 := by decide
  have y2 : ky 10 2 = -90 := by decide
  have x3 : kx 10 3 = -234 := by decide
  have y3 : ky 10 3 = -585 := by decide
  have x4 : kx 10 4 = 390 := by decide
  have y4 : ky 10 4 = -495 := by decide
  have x5 : kx 10 5 = 624 := by decide
  have y5 : ky 10 5 = 90 := by decide
  unfold holds at h
  simp only [Ei.mul, ax] at h
  have g : ∀ i, hx q 10 i = 3 * cx q 10 + kx 10 i := fun i => hx_eq q 10 i
  have g' : ∀ i, hy q 10 i = 3 * cy q 10 + ky 10 i := fun i => hy_eq q 10 i
  have h1 := h.1
  have h2 := h.2.1
  have h3 := h.2.2
  refine ⟨by omega, fun i hi => ?_, ⟨2, by decide, ?_⟩, ⟨5, by decide, ?_⟩, ⟨3, by decide, ?_⟩, ⟨0, by decide, ?_⟩⟩
  · rcases lt6 hi with rfl | rfl | rfl | rfl | rfl | rfl <;> simp only [crs, g, g', x0, x1, x2, x3, x4, x5, y0, y1, y2, y3, y4, y5] <;> omega
  · simp only [g, x0, x1, x2, x3, x4, x5]; omega
  · simp only [g, x0, x1, x2, x3, x4, x5]; omega
  · simp only [g', y0, y1, y2, y3, y4, y5]; omega
  · simp only [g', y0, y1, y2, y3, y4, y5]; omega
theorem lies11 (x y : Int) : Lies x y (near x y 11) 11 := by
  have h := round_spec ((ax x y).mul (betaN (12 - 11)).conj) (d := 2340 * 7 ^ (12 - 11)) (by decide)
  have e : (betaN (12 - 11)).conj = ⟨3, -1⟩ := by decide
  have ed : (2340 * 7 ^ (12 - 11) : Int) = 16380 := by decide
  have eb : betaN (12 - 11) = ⟨2, 1⟩ := by decide
  unfold near
  generalize Ei.round _ _ = q at *
  rw [e, ed] at h
  have ex : cx q 11 = 52 * (2 * q.a - 1 * q.b) + 26 * (2 * q.b + 1 * q.a + 1 * q.b) := by simp only [cx, eb, Ei.mul]
  have ey : cy q 11 = 45 * (2 * q.b + 1 * q.a + 1 * q.b) := by simp only [cy, eb, Ei.mul]
  have x0 : kx 11 0 = 156 := by decide
  have y0 : ky 11 0 = 180 := by decide
  have x1 : kx 11 1 = -78 := by decide
  have y1 : ky 11 1 = 225 := by decide
  have x2 : kx 11 2 = -234 := by decide
  have y2 : ky 11 2 = 45 := by decide
  have x3 : kx 11 3 = -156 := by decide
  have y3 : ky 11 3 = -180 := by decide
  have x4 : kx 11 4 = 78 := by decide
  have y4 : ky 11 4 = -225 := by decide
  have x5 : kx 11 5 = 234 := by decide
  have y5 : ky 11 5 = -45 := by decide
  unfold holds at h
  simp only [Ei.mul, ax] at h
  have g : ∀ i, hx q 11 i = 3 * cx q 11 + kx 11 i := fun i => hx_eq q 11 i
  have g' : ∀ i, hy q 11 i = 3 * cy q 11 + ky 11 i := fun i => hy_eq q 11 i
  have h1 := h.1
  have h2 := h.2.1
  have h3 := h.2.2
  refine ⟨by omega, fun i hi => ?_, ⟨2, by decide, ?_⟩, ⟨5, by decide, ?_⟩, ⟨4, by decide, ?_⟩, ⟨1, by decide, ?_⟩⟩
  · rcases lt6 hi with rfl | rfl | rfl | rfl | rfl | rfl <;> simp only [crs, g, g', x0, x1, x2, x3, x4, x5, y0, y1, y2, y3, y4, y5] <;> omega
  · simp only [g, x0, x1, x2, x3, x4, x5]; omega
  · simp only [g, x0, x1, x2, x3, x4, x5]; omega
  · simp only [g', y0, y1, y2, y3, y4, y5]; omega
  · simp only [g', y0, y1, y2, y3, y4, y5]; omega
theorem lies12 (x y : Int) : Lies x y (near x y 12) 12 := by
  have h := round_spec ((ax x y).mul (betaN (12 - 12)).conj) (d := 2340 * 7 ^ (12 - 12)) (by decide)
  have e : (betaN (12 - 12)).conj = ⟨1, 0⟩ := by decide
  have ed : (2340 * 7 ^ (12 - 12) : Int) = 2340 := by decide
  have eb : betaN (12 - 12) = ⟨1, 0⟩ := by decide
  unfold near
  generalize Ei.round _ _ = q at *
  rw [e, ed] at h
  have ex : cx q 12 = 52 * (1 * q.a - 0 * q.b) + 26 * (1 * q.b + 0 * q.a + 0 * q.b) := by simp only [cx, eb, Ei.mul]
  have ey : cy q 12 = 45 * (1 * q.b + 0 * q.a + 0 * q.b) := by simp only [cy, eb, Ei.mul]
  have x0 : kx 12 0 = 78 := by decide
  have y0 : ky 12 0 = 45 := by decide
  have x1 : kx 12 1 = 0 := by decide
  have y1 : ky 12 1 = 90 := by decide
  have x2 : kx 12 2 = -78 := by decide
  have y2 : ky 12 2 = 45 := by decide
  have x3 : kx 12 3 = -78 := by decide
  have y3 : ky 12 3 = -45 := by decide
  have x4 : kx 12 4 = 0 := by decide
  have y4 : ky 12 4 = -90 := by decide
  have x5 : kx 12 5 = 78 := by decide
  have y5 : ky 12 5 = -45 := by decide
  unfold holds at h
  simp only [Ei.mul, ax] at h
  have g : ∀ i, hx q 12 i = 3 * cx q 12 + kx 12 i := fun i => hx_eq q 12 i
  have g' : ∀ i, hy q 12 i = 3 * cy q 12 + ky 12 i := fun i => hy_eq q 12 i
  have h1 := h.1
  have h2 := h.2.1
  have h3 := h.2.2
  refine ⟨by omega, fun i hi => ?_, ⟨2, by decide, ?_⟩, ⟨0, by decide, ?_⟩, ⟨4, by decide, ?_⟩, ⟨1, by decide, ?_⟩⟩
  · rcases lt6 hi with rfl | rfl | rfl | rfl | rfl | rfl <;> simp only [crs, g, g', x0, x1, x2, x3, x4, x5, y0, y1, y2, y3, y4, y5] <;> omega
  · simp only [g, x0, x1, x2, x3, x4, x5]; omega
  · simp only [g, x0, x1, x2, x3, x4, x5]; omega
  · simp only [g', y0, y1, y2, y3, y4, y5]; omega
  · simp only [g', y0, y1, y2, y3, y4, y5]; omega
theorem lies (x y : Int) (r : Nat) (hr : r ≤ 12) : Lies x y (near x y r) r := by
  match r, hr with
  | 0, _ => exact lies0 x y
  | 1, _ => exact lies1 x y
  | 2, _ => exact lies2 x y
  | 3, _ => exact lies3 x y
  | 4, _ => exact lies4 x y
  | 5, _ => exact lies5 x y
  | 6, _ => exact lies6 x y
  | 7, _ => exact lies7 x y
  | 8, _ => exact lies8 x y
  | 9, _ => exact lies9 x y
  | 10, _ => exact lies10 x y
  | 11, _ => exact lies11 x y
  | 12, _ => exact lies12 x y
  | r + 13, h => omega
end Go.Ev
