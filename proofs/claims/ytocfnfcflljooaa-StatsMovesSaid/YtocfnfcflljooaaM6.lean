import Derived.Test.YtocfnfcflljooaaChecked
import Derived.WalkKit
import Derived.Test.YtocfnfcflljooaaM5
namespace Go.Ev
open Go
set_option linter.unusedSectionVars false
set_option linter.unnecessarySimpa false
set_option linter.unusedSimpArgs false
set_option linter.unusedVariables false
/-- The corners' numbers. -/
def vv (i : Nat) : Ei := match i with | 0 => ⟨1, 1⟩ | 1 => ⟨-1, 2⟩ | 2 => ⟨-2, 1⟩ | 3 => ⟨-1, -1⟩ | 4 => ⟨1, -2⟩ | _ => ⟨2, -1⟩
/-- A corner, on the finest lattice, in thirds. -/
def hc (z : Ei) (r i : Nat) : Ei := (betaN (12 - r)).mul ⟨3 * z.a + (vv i).a, 3 * z.b + (vv i).b⟩
def hx (z : Ei) (r i : Nat) : Int := 52 * (hc z r i).a + 26 * (hc z r i).b
def hy (z : Ei) (r i : Nat) : Int := 45 * (hc z r i).b
def cx (z : Ei) (r : Nat) : Int := 52 * ((betaN (12 - r)).mul z).a + 26 * ((betaN (12 - r)).mul z).b
def cy (z : Ei) (r : Nat) : Int := 45 * ((betaN (12 - r)).mul z).b
/-- How far a corner is from the middle. -/
def kx (r i : Nat) : Int := 52 * ((betaN (12 - r)).mul (vv i)).a + 26 * ((betaN (12 - r)).mul (vv i)).b
def ky (r i : Nat) : Int := 45 * ((betaN (12 - r)).mul (vv i)).b
theorem hx_eq (z : Ei) (r i : Nat) : hx z r i = 3 * cx z r + kx r i := by
  simp only [hx, cx, kx, hc, Ei.mul, Int.mul_add, Int.mul_left_comm _ (3 : Int)]
  omega
theorem hy_eq (z : Ei) (r i : Nat) : hy z r i = 3 * cy z r + ky r i := by
  simp only [hy, cy, ky, hc, Ei.mul, Int.mul_add, Int.mul_left_comm _ (3 : Int)]
  omega
/-- Which side of a side a point lies on. -/
def crs (z : Ei) (r i j : Nat) (x y : Int) : Int := (kx r j - kx r i) * (y - hy z r i) - (ky r j - ky r i) * (x - hx z r i)
/-- What a point's cell is to the point. -/
def Lies (x y : Int) (z : Ei) (r : Nat) : Prop :=
  ((-50000000 ≤ cx z r - x ∧ cx z r - x ≤ 50000000) ∧ (-50000000 ≤ cy z r - y ∧ cy z r - y ≤ 50000000)) ∧
  (∀ i, i < 6 → 0 ≤ crs z r i ((i + 1) % 6) (3 * x) (3 * y)) ∧
  (∃ i, i < 6 ∧ hx z r i ≤ 3 * x) ∧ (∃ i, i < 6 ∧ 3 * x ≤ hx z r i) ∧ (∃ i, i < 6 ∧ hy z r i ≤ 3 * y) ∧ (∃ i, i < 6 ∧ 3 * y ≤ hy z r i)
theorem lt6 {i : Nat} (h : i < 6) : i = 0 ∨ i = 1 ∨ i = 2 ∨ i = 3 ∨ i = 4 ∨ i = 5 := by omega
theorem lies0 (x y : Int) : Lies x y (near x y 0) 0 := by
  have h := round_spec ((ax x y).mul (betaN (12 - 0)).conj) (d := 2340 * 7 ^ (12 - 0)) (by decide)
  have e : (betaN (12 - 0)).conj = ⟨-128231, 102960⟩ := by decide
  have ed : (2340 * 7 ^ (12 - 0) : Int) = 32388612050340 := by decide
  have eb : betaN (12 - 0) = ⟨-25271, -102960⟩ := by decide
  unfold near
  generalize Ei.round _ _ = q at *
  rw [e, ed] at h
  have ex : cx q 0 = 52 * (-25271 * q.a - -102960 * q.b) + 26 * (-25271 * q.b + -102960 * q.a + -102960 * q.b) := by simp only [cx, eb, Ei.mul]
  have ey : cy q 0 = 45 * (-25271 * q.b + -102960 * q.a + -102960 * q.b) := by simp only [cy, eb, Ei.mul]
  have x0 : kx 0 0 = -1971138 := by decide
  have y0 : ky 0 0 = -10403595 := by decide
  have x1 : kx 0 1 = 8030880 := by decide
  have y1 : ky 0 1 = -6907590 := by decide
  have x2 : kx 0 2 = 10002018 := by decide
  have y2 : ky 0 2 = 3496005 := by decide
  have x3 : kx 0 3 = 1971138 := by decide
  have y3 : ky 0 3 = 10403595 := by decide
  have x4 : kx 0 4 = -8030880 := by decide
  have y4 : ky 0 4 = 6907590 := by decide
  have x5 : kx 0 5 = -10002018 := by decide
  have y5 : ky 0 5 = -3496005 := by decide
  unfold holds at h
  simp only [Ei.mul, ax] at h
  have g : ∀ i, hx q 0 i = 3 * cx q 0 + kx 0 i := fun i => hx_eq q 0 i
  have g' : ∀ i, hy q 0 i = 3 * cy q 0 + ky 0 i := fun i => hy_eq q 0 i
  have h1 := h.1
  have h2 := h.2.1
  have h3 := h.2.2
  refine ⟨by omega, fun i hi => ?_, ⟨5, by decide, ?_⟩, ⟨2, by decide, ?_⟩, ⟨0, by decide, ?_⟩, ⟨3, by decide, ?_⟩⟩
  · rcases lt6 hi with rfl | rfl | rfl | rfl | rfl | rfl <;> simp only [crs, g, g', x0, x1, x2, x3, x4, x5, y0, y1, y2, y3, y4, y5] <;> omega
  · simp only [g, x0, x1, x2, x3, x4, x5]; omega
  · simp only [g, x0, x1, x2, x3, x4, x5]; omega
  · simp only [g', y0, y1, y2, y3, y4, y5]; omega
  · simp only [g', y0, y1, y2, y3, y4, y5]; omega
theorem lies1 (x y : Int) : Lies x y (near x y 1) 1 := by
  have h := round_spec ((ax x y).mul (betaN (12 - 1)).conj) (d := 2340 * 7 ^ (12 - 1)) (by decide)
  have e : (betaN (12 - 1)).conj = ⟨-51346, 25807⟩ := by decide
  have ed : (2340 * 7 ^ (12 - 1) : Int) = 4626944578620 := by decide
  have eb : betaN (12 - 1) = ⟨-25539, -25807⟩ := by decide
  unfold near
  generalize Ei.round _ _ = q at *
  rw [e, ed] at h
  have ex : cx q 1 = 52 * (-25539 * q.a - -25807 * q.b) + 26 * (-25539 * q.b + -25807 * q.a + -25807 * q.b) := by simp only [cx, eb, Ei.mul]
  have ey : cy q 1 = 45 * (-25539 * q.b + -25807 * q.a + -25807 * q.b) := by simp only [cy, eb, Ei.mul]
  have x0 : kx 1 0 = -1992042 := by decide
  have y0 : ky 1 0 = -3471885 := by decide
  have x1 : kx 1 1 = 2012946 := by decide
  have y1 : ky 1 1 = -3459825 := by decide
  have x2 : kx 1 2 = 4004988 := by decide
  have y2 : ky 1 2 = 12060 := by decide
  have x3 : kx 1 3 = 1992042 := by decide
  have y3 : ky 1 3 = 3471885 := by decide
  have x4 : kx 1 4 = -2012946 := by decide
  have y4 : ky 1 4 = 3459825 := by decide
  have x5 : kx 1 5 = -4004988 := by decide
  have y5 : ky 1 5 = -12060 := by decide
  unfold holds at h
  simp only [Ei.mul, ax] at h
  have g : ∀ i, hx q 1 i = 3 * cx q 1 + kx 1 i := fun i => hx_eq q 1 i
  have g' : ∀ i, hy q 1 i = 3 * cy q 1 + ky 1 i := fun i => hy_eq q 1 i
  have h1 := h.1
  have h2 := h.2.1
  have h3 := h.2.2
  refine ⟨by omega, fun i hi => ?_, ⟨5, by decide, ?_⟩, ⟨2, by decide, ?_⟩, ⟨0, by decide, ?_⟩, ⟨3, by decide, ?_⟩⟩
  · rcases lt6 hi with rfl | rfl | rfl | rfl | rfl | rfl <;> simp only [crs, g, g', x0, x1, x2, x3, x4, x5, y0, y1, y2, y3, y4, y5] <;> omega
  · simp only [g, x0, x1, x2, x3, x4, x5]; omega
  · simp only [g, x0, x1, x2, x3, x4, x5]; omega
  · simp only [g', y0, y1, y2, y3, y4, y5]; omega
  · simp only [g', y0, y1, y2, y3, y4, y5]; omega
theorem lies2 (x y : Int) : Lies x y (near x y 2) 2 := by
  have h := round_spec ((ax x y).mul (betaN (12 - 2)).conj) (d := 2340 * 7 ^ (12 - 2)) (by decide)
  have e : (betaN (12 - 2)).conj = ⟨-18357, 3725⟩ := by decide
  have ed : (2340 * 7 ^ (12 - 2) : Int) = 660992082660 := by decide
  have eb : betaN (12 - 2) = ⟨-14632, -3725⟩ := by decide
  unfold near
  generalize Ei.round _ _ = q at *
  rw [e, ed] at h
  have ex : cx q 2 = 52 * (-14632 * q.a - -3725 * q.b) + 26 * (-14632 * q.b + -3725 * q.a + -3725 * q.b) := by simp only [cx, eb, Ei.mul]
  have ey : cy q 2 = 45 * (-14632 * q.b + -3725 * q.a + -3725 * q.b) := by simp only [cy, eb, Ei.mul]
  have x0 : kx 2 0 = -1141296 := by decide
  have y0 : ky 2 0 = -993690 := by decide
  have x1 : kx 2 1 = 290550 := by decide
  have y1 : ky 2 1 = -1484505 := by decide
  have x2 : kx 2 2 = 1431846 := by decide
  have y2 : ky 2 2 = -490815 := by decide
  have x3 : kx 2 3 = 1141296 := by decide
  have y3 : ky 2 3 = 993690 := by decide
  have x4 : kx 2 4 = -290550 := by decide
  have y4 : ky 2 4 = 1484505 := by decide
  have x5 : kx 2 5 = -1431846 := by decide
  have y5 : ky 2 5 = 490815 := by decide
  unfold holds at h
  simp only [Ei.mul, ax] at h
  have g : ∀ i, hx q 2 i = 3 * cx q 2 + kx 2 i := fun i => hx_eq q 2 i
  have g' : ∀ i, hy q 2 i = 3 * cy q 2 + ky 2 i := fun i => hy_eq q 2 i
  have h1 := h.1
  have h2 := h.2.1
  have h3 := h.2.2
  refine ⟨by omega, fun i hi => ?_, ⟨5, by decide, ?_⟩, ⟨2, by decide, ?_⟩, ⟨1, by decide, ?_⟩, ⟨4, by decide, ?_⟩⟩
  · rcases lt6 hi with rfl | rfl | rfl | rfl | rfl | rfl <;> simp only [crs, g, g', x0, x1, x2, x3, x4, x5, y0, y1, y2, y3, y4, y5] <;> omega
  · simp only [g, x0, x1, x2, x3, x4, x5]; omega
  · simp only [g, x0, x1, x2, x3, x4, x5]; omega
  · simp only [g', y0, y1, y2, y3, y4, y5]; omega
  · simp only [g', y0, y1, y2, y3, y4, y5]; omega
theorem lies3 (x y : Int) : Lies x y (near x y 3) 3 := by
  have h := round_spec ((ax x y).mul (betaN (12 - 3)).conj) (d := 2340 * 7 ^ (12 - 3)) (by decide)
  have e : (betaN (12 - 3)).conj = ⟨-5777, -1026⟩ := by decide
  have ed : (2340 * 7 ^ (12 - 3) : Int) = 94427440380 := by decide
  have eb : betaN (12 - 3) = ⟨-6803, 1026⟩ := by decide
  unfold near
  generalize Ei.round _ _ = q at *
  rw [e, ed] at h
  have ex : cx q 3 = 52 * (-6803 * q.a - 1026 * q.b) + 26 * (-6803 * q.b + 1026 * q.a + 1026 * q.b) := by simp only [cx, eb, Ei.mul]
  have ey : cy q 3 = 45 * (-6803 * q.b + 1026 * q.a + 1026 * q.b) := by simp only [cy, eb, Ei.mul]
  have x0 : kx 3 0 = -530634 := by decide
  have y0 : ky 3 0 = -213795 := by decide
  have x1 : kx 3 1 = -80028 := by decide
  have y1 : ky 3 1 = -566100 := by decide
  have x2 : kx 3 2 = 450606 := by decide
  have y2 : ky 3 2 = -352305 := by decide
  have x3 : kx 3 3 = 530634 := by decide
  have y3 : ky 3 3 = 213795 := by decide
  have x4 : kx 3 4 = 80028 := by decide
  have y4 : ky 3 4 = 566100 := by decide
  have x5 : kx 3 5 = -450606 := by decide
  have y5 : ky 3 5 = 352305 := by decide
  unfold holds at h
  simp only [Ei.mul, ax] at h
  have g : ∀ i, hx q 3 i = 3 * cx q 3 + kx 3 i := fun i => hx_eq q 3 i
  have g' : ∀ i, hy q 3 i = 3 * cy q 3 + ky 3 i := fun i => hy_eq q 3 i
  have h1 := h.1
  have h2 := h.2.1
  have h3 := h.2.2
  refine ⟨by omega, fun i hi => ?_, ⟨0, by decide, ?_⟩, ⟨3, by decide, ?_⟩, ⟨1, by decide, ?_⟩, ⟨4, by decide, ?_⟩⟩
  · rcases lt6 hi with rfl | rfl | rfl | rfl | rfl | rfl <;> simp only [crs, g, g', x0, x1, x2, x3, x4, x5, y0, y1, y2, y3, y4, y5] <;> omega
  · simp only [g, x0, x1, x2, x3, x4, x5]; omega
  · simp only [g, x0, x1, x2, x3, x4, x5]; omega
  · simp only [g', y0, y1, y2, y3, y4, y5]; omega
  · simp only [g', y0, y1, y2, y3, y4, y5]; omega
theorem lies4 (x y : Int) : Lies x y (near x y 4) 4 := by
  have h := round_spec ((ax x y).mul (betaN (12 - 4)).conj) (d := 2340 * 7 ^ (12 - 4)) (by decide)
  have e : (betaN (12 - 4)).conj = ⟨-1504, -1265⟩ := by decide
  have ed : (2340 * 7 ^ (12 - 4) : Int) = 13489634340 := by decide
  have eb : betaN (12 - 4) = ⟨-2769, 1265⟩ := by decide
  unfold near
  generalize Ei.round _ _ = q at *
  rw [e, ed] at h
  have ex : cx q 4 = 52 * (-2769 * q.a - 1265 * q.b) + 26 * (-2769 * q.b + 1265 * q.a + 1265 * q.b) := by simp only [cx, eb, Ei.mul]
  have ey : cy q 4 = 45 * (-2769 * q.b + 1265 * q.a + 1265 * q.b) := by simp only [cy, eb, Ei.mul]
  have x0 : kx 4 0 = -215982 := by decide
  have y0 : ky 4 0 = -10755 := by decide
  have x1 : kx 4 1 = -98670 := by decide
  have y1 : ky 4 1 = -192285 := by decide
  have x2 : kx 4 2 = 117312 := by decide
  have y2 : ky 4 2 = -181530 := by decide
  have x3 : kx 4 3 = 215982 := by decide
  have y3 : ky 4 3 = 10755 := by decide
  have x4 : kx 4 4 = 98670 := by decide
  have y4 : ky 4 4 = 192285 := by decide
  have x5 : kx 4 5 = -117312 := by decide
  have y5 : ky 4 5 = 181530 := by decide
  unfold holds at h
  simp only [Ei.mul, ax] at h
  have g : ∀ i, hx q 4 i = 3 * cx q 4 + kx 4 i := fun i => hx_eq q 4 i
  have g' : ∀ i, hy q 4 i = 3 * cy q 4 + ky 4 i := fun i => hy_eq q 4 i
  have h1 := h.1
  have h2 := h.2.1
  have h3 := h.2.2
  refine ⟨by omega, fun i hi => ?_, ⟨0, by decide, ?_⟩, ⟨3, by decide, ?_⟩, ⟨1, by decide, ?_⟩, ⟨4, by decide, ?_⟩⟩
  · rcases lt6 hi with rfl | rfl | rfl | rfl | rfl | rfl <;> simp only [crs, g, g', x0, x1, x2, x3, x4, x5, y0, y1, y2, y3, y4, y5] <;> omega
  · simp only [g, x0, x1, x2, x3, x4, x5]; omega
  · simp only [g, x0, x1, x2, x3, x4, x5]; omega
  · simp only [g', y0, y1, y2, y3, y4, y5]; omega
  · simp only [g', y0, y1, y2, y3, y4, y5]; omega
theorem lies5 (x y : Int) : Lies x y (near x y 5) 5 := by
  have h := round_spec ((ax x y).mul (betaN (12 - 5)).conj) (d := 2340 * 7 ^ (12 - 5)) (by decide)
  have e : (betaN (12 - 5)).conj = ⟨-249, -757⟩ := by decide
  have ed : (2340 * 7 ^ (12 - 5) : Int) = 1927090620 := by decide
  have eb : betaN (12 - 5) = ⟨-1006, 757⟩ := by decide
  unfold near
  generalize Ei.round _ _ = q at *
  rw [e, ed] at h
  have ex : cx q 5 = 52 * (-1006 * q.a - 757 * q.b) + 26 * (-1006 * q.b + 757 * q.a + 757 * q.b) := by simp only [cx, eb, Ei.mul]
  have ey : cy q 5 = 45 * (-1006 * q.b + 757 * q.a + 757 * q.b) := by simp only [cy, eb, Ei.mul]
  have x0 : kx 5 0 = -78468 := by decide
  have y0 : ky 5 0 = 22860 := by decide
  have x1 : kx 5 1 = -59046 := by decide
  have y1 : ky 5 1 = -56475 := by decide
  have x2 : kx 5 2 = 19422 := by decide
  have y2 : ky 5 2 = -79335 := by decide
  have x3 : kx 5 3 = 78468 := by decide
  have y3 : ky 5 3 = -22860 := by decide
  have x4 : kx 5 4 = 59046 := by decide
  have y4 : ky 5 4 = 56475 := by decide
  have x5 : kx 5 5 = -19422 := by decide
  have y5 : ky 5 5 = 79335 := by decide
  unfold holds at h
  simp only [Ei.mul, ax] at h
  have g : ∀ i, hx q 5 i = 3 * cx q 5 + kx 5 i := fun i => hx_eq q 5 i
  have g' : ∀ i, hy q 5 i = 3 * cy q 5 + ky 5 i := fun i => hy_eq q 5 i
  have h1 := h.1
  have h2 := h.2.1
  have h3 := h.2.2
  refine ⟨by omega, fun i hi => ?_, ⟨0, by decide, ?_⟩, ⟨3, by decide, ?_⟩, ⟨2, by decide, ?_⟩, ⟨5, by decide, ?_⟩⟩
  · rcases lt6 hi with rfl | rfl | rfl | rfl | rfl | rfl <;> simp only [crs, g, g', x0, x1, x2, x3, x4, x5, y0, y1, y2, y3, y4, y5] <;> omega
  · simp only [g, x0, x1, x2, x3, x4, x5]; omega
  · simp only [g, x0, x1, x2, x3, x4, x5]; omega
  · simp only [g', y0, y1, y2, y3, y4, y5]; omega
  · simp only [g', y0, y1, y2, y3, y4, y5]; omega
theorem lies6 (x y : Int) : Lies x y (near x y 6) 6 := by
  have h := round_spec ((ax x y).mul (betaN (12 - 6)).conj) (d := 2340 * 7 ^ (12 - 6)) (by decide)
  have e : (betaN (12 - 6)).conj = ⟨37, -360⟩ := by decide
  have ed : (2340 * 7 ^ (12 - 6) : Int) = 275298660 := by decide
  have eb : betaN (12 - 6) = ⟨-323, 360⟩ := by decide
  unfold near
  generalize Ei.round _ _ = q at *
  rw [e, ed] at h
  have ex : cx q 6 = 52 * (-323 * q.a - 360 * q.b) + 26 * (-323 * q.b + 360 * q.a + 360 * q.b) := by simp only [cx, eb, Ei.mul]
  have ey : cy q 6 = 45 * (-323 * q.b + 360 * q.a + 360 * q.b) := by simp only [cy, eb, Ei.mul]
  have x0 : kx 6 0 = -25194 := by decide
  have y0 : ky 6 0 = 17865 := by decide
  have x1 : kx 6 1 = -28080 := by decide
  have y1 : ky 6 1 = -12870 := by decide
  have x2 : kx 6 2 = -2886 := by decide
  have y2 : ky 6 2 = -30735 := by decide
  have x3 : kx 6 3 = 25194 := by decide
  have y3 : ky 6 3 = -17865 := by decide
  have x4 : kx 6 4 = 28080 := by decide
  have y4 : ky 6 4 = 12870 := by decide
  have x5 : kx 6 5 = 2886 := by decide
  have y5 : ky 6 5 = 30735 := by decide
  unfold holds at h
  simp only [Ei.mul, ax] at h
  have g : ∀ i, hx q 6 i = 3 * cx q 6 + kx 6 i := fun i => hx_eq q 6 i
  have g' : ∀ i, hy q 6 i = 3 * cy q 6 + ky 6 i := fun i => hy_eq q 6 i
  have h1 := h.1
  have h2 := h.2.1
  have h3 := h.2.2
  refine ⟨by omega, fun i hi => ?_, ⟨1, by decide, ?_⟩, ⟨4, by decide, ?_⟩, ⟨2, by decide, ?_⟩, ⟨5, by decide, ?_⟩⟩
  · rcases lt6 hi with rfl | rfl | rfl | rfl | rfl | rfl <;> simp only [crs, g, g', x0, x1, x2, x3, x4, x5, y0, y1, y2, y3, y4, y5] <;> omega
  · simp only [g, x0, x1, x2, x3, x4, x5]; omega
  · simp only [g, x0, x1, x2, x3, x4, x5]; omega
  · simp only [g', y0, y1, y2, y3, y4, y5]; omega
  · simp only [g', y0, y1, y2, y3, y4, y5]; omega
theorem lies7 (x y : Int) : Lies x y (near x y 7) 7 := by
  have h := round_spec ((ax x y).mul (betaN (12 - 7)).conj) (d := 2340 * 7 ^ (12 - 7)) (by decide)
  have e : (betaN (12 - 7)).conj = ⟨62, -149⟩ := by decide
  have ed : (2340 * 7 ^ (12 - 7) : Int) = 39328380 := by decide
  have eb : betaN (12 - 7) = ⟨-87, 149⟩ := by decide
  unfold near
  generalize Ei.round _ _ = q at *
  rw [e, ed] at h
  have ex : cx q 7 = 52 * (-87 * q.a - 149 * q.b) + 26 * (-87 * q.b + 149 * q.a + 149 * q.b) := by simp only [cx, eb, Ei.mul]
  have ey : cy q 7 = 45 * (-87 * q.b + 149 * q.a + 149 * q.b) := by simp only [cy, eb, Ei.mul]
  have x0 : kx 7 0 = -6786 := by decide
  have y0 : ky 7 0 = 9495 := by decide
  have x1 : kx 7 1 = -11622 := by decide
  have y1 : ky 7 1 = -1125 := by decide
  have x2 : kx 7 2 = -4836 := by decide
  have y2 : ky 7 2 = -10620 := by decide
  have x3 : kx 7 3 = 6786 := by decide
  have y3 : ky 7 3 = -9495 := by decide
  have x4 : kx 7 4 = 11622 := by decide
  have y4 : ky 7 4 = 1125 := by decide
  have x5 : kx 7 5 = 4836 := by decide
  have y5 : ky 7 5 = 10620 := by decide
  unfold holds at h
  simp only [Ei.mul, ax] at h
  have g : ∀ i, hx q 7 i = 3 * cx q 7 + kx 7 i := fun i => hx_eq q 7 i
  have g' : ∀ i, hy q 7 i = 3 * cy q 7 + ky 7 i := fun i => hy_eq q 7 i
  have h1 := h.1
  have h2 := h.2.1
  have h3 := h.2.2
  refine ⟨by omega, fun i hi => ?_, ⟨1, by decide, ?_⟩, ⟨4, by decide, ?_⟩, ⟨2, by decide, ?_⟩, ⟨5, by decide, ?_⟩⟩
  · rcases lt6 hi with rfl | rfl | rfl | rfl | rfl | rfl <;> simp only [crs, g, g', x0, x1, x2, x3, x4, x5, y0, y1, y2, y3, y4, y5] <;> omega
  · simp only [g, x0, x1, x2, x3, x4, x5]; omega
  · simp only [g, x0, x1, x2, x3, x4, x5]; omega
  · simp only [g', y0, y1, y2, y3, y4, y5]; omega
  · simp only [g', y0, y1, y2, y3, y4, y5]; omega
theorem lies8 (x y : Int) : Lies x y (near x y 8) 8 := by
  have h := round_spec ((ax x y).mul (betaN (12 - 8)).conj) (d := 2340 * 7 ^ (12 - 8)) (by decide)
  have e : (betaN (12 - 8)).conj = ⟨39, -55⟩ := by decide
  have ed : (2340 * 7 ^ (12 - 8) : Int) = 5618340 := by decide
  have eb : betaN (12 - 8) = ⟨-16, 55⟩ := by decide
  unfold near
  generalize Ei.round _ _ = q at *
  rw [e, ed] at h
  have ex : cx q 8 = 52 * (-16 * q.a - 55 * q.b) + 26 * (-16 * q.b + 55 * q.a + 55 * q.b) := by simp only [cx, eb, Ei.mul]
  have ey : cy q 8 = 45 * (-16 * q.b + 55 * q.a + 55 * q.b) := by simp only [cy, eb, Ei.mul]
  have x0 : kx 8 0 = -1248 := by decide
  have y0 : ky 8 0 = 4230 := by decide
  have x1 : kx 8 1 = -4290 := by decide
  have y1 : ky 8 1 = 1035 := by decide
  have x2 : kx 8 2 = -3042 := by decide
  have y2 : ky 8 2 = -3195 := by decide
  have x3 : kx 8 3 = 1248 := by decide
  have y3 : ky 8 3 = -4230 := by decide
  have x4 : kx 8 4 = 4290 := by decide
  have y4 : ky 8 4 = -1035 := by decide
  have x5 : kx 8 5 = 3042 := by decide
  have y5 : ky 8 5 = 3195 := by decide
  unfold holds at h
  simp only [Ei.mul, ax] at h
  have g : ∀ i, hx q 8 i = 3 * cx q 8 + kx 8 i := fun i => hx_eq q 8 i
  have g' : ∀ i, hy q 8 i = 3 * cy q 8 + ky 8 i := fun i => hy_eq q 8 i
  have h1 := h.1
  have h2 := h.2.1
  have h3 := h.2.2
  refine ⟨by omega, fun i hi => ?_, ⟨1, by decide, ?_⟩, ⟨4, by decide, ?_⟩, ⟨3, by decide, ?_⟩, ⟨0, by decide, ?_⟩⟩
  · rcases lt6 hi with rfl | rfl | rfl | rfl | rfl | rfl <;> simp only [crs, g, g', x0, x1, x2, x3, x4, x5, y0, y1, y2, y3, y4, y5] <;> omega
  · simp only [g, x0, x1, x2, x3, x4, x5]; omega
  · simp only [g, x0, x1, x2, x3, x4, x5]; omega
  · simp only [g', y0, y1, y2, y3, y4, y5]; omega
  · simp only [g', y0, y1, y2, y3, y4, y5]; omega
theorem lies9 (x y : Int) : Lies x y (near x y 9) 9 := by
  have h := round_spec ((ax x y).mul (betaN (12 - 9)).conj) (d := 2340 * 7 ^ (12 - 9)) (by decide)
  have e : (betaN (12 - 9)).conj = ⟨19, -18⟩ := by decide
  have ed : (2340 * 7 ^ (12 - 9) : Int) = 802620 := by decide
  have eb : betaN (12 - 9) = ⟨1, 18⟩ := by decide
  unfold near
  generalize Ei.round _ _ = q at *
  rw [e, ed] at h
  have ex : cx q 9 = 52 * (1 * q.a - 18 * q.b) + 26 * (1 * q.b + 18 * q.a + 18 * q.b) := by simp only [cx, eb, Ei.mul]
  have ey : cy q 9 = 45 * (1 * q.b + 18 * q.a + 18 * q.b) := by simp only [cy, eb, Ei.mul]
  have x0 : kx 9 0 = 78 := by decide
  have y0 : ky 9 0 = 1665 := by decide
  have x1 : kx 9 1 = -1404 := by decide
  have y1 : ky 9 1 = 900 := by decide
  have x2 : kx 9 2 = -1482 := by decide
  have y2 : ky 9 2 = -765 := by decide
  have x3 : kx 9 3 = -78 := by decide
  have y3 : ky 9 3 = -1665 := by decide
  have x4 : kx 9 4 = 1404 := by decide
  have y4 : ky 9 4 = -900 := by decide
  have x5 : kx 9 5 = 1482 := by decide
  have y5 : ky 9 5 = 765 := by decide
  unfold holds at h
  simp only [Ei.mul, ax] at h
  have g : ∀ i, hx q 9 i = 3 * cx q 9 + kx 9 i := fun i => hx_eq q 9 i
  have g' : ∀ i, hy q 9 i = 3 * cy q 9 + ky 9 i := fun i => hy_eq q 9 i
  have h1 := h.1
  have h2 := h.2.1
  have h3 := h.2.2
  refine ⟨by omega, fun i hi => ?_, ⟨2, by decide, ?_⟩, ⟨5, by decide, ?_⟩, ⟨3, by decide, ?_⟩, ⟨0, by decide, ?_⟩⟩
  · rcases lt6 hi with rfl | rfl | rfl | rfl | rfl | rfl <;> simp only [crs, g, g', x0, x1, x2, x3, x4, x5, y0, y1, y2, y3, y4, y5] <;> omega
  · simp only [g, x0, x1, x2, x3, x4, x5]; omega
  · simp only [g, x0, x1, x2, x3, x4, x5]; omega
  · simp only [g', y0, y1, y2, y3, y4, y5]; omega
  · simp only [g', y0, y1, y2, y3, y4, y5]; omega
theorem lies10 (x y : Int) : Lies x y (near x y 10) 10 := by
  have h := round_spec ((ax x y).mul (betaN (12 - 10)).conj) (d := 2340 * 7 ^ (12 - 10)) (by decide)
  have e : (betaN (12 - 10)).conj = ⟨8, -5⟩ := by decide
  have ed : (2340 * 7 ^ (12 - 10) : Int) = 114660 := by decide
  have eb : betaN (12 - 10) = ⟨3, 5⟩ := by decide
  unfold near
  generalize Ei.round _ _ = q at *
  rw [e, ed] at h
  have ex : cx q 10 = 52 * (3 * q.a - 5 * q.b) + 26 * (3 * q.b + 5 * q.a + 5 * q.b) := by simp only [cx, eb, Ei.mul]
  have ey : cy q 10 = 45 * (3 * q.b + 5 * q.a + 5 * q.b) := by simp only [cy, eb, Ei.mul]
  have x0 : kx 10 0 = 234 := by decide
  have y0 : ky 10 0 = 585 := by decide
  have x1 : kx 10 1 = -390 := by decide
  have y1 : ky 10 1 = 495 := by decide
  have x2 : kx 10 2 = -624 := by decide
  have y2 : ky 10 2 = -90 := by decide
  have x3 : kx 10 3 = -234 := by decide
  have y3 : ky 10 3 = -585 := by decide
  have x4 : kx 10 4 = 390 := by decide
  have y4 : ky 10 4 = -495 := by decide
  have x5 : kx 10 5 = 624 := by decide
  have y5 : ky 10 5 = 90 := by decide
  unfold holds at h
  simp only [Ei.mul, ax] at h
  have g : ∀ i, hx q 10 i = 3 * cx q 10 + kx 10 i := fun i => hx_eq q 10 i
  have g' : ∀ i, hy q 10 i = 3 * cy q 10 + ky 10 i := fun i => hy_eq q 10 i
  have h1 := h.1
  have h2 := h.2.1
  have h3 := h.2.2
  refine ⟨by omega, fun i hi => ?_, ⟨2, by decide, ?_⟩, ⟨5, by decide, ?_⟩, ⟨3, by decide, ?_⟩, ⟨0, by decide, ?_⟩⟩
  · rcases lt6 hi with rfl | rfl | rfl | rfl | rfl | rfl <;> simp only [crs, g, g', x0, x1, x2, x3, x4, x5, y0, y1, y2, y3, y4, y5] <;> omega
  · simp only [g, x0, x1, x2, x3, x4, x5]; omega
  · simp only [g, x0, x1, x2, x3, x4, x5]; omega
  · simp only [g', y0, y1, y2, y3, y4, y5]; omega
  · simp only [g', y0, y1, y2, y3, y4, y5]; omega
theorem lies11 (x y : Int) : Lies x y (near x y 11) 11 := by
  have h := round_spec ((ax x y).mul (betaN (12 - 11)).conj) (d := 2340 * 7 ^ (12 - 11)) (by decide)
  have e : (betaN (12 - 11)).conj = ⟨3, -1⟩ := by decide
  have ed : (2340 * 7 ^ (12 - 11) : Int) = 16380 := by decide
  have eb : betaN (12 - 11) = ⟨2, 1⟩ := by decide
  unfold near
  generalize Ei.round _ _ = q at *
  rw [e, ed] at h
  have ex : cx q 11 = 52 * (2 * q.a - 1 * q.b) + 26 * (2 * q.b + 1 * q.a + 1 * q.b) := by simp only [cx, eb, Ei.mul]
  have ey : cy q 11 = 45 * (2 * q.b + 1 * q.a + 1 * q.b) := by simp only [cy, eb, Ei.mul]
  have x0 : kx 11 0 = 156 := by decide
  have y0 : ky 11 0 = 180 := by decide
  have x1 : kx 11 1 = -78 := by decide
  have y1 : ky 11 1 = 225 := by decide
  have x2 : kx 11 2 = -234 := by decide
  have y2 : ky 11 2 = 45 := by decide
  have x3 : kx 11 3 = -156 := by decide
  have y3 : ky 11 3 = -180 := by decide
  have x4 : kx 11 4 = 78 := by decide
  have y4 : ky 11 4 = -225 := by decide
  have x5 : kx 11 5 = 234 := by decide
  have y5 : ky 11 5 = -45 := by decide
  unfold holds at h
  simp only [Ei.mul, ax] at h
  have g : ∀ i, hx q 11 i = 3 * cx q 11 + kx 11 i := fun i => hx_eq q 11 i
  have g' : ∀ i, hy q 11 i = 3 * cy q 11 + ky 11 i := fun i => hy_eq q 11 i
  have h1 := h.1
  have h2 := h.2.1
  have h3 := h.2.2
  refine ⟨by omega, fun i hi => ?_, ⟨2, by decide, ?_⟩, ⟨5, by decide, ?_⟩, ⟨4, by decide, ?_⟩, ⟨1, by decide, ?_⟩⟩
  · rcases lt6 hi with rfl | rfl | rfl | rfl | rfl | rfl <;> simp only [crs, g, g', x0, x1, x2, x3, x4, x5, y0, y1, y2, y3, y4, y5] <;> omega
  · simp only [g, x0, x1, x2, x3, x4, x5]; omega
  · simp only [g, x0, x1, x2, x3, x4, x5]; omega
  · simp only [g', y0, y1, y2, y3, y4, y5]; omega
  · simp only [g', y0, y1, y2, y3, y4, y5]; omega
theorem lies12 (x y : Int) : Lies x y (near x y 12) 12 := by
  have h := round_spec ((ax x y).mul (betaN (12 - 12)).conj) (d := 2340 * 7 ^ (12 - 12)) (by decide)
  have e : (betaN (12 - 12)).conj = ⟨1, 0⟩ := by decide
  have ed : (2340 * 7 ^ (12 - 12) : Int) = 2340 := by decide
  have eb : betaN (12 - 12) = ⟨1, 0⟩ := by decide
  unfold near
  generalize Ei.round _ _ = q at *
  rw [e, ed] at h
  have ex : cx q 12 = 52 * (1 * q.a - 0 * q.b) + 26 * (1 * q.b + 0 * q.a + 0 * q.b) := by simp only [cx, eb, Ei.mul]
  have ey : cy q 12 = 45 * (1 * q.b + 0 * q.a + 0 * q.b) := by simp only [cy, eb, Ei.mul]
  have x0 : kx 12 0 = 78 := by decide
  have y0 : ky 12 0 = 45 := by decide
  have x1 : kx 12 1 = 0 := by decide
  have y1 : ky 12 1 = 90 := by decide
  have x2 : kx 12 2 = -78 := by decide
  have y2 : ky 12 2 = 45 := by decide
  have x3 : kx 12 3 = -78 := by decide
  have y3 : ky 12 3 = -45 := by decide
  have x4 : kx 12 4 = 0 := by decide
  have y4 : ky 12 4 = -90 := by decide
  have x5 : kx 12 5 = 78 := by decide
  have y5 : ky 12 5 = -45 := by decide
  unfold holds at h
  simp only [Ei.mul, ax] at h
  have g : ∀ i, hx q 12 i = 3 * cx q 12 + kx 12 i := fun i => hx_eq q 12 i
  have g' : ∀ i, hy q 12 i = 3 * cy q 12 + ky 12 i := fun i => hy_eq q 12 i
  have h1 := h.1
  have h2 := h.2.1
  have h3 := h.2.2
  refine ⟨by omega, fun i hi => ?_, ⟨2, by decide, ?_⟩, ⟨0, by decide, ?_⟩, ⟨4, by decide, ?_⟩, ⟨1, by decide, ?_⟩⟩
  · rcases lt6 hi with rfl | rfl | rfl | rfl | rfl | rfl <;> simp only [crs, g, g', x0, x1, x2, x3, x4, x5, y0, y1, y2, y3, y4, y5] <;> omega
  · simp only [g, x0, x1, x2, x3, x4, x5]; omega
  · simp only [g, x0, x1, x2, x3, x4, x5]; omega
  · simp only [g', y0, y1, y2, y3, y4, y5]; omega
  · simp only [g', y0, y1, y2, y3, y4, y5]; omega
theorem lies (x y : Int) (r : Nat) (hr : r ≤ 12) : Lies x y (near x y r) r := by
  match r, hr with
  | 0, _ => exact lies0 x y
  | 1, _ => exact lies1 x y
  | 2, _ => exact lies2 x y
  | 3, _ => exact lies3 x y
  | 4, _ => exact lies4 x y
  | 5, _ => exact lies5 x y
  | 6, _ => exact lies6 x y
  | 7, _ => exact lies7 x y
  | 8, _ => exact lies8 x y
  | 9, _ => exact lies9 x y
  | 10, _ => exact lies10 x y
  | 11, _ => exact lies11 x y
  | 12, _ => exact lies12 x y
  | r + 13, h => omega
end Go.Ev


namespace Go.Ev
open Go
set_option linter.unusedSectionVars false
set_option linter.unnecessarySimpa false
set_option linter.unusedSimpArgs false
set_option linter.unusedVariables false
theorem lb {r : Nat} (hr : r ≤ 12) : (betaN (12 - r)).In 120000 := betaN_in _ (by omega)
def placeN (z : Ei) (r : Nat) (b : Int) : Ei := (betaN (12 - r)).mul ⟨b * z.a, b * z.b⟩
/-- A place in the plane. -/
def pnt (x y : Int) : RV := .agg [.v (.int .i64 x), .v (.int .i64 y)]
/-- A centre of which corners are made. -/
def cen (m b : Ei) : AV := .r (.agg [.v (.int .i64 m.a), .v (.int .i64 m.b), .v (.int .i64 b.a), .v (.int .i64 b.b)])
/-- A corner's place. -/
def hexP (z : Ei) (r i : Nat) : RV := pnt (hx z r i) (hy z r i)
def hexL (z : Ei) (r : Nat) (n : Nat) : List RV := (List.range n).map (hexP z r)
def vvL : List RV := [(vv 0).rv, (vv 1).rv, (vv 2).rv, (vv 3).rv, (vv 4).rv, (vv 5).rv]
end Go.Ev


namespace Go.Ev
open Go
set_option linter.unusedSectionVars false
set_option linter.unnecessarySimpa false
set_option linter.unusedSimpArgs false
set_option linter.unusedVariables false
noncomputable def cell_split_pc : PC :=
  (.seq (.reg [⟨(some 1), none, 0, .act (.box (.t 0))⟩,
    ⟨(some 2), none, 0, .act (.new [(.r (.v (.int .i64 0))), (.r (.v (.int .i64 0)))])⟩,
    ⟨(some 3), none, 0, .act (.new [(.r (.v (.int .i64 0))), (.r (.v (.int .i64 0)))])⟩])
  (.seq (.reg [⟨(some 11), none, 0, .see (.build [(.r (.v (.int .i64 0))), (.r (.v (.int .i64 0)))] [(0, 1, (.c (.r (.v (.int .i64 2))))), (1, 1, (.c (.r (.v (.int .i64 1)))))])⟩,
    ⟨(some 12), none, 1, .call 59 [(.t 11)]⟩,
    ⟨(some 10), none, 0, .see (.mov (.t 12))⟩,
    ⟨(some 13), none, 0, .see (.ext (.t 10) 0)⟩,
    ⟨(some 14), none, 0, .see (.ext (.t 10) 1)⟩,
    ⟨(some 4), none, 0, .act (.new [(.r (.v (.int .i64 0))), (.r (.v (.int .i64 0)))])⟩,
    ⟨none, none, 0, .act (.st 2 (.t 4) (.t 13))⟩,
    ⟨(some 5), none, 0, .see (.mov (.t 14))⟩])
  (.seq (.reg [⟨(some 16), none, 0, .see (.ld (some 2) (.t 1))⟩,
    ⟨(some 17), none, 0, .see (.ld (some 2) (.t 4))⟩,
    ⟨(some 18), none, 2, .call 61 [(.t 16), (.t 17)]⟩,
    ⟨(some 15), none, 0, .see (.mov (.t 18))⟩,
    ⟨(some 19), none, 0, .see (.ext (.t 15) 0)⟩,
    ⟨(some 20), none, 0, .see (.ext (.t 15) 1)⟩,
    ⟨(some 6), none, 0, .act (.new [(.r (.v (.int .i64 0))), (.r (.v (.int .i64 0)))])⟩,
    ⟨none, none, 0, .act (.st 2 (.t 6) (.t 19))⟩,
    ⟨(some 7), none, 0, .see (.mov (.t 20))⟩])
  (.seq (.reg [⟨(some 22), none, 0, .see (.ld (some 2) (.t 6))⟩,
    ⟨(some 23), none, 3, .call 62 [(.t 22), (.c (.r (.v (.int .i64 7))))]⟩,
    ⟨(some 21), none, 0, .see (.mov (.t 23))⟩,
    ⟨(some 24), none, 0, .see (.ext (.t 21) 0)⟩,
    ⟨(some 25), none, 0, .see (.ext (.t 21) 1)⟩,
    ⟨none, none, 0, .act (.st 2 (.t 2) (.t 24))⟩])
  (.seq (.reg [⟨(some 27), none, 0, .see (.ld (some 2) (.t 2))⟩,
    ⟨(some 28), none, 0, .see (.build [(.r (.v (.int .i64 0))), (.r (.v (.int .i64 0)))] [(0, 1, (.c (.r (.v (.int .i64 2))))), (1, 1, (.c (.r (.v (.int .i64 1)))))])⟩,
    ⟨(some 29), none, 4, .call 61 [(.t 27), (.t 28)]⟩,
    ⟨(some 26), none, 0, .see (.mov (.t 29))⟩,
    ⟨(some 30), none, 0, .see (.ext (.t 26) 0)⟩,
    ⟨(some 31), none, 0, .see (.ext (.t 26) 1)⟩,
    ⟨(some 8), none, 0, .act (.new [(.r (.v (.int .i64 0))), (.r (.v (.int .i64 0)))])⟩,
    ⟨none, none, 0, .act (.st 2 (.t 8) (.t 30))⟩,
    ⟨(some 9), none, 0, .see (.mov (.t 31))⟩])
  (.seq (.reg [⟨(some 33), none, 0, .see (.ld (some 2) (.t 1))⟩,
    ⟨(some 34), none, 0, .see (.ld (some 2) (.t 8))⟩,
    ⟨(some 35), none, 5, .call 82 [(.t 33), (.t 34)]⟩,
    ⟨(some 32), none, 0, .see (.mov (.t 35))⟩,
    ⟨(some 36), none, 0, .see (.ext (.t 32) 0)⟩,
    ⟨(some 37), none, 0, .see (.ext (.t 32) 1)⟩,
    ⟨none, none, 0, .act (.st 2 (.t 3) (.t 36))⟩])
  (.seq (.drw [⟨(some 38), none, 0, .see (.ld (some 2) (.t 2))⟩,
    ⟨(some 39), none, 0, .see (.ld (some 2) (.t 3))⟩,
    ⟨none, none, 0, .act (.st 2 (.t 2) (.t 38))⟩,
    ⟨none, none, 0, .act (.st 2 (.t 3) (.t 39))⟩]
    [[], [], [0], [0, 1, 2]])
  .ret)))))))
noncomputable abbrev cell_split_code : Code := (Go.Proofs.Try.f64.body).getD .skip
theorem cell_split_chk : chkC Go.Proofs.Try.prog 40 cell_split_code cell_split_pc = true := by kernel_rfl
theorem cell_split_triple {args : List AV} {po ro : List Ob} {res : AV} (hal : args.length = 1) (hpo : po.length ≤ 1000)
    (h : run Go.Proofs.Try.prog po.length (RetP po.length [(2, false, some (56, (some 2))), (3, false, some (56, (some 2)))] fun v os => v = res ∧ os = ro) [.c cell_split_pc] ⟨argE 0 args, ob0 po⟩) : Triple Go.Proofs.Try.prog 64 args po res ro :=
  triple_of_W (fn := Go.Proofs.Try.f64) (c := cell_split_code) (pc := cell_split_pc) (rs := [(2, false, some (56, (some 2))), (3, false, some (56, (some 2)))]) Go.Proofs.Try.func64 rfl (by decide) (by have := cell_split_chk; exact this) (by rw [hal]; decide) rfl (by kernel_rfl) (by kernel_rfl) (by decide) hpo (W_of_run h)

noncomputable def cell_shape_pc : PC :=
  (.seq (.reg [⟨(some 1), none, 0, .act (.box (.t 0))⟩,
    ⟨(some 2), none, 0, .see (.mov (.c (.r (.v (.bool false)))))⟩])
  (.seq (.reg [⟨(some 3), none, 0, .see (.fa 0 (.t 1))⟩,
    ⟨(some 4), none, 0, .see (.ld none (.t 3))⟩,
    ⟨(some 5), none, 0, .see (.bin .geq (.t 4) (.c (.r (.v (.int .i64 0)))))⟩,
    ⟨(some 6), none, 0, .see (.mov (.t 5))⟩,
    ⟨(some 7), (some (6, true)), 0, .see (.fa 0 (.t 1))⟩,
    ⟨(some 8), (some (6, true)), 0, .see (.ld none (.t 7))⟩,
    ⟨(some 9), (some (6, true)), 0, .see (.bin .leq (.t 8) (.c (.r (.v (.int .i64 12)))))⟩,
    ⟨(some 10), none, 0, .see (.pick (.t 6) (.t 9) (.c (.r (.v (.bool false)))))⟩,
    ⟨(some 11), none, 0, .see (.mov (.t 10))⟩,
    ⟨(some 12), (some (11, true)), 0, .see (.fa 1 (.t 1))⟩,
    ⟨(some 13), (some (11, true)), 0, .see (.fa 0 (.t 12))⟩,
    ⟨(some 14), (some (11, true)), 0, .see (.ld none (.t 13))⟩,
    ⟨(some 15), (some (11, true)), 1, .call 80 [(.t 14), (.c (.r (.v (.int .i64 1073741824))))]⟩,
    ⟨(some 16), none, 0, .see (.pick (.t 11) (.t 15) (.c (.r (.v (.bool false)))))⟩,
    ⟨(some 17), none, 0, .see (.mov (.t 16))⟩,
    ⟨(some 18), (some (17, true)), 0, .see (.fa 1 (.t 1))⟩,
    ⟨(some 19), (some (17, true)), 0, .see (.fa 1 (.t 18))⟩,
    ⟨(some 20), (some (17, true)), 0, .see (.ld none (.t 19))⟩,
    ⟨(some 21), (some (17, true)), 2, .call 80 [(.t 20), (.c (.r (.v (.int .i64 1073741824))))]⟩,
    ⟨(some 22), none, 0, .see (.pick (.t 17) (.t 21) (.c (.r (.v (.bool false)))))⟩,
    ⟨(some 2), none, 0, .see (.mov (.t 22))⟩])
  .ret))
noncomputable abbrev cell_shape_code : Code := (Go.Proofs.Try.f63.body).getD .skip
theorem cell_shape_chk : chkC Go.Proofs.Try.prog 23 cell_shape_code cell_shape_pc = true := by kernel_rfl
theorem cell_shape_triple {args : List AV} {po ro : List Ob} {res : AV} (hal : args.length = 1) (hpo : po.length ≤ 1000)
    (h : run Go.Proofs.Try.prog po.length (RetP po.length [(2, false, none)] fun v os => v = res ∧ os = ro) [.c cell_shape_pc] ⟨argE 0 args, ob0 po⟩) : Triple Go.Proofs.Try.prog 63 args po res ro :=
  triple_of_W (fn := Go.Proofs.Try.f63) (c := cell_shape_code) (pc := cell_shape_pc) (rs := [(2, false, none)]) Go.Proofs.Try.func63 rfl (by decide) (by have := cell_shape_chk; exact this) (by rw [hal]; decide) rfl (by kernel_rfl) (by kernel_rfl) (by decide) hpo (W_of_run h)

noncomputable def cell_digit_pc : PC :=
  (.seq (.reg [⟨(some 1), none, 0, .act (.box (.t 0))⟩,
    ⟨(some 2), none, 0, .see (.mov (.c (.r (.v (.int .i64 0)))))⟩])
  (.seq (.seq (.reg [⟨(some 4), none, 0, .see (.mov (.c (.r (.v (.int .i64 0)))))⟩])
  (.block 0 (.loop (.seq (.reg [⟨(some 5), none, 0, .see (.bin .lss (.t 4) (.c (.r (.v (.int .i64 6)))))⟩])
  (.seq (.cond (.t 5)
    .skip
    (.exit 0))
  (.seq (.block 1 (.seq (.reg [⟨(some 6), none, 0, .see (.mov (.t 4))⟩,
    ⟨(some 3), none, 0, .see (.mov (.t 6))⟩])
  (.seq (.drw [⟨(some 7), none, 0, .see (.mov (.t 3))⟩,
    ⟨(some 8), none, 1, .call 83 [(.t 7)]⟩,
    ⟨(some 9), none, 0, .see (.ld (some 2) (.t 1))⟩,
    ⟨(some 10), none, 0, .see (.eqa false [0, 0] (.t 8) (.t 9))⟩]
    [[], [0], [], [0, 1, 2]])
  (.cond (.t 10)
    (.seq (.reg [⟨(some 11), none, 0, .see (.mov (.t 3))⟩,
    ⟨(some 12), none, 0, .see (.bin .add (.t 11) (.c (.r (.v (.int .i64 1)))))⟩,
    ⟨(some 2), none, 0, .see (.mov (.t 12))⟩])
    .ret)
    .skip))))
  (.reg [⟨(some 13), none, 0, .see (.bin .add (.t 4) (.c (.r (.v (.int .i64 1)))))⟩,
    ⟨(some 4), none, 0, .see (.mov (.t 13))⟩])))))))
  (.seq (.reg [⟨(some 2), none, 0, .see (.mov (.c (.r (.v (.int .i64 0)))))⟩])
  .ret)))
noncomputable abbrev cell_digit_code : Code := (Go.Proofs.Try.f65.body).getD .skip
theorem cell_digit_chk : chkC Go.Proofs.Try.prog 14 cell_digit_code cell_digit_pc = true := by kernel_rfl
theorem cell_digit_triple {args : List AV} {po ro : List Ob} {res : AV} (hal : args.length = 1) (hpo : po.length ≤ 1000)
    (h : run Go.Proofs.Try.prog po.length (RetP po.length [(2, false, none)] fun v os => v = res ∧ os = ro) [.c cell_digit_pc] ⟨argE 0 args, ob0 po⟩) : Triple Go.Proofs.Try.prog 65 args po res ro :=
  triple_of_W (fn := Go.Proofs.Try.f65) (c := cell_digit_code) (pc := cell_digit_pc) (rs := [(2, false, none)]) Go.Proofs.Try.func65 rfl (by decide) (by have := cell_digit_chk; exact this) (by rw [hal]; decide) rfl (by kernel_rfl) (by kernel_rfl) (by decide) hpo (W_of_run h)

noncomputable def cell_Way_1_pc : PC :=
  (.seq (.reg [⟨(some 2), none, 0, .see (.mov (.c (.r (.v (.bool false)))))⟩])
  (.seq (.reg [⟨(some 3), none, 0, .see (.mov (.t 0))⟩,
    ⟨(some 4), none, 0, .see (.bin .geq (.t 3) (.c (.r (.v (.int .i64 (-512))))))⟩,
    ⟨(some 5), none, 0, .see (.mov (.t 4))⟩,
    ⟨(some 6), (some (5, true)), 0, .see (.mov (.t 0))⟩,
    ⟨(some 7), (some (5, true)), 0, .see (.bin .lss (.t 6) (.c (.r (.v (.int .i64 512)))))⟩,
    ⟨(some 8), none, 0, .see (.pick (.t 5) (.t 7) (.c (.r (.v (.bool false)))))⟩,
    ⟨(some 2), none, 0, .see (.mov (.t 8))⟩])
  .ret))
noncomputable abbrev cell_Way_1_code : Code := (Go.Proofs.Try.f66.body).getD .skip
theorem cell_Way_1_chk : chkC Go.Proofs.Try.prog 9 cell_Way_1_code cell_Way_1_pc = true := by kernel_rfl
theorem cell_Way_1_triple {args : List AV} {po ro : List Ob} {res : AV} (hal : args.length = 1) (hpo : po.length ≤ 1000)
    (h : run Go.Proofs.Try.prog po.length (RetP po.length [(2, false, none)] fun v os => v = res ∧ os = ro) [.c cell_Way_1_pc] ⟨argE 0 args, ob0 po⟩) : Triple Go.Proofs.Try.prog 66 args po res ro :=
  triple_of_W (fn := Go.Proofs.Try.f66) (c := cell_Way_1_code) (pc := cell_Way_1_pc) (rs := [(2, false, none)]) Go.Proofs.Try.func66 rfl (by decide) (by have := cell_Way_1_chk; exact this) (by rw [hal]; decide) rfl (by kernel_rfl) (by kernel_rfl) (by decide) hpo (W_of_run h)

noncomputable def cell_Way_pc : PC :=
  (.seq (.reg [⟨(some 1), none, 0, .act (.box (.t 0))⟩,
    ⟨(some 2), none, 0, .act (.new [(.r (.v (.int .i64 0))), (.r (.v (.int .i64 0)))])⟩,
    ⟨(some 3), none, 0, .act (.new [(.r (.v (.int .i64 0))), (.r (.v (.int .i64 0))), (.r (.v (.int .i64 0))), (.r (.v (.int .i64 0))), (.r (.v (.int .i64 0))), (.r (.v (.int .i64 0))), (.r (.v (.int .i64 0))), (.r (.v (.int .i64 0))), (.r (.v (.int .i64 0))), (.r (.v (.int .i64 0))), (.r (.v (.int .i64 0))), (.r (.v (.int .i64 0))), (.r (.v (.int .i64 0)))])⟩,
    ⟨(some 4), none, 0, .see (.mov (.c (.r (.v (.bool false)))))⟩])
  (.seq (.seq (.reg [⟨(some 10), none, 0, .see (.ld (some 3) (.t 1))⟩,
    ⟨(some 11), none, 1, .call 63 [(.t 10)]⟩,
    ⟨(some 12), none, 0, .see (.un .not (.t 11))⟩])
  (.cond (.t 12)
    (.seq (.drw [⟨(some 13), none, 0, .see (.ld (some 2) (.t 2))⟩,
    ⟨(some 14), none, 0, .see (.ld (some 13) (.t 3))⟩,
    ⟨none, none, 0, .act (.st 2 (.t 2) (.t 13))⟩,
    ⟨none, none, 0, .act (.st 13 (.t 3) (.t 14))⟩,
    ⟨(some 4), none, 0, .see (.mov (.c (.r (.v (.bool false)))))⟩]
    [[], [], [0], [0, 1, 2], [0, 1, 2, 3]])
    .ret)
    .skip))
  (.seq (.reg [⟨(some 15), none, 0, .see (.fa 1 (.t 1))⟩,
    ⟨(some 16), none, 0, .see (.ld (some 2) (.t 15))⟩,
    ⟨(some 5), none, 0, .act (.new [(.r (.v (.int .i64 0))), (.r (.v (.int .i64 0)))])⟩,
    ⟨none, none, 0, .act (.st 2 (.t 5) (.t 16))⟩])
  (.seq (.seq (.reg [⟨(some 17), none, 0, .see (.fa 0 (.t 1))⟩,
    ⟨(some 18), none, 0, .see (.ld none (.t 17))⟩,
    ⟨(some 6), none, 0, .see (.mov (.t 18))⟩])
  (.block 0 (.loop (.seq (.seq (.reg [⟨(some 19), none, 0, .see (.mov (.t 6))⟩,
    ⟨(some 20), none, 0, .see (.bin .gtr (.t 19) (.c (.r (.v (.int .i64 0)))))⟩])
  (.cond (.t 20)
    .skip
    (.exit 0)))
  (.seq (.block 1 (.seq (.reg [⟨(some 24), none, 0, .see (.ld (some 2) (.t 5))⟩,
    ⟨(some 25), none, 2, .call 64 [(.t 24)]⟩,
    ⟨(some 23), none, 0, .see (.mov (.t 25))⟩,
    ⟨(some 26), none, 0, .see (.ext (.t 23) 0)⟩,
    ⟨(some 27), none, 0, .see (.ext (.t 23) 1)⟩,
    ⟨(some 7), none, 0, .act (.new [(.r (.v (.int .i64 0))), (.r (.v (.int .i64 0)))])⟩,
    ⟨(some 8), none, 0, .act (.new [(.r (.v (.int .i64 0))), (.r (.v (.int .i64 0)))])⟩,
    ⟨none, none, 0, .act (.st 2 (.t 7) (.t 26))⟩,
    ⟨none, none, 0, .act (.st 2 (.t 8) (.t 27))⟩])
  (.drw [⟨(some 28), none, 0, .see (.mov (.t 6))⟩,
    ⟨(some 29), none, 0, .see (.ld (some 2) (.t 8))⟩,
    ⟨(some 30), none, 3, .call 65 [(.t 29)]⟩,
    ⟨(some 31), none, 0, .see (.ld (some 2) (.t 7))⟩,
    ⟨(some 32), none, 0, .see (.iaa 13 1 (.t 3) (.t 28))⟩,
    ⟨none, none, 0, .act (.st 1 (.t 32) (.t 30))⟩,
    ⟨none, none, 0, .act (.st 2 (.t 5) (.t 31))⟩]
    [[], [], [1], [], [0, 1, 2], [0, 1, 2, 4], [0, 1, 2, 3, 4, 5]])))
  (.reg [⟨(some 21), none, 0, .see (.mov (.t 6))⟩,
    ⟨(some 22), none, 0, .see (.bin .sub (.t 21) (.c (.r (.v (.int .i64 1)))))⟩,
    ⟨(some 6), none, 0, .see (.mov (.t 22))⟩]))))))
  (.seq (.reg [⟨(some 9), none, 0, .see (.mov (.c (.fn (.func 66) [])))⟩])
  (.seq (.drw [⟨(some 33), none, 0, .see (.ld (some 2) (.t 5))⟩,
    ⟨(some 34), none, 0, .see (.ld (some 13) (.t 3))⟩,
    ⟨(some 35), none, 0, .see (.mov (.t 9))⟩,
    ⟨(some 36), none, 0, .see (.fa 0 (.t 5))⟩,
    ⟨(some 37), none, 0, .see (.ld none (.t 36))⟩,
    ⟨(some 38), none, 4, .callv (.t 35) [(.t 37)]⟩,
    ⟨(some 39), none, 0, .see (.mov (.t 38))⟩,
    ⟨(some 40), (some (39, true)), 0, .see (.mov (.t 9))⟩,
    ⟨(some 41), (some (39, true)), 0, .see (.fa 1 (.t 5))⟩,
    ⟨(some 42), (some (39, true)), 0, .see (.ld none (.t 41))⟩,
    ⟨(some 43), (some (39, true)), 5, .callv (.t 40) [(.t 42)]⟩,
    ⟨(some 44), none, 0, .see (.pick (.t 39) (.t 43) (.c (.r (.v (.bool false)))))⟩,
    ⟨none, none, 0, .act (.st 2 (.t 2) (.t 33))⟩,
    ⟨none, none, 0, .act (.st 13 (.t 3) (.t 34))⟩,
    ⟨(some 4), none, 0, .see (.mov (.t 44))⟩]
    [[], [], [], [], [3], [2, 3, 4], [2, 3, 4, 5], [2, 3, 4, 5, 6], [2, 3, 4, 5, 6], [2, 3, 4, 5, 6, 8], [2, 3, 4, 5, 6, 7, 8, 9], [2, 3, 4, 5, 6, 7, 8, 9, 10], [0, 2, 3, 4, 5, 6, 7, 8, 9, 10], [0, 1, 2, 3, 4, 5, 6, 7, 8, 9, 10, 12], [0, 1, 2, 3, 4, 5, 6, 7, 8, 9, 10, 11, 12, 13]])
  .ret))))))
noncomputable abbrev cell_Way_code : Code := (Go.Proofs.Try.f45.body).getD .skip
theorem cell_Way_chk : chkC Go.Proofs.Try.prog 45 cell_Way_code cell_Way_pc = true := by kernel_rfl
theorem cell_Way_triple {args : List AV} {po ro : List Ob} {res : AV} (hal : args.length = 1) (hpo : po.length ≤ 1000)
    (h : run Go.Proofs.Try.prog po.length (RetP po.length [(2, false, some (56, (some 2))), (3, false, some (89, (some 13))), (4, false, none)] fun v os => v = res ∧ os = ro) [.c cell_Way_pc] ⟨argE 0 args, ob0 po⟩) : Triple Go.Proofs.Try.prog 45 args po res ro :=
  triple_of_W (fn := Go.Proofs.Try.f45) (c := cell_Way_code) (pc := cell_Way_pc) (rs := [(2, false, some (56, (some 2))), (3, false, some (89, (some 13))), (4, false, none)]) Go.Proofs.Try.func45 rfl (by decide) (by have := cell_Way_chk; exact this) (by rw [hal]; decide) rfl (by kernel_rfl) (by kernel_rfl) (by decide) hpo (W_of_run h)

noncomputable def cell_Of_pc : PC :=
  (.seq (.reg [⟨(some 6), none, 0, .act (.new [(.r (.v (.int .i64 0))), (.r (.v (.int .i64 0))), (.r (.v (.int .i64 0)))])⟩,
    ⟨(some 7), none, 0, .see (.mov (.c (.r (.v (.int .i64 0)))))⟩])
  (.seq (.seq (.reg [⟨(some 10), none, 0, .see (.mov (.t 0))⟩,
    ⟨(some 11), none, 0, .see (.mov (.t 1))⟩,
    ⟨(some 12), none, 1, .call 43 [(.t 10), (.t 11)]⟩,
    ⟨(some 13), none, 0, .see (.un .not (.t 12))⟩])
  (.cond (.t 13)
    (.seq (.reg [⟨(some 14), none, 0, .see (.build [(.r (.v (.int .i64 0))), (.r (.v (.int .i64 0))), (.r (.v (.int .i64 0)))] [])⟩,
    ⟨none, none, 0, .act (.st 3 (.t 6) (.t 14))⟩,
    ⟨(some 7), none, 0, .see (.mov (.c (.r (.v (.int .i64 4)))))⟩])
    .ret)
    .skip))
  (.seq (.reg [⟨(some 16), none, 0, .see (.mov (.t 0))⟩,
    ⟨(some 17), none, 0, .see (.mov (.t 1))⟩,
    ⟨(some 18), none, 0, .see (.mov (.t 2))⟩,
    ⟨(some 19), none, 2, .call 44 [(.t 16), (.t 17), (.t 18)]⟩,
    ⟨(some 15), none, 0, .see (.mov (.t 19))⟩,
    ⟨(some 20), none, 0, .see (.ext (.t 15) 0)⟩,
    ⟨(some 21), none, 0, .see (.ext (.t 15) 1)⟩,
    ⟨(some 8), none, 0, .act (.new [(.r (.v (.int .i64 0))), (.r (.v (.int .i64 0)))])⟩,
    ⟨none, none, 0, .act (.st 2 (.t 8) (.t 20))⟩,
    ⟨(some 9), none, 0, .see (.mov (.t 21))⟩])
  (.seq (.seq (.reg [⟨(some 22), none, 0, .see (.mov (.t 9))⟩,
    ⟨(some 23), none, 0, .see (.un .not (.t 22))⟩])
  (.cond (.t 23)
    (.seq (.reg [⟨(some 24), none, 0, .see (.build [(.r (.v (.int .i64 0))), (.r (.v (.int .i64 0))), (.r (.v (.int .i64 0)))] [])⟩,
    ⟨none, none, 0, .act (.st 3 (.t 6) (.t 24))⟩,
    ⟨(some 7), none, 0, .see (.mov (.c (.r (.v (.int .i64 1)))))⟩])
    .ret)
    .skip))
  (.seq (.reg [⟨(some 25), none, 0, .see (.mov (.t 2))⟩,
    ⟨(some 26), none, 0, .see (.ld (some 2) (.t 8))⟩,
    ⟨(some 27), none, 0, .see (.build [(.r (.v (.int .i64 0))), (.r (.v (.int .i64 0))), (.r (.v (.int .i64 0)))] [(0, 1, (.t 25)), (1, 2, (.t 26))])⟩,
    ⟨none, none, 0, .act (.st 3 (.t 6) (.t 27))⟩,
    ⟨(some 7), none, 0, .see (.mov (.c (.r (.v (.int .i64 0)))))⟩])
  .ret)))))
noncomputable abbrev cell_Of_code : Code := (Go.Proofs.Try.f28.body).getD .skip
theorem cell_Of_chk : chkC Go.Proofs.Try.prog 28 cell_Of_code cell_Of_pc = true := by kernel_rfl
theorem cell_Of_triple {args : List AV} {po ro : List Ob} {res : AV} (hal : args.length = 3) (hpo : po.length ≤ 1000)
    (h : run Go.Proofs.Try.prog po.length (RetP po.length [(6, false, some (62, (some 3))), (7, false, none)] fun v os => v = res ∧ os = ro) [.c cell_Of_pc] ⟨argE 0 args, ob0 po⟩) : Triple Go.Proofs.Try.prog 28 args po res ro :=
  triple_of_W (fn := Go.Proofs.Try.f28) (c := cell_Of_code) (pc := cell_Of_pc) (rs := [(6, false, some (62, (some 3))), (7, false, none)]) Go.Proofs.Try.func28 rfl (by decide) (by have := cell_Of_chk; exact this) (by rw [hal]; decide) rfl (by kernel_rfl) (by kernel_rfl) (by decide) hpo (W_of_run h)

theorem pr_In {z : Ei} {n : Int} (h : z.In n) (h1 : 2 ≤ n) : (pr z).In n := by
  obtain ⟨l, _, g1, e1, f1⟩ := pr_spec z
  generalize pr z = q at *
  unfold Ei.H at g1
  unfold Ei.In at *
  omega
theorem anc_In {z : Ei} {n : Int} (k : Nat) (h : z.In n) (h1 : 2 ≤ n) : (anc k z).In n := by
  induction k generalizing z with
  | zero => exact h
  | succ k ih => exact ih (pr_In h h1)
theorem lft_In (z : Ei) : (lft z).In 1 := by
  obtain ⟨l, e, g1, _⟩ := pr_spec z
  rw [e]
  exact g1.in
set_option maxRecDepth 100000 in
theorem split_t (z : Ei) (h : z.In 1073741824) : Triple Go.Proofs.Try.prog 64 [z.v] [] (.tup [(pr z).v, (lft z).v]) [] := by
  refine cell_split_triple rfl (by decide) ?_
  simp only [cell_split_pc, Ei.v, Ei.rv, List.length_nil, push_cast, ↓reduceIte, reduceCtorEq, Nat.reduceBEq, Nat.reduceEqDiff, Nat.reduceAdd, Nat.reduceSub, Nat.reduceLT, Nat.reduceLeDiff, Nat.reduceMul]
  refine call_as (as' := [beta.v]) rfl ?_
  refine call_mk (econj_t beta (by unfold Ei.In; decide)) rfl trivial ?_
  simp only [Ei.v, Ei.rv, push_cast, ↓reduceIte, reduceCtorEq, Nat.reduceBEq, Nat.reduceEqDiff, Nat.reduceAdd, Nat.reduceSub, Nat.reduceLT, Nat.reduceLeDiff, Nat.reduceMul]
  have h1 : (z.mul ⟨3, -1⟩).In 9663676416 := (mul_In h (show (⟨3, -1⟩ : Ei).In 3 by unfold Ei.In; decide)).mono (by decide)
  refine call_as (as' := [z.v, Ei.v ⟨3, -1⟩]) rfl ?_
  refine call_mk (emul_t _ _ (h.mono (by decide)) (show (⟨3, -1⟩ : Ei).In _ by unfold Ei.In; decide) (h1.mono (by decide))) rfl trivial ?_
  simp only [Ei.v, Ei.rv, push_cast, ↓reduceIte, reduceCtorEq, Nat.reduceBEq, Nat.reduceEqDiff, Nat.reduceAdd, Nat.reduceSub, Nat.reduceLT, Nat.reduceLeDiff, Nat.reduceMul]
  refine call_as (as' := [(z.mul ⟨3, -1⟩).v, int .i64 7]) rfl ?_
  refine call_mk (eround_t _ 7 (h1.mono (by decide)) (by decide)) rfl trivial ?_
  rw [show (z.mul ⟨3, -1⟩).round 7 = pr z from rfl]
  have h2 : (pr z).In 1073741824 := pr_In h (by decide)
  have h3 : ((pr z).mul beta).In 6442450944 := (mul_In h2 (show beta.In 2 by unfold Ei.In; decide)).mono (by decide)
  simp only [Ei.v, Ei.rv, push_cast, ↓reduceIte, reduceCtorEq, Nat.reduceBEq, Nat.reduceEqDiff, Nat.reduceAdd, Nat.reduceSub, Nat.reduceLT, Nat.reduceLeDiff, Nat.reduceMul]
  refine call_as (as' := [(pr z).v, beta.v]) rfl ?_
  refine call_mk (emul_t _ _ (h2.mono (by decide)) (show beta.In _ by unfold Ei.In; decide) (h3.mono (by decide))) rfl trivial ?_
  simp only [Ei.v, Ei.rv, push_cast, ↓reduceIte, reduceCtorEq, Nat.reduceBEq, Nat.reduceEqDiff, Nat.reduceAdd, Nat.reduceSub, Nat.reduceLT, Nat.reduceLeDiff, Nat.reduceMul]
  refine call_as (as' := [z.v, ((pr z).mul beta).v]) rfl ?_
  refine call_mk (esub_t _ _ (h.mono (by decide)) (h3.mono (by decide)) ((lft_In z).mono (by decide))) rfl trivial ?_
  rw [show z.sub ((pr z).mul beta) = lft z from rfl]
  simp only [Ei.v, Ei.rv, push_cast, ↓reduceIte, reduceCtorEq, Nat.reduceBEq, Nat.reduceEqDiff, Nat.reduceAdd, Nat.reduceSub, Nat.reduceLT, Nat.reduceLeDiff, Nat.reduceMul]
  kernel_rfl
/-- A cell. -/
def cel (r : Int) (z : Ei) : AV := .r (.agg [.v (.int .i64 r), .v (.int .i64 z.a), .v (.int .i64 z.b)])
instance (z : Ei) (n : Int) : Decidable (z.In n) := inferInstanceAs (Decidable (_ ∧ _))
def shapeB (r : Int) (z : Ei) : Bool := decide ((0 ≤ r ∧ r ≤ 12) ∧ z.In 1073741824)
set_option maxRecDepth 100000 in
theorem shape_t (r : Int) (z : Ei) (hz : z.In M63) : Triple Go.Proofs.Try.prog 63 [cel r z] [] (bl (shapeB r z)) [] := by
  refine cell_shape_triple rfl (by decide) ?_
  simp only [cell_shape_pc, cel, List.length_nil, push_cast, ↓reduceIte, reduceCtorEq, Nat.reduceBEq, Nat.reduceEqDiff, Nat.reduceAdd, Nat.reduceSub, Nat.reduceLT, Nat.reduceLeDiff, Nat.reduceMul]
  by_cases h1 : 0 ≤ r
  · by_cases h2 : r ≤ 12
    · have g1 : decide (r ≥ 0) = true := by simp; omega
      have g2 : decide (r ≤ 12) = true := by simp; omega
      simp only [g1, g2, push_cast, ↓reduceIte, reduceCtorEq, Nat.reduceBEq, Nat.reduceEqDiff, Nat.reduceAdd, Nat.reduceSub, Nat.reduceLT, Nat.reduceLeDiff, Nat.reduceMul]
      refine call_mk (within_t _ _ hz.ok.1 (by decide)) rfl trivial ?_
      by_cases h3 : -1073741824 ≤ z.a ∧ z.a ≤ 1073741824
      · rw [decide_eq_true h3]
        simp only [push_cast, ↓reduceIte, reduceCtorEq, Nat.reduceBEq, Nat.reduceEqDiff, Nat.reduceAdd, Nat.reduceSub, Nat.reduceLT, Nat.reduceLeDiff, Nat.reduceMul]
        refine call_mk (within_t _ _ hz.ok.2 (by decide)) rfl trivial ?_
        simp only [push_cast, ↓reduceIte, reduceCtorEq, Nat.reduceBEq, Nat.reduceEqDiff, Nat.reduceAdd, Nat.reduceSub, Nat.reduceLT, Nat.reduceLeDiff, Nat.reduceMul]
        refine bl_iff ?_
        simp [shapeB, Ei.In, h1, h2, h3.1, h3.2]
      · rw [decide_eq_false h3]
        simp only [push_cast, ↓reduceIte, reduceCtorEq, Nat.reduceBEq, Nat.reduceEqDiff, Nat.reduceAdd, Nat.reduceSub, Nat.reduceLT, Nat.reduceLeDiff, Nat.reduceMul]
        have : shapeB r z = false := by simp only [shapeB, Ei.In]; exact decide_eq_false fun c => h3 c.2.1
        rw [this]
    · have g1 : decide (r ≥ 0) = true := by simp; omega
      have g2 : decide (r ≤ 12) = false := by simp; omega
      simp only [g1, g2, push_cast, ↓reduceIte, reduceCtorEq, Nat.reduceBEq, Nat.reduceEqDiff, Nat.reduceAdd, Nat.reduceSub, Nat.reduceLT, Nat.reduceLeDiff, Nat.reduceMul]
      have : shapeB r z = false := by simp only [shapeB, decide_eq_false_iff_not]; omega
      rw [this]
  · have g1 : decide (r ≥ 0) = false := by simp; omega
    simp only [g1, push_cast, ↓reduceIte, reduceCtorEq, Nat.reduceBEq, Nat.reduceEqDiff, Nat.reduceAdd, Nat.reduceSub, Nat.reduceLT, Nat.reduceLeDiff, Nat.reduceMul]
    have : shapeB r z = false := by simp only [shapeB, decide_eq_false_iff_not]; omega
    rw [this]
theorem dgOf_uni (i : Nat) (h : i < 6) : dgOf (uni i) = i + 1 := by
  rcases lt6 h with rfl | rfl | rfl | rfl | rfl | rfl <;> decide
theorem dgOf_no (l : Ei) (h : ∀ j : Nat, j < 6 → uni j ≠ l) : dgOf l = 0 := by
  have h0 := h 0 (by decide); have h1 := h 1 (by decide); have h2 := h 2 (by decide); have h3 := h 3 (by decide); have h4 := h 4 (by decide); have h5 := h 5 (by decide)
  unfold dgOf
  rw [if_neg (show ¬ l = ⟨1, 0⟩ from Ne.symm h0), if_neg (show ¬ l = ⟨0, 1⟩ from Ne.symm h1), if_neg (show ¬ l = ⟨-1, 1⟩ from Ne.symm h2), if_neg (show ¬ l = ⟨-1, 0⟩ from Ne.symm h3), if_neg (show ¬ l = ⟨0, -1⟩ from Ne.symm h4), if_neg (show ¬ l = ⟨1, -1⟩ from Ne.symm h5)]
set_option maxRecDepth 100000 in
theorem digit_t (l : Ei) : Triple Go.Proofs.Try.prog 65 [l.v] [] (int .i64 (dgOf l)) [] := by
  refine cell_digit_triple rfl (by decide) ?_
  simp only [cell_digit_pc, Ei.v, Ei.rv, List.length_nil, push_cast, ↓reduceIte, reduceCtorEq, Nat.reduceBEq, Nat.reduceEqDiff, Nat.reduceAdd, Nat.reduceSub, Nat.reduceLT, Nat.reduceLeDiff, Nat.reduceMul]
  refine run_loop [(4, false), (1, false)] (fun vs pos los => ∃ i : Int, (0 ≤ i ∧ i ≤ 6) ∧ (∀ j : Nat, (j : Int) < i → uni j ≠ l) ∧ vs = [int .i64 i, .ptr 2000000 0 0] ∧ pos = [] ∧ los = [.box [int .i64 l.a, int .i64 l.b]])
    (fun vs _ _ => match vs with | .r (.v (.int _ j)) :: _ => (6 - j).toNat | _ => 0) rfl ?_ ?_
  · simp only [push_cast, ↓reduceIte, reduceCtorEq, Nat.reduceBEq, Nat.reduceEqDiff, Nat.reduceAdd, Nat.reduceSub, Nat.reduceLT, Nat.reduceLeDiff, Nat.reduceMul]
    exact ⟨0, by omega, fun j hj => by omega, rfl⟩
  · rintro vs pos los ⟨i, i6, hj, rfl, rfl, rfl⟩
    simp only [push_cast, ↓reduceIte, reduceCtorEq, Nat.reduceBEq, Nat.reduceEqDiff, Nat.reduceAdd, Nat.reduceSub, Nat.reduceLT, Nat.reduceLeDiff, Nat.reduceMul]
    refine cnd_mk (fun h => ?_) (fun h => ?_)
    · simp only [decide_eq_true_eq] at h
      simp only [push_cast, ↓reduceIte, reduceCtorEq, Nat.reduceBEq, Nat.reduceEqDiff, Nat.reduceAdd, Nat.reduceSub, Nat.reduceLT, Nat.reduceLeDiff, Nat.reduceMul]
      refine dcall_mk (eunit_t i ⟨i6.1, h⟩) rfl trivial ?_
      simp only [Ei.v, Ei.rv, push_cast, ↓reduceIte, reduceCtorEq, Nat.reduceBEq, Nat.reduceEqDiff, Nat.reduceAdd, Nat.reduceSub, Nat.reduceLT, Nat.reduceLeDiff, Nat.reduceMul]
      refine ⟨by kernel_rfl, cnd_mk (fun h' => ?_) (fun h' => ?_)⟩
      · have e : uni i.toNat = l := by
          simp only [Bool.and_eq_true, beq_iff_eq] at h'
          exact Ei.ext' h'.1 h'.2
        simp only [push_cast, ↓reduceIte, reduceCtorEq, Nat.reduceBEq, Nat.reduceEqDiff, Nat.reduceAdd, Nat.reduceSub, Nat.reduceLT, Nat.reduceLeDiff, Nat.reduceMul]
        rw [← e, dgOf_uni _ (by omega), wrap_id (by omega), show ((i.toNat + 1 : Nat) : Int) = i + 1 by omega]
      · have e : uni i.toNat ≠ l := fun e => by rw [e] at h'; simp at h'
        simp only [push_cast, ↓reduceIte, reduceCtorEq, Nat.reduceBEq, Nat.reduceEqDiff, Nat.reduceAdd, Nat.reduceSub, Nat.reduceLT, Nat.reduceLeDiff, Nat.reduceMul]
        rw [wrap_id (by omega)]
        refine ⟨⟨i + 1, by omega, fun j hj' => ?_, rfl⟩, by omega⟩
        by_cases hji : (j : Int) = i
        · rw [show j = i.toNat by omega]; exact e
        · exact hj j (by omega)
    · have hi : i = 6 := by simp at h; omega
      subst hi
      simp only [push_cast, ↓reduceIte, reduceCtorEq, Nat.reduceBEq, Nat.reduceEqDiff, Nat.reduceAdd, Nat.reduceSub, Nat.reduceLT, Nat.reduceLeDiff, Nat.reduceMul]
      rw [dgOf_no l fun j h6 => hj j (by omega)]
      rfl
theorem in_t (n : Int) : Triple Go.Proofs.Try.prog 66 [int .i64 n] [] (bl (decide (-512 ≤ n ∧ n ≤ 511))) [] := by
  refine cell_Way_1_triple rfl (by decide) ?_
  simp only [cell_Way_1_pc, List.length_nil, push_cast, ↓reduceIte, reduceCtorEq, Nat.reduceBEq, Nat.reduceEqDiff, Nat.reduceAdd, Nat.reduceSub, Nat.reduceLT, Nat.reduceLeDiff, Nat.reduceMul]
  refine bl_iff ?_
  by_cases h1 : -512 ≤ n <;> by_cases h2 : n < 512 <;> simp [h1, h2] <;> omega
/-- The digits, from number i on. -/
def digs (r : Nat) (z : Ei) (i : Nat) : List AV := (List.range 13).map fun j => int .i64 (if i < j ∧ j ≤ r then (dg (anc (r - j) z) : Int) else 0)
theorem digs_len (r : Nat) (z : Ei) (i : Nat) : (digs r z i).length = 13 := by simp [digs]
theorem digs_zero (r : Nat) (z : Ei) : digs r z r = [int .i64 0, int .i64 0, int .i64 0, int .i64 0, int .i64 0, int .i64 0, int .i64 0, int .i64 0, int .i64 0, int .i64 0, int .i64 0, int .i64 0, int .i64 0] := by
  have : ∀ j, ¬ (r < j ∧ j ≤ r) := fun j => by omega
  simp only [digs, this, if_false]
  rfl
theorem digs_step (r : Nat) (z : Ei) (i : Nat) (h1 : 1 ≤ i) (h2 : i ≤ r) (hr : r ≤ 12) : splice (digs r z i) i [int .i64 (dg (anc (r - i) z))] = digs r z (i - 1) := by
  have hl := digs_len r z i
  apply List.ext_getElem
  · simp [splice, hl, digs_len]; omega
  · intro j j1 j2
    rw [digs_len] at j2
    have e : ∀ (k : Nat) (hk : k < (digs r z i).length), (digs r z i)[k] = int .i64 (if i < k ∧ k ≤ r then (dg (anc (r - k) z) : Int) else 0) := fun k hk => by simp [digs]
    have e' : ∀ (k : Nat) (hk : k < (digs r z (i - 1)).length), (digs r z (i - 1))[k] = int .i64 (if i - 1 < k ∧ k ≤ r then (dg (anc (r - k) z) : Int) else 0) := fun k hk => by simp [digs]
    rw [e']
    have hm : min i 13 = i := by omega
    simp only [splice, List.getElem_append, List.length_append, List.length_take, List.length_singleton, hl, List.getElem_take, List.getElem_drop, e, hm]
    by_cases c1 : j < i
    · rw [dif_pos (by omega), dif_pos c1, if_neg (by omega), if_neg (by omega)]
    · by_cases c2 : j = i
      · subst c2
        rw [dif_pos (by omega), dif_neg (by omega), if_pos (by omega)]
        simp
      · rw [dif_neg (by omega)]
        rw [show i + 1 + (j - (i + 1)) = j by omega]
        by_cases c3 : j ≤ r
        · rw [if_pos (by omega), if_pos (by omega)]
        · rw [if_neg (by omega), if_neg (by omega)]
theorem hidL_ints (f : Nat → Int) (l : List Nat) : hidL (l.map fun j => int .i64 (f j)) = [] := by
  induction l with
  | nil => rfl
  | cons a l ih => show hids _ ++ hidL _ = []; rw [ih]; rfl
theorem imL_ints (F : Ren) (f : Nat → Int) (l : List Nat) : imL F (l.map fun j => int .i64 (f j)) = l.map fun j => int .i64 (f j) := by
  induction l with
  | nil => rfl
  | cons a l ih => show imV F _ :: imL F _ = _; rw [ih]; rfl
theorem hidL_digs (r : Nat) (z : Ei) (i : Nat) : hidL (digs r z i) = [] := hidL_ints _ _
theorem imL_digs (F : Ren) (r : Nat) (z : Ei) (i : Nat) : imL F (digs r z i) = digs r z i := imL_ints F _ _
theorem take_digs (r : Nat) (z : Ei) (i : Nat) : List.take 13 (digs r z i) = digs r z i := List.take_of_length_le (by rw [digs_len]; exact Nat.le_refl _)
/-- The digits as values. -/
def digsR (r : Nat) (z : Ei) (i : Nat) : List RV := (List.range 13).map fun j => .v (.int .i64 (if i < j ∧ j ≤ r then (dg (anc (r - j) z) : Int) else 0))
theorem rvs_ints (ob : Obs) (f : Nat → Int) (l : List Nat) : rvs ob (l.map fun j => int .i64 (f j)) = some (l.map fun j => .v (.int .i64 (f j)), []) := by
  induction l with
  | nil => rfl
  | cons a l ih => show rvs ob (_ :: _) = _; simp only [rvs, AV.rv, ih]; rfl
theorem rvs_digs (ob : Obs) (r : Nat) (z : Ei) (i : Nat) : rvs ob (digs r z i) = some (digsR r z i, []) := rvs_ints ob _ _
theorem over_digs (r : Nat) (z : Ei) (i : Nat) : digs r z i ++ List.drop 13 (digs r z i) = digs r z i := by
  rw [List.drop_of_length_le (by rw [digs_len]; exact Nat.le_refl _), List.append_nil]
attribute [push_cast high] rvs_digs over_digs
attribute [push_cast high] hidL_digs imL_digs take_digs digs_len
theorem digs_put (r : Nat) (z : Ei) (i : Nat) (h1 : 1 ≤ i) (h2 : i ≤ r) (hr : r ≤ 12) : List.take (0 + i * 1) (digs r z i) ++ [int .i64 (dgOf (lft (anc (r - i) z)))] ++ List.drop (0 + i * 1 + 1) (digs r z i) = digs r z (i - 1) := by
  rw [← digs_step r z i h1 h2 hr, splice, Nat.mul_one, Nat.zero_add]
  rfl
def baseB (q : Ei) : Bool := decide ((-512 ≤ q.a ∧ q.a ≤ 511) ∧ (-512 ≤ q.b ∧ q.b ≤ 511))
set_option maxRecDepth 100000 in
theorem way_t (r : Int) (z : Ei) (h : shapeB r z = true) : Triple Go.Proofs.Try.prog 45 [cel r z] [] (.tup [(anc r.toNat z).v, .r (.agg (digsR r.toNat z 0)), bl (baseB (anc r.toNat z))]) [] := by
  refine cell_Way_triple rfl (by decide) ?_
  have h' := h
  simp only [shapeB, decide_eq_true_eq] at h'
  simp only [cell_Way_pc, cel, List.length_nil, push_cast, ↓reduceIte, reduceCtorEq, Nat.reduceBEq, Nat.reduceEqDiff, Nat.reduceAdd, Nat.reduceSub, Nat.reduceLT, Nat.reduceLeDiff, Nat.reduceMul]
  refine call_as (as' := [cel r z]) rfl ?_
  refine call_mk (shape_t r z (h'.2.mono (by decide))) rfl trivial ?_
  rw [h]
  simp only [push_cast, ↓reduceIte, reduceCtorEq, Nat.reduceBEq, Nat.reduceEqDiff, Nat.reduceAdd, Nat.reduceSub, Nat.reduceLT, Nat.reduceLeDiff, Nat.reduceMul]
  obtain ⟨⟨r0, r12⟩, hz⟩ := h'
  refine run_loop [(6, false), (5, false), (3, false), (2, false)] (fun vs pos los => ∃ i : Int, (0 ≤ i ∧ i ≤ r) ∧ vs = [int .i64 i, .ptr 2000000 0 0, .ptr 2000001 0 0, .ptr 2000002 0 0] ∧ pos = [] ∧ los = [.box [int .i64 (anc (r - i).toNat z).a, int .i64 (anc (r - i).toNat z).b], .box (digs r.toNat z i.toNat), .box [int .i64 0, int .i64 0]])
    (fun vs _ _ => match vs with | .r (.v (.int _ j)) :: _ => j.toNat | _ => 0) rfl ?_ ?_
  · simp only [push_cast, ↓reduceIte, reduceCtorEq, Nat.reduceBEq, Nat.reduceEqDiff, Nat.reduceAdd, Nat.reduceSub, Nat.reduceLT, Nat.reduceLeDiff, Nat.reduceMul]
    refine ⟨r, by omega, ?_⟩
    rw [digs_zero, Int.sub_self]
    exact ⟨rfl, rfl⟩
  · rintro vs pos los ⟨i, i6, rfl, rfl, rfl⟩
    simp only [push_cast, ↓reduceIte, reduceCtorEq, Nat.reduceBEq, Nat.reduceEqDiff, Nat.reduceAdd, Nat.reduceSub, Nat.reduceLT, Nat.reduceLeDiff, Nat.reduceMul]
    refine cnd_mk (fun h => ?_) (fun h => ?_)
    · simp only [decide_eq_true_eq] at h
      simp only [push_cast, ↓reduceIte, reduceCtorEq, Nat.reduceBEq, Nat.reduceEqDiff, Nat.reduceAdd, Nat.reduceSub, Nat.reduceLT, Nat.reduceLeDiff, Nat.reduceMul]
      have ha := anc_In (r - i).toNat hz (by decide)
      refine call_as (as' := [(anc (r - i).toNat z).v]) rfl ?_
      refine call_mk (split_t _ ha) rfl trivial ?_
      simp only [Ei.v, Ei.rv, push_cast, ↓reduceIte, reduceCtorEq, Nat.reduceBEq, Nat.reduceEqDiff, Nat.reduceAdd, Nat.reduceSub, Nat.reduceLT, Nat.reduceLeDiff, Nat.reduceMul]
      refine dcall_as (as' := [(lft (anc (r - i).toNat z)).v]) rfl ?_
      refine dcall_mk (digit_t _) rfl trivial ?_
      have hst := digs_put r.toNat z i.toNat (by omega) (by omega) (by omega)
      rw [show r.toNat - i.toNat = (r - i).toNat by omega] at hst
      have hpr : pr (anc (r - i).toNat z) = anc (r - (i - 1)).toNat z := by rw [← anc_succ, show (r - i).toNat + 1 = (r - (i - 1)).toNat by omega]
      simp only [Ei.v, Ei.rv, hst, push_cast, ↓reduceIte, reduceCtorEq, Nat.reduceBEq, Nat.reduceEqDiff, Nat.reduceAdd, Nat.reduceSub, Nat.reduceLT, Nat.reduceLeDiff, Nat.reduceMul]
      rw [show IntKind.i64.wrap (i - 1) = i - 1 from wrap_id (by omega), hpr]
      refine ⟨by omega, by omega, by kernel_rfl, ⟨i - 1, by omega, rfl, ?_⟩, by omega⟩
      rw [show (i - 1).toNat = i.toNat - 1 by omega]
    · have hi : i = 0 := by simp at h; omega
      subst hi
      have ha := anc_In r.toNat hz (by decide)
      simp only [push_cast, ↓reduceIte, reduceCtorEq, Nat.reduceBEq, Nat.reduceEqDiff, Nat.reduceAdd, Nat.reduceSub, Nat.reduceLT, Nat.reduceLeDiff, Nat.reduceMul]
      rw [show (r - 0).toNat = r.toNat by omega, show Int.toNat 0 = 0 from rfl]
      refine ⟨by kernel_rfl, ?_⟩
      refine dcall_mk (in_t _) rfl trivial ?_
      by_cases c : -512 ≤ (anc r.toNat z).a ∧ (anc r.toNat z).a ≤ 511
      · rw [decide_eq_true c]
        simp only [push_cast, ↓reduceIte, reduceCtorEq, Nat.reduceBEq, Nat.reduceEqDiff, Nat.reduceAdd, Nat.reduceSub, Nat.reduceLT, Nat.reduceLeDiff, Nat.reduceMul]
        refine ⟨by kernel_rfl, ?_⟩
        refine dcall_mk (in_t _) rfl trivial ?_
        simp only [Ei.v, Ei.rv, push_cast, ↓reduceIte, reduceCtorEq, Nat.reduceBEq, Nat.reduceEqDiff, Nat.reduceAdd, Nat.reduceSub, Nat.reduceLT, Nat.reduceLeDiff, Nat.reduceMul]
        refine ⟨by kernel_rfl, ?_⟩
        simp [baseB, c.1, c.2]
        kernel_rfl
      · rw [decide_eq_false c]
        simp only [Ei.v, Ei.rv, push_cast, ↓reduceIte, reduceCtorEq, Nat.reduceBEq, Nat.reduceEqDiff, Nat.reduceAdd, Nat.reduceSub, Nat.reduceLT, Nat.reduceLeDiff, Nat.reduceMul]
        refine ⟨by kernel_rfl, ?_⟩
        simp only [baseB, c, false_and, decide_false]
        exact ⟨by kernel_rfl, trivial⟩
def okB' (r : Int) (z : Ei) : Bool := shapeB r z && baseB (anc r.toNat z)
theorem okc_B {r : Int} {z : Ei} (h0 : 0 ≤ r) (h : okc r.toNat z) : shapeB r z = true ∧ baseB (anc r.toNat z) = true := by
  obtain ⟨h1, h2, h3, h4⟩ := h
  simp only [shapeB, baseB, decide_eq_true_eq]
  exact ⟨⟨⟨h0, by omega⟩, h2⟩, h3, h4⟩
set_option maxRecDepth 100000 in
theorem cof_t (x y r : Int) (h : inW x y) (hr : 0 ≤ r ∧ r ≤ 12) : Triple Go.Proofs.Try.prog 28 [int .i64 x, int .i64 y, int .i64 r] [] (.tup [cel r (near x y r.toNat), int .i64 0]) [] := by
  refine cell_Of_triple rfl (by decide) ?_
  simp only [cell_Of_pc, cel, List.length_nil, push_cast, ↓reduceIte, reduceCtorEq, Nat.reduceBEq, Nat.reduceEqDiff, Nat.reduceAdd, Nat.reduceSub, Nat.reduceLT, Nat.reduceLeDiff, Nat.reduceMul]
  refine call_mk (pok_t x y) rfl trivial ?_
  rw [decide_eq_true h]
  simp only [push_cast, ↓reduceIte, reduceCtorEq, Nat.reduceBEq, Nat.reduceEqDiff, Nat.reduceAdd, Nat.reduceSub, Nat.reduceLT, Nat.reduceLeDiff, Nat.reduceMul]
  refine call_mk (near_t x y r h hr) rfl trivial ?_
  simp only [Ei.v, Ei.rv, push_cast, ↓reduceIte, reduceCtorEq, Nat.reduceBEq, Nat.reduceEqDiff, Nat.reduceAdd, Nat.reduceSub, Nat.reduceLT, Nat.reduceLeDiff, Nat.reduceMul]
end Go.Ev


namespace Go.Ev
open Go
set_option linter.unusedSectionVars false
set_option linter.unnecessarySimpa false
set_option linter.unusedSimpArgs false
set_option linter.unusedVariables false
theorem or_high {a b k : Nat} (h : a < 2 ^ k) : a ||| b * 2 ^ k = b * 2 ^ k + a := by
  rw [Nat.or_comm, ← Nat.shiftLeft_eq, Nat.shiftLeft_add_eq_or_of_lt h]
theorem p8 (n : Nat) : 0 < 8 ^ n := Nat.pow_pos (by decide)
/-- A digit in its place: taken out, and another put in. -/
theorem dig_put {a b d k : Nat} (hb : b < 2 ^ k) (hd : d < 8) (hk : k + 3 ≤ 64) (ha : (a * 8 + 7) * 2 ^ k + b < 2 ^ 64) :
    (((a * 8 + 7) * 2 ^ k + b) &&& (2 ^ 64 - 1 - 7 * 2 ^ k)) ||| d * 2 ^ k = (a * 8 + d) * 2 ^ k + b := by
  have h7 : ∀ j, Nat.testBit 7 j = decide (j < 3) := fun j => by
    rcases (show j = 0 ∨ j = 1 ∨ j = 2 ∨ 3 ≤ j by omega) with rfl | rfl | rfl | hj
    · rfl
    · rfl
    · rfl
    · rw [Nat.testBit_lt_two_pow (Nat.lt_of_lt_of_le (by decide : 7 < 2 ^ 3) (Nat.pow_le_pow_right (by decide) hj))]; simp; omega
  have hd3 : ∀ j, 3 ≤ j → Nat.testBit d j = false := fun j hj => Nat.testBit_lt_two_pow (Nat.lt_of_lt_of_le (by omega : d < 2 ^ 3) (Nat.pow_le_pow_right (by decide) hj))
  have hs : 7 * 2 ^ k < 2 ^ 64 := by
    have : 2 ^ (k + 3) ≤ 2 ^ 64 := Nat.pow_le_pow_right (by decide) hk
    rw [Nat.pow_add] at this
    have := Nat.two_pow_pos k
    omega
  apply Nat.eq_of_testBit_eq
  intro j
  rw [Nat.testBit_or, Nat.testBit_and, show 2 ^ 64 - 1 - 7 * 2 ^ k = 2 ^ 64 - (7 * 2 ^ k + 1) by omega, Nat.testBit_two_pow_sub_succ hs]
  rw [Nat.mul_comm _ (2 ^ k), Nat.mul_comm 7, Nat.mul_comm d, Nat.mul_comm (a * 8 + d)]
  rw [Nat.testBit_two_pow_mul_add _ hb, Nat.testBit_two_pow_mul_add _ hb, Nat.testBit_two_pow_mul, Nat.testBit_two_pow_mul]
  by_cases hj : j < k
  · simp [hj, Nat.not_le.2 hj]
    intro hx
    omega
  · rw [if_neg hj, if_neg hj]
    have hkj : k ≤ j := by omega
    simp only [hkj, ge_iff_le, decide_true, Bool.true_and]
    rw [show a * 8 + 7 = 2 ^ 3 * a + 7 by omega, show a * 8 + d = 2 ^ 3 * a + d by omega, Nat.testBit_two_pow_mul_add a (show 7 < 2 ^ 3 by decide), Nat.testBit_two_pow_mul_add a (show d < 2 ^ 3 from hd), h7]
    by_cases h3 : j - k < 3
    · simp [h3]
    · rw [hd3 _ (by omega)]
      simp only [h3, if_false, decide_false, Bool.not_false, Bool.and_true, Bool.or_false]
      by_cases h64 : j < 64
      · simp [h64]
      · simp only [h64, decide_false, Bool.and_false]
        apply Eq.symm
        apply Nat.testBit_lt_two_pow
        have e : (a * 8 + 7) * 2 ^ k + b < 2 ^ j := Nat.lt_of_lt_of_le ha (Nat.pow_le_pow_right (by decide) (by omega))
        have e2 : 2 ^ j = 2 ^ (j - k - 3) * 8 * 2 ^ k := by rw [show (8 : Nat) = 2 ^ 3 from rfl, ← Nat.pow_add, ← Nat.pow_add]; congr 1; omega
        rw [e2] at e
        have : (a * 8 + 7) * 2 ^ k < 2 ^ (j - k - 3) * 8 * 2 ^ k := by omega
        have := Nat.lt_of_mul_lt_mul_right this
        omega
/-- A word whose digits from number i + 1 on are written. -/
def wordI (r : Nat) (z : Ei) (i : Nat) : Nat := ((8 ^ i - 1) * 8 ^ (r - i) + val (r - i) z) * 8 ^ (12 - r) + (8 ^ (12 - r) - 1)
theorem wordI_r (r : Nat) (z : Ei) (hr : r ≤ 12) : wordI r z r = 68719476735 := by
  unfold wordI
  rw [Nat.sub_self, val, Nat.pow_zero, Nat.mul_one, Nat.add_zero, Nat.sub_mul, ← Nat.pow_add, show r + (12 - r) = 12 by omega, Nat.one_mul]
  have : 8 ^ (12 - r) ≤ 8 ^ 12 := Nat.pow_le_pow_right (by decide) (by omega)
  have := p8 (12 - r)
  omega
theorem val_snoc (k : Nat) (z : Ei) : val (k + 1) z = dg (anc k z) * 8 ^ k + val k z := by
  induction k generalizing z with
  | zero => simp [val, anc]
  | succ k ih =>
    rw [val, ih (pr z), val, anc, Nat.pow_succ]
    generalize dg (anc k (pr z)) = e
    generalize 8 ^ k = p
    generalize val k (pr z) = q
    rw [Nat.add_mul, Nat.mul_assoc]
    omega
theorem wordI_low (r : Nat) (z : Ei) (i : Nat) (hi : i ≤ r) (hr : r ≤ 12) : val (r - i) z * 8 ^ (12 - r) + (8 ^ (12 - r) - 1) < 2 ^ (36 - 3 * i) := by
  have h1 := val_lt (r - i) z
  have e : 2 ^ (36 - 3 * i) = 8 ^ (r - i) * 8 ^ (12 - r) := by
    rw [← Nat.pow_add, show (8 : Nat) = 2 ^ 3 from rfl, ← Nat.pow_mul]; congr 1; omega
  rw [e]
  have hp := p8 (12 - r)
  generalize 8 ^ (12 - r) = p at *
  generalize val (r - i) z = v at *
  have h2 : (v + 1) * p ≤ 8 ^ (r - i) * p := Nat.mul_le_mul_right _ h1
  rw [Nat.add_mul] at h2
  omega
theorem wordI_eq (r : Nat) (z : Ei) (i : Nat) (hi : i ≤ r) (hr : r ≤ 12) : wordI r z i = (8 ^ i - 1) * 2 ^ (36 - 3 * i) + (val (r - i) z * 8 ^ (12 - r) + (8 ^ (12 - r) - 1)) := by
  have e : 2 ^ (36 - 3 * i) = 8 ^ (r - i) * 8 ^ (12 - r) := by
    rw [← Nat.pow_add, show (8 : Nat) = 2 ^ 3 from rfl, ← Nat.pow_mul]; congr 1; omega
  unfold wordI
  rw [e, Nat.add_mul, Nat.mul_assoc, Nat.add_assoc]
theorem wordI_lt (r : Nat) (z : Ei) (i : Nat) (hi : i ≤ r) (hr : r ≤ 12) : wordI r z i < 68719476736 := by
  rw [wordI_eq r z i hi hr]
  have h := wordI_low r z i hi hr
  have e : (8 : Nat) ^ i * 2 ^ (36 - 3 * i) = 68719476736 := by
    rw [show (8 : Nat) = 2 ^ 3 from rfl, ← Nat.pow_mul, ← Nat.pow_add, show 3 * i + (36 - 3 * i) = 36 by omega]
  rw [Nat.sub_mul, e, Nat.one_mul]
  have := Nat.two_pow_pos (36 - 3 * i)
  have : 2 ^ (36 - 3 * i) ≤ 2 ^ 36 := Nat.pow_le_pow_right (by decide) (by omega)
  omega
theorem wordI_step (r : Nat) (z : Ei) (i : Nat) (h1 : 1 ≤ i) (hi : i ≤ r) (hr : r ≤ 12) :
    ((wordI r z i &&& (2 ^ 64 - 1 - 7 * 2 ^ (36 - 3 * i))) ||| dg (anc (r - i) z) * 2 ^ (36 - 3 * i)) = wordI r z (i - 1) := by
  have hl := wordI_lt r z i hi hr
  have hlow := wordI_low r z i hi hr
  have hd := dg_lt (anc (r - i) z)
  have e8 : (8 : Nat) ^ i - 1 = (8 ^ (i - 1) - 1) * 8 + 7 := by
    have : (8 : Nat) ^ i = 8 ^ (i - 1) * 8 := by conv => lhs; rw [show i = i - 1 + 1 by omega, Nat.pow_succ]
    have := p8 (i - 1)
    omega
  have e0 := wordI_eq r z i hi hr
  rw [e8] at e0
  rw [e0] at hl ⊢
  rw [dig_put hlow (by omega) (by omega) (by omega), wordI_eq r z (i - 1) (by omega) hr, show r - (i - 1) = r - i + 1 by omega, val_snoc]
  have e9 : 2 ^ (36 - 3 * (i - 1)) = 8 * 2 ^ (36 - 3 * i) := by rw [show (8 : Nat) = 2 ^ 3 from rfl, ← Nat.pow_add]; congr 1; omega
  have e10 : 8 ^ (r - i) * 8 ^ (12 - r) = 2 ^ (36 - 3 * i) := by
    rw [← Nat.pow_add, show (8 : Nat) = 2 ^ 3 from rfl, ← Nat.pow_mul]; congr 1; omega
  rw [e9, ← e10]
  generalize 8 ^ (i - 1) - 1 = A
  generalize 8 ^ (r - i) = B
  generalize 8 ^ (12 - r) = C
  generalize dg (anc (r - i) z) = D
  generalize val (r - i) z = V
  simp only [Nat.add_mul, Nat.mul_assoc]
  omega
theorem word_or (r : Nat) (z : Ei) (hr : r ≤ 12) (A B : Nat) (hA : A < 1024) (hB : B < 1024) (hA' : (anc r z).a + 512 = A) (hB' : (anc r z).b + 512 = B) :
    ((((wordI r z 0 ||| 1152921504606846976) ||| r * 2 ^ 56) ||| A * 2 ^ 46) ||| B * 2 ^ 36) = word r z := by
  have hl := wordI_lt r z 0 (by omega) hr
  have e : word r z = hd36 r (anc r z) * 2 ^ 36 + wordI r z 0 := by
    unfold word wordI
    rw [Nat.add_mul, Nat.mul_assoc, ← Nat.pow_add, show r + (12 - r) = 12 by omega]
    simp
    omega
  rw [e]
  generalize wordI r z 0 = w at *
  rw [Nat.or_assoc, Nat.or_assoc, Nat.or_assoc, Nat.or_comm, Nat.or_assoc, Nat.or_assoc, Nat.or_assoc]
  rw [Nat.or_comm (B * 2 ^ 36), or_high (show w < 2 ^ 36 from hl), Nat.or_comm (A * 2 ^ 46), or_high (show B * 2 ^ 36 + w < 2 ^ 46 by omega), Nat.or_comm (r * 2 ^ 56), or_high (show A * 2 ^ 46 + (B * 2 ^ 36 + w) < 2 ^ 56 by omega),
    show (1152921504606846976 : Nat) = 1 * 2 ^ 60 from rfl, Nat.or_comm (1 * 2 ^ 60), or_high (show r * 2 ^ 56 + (A * 2 ^ 46 + (B * 2 ^ 36 + w)) < 2 ^ 60 by omega)]
  unfold hd36
  omega
end Go.Ev


namespace Go.Ev
open Go
set_option linter.unusedSectionVars false
set_option linter.unnecessarySimpa false
set_option linter.unusedSimpArgs false
set_option linter.unusedVariables false
noncomputable def apiaryref1_Seven_pc : PC :=
  (.seq (.reg [⟨(some 2), none, 0, .see (.mov (.c (.r (.v (.int .i64 0)))))⟩])
  (.seq (.reg [⟨(some 6), none, 0, .see (.mov (.t 0))⟩,
    ⟨(some 7), none, 1, .call 54 [(.c (.r (.v (.int .i64 7)))), (.t 6)]⟩,
    ⟨(some 5), none, 0, .see (.mov (.t 7))⟩,
    ⟨(some 8), none, 0, .see (.ext (.t 5) 0)⟩,
    ⟨(some 9), none, 0, .see (.ext (.t 5) 1)⟩,
    ⟨(some 3), none, 0, .see (.mov (.t 8))⟩,
    ⟨(some 4), none, 0, .see (.mov (.t 9))⟩])
  (.seq (.reg [⟨(some 10), none, 0, .see (.mov (.t 3))⟩,
    ⟨(some 2), none, 0, .see (.mov (.t 10))⟩])
  .ret)))
noncomputable abbrev apiaryref1_Seven_code : Code := (Go.Proofs.Try.f34.body).getD .skip
theorem apiaryref1_Seven_chk : chkC Go.Proofs.Try.prog 11 apiaryref1_Seven_code apiaryref1_Seven_pc = true := by kernel_rfl
theorem apiaryref1_Seven_triple {args : List AV} {po ro : List Ob} {res : AV} (hal : args.length = 1) (hpo : po.length ≤ 1000)
    (h : run Go.Proofs.Try.prog po.length (RetP po.length [(2, false, none)] fun v os => v = res ∧ os = ro) [.c apiaryref1_Seven_pc] ⟨argE 0 args, ob0 po⟩) : Triple Go.Proofs.Try.prog 34 args po res ro :=
  triple_of_W (fn := Go.Proofs.Try.f34) (c := apiaryref1_Seven_code) (pc := apiaryref1_Seven_pc) (rs := [(2, false, none)]) Go.Proofs.Try.func34 rfl (by decide) (by have := apiaryref1_Seven_chk; exact this) (by rw [hal]; decide) rfl (by kernel_rfl) (by kernel_rfl) (by decide) hpo (W_of_run h)

structure Til where
  z : Int
  x : Int
  y : Int
  r : Int
def Til.v (t : Til) : AV := .r (.agg [.v (.int .i64 t.z), .v (.int .i64 t.x), .v (.int .i64 t.y), .v (.int .i64 t.r)])
def Til.ok (t : Til) : Prop := in64 t.z ∧ in64 t.x ∧ in64 t.y ∧ in64 t.r
def tis (t : Til) : Bool := decide (0 ≤ t.z ∧ t.z ≤ 18 ∧ 0 ≤ t.r ∧ t.r ≤ 12 ∧ 0 ≤ t.x ∧ t.x < 2 ^ t.z.toNat ∧ 0 ≤ t.y ∧ t.y < 2 ^ t.z.toNat)
def rok (r : Int) : Bool := decide (0 ≤ r ∧ r ≤ 12)
set_option maxRecDepth 100000 in
theorem seven_t (k : Int) (h0 : 0 ≤ k) (h1 : k ≤ 12) : Triple Go.Proofs.Try.prog 34 [int .i64 k] [] (int .i64 (7 ^ k.toNat)) [] := by
  refine apiaryref1_Seven_triple rfl (by decide) ?_
  simp only [apiaryref1_Seven_pc, List.length_nil, push_cast, ↓reduceIte, reduceCtorEq, Nat.reduceBEq, Nat.reduceEqDiff, Nat.reduceAdd, Nat.reduceSub, Nat.reduceLT, Nat.reduceLeDiff, Nat.reduceMul]
  have hp := p7 k.toNat (by omega)
  have ht := rpow_t 7 k (by decide) (by unfold in64; omega)
  rw [if_neg (show ¬ k < 0 by omega)] at ht
  refine call_mk ht rfl trivial ?_
  simp only [sm, if_pos (show in64 (7 ^ k.toNat) by unfold in64; omega), push_cast, ↓reduceIte, reduceCtorEq, Nat.reduceBEq, Nat.reduceEqDiff, Nat.reduceAdd, Nat.reduceSub, Nat.reduceLT, Nat.reduceLeDiff, Nat.reduceMul]
def fine (t : Til) : Bool := tis t && decide (169 * 7 ^ (12 - t.r).toNat < 16 * 2 ^ (18 - t.z).toNat * (2 : Int) ^ (18 - t.z).toNat)
end Go.Ev


namespace Go.Ev
open Go
set_option linter.unusedSectionVars false
set_option linter.unnecessarySimpa false
set_option linter.unusedSimpArgs false
set_option linter.unusedVariables false
noncomputable def apiaryref1_Floor_pc : PC :=
  (.seq (.reg [⟨(some 4), none, 0, .see (.mov (.c (.r (.v (.int .i64 0)))))⟩,
    ⟨(some 5), none, 0, .see (.mov (.c (.r (.v (.int .i64 0)))))⟩,
    ⟨(some 6), none, 0, .see (.mov (.c (.r (.v (.bool false)))))⟩])
  (.seq (.seq (.reg [⟨(some 9), none, 0, .see (.mov (.t 1))⟩,
    ⟨(some 10), none, 0, .see (.bin .leq (.t 9) (.c (.r (.v (.int .i64 0)))))⟩])
  (.cond (.t 10)
    (.seq (.reg [⟨(some 4), none, 0, .see (.mov (.c (.r (.v (.int .i64 0)))))⟩,
    ⟨(some 5), none, 0, .see (.mov (.c (.r (.v (.int .i64 0)))))⟩,
    ⟨(some 6), none, 0, .see (.mov (.c (.r (.v (.bool false)))))⟩])
    .ret)
    .skip))
  (.seq (.drw [⟨(some 11), none, 0, .see (.mov (.t 0))⟩,
    ⟨(some 12), none, 0, .see (.mov (.t 1))⟩,
    ⟨(some 13), none, 0, .see (.bin .quo (.t 11) (.t 12))⟩,
    ⟨(some 14), none, 0, .see (.mov (.t 0))⟩,
    ⟨(some 15), none, 0, .see (.mov (.t 1))⟩,
    ⟨(some 16), none, 0, .see (.bin .rem (.t 14) (.t 15))⟩,
    ⟨(some 7), none, 0, .see (.mov (.t 13))⟩,
    ⟨(some 8), none, 0, .see (.mov (.t 16))⟩]
    [[], [], [0, 1], [], [], [3, 4], [0, 1, 2], [0, 1, 2, 3, 4, 5, 6]])
  (.seq (.seq (.reg [⟨(some 17), none, 0, .see (.mov (.t 8))⟩,
    ⟨(some 18), none, 0, .see (.bin .lss (.t 17) (.c (.r (.v (.int .i64 0)))))⟩])
  (.cond (.t 18)
    (.reg [⟨(some 19), none, 0, .see (.mov (.t 7))⟩,
    ⟨(some 20), none, 0, .see (.bin .sub (.t 19) (.c (.r (.v (.int .i64 1)))))⟩,
    ⟨(some 21), none, 0, .see (.mov (.t 8))⟩,
    ⟨(some 22), none, 0, .see (.mov (.t 1))⟩,
    ⟨(some 23), none, 0, .see (.bin .add (.t 21) (.t 22))⟩,
    ⟨(some 7), none, 0, .see (.mov (.t 20))⟩,
    ⟨(some 8), none, 0, .see (.mov (.t 23))⟩])
    .skip))
  (.seq (.reg [⟨(some 24), none, 0, .see (.mov (.t 7))⟩,
    ⟨(some 25), none, 0, .see (.mov (.t 8))⟩,
    ⟨(some 4), none, 0, .see (.mov (.t 24))⟩,
    ⟨(some 5), none, 0, .see (.mov (.t 25))⟩,
    ⟨(some 6), none, 0, .see (.mov (.c (.r (.v (.bool true)))))⟩])
  .ret)))))
noncomputable abbrev apiaryref1_Floor_code : Code := (Go.Proofs.Try.f52.body).getD .skip
theorem apiaryref1_Floor_chk : chkC Go.Proofs.Try.prog 26 apiaryref1_Floor_code apiaryref1_Floor_pc = true := by kernel_rfl
theorem apiaryref1_Floor_triple {args : List AV} {po ro : List Ob} {res : AV} (hal : args.length = 2) (hpo : po.length ≤ 1000)
    (h : run Go.Proofs.Try.prog po.length (RetP po.length [(4, false, none), (5, false, none), (6, false, none)] fun v os => v = res ∧ os = ro) [.c apiaryref1_Floor_pc] ⟨argE 0 args, ob0 po⟩) : Triple Go.Proofs.Try.prog 52 args po res ro :=
  triple_of_W (fn := Go.Proofs.Try.f52) (c := apiaryref1_Floor_code) (pc := apiaryref1_Floor_pc) (rs := [(4, false, none), (5, false, none), (6, false, none)]) Go.Proofs.Try.func52 rfl (by decide) (by have := apiaryref1_Floor_chk; exact this) (by rw [hal]; decide) rfl (by kernel_rfl) (by kernel_rfl) (by decide) hpo (W_of_run h)

noncomputable def apiaryref1_Two_pc : PC :=
  (.seq (.reg [⟨(some 2), none, 0, .act (.box (.t 0))⟩,
    ⟨(some 3), none, 0, .act (.box (.t 1))⟩,
    ⟨(some 4), none, 0, .act (.new [(.r (.v (.int .i64 0))), (.r (.v (.int .i64 0)))])⟩,
    ⟨(some 5), none, 0, .see (.mov (.c (.r (.v (.bool false)))))⟩])
  (.seq (.reg [⟨(some 11), none, 0, .see (.ld (some 2) (.t 2))⟩,
    ⟨(some 12), none, 1, .call 68 [(.t 11)]⟩,
    ⟨(some 10), none, 0, .see (.mov (.t 12))⟩,
    ⟨(some 13), none, 0, .see (.ext (.t 10) 0)⟩,
    ⟨(some 14), none, 0, .see (.ext (.t 10) 1)⟩,
    ⟨(some 6), none, 0, .see (.mov (.t 13))⟩,
    ⟨(some 7), none, 0, .see (.mov (.t 14))⟩])
  (.seq (.reg [⟨(some 16), none, 0, .see (.ld (some 2) (.t 3))⟩,
    ⟨(some 17), none, 2, .call 68 [(.t 16)]⟩,
    ⟨(some 15), none, 0, .see (.mov (.t 17))⟩,
    ⟨(some 18), none, 0, .see (.ext (.t 15) 0)⟩,
    ⟨(some 19), none, 0, .see (.ext (.t 15) 1)⟩,
    ⟨(some 8), none, 0, .see (.mov (.t 18))⟩,
    ⟨(some 9), none, 0, .see (.mov (.t 19))⟩])
  (.seq (.seq (.reg [⟨(some 20), none, 0, .see (.mov (.t 7))⟩,
    ⟨(some 21), none, 0, .see (.un .not (.t 20))⟩,
    ⟨(some 22), none, 0, .see (.mov (.t 21))⟩,
    ⟨(some 23), (some (22, false)), 0, .see (.mov (.t 9))⟩,
    ⟨(some 24), (some (22, false)), 0, .see (.un .not (.t 23))⟩,
    ⟨(some 25), none, 0, .see (.pick (.t 22) (.c (.r (.v (.bool true)))) (.t 24))⟩])
  (.cond (.t 25)
    (.seq (.reg [⟨(some 26), none, 0, .see (.build [(.r (.v (.int .i64 0))), (.r (.v (.int .i64 0)))] [])⟩,
    ⟨none, none, 0, .act (.st 2 (.t 4) (.t 26))⟩,
    ⟨(some 5), none, 0, .see (.mov (.c (.r (.v (.bool false)))))⟩])
    .ret)
    .skip))
  (.seq (.reg [⟨(some 27), none, 0, .see (.mov (.t 6))⟩,
    ⟨(some 28), none, 0, .see (.mov (.t 8))⟩,
    ⟨(some 29), none, 0, .see (.build [(.r (.v (.int .i64 0))), (.r (.v (.int .i64 0)))] [(0, 1, (.t 27)), (1, 1, (.t 28))])⟩,
    ⟨none, none, 0, .act (.st 2 (.t 4) (.t 29))⟩,
    ⟨(some 5), none, 0, .see (.mov (.c (.r (.v (.bool true)))))⟩])
  .ret)))))
noncomputable abbrev apiaryref1_Two_code : Code := (Go.Proofs.Try.f48.body).getD .skip
theorem apiaryref1_Two_chk : chkC Go.Proofs.Try.prog 30 apiaryref1_Two_code apiaryref1_Two_pc = true := by kernel_rfl
theorem apiaryref1_Two_triple {args : List AV} {po ro : List Ob} {res : AV} (hal : args.length = 2) (hpo : po.length ≤ 1000)
    (h : run Go.Proofs.Try.prog po.length (RetP po.length [(4, false, some (56, (some 2))), (5, false, none)] fun v os => v = res ∧ os = ro) [.c apiaryref1_Two_pc] ⟨argE 0 args, ob0 po⟩) : Triple Go.Proofs.Try.prog 48 args po res ro :=
  triple_of_W (fn := Go.Proofs.Try.f48) (c := apiaryref1_Two_code) (pc := apiaryref1_Two_pc) (rs := [(4, false, some (56, (some 2))), (5, false, none)]) Go.Proofs.Try.func48 rfl (by decide) (by have := apiaryref1_Two_chk; exact this) (by rw [hal]; decide) rfl (by kernel_rfl) (by kernel_rfl) (by decide) hpo (W_of_run h)

noncomputable def apiaryref1_Mul_pc : PC :=
  (.seq (.reg [⟨(some 2), none, 0, .act (.box (.t 0))⟩,
    ⟨(some 3), none, 0, .act (.box (.t 1))⟩,
    ⟨(some 4), none, 0, .act (.new [(.r (.v (.int .i64 0))), (.r (.v (.int .i64 0)))])⟩,
    ⟨(some 5), none, 0, .see (.mov (.c (.r (.v (.bool false)))))⟩])
  (.seq (.reg [⟨(some 7), none, 0, .see (.fa 1 (.t 2))⟩,
    ⟨(some 8), none, 0, .see (.ld none (.t 7))⟩,
    ⟨(some 9), none, 0, .see (.fa 1 (.t 3))⟩,
    ⟨(some 10), none, 0, .see (.ld none (.t 9))⟩,
    ⟨(some 11), none, 1, .call 47 [(.t 8), (.t 10)]⟩,
    ⟨(some 6), none, 0, .act (.new [(.r (.v (.int .u64 0))), (.r (.v (.int .u64 0)))])⟩,
    ⟨none, none, 0, .act (.st 2 (.t 6) (.t 11))⟩])
  (.seq (.drw [⟨(some 12), none, 0, .see (.fa 0 (.t 2))⟩,
    ⟨(some 13), none, 0, .see (.ld none (.t 12))⟩,
    ⟨(some 14), none, 0, .see (.fa 0 (.t 3))⟩,
    ⟨(some 15), none, 0, .see (.ld none (.t 14))⟩,
    ⟨(some 16), none, 2, .call 47 [(.t 13), (.t 15)]⟩,
    ⟨(some 17), none, 0, .see (.ld (some 2) (.t 6))⟩,
    ⟨(some 18), none, 3, .call 50 [(.t 17)]⟩,
    ⟨(some 19), none, 4, .call 49 [(.t 16), (.t 18)]⟩,
    ⟨(some 20), none, 0, .see (.fa 0 (.t 2))⟩,
    ⟨(some 21), none, 0, .see (.ld none (.t 20))⟩,
    ⟨(some 22), none, 0, .see (.fa 1 (.t 3))⟩,
    ⟨(some 23), none, 0, .see (.ld none (.t 22))⟩,
    ⟨(some 24), none, 5, .call 47 [(.t 21), (.t 23)]⟩,
    ⟨(some 25), none, 0, .see (.fa 1 (.t 2))⟩,
    ⟨(some 26), none, 0, .see (.ld none (.t 25))⟩,
    ⟨(some 27), none, 0, .see (.fa 0 (.t 3))⟩,
    ⟨(some 28), none, 0, .see (.ld none (.t 27))⟩,
    ⟨(some 29), none, 6, .call 47 [(.t 26), (.t 28)]⟩,
    ⟨(some 30), none, 7, .call 49 [(.t 24), (.t 29)]⟩,
    ⟨(some 31), none, 0, .see (.ld (some 2) (.t 6))⟩,
    ⟨(some 32), none, 8, .call 49 [(.t 30), (.t 31)]⟩,
    ⟨(some 33), none, 9, .call 48 [(.t 19), (.t 32)]⟩,
    ⟨(some 34), none, 0, .see (.ext (.t 33) 0)⟩,
    ⟨(some 35), none, 0, .see (.ext (.t 33) 1)⟩,
    ⟨none, none, 0, .act (.st 2 (.t 4) (.t 34))⟩,
    ⟨(some 5), none, 0, .see (.mov (.t 35))⟩]
    [[], [0], [], [2], [0, 1, 2, 3], [], [0, 1, 2, 3, 4, 5], [0, 1, 2, 3, 4, 5, 6], [], [8], [], [10], [0, 1, 2, 3, 4, 5, 6, 7, 8, 9, 10, 11], [], [13], [], [15], [0, 1, 2, 3, 4, 5, 6, 7, 8, 9, 10, 11, 12, 13, 14, 15, 16], [0, 1, 2, 3, 4, 5, 6, 7, 8, 9, 10, 11, 12, 13, 14, 15, 16, 17], [], [0, 1, 2, 3, 4, 5, 6, 7, 8, 9, 10, 11, 12, 13, 14, 15, 16, 17, 18, 19], [0, 1, 2, 3, 4, 5, 6, 7, 8, 9, 10, 11, 12, 13, 14, 15, 16, 17, 18, 19, 20], [0, 1, 2, 3, 4, 5, 6, 7, 8, 9, 10, 11, 12, 13, 14, 15, 16, 17, 18, 19, 20, 21], [0, 1, 2, 3, 4, 5, 6, 7, 8, 9, 10, 11, 12, 13, 14, 15, 16, 17, 18, 19, 20, 21], [0, 1, 2, 3, 4, 5, 6, 7, 8, 9, 10, 11, 12, 13, 14, 15, 16, 17, 18, 19, 20, 21, 22, 23], [0, 1, 2, 3, 4, 5, 6, 7, 8, 9, 10, 11, 12, 13, 14, 15, 16, 17, 18, 19, 20, 21, 22, 23, 24]])
  .ret)))
noncomputable abbrev apiaryref1_Mul_code : Code := (Go.Proofs.Try.f31.body).getD .skip
theorem apiaryref1_Mul_chk : chkC Go.Proofs.Try.prog 36 apiaryref1_Mul_code apiaryref1_Mul_pc = true := by kernel_rfl
theorem apiaryref1_Mul_triple {args : List AV} {po ro : List Ob} {res : AV} (hal : args.length = 2) (hpo : po.length ≤ 1000)
    (h : run Go.Proofs.Try.prog po.length (RetP po.length [(4, false, some (56, (some 2))), (5, false, none)] fun v os => v = res ∧ os = ro) [.c apiaryref1_Mul_pc] ⟨argE 0 args, ob0 po⟩) : Triple Go.Proofs.Try.prog 31 args po res ro :=
  triple_of_W (fn := Go.Proofs.Try.f31) (c := apiaryref1_Mul_code) (pc := apiaryref1_Mul_pc) (rs := [(4, false, some (56, (some 2))), (5, false, none)]) Go.Proofs.Try.func31 rfl (by decide) (by have := apiaryref1_Mul_chk; exact this) (by rw [hal]; decide) rfl (by kernel_rfl) (by kernel_rfl) (by decide) hpo (W_of_run h)

noncomputable def apiaryref1_Beta_pc : PC :=
  (.seq (.reg [⟨(some 2), none, 0, .act (.new [(.r (.v (.int .i64 0))), (.r (.v (.int .i64 0)))])⟩,
    ⟨(some 3), none, 0, .see (.mov (.c (.r (.v (.bool false)))))⟩])
  (.seq (.seq (.reg [⟨(some 6), none, 0, .see (.mov (.t 0))⟩,
    ⟨(some 7), none, 0, .see (.bin .lss (.t 6) (.c (.r (.v (.int .i64 0)))))⟩,
    ⟨(some 8), none, 0, .see (.mov (.t 7))⟩,
    ⟨(some 9), (some (8, false)), 0, .see (.mov (.t 0))⟩,
    ⟨(some 10), (some (8, false)), 0, .see (.bin .gtr (.t 9) (.c (.r (.v (.int .i64 20)))))⟩,
    ⟨(some 11), none, 0, .see (.pick (.t 8) (.c (.r (.v (.bool true)))) (.t 10))⟩])
  (.cond (.t 11)
    (.seq (.reg [⟨(some 12), none, 0, .see (.build [(.r (.v (.int .i64 0))), (.r (.v (.int .i64 0)))] [])⟩,
    ⟨none, none, 0, .act (.st 2 (.t 2) (.t 12))⟩,
    ⟨(some 3), none, 0, .see (.mov (.c (.r (.v (.bool false)))))⟩])
    .ret)
    .skip))
  (.seq (.reg [⟨(some 13), none, 0, .see (.build [(.r (.v (.int .i64 0))), (.r (.v (.int .i64 0)))] [(0, 1, (.c (.r (.v (.int .i64 1)))))])⟩,
    ⟨(some 4), none, 0, .act (.new [(.r (.v (.int .i64 0))), (.r (.v (.int .i64 0)))])⟩,
    ⟨none, none, 0, .act (.st 2 (.t 4) (.t 13))⟩])
  (.seq (.seq (.reg [⟨(some 5), none, 0, .see (.mov (.c (.r (.v (.int .i64 0)))))⟩])
  (.block 0 (.loop (.seq (.seq (.reg [⟨(some 14), none, 0, .see (.mov (.t 5))⟩,
    ⟨(some 15), none, 0, .see (.mov (.t 0))⟩,
    ⟨(some 16), none, 0, .see (.bin .lss (.t 14) (.t 15))⟩])
  (.cond (.t 16)
    .skip
    (.exit 0)))
  (.seq (.block 1 (.reg [⟨(some 20), none, 0, .see (.ld (some 2) (.t 4))⟩,
    ⟨(some 21), none, 0, .see (.build [(.r (.v (.int .i64 0))), (.r (.v (.int .i64 0)))] [(0, 1, (.c (.r (.v (.int .i64 2))))), (1, 1, (.c (.r (.v (.int .i64 1)))))])⟩,
    ⟨(some 22), none, 1, .call 31 [(.t 20), (.t 21)]⟩,
    ⟨(some 19), none, 0, .see (.mov (.t 22))⟩,
    ⟨(some 23), none, 0, .see (.ext (.t 19) 0)⟩,
    ⟨(some 24), none, 0, .see (.ext (.t 19) 1)⟩,
    ⟨none, none, 0, .act (.st 2 (.t 4) (.t 23))⟩]))
  (.reg [⟨(some 17), none, 0, .see (.mov (.t 5))⟩,
    ⟨(some 18), none, 0, .see (.bin .add (.t 17) (.c (.r (.v (.int .i64 1)))))⟩,
    ⟨(some 5), none, 0, .see (.mov (.t 18))⟩]))))))
  (.seq (.reg [⟨(some 25), none, 0, .see (.ld (some 2) (.t 4))⟩,
    ⟨none, none, 0, .act (.st 2 (.t 2) (.t 25))⟩,
    ⟨(some 3), none, 0, .see (.mov (.c (.r (.v (.bool true)))))⟩])
  .ret)))))
noncomputable abbrev apiaryref1_Beta_code : Code := (Go.Proofs.Try.f51.body).getD .skip
theorem apiaryref1_Beta_chk : chkC Go.Proofs.Try.prog 26 apiaryref1_Beta_code apiaryref1_Beta_pc = true := by kernel_rfl
theorem apiaryref1_Beta_triple {args : List AV} {po ro : List Ob} {res : AV} (hal : args.length = 1) (hpo : po.length ≤ 1000)
    (h : run Go.Proofs.Try.prog po.length (RetP po.length [(2, false, some (56, (some 2))), (3, false, none)] fun v os => v = res ∧ os = ro) [.c apiaryref1_Beta_pc] ⟨argE 0 args, ob0 po⟩) : Triple Go.Proofs.Try.prog 51 args po res ro :=
  triple_of_W (fn := Go.Proofs.Try.f51) (c := apiaryref1_Beta_code) (pc := apiaryref1_Beta_pc) (rs := [(2, false, some (56, (some 2))), (3, false, none)]) Go.Proofs.Try.func51 rfl (by decide) (by have := apiaryref1_Beta_chk; exact this) (by rw [hal]; decide) rfl (by kernel_rfl) (by kernel_rfl) (by decide) hpo (W_of_run h)

noncomputable def apiaryref1_conj_pc : PC :=
  (.seq (.reg [⟨(some 2), none, 0, .act (.new [(.r (.v (.int .i64 0))), (.r (.v (.int .i64 0)))])⟩])
  (.seq (.reg [⟨(some 6), none, 0, .see (.mov (.t 0))⟩,
    ⟨(some 7), none, 1, .call 51 [(.t 6)]⟩,
    ⟨(some 5), none, 0, .see (.mov (.t 7))⟩,
    ⟨(some 8), none, 0, .see (.ext (.t 5) 0)⟩,
    ⟨(some 9), none, 0, .see (.ext (.t 5) 1)⟩,
    ⟨(some 3), none, 0, .act (.new [(.r (.v (.int .i64 0))), (.r (.v (.int .i64 0)))])⟩,
    ⟨none, none, 0, .act (.st 2 (.t 3) (.t 8))⟩,
    ⟨(some 4), none, 0, .see (.mov (.t 9))⟩])
  (.seq (.reg [⟨(some 10), none, 0, .see (.fa 0 (.t 3))⟩,
    ⟨(some 11), none, 0, .see (.ld none (.t 10))⟩,
    ⟨(some 12), none, 0, .see (.fa 1 (.t 3))⟩,
    ⟨(some 13), none, 0, .see (.ld none (.t 12))⟩,
    ⟨(some 14), none, 0, .see (.bin .add (.t 11) (.t 13))⟩,
    ⟨(some 15), none, 0, .see (.fa 1 (.t 3))⟩,
    ⟨(some 16), none, 0, .see (.ld none (.t 15))⟩,
    ⟨(some 17), none, 0, .see (.un .neg (.t 16))⟩,
    ⟨(some 18), none, 0, .see (.build [(.r (.v (.int .i64 0))), (.r (.v (.int .i64 0)))] [(0, 1, (.t 14)), (1, 1, (.t 17))])⟩,
    ⟨none, none, 0, .act (.st 2 (.t 2) (.t 18))⟩])
  .ret)))
noncomputable abbrev apiaryref1_conj_code : Code := (Go.Proofs.Try.f32.body).getD .skip
theorem apiaryref1_conj_chk : chkC Go.Proofs.Try.prog 19 apiaryref1_conj_code apiaryref1_conj_pc = true := by kernel_rfl
theorem apiaryref1_conj_triple {args : List AV} {po ro : List Ob} {res : AV} (hal : args.length = 1) (hpo : po.length ≤ 1000)
    (h : run Go.Proofs.Try.prog po.length (RetP po.length [(2, false, some (56, (some 2)))] fun v os => v = res ∧ os = ro) [.c apiaryref1_conj_pc] ⟨argE 0 args, ob0 po⟩) : Triple Go.Proofs.Try.prog 32 args po res ro :=
  triple_of_W (fn := Go.Proofs.Try.f32) (c := apiaryref1_conj_code) (pc := apiaryref1_conj_pc) (rs := [(2, false, some (56, (some 2)))]) Go.Proofs.Try.func32 rfl (by decide) (by have := apiaryref1_conj_chk; exact this) (by rw [hal]; decide) rfl (by kernel_rfl) (by kernel_rfl) (by decide) hpo (W_of_run h)

noncomputable def apiaryref1_size_pc : PC :=
  (.seq (.reg [⟨(some 2), none, 0, .see (.mov (.c (.r (.v (.int .i64 0)))))⟩])
  (.seq (.seq (.reg [⟨(some 3), none, 0, .see (.mov (.t 0))⟩,
    ⟨(some 4), none, 0, .see (.bin .lss (.t 3) (.c (.r (.v (.int .i64 0)))))⟩])
  (.cond (.t 4)
    (.seq (.reg [⟨(some 5), none, 0, .see (.mov (.t 0))⟩,
    ⟨(some 6), none, 0, .see (.un .neg (.t 5))⟩,
    ⟨(some 2), none, 0, .see (.mov (.t 6))⟩])
    .ret)
    .skip))
  (.seq (.reg [⟨(some 7), none, 0, .see (.mov (.t 0))⟩,
    ⟨(some 2), none, 0, .see (.mov (.t 7))⟩])
  .ret)))
noncomputable abbrev apiaryref1_size_code : Code := (Go.Proofs.Try.f70.body).getD .skip
theorem apiaryref1_size_chk : chkC Go.Proofs.Try.prog 8 apiaryref1_size_code apiaryref1_size_pc = true := by kernel_rfl
theorem apiaryref1_size_triple {args : List AV} {po ro : List Ob} {res : AV} (hal : args.length = 1) (hpo : po.length ≤ 1000)
    (h : run Go.Proofs.Try.prog po.length (RetP po.length [(2, false, none)] fun v os => v = res ∧ os = ro) [.c apiaryref1_size_pc] ⟨argE 0 args, ob0 po⟩) : Triple Go.Proofs.Try.prog 70 args po res ro :=
  triple_of_W (fn := Go.Proofs.Try.f70) (c := apiaryref1_size_code) (pc := apiaryref1_size_pc) (rs := [(2, false, none)]) Go.Proofs.Try.func70 rfl (by decide) (by have := apiaryref1_size_chk; exact this) (by rw [hal]; decide) rfl (by kernel_rfl) (by kernel_rfl) (by decide) hpo (W_of_run h)

noncomputable def apiaryref1_holds_pc : PC :=
  (.seq (.reg [⟨(some 6), none, 0, .see (.mov (.c (.r (.v (.bool false)))))⟩])
  (.seq (.reg [⟨(some 7), none, 0, .see (.mov (.t 0))⟩,
    ⟨(some 8), none, 0, .see (.bin .mul (.c (.r (.v (.int .i64 2)))) (.t 7))⟩,
    ⟨(some 9), none, 0, .see (.mov (.t 1))⟩,
    ⟨(some 10), none, 0, .see (.bin .add (.t 8) (.t 9))⟩,
    ⟨(some 11), none, 1, .call 70 [(.t 10)]⟩,
    ⟨(some 12), none, 0, .see (.mov (.t 2))⟩,
    ⟨(some 13), none, 0, .see (.bin .leq (.t 11) (.t 12))⟩,
    ⟨(some 14), none, 0, .see (.mov (.t 13))⟩,
    ⟨(some 15), (some (14, true)), 0, .see (.mov (.t 0))⟩,
    ⟨(some 16), (some (14, true)), 0, .see (.mov (.t 1))⟩,
    ⟨(some 17), (some (14, true)), 0, .see (.bin .mul (.c (.r (.v (.int .i64 2)))) (.t 16))⟩,
    ⟨(some 18), (some (14, true)), 0, .see (.bin .add (.t 15) (.t 17))⟩,
    ⟨(some 19), (some (14, true)), 2, .call 70 [(.t 18)]⟩,
    ⟨(some 20), (some (14, true)), 0, .see (.mov (.t 2))⟩,
    ⟨(some 21), (some (14, true)), 0, .see (.bin .leq (.t 19) (.t 20))⟩,
    ⟨(some 22), none, 0, .see (.pick (.t 14) (.t 21) (.c (.r (.v (.bool false)))))⟩,
    ⟨(some 23), none, 0, .see (.mov (.t 22))⟩,
    ⟨(some 24), (some (23, true)), 0, .see (.mov (.t 0))⟩,
    ⟨(some 25), (some (23, true)), 0, .see (.mov (.t 1))⟩,
    ⟨(some 26), (some (23, true)), 0, .see (.bin .sub (.t 24) (.t 25))⟩,
    ⟨(some 27), (some (23, true)), 3, .call 70 [(.t 26)]⟩,
    ⟨(some 28), (some (23, true)), 0, .see (.mov (.t 2))⟩,
    ⟨(some 29), (some (23, true)), 0, .see (.bin .leq (.t 27) (.t 28))⟩,
    ⟨(some 30), none, 0, .see (.pick (.t 23) (.t 29) (.c (.r (.v (.bool false)))))⟩,
    ⟨(some 6), none, 0, .see (.mov (.t 30))⟩])
  .ret))
noncomputable abbrev apiaryref1_holds_code : Code := (Go.Proofs.Try.f53.body).getD .skip
theorem apiaryref1_holds_chk : chkC Go.Proofs.Try.prog 31 apiaryref1_holds_code apiaryref1_holds_pc = true := by kernel_rfl
theorem apiaryref1_holds_triple {args : List AV} {po ro : List Ob} {res : AV} (hal : args.length = 3) (hpo : po.length ≤ 1000)
    (h : run Go.Proofs.Try.prog po.length (RetP po.length [(6, false, none)] fun v os => v = res ∧ os = ro) [.c apiaryref1_holds_pc] ⟨argE 0 args, ob0 po⟩) : Triple Go.Proofs.Try.prog 53 args po res ro :=
  triple_of_W (fn := Go.Proofs.Try.f53) (c := apiaryref1_holds_code) (pc := apiaryref1_holds_pc) (rs := [(6, false, none)]) Go.Proofs.Try.func53 rfl (by decide) (by have := apiaryref1_holds_chk; exact this) (by rw [hal]; decide) rfl (by kernel_rfl) (by kernel_rfl) (by decide) hpo (W_of_run h)

noncomputable def apiaryref1_Round_pc : PC :=
  (.seq (.reg [⟨(some 2), none, 0, .act (.box (.t 0))⟩,
    ⟨(some 4), none, 0, .act (.new [(.r (.v (.int .i64 0))), (.r (.v (.int .i64 0)))])⟩,
    ⟨(some 5), none, 0, .see (.mov (.c (.r (.v (.bool false)))))⟩])
  (.seq (.seq (.reg [⟨(some 14), none, 0, .see (.mov (.t 1))⟩,
    ⟨(some 15), none, 0, .see (.bin .lss (.t 14) (.c (.r (.v (.int .i64 1)))))⟩,
    ⟨(some 16), none, 0, .see (.mov (.t 15))⟩,
    ⟨(some 17), (some (16, false)), 0, .see (.mov (.t 1))⟩,
    ⟨(some 18), (some (16, false)), 0, .see (.bin .gtr (.t 17) (.c (.r (.v (.int .i64 1125899906842624)))))⟩,
    ⟨(some 19), none, 0, .see (.pick (.t 16) (.c (.r (.v (.bool true)))) (.t 18))⟩,
    ⟨(some 20), none, 0, .see (.mov (.t 19))⟩,
    ⟨(some 21), (some (20, false)), 0, .see (.fa 0 (.t 2))⟩,
    ⟨(some 22), (some (20, false)), 0, .see (.ld none (.t 21))⟩,
    ⟨(some 23), (some (20, false)), 0, .see (.bin .lss (.t 22) (.c (.r (.v (.int .i64 (-1152921504606846976))))))⟩,
    ⟨(some 24), none, 0, .see (.pick (.t 20) (.c (.r (.v (.bool true)))) (.t 23))⟩,
    ⟨(some 25), none, 0, .see (.mov (.t 24))⟩,
    ⟨(some 26), (some (25, false)), 0, .see (.fa 0 (.t 2))⟩,
    ⟨(some 27), (some (25, false)), 0, .see (.ld none (.t 26))⟩,
    ⟨(some 28), (some (25, false)), 0, .see (.bin .gtr (.t 27) (.c (.r (.v (.int .i64 1152921504606846976)))))⟩,
    ⟨(some 29), none, 0, .see (.pick (.t 25) (.c (.r (.v (.bool true)))) (.t 28))⟩,
    ⟨(some 30), none, 0, .see (.mov (.t 29))⟩,
    ⟨(some 31), (some (30, false)), 0, .see (.fa 1 (.t 2))⟩,
    ⟨(some 32), (some (30, false)), 0, .see (.ld none (.t 31))⟩,
    ⟨(some 33), (some (30, false)), 0, .see (.bin .lss (.t 32) (.c (.r (.v (.int .i64 (-1152921504606846976))))))⟩,
    ⟨(some 34), none, 0, .see (.pick (.t 30) (.c (.r (.v (.bool true)))) (.t 33))⟩,
    ⟨(some 35), none, 0, .see (.mov (.t 34))⟩,
    ⟨(some 36), (some (35, false)), 0, .see (.fa 1 (.t 2))⟩,
    ⟨(some 37), (some (35, false)), 0, .see (.ld none (.t 36))⟩,
    ⟨(some 38), (some (35, false)), 0, .see (.bin .gtr (.t 37) (.c (.r (.v (.int .i64 1152921504606846976)))))⟩,
    ⟨(some 39), none, 0, .see (.pick (.t 35) (.c (.r (.v (.bool true)))) (.t 38))⟩])
  (.cond (.t 39)
    (.seq (.reg [⟨(some 40), none, 0, .see (.build [(.r (.v (.int .i64 0))), (.r (.v (.int .i64 0)))] [])⟩,
    ⟨none, none, 0, .act (.st 2 (.t 4) (.t 40))⟩,
    ⟨(some 5), none, 0, .see (.mov (.c (.r (.v (.bool false)))))⟩])
    .ret)
    .skip))
  (.seq (.reg [⟨(some 42), none, 0, .see (.fa 0 (.t 2))⟩,
    ⟨(some 43), none, 0, .see (.ld none (.t 42))⟩,
    ⟨(some 44), none, 0, .see (.mov (.t 1))⟩,
    ⟨(some 45), none, 1, .call 52 [(.t 43), (.t 44)]⟩,
    ⟨(some 41), none, 0, .see (.mov (.t 45))⟩,
    ⟨(some 46), none, 0, .see (.ext (.t 41) 0)⟩,
    ⟨(some 47), none, 0, .see (.ext (.t 41) 1)⟩,
    ⟨(some 48), none, 0, .see (.ext (.t 41) 2)⟩,
    ⟨(some 6), none, 0, .see (.mov (.t 46))⟩,
    ⟨(some 7), none, 0, .see (.mov (.t 47))⟩,
    ⟨(some 8), none, 0, .see (.mov (.t 48))⟩])
  (.seq (.reg [⟨(some 50), none, 0, .see (.fa 1 (.t 2))⟩,
    ⟨(some 51), none, 0, .see (.ld none (.t 50))⟩,
    ⟨(some 52), none, 0, .see (.mov (.t 1))⟩,
    ⟨(some 53), none, 2, .call 52 [(.t 51), (.t 52)]⟩,
    ⟨(some 49), none, 0, .see (.mov (.t 53))⟩,
    ⟨(some 54), none, 0, .see (.ext (.t 49) 0)⟩,
    ⟨(some 55), none, 0, .see (.ext (.t 49) 1)⟩,
    ⟨(some 56), none, 0, .see (.ext (.t 49) 2)⟩,
    ⟨(some 9), none, 0, .see (.mov (.t 54))⟩,
    ⟨(some 10), none, 0, .see (.mov (.t 55))⟩,
    ⟨(some 11), none, 0, .see (.mov (.t 56))⟩])
  (.seq (.seq (.reg [⟨(some 12), none, 0, .see (.mov (.c (.r (.v (.int .i64 (-1))))))⟩])
  (.block 0 (.loop (.seq (.seq (.reg [⟨(some 57), none, 0, .see (.mov (.t 12))⟩,
    ⟨(some 58), none, 0, .see (.bin .leq (.t 57) (.c (.r (.v (.int .i64 2)))))⟩])
  (.cond (.t 58)
    .skip
    (.exit 0)))
  (.seq (.block 1 (.seq (.reg [⟨(some 13), none, 0, .see (.mov (.c (.r (.v (.int .i64 (-1))))))⟩])
  (.block 2 (.loop (.seq (.seq (.reg [⟨(some 61), none, 0, .see (.mov (.t 13))⟩,
    ⟨(some 62), none, 0, .see (.bin .leq (.t 61) (.c (.r (.v (.int .i64 2)))))⟩])
  (.cond (.t 62)
    .skip
    (.exit 2)))
  (.seq (.block 3 (.seq (.reg [⟨(some 65), none, 0, .see (.mov (.t 7))⟩,
    ⟨(some 66), none, 0, .see (.mov (.t 12))⟩,
    ⟨(some 67), none, 0, .see (.mov (.t 1))⟩,
    ⟨(some 68), none, 0, .see (.bin .mul (.t 66) (.t 67))⟩,
    ⟨(some 69), none, 0, .see (.bin .sub (.t 65) (.t 68))⟩,
    ⟨(some 70), none, 0, .see (.mov (.t 10))⟩,
    ⟨(some 71), none, 0, .see (.mov (.t 13))⟩,
    ⟨(some 72), none, 0, .see (.mov (.t 1))⟩,
    ⟨(some 73), none, 0, .see (.bin .mul (.t 71) (.t 72))⟩,
    ⟨(some 74), none, 0, .see (.bin .sub (.t 70) (.t 73))⟩,
    ⟨(some 75), none, 0, .see (.mov (.t 1))⟩,
    ⟨(some 76), none, 3, .call 53 [(.t 69), (.t 74), (.t 75)]⟩])
  (.cond (.t 76)
    (.seq (.reg [⟨(some 77), none, 0, .see (.mov (.t 6))⟩,
    ⟨(some 78), none, 0, .see (.mov (.t 12))⟩,
    ⟨(some 79), none, 0, .see (.bin .add (.t 77) (.t 78))⟩,
    ⟨(some 80), none, 0, .see (.mov (.t 9))⟩,
    ⟨(some 81), none, 0, .see (.mov (.t 13))⟩,
    ⟨(some 82), none, 0, .see (.bin .add (.t 80) (.t 81))⟩,
    ⟨(some 83), none, 0, .see (.build [(.r (.v (.int .i64 0))), (.r (.v (.int .i64 0)))] [(0, 1, (.t 79)), (1, 1, (.t 82))])⟩,
    ⟨none, none, 0, .act (.st 2 (.t 4) (.t 83))⟩,
    ⟨(some 5), none, 0, .see (.mov (.c (.r (.v (.bool true)))))⟩])
    .ret)
    .skip)))
  (.reg [⟨(some 63), none, 0, .see (.mov (.t 13))⟩,
    ⟨(some 64), none, 0, .see (.bin .add (.t 63) (.c (.r (.v (.int .i64 1)))))⟩,
    ⟨(some 13), none, 0, .see (.mov (.t 64))⟩])))))))
  (.reg [⟨(some 59), none, 0, .see (.mov (.t 12))⟩,
    ⟨(some 60), none, 0, .see (.bin .add (.t 59) (.c (.r (.v (.int .i64 1)))))⟩,
    ⟨(some 12), none, 0, .see (.mov (.t 60))⟩]))))))
  (.seq (.reg [⟨(some 84), none, 0, .see (.build [(.r (.v (.int .i64 0))), (.r (.v (.int .i64 0)))] [])⟩,
    ⟨none, none, 0, .act (.st 2 (.t 4) (.t 84))⟩,
    ⟨(some 5), none, 0, .see (.mov (.c (.r (.v (.bool false)))))⟩])
  .ret))))))
noncomputable abbrev apiaryref1_Round_code : Code := (Go.Proofs.Try.f33.body).getD .skip
theorem apiaryref1_Round_chk : chkC Go.Proofs.Try.prog 85 apiaryref1_Round_code apiaryref1_Round_pc = true := by kernel_rfl
theorem apiaryref1_Round_triple {args : List AV} {po ro : List Ob} {res : AV} (hal : args.length = 2) (hpo : po.length ≤ 1000)
    (h : run Go.Proofs.Try.prog po.length (RetP po.length [(4, false, some (56, (some 2))), (5, false, none)] fun v os => v = res ∧ os = ro) [.c apiaryref1_Round_pc] ⟨argE 0 args, ob0 po⟩) : Triple Go.Proofs.Try.prog 33 args po res ro :=
  triple_of_W (fn := Go.Proofs.Try.f33) (c := apiaryref1_Round_code) (pc := apiaryref1_Round_pc) (rs := [(4, false, some (56, (some 2))), (5, false, none)]) Go.Proofs.Try.func33 rfl (by decide) (by have := apiaryref1_Round_chk; exact this) (by rw [hal]; decide) rfl (by kernel_rfl) (by kernel_rfl) (by decide) hpo (W_of_run h)

noncomputable def apiaryref1_World_pc : PC :=
  (.seq (.reg [⟨(some 4), none, 0, .see (.mov (.c (.r (.v (.bool false)))))⟩])
  (.seq (.reg [⟨(some 5), none, 0, .see (.mov (.t 0))⟩,
    ⟨(some 6), none, 0, .see (.bin .geq (.t 5) (.c (.r (.v (.int .i64 0)))))⟩,
    ⟨(some 7), none, 0, .see (.mov (.t 6))⟩,
    ⟨(some 8), (some (7, true)), 0, .see (.mov (.t 0))⟩,
    ⟨(some 9), (some (7, true)), 0, .see (.bin .lss (.t 8) (.c (.r (.v (.int .i64 1073741824)))))⟩,
    ⟨(some 10), none, 0, .see (.pick (.t 7) (.t 9) (.c (.r (.v (.bool false)))))⟩,
    ⟨(some 11), none, 0, .see (.mov (.t 10))⟩,
    ⟨(some 12), (some (11, true)), 0, .see (.mov (.t 1))⟩,
    ⟨(some 13), (some (11, true)), 0, .see (.bin .geq (.t 12) (.c (.r (.v (.int .i64 0)))))⟩,
    ⟨(some 14), none, 0, .see (.pick (.t 11) (.t 13) (.c (.r (.v (.bool false)))))⟩,
    ⟨(some 15), none, 0, .see (.mov (.t 14))⟩,
    ⟨(some 16), (some (15, true)), 0, .see (.mov (.t 1))⟩,
    ⟨(some 17), (some (15, true)), 0, .see (.bin .lss (.t 16) (.c (.r (.v (.int .i64 1073741824)))))⟩,
    ⟨(some 18), none, 0, .see (.pick (.t 15) (.t 17) (.c (.r (.v (.bool false)))))⟩,
    ⟨(some 4), none, 0, .see (.mov (.t 18))⟩])
  .ret))
noncomputable abbrev apiaryref1_World_code : Code := (Go.Proofs.Try.f30.body).getD .skip
theorem apiaryref1_World_chk : chkC Go.Proofs.Try.prog 19 apiaryref1_World_code apiaryref1_World_pc = true := by kernel_rfl
theorem apiaryref1_World_triple {args : List AV} {po ro : List Ob} {res : AV} (hal : args.length = 2) (hpo : po.length ≤ 1000)
    (h : run Go.Proofs.Try.prog po.length (RetP po.length [(4, false, none)] fun v os => v = res ∧ os = ro) [.c apiaryref1_World_pc] ⟨argE 0 args, ob0 po⟩) : Triple Go.Proofs.Try.prog 30 args po res ro :=
  triple_of_W (fn := Go.Proofs.Try.f30) (c := apiaryref1_World_code) (pc := apiaryref1_World_pc) (rs := [(4, false, none)]) Go.Proofs.Try.func30 rfl (by decide) (by have := apiaryref1_World_chk; exact this) (by rw [hal]; decide) rfl (by kernel_rfl) (by kernel_rfl) (by decide) hpo (W_of_run h)

noncomputable def apiaryref1_Near_pc : PC :=
  (.seq (.reg [⟨(some 6), none, 0, .act (.new [(.r (.v (.int .i64 0))), (.r (.v (.int .i64 0)))])⟩,
    ⟨(some 7), none, 0, .see (.mov (.c (.r (.v (.bool false)))))⟩])
  (.seq (.seq (.reg [⟨(some 10), none, 0, .see (.mov (.t 0))⟩,
    ⟨(some 11), none, 0, .see (.mov (.t 1))⟩,
    ⟨(some 12), none, 1, .call 30 [(.t 10), (.t 11)]⟩,
    ⟨(some 13), none, 0, .see (.un .not (.t 12))⟩,
    ⟨(some 14), none, 0, .see (.mov (.t 13))⟩,
    ⟨(some 15), (some (14, false)), 0, .see (.mov (.t 2))⟩,
    ⟨(some 16), (some (14, false)), 0, .see (.bin .lss (.t 15) (.c (.r (.v (.int .i64 0)))))⟩,
    ⟨(some 17), none, 0, .see (.pick (.t 14) (.c (.r (.v (.bool true)))) (.t 16))⟩,
    ⟨(some 18), none, 0, .see (.mov (.t 17))⟩,
    ⟨(some 19), (some (18, false)), 0, .see (.mov (.t 2))⟩,
    ⟨(some 20), (some (18, false)), 0, .see (.bin .gtr (.t 19) (.c (.r (.v (.int .i64 12)))))⟩,
    ⟨(some 21), none, 0, .see (.pick (.t 18) (.c (.r (.v (.bool true)))) (.t 20))⟩])
  (.cond (.t 21)
    (.seq (.reg [⟨(some 22), none, 0, .see (.build [(.r (.v (.int .i64 0))), (.r (.v (.int .i64 0)))] [])⟩,
    ⟨none, none, 0, .act (.st 2 (.t 6) (.t 22))⟩,
    ⟨(some 7), none, 0, .see (.mov (.c (.r (.v (.bool false)))))⟩])
    .ret)
    .skip))
  (.seq (.reg [⟨(some 24), none, 0, .see (.mov (.t 0))⟩,
    ⟨(some 25), none, 0, .see (.bin .mul (.c (.r (.v (.int .i64 45)))) (.t 24))⟩,
    ⟨(some 26), none, 0, .see (.mov (.t 1))⟩,
    ⟨(some 27), none, 0, .see (.bin .mul (.c (.r (.v (.int .i64 26)))) (.t 26))⟩,
    ⟨(some 28), none, 0, .see (.bin .sub (.t 25) (.t 27))⟩,
    ⟨(some 29), none, 0, .see (.mov (.t 1))⟩,
    ⟨(some 30), none, 0, .see (.bin .mul (.c (.r (.v (.int .i64 52)))) (.t 29))⟩,
    ⟨(some 31), none, 0, .see (.build [(.r (.v (.int .i64 0))), (.r (.v (.int .i64 0)))] [(0, 1, (.t 28)), (1, 1, (.t 30))])⟩,
    ⟨(some 32), none, 0, .see (.mov (.t 2))⟩,
    ⟨(some 33), none, 0, .see (.bin .sub (.c (.r (.v (.int .i64 12)))) (.t 32))⟩,
    ⟨(some 34), none, 2, .call 32 [(.t 33)]⟩,
    ⟨(some 35), none, 3, .call 31 [(.t 31), (.t 34)]⟩,
    ⟨(some 23), none, 0, .see (.mov (.t 35))⟩,
    ⟨(some 36), none, 0, .see (.ext (.t 23) 0)⟩,
    ⟨(some 37), none, 0, .see (.ext (.t 23) 1)⟩,
    ⟨(some 8), none, 0, .act (.new [(.r (.v (.int .i64 0))), (.r (.v (.int .i64 0)))])⟩,
    ⟨none, none, 0, .act (.st 2 (.t 8) (.t 36))⟩,
    ⟨(some 9), none, 0, .see (.mov (.t 37))⟩])
  (.seq (.drw [⟨(some 38), none, 0, .see (.ld (some 2) (.t 8))⟩,
    ⟨(some 39), none, 0, .see (.mov (.t 2))⟩,
    ⟨(some 40), none, 0, .see (.bin .sub (.c (.r (.v (.int .i64 12)))) (.t 39))⟩,
    ⟨(some 41), none, 4, .call 34 [(.t 40)]⟩,
    ⟨(some 42), none, 0, .see (.bin .mul (.c (.r (.v (.int .i64 2340)))) (.t 41))⟩,
    ⟨(some 43), none, 5, .call 33 [(.t 38), (.t 42)]⟩,
    ⟨(some 44), none, 0, .see (.ext (.t 43) 0)⟩,
    ⟨(some 45), none, 0, .see (.ext (.t 43) 1)⟩,
    ⟨none, none, 0, .act (.st 2 (.t 6) (.t 44))⟩,
    ⟨(some 7), none, 0, .see (.mov (.t 45))⟩]
    [[], [], [1], [1, 2], [1, 2, 3], [0, 1, 2, 3, 4], [0, 1, 2, 3, 4, 5], [0, 1, 2, 3, 4, 5], [0, 1, 2, 3, 4, 5, 6, 7], [0, 1, 2, 3, 4, 5, 6, 7, 8]])
  .ret))))
noncomputable abbrev apiaryref1_Near_code : Code := (Go.Proofs.Try.f19.body).getD .skip
theorem apiaryref1_Near_chk : chkC Go.Proofs.Try.prog 46 apiaryref1_Near_code apiaryref1_Near_pc = true := by kernel_rfl
theorem apiaryref1_Near_triple {args : List AV} {po ro : List Ob} {res : AV} (hal : args.length = 3) (hpo : po.length ≤ 1000)
    (h : run Go.Proofs.Try.prog po.length (RetP po.length [(6, false, some (56, (some 2))), (7, false, none)] fun v os => v = res ∧ os = ro) [.c apiaryref1_Near_pc] ⟨argE 0 args, ob0 po⟩) : Triple Go.Proofs.Try.prog 19 args po res ro :=
  triple_of_W (fn := Go.Proofs.Try.f19) (c := apiaryref1_Near_code) (pc := apiaryref1_Near_pc) (rs := [(6, false, some (56, (some 2))), (7, false, none)]) Go.Proofs.Try.func19 rfl (by decide) (by have := apiaryref1_Near_chk; exact this) (by rw [hal]; decide) rfl (by kernel_rfl) (by kernel_rfl) (by decide) hpo (W_of_run h)

set_option maxRecDepth 100000 in
theorem rfloor_t (a b : Int) (ha : in64 a) (hb : in64 b) : Triple Go.Proofs.Try.prog 52 [int .i64 a, int .i64 b] [] (.tup [int .i64 (if 0 < b then a / b else 0), int .i64 (if 0 < b then a % b else 0), bl (decide (0 < b))]) [] := by
  refine apiaryref1_Floor_triple rfl (by decide) ?_
  simp only [apiaryref1_Floor_pc, List.length_nil, push_cast, ↓reduceIte, reduceCtorEq, Nat.reduceBEq, Nat.reduceEqDiff, Nat.reduceAdd, Nat.reduceSub, Nat.reduceLT, Nat.reduceLeDiff, Nat.reduceMul]
  refine cnd_mk (fun h => ?_) (fun h => ?_)
  · simp only [push_cast, ↓reduceIte, reduceCtorEq, Nat.reduceBEq, Nat.reduceEqDiff, Nat.reduceAdd, Nat.reduceSub, Nat.reduceLT, Nat.reduceLeDiff, Nat.reduceMul]
    simp at h
    have : ¬ 0 < b := by omega
    simp [this]
  · simp only [push_cast, ↓reduceIte, reduceCtorEq, Nat.reduceBEq, Nat.reduceEqDiff, Nat.reduceAdd, Nat.reduceSub, Nat.reduceLT, Nat.reduceLeDiff, Nat.reduceMul]
    simp at h
    refine ⟨by omega, by omega, by kernel_rfl, ?_⟩
    obtain ⟨q1, q2, q3⟩ := floor_facts ha h
    have hw : IntKind.i64.wrap (a.tdiv b) = a.tdiv b := wrap_i64_tdiv a b ha.1 ha.2 (by omega)
    rw [hw]
    refine cnd_mk (fun h' => ?_) (fun h' => ?_)
    · simp only [push_cast, ↓reduceIte, reduceCtorEq, Nat.reduceBEq, Nat.reduceEqDiff, Nat.reduceAdd, Nat.reduceSub, Nat.reduceLT, Nat.reduceLeDiff, Nat.reduceMul]
      simp at h'
      obtain ⟨e1, e2⟩ := q2 h'
      refine tup3 (int_eq ?_) (int_eq ?_) (bl_eq ?_)
      · rw [if_pos h, ← e1, wrap_id]
        unfold in64 at ha; rw [e1]; omega
      · rw [if_pos h, ← e2, wrap_id]
        have h5 := Int.emod_lt_of_pos a h
        have h6 := Int.emod_nonneg a (show b ≠ 0 by omega)
        rw [e2]
        unfold in64 at hb; omega
      · simp [h]
    · simp only [push_cast, ↓reduceIte, reduceCtorEq, Nat.reduceBEq, Nat.reduceEqDiff, Nat.reduceAdd, Nat.reduceSub, Nat.reduceLT, Nat.reduceLeDiff, Nat.reduceMul]
      simp at h'
      obtain ⟨e1, e2⟩ := q3 h'
      refine tup3 (int_eq ?_) (int_eq ?_) (bl_eq ?_)
      · rw [if_pos h, e1]
      · rw [if_pos h, e2]
      · simp [h]

set_option maxRecDepth 100000 in
theorem rtwo_t (a b : Int) (ha : in64 a) (hb : in64 b) : Triple Go.Proofs.Try.prog 48 [wide a, wide b] [] (.tup [Ei.v ⟨a, b⟩, bl true]) [] := by
  refine apiaryref1_Two_triple rfl (by decide) ?_
  simp only [apiaryref1_Two_pc, wide, List.length_nil, push_cast, ↓reduceIte, reduceCtorEq, Nat.reduceBEq, Nat.reduceEqDiff, Nat.reduceAdd, Nat.reduceSub, Nat.reduceLT, Nat.reduceLeDiff, Nat.reduceMul]
  have ha' := ha
  have hb' := hb
  unfold in64 at ha' hb'
  refine call_as (as' := [wide a]) rfl ?_
  refine call_mk (small_t a (by omega)) rfl trivial ?_
  rw [sm_in ha]
  simp only [push_cast, ↓reduceIte, reduceCtorEq, Nat.reduceBEq, Nat.reduceEqDiff, Nat.reduceAdd, Nat.reduceSub, Nat.reduceLT, Nat.reduceLeDiff, Nat.reduceMul]
  refine call_as (as' := [wide b]) rfl ?_
  refine call_mk (small_t b (by omega)) rfl trivial ?_
  rw [sm_in hb]
  simp only [Ei.v, Ei.rv, push_cast, ↓reduceIte, reduceCtorEq, Nat.reduceBEq, Nat.reduceEqDiff, Nat.reduceAdd, Nat.reduceSub, Nat.reduceLT, Nat.reduceLeDiff, Nat.reduceMul]
set_option maxRecDepth 100000 in
theorem rmul_t (x y : Ei) (hx : x.In M63) (hy : y.In M63) (hz : (x.mul y).In M63) : Triple Go.Proofs.Try.prog 31 [x.v, y.v] [] (.tup [(x.mul y).v, bl true]) [] := by
  refine apiaryref1_Mul_triple rfl (by decide) ?_
  simp only [apiaryref1_Mul_pc, Ei.v, Ei.rv, List.length_nil, push_cast, ↓reduceIte, reduceCtorEq, Nat.reduceBEq, Nat.reduceEqDiff, Nat.reduceAdd, Nat.reduceSub, Nat.reduceLT, Nat.reduceLeDiff, Nat.reduceMul]
  refine call_mk (times_t x.b y.b hx.ok.2 hy.ok.2) rfl trivial ?_
  simp only [wide, push_cast, ↓reduceIte, reduceCtorEq, Nat.reduceBEq, Nat.reduceEqDiff, Nat.reduceAdd, Nat.reduceSub, Nat.reduceLT, Nat.reduceLeDiff, Nat.reduceMul]
  refine dcall_mk (times_t x.a y.a hx.ok.1 hy.ok.1) rfl trivial ?_
  simp only [wide, push_cast, ↓reduceIte, reduceCtorEq, Nat.reduceBEq, Nat.reduceEqDiff, Nat.reduceAdd, Nat.reduceSub, Nat.reduceLT, Nat.reduceLeDiff, Nat.reduceMul]
  refine dcall_as (as' := [wide (x.b * y.b)]) rfl ?_
  refine dcall_mk (turned_t _) rfl trivial ?_
  simp only [wide, push_cast, ↓reduceIte, reduceCtorEq, Nat.reduceBEq, Nat.reduceEqDiff, Nat.reduceAdd, Nat.reduceSub, Nat.reduceLT, Nat.reduceLeDiff, Nat.reduceMul]
  refine dcall_as (as' := [wide (x.a * y.a), wide (-(x.b * y.b))]) rfl ?_
  refine dcall_mk (plus_t _ _) rfl trivial ?_
  simp only [wide, push_cast, ↓reduceIte, reduceCtorEq, Nat.reduceBEq, Nat.reduceEqDiff, Nat.reduceAdd, Nat.reduceSub, Nat.reduceLT, Nat.reduceLeDiff, Nat.reduceMul]
  refine dcall_mk (times_t x.a y.b hx.ok.1 hy.ok.2) rfl trivial ?_
  simp only [wide, push_cast, ↓reduceIte, reduceCtorEq, Nat.reduceBEq, Nat.reduceEqDiff, Nat.reduceAdd, Nat.reduceSub, Nat.reduceLT, Nat.reduceLeDiff, Nat.reduceMul]
  refine dcall_mk (times_t x.b y.a hx.ok.2 hy.ok.1) rfl trivial ?_
  simp only [wide, push_cast, ↓reduceIte, reduceCtorEq, Nat.reduceBEq, Nat.reduceEqDiff, Nat.reduceAdd, Nat.reduceSub, Nat.reduceLT, Nat.reduceLeDiff, Nat.reduceMul]
  refine dcall_as (as' := [wide (x.a * y.b), wide (x.b * y.a)]) rfl ?_
  refine dcall_mk (plus_t _ _) rfl trivial ?_
  simp only [wide, push_cast, ↓reduceIte, reduceCtorEq, Nat.reduceBEq, Nat.reduceEqDiff, Nat.reduceAdd, Nat.reduceSub, Nat.reduceLT, Nat.reduceLeDiff, Nat.reduceMul]
  refine dcall_as (as' := [wide (x.a * y.b + x.b * y.a), wide (x.b * y.b)]) rfl ?_
  refine dcall_mk (plus_t _ _) rfl trivial ?_
  simp only [wide, push_cast, ↓reduceIte, reduceCtorEq, Nat.reduceBEq, Nat.reduceEqDiff, Nat.reduceAdd, Nat.reduceSub, Nat.reduceLT, Nat.reduceLeDiff, Nat.reduceMul]
  refine dcall_as (as' := [wide (x.a * y.a + -(x.b * y.b)), wide (x.a * y.b + x.b * y.a + x.b * y.b)]) rfl ?_
  have e : x.a * y.a + -(x.b * y.b) = (x.mul y).a := by simp only [Ei.mul]; omega
  have e' : x.a * y.b + x.b * y.a + x.b * y.b = (x.mul y).b := rfl
  rw [e, e']
  refine dcall_mk (rtwo_t _ _ hz.ok.1 hz.ok.2) rfl trivial ?_
  simp only [Ei.v, Ei.rv, push_cast, ↓reduceIte, reduceCtorEq, Nat.reduceBEq, Nat.reduceEqDiff, Nat.reduceAdd, Nat.reduceSub, Nat.reduceLT, Nat.reduceLeDiff, Nat.reduceMul]
  kernel_rfl
set_option maxRecDepth 100000 in
theorem rbeta_t (k : Int) (hk : 0 ≤ k ∧ k ≤ 12) : Triple Go.Proofs.Try.prog 51 [int .i64 k] [] (.tup [(betaN k.toNat).v, bl true]) [] := by
  refine apiaryref1_Beta_triple rfl (by decide) ?_
  have c1 : decide (k < 0) = false := by simp; omega
  have c2 : decide (k > 20) = false := by simp; omega
  simp only [apiaryref1_Beta_pc, List.length_nil, c1, c2, push_cast, ↓reduceIte, reduceCtorEq, Nat.reduceBEq, Nat.reduceEqDiff, Nat.reduceAdd, Nat.reduceSub, Nat.reduceLT, Nat.reduceLeDiff, Nat.reduceMul]
  refine run_loop [(5, false), (0, false), (4, false), (2, false)] (fun vs pos los => ∃ i : Int, 0 ≤ i ∧ i ≤ k ∧ vs = [int .i64 i, int .i64 k, .ptr 2000000 0 0, .ptr 2000001 0 0] ∧ pos = [] ∧ los = [.box [int .i64 (betaN i.toNat).a, int .i64 (betaN i.toNat).b], .box [int .i64 0, int .i64 0]])
    (fun vs _ _ => match vs with | .r (.v (.int _ j)) :: _ => (k - j).toNat | _ => 0) rfl ?_ ?_
  · simp only [push_cast, ↓reduceIte, reduceCtorEq, Nat.reduceBEq, Nat.reduceEqDiff, Nat.reduceAdd, Nat.reduceSub, Nat.reduceLT, Nat.reduceLeDiff, Nat.reduceMul]
    exact ⟨0, by omega, by omega, rfl, rfl⟩
  · rintro vs pos los ⟨i, i0, ik, rfl, rfl, rfl⟩
    simp only [push_cast, ↓reduceIte, reduceCtorEq, Nat.reduceBEq, Nat.reduceEqDiff, Nat.reduceAdd, Nat.reduceSub, Nat.reduceLT, Nat.reduceLeDiff, Nat.reduceMul]
    refine cnd_mk (fun h => ?_) (fun h => ?_)
    · simp only [decide_eq_true_eq] at h
      simp only [push_cast, ↓reduceIte, reduceCtorEq, Nat.reduceBEq, Nat.reduceEqDiff, Nat.reduceAdd, Nat.reduceSub, Nat.reduceLT, Nat.reduceLeDiff, Nat.reduceMul]
      have h1 := betaN_in i.toNat (by omega)
      have h2 := betaN_in (i.toNat + 1) (by omega)
      refine call_as (as' := [(betaN i.toNat).v, beta.v]) rfl ?_
      refine call_mk (rmul_t _ _ (h1.mono (by decide)) (by unfold Ei.In; decide) (h2.mono (by decide))) rfl trivial ?_
      simp only [Ei.v, Ei.rv, push_cast, ↓reduceIte, reduceCtorEq, Nat.reduceBEq, Nat.reduceEqDiff, Nat.reduceAdd, Nat.reduceSub, Nat.reduceLT, Nat.reduceLeDiff, Nat.reduceMul]
      rw [show IntKind.i64.wrap (i + 1) = i + 1 from wrap_id (by omega)]
      refine ⟨⟨i + 1, by omega, by omega, rfl, ?_⟩, by omega⟩
      rw [show (i + 1).toNat = i.toNat + 1 by omega]
      rfl
    · simp only [decide_eq_false_iff_not] at h
      have : i = k := by omega
      subst this
      simp only [Ei.v, Ei.rv, push_cast, ↓reduceIte, reduceCtorEq, Nat.reduceBEq, Nat.reduceEqDiff, Nat.reduceAdd, Nat.reduceSub, Nat.reduceLT, Nat.reduceLeDiff, Nat.reduceMul]
set_option maxRecDepth 100000 in
theorem rconj_t (k : Int) (hk : 0 ≤ k ∧ k ≤ 12) : Triple Go.Proofs.Try.prog 32 [int .i64 k] [] ((betaN k.toNat).conj.v) [] := by
  refine apiaryref1_conj_triple rfl (by decide) ?_
  simp only [apiaryref1_conj_pc, List.length_nil, push_cast, ↓reduceIte, reduceCtorEq, Nat.reduceBEq, Nat.reduceEqDiff, Nat.reduceAdd, Nat.reduceSub, Nat.reduceLT, Nat.reduceLeDiff, Nat.reduceMul]
  refine call_mk (rbeta_t k hk) rfl trivial ?_
  have hb := betaN_in k.toNat (by omega)
  unfold Ei.In at hb
  simp only [Ei.v, Ei.rv, Ei.conj, push_cast, ↓reduceIte, reduceCtorEq, Nat.reduceBEq, Nat.reduceEqDiff, Nat.reduceAdd, Nat.reduceSub, Nat.reduceLT, Nat.reduceLeDiff, Nat.reduceMul]
  rw [wrap_id (by omega), wrap_id (by omega), Int.zero_sub]
set_option maxRecDepth 100000 in
theorem rsize_t (n : Int) (h : in64 n) (h' : n ≠ -9223372036854775808) : Triple Go.Proofs.Try.prog 70 [int .i64 n] [] (int .i64 n.natAbs) [] := by
  refine apiaryref1_size_triple rfl (by decide) ?_
  simp only [apiaryref1_size_pc, List.length_nil, push_cast, ↓reduceIte, reduceCtorEq, Nat.reduceBEq, Nat.reduceEqDiff, Nat.reduceAdd, Nat.reduceSub, Nat.reduceLT, Nat.reduceLeDiff, Nat.reduceMul]
  unfold in64 at h
  refine cnd_mk (fun hc => ?_) (fun hc => ?_)
  · simp at hc
    simp only [push_cast, ↓reduceIte, reduceCtorEq, Nat.reduceBEq, Nat.reduceEqDiff, Nat.reduceAdd, Nat.reduceSub, Nat.reduceLT, Nat.reduceLeDiff, Nat.reduceMul]
    rw [wrap_id (by omega)]
    rw [show 0 - n = (n.natAbs : Int) by omega]
  · simp at hc
    simp only [push_cast, ↓reduceIte, reduceCtorEq, Nat.reduceBEq, Nat.reduceEqDiff, Nat.reduceAdd, Nat.reduceSub, Nat.reduceLT, Nat.reduceLeDiff, Nat.reduceMul]
    rw [show n = (n.natAbs : Int) by omega]
    simp
set_option maxRecDepth 100000 in
theorem rholds_t (s t d : Int) (hs : -9007199254740992 ≤ s ∧ s ≤ 9007199254740992) (ht : -9007199254740992 ≤ t ∧ t ≤ 9007199254740992) : Triple Go.Proofs.Try.prog 53 [int .i64 s, int .i64 t, int .i64 d] [] (bl (decide (holds d s t))) [] := by
  refine apiaryref1_holds_triple rfl (by decide) ?_
  simp only [apiaryref1_holds_pc, List.length_nil, push_cast, ↓reduceIte, reduceCtorEq, Nat.reduceBEq, Nat.reduceEqDiff, Nat.reduceAdd, Nat.reduceSub, Nat.reduceLT, Nat.reduceLeDiff, Nat.reduceMul]
  rw [show IntKind.i64.wrap (2 * s) = 2 * s from wrap_id (by omega), show IntKind.i64.wrap (2 * s + t) = 2 * s + t from wrap_id (by omega)]
  refine call_mk (rsize_t _ (by unfold in64; omega) (by omega)) rfl trivial ?_
  by_cases h1 : ((2 * s + t).natAbs : Int) ≤ d
  · have g1 : decide (((2 * s + t).natAbs : Int) ≤ d) = true := decide_eq_true h1
    simp only [g1, push_cast, ↓reduceIte, reduceCtorEq, Nat.reduceBEq, Nat.reduceEqDiff, Nat.reduceAdd, Nat.reduceSub, Nat.reduceLT, Nat.reduceLeDiff, Nat.reduceMul]
    rw [show IntKind.i64.wrap (2 * t) = 2 * t from wrap_id (by omega), show IntKind.i64.wrap (s + 2 * t) = s + 2 * t from wrap_id (by omega)]
    refine call_mk (rsize_t _ (by unfold in64; omega) (by omega)) rfl trivial ?_
    by_cases h2 : ((s + 2 * t).natAbs : Int) ≤ d
    · have g2 : decide (((s + 2 * t).natAbs : Int) ≤ d) = true := decide_eq_true h2
      simp only [g2, push_cast, ↓reduceIte, reduceCtorEq, Nat.reduceBEq, Nat.reduceEqDiff, Nat.reduceAdd, Nat.reduceSub, Nat.reduceLT, Nat.reduceLeDiff, Nat.reduceMul]
      rw [show IntKind.i64.wrap (s - t) = s - t from wrap_id (by omega)]
      refine call_mk (rsize_t _ (by unfold in64; omega) (by omega)) rfl trivial ?_
      simp only [push_cast, ↓reduceIte, reduceCtorEq, Nat.reduceBEq, Nat.reduceEqDiff, Nat.reduceAdd, Nat.reduceSub, Nat.reduceLT, Nat.reduceLeDiff, Nat.reduceMul]
      refine bl_iff ?_
      simp only [decide_eq_true_eq]
      unfold holds
      omega
    · have g2 : decide (((s + 2 * t).natAbs : Int) ≤ d) = false := decide_eq_false h2
      simp only [g2, push_cast, ↓reduceIte, reduceCtorEq, Nat.reduceBEq, Nat.reduceEqDiff, Nat.reduceAdd, Nat.reduceSub, Nat.reduceLT, Nat.reduceLeDiff, Nat.reduceMul]
      rw [decide_eq_false (show ¬ holds d s t by unfold holds; omega)]
  · have g1 : decide (((2 * s + t).natAbs : Int) ≤ d) = false := decide_eq_false h1
    simp only [g1, push_cast, ↓reduceIte, reduceCtorEq, Nat.reduceBEq, Nat.reduceEqDiff, Nat.reduceAdd, Nat.reduceSub, Nat.reduceLT, Nat.reduceLeDiff, Nat.reduceMul]
    rw [decide_eq_false (show ¬ holds d s t by unfold holds; omega)]
set_option maxRecDepth 100000 in
theorem rround_t (u : Ei) (d : Int) (hu : u.In 1152921504606846976) (hd : 1 ≤ d ∧ d ≤ 1125899906842624) : Triple Go.Proofs.Try.prog 33 [u.v, int .i64 d] [] (.tup [(u.round d).v, bl true]) [] := by
  refine apiaryref1_Round_triple rfl (by decide) ?_
  have hu' := hu
  unfold Ei.In at hu'
  have c1 : decide (d < 1) = false := by simp; omega
  have c2 : decide (d > 1125899906842624) = false := by simp; omega
  have c3 : decide (u.a < -1152921504606846976) = false := by simp; omega
  have c4 : decide (u.a > 1152921504606846976) = false := by simp; omega
  have c5 : decide (u.b < -1152921504606846976) = false := by simp; omega
  have c6 : decide (u.b > 1152921504606846976) = false := by simp; omega
  have ia : in64 u.a := by unfold in64; omega
  have ib : in64 u.b := by unfold in64; omega
  have ed : in64 d := by unfold in64; omega
  simp only [apiaryref1_Round_pc, Ei.v, Ei.rv, List.length_nil, c1, c2, c3, c4, c5, c6, push_cast, ↓reduceIte, reduceCtorEq, Nat.reduceBEq, Nat.reduceEqDiff, Nat.reduceAdd, Nat.reduceSub, Nat.reduceLT, Nat.reduceLeDiff, Nat.reduceMul]
  refine call_mk (rfloor_t _ _ ia ed) rfl trivial ?_
  have hd0 : 0 < d := by omega
  simp only [hd0, if_true, push_cast, ↓reduceIte, reduceCtorEq, Nat.reduceBEq, Nat.reduceEqDiff, Nat.reduceAdd, Nat.reduceSub, Nat.reduceLT, Nat.reduceLeDiff, Nat.reduceMul]
  refine call_mk (rfloor_t _ _ ib ed) rfl trivial ?_
  simp only [hd0, if_true, push_cast, ↓reduceIte, reduceCtorEq, Nat.reduceBEq, Nat.reduceEqDiff, Nat.reduceAdd, Nat.reduceSub, Nat.reduceLT, Nat.reduceLeDiff, Nat.reduceMul]
  have ha : 0 ≤ u.a % d ∧ u.a % d < d := ⟨Int.emod_nonneg _ (by omega), Int.emod_lt_of_pos _ hd0⟩
  have hb : 0 ≤ u.b % d ∧ u.b % d < d := ⟨Int.emod_nonneg _ (by omega), Int.emod_lt_of_pos _ hd0⟩
  have hqa : -1152921504606846976 ≤ u.a / d ∧ u.a / d ≤ 1152921504606846976 := div_in hu'.1 hd.1
  have hqb : -1152921504606846976 ≤ u.b / d ∧ u.b / d ≤ 1152921504606846976 := div_in hu'.2 hd.1
  have hround : u.round d = ⟨u.a / d + (near0 d (u.a % d) (u.b % d)).a, u.b / d + (near0 d (u.a % d) (u.b % d)).b⟩ := rfl
  generalize u.a % d = a at *
  generalize u.b % d = b at *
  generalize u.a / d = qa at *
  generalize u.b / d = qb at *
  have hmul : ∀ i : Int, -1 ≤ i → i ≤ 2 → -1125899906842624 ≤ i * d ∧ i * d ≤ 2251799813685248 := fun i h1 h2 => by
    rcases (show i = -1 ∨ i = 0 ∨ i = 1 ∨ i = 2 by omega) with rfl | rfl | rfl | rfl <;> omega
  refine run_loop [(12, false), (1, false), (6, false), (7, false), (9, false), (10, false), (4, false)] (fun vs pos los => ∃ i : Int, (-1 ≤ i ∧ i ≤ 3) ∧ (∀ i' k' : Int, -1 ≤ i' → i' < i → -1 ≤ k' → k' ≤ 2 → ¬ holds d (a - i' * d) (b - k' * d)) ∧ vs = [int .i64 i, int .i64 d, int .i64 qa, int .i64 a, int .i64 qb, int .i64 b, .ptr 2000000 0 0] ∧ pos = [] ∧ los = [.box [int .i64 0, int .i64 0]])
    (fun vs _ _ => match vs with | .r (.v (.int _ j)) :: _ => (3 - j).toNat | _ => 0) rfl ?_ ?_
  · simp only [push_cast, ↓reduceIte, reduceCtorEq, Nat.reduceBEq, Nat.reduceEqDiff, Nat.reduceAdd, Nat.reduceSub, Nat.reduceLT, Nat.reduceLeDiff, Nat.reduceMul]
    exact ⟨-1, by omega, fun i' k' h1 h2 => by omega, rfl⟩
  · rintro vs pos los ⟨i, i3, hno, rfl, rfl, rfl⟩
    simp only [push_cast, ↓reduceIte, reduceCtorEq, Nat.reduceBEq, Nat.reduceEqDiff, Nat.reduceAdd, Nat.reduceSub, Nat.reduceLT, Nat.reduceLeDiff, Nat.reduceMul]
    refine cnd_mk (fun h => ?_) (fun h => ?_)
    · have hi : i ≤ 2 := by simpa using h
      have mi := hmul i i3.1 hi
      simp only [push_cast, ↓reduceIte, reduceCtorEq, Nat.reduceBEq, Nat.reduceEqDiff, Nat.reduceAdd, Nat.reduceSub, Nat.reduceLT, Nat.reduceLeDiff, Nat.reduceMul]
      refine run_loop [(13, false), (12, false), (1, false), (6, false), (7, false), (9, false), (10, false), (4, false)] (fun vs pos los => ∃ k : Int, (-1 ≤ k ∧ k ≤ 3) ∧ (∀ k' : Int, -1 ≤ k' → k' < k → ¬ holds d (a - i * d) (b - k' * d)) ∧ vs = [int .i64 k, int .i64 i, int .i64 d, int .i64 qa, int .i64 a, int .i64 qb, int .i64 b, .ptr 2000000 0 0] ∧ pos = [] ∧ los = [.box [int .i64 0, int .i64 0]])
        (fun vs _ _ => match vs with | .r (.v (.int _ j)) :: _ => (3 - j).toNat | _ => 0) rfl ?_ ?_
      · simp only [push_cast, ↓reduceIte, reduceCtorEq, Nat.reduceBEq, Nat.reduceEqDiff, Nat.reduceAdd, Nat.reduceSub, Nat.reduceLT, Nat.reduceLeDiff, Nat.reduceMul]
        exact ⟨-1, by omega, fun k' h1 h2 => by omega, rfl⟩
      · rintro vs pos los ⟨k, k3, hnk, rfl, rfl, rfl⟩
        simp only [push_cast, ↓reduceIte, reduceCtorEq, Nat.reduceBEq, Nat.reduceEqDiff, Nat.reduceAdd, Nat.reduceSub, Nat.reduceLT, Nat.reduceLeDiff, Nat.reduceMul]
        refine cnd_mk (fun h => ?_) (fun h => ?_)
        · have hk : k ≤ 2 := by simpa using h
          have mk := hmul k k3.1 hk
          simp only [push_cast, ↓reduceIte, reduceCtorEq, Nat.reduceBEq, Nat.reduceEqDiff, Nat.reduceAdd, Nat.reduceSub, Nat.reduceLT, Nat.reduceLeDiff, Nat.reduceMul]
          rw [show IntKind.i64.wrap (i * d) = i * d from wrap_id (by omega), show IntKind.i64.wrap (k * d) = k * d from wrap_id (by omega), show IntKind.i64.wrap (a - i * d) = a - i * d from wrap_id (by omega), show IntKind.i64.wrap (b - k * d) = b - k * d from wrap_id (by omega)]
          refine call_mk (rholds_t _ _ d (by omega) (by omega)) rfl trivial ?_
          simp only [push_cast, ↓reduceIte, reduceCtorEq, Nat.reduceBEq, Nat.reduceEqDiff, Nat.reduceAdd, Nat.reduceSub, Nat.reduceLT, Nat.reduceLeDiff, Nat.reduceMul]
          refine cnd_mk (fun h => ?_) (fun h => ?_)
          · have hh : holds d (a - i * d) (b - k * d) := by simpa using h
            have hn := near0_first ha hb ⟨i3.1, hi⟩ ⟨k3.1, hk⟩ hh (fun k' h1 h2 => hnk k' h1 h2) (fun i' k' h1 h2 h3 h4 => hno i' k' h1 h2 h3 h4)
            rw [hn] at hround
            simp only [hround, Ei.v, Ei.rv, push_cast, ↓reduceIte, reduceCtorEq, Nat.reduceBEq, Nat.reduceEqDiff, Nat.reduceAdd, Nat.reduceSub, Nat.reduceLT, Nat.reduceLeDiff, Nat.reduceMul]
            rw [wrap_id (by omega), wrap_id (by omega)]
          · have hh : ¬ holds d (a - i * d) (b - k * d) := by simpa using h
            simp only [push_cast, ↓reduceIte, reduceCtorEq, Nat.reduceBEq, Nat.reduceEqDiff, Nat.reduceAdd, Nat.reduceSub, Nat.reduceLT, Nat.reduceLeDiff, Nat.reduceMul]
            rw [wrap_id (by omega)]
            refine ⟨⟨k + 1, by omega, fun k' h1 h2 => ?_, rfl⟩, by omega⟩
            by_cases hkk : k' = k
            · subst hkk; exact hh
            · exact hnk k' h1 (by omega)
        · have hk : k = 3 := by simp at h; omega
          subst hk
          simp only [push_cast, ↓reduceIte, reduceCtorEq, Nat.reduceBEq, Nat.reduceEqDiff, Nat.reduceAdd, Nat.reduceSub, Nat.reduceLT, Nat.reduceLeDiff, Nat.reduceMul]
          rw [wrap_id (by omega)]
          refine ⟨⟨i + 1, by omega, fun i' k' h1 h2 h3 h4 => ?_, rfl⟩, by omega⟩
          by_cases hii : i' = i
          · subst hii; exact hnk k' h3 (by omega)
          · exact hno i' k' h1 (by omega) h3 h4
    · have hi : i = 3 := by simp at h; omega
      subst hi
      exact (near0_ex ha hb hno).elim
theorem rworld_t (x y : Int) : Triple Go.Proofs.Try.prog 30 [int .i64 x, int .i64 y] [] (bl (decide (inW x y))) [] := by
  refine apiaryref1_World_triple rfl (by decide) ?_
  simp only [apiaryref1_World_pc, List.length_nil, push_cast, ↓reduceIte, reduceCtorEq, Nat.reduceBEq, Nat.reduceEqDiff, Nat.reduceAdd, Nat.reduceSub, Nat.reduceLT, Nat.reduceLeDiff, Nat.reduceMul]
  repeat refine And.intro (by simp +contextual) ?_
  refine bl_iff ?_
  unfold inW
  by_cases h1 : 0 ≤ x <;> by_cases h2 : x < 1073741824 <;> by_cases h3 : 0 ≤ y <;> by_cases h4 : y < 1073741824 <;> simp [h1, h2, h3, h4]
set_option maxRecDepth 100000 in
theorem rnear_t (x y r : Int) (h : inW x y) (hr : 0 ≤ r ∧ r ≤ 12) : Triple Go.Proofs.Try.prog 19 [int .i64 x, int .i64 y, int .i64 r] [] (.tup [(near x y r.toNat).v, bl true]) [] := by
  refine apiaryref1_Near_triple rfl (by decide) ?_
  have c1 : decide (r < 0) = false := by simp; omega
  have c2 : decide (r > 12) = false := by simp; omega
  simp only [apiaryref1_Near_pc, List.length_nil, push_cast, ↓reduceIte, reduceCtorEq, Nat.reduceBEq, Nat.reduceEqDiff, Nat.reduceAdd, Nat.reduceSub, Nat.reduceLT, Nat.reduceLeDiff, Nat.reduceMul]
  refine call_mk (rworld_t x y) rfl trivial ?_
  rw [decide_eq_true h]
  simp only [c1, c2, push_cast, ↓reduceIte, reduceCtorEq, Nat.reduceBEq, Nat.reduceEqDiff, Nat.reduceAdd, Nat.reduceSub, Nat.reduceLT, Nat.reduceLeDiff, Nat.reduceMul]
  have hk : (12 - r).toNat = 12 - r.toNat := by omega
  have hk2 : (12 - r).toNat ≤ 12 := by omega
  have h' := h
  unfold inW at h'
  rw [show IntKind.i64.wrap (45 * x) = 45 * x from wrap_id (by omega), show IntKind.i64.wrap (26 * y) = 26 * y from wrap_id (by omega), show IntKind.i64.wrap (52 * y) = 52 * y from wrap_id (by omega), show IntKind.i64.wrap (45 * x - 26 * y) = 45 * x - 26 * y from wrap_id (by omega), show IntKind.i64.wrap (12 - r) = 12 - r from wrap_id (by omega)]
  refine call_mk (rconj_t (12 - r) (by omega)) rfl trivial ?_
  have hb := betaN_in (12 - r).toNat hk2
  have hm := axm_In h hk2
  simp only [Ei.v, Ei.rv, push_cast, ↓reduceIte, reduceCtorEq, Nat.reduceBEq, Nat.reduceEqDiff, Nat.reduceAdd, Nat.reduceSub, Nat.reduceLT, Nat.reduceLeDiff, Nat.reduceMul]
  refine call_as (as' := [(ax x y).v, (betaN (12 - r).toNat).conj.v]) rfl ?_
  refine call_mk (rmul_t _ _ ((ax_In h).mono (by decide)) ((conj_In hb).mono (by decide)) (hm.mono (by decide))) rfl trivial ?_
  simp only [Ei.v, Ei.rv, push_cast, ↓reduceIte, reduceCtorEq, Nat.reduceBEq, Nat.reduceEqDiff, Nat.reduceAdd, Nat.reduceSub, Nat.reduceLT, Nat.reduceLeDiff, Nat.reduceMul]
  rw [show IntKind.i64.wrap (12 - r) = 12 - r from wrap_id (by omega)]
  refine dcall_mk (seven_t (12 - r) (by omega) (by omega)) rfl trivial ?_
  simp only [push_cast, ↓reduceIte, reduceCtorEq, Nat.reduceBEq, Nat.reduceEqDiff, Nat.reduceAdd, Nat.reduceSub, Nat.reduceLT, Nat.reduceLeDiff, Nat.reduceMul]
  have hp := p7 (12 - r).toNat hk2
  rw [show IntKind.i64.wrap (2340 * 7 ^ (12 - r).toNat) = 2340 * 7 ^ (12 - r).toNat from wrap_id (by omega)]
  refine dcall_as (as' := [((ax x y).mul (betaN (12 - r).toNat).conj).v, int .i64 (2340 * 7 ^ (12 - r).toNat)]) rfl ?_
  refine dcall_mk (rround_t _ _ (hm.mono (by decide)) (by omega)) rfl trivial ?_
  simp only [Ei.v, Ei.rv, near, hk, push_cast, ↓reduceIte, reduceCtorEq, Nat.reduceBEq, Nat.reduceEqDiff, Nat.reduceAdd, Nat.reduceSub, Nat.reduceLT, Nat.reduceLeDiff, Nat.reduceMul]
  kernel_rfl
end Go.Ev


namespace Go.Ev
open Go
set_option linter.unusedSectionVars false
set_option linter.unnecessarySimpa false
set_option linter.unusedSimpArgs false
set_option linter.unusedVariables false
noncomputable def apiaryref1_Unit_pc : PC :=
  (.seq (.reg [⟨(some 2), none, 0, .act (.new [(.r (.v (.int .i64 0))), (.r (.v (.int .i64 0)))])⟩])
  (.seq (.reg [⟨(some 4), none, 0, .see (.build [(.r (.v (.int .i64 0))), (.r (.v (.int .i64 0)))] [(0, 1, (.c (.r (.v (.int .i64 1)))))])⟩,
    ⟨(some 5), none, 0, .see (.build [(.r (.v (.int .i64 0))), (.r (.v (.int .i64 0)))] [(1, 1, (.c (.r (.v (.int .i64 1)))))])⟩,
    ⟨(some 6), none, 0, .see (.build [(.r (.v (.int .i64 0))), (.r (.v (.int .i64 0)))] [(0, 1, (.c (.r (.v (.int .i64 (-1)))))), (1, 1, (.c (.r (.v (.int .i64 1)))))])⟩,
    ⟨(some 7), none, 0, .see (.build [(.r (.v (.int .i64 0))), (.r (.v (.int .i64 0)))] [(0, 1, (.c (.r (.v (.int .i64 (-1))))))])⟩,
    ⟨(some 8), none, 0, .see (.build [(.r (.v (.int .i64 0))), (.r (.v (.int .i64 0)))] [(1, 1, (.c (.r (.v (.int .i64 (-1))))))])⟩,
    ⟨(some 9), none, 0, .see (.build [(.r (.v (.int .i64 0))), (.r (.v (.int .i64 0)))] [(0, 1, (.c (.r (.v (.int .i64 1))))), (1, 1, (.c (.r (.v (.int .i64 (-1))))))])⟩,
    ⟨(some 10), none, 0, .see (.build [(.r (.v (.int .i64 0))), (.r (.v (.int .i64 0))), (.r (.v (.int .i64 0))), (.r (.v (.int .i64 0))), (.r (.v (.int .i64 0))), (.r (.v (.int .i64 0))), (.r (.v (.int .i64 0))), (.r (.v (.int .i64 0))), (.r (.v (.int .i64 0))), (.r (.v (.int .i64 0))), (.r (.v (.int .i64 0))), (.r (.v (.int .i64 0)))] [(0, 2, (.t 4)), (2, 2, (.t 5)), (4, 2, (.t 6)), (6, 2, (.t 7)), (8, 2, (.t 8)), (10, 2, (.t 9))])⟩,
    ⟨(some 3), none, 0, .act (.new [(.r (.v (.int .i64 0))), (.r (.v (.int .i64 0))), (.r (.v (.int .i64 0))), (.r (.v (.int .i64 0))), (.r (.v (.int .i64 0))), (.r (.v (.int .i64 0))), (.r (.v (.int .i64 0))), (.r (.v (.int .i64 0))), (.r (.v (.int .i64 0))), (.r (.v (.int .i64 0))), (.r (.v (.int .i64 0))), (.r (.v (.int .i64 0)))])⟩,
    ⟨none, none, 0, .act (.st 12 (.t 3) (.t 10))⟩])
  (.seq (.reg [⟨(some 11), none, 0, .see (.mov (.t 0))⟩,
    ⟨(some 12), none, 0, .see (.bin .rem (.t 11) (.c (.r (.v (.int .i64 6)))))⟩,
    ⟨(some 13), none, 0, .see (.bin .add (.t 12) (.c (.r (.v (.int .i64 6)))))⟩,
    ⟨(some 14), none, 0, .see (.bin .rem (.t 13) (.c (.r (.v (.int .i64 6)))))⟩,
    ⟨(some 15), none, 0, .see (.iaa 6 2 (.t 3) (.t 14))⟩,
    ⟨(some 16), none, 0, .see (.ld (some 2) (.t 15))⟩,
    ⟨none, none, 0, .act (.st 2 (.t 2) (.t 16))⟩])
  .ret)))
noncomputable abbrev apiaryref1_Unit_code : Code := (Go.Proofs.Try.f55.body).getD .skip
theorem apiaryref1_Unit_chk : chkC Go.Proofs.Try.prog 17 apiaryref1_Unit_code apiaryref1_Unit_pc = true := by kernel_rfl
theorem apiaryref1_Unit_triple {args : List AV} {po ro : List Ob} {res : AV} (hal : args.length = 1) (hpo : po.length ≤ 1000)
    (h : run Go.Proofs.Try.prog po.length (RetP po.length [(2, false, some (56, (some 2)))] fun v os => v = res ∧ os = ro) [.c apiaryref1_Unit_pc] ⟨argE 0 args, ob0 po⟩) : Triple Go.Proofs.Try.prog 55 args po res ro :=
  triple_of_W (fn := Go.Proofs.Try.f55) (c := apiaryref1_Unit_code) (pc := apiaryref1_Unit_pc) (rs := [(2, false, some (56, (some 2)))]) Go.Proofs.Try.func55 rfl (by decide) (by have := apiaryref1_Unit_chk; exact this) (by rw [hal]; decide) rfl (by kernel_rfl) (by kernel_rfl) (by decide) hpo (W_of_run h)

noncomputable def apiaryref1_parent_pc : PC :=
  (.seq (.reg [⟨(some 1), none, 0, .act (.box (.t 0))⟩,
    ⟨(some 2), none, 0, .act (.new [(.r (.v (.int .i64 0))), (.r (.v (.int .i64 0)))])⟩,
    ⟨(some 3), none, 0, .see (.mov (.c (.r (.v (.int .i64 0)))))⟩])
  (.seq (.reg [⟨(some 13), none, 0, .see (.ld (some 2) (.t 1))⟩,
    ⟨(some 14), none, 0, .see (.build [(.r (.v (.int .i64 0))), (.r (.v (.int .i64 0)))] [(0, 1, (.c (.r (.v (.int .i64 3))))), (1, 1, (.c (.r (.v (.int .i64 (-1))))))])⟩,
    ⟨(some 15), none, 1, .call 31 [(.t 13), (.t 14)]⟩,
    ⟨(some 12), none, 0, .see (.mov (.t 15))⟩,
    ⟨(some 16), none, 0, .see (.ext (.t 12) 0)⟩,
    ⟨(some 17), none, 0, .see (.ext (.t 12) 1)⟩,
    ⟨(some 4), none, 0, .act (.new [(.r (.v (.int .i64 0))), (.r (.v (.int .i64 0)))])⟩,
    ⟨none, none, 0, .act (.st 2 (.t 4) (.t 16))⟩,
    ⟨(some 5), none, 0, .see (.mov (.t 17))⟩])
  (.seq (.reg [⟨(some 19), none, 0, .see (.ld (some 2) (.t 4))⟩,
    ⟨(some 20), none, 2, .call 33 [(.t 19), (.c (.r (.v (.int .i64 7))))]⟩,
    ⟨(some 18), none, 0, .see (.mov (.t 20))⟩,
    ⟨(some 21), none, 0, .see (.ext (.t 18) 0)⟩,
    ⟨(some 22), none, 0, .see (.ext (.t 18) 1)⟩,
    ⟨(some 6), none, 0, .act (.new [(.r (.v (.int .i64 0))), (.r (.v (.int .i64 0)))])⟩,
    ⟨none, none, 0, .act (.st 2 (.t 6) (.t 21))⟩,
    ⟨(some 7), none, 0, .see (.mov (.t 22))⟩])
  (.seq (.reg [⟨(some 24), none, 0, .see (.ld (some 2) (.t 6))⟩,
    ⟨(some 25), none, 0, .see (.build [(.r (.v (.int .i64 0))), (.r (.v (.int .i64 0)))] [(0, 1, (.c (.r (.v (.int .i64 2))))), (1, 1, (.c (.r (.v (.int .i64 1)))))])⟩,
    ⟨(some 26), none, 3, .call 31 [(.t 24), (.t 25)]⟩,
    ⟨(some 23), none, 0, .see (.mov (.t 26))⟩,
    ⟨(some 27), none, 0, .see (.ext (.t 23) 0)⟩,
    ⟨(some 28), none, 0, .see (.ext (.t 23) 1)⟩,
    ⟨(some 8), none, 0, .act (.new [(.r (.v (.int .i64 0))), (.r (.v (.int .i64 0)))])⟩,
    ⟨none, none, 0, .act (.st 2 (.t 8) (.t 27))⟩,
    ⟨(some 9), none, 0, .see (.mov (.t 28))⟩])
  (.seq (.reg [⟨(some 29), none, 0, .see (.fa 0 (.t 1))⟩,
    ⟨(some 30), none, 0, .see (.ld none (.t 29))⟩,
    ⟨(some 31), none, 0, .see (.fa 0 (.t 8))⟩,
    ⟨(some 32), none, 0, .see (.ld none (.t 31))⟩,
    ⟨(some 33), none, 0, .see (.bin .sub (.t 30) (.t 32))⟩,
    ⟨(some 34), none, 0, .see (.fa 1 (.t 1))⟩,
    ⟨(some 35), none, 0, .see (.ld none (.t 34))⟩,
    ⟨(some 36), none, 0, .see (.fa 1 (.t 8))⟩,
    ⟨(some 37), none, 0, .see (.ld none (.t 36))⟩,
    ⟨(some 38), none, 0, .see (.bin .sub (.t 35) (.t 37))⟩,
    ⟨(some 39), none, 0, .see (.build [(.r (.v (.int .i64 0))), (.r (.v (.int .i64 0)))] [(0, 1, (.t 33)), (1, 1, (.t 38))])⟩,
    ⟨(some 10), none, 0, .act (.new [(.r (.v (.int .i64 0))), (.r (.v (.int .i64 0)))])⟩,
    ⟨none, none, 0, .act (.st 2 (.t 10) (.t 39))⟩])
  (.seq (.seq (.reg [⟨(some 11), none, 0, .see (.mov (.c (.r (.v (.int .i64 0)))))⟩])
  (.block 0 (.loop (.seq (.seq (.reg [⟨(some 40), none, 0, .see (.mov (.t 11))⟩,
    ⟨(some 41), none, 0, .see (.bin .lss (.t 40) (.c (.r (.v (.int .i64 6)))))⟩])
  (.cond (.t 41)
    .skip
    (.exit 0)))
  (.seq (.block 1 (.seq (.drw [⟨(some 44), none, 0, .see (.mov (.t 11))⟩,
    ⟨(some 45), none, 4, .call 55 [(.t 44)]⟩,
    ⟨(some 46), none, 0, .see (.ld (some 2) (.t 10))⟩,
    ⟨(some 47), none, 0, .see (.eqa false [0, 0] (.t 45) (.t 46))⟩]
    [[], [0], [], [0, 1, 2]])
  (.cond (.t 47)
    (.seq (.reg [⟨(some 48), none, 0, .see (.ld (some 2) (.t 6))⟩,
    ⟨(some 49), none, 0, .see (.mov (.t 11))⟩,
    ⟨(some 50), none, 0, .see (.bin .add (.t 49) (.c (.r (.v (.int .i64 1)))))⟩,
    ⟨none, none, 0, .act (.st 2 (.t 2) (.t 48))⟩,
    ⟨(some 3), none, 0, .see (.mov (.t 50))⟩])
    .ret)
    .skip)))
  (.reg [⟨(some 42), none, 0, .see (.mov (.t 11))⟩,
    ⟨(some 43), none, 0, .see (.bin .add (.t 42) (.c (.r (.v (.int .i64 1)))))⟩,
    ⟨(some 11), none, 0, .see (.mov (.t 43))⟩]))))))
  (.seq (.reg [⟨(some 51), none, 0, .see (.ld (some 2) (.t 6))⟩,
    ⟨none, none, 0, .act (.st 2 (.t 2) (.t 51))⟩,
    ⟨(some 3), none, 0, .see (.mov (.c (.r (.v (.int .i64 0)))))⟩])
  .ret)))))))
noncomputable abbrev apiaryref1_parent_code : Code := (Go.Proofs.Try.f36.body).getD .skip
theorem apiaryref1_parent_chk : chkC Go.Proofs.Try.prog 52 apiaryref1_parent_code apiaryref1_parent_pc = true := by kernel_rfl
theorem apiaryref1_parent_triple {args : List AV} {po ro : List Ob} {res : AV} (hal : args.length = 1) (hpo : po.length ≤ 1000)
    (h : run Go.Proofs.Try.prog po.length (RetP po.length [(2, false, some (56, (some 2))), (3, false, none)] fun v os => v = res ∧ os = ro) [.c apiaryref1_parent_pc] ⟨argE 0 args, ob0 po⟩) : Triple Go.Proofs.Try.prog 36 args po res ro :=
  triple_of_W (fn := Go.Proofs.Try.f36) (c := apiaryref1_parent_code) (pc := apiaryref1_parent_pc) (rs := [(2, false, some (56, (some 2))), (3, false, none)]) Go.Proofs.Try.func36 rfl (by decide) (by have := apiaryref1_parent_chk; exact this) (by rw [hal]; decide) rfl (by kernel_rfl) (by kernel_rfl) (by decide) hpo (W_of_run h)

noncomputable def apiaryref1_Ok_pc : PC :=
  (.seq (.reg [⟨(some 1), none, 0, .act (.box (.t 0))⟩,
    ⟨(some 2), none, 0, .see (.mov (.c (.r (.v (.bool false)))))⟩])
  (.seq (.seq (.reg [⟨(some 5), none, 0, .see (.fa 0 (.t 1))⟩,
    ⟨(some 6), none, 0, .see (.ld none (.t 5))⟩,
    ⟨(some 7), none, 0, .see (.bin .lss (.t 6) (.c (.r (.v (.int .i64 0)))))⟩,
    ⟨(some 8), none, 0, .see (.mov (.t 7))⟩,
    ⟨(some 9), (some (8, false)), 0, .see (.fa 0 (.t 1))⟩,
    ⟨(some 10), (some (8, false)), 0, .see (.ld none (.t 9))⟩,
    ⟨(some 11), (some (8, false)), 0, .see (.bin .gtr (.t 10) (.c (.r (.v (.int .i64 12)))))⟩,
    ⟨(some 12), none, 0, .see (.pick (.t 8) (.c (.r (.v (.bool true)))) (.t 11))⟩,
    ⟨(some 13), none, 0, .see (.mov (.t 12))⟩,
    ⟨(some 14), (some (13, false)), 0, .see (.fa 1 (.t 1))⟩,
    ⟨(some 15), (some (13, false)), 0, .see (.fa 0 (.t 14))⟩,
    ⟨(some 16), (some (13, false)), 0, .see (.ld none (.t 15))⟩,
    ⟨(some 17), (some (13, false)), 0, .see (.bin .lss (.t 16) (.c (.r (.v (.int .i64 (-1073741824))))))⟩,
    ⟨(some 18), none, 0, .see (.pick (.t 13) (.c (.r (.v (.bool true)))) (.t 17))⟩,
    ⟨(some 19), none, 0, .see (.mov (.t 18))⟩,
    ⟨(some 20), (some (19, false)), 0, .see (.fa 1 (.t 1))⟩,
    ⟨(some 21), (some (19, false)), 0, .see (.fa 0 (.t 20))⟩,
    ⟨(some 22), (some (19, false)), 0, .see (.ld none (.t 21))⟩,
    ⟨(some 23), (some (19, false)), 0, .see (.bin .gtr (.t 22) (.c (.r (.v (.int .i64 1073741824)))))⟩,
    ⟨(some 24), none, 0, .see (.pick (.t 19) (.c (.r (.v (.bool true)))) (.t 23))⟩,
    ⟨(some 25), none, 0, .see (.mov (.t 24))⟩,
    ⟨(some 26), (some (25, false)), 0, .see (.fa 1 (.t 1))⟩,
    ⟨(some 27), (some (25, false)), 0, .see (.fa 1 (.t 26))⟩,
    ⟨(some 28), (some (25, false)), 0, .see (.ld none (.t 27))⟩,
    ⟨(some 29), (some (25, false)), 0, .see (.bin .lss (.t 28) (.c (.r (.v (.int .i64 (-1073741824))))))⟩,
    ⟨(some 30), none, 0, .see (.pick (.t 25) (.c (.r (.v (.bool true)))) (.t 29))⟩,
    ⟨(some 31), none, 0, .see (.mov (.t 30))⟩,
    ⟨(some 32), (some (31, false)), 0, .see (.fa 1 (.t 1))⟩,
    ⟨(some 33), (some (31, false)), 0, .see (.fa 1 (.t 32))⟩,
    ⟨(some 34), (some (31, false)), 0, .see (.ld none (.t 33))⟩,
    ⟨(some 35), (some (31, false)), 0, .see (.bin .gtr (.t 34) (.c (.r (.v (.int .i64 1073741824)))))⟩,
    ⟨(some 36), none, 0, .see (.pick (.t 31) (.c (.r (.v (.bool true)))) (.t 35))⟩])
  (.cond (.t 36)
    (.seq (.reg [⟨(some 2), none, 0, .see (.mov (.c (.r (.v (.bool false)))))⟩])
    .ret)
    .skip))
  (.seq (.reg [⟨(some 37), none, 0, .see (.fa 1 (.t 1))⟩,
    ⟨(some 38), none, 0, .see (.ld (some 2) (.t 37))⟩,
    ⟨(some 3), none, 0, .act (.new [(.r (.v (.int .i64 0))), (.r (.v (.int .i64 0)))])⟩,
    ⟨none, none, 0, .act (.st 2 (.t 3) (.t 38))⟩])
  (.seq (.seq (.reg [⟨(some 4), none, 0, .see (.mov (.c (.r (.v (.int .i64 0)))))⟩])
  (.block 0 (.loop (.seq (.seq (.reg [⟨(some 39), none, 0, .see (.mov (.t 4))⟩,
    ⟨(some 40), none, 0, .see (.fa 0 (.t 1))⟩,
    ⟨(some 41), none, 0, .see (.ld none (.t 40))⟩,
    ⟨(some 42), none, 0, .see (.bin .lss (.t 39) (.t 41))⟩])
  (.cond (.t 42)
    .skip
    (.exit 0)))
  (.seq (.block 1 (.reg [⟨(some 46), none, 0, .see (.ld (some 2) (.t 3))⟩,
    ⟨(some 47), none, 1, .call 36 [(.t 46)]⟩,
    ⟨(some 45), none, 0, .see (.mov (.t 47))⟩,
    ⟨(some 48), none, 0, .see (.ext (.t 45) 0)⟩,
    ⟨(some 49), none, 0, .see (.ext (.t 45) 1)⟩,
    ⟨none, none, 0, .act (.st 2 (.t 3) (.t 48))⟩]))
  (.reg [⟨(some 43), none, 0, .see (.mov (.t 4))⟩,
    ⟨(some 44), none, 0, .see (.bin .add (.t 43) (.c (.r (.v (.int .i64 1)))))⟩,
    ⟨(some 4), none, 0, .see (.mov (.t 44))⟩]))))))
  (.seq (.reg [⟨(some 50), none, 0, .see (.fa 0 (.t 3))⟩,
    ⟨(some 51), none, 0, .see (.ld none (.t 50))⟩,
    ⟨(some 52), none, 0, .see (.bin .geq (.t 51) (.c (.r (.v (.int .i64 (-512))))))⟩,
    ⟨(some 53), none, 0, .see (.mov (.t 52))⟩,
    ⟨(some 54), (some (53, true)), 0, .see (.fa 0 (.t 3))⟩,
    ⟨(some 55), (some (53, true)), 0, .see (.ld none (.t 54))⟩,
    ⟨(some 56), (some (53, true)), 0, .see (.bin .leq (.t 55) (.c (.r (.v (.int .i64 511)))))⟩,
    ⟨(some 57), none, 0, .see (.pick (.t 53) (.t 56) (.c (.r (.v (.bool false)))))⟩,
    ⟨(some 58), none, 0, .see (.mov (.t 57))⟩,
    ⟨(some 59), (some (58, true)), 0, .see (.fa 1 (.t 3))⟩,
    ⟨(some 60), (some (58, true)), 0, .see (.ld none (.t 59))⟩,
    ⟨(some 61), (some (58, true)), 0, .see (.bin .geq (.t 60) (.c (.r (.v (.int .i64 (-512))))))⟩,
    ⟨(some 62), none, 0, .see (.pick (.t 58) (.t 61) (.c (.r (.v (.bool false)))))⟩,
    ⟨(some 63), none, 0, .see (.mov (.t 62))⟩,
    ⟨(some 64), (some (63, true)), 0, .see (.fa 1 (.t 3))⟩,
    ⟨(some 65), (some (63, true)), 0, .see (.ld none (.t 64))⟩,
    ⟨(some 66), (some (63, true)), 0, .see (.bin .leq (.t 65) (.c (.r (.v (.int .i64 511)))))⟩,
    ⟨(some 67), none, 0, .see (.pick (.t 63) (.t 66) (.c (.r (.v (.bool false)))))⟩,
    ⟨(some 2), none, 0, .see (.mov (.t 67))⟩])
  .ret)))))
noncomputable abbrev apiaryref1_Ok_code : Code := (Go.Proofs.Try.f35.body).getD .skip
theorem apiaryref1_Ok_chk : chkC Go.Proofs.Try.prog 68 apiaryref1_Ok_code apiaryref1_Ok_pc = true := by kernel_rfl
theorem apiaryref1_Ok_triple {args : List AV} {po ro : List Ob} {res : AV} (hal : args.length = 1) (hpo : po.length ≤ 1000)
    (h : run Go.Proofs.Try.prog po.length (RetP po.length [(2, false, none)] fun v os => v = res ∧ os = ro) [.c apiaryref1_Ok_pc] ⟨argE 0 args, ob0 po⟩) : Triple Go.Proofs.Try.prog 35 args po res ro :=
  triple_of_W (fn := Go.Proofs.Try.f35) (c := apiaryref1_Ok_code) (pc := apiaryref1_Ok_pc) (rs := [(2, false, none)]) Go.Proofs.Try.func35 rfl (by decide) (by have := apiaryref1_Ok_chk; exact this) (by rw [hal]; decide) rfl (by kernel_rfl) (by kernel_rfl) (by decide) hpo (W_of_run h)

def vvB : List AV := [int .i64 1, int .i64 1, int .i64 (-1), int .i64 2, int .i64 (-2), int .i64 1, int .i64 (-1), int .i64 (-1), int .i64 1, int .i64 (-2), int .i64 2, int .i64 (-1)]
set_option maxRecDepth 100000 in
theorem runit_t (k : Int) (hk : 0 ≤ k ∧ k < 6) : Triple Go.Proofs.Try.prog 55 [int .i64 k] [] ((uni k.toNat).v) [] := by
  refine apiaryref1_Unit_triple rfl (by decide) ?_
  have hm : (IntKind.i64.wrap (Int.tmod k 6 + 6)).tmod 6 = k := by
    rw [Int.tmod_eq_emod_of_nonneg hk.1, wrap_id (by omega), Int.tmod_eq_emod_of_nonneg (by omega)]; omega
  simp only [apiaryref1_Unit_pc, List.length_nil, hm, Ei.v, Ei.rv, push_cast, ↓reduceIte, reduceCtorEq, Nat.reduceBEq, Nat.reduceEqDiff, Nat.reduceAdd, Nat.reduceSub, Nat.reduceLT, Nat.reduceLeDiff, Nat.reduceMul]
  refine ⟨by decide, by decide, hk, by omega, ?_⟩
  rcases (show k = 0 ∨ k = 1 ∨ k = 2 ∨ k = 3 ∨ k = 4 ∨ k = 5 by omega) with rfl | rfl | rfl | rfl | rfl | rfl
  all_goals
    simp only [Int.reduceToNat, Nat.zero_mul, Nat.add_zero, Nat.zero_add, uni_0, uni_1, uni_2, uni_3, uni_4, uni_5, push_cast, ↓reduceIte, reduceCtorEq, Nat.reduceBEq, Nat.reduceEqDiff, Nat.reduceAdd, Nat.reduceSub, Nat.reduceLT, Nat.reduceLeDiff, Nat.reduceMul]
set_option maxRecDepth 100000 in
theorem rparent_t (z : Ei) (h : z.In 1073741824) : Triple Go.Proofs.Try.prog 36 [z.v] [] (.tup [(pr z).v, int .i64 (dg z)]) [] := by
  refine apiaryref1_parent_triple rfl (by decide) ?_
  simp only [apiaryref1_parent_pc, Ei.v, Ei.rv, List.length_nil, push_cast, ↓reduceIte, reduceCtorEq, Nat.reduceBEq, Nat.reduceEqDiff, Nat.reduceAdd, Nat.reduceSub, Nat.reduceLT, Nat.reduceLeDiff, Nat.reduceMul]
  have h1 : (z.mul ⟨3, -1⟩).In 9663676416 := (mul_In h (show (⟨3, -1⟩ : Ei).In 3 by unfold Ei.In; decide)).mono (by decide)
  have h2 : (pr z).In 1073741824 := pr_In h (by decide)
  have h3 : ((pr z).mul beta).In 6442450944 := (mul_In h2 (show beta.In 2 by unfold Ei.In; decide)).mono (by decide)
  have hl := lft_In z
  refine call_as (as' := [z.v, Ei.v ⟨3, -1⟩]) rfl ?_
  refine call_mk (rmul_t _ _ (h.mono (by decide)) (show (⟨3, -1⟩ : Ei).In _ by unfold Ei.In; decide) (h1.mono (by decide))) rfl trivial ?_
  simp only [Ei.v, Ei.rv, push_cast, ↓reduceIte, reduceCtorEq, Nat.reduceBEq, Nat.reduceEqDiff, Nat.reduceAdd, Nat.reduceSub, Nat.reduceLT, Nat.reduceLeDiff, Nat.reduceMul]
  refine call_as (as' := [(z.mul ⟨3, -1⟩).v, int .i64 7]) rfl ?_
  refine call_mk (rround_t _ 7 (h1.mono (by decide)) (by decide)) rfl trivial ?_
  rw [show (z.mul ⟨3, -1⟩).round 7 = pr z from rfl]
  simp only [Ei.v, Ei.rv, push_cast, ↓reduceIte, reduceCtorEq, Nat.reduceBEq, Nat.reduceEqDiff, Nat.reduceAdd, Nat.reduceSub, Nat.reduceLT, Nat.reduceLeDiff, Nat.reduceMul]
  refine call_as (as' := [(pr z).v, beta.v]) rfl ?_
  refine call_mk (rmul_t _ _ (h2.mono (by decide)) (show beta.In _ by unfold Ei.In; decide) (h3.mono (by decide))) rfl trivial ?_
  have e1 : z.a - ((pr z).mul beta).a = (lft z).a := rfl
  have e2 : z.b - ((pr z).mul beta).b = (lft z).b := rfl
  unfold Ei.In at hl
  rw [← e1, ← e2] at hl
  simp only [Ei.v, Ei.rv, push_cast, ↓reduceIte, reduceCtorEq, Nat.reduceBEq, Nat.reduceEqDiff, Nat.reduceAdd, Nat.reduceSub, Nat.reduceLT, Nat.reduceLeDiff, Nat.reduceMul]
  rw [show IntKind.i64.wrap (z.a - ((pr z).mul beta).a) = (lft z).a by rw [← e1]; exact wrap_id (by omega), show IntKind.i64.wrap (z.b - ((pr z).mul beta).b) = (lft z).b by rw [← e2]; exact wrap_id (by omega)]
  rw [show dg z = dgOf (lft z) from rfl]
  generalize lft z = l at *
  generalize pr z = q at *
  refine run_loop [(11, false), (10, false), (6, false), (2, false)] (fun vs pos los => ∃ i : Int, (0 ≤ i ∧ i ≤ 6) ∧ (∀ j : Nat, (j : Int) < i → uni j ≠ l) ∧ vs = [int .i64 i, .ptr 2000000 0 0, .ptr 2000001 0 0, .ptr 2000002 0 0] ∧ pos = [] ∧ los = [.box [int .i64 l.a, int .i64 l.b], .box [int .i64 q.a, int .i64 q.b], .box [int .i64 0, int .i64 0]])
    (fun vs _ _ => match vs with | .r (.v (.int _ j)) :: _ => (6 - j).toNat | _ => 0) rfl ?_ ?_
  · simp only [push_cast, ↓reduceIte, reduceCtorEq, Nat.reduceBEq, Nat.reduceEqDiff, Nat.reduceAdd, Nat.reduceSub, Nat.reduceLT, Nat.reduceLeDiff, Nat.reduceMul]
    exact ⟨0, by omega, fun j hj => by omega, rfl⟩
  · rintro vs pos los ⟨i, i6, hj, rfl, rfl, rfl⟩
    simp only [push_cast, ↓reduceIte, reduceCtorEq, Nat.reduceBEq, Nat.reduceEqDiff, Nat.reduceAdd, Nat.reduceSub, Nat.reduceLT, Nat.reduceLeDiff, Nat.reduceMul]
    refine cnd_mk (fun h => ?_) (fun h => ?_)
    · simp only [decide_eq_true_eq] at h
      simp only [push_cast, ↓reduceIte, reduceCtorEq, Nat.reduceBEq, Nat.reduceEqDiff, Nat.reduceAdd, Nat.reduceSub, Nat.reduceLT, Nat.reduceLeDiff, Nat.reduceMul]
      refine dcall_mk (runit_t i ⟨i6.1, h⟩) rfl trivial ?_
      simp only [Ei.v, Ei.rv, push_cast, ↓reduceIte, reduceCtorEq, Nat.reduceBEq, Nat.reduceEqDiff, Nat.reduceAdd, Nat.reduceSub, Nat.reduceLT, Nat.reduceLeDiff, Nat.reduceMul]
      refine ⟨by kernel_rfl, cnd_mk (fun h' => ?_) (fun h' => ?_)⟩
      · have e : uni i.toNat = l := by
          simp only [Bool.and_eq_true, beq_iff_eq] at h'
          exact Ei.ext' h'.1 h'.2
        simp only [push_cast, ↓reduceIte, reduceCtorEq, Nat.reduceBEq, Nat.reduceEqDiff, Nat.reduceAdd, Nat.reduceSub, Nat.reduceLT, Nat.reduceLeDiff, Nat.reduceMul]
        rw [← e, dgOf_uni _ (by omega), wrap_id (by omega), show ((i.toNat + 1 : Nat) : Int) = i + 1 by omega]
      · have e : uni i.toNat ≠ l := fun e => by rw [e] at h'; simp at h'
        simp only [push_cast, ↓reduceIte, reduceCtorEq, Nat.reduceBEq, Nat.reduceEqDiff, Nat.reduceAdd, Nat.reduceSub, Nat.reduceLT, Nat.reduceLeDiff, Nat.reduceMul]
        rw [wrap_id (by omega)]
        refine ⟨⟨i + 1, by omega, fun j hj' => ?_, rfl⟩, by omega⟩
        by_cases hji : (j : Int) = i
        · rw [show j = i.toNat by omega]; exact e
        · exact hj j (by omega)
    · have hi : i = 6 := by simp at h; omega
      subst hi
      simp only [push_cast, ↓reduceIte, reduceCtorEq, Nat.reduceBEq, Nat.reduceEqDiff, Nat.reduceAdd, Nat.reduceSub, Nat.reduceLT, Nat.reduceLeDiff, Nat.reduceMul]
      rw [dgOf_no l fun j h6 => hj j (by omega)]
      rfl
set_option maxRecDepth 100000 in
theorem rokc_t (r : Int) (z : Ei) (h0 : 0 ≤ r) (h : okc r.toNat z) : Triple Go.Proofs.Try.prog 35 [cel r z] [] (bl true) [] := by
  refine apiaryref1_Ok_triple rfl (by decide) ?_
  obtain ⟨r12, hz, ha, hb⟩ := h
  have hz' := hz
  unfold Ei.In at hz'
  have c1 : decide (r < 0) = false := by simp; omega
  have c2 : decide (r > 12) = false := by simp; omega
  have c3 : decide (z.a < -1073741824) = false := by simp; omega
  have c4 : decide (z.a > 1073741824) = false := by simp; omega
  have c5 : decide (z.b < -1073741824) = false := by simp; omega
  have c6 : decide (z.b > 1073741824) = false := by simp; omega
  simp only [apiaryref1_Ok_pc, cel, List.length_nil, c1, c2, c3, c4, c5, c6, push_cast, ↓reduceIte, reduceCtorEq, Nat.reduceBEq, Nat.reduceEqDiff, Nat.reduceAdd, Nat.reduceSub, Nat.reduceLT, Nat.reduceLeDiff, Nat.reduceMul]
  refine run_loop [(4, false), (1, false), (3, false)] (fun vs pos los => ∃ i : Int, (0 ≤ i ∧ i ≤ r) ∧ vs = [int .i64 i, .ptr 2000000 0 0, .ptr 2000001 0 0] ∧ pos = [] ∧ los = [.box [int .i64 r, int .i64 z.a, int .i64 z.b], .box [int .i64 (anc i.toNat z).a, int .i64 (anc i.toNat z).b]])
    (fun vs _ _ => match vs with | .r (.v (.int _ j)) :: _ => (r - j).toNat | _ => 0) rfl ?_ ?_
  · simp only [push_cast, ↓reduceIte, reduceCtorEq, Nat.reduceBEq, Nat.reduceEqDiff, Nat.reduceAdd, Nat.reduceSub, Nat.reduceLT, Nat.reduceLeDiff, Nat.reduceMul]
    exact ⟨0, by omega, rfl, rfl⟩
  · rintro vs pos los ⟨i, i6, rfl, rfl, rfl⟩
    simp only [push_cast, ↓reduceIte, reduceCtorEq, Nat.reduceBEq, Nat.reduceEqDiff, Nat.reduceAdd, Nat.reduceSub, Nat.reduceLT, Nat.reduceLeDiff, Nat.reduceMul]
    refine cnd_mk (fun h => ?_) (fun h => ?_)
    · simp only [decide_eq_true_eq] at h
      simp only [push_cast, ↓reduceIte, reduceCtorEq, Nat.reduceBEq, Nat.reduceEqDiff, Nat.reduceAdd, Nat.reduceSub, Nat.reduceLT, Nat.reduceLeDiff, Nat.reduceMul]
      have hp := anc_In i.toNat hz (by decide)
      refine call_as (as' := [(anc i.toNat z).v]) rfl ?_
      refine call_mk (rparent_t _ hp) rfl trivial ?_
      simp only [Ei.v, Ei.rv, push_cast, ↓reduceIte, reduceCtorEq, Nat.reduceBEq, Nat.reduceEqDiff, Nat.reduceAdd, Nat.reduceSub, Nat.reduceLT, Nat.reduceLeDiff, Nat.reduceMul]
      rw [show IntKind.i64.wrap (i + 1) = i + 1 from wrap_id (by omega)]
      refine ⟨⟨i + 1, by omega, rfl, ?_⟩, by omega⟩
      rw [show (i + 1).toNat = i.toNat + 1 by omega, anc_succ]
    · have hi : i = r := by simp at h; omega
      subst hi
      simp only [ge_iff_le, ha.1, ha.2, hb.1, hb.2, decide_true, push_cast, ↓reduceIte, reduceCtorEq, Nat.reduceBEq, Nat.reduceEqDiff, Nat.reduceAdd, Nat.reduceSub, Nat.reduceLT, Nat.reduceLeDiff, Nat.reduceMul]
end Go.Ev


namespace Go.Ev
open Go
set_option linter.unusedSectionVars false
set_option linter.unnecessarySimpa false
set_option linter.unusedSimpArgs false
set_option linter.unusedVariables false
noncomputable def apiaryref1_Word_pc : PC :=
  (.seq (.reg [⟨(some 1), none, 0, .act (.box (.t 0))⟩,
    ⟨(some 2), none, 0, .see (.mov (.c (.r (.v (.int .u64 0)))))⟩,
    ⟨(some 3), none, 0, .see (.mov (.c (.r (.v (.int .i64 0)))))⟩])
  (.seq (.seq (.reg [⟨(some 10), none, 0, .see (.ld (some 3) (.t 1))⟩,
    ⟨(some 11), none, 1, .call 35 [(.t 10)]⟩,
    ⟨(some 12), none, 0, .see (.un .not (.t 11))⟩])
  (.cond (.t 12)
    (.seq (.reg [⟨(some 2), none, 0, .see (.mov (.c (.r (.v (.int .u64 0)))))⟩,
    ⟨(some 3), none, 0, .see (.mov (.c (.r (.v (.int .i64 2)))))⟩])
    .ret)
    .skip))
  (.seq (.reg [⟨(some 13), none, 0, .see (.fa 1 (.t 1))⟩,
    ⟨(some 14), none, 0, .see (.ld (some 2) (.t 13))⟩,
    ⟨(some 4), none, 0, .act (.new [(.r (.v (.int .i64 0))), (.r (.v (.int .i64 0)))])⟩,
    ⟨none, none, 0, .act (.st 2 (.t 4) (.t 14))⟩])
  (.seq (.reg [⟨(some 5), none, 0, .see (.mov (.c (.r (.v (.int .u64 68719476735)))))⟩])
  (.seq (.seq (.reg [⟨(some 15), none, 0, .see (.fa 0 (.t 1))⟩,
    ⟨(some 16), none, 0, .see (.ld none (.t 15))⟩,
    ⟨(some 6), none, 0, .see (.mov (.t 16))⟩])
  (.block 0 (.loop (.seq (.seq (.reg [⟨(some 17), none, 0, .see (.mov (.t 6))⟩,
    ⟨(some 18), none, 0, .see (.bin .gtr (.t 17) (.c (.r (.v (.int .i64 0)))))⟩])
  (.cond (.t 18)
    .skip
    (.exit 0)))
  (.seq (.block 1 (.seq (.reg [⟨(some 22), none, 0, .see (.ld (some 2) (.t 4))⟩,
    ⟨(some 23), none, 2, .call 36 [(.t 22)]⟩,
    ⟨(some 21), none, 0, .see (.mov (.t 23))⟩,
    ⟨(some 24), none, 0, .see (.ext (.t 21) 0)⟩,
    ⟨(some 25), none, 0, .see (.ext (.t 21) 1)⟩,
    ⟨(some 7), none, 0, .act (.new [(.r (.v (.int .i64 0))), (.r (.v (.int .i64 0)))])⟩,
    ⟨none, none, 0, .act (.st 2 (.t 7) (.t 24))⟩,
    ⟨(some 8), none, 0, .see (.mov (.t 25))⟩])
  (.seq (.reg [⟨(some 26), none, 0, .see (.mov (.t 6))⟩,
    ⟨(some 27), none, 0, .see (.bin .mul (.c (.r (.v (.int .i64 3)))) (.t 26))⟩,
    ⟨(some 28), none, 0, .see (.bin .sub (.c (.r (.v (.int .i64 36)))) (.t 27))⟩,
    ⟨(some 9), none, 0, .see (.mov (.t 28))⟩])
  (.seq (.drw [⟨(some 29), none, 0, .see (.mov (.t 5))⟩,
    ⟨(some 30), none, 0, .see (.mov (.t 9))⟩,
    ⟨(some 31), none, 0, .see (.bin .shl (.c (.r (.v (.int .u64 7)))) (.t 30))⟩,
    ⟨(some 32), none, 0, .see (.bin .andNot (.t 29) (.t 31))⟩,
    ⟨(some 33), none, 0, .see (.mov (.t 8))⟩,
    ⟨(some 34), none, 0, .see (.conv .u64 (.t 33))⟩,
    ⟨(some 35), none, 0, .see (.mov (.t 9))⟩,
    ⟨(some 36), none, 0, .see (.bin .shl (.t 34) (.t 35))⟩,
    ⟨(some 37), none, 0, .see (.bin .or (.t 32) (.t 36))⟩,
    ⟨(some 5), none, 0, .see (.mov (.t 37))⟩]
    [[], [], [1], [0, 1, 2], [], [4], [], [4, 5, 6], [0, 1, 2, 3, 4, 5, 6, 7], [0, 1, 2, 3, 4, 5, 6, 7, 8]])
  (.reg [⟨(some 38), none, 0, .see (.ld (some 2) (.t 7))⟩,
    ⟨none, none, 0, .act (.st 2 (.t 4) (.t 38))⟩])))))
  (.reg [⟨(some 19), none, 0, .see (.mov (.t 6))⟩,
    ⟨(some 20), none, 0, .see (.bin .sub (.t 19) (.c (.r (.v (.int .i64 1)))))⟩,
    ⟨(some 6), none, 0, .see (.mov (.t 20))⟩]))))))
  (.seq (.reg [⟨(some 39), none, 0, .see (.mov (.t 5))⟩,
    ⟨(some 40), none, 0, .see (.bin .or (.t 39) (.c (.r (.v (.int .u64 1152921504606846976)))))⟩,
    ⟨(some 41), none, 0, .see (.fa 0 (.t 1))⟩,
    ⟨(some 42), none, 0, .see (.ld none (.t 41))⟩,
    ⟨(some 43), none, 0, .see (.conv .u64 (.t 42))⟩,
    ⟨(some 44), none, 0, .see (.bin .shl (.t 43) (.c (.r (.v (.int .u64 56)))))⟩,
    ⟨(some 45), none, 0, .see (.bin .or (.t 40) (.t 44))⟩,
    ⟨(some 46), none, 0, .see (.fa 0 (.t 4))⟩,
    ⟨(some 47), none, 0, .see (.ld none (.t 46))⟩,
    ⟨(some 48), none, 0, .see (.bin .add (.t 47) (.c (.r (.v (.int .i64 512)))))⟩,
    ⟨(some 49), none, 0, .see (.conv .u64 (.t 48))⟩,
    ⟨(some 50), none, 0, .see (.bin .shl (.t 49) (.c (.r (.v (.int .u64 46)))))⟩,
    ⟨(some 51), none, 0, .see (.bin .or (.t 45) (.t 50))⟩,
    ⟨(some 52), none, 0, .see (.fa 1 (.t 4))⟩,
    ⟨(some 53), none, 0, .see (.ld none (.t 52))⟩,
    ⟨(some 54), none, 0, .see (.bin .add (.t 53) (.c (.r (.v (.int .i64 512)))))⟩,
    ⟨(some 55), none, 0, .see (.conv .u64 (.t 54))⟩,
    ⟨(some 56), none, 0, .see (.bin .shl (.t 55) (.c (.r (.v (.int .u64 36)))))⟩,
    ⟨(some 57), none, 0, .see (.bin .or (.t 51) (.t 56))⟩,
    ⟨(some 2), none, 0, .see (.mov (.t 57))⟩,
    ⟨(some 3), none, 0, .see (.mov (.c (.r (.v (.int .i64 0)))))⟩])
  .ret))))))
noncomputable abbrev apiaryref1_Word_code : Code := (Go.Proofs.Try.f20.body).getD .skip
theorem apiaryref1_Word_chk : chkC Go.Proofs.Try.prog 58 apiaryref1_Word_code apiaryref1_Word_pc = true := by kernel_rfl
theorem apiaryref1_Word_triple {args : List AV} {po ro : List Ob} {res : AV} (hal : args.length = 1) (hpo : po.length ≤ 1000)
    (h : run Go.Proofs.Try.prog po.length (RetP po.length [(2, false, none), (3, false, none)] fun v os => v = res ∧ os = ro) [.c apiaryref1_Word_pc] ⟨argE 0 args, ob0 po⟩) : Triple Go.Proofs.Try.prog 20 args po res ro :=
  triple_of_W (fn := Go.Proofs.Try.f20) (c := apiaryref1_Word_code) (pc := apiaryref1_Word_pc) (rs := [(2, false, none), (3, false, none)]) Go.Proofs.Try.func20 rfl (by decide) (by have := apiaryref1_Word_chk; exact this) (by rw [hal]; decide) rfl (by kernel_rfl) (by kernel_rfl) (by decide) hpo (W_of_run h)

theorem un64 {a : Nat} (h : a < 18446744073709551616) : IntKind.u64.wrap (a : Int) = a := by rw [IntKind.wrap_u64]; omega
theorem ofI (a : Nat) (h : a < 18446744073709551616) : (BitVec.ofInt IntKind.u64.bits (a : Int)).toNat = a := by
  rw [show IntKind.u64.bits = 64 from rfl, BitVec.toNat_ofInt]
  omega
theorem or_u {a b : Nat} (ha : a < 18446744073709551616) (hb : b < 18446744073709551616) : IntKind.u64.wrap (BitVec.ofInt IntKind.u64.bits (a : Int) ||| BitVec.ofInt IntKind.u64.bits (b : Int)).toNat = ((a ||| b : Nat) : Int) := by
  rw [BitVec.toNat_or, ofI a ha, ofI b hb]
  exact un64 (Nat.or_lt_two_pow (n := 64) ha hb)
theorem not_toNat (x : BitVec 64) : (~~~ x).toNat = 2 ^ 64 - 1 - x.toNat := BitVec.toNat_not
theorem andnot_u {a b : Nat} (ha : a < 18446744073709551616) (hb : b < 18446744073709551616) : IntKind.u64.wrap (BitVec.ofInt IntKind.u64.bits (a : Int) &&& ~~~ BitVec.ofInt IntKind.u64.bits (b : Int)).toNat = ((a &&& (2 ^ 64 - 1 - b) : Nat) : Int) := by
  rw [BitVec.toNat_and, ofI a ha, show (~~~ BitVec.ofInt IntKind.u64.bits (b : Int)).toNat = 2 ^ 64 - 1 - (BitVec.ofInt IntKind.u64.bits (b : Int)).toNat from not_toNat _, ofI b hb]
  exact un64 (Nat.lt_of_le_of_lt Nat.and_le_left ha)
theorem shl_u {a k : Nat} {s : Int} (hs : s.toNat = k) (hk : k ≤ 63) (h : a * 2 ^ k < 18446744073709551616) : IntKind.u64.wrap ((a : Int) * 2 ^ min s.toNat IntKind.u64.bits) = ((a * 2 ^ k : Nat) : Int) := by
  rw [hs, show min k IntKind.u64.bits = k from Nat.min_eq_left (by simp [IntKind.bits]; omega), show (a : Int) * 2 ^ k = ((a * 2 ^ k : Nat) : Int) by simp]
  exact un64 h
def uw (n : Nat) : AV := int .u64 n
set_option maxRecDepth 100000 in
theorem rword_t (r : Int) (z : Ei) (h0 : 0 ≤ r) (h_ : okc r.toNat z) : Triple Go.Proofs.Try.prog 20 [cel r z] [] (.tup [uw (word r.toNat z), int .i64 0]) [] := by
  refine apiaryref1_Word_triple rfl (by decide) ?_
  have h' := h_
  obtain ⟨r12, hz, ha, hb⟩ := h'
  simp only [apiaryref1_Word_pc, cel, List.length_nil, push_cast, ↓reduceIte, reduceCtorEq, Nat.reduceBEq, Nat.reduceEqDiff, Nat.reduceAdd, Nat.reduceSub, Nat.reduceLT, Nat.reduceLeDiff, Nat.reduceMul]
  refine call_as (as' := [cel r z]) rfl ?_
  refine call_mk (rokc_t r z h0 h_) rfl trivial ?_
  simp only [push_cast, ↓reduceIte, reduceCtorEq, Nat.reduceBEq, Nat.reduceEqDiff, Nat.reduceAdd, Nat.reduceSub, Nat.reduceLT, Nat.reduceLeDiff, Nat.reduceMul]
  have hw0 := wordI_r r.toNat z (by omega)
  refine run_loop [(6, false), (1, false), (4, false), (5, false)] (fun vs pos los => ∃ i : Int, (0 ≤ i ∧ i ≤ r) ∧ vs = [int .i64 i, .ptr 2000000 0 0, .ptr 2000001 0 0, int .u64 (wordI r.toNat z i.toNat)] ∧ pos = [] ∧ los = [.box [int .i64 r, int .i64 z.a, int .i64 z.b], .box [int .i64 (anc (r - i).toNat z).a, int .i64 (anc (r - i).toNat z).b]])
    (fun vs _ _ => match vs with | .r (.v (.int _ j)) :: _ => j.toNat | _ => 0) rfl ?_ ?_
  · simp only [push_cast, ↓reduceIte, reduceCtorEq, Nat.reduceBEq, Nat.reduceEqDiff, Nat.reduceAdd, Nat.reduceSub, Nat.reduceLT, Nat.reduceLeDiff, Nat.reduceMul]
    refine ⟨r, by omega, ?_⟩
    rw [hw0, Int.sub_self]
    exact ⟨rfl, rfl⟩
  · rintro vs pos los ⟨i, i6, rfl, rfl, rfl⟩
    simp only [push_cast, ↓reduceIte, reduceCtorEq, Nat.reduceBEq, Nat.reduceEqDiff, Nat.reduceAdd, Nat.reduceSub, Nat.reduceLT, Nat.reduceLeDiff, Nat.reduceMul]
    refine cnd_mk (fun h => ?_) (fun h => ?_)
    · simp only [decide_eq_true_eq] at h
      have hp := anc_In (r - i).toNat hz (by decide)
      simp only [push_cast, ↓reduceIte, reduceCtorEq, Nat.reduceBEq, Nat.reduceEqDiff, Nat.reduceAdd, Nat.reduceSub, Nat.reduceLT, Nat.reduceLeDiff, Nat.reduceMul]
      refine call_as (as' := [(anc (r - i).toNat z).v]) rfl ?_
      refine call_mk (rparent_t _ hp) rfl trivial ?_
      simp only [Ei.v, Ei.rv, push_cast, ↓reduceIte, reduceCtorEq, Nat.reduceBEq, Nat.reduceEqDiff, Nat.reduceAdd, Nat.reduceSub, Nat.reduceLT, Nat.reduceLeDiff, Nat.reduceMul]
      rw [show IntKind.i64.wrap (3 * i) = 3 * i from wrap_id (by omega), show IntKind.i64.wrap (36 - 3 * i) = 36 - 3 * i from wrap_id (by omega), show IntKind.i64.wrap (i - 1) = i - 1 from wrap_id (by omega)]
      have hl := wordI_lt r.toNat z i.toNat (by omega) r12
      have hst := wordI_step r.toNat z i.toNat (by omega) (by omega) r12
      have hd := dg_lt (anc (r - i).toNat z)
      have hat : (36 - 3 * i).toNat = 36 - 3 * i.toNat := by omega
      have hp2 : 2 ^ (36 - 3 * i.toNat) ≤ 2 ^ 33 := Nat.pow_le_pow_right (by decide) (by omega)
      have hd2 : dg (anc (r - i).toNat z) * 2 ^ (36 - 3 * i.toNat) ≤ 6 * 2 ^ (36 - 3 * i.toNat) := Nat.mul_le_mul_right _ (by omega)
      rw [un64 (show dg (anc (r - i).toNat z) < 18446744073709551616 by omega), show (7 : Int) = ((7 : Nat) : Int) from rfl, shl_u hat (by omega) (by omega), shl_u hat (by omega) (by omega), andnot_u (by omega) (by omega), or_u (Nat.lt_of_le_of_lt Nat.and_le_left (by omega)) (by omega)]
      rw [show (r - i).toNat = r.toNat - i.toNat by omega] at *
      rw [hst]
      refine ⟨by omega, by omega, by kernel_rfl, ⟨i - 1, by omega, ?_, ?_⟩, by omega⟩
      · rw [show (i - 1).toNat = i.toNat - 1 by omega]
      · rw [show (r - (i - 1)).toNat = r.toNat - i.toNat + 1 by omega, anc_succ]
    · have hi : i = 0 := by simp at h; omega
      subst hi
      simp only [push_cast, ↓reduceIte, reduceCtorEq, Nat.reduceBEq, Nat.reduceEqDiff, Nat.reduceAdd, Nat.reduceSub, Nat.reduceLT, Nat.reduceLeDiff, Nat.reduceMul]
      refine ⟨by decide, by decide, by decide, ?_⟩
      have hl := wordI_lt r.toNat z 0 (by omega) r12
      rw [show (r - 0).toNat = r.toNat by omega]
      obtain ⟨A, hA⟩ : ∃ A : Nat, (anc r.toNat z).a + 512 = A := ⟨((anc r.toNat z).a + 512).toNat, by omega⟩
      obtain ⟨B, hB⟩ : ∃ B : Nat, (anc r.toNat z).b + 512 = B := ⟨((anc r.toNat z).b + 512).toNat, by omega⟩
      have ho := word_or r.toNat z r12 A B (by omega) (by omega) hA hB
      have hwl := word_lt r.toNat z h_
      obtain ⟨R, rfl⟩ : ∃ R : Nat, r = R := ⟨r.toNat, by omega⟩
      rw [Int.toNat_natCast] at *
      rw [hA, hB, show IntKind.i64.wrap (A : Int) = A from wrap_id (by omega), show IntKind.i64.wrap (B : Int) = B from wrap_id (by omega), un64 (show A < 18446744073709551616 by omega), un64 (show B < 18446744073709551616 by omega), un64 (show R < 18446744073709551616 by omega)]
      rw [shl_u (k := 56) rfl (by decide) (by omega), shl_u (k := 46) rfl (by decide) (by omega), shl_u (k := 36) rfl (by decide) (by omega), show (1152921504606846976 : Int) = ((1152921504606846976 : Nat) : Int) from rfl, Int.toNat_zero]
      have l1 : wordI R z 0 ||| 1152921504606846976 < 18446744073709551616 := Nat.or_lt_two_pow (n := 64) (by omega) (by omega)
      have l2 : wordI R z 0 ||| 1152921504606846976 ||| R * 2 ^ 56 < 18446744073709551616 := Nat.or_lt_two_pow (n := 64) l1 (by omega)
      have l3 : wordI R z 0 ||| 1152921504606846976 ||| R * 2 ^ 56 ||| A * 2 ^ 46 < 18446744073709551616 := Nat.or_lt_two_pow (n := 64) l2 (by omega)
      rw [or_u (by omega) (by omega), or_u l1 (by omega), or_u l2 (by omega), or_u l3 (by omega), ho]
      rfl
/-- Is it a word? -/
def isWB (w : Nat) : Bool := decide (w / 1152921504606846976 = 1) && decide (resW w ≤ 12) && (List.range 13).all fun i => decide (i = 0) || (decide (dgt w i = 7) == decide (resW w < i))
theorem isWB_iff (w : Nat) : isWB w = true ↔ isW w := by
  simp only [isWB, isW, Bool.and_eq_true, decide_eq_true_eq, List.all_eq_true, List.mem_range, Bool.or_eq_true, beq_iff_eq, decide_eq_decide]
  constructor
  · rintro ⟨⟨h1, h2⟩, h3⟩
    refine ⟨h1, h2, fun i i1 i2 => ?_⟩
    rcases h3 i (by omega) with h | h
    · omega
    · exact h
  · rintro ⟨h1, h2, h3⟩
    refine ⟨⟨h1, h2⟩, fun i hi => ?_⟩
    by_cases h0 : i = 0
    · exact .inl h0
    · exact .inr (h3 i (by omega) (by omega))
theorem isWB_word {r : Nat} {z : Ei} (h : okc r z) : isWB (word r z) = true := (isWB_iff _).2 (word_isW r z h).1
end Go.Ev


namespace Go.Ev
open Go
set_option linter.unusedSectionVars false
set_option linter.unnecessarySimpa false
set_option linter.unusedSimpArgs false
set_option linter.unusedVariables false
noncomputable def apiaryref9_WordOf_pc : PC :=
  (.seq (.reg [⟨(some 6), none, 0, .see (.mov (.c (.r (.v (.int .u64 0)))))⟩])
  (.seq (.reg [⟨(some 12), none, 0, .see (.mov (.t 0))⟩,
    ⟨(some 13), none, 0, .see (.mov (.t 1))⟩,
    ⟨(some 14), none, 0, .see (.mov (.t 2))⟩,
    ⟨(some 15), none, 1, .call 19 [(.t 12), (.t 13), (.t 14)]⟩,
    ⟨(some 11), none, 0, .see (.mov (.t 15))⟩,
    ⟨(some 16), none, 0, .see (.ext (.t 11) 0)⟩,
    ⟨(some 17), none, 0, .see (.ext (.t 11) 1)⟩,
    ⟨(some 7), none, 0, .act (.new [(.r (.v (.int .i64 0))), (.r (.v (.int .i64 0)))])⟩,
    ⟨none, none, 0, .act (.st 2 (.t 7) (.t 16))⟩,
    ⟨(some 8), none, 0, .see (.mov (.t 17))⟩])
  (.seq (.reg [⟨(some 19), none, 0, .see (.mov (.t 2))⟩,
    ⟨(some 20), none, 0, .see (.ld (some 2) (.t 7))⟩,
    ⟨(some 21), none, 0, .see (.build [(.r (.v (.int .i64 0))), (.r (.v (.int .i64 0))), (.r (.v (.int .i64 0)))] [(0, 1, (.t 19)), (1, 2, (.t 20))])⟩,
    ⟨(some 22), none, 2, .call 20 [(.t 21)]⟩,
    ⟨(some 18), none, 0, .see (.mov (.t 22))⟩,
    ⟨(some 23), none, 0, .see (.ext (.t 18) 0)⟩,
    ⟨(some 24), none, 0, .see (.ext (.t 18) 1)⟩,
    ⟨(some 9), none, 0, .see (.mov (.t 23))⟩,
    ⟨(some 10), none, 0, .see (.mov (.t 24))⟩])
  (.seq (.reg [⟨(some 25), none, 0, .see (.mov (.t 9))⟩,
    ⟨(some 6), none, 0, .see (.mov (.t 25))⟩])
  .ret))))
noncomputable abbrev apiaryref9_WordOf_code : Code := (Go.Proofs.Try.f12.body).getD .skip
theorem apiaryref9_WordOf_chk : chkC Go.Proofs.Try.prog 26 apiaryref9_WordOf_code apiaryref9_WordOf_pc = true := by kernel_rfl
theorem apiaryref9_WordOf_triple {args : List AV} {po ro : List Ob} {res : AV} (hal : args.length = 3) (hpo : po.length ≤ 1000)
    (h : run Go.Proofs.Try.prog po.length (RetP po.length [(6, false, none)] fun v os => v = res ∧ os = ro) [.c apiaryref9_WordOf_pc] ⟨argE 0 args, ob0 po⟩) : Triple Go.Proofs.Try.prog 12 args po res ro :=
  triple_of_W (fn := Go.Proofs.Try.f12) (c := apiaryref9_WordOf_code) (pc := apiaryref9_WordOf_pc) (rs := [(6, false, none)]) Go.Proofs.Try.func12 rfl (by decide) (by have := apiaryref9_WordOf_chk; exact this) (by rw [hal]; decide) rfl (by kernel_rfl) (by kernel_rfl) (by decide) hpo (W_of_run h)

noncomputable def ident_writer_put_pc : PC :=
  (.reg [⟨(some 6), none, 0, .see (.mov (.t 0))⟩,
    ⟨(some 7), none, 0, .see (.nck (.t 6))⟩,
    ⟨(some 8), none, 0, .see (.fa 0 (.t 7))⟩,
    ⟨(some 9), none, 0, .see (.ld none (.t 8))⟩,
    ⟨(some 10), none, 0, .see (.mov (.t 2))⟩,
    ⟨(some 11), none, 0, .see (.mov (.t 1))⟩,
    ⟨(some 12), none, 0, .see (.bin .sub (.t 11) (.c (.r (.v (.int .i64 1)))))⟩,
    ⟨(some 13), none, 0, .see (.bin .mul (.c (.r (.v (.int .i64 3)))) (.t 12))⟩,
    ⟨(some 14), none, 0, .see (.bin .sub (.c (.r (.v (.int .i64 33)))) (.t 13))⟩,
    ⟨(some 15), none, 0, .see (.conv .u64 (.t 14))⟩,
    ⟨(some 16), none, 0, .see (.bin .shl (.t 10) (.t 15))⟩,
    ⟨(some 17), none, 0, .see (.bin .or (.t 9) (.t 16))⟩,
    ⟨(some 18), none, 0, .see (.nck (.t 6))⟩,
    ⟨(some 19), none, 0, .see (.fa 0 (.t 18))⟩,
    ⟨none, none, 0, .act (.st 1 (.t 19) (.t 17))⟩])
noncomputable abbrev ident_writer_put_code : Code := (Go.Proofs.Try.f46.body).getD .skip
theorem ident_writer_put_chk : chkC Go.Proofs.Try.prog 20 ident_writer_put_code ident_writer_put_pc = true := by kernel_rfl
theorem ident_writer_put_triple {args : List AV} {po ro : List Ob} {res : AV} (hal : args.length = 3) (hpo : po.length ≤ 1000)
    (h : run Go.Proofs.Try.prog po.length (RetP po.length [] fun v os => v = res ∧ os = ro) [.c ident_writer_put_pc] ⟨argE 0 args, ob0 po⟩) : Triple Go.Proofs.Try.prog 46 args po res ro :=
  triple_of_W (fn := Go.Proofs.Try.f46) (c := ident_writer_put_code) (pc := ident_writer_put_pc) (rs := []) Go.Proofs.Try.func46 rfl (by decide) (by have := ident_writer_put_chk; exact this) (by rw [hal]; decide) rfl (by kernel_rfl) (by kernel_rfl) (by decide) hpo (W_of_run h)

noncomputable def ident_Of_pc : PC :=
  (.seq (.reg [⟨(some 1), none, 0, .act (.box (.t 0))⟩,
    ⟨(some 2), none, 0, .see (.mov (.c (.r (.v (.int .u64 0)))))⟩,
    ⟨(some 3), none, 0, .see (.mov (.c (.r (.v (.int .i64 0)))))⟩])
  (.seq (.reg [⟨(some 11), none, 0, .see (.ld (some 3) (.t 1))⟩,
    ⟨(some 12), none, 1, .call 45 [(.t 11)]⟩,
    ⟨(some 10), none, 0, .see (.mov (.t 12))⟩,
    ⟨(some 13), none, 0, .see (.ext (.t 10) 0)⟩,
    ⟨(some 14), none, 0, .see (.ext (.t 10) 1)⟩,
    ⟨(some 15), none, 0, .see (.ext (.t 10) 2)⟩,
    ⟨(some 4), none, 0, .act (.new [(.r (.v (.int .i64 0))), (.r (.v (.int .i64 0)))])⟩,
    ⟨(some 5), none, 0, .act (.new [(.r (.v (.int .i64 0))), (.r (.v (.int .i64 0))), (.r (.v (.int .i64 0))), (.r (.v (.int .i64 0))), (.r (.v (.int .i64 0))), (.r (.v (.int .i64 0))), (.r (.v (.int .i64 0))), (.r (.v (.int .i64 0))), (.r (.v (.int .i64 0))), (.r (.v (.int .i64 0))), (.r (.v (.int .i64 0))), (.r (.v (.int .i64 0))), (.r (.v (.int .i64 0)))])⟩,
    ⟨none, none, 0, .act (.st 2 (.t 4) (.t 13))⟩,
    ⟨none, none, 0, .act (.st 13 (.t 5) (.t 14))⟩,
    ⟨(some 6), none, 0, .see (.mov (.t 15))⟩])
  (.seq (.seq (.reg [⟨(some 16), none, 0, .see (.mov (.t 6))⟩,
    ⟨(some 17), none, 0, .see (.un .not (.t 16))⟩])
  (.cond (.t 17)
    (.seq (.reg [⟨(some 2), none, 0, .see (.mov (.c (.r (.v (.int .u64 0)))))⟩,
    ⟨(some 3), none, 0, .see (.mov (.c (.r (.v (.int .i64 2)))))⟩])
    .ret)
    .skip))
  (.seq (.reg [⟨(some 18), none, 0, .see (.fa 0 (.t 1))⟩,
    ⟨(some 19), none, 0, .see (.ld none (.t 18))⟩,
    ⟨(some 20), none, 0, .see (.conv .u64 (.t 19))⟩,
    ⟨(some 21), none, 0, .see (.bin .shl (.t 20) (.c (.r (.v (.int .u64 56)))))⟩,
    ⟨(some 22), none, 0, .see (.bin .or (.c (.r (.v (.int .u64 1152921504606846976)))) (.t 21))⟩,
    ⟨(some 23), none, 0, .see (.fa 0 (.t 4))⟩,
    ⟨(some 24), none, 0, .see (.ld none (.t 23))⟩,
    ⟨(some 25), none, 0, .see (.bin .add (.t 24) (.c (.r (.v (.int .i64 512)))))⟩,
    ⟨(some 26), none, 0, .see (.conv .u64 (.t 25))⟩,
    ⟨(some 27), none, 0, .see (.bin .shl (.t 26) (.c (.r (.v (.int .u64 46)))))⟩,
    ⟨(some 28), none, 0, .see (.bin .or (.t 22) (.t 27))⟩,
    ⟨(some 29), none, 0, .see (.fa 1 (.t 4))⟩,
    ⟨(some 30), none, 0, .see (.ld none (.t 29))⟩,
    ⟨(some 31), none, 0, .see (.bin .add (.t 30) (.c (.r (.v (.int .i64 512)))))⟩,
    ⟨(some 32), none, 0, .see (.conv .u64 (.t 31))⟩,
    ⟨(some 33), none, 0, .see (.bin .shl (.t 32) (.c (.r (.v (.int .u64 36)))))⟩,
    ⟨(some 34), none, 0, .see (.bin .or (.t 28) (.t 33))⟩,
    ⟨(some 35), none, 0, .see (.build [(.r (.v (.int .u64 0)))] [(0, 1, (.t 34))])⟩,
    ⟨(some 36), none, 0, .act (.box (.t 35))⟩,
    ⟨(some 7), none, 0, .see (.mov (.t 36))⟩])
  (.seq (.reg [⟨(some 37), none, 0, .see (.mov (.t 7))⟩,
    ⟨(some 38), none, 0, .see (.mkf (.func 46) [(.t 37)] 1)⟩,
    ⟨(some 8), none, 0, .see (.mov (.t 38))⟩])
  (.seq (.seq (.reg [⟨(some 9), none, 0, .see (.mov (.c (.r (.v (.int .i64 1)))))⟩])
  (.block 0 (.loop (.seq (.seq (.reg [⟨(some 39), none, 0, .see (.mov (.t 9))⟩,
    ⟨(some 40), none, 0, .see (.bin .leq (.t 39) (.c (.r (.v (.int .i64 12)))))⟩])
  (.cond (.t 40)
    .skip
    (.exit 0)))
  (.seq (.block 1 (.seq (.reg [⟨(some 43), none, 0, .see (.mov (.t 9))⟩,
    ⟨(some 44), none, 0, .see (.fa 0 (.t 1))⟩,
    ⟨(some 45), none, 0, .see (.ld none (.t 44))⟩,
    ⟨(some 46), none, 0, .see (.bin .gtr (.t 43) (.t 45))⟩])
  (.cond (.t 46)
    (.reg [⟨(some 47), none, 0, .see (.mov (.t 8))⟩,
    ⟨(some 48), none, 0, .see (.mov (.t 9))⟩,
    ⟨(some 49), none, 2, .callv (.t 47) [(.t 48), (.c (.r (.v (.int .u64 7))))]⟩])
    (.reg [⟨(some 50), none, 0, .see (.mov (.t 8))⟩,
    ⟨(some 51), none, 0, .see (.mov (.t 9))⟩,
    ⟨(some 52), none, 0, .see (.mov (.t 9))⟩,
    ⟨(some 53), none, 0, .see (.iaa 13 1 (.t 5) (.t 52))⟩,
    ⟨(some 54), none, 0, .see (.ld none (.t 53))⟩,
    ⟨(some 55), none, 0, .see (.conv .u64 (.t 54))⟩,
    ⟨(some 56), none, 3, .callv (.t 50) [(.t 51), (.t 55)]⟩]))))
  (.reg [⟨(some 41), none, 0, .see (.mov (.t 9))⟩,
    ⟨(some 42), none, 0, .see (.bin .add (.t 41) (.c (.r (.v (.int .i64 1)))))⟩,
    ⟨(some 9), none, 0, .see (.mov (.t 42))⟩]))))))
  (.seq (.reg [⟨(some 57), none, 0, .see (.mov (.t 7))⟩,
    ⟨(some 58), none, 0, .see (.nck (.t 57))⟩,
    ⟨(some 59), none, 0, .see (.fa 0 (.t 58))⟩,
    ⟨(some 60), none, 0, .see (.ld none (.t 59))⟩,
    ⟨(some 2), none, 0, .see (.mov (.t 60))⟩,
    ⟨(some 3), none, 0, .see (.mov (.c (.r (.v (.int .i64 0)))))⟩])
  .ret)))))))
noncomputable abbrev ident_Of_code : Code := (Go.Proofs.Try.f29.body).getD .skip
theorem ident_Of_chk : chkC Go.Proofs.Try.prog 61 ident_Of_code ident_Of_pc = true := by kernel_rfl
theorem ident_Of_triple {args : List AV} {po ro : List Ob} {res : AV} (hal : args.length = 1) (hpo : po.length ≤ 1000)
    (h : run Go.Proofs.Try.prog po.length (RetP po.length [(2, false, none), (3, false, none)] fun v os => v = res ∧ os = ro) [.c ident_Of_pc] ⟨argE 0 args, ob0 po⟩) : Triple Go.Proofs.Try.prog 29 args po res ro :=
  triple_of_W (fn := Go.Proofs.Try.f29) (c := ident_Of_code) (pc := ident_Of_pc) (rs := [(2, false, none), (3, false, none)]) Go.Proofs.Try.func29 rfl (by decide) (by have := ident_Of_chk; exact this) (by rw [hal]; decide) rfl (by kernel_rfl) (by kernel_rfl) (by decide) hpo (W_of_run h)

/-- The word of a point's cell. -/
def wordOf (x y : Int) (r : Nat) : Nat := word r (near x y r)
set_option maxRecDepth 100000 in
theorem rwordOf_t (x y r : Int) (h : inW x y) (hr : 0 ≤ r ∧ r ≤ 12) : Triple Go.Proofs.Try.prog 12 [int .i64 x, int .i64 y, int .i64 r] [] (uw (wordOf x y r.toNat)) [] := by
  refine apiaryref9_WordOf_triple rfl (by decide) ?_
  simp only [apiaryref9_WordOf_pc, List.length_nil, push_cast, ↓reduceIte, reduceCtorEq, Nat.reduceBEq, Nat.reduceEqDiff, Nat.reduceAdd, Nat.reduceSub, Nat.reduceLT, Nat.reduceLeDiff, Nat.reduceMul]
  refine call_mk (rnear_t x y r h hr) rfl trivial ?_
  simp only [Ei.v, Ei.rv, push_cast, ↓reduceIte, reduceCtorEq, Nat.reduceBEq, Nat.reduceEqDiff, Nat.reduceAdd, Nat.reduceSub, Nat.reduceLT, Nat.reduceLeDiff, Nat.reduceMul]
  refine call_as (as' := [cel r (near x y r.toNat)]) rfl ?_
  refine call_mk (rword_t r (near x y r.toNat) hr.1 (near_okc x y r.toNat h.1 h.2 (by omega))) rfl trivial ?_
  simp only [uw, push_cast, ↓reduceIte, reduceCtorEq, Nat.reduceBEq, Nat.reduceEqDiff, Nat.reduceAdd, Nat.reduceSub, Nat.reduceLT, Nat.reduceLeDiff, Nat.reduceMul]
  rfl
/-- The word, of which the digits from i on are not there yet. -/
def wordU (w i : Nat) : Nat := w / 8 ^ (13 - i) * 8 ^ (13 - i)
theorem wordU_step (w i : Nat) (h1 : 1 ≤ i) (hi : i ≤ 12) : wordU w i ||| dgt w i * 2 ^ (36 - 3 * i) = wordU w (i + 1) := by
  unfold wordU dgt
  have e1 : 13 - (i + 1) = 12 - i := by omega
  have e2 : 13 - i = 12 - i + 1 := by omega
  have e3 : 2 ^ (36 - 3 * i) = 8 ^ (12 - i) := by rw [show (8 : Nat) = 2 ^ 3 from rfl, ← Nat.pow_mul]; congr 1; omega
  have e4 : (8 : Nat) ^ (12 - i + 1) = 2 ^ (3 * (12 - i + 1)) := by rw [show (8 : Nat) = 2 ^ 3 from rfl, ← Nat.pow_mul]
  rw [e1, e2, e3, Nat.or_comm, show w / 8 ^ (12 - i + 1) * 8 ^ (12 - i + 1) = w / 8 ^ (12 - i + 1) * 2 ^ (3 * (12 - i + 1)) by rw [e4], or_high]
  · rw [← e4, Nat.pow_succ, ← Nat.div_div_eq_div_mul]
    have hq := Nat.div_add_mod (w / 8 ^ (12 - i)) 8
    generalize w / 8 ^ (12 - i) = q at *
    generalize 8 ^ (12 - i) = m at *
    rw [Nat.mul_comm m 8, ← Nat.mul_assoc, ← Nat.add_mul, Nat.mul_comm (q / 8) 8, hq]
  · rw [← e4, Nat.pow_succ, Nat.mul_comm]
    exact Nat.mul_lt_mul_of_pos_left (Nat.mod_lt _ (by decide)) (p8 _)
theorem wordU_end (w : Nat) : wordU w 13 = w := by simp [wordU]
theorem wordU_one (r : Nat) (z : Ei) (hr : r ≤ 12) (A B : Nat) (hA : A < 1024) (hB : B < 1024) (hA' : (anc r z).a + 512 = A) (hB' : (anc r z).b + 512 = B) :
    (((1152921504606846976 ||| r * 2 ^ 56) ||| A * 2 ^ 46) ||| B * 2 ^ 36) = wordU (word r z) 1 := by
  unfold wordU
  rw [show 13 - 1 = 12 by rfl, show (8 : Nat) ^ 12 = 68719476736 by decide, word_top r z hr, hd36, hA', hB', Int.toNat_natCast, Int.toNat_natCast]
  have s1 : 1152921504606846976 ||| r * 2 ^ 56 = (16 + r) * 2 ^ 56 := by
    rw [Nat.or_comm, show (1152921504606846976 : Nat) = 1 * 2 ^ 60 by decide, or_high (show r * 2 ^ 56 < 2 ^ 60 by omega)]
    omega
  have s2 : (16 + r) * 2 ^ 56 ||| A * 2 ^ 46 = ((16 + r) * 1024 + A) * 2 ^ 46 := by
    rw [Nat.or_comm, or_high (show A * 2 ^ 46 < 2 ^ 56 by omega)]
    omega
  have s3 : ((16 + r) * 1024 + A) * 2 ^ 46 ||| B * 2 ^ 36 = (((16 + r) * 1024 + A) * 1024 + B) * 2 ^ 36 := by
    rw [Nat.or_comm, or_high (show B * 2 ^ 36 < 2 ^ 46 by omega)]
    omega
  rw [s1, s2, s3]
theorem wordU_lt {w : Nat} (h : w < 18446744073709551616) (i : Nat) : wordU w i < 18446744073709551616 := Nat.lt_of_le_of_lt (Nat.div_mul_le_self _ _) h
set_option maxRecDepth 100000 in
theorem put_w (w d r : Nat) (hw : w < 18446744073709551616) (hd : d < 8) (h1 : 1 ≤ r) (hr : r ≤ 12) : Triple Go.Proofs.Try.prog 46 [.ptr 1000000 0 0, int .i64 r, int .u64 d] [.box [uw w]] (.tup []) [.box [uw (w ||| d * 2 ^ (36 - 3 * r))]] := by
  refine ident_writer_put_triple rfl (by simp) ?_
  simp only [ident_writer_put_pc, uw, List.length_cons, List.length_nil, push_cast, ↓reduceIte, reduceCtorEq, Nat.reduceBEq, Nat.reduceEqDiff, Nat.reduceAdd, Nat.reduceSub, Nat.reduceLT, Nat.reduceLeDiff, Nat.reduceMul]
  have e1 : IntKind.i64.wrap ((r : Int) - 1) = (r : Int) - 1 := wrap_id (by omega)
  have e2 : IntKind.i64.wrap (3 * ((r : Int) - 1)) = 3 * ((r : Int) - 1) := wrap_id (by omega)
  have e3 : IntKind.i64.wrap (33 - 3 * ((r : Int) - 1)) = ((36 - 3 * r : Nat) : Int) := by rw [wrap_id (by omega)]; omega
  have hp : 2 ^ (36 - 3 * r) ≤ 2 ^ 33 := Nat.pow_le_pow_right (by decide) (by omega)
  have hm : d * 2 ^ (36 - 3 * r) ≤ 7 * 2 ^ (36 - 3 * r) := Nat.mul_le_mul_right _ (by omega)
  rw [e1, e2, e3, show IntKind.u64.wrap ((36 - 3 * r : Nat) : Int) = ((36 - 3 * r : Nat) : Int) from un64 (by omega), shl_u (Int.toNat_natCast _) (by omega) (by omega), or_u hw (by omega)]
  repeat refine And.intro (by first | decide | omega | exact fun _ => by decide | (simp +contextual; done) | kernel_rfl) ?_
  rfl
theorem digs_box (r : Nat) (z : Ei) (l : List AV) (h : l.length ≤ 13) : List.map AV.r (digsR r z 0) ++ List.drop (0 + (digsR r z 0).length) l = digs r z 0 := by
  rw [List.drop_of_length_le (by simp [digsR]; omega), List.append_nil]
  simp [digsR, digs]
theorem digs_get (r : Nat) (z : Ei) (j : Nat) (h1 : 1 ≤ j) (h2 : j ≤ r) (hr : r ≤ 12) : (digs r z 0).getD j AV.undef = int .i64 (dg (anc (r - j) z)) := by
  rw [List.getD_eq_getElem?_getD]
  unfold digs
  rw [List.getElem?_map, List.getElem?_range (by omega)]
  simp only [Option.map_some, Option.getD_some]
  rw [if_pos (by omega)]
set_option maxRecDepth 100000 in
/-- The program's word of a cell. -/
theorem word_t (r : Int) (z : Ei) (h0 : 0 ≤ r) (hk : okc r.toNat z) : Triple Go.Proofs.Try.prog 29 [cel r z] [] (.tup [uw (word r.toNat z), int .i64 0]) [] := by
  refine ident_Of_triple rfl (by decide) ?_
  obtain ⟨hs, hbb⟩ := okc_B h0 hk
  have hwl := word_lt r.toNat z hk
  obtain ⟨r12, hz, ha, hb⟩ := id hk
  simp only [ident_Of_pc, cel, List.length_nil, push_cast, ↓reduceIte, reduceCtorEq, Nat.reduceBEq, Nat.reduceEqDiff, Nat.reduceAdd, Nat.reduceSub, Nat.reduceLT, Nat.reduceLeDiff, Nat.reduceMul]
  refine call_as (as' := [cel r z]) rfl ?_
  refine call_mk (way_t r z hs) rfl trivial ?_
  rw [hbb]
  simp only [Ei.v, Ei.rv, push_cast, ↓reduceIte, reduceCtorEq, Nat.reduceBEq, Nat.reduceEqDiff, Nat.reduceAdd, Nat.reduceSub, Nat.reduceLT, Nat.reduceLeDiff, Nat.reduceMul]
  obtain ⟨A, hA⟩ : ∃ A : Nat, (anc r.toNat z).a + 512 = A := ⟨((anc r.toNat z).a + 512).toNat, by omega⟩
  obtain ⟨B, hB⟩ : ∃ B : Nat, (anc r.toNat z).b + 512 = B := ⟨((anc r.toNat z).b + 512).toNat, by omega⟩
  have hone := wordU_one r.toNat z r12 A B (by omega) (by omega) hA hB
  obtain ⟨R, rfl⟩ : ∃ R : Nat, r = R := ⟨r.toNat, by omega⟩
  rw [Int.toNat_natCast] at *
  rw [hA, hB, show IntKind.i64.wrap (A : Int) = A from wrap_id (by omega), show IntKind.i64.wrap (B : Int) = B from wrap_id (by omega), un64 (show A < 18446744073709551616 by omega), un64 (show B < 18446744073709551616 by omega), un64 (show R < 18446744073709551616 by omega)]
  rw [shl_u (k := 56) rfl (by decide) (by omega), shl_u (k := 46) rfl (by decide) (by omega), shl_u (k := 36) rfl (by decide) (by omega), show (1152921504606846976 : Int) = ((1152921504606846976 : Nat) : Int) from rfl]
  have l1 : 1152921504606846976 ||| R * 2 ^ 56 < 18446744073709551616 := Nat.or_lt_two_pow (n := 64) (by omega) (by omega)
  have l2 : 1152921504606846976 ||| R * 2 ^ 56 ||| A * 2 ^ 46 < 18446744073709551616 := Nat.or_lt_two_pow (n := 64) l1 (by omega)
  rw [or_u (by omega) (by omega), or_u l1 (by omega), or_u l2 (by omega), hone]
  have hdl := digs_len R z 0
  simp only [digs_box R z [AV.r (RV.v (Value.int IntKind.i64 0)), AV.r (RV.v (Value.int IntKind.i64 0)), AV.r (RV.v (Value.int IntKind.i64 0)), AV.r (RV.v (Value.int IntKind.i64 0)), AV.r (RV.v (Value.int IntKind.i64 0)), AV.r (RV.v (Value.int IntKind.i64 0)), AV.r (RV.v (Value.int IntKind.i64 0)), AV.r (RV.v (Value.int IntKind.i64 0)), AV.r (RV.v (Value.int IntKind.i64 0)), AV.r (RV.v (Value.int IntKind.i64 0)), AV.r (RV.v (Value.int IntKind.i64 0)), AV.r (RV.v (Value.int IntKind.i64 0)), AV.r (RV.v (Value.int IntKind.i64 0))] (by simp)]
  repeat refine And.intro (by first | decide | (simp [digsR]; done) | kernel_rfl) ?_
  refine run_loop [(9, false), (1, false), (5, false), (7, false), (8, false)] (fun vs pos los => ∃ i : Nat, (1 ≤ i ∧ i ≤ 13) ∧ vs = [int .i64 i, .ptr 2000000 0 0, .ptr 2000001 0 0, .ptr 2000002 0 0, .fn (.func 46) [.ptr 2000002 0 0] 1] ∧ pos = [] ∧
    los = [.box [int .i64 R, int .i64 z.a, int .i64 z.b], .box (digs R z 0), .box [uw (wordU (word R z) i)]])
    (fun vs _ _ => match vs with | .r (.v (.int _ j)) :: _ => (13 - j).toNat | _ => 0) rfl ?_ ?_
  · simp only [hidL_digs, imL_digs, uw, push_cast, ↓reduceIte, reduceCtorEq, Nat.reduceBEq, Nat.reduceEqDiff, Nat.reduceAdd, Nat.reduceSub, Nat.reduceLT, Nat.reduceLeDiff, Nat.reduceMul]
    exact ⟨1, by omega, rfl, rfl⟩
  · rintro vs pos los ⟨i, hi, rfl, rfl, rfl⟩
    simp only [uw, push_cast, ↓reduceIte, reduceCtorEq, Nat.reduceBEq, Nat.reduceEqDiff, Nat.reduceAdd, Nat.reduceSub, Nat.reduceLT, Nat.reduceLeDiff, Nat.reduceMul]
    refine cnd_mk (fun h => ?_) (fun h => ?_)
    · have hi12 : i ≤ 12 := by simp at h; omega
      have hul := wordU_lt hwl i
      have hst := wordU_step (word R z) i hi.1 hi12
      simp only [push_cast, ↓reduceIte, reduceCtorEq, Nat.reduceBEq, Nat.reduceEqDiff, Nat.reduceAdd, Nat.reduceSub, Nat.reduceLT, Nat.reduceLeDiff, Nat.reduceMul]
      refine cnd_mk (fun hc => ?_) (fun hc => ?_)
      · have hc' : R < i := by simp at hc; omega
        simp only [push_cast, ↓reduceIte, reduceCtorEq, Nat.reduceBEq, Nat.reduceEqDiff, Nat.reduceAdd, Nat.reduceSub, Nat.reduceLT, Nat.reduceLeDiff, Nat.reduceMul]
        refine ⟨by kernel_rfl, ?_⟩
        refine call_as (as' := [.ptr 1000000 0 0, int .i64 i, int .u64 (7 : Nat)]) rfl ?_
        refine call_mk (put_w (wordU (word R z) i) 7 i hul (by decide) hi.1 hi12) rfl ⟨rfl, trivial⟩ ?_
        rw [word_seven R i z hc' hi12] at hst
        rw [hst]
        simp only [hidL_digs, imL_digs, uw, push_cast, ↓reduceIte, reduceCtorEq, Nat.reduceBEq, Nat.reduceEqDiff, Nat.reduceAdd, Nat.reduceSub, Nat.reduceLT, Nat.reduceLeDiff, Nat.reduceMul]
        rw [show IntKind.i64.wrap ((i : Int) + 1) = ((i + 1 : Nat) : Int) by rw [wrap_id (by omega)]; omega]
        exact ⟨⟨i + 1, by omega, rfl, rfl⟩, by omega⟩
      · have hc' : i ≤ R := by simp at hc; omega
        have hd := dg_lt (anc (R - i) z)
        simp only [Int.toNat_natCast, Nat.zero_add, Nat.mul_one, digs_get R z i hi.1 hc' r12, hdl, push_cast, ↓reduceIte, reduceCtorEq, Nat.reduceBEq, Nat.reduceEqDiff, Nat.reduceAdd, Nat.reduceSub, Nat.reduceLT, Nat.reduceLeDiff, Nat.reduceMul]
        rw [un64 (show dg (anc (R - i) z) < 18446744073709551616 by omega)]
        repeat refine And.intro (by first | decide | omega | exact fun _ => by decide | (simp +contextual; done) | kernel_rfl) ?_
        refine call_mk (put_w (wordU (word R z) i) (dg (anc (R - i) z)) i hul (by omega) hi.1 hi12) rfl ⟨rfl, trivial⟩ ?_
        rw [word_dgt R i z r12 hi.1 hc'] at hst
        rw [hst]
        simp only [hidL_digs, imL_digs, uw, push_cast, ↓reduceIte, reduceCtorEq, Nat.reduceBEq, Nat.reduceEqDiff, Nat.reduceAdd, Nat.reduceSub, Nat.reduceLT, Nat.reduceLeDiff, Nat.reduceMul]
        rw [show IntKind.i64.wrap ((i : Int) + 1) = ((i + 1 : Nat) : Int) by rw [wrap_id (by omega)]; omega]
        exact ⟨⟨i + 1, by omega, rfl, rfl⟩, by omega⟩
    · have hi13 : i = 13 := by simp at h; omega
      subst hi13
      simp only [wordU_end, uw, push_cast, ↓reduceIte, reduceCtorEq, Nat.reduceBEq, Nat.reduceEqDiff, Nat.reduceAdd, Nat.reduceSub, Nat.reduceLT, Nat.reduceLeDiff, Nat.reduceMul]
end Go.Ev


namespace Go.Ev
open Go
set_option linter.unusedSectionVars false
set_option linter.unnecessarySimpa false
set_option linter.unusedSimpArgs false
set_option linter.unusedVariables false
noncomputable def tree_Less_pc : PC :=
  (.seq (.reg [⟨(some 2), none, 0, .act (.box (.t 0))⟩,
    ⟨(some 3), none, 0, .act (.box (.t 1))⟩,
    ⟨(some 4), none, 0, .see (.mov (.c (.r (.v (.bool false)))))⟩])
  (.seq (.block 0 (.seq (.reg [⟨(some 6), none, 0, .see (.fa 0 (.t 2))⟩,
    ⟨(some 7), none, 0, .see (.ld none (.t 6))⟩,
    ⟨(some 8), none, 0, .see (.fa 0 (.t 3))⟩,
    ⟨(some 9), none, 0, .see (.ld none (.t 8))⟩,
    ⟨(some 10), none, 0, .see (.bin .neq (.t 7) (.t 9))⟩,
    ⟨(some 5), none, 0, .see (.mov (.t 10))⟩])
  (.cond (.t 5)
    (.seq (.reg [⟨(some 11), none, 0, .see (.fa 0 (.t 2))⟩,
    ⟨(some 12), none, 0, .see (.ld none (.t 11))⟩,
    ⟨(some 13), none, 0, .see (.fa 0 (.t 3))⟩,
    ⟨(some 14), none, 0, .see (.ld none (.t 13))⟩,
    ⟨(some 15), none, 0, .see (.bin .lss (.t 12) (.t 14))⟩,
    ⟨(some 4), none, 0, .see (.mov (.t 15))⟩])
    .ret)
    (.seq (.reg [⟨(some 17), none, 0, .see (.fa 1 (.t 2))⟩,
    ⟨(some 18), none, 0, .see (.ld none (.t 17))⟩,
    ⟨(some 19), none, 0, .see (.fa 1 (.t 3))⟩,
    ⟨(some 20), none, 0, .see (.ld none (.t 19))⟩,
    ⟨(some 21), none, 0, .see (.bin .neq (.t 18) (.t 20))⟩,
    ⟨(some 16), none, 0, .see (.mov (.t 21))⟩])
    (.cond (.t 16)
      (.seq (.reg [⟨(some 22), none, 0, .see (.fa 1 (.t 2))⟩,
    ⟨(some 23), none, 0, .see (.ld none (.t 22))⟩,
    ⟨(some 24), none, 0, .see (.fa 1 (.t 3))⟩,
    ⟨(some 25), none, 0, .see (.ld none (.t 24))⟩,
    ⟨(some 26), none, 0, .see (.bin .lss (.t 23) (.t 25))⟩,
    ⟨(some 4), none, 0, .see (.mov (.t 26))⟩])
      .ret)
      .skip)))))
  (.seq (.reg [⟨(some 27), none, 0, .see (.fa 2 (.t 2))⟩,
    ⟨(some 28), none, 0, .see (.ld none (.t 27))⟩,
    ⟨(some 29), none, 0, .see (.fa 2 (.t 3))⟩,
    ⟨(some 30), none, 0, .see (.ld none (.t 29))⟩,
    ⟨(some 31), none, 0, .see (.bin .lss (.t 28) (.t 30))⟩,
    ⟨(some 4), none, 0, .see (.mov (.t 31))⟩])
  .ret)))
noncomputable abbrev tree_Less_code : Code := (Go.Proofs.Try.f41.body).getD .skip
theorem tree_Less_chk : chkC Go.Proofs.Try.prog 32 tree_Less_code tree_Less_pc = true := by kernel_rfl
theorem tree_Less_triple {args : List AV} {po ro : List Ob} {res : AV} (hal : args.length = 2) (hpo : po.length ≤ 1000)
    (h : run Go.Proofs.Try.prog po.length (RetP po.length [(4, false, none)] fun v os => v = res ∧ os = ro) [.c tree_Less_pc] ⟨argE 0 args, ob0 po⟩) : Triple Go.Proofs.Try.prog 41 args po res ro :=
  triple_of_W (fn := Go.Proofs.Try.f41) (c := tree_Less_code) (pc := tree_Less_pc) (rs := [(4, false, none)]) Go.Proofs.Try.func41 rfl (by decide) (by have := tree_Less_chk; exact this) (by rw [hal]; decide) rfl (by kernel_rfl) (by kernel_rfl) (by decide) hpo (W_of_run h)

noncomputable def sort_Search_pc : PC :=
  (.seq (.reg [⟨(some 4), none, 0, .see (.mov (.c (.r (.v (.int .i64 0)))))⟩])
  (.seq (.reg [⟨(some 8), none, 0, .see (.mov (.t 0))⟩,
    ⟨(some 5), none, 0, .see (.mov (.c (.r (.v (.int .i64 0)))))⟩,
    ⟨(some 6), none, 0, .see (.mov (.t 8))⟩])
  (.seq (.block 0 (.loop (.seq (.seq (.reg [⟨(some 9), none, 0, .see (.mov (.t 5))⟩,
    ⟨(some 10), none, 0, .see (.mov (.t 6))⟩,
    ⟨(some 11), none, 0, .see (.bin .lss (.t 9) (.t 10))⟩])
  (.cond (.t 11)
    .skip
    (.exit 0)))
  (.block 1 (.seq (.reg [⟨(some 12), none, 0, .see (.mov (.t 5))⟩,
    ⟨(some 13), none, 0, .see (.mov (.t 6))⟩,
    ⟨(some 14), none, 0, .see (.bin .add (.t 12) (.t 13))⟩,
    ⟨(some 15), none, 0, .see (.conv .u64 (.t 14))⟩,
    ⟨(some 16), none, 0, .see (.bin .shr (.t 15) (.c (.r (.v (.int .u64 1)))))⟩,
    ⟨(some 17), none, 0, .see (.conv .i64 (.t 16))⟩,
    ⟨(some 7), none, 0, .see (.mov (.t 17))⟩])
  (.seq (.reg [⟨(some 18), none, 0, .see (.mov (.t 1))⟩,
    ⟨(some 19), none, 0, .see (.mov (.t 7))⟩,
    ⟨(some 20), none, 1, .callv (.t 18) [(.t 19)]⟩,
    ⟨(some 21), none, 0, .see (.un .not (.t 20))⟩])
  (.cond (.t 21)
    (.reg [⟨(some 22), none, 0, .see (.mov (.t 7))⟩,
    ⟨(some 23), none, 0, .see (.bin .add (.t 22) (.c (.r (.v (.int .i64 1)))))⟩,
    ⟨(some 5), none, 0, .see (.mov (.t 23))⟩])
    (.reg [⟨(some 24), none, 0, .see (.mov (.t 7))⟩,
    ⟨(some 6), none, 0, .see (.mov (.t 24))⟩]))))))))
  (.seq (.reg [⟨(some 25), none, 0, .see (.mov (.t 5))⟩,
    ⟨(some 4), none, 0, .see (.mov (.t 25))⟩])
  .ret))))
noncomputable abbrev sort_Search_code : Code := (Go.Proofs.Try.f39.body).getD .skip
theorem sort_Search_chk : chkC Go.Proofs.Try.prog 26 sort_Search_code sort_Search_pc = true := by kernel_rfl
theorem sort_Search_triple {args : List AV} {po ro : List Ob} {res : AV} (hal : args.length = 2) (hpo : po.length ≤ 1000)
    (h : run Go.Proofs.Try.prog po.length (RetP po.length [(4, false, none)] fun v os => v = res ∧ os = ro) [.c sort_Search_pc] ⟨argE 0 args, ob0 po⟩) : Triple Go.Proofs.Try.prog 39 args po res ro :=
  triple_of_W (fn := Go.Proofs.Try.f39) (c := sort_Search_code) (pc := sort_Search_pc) (rs := [(4, false, none)]) Go.Proofs.Try.func39 rfl (by decide) (by have := sort_Search_chk; exact this) (by rw [hal]; decide) rfl (by kernel_rfl) (by kernel_rfl) (by decide) hpo (W_of_run h)

noncomputable def tree_find_1_pc : PC :=
  (.seq (.reg [⟨(some 4), none, 0, .see (.mov (.c (.r (.v (.bool false)))))⟩])
  (.seq (.drw [⟨(some 5), none, 0, .see (.ld none (.t 1))⟩,
    ⟨(some 6), none, 0, .see (.mov (.t 0))⟩,
    ⟨(some 7), none, 0, .see (.ia 3 (.agg [(.v (.int .u64 0)), (.v (.int .i64 0)), (.v (.int .i64 0))]) (.t 5) (.t 6))⟩,
    ⟨(some 8), none, 0, .see (.ld (some 3) (.t 7))⟩,
    ⟨(some 9), none, 0, .see (.ld (some 3) (.t 2))⟩,
    ⟨(some 10), none, 1, .call 41 [(.t 8), (.t 9)]⟩,
    ⟨(some 11), none, 0, .see (.un .not (.t 10))⟩,
    ⟨(some 4), none, 0, .see (.mov (.t 11))⟩]
    [[], [], [0, 1], [0, 1, 2], [], [0, 1, 2, 3, 4], [0, 1, 2, 3, 4, 5], [0, 1, 2, 3, 4, 5, 6]])
  .ret))
noncomputable abbrev tree_find_1_code : Code := (Go.Proofs.Try.f42.body).getD .skip
theorem tree_find_1_chk : chkC Go.Proofs.Try.prog 12 tree_find_1_code tree_find_1_pc = true := by kernel_rfl
theorem tree_find_1_triple {args : List AV} {po ro : List Ob} {res : AV} (hal : args.length = 3) (hpo : po.length ≤ 1000)
    (h : run Go.Proofs.Try.prog po.length (RetP po.length [(4, false, none)] fun v os => v = res ∧ os = ro) [.c tree_find_1_pc] ⟨argE 0 args, ob0 po⟩) : Triple Go.Proofs.Try.prog 42 args po res ro :=
  triple_of_W (fn := Go.Proofs.Try.f42) (c := tree_find_1_code) (pc := tree_find_1_pc) (rs := [(4, false, none)]) Go.Proofs.Try.func42 rfl (by decide) (by have := tree_find_1_chk; exact this) (by rw [hal]; decide) rfl (by kernel_rfl) (by kernel_rfl) (by decide) hpo (W_of_run h)

noncomputable def tree_find_pc : PC :=
  (.seq (.reg [⟨(some 2), none, 0, .act (.box (.t 0))⟩,
    ⟨(some 3), none, 0, .act (.box (.t 1))⟩,
    ⟨(some 4), none, 0, .see (.mov (.c (.r (.v (.int .i64 0)))))⟩,
    ⟨(some 5), none, 0, .see (.mov (.c (.r (.v (.bool false)))))⟩])
  (.seq (.reg [⟨(some 7), none, 0, .see (.ld none (.t 2))⟩,
    ⟨(some 8), none, 0, .see (.len false (.t 7))⟩,
    ⟨(some 9), none, 0, .see (.mkf (.func 42) [(.t 2), (.t 3)])⟩,
    ⟨(some 10), none, 1, .call 39 [(.t 8), (.t 9)]⟩,
    ⟨(some 6), none, 0, .see (.mov (.t 10))⟩])
  (.seq (.drw [⟨(some 11), none, 0, .see (.mov (.t 6))⟩,
    ⟨(some 12), none, 0, .see (.mov (.t 6))⟩,
    ⟨(some 13), none, 0, .see (.ld none (.t 2))⟩,
    ⟨(some 14), none, 0, .see (.len false (.t 13))⟩,
    ⟨(some 15), none, 0, .see (.bin .lss (.t 12) (.t 14))⟩,
    ⟨(some 16), none, 0, .see (.mov (.t 15))⟩,
    ⟨(some 17), (some (16, true)), 0, .see (.ld none (.t 2))⟩,
    ⟨(some 18), (some (16, true)), 0, .see (.mov (.t 6))⟩,
    ⟨(some 19), (some (16, true)), 0, .see (.ia 3 (.agg [(.v (.int .u64 0)), (.v (.int .i64 0)), (.v (.int .i64 0))]) (.t 17) (.t 18))⟩,
    ⟨(some 20), (some (16, true)), 0, .see (.ld (some 3) (.t 19))⟩,
    ⟨(some 21), (some (16, true)), 0, .see (.ld (some 3) (.t 3))⟩,
    ⟨(some 22), (some (16, true)), 0, .see (.eqa false [0, 0, 0] (.t 20) (.t 21))⟩,
    ⟨(some 23), none, 0, .see (.pick (.t 16) (.t 22) (.c (.r (.v (.bool false)))))⟩,
    ⟨(some 4), none, 0, .see (.mov (.t 11))⟩,
    ⟨(some 5), none, 0, .see (.mov (.t 23))⟩]
    [[], [], [], [2], [1, 2, 3], [1, 2, 3, 4], [1, 2, 3, 4, 5], [1, 2, 3, 4, 5], [1, 2, 3, 4, 5, 6, 7], [1, 2, 3, 4, 5, 6, 7, 8], [1, 2, 3, 4, 5], [1, 2, 3, 4, 5, 6, 7, 8, 9, 10], [1, 2, 3, 4, 5, 6, 7, 8, 9, 10, 11], [0, 1, 2, 3, 4, 5], [0, 1, 2, 3, 4, 5, 6, 7, 8, 9, 10, 11, 12, 13]])
  .ret)))
noncomputable abbrev tree_find_code : Code := (Go.Proofs.Try.f26.body).getD .skip
theorem tree_find_chk : chkC Go.Proofs.Try.prog 24 tree_find_code tree_find_pc = true := by kernel_rfl
theorem tree_find_triple {args : List AV} {po ro : List Ob} {res : AV} (hal : args.length = 2) (hpo : po.length ≤ 1000)
    (h : run Go.Proofs.Try.prog po.length (RetP po.length [(4, false, none), (5, false, none)] fun v os => v = res ∧ os = ro) [.c tree_find_pc] ⟨argE 0 args, ob0 po⟩) : Triple Go.Proofs.Try.prog 26 args po res ro :=
  triple_of_W (fn := Go.Proofs.Try.f26) (c := tree_find_code) (pc := tree_find_pc) (rs := [(4, false, none), (5, false, none)]) Go.Proofs.Try.func26 rfl (by decide) (by have := tree_find_chk; exact this) (by rw [hal]; decide) rfl (by kernel_rfl) (by kernel_rfl) (by decide) hpo (W_of_run h)

/-- A key. -/
structure Ky where
  c : Int
  v : Int
  d : Int
deriving DecidableEq
def Ky.rv (k : Ky) : RV := .agg [.v (.int .u64 k.c), .v (.int .i64 k.v), .v (.int .i64 k.d)]
def Ky.av (k : Ky) : AV := .r k.rv
/-- The order of keys. -/
def kl (a b : Ky) : Bool := if a.c ≠ b.c then decide (a.c < b.c) else if a.v ≠ b.v then decide (a.v < b.v) else decide (a.d < b.d)
set_option maxRecDepth 100000 in
theorem less_t (a b : Ky) : Triple Go.Proofs.Try.prog 41 [a.av, b.av] [] (bl (kl a b)) [] := by
  refine tree_Less_triple rfl (by decide) ?_
  simp only [tree_Less_pc, Ky.av, Ky.rv, kl, List.length_nil, push_cast, ↓reduceIte, reduceCtorEq, Nat.reduceBEq, Nat.reduceEqDiff, Nat.reduceAdd, Nat.reduceSub, Nat.reduceLT, Nat.reduceLeDiff, Nat.reduceMul]
  refine cnd_mk (fun h1 => ?_) (fun h1 => ?_)
  · simp only [push_cast, ↓reduceIte, reduceCtorEq, Nat.reduceBEq, Nat.reduceEqDiff, Nat.reduceAdd, Nat.reduceSub, Nat.reduceLT, Nat.reduceLeDiff, Nat.reduceMul]
    simp at h1
    refine bl_iff ?_
    simp [h1]
  · simp only [push_cast, ↓reduceIte, reduceCtorEq, Nat.reduceBEq, Nat.reduceEqDiff, Nat.reduceAdd, Nat.reduceSub, Nat.reduceLT, Nat.reduceLeDiff, Nat.reduceMul]
    simp at h1
    refine cnd_mk (fun h2 => ?_) (fun h2 => ?_)
    · simp only [push_cast, ↓reduceIte, reduceCtorEq, Nat.reduceBEq, Nat.reduceEqDiff, Nat.reduceAdd, Nat.reduceSub, Nat.reduceLT, Nat.reduceLeDiff, Nat.reduceMul]
      simp at h2
      refine bl_iff ?_
      simp [h1, h2]
    · simp only [push_cast, ↓reduceIte, reduceCtorEq, Nat.reduceBEq, Nat.reduceEqDiff, Nat.reduceAdd, Nat.reduceSub, Nat.reduceLT, Nat.reduceLeDiff, Nat.reduceMul]
      simp at h2
      refine bl_iff ?_
      simp [h1, h2]
end Go.Ev


namespace Go.Ev
open Go
set_option linter.unusedSectionVars false
set_option linter.unnecessarySimpa false
set_option linter.unusedSimpArgs false
set_option linter.unusedVariables false
set_option maxRecDepth 100000 in
/-- The least place from which on p holds. -/
theorem search_t (F : FuncId) (A B : List AV) (hA : hidL A = []) (hB : hidL B = []) (hfn : isFn Go.Proofs.Try.prog F = true) (p : Nat → Bool) (n r : Nat) (hn : n ≤ maxLen) (hr : r ≤ n)
    (h0 : ∀ i, i < r → p i = false) (h1 : ∀ i, r ≤ i → i < n → p i = true)
    (hF : ∀ i : Nat, i < n → Triple Go.Proofs.Try.prog F [int .i64 i, .ptr 1000000 0 0, .ptr 1000001 0 0] [.box A, .box B] (bl (p i)) [.box A, .box B]) :
    Triple Go.Proofs.Try.prog 39 [int .i64 n, .fn (.func F) [.ptr 1000000 0 0, .ptr 1000001 0 0] 0] [.box A, .box B] (int .i64 r) [.box A, .box B] := by
  refine sort_Search_triple rfl (by simp) ?_
  simp only [sort_Search_pc, List.length_nil, push_cast, ↓reduceIte, reduceCtorEq, Nat.reduceBEq, Nat.reduceEqDiff, Nat.reduceAdd, Nat.reduceSub, Nat.reduceLT, Nat.reduceLeDiff, Nat.reduceMul]
  have hmax := maxLen_big
  have iA : ∀ F, imL F A = A := fun F => imL_free F A hA
  have iB : ∀ F, imL F B = B := fun F => imL_free F B hB
  refine run_loop [(1, false), (5, false), (6, false)] (fun vs pos los => ∃ (lo hi : Int), 0 ≤ lo ∧ lo ≤ r ∧ (r : Int) ≤ hi ∧ hi ≤ n ∧
    vs = [.fn (.func F) [.ptr 1000000 0 0, .ptr 1000001 0 0] 0, int .i64 lo, int .i64 hi] ∧ pos = [.box A, .box B] ∧ los = [])
    (fun vs _ _ => match vs with | [_, .r (.v (.int _ a)), .r (.v (.int _ b))] => (b - a).toNat | _ => 0) rfl ?_ ?_
  · simp only [hA, hB, iA, iB, hfn, List.nil_append, push_cast, ↓reduceIte, reduceCtorEq, Nat.reduceBEq, Nat.reduceEqDiff, Nat.reduceAdd, Nat.reduceSub, Nat.reduceLT, Nat.reduceLeDiff, Nat.reduceMul]
    refine ⟨0, n, by omega, by omega, by omega, by omega, ?_⟩
    simp
  · rintro vs pos los ⟨lo, hi, l0, lr, rh, hn', rfl, rfl, rfl⟩
    simp only [hA, hB, iA, iB, hfn, List.nil_append, push_cast, ↓reduceIte, reduceCtorEq, Nat.reduceBEq, Nat.reduceEqDiff, Nat.reduceAdd, Nat.reduceSub, Nat.reduceLT, Nat.reduceLeDiff, Nat.reduceMul]
    refine cnd_mk (fun h => ?_) (fun h => ?_)
    · simp only [hA, hB, iA, iB, hfn, List.nil_append, push_cast, ↓reduceIte, reduceCtorEq, Nat.reduceBEq, Nat.reduceEqDiff, Nat.reduceAdd, Nat.reduceSub, Nat.reduceLT, Nat.reduceLeDiff, Nat.reduceMul]
      have hlt : lo < hi := by simpa using h
      have hmx : (n : Int) ≤ 9223372036854775807 := by have := hn; simp only [maxLen] at this; omega
      have hw2 : IntKind.u64.wrap (IntKind.i64.wrap (lo + hi)) = lo + hi := by rw [IntKind.wrap_i64, IntKind.wrap_u64]; omega
      have hs : (lo + hi).fdiv (2 ^ min (Int.toNat 1) IntKind.u64.bits) = (lo + hi) / 2 := shr_u (lo + hi) 1 (by decide)
      have hw3 : IntKind.i64.wrap ((lo + hi) / 2) = (lo + hi) / 2 := wrap_id ⟨by omega, by omega⟩
      obtain ⟨M, hM⟩ : ∃ M : Nat, (lo + hi) / 2 = M := ⟨((lo + hi) / 2).toNat, by omega⟩
      rw [hM] at hw3
      simp only [hw2, hs, hM, hw3]
      refine ⟨by decide, call_mk (hF M (by omega)) rfl ⟨rfl, rfl, trivial⟩ ?_⟩
      simp only [hA, hB, iA, iB, hfn, List.nil_append, push_cast, ↓reduceIte, reduceCtorEq, Nat.reduceBEq, Nat.reduceEqDiff, Nat.reduceAdd, Nat.reduceSub, Nat.reduceLT, Nat.reduceLeDiff, Nat.reduceMul]
      have hw4 : IntKind.i64.wrap ((M : Int) + 1) = M + 1 := wrap_id ⟨by omega, by omega⟩
      refine cnd_mk (fun h2 => ?_) (fun h2 => ?_)
      · simp only [hA, hB, iA, iB, hfn, hw4, List.nil_append, push_cast, ↓reduceIte, reduceCtorEq, Nat.reduceBEq, Nat.reduceEqDiff, Nat.reduceAdd, Nat.reduceSub, Nat.reduceLT, Nat.reduceLeDiff, Nat.reduceMul]
        have hp : p M = false := by simpa using h2
        have hMr : M < r := Nat.lt_of_not_le fun hle => by rw [h1 M hle (by omega)] at hp; cases hp
        refine ⟨⟨M + 1, hi, by omega, by omega, by omega, by omega, ?_⟩, by omega⟩
        simp
      · simp only [hA, hB, iA, iB, hfn, List.nil_append, push_cast, ↓reduceIte, reduceCtorEq, Nat.reduceBEq, Nat.reduceEqDiff, Nat.reduceAdd, Nat.reduceSub, Nat.reduceLT, Nat.reduceLeDiff, Nat.reduceMul]
        have hp : p M = true := by simpa using h2
        have hMr : r ≤ M := Nat.le_of_not_lt fun hlt => by rw [h0 M hlt] at hp; cases hp
        refine ⟨⟨lo, M, by omega, by omega, by omega, by omega, ?_⟩, by omega⟩
        simp
    · simp only [hA, hB, iA, iB, hfn, List.nil_append, push_cast, ↓reduceIte, reduceCtorEq, Nat.reduceBEq, Nat.reduceEqDiff, Nat.reduceAdd, Nat.reduceSub, Nat.reduceLT, Nat.reduceLeDiff, Nat.reduceMul]
      have hlt : ¬ lo < hi := by simpa using h
      have e : lo = r := by omega
      rw [e]
end Go.Ev


namespace Go.Ev
open Go
set_option linter.unusedSectionVars false
set_option linter.unnecessarySimpa false
set_option linter.unusedSimpArgs false
set_option linter.unusedVariables false
def keys (l : List Ky) : RV := .sl 3 (l.map Ky.rv)
def Ky.cs (k : Ky) : List AV := [int .u64 k.c, int .i64 k.v, int .i64 k.d]
set_option maxRecDepth 100000 in
theorem find1_t (l : List Ky) (k q : Ky) (i : Nat) (hi : i < l.length) (hq : l[i]? = some q) (hl : l.length ≤ maxLen) : Triple Go.Proofs.Try.prog 42 [int .i64 i, .ptr 1000000 0 0, .ptr 1000001 0 0] [.box [.r (keys l)], .box k.cs]
    (bl (!kl q k)) [.box [.r (keys l)], .box k.cs] := by
  refine tree_find_1_triple rfl (by simp) ?_
  have hg : (l.map Ky.rv).getD ((i : Int)).toNat (.agg [.v (.int .u64 0), .v (.int .i64 0), .v (.int .i64 0)]) = .agg [.v (.int .u64 q.c), .v (.int .i64 q.v), .v (.int .i64 q.d)] := by
    simp [List.getD, hq, Ky.rv]
  simp only [tree_find_1_pc, keys, Ky.cs, List.length_nil, List.length_map, hg, push_cast, ↓reduceIte, reduceCtorEq, Nat.reduceBEq, Nat.reduceEqDiff, Nat.reduceAdd, Nat.reduceSub, Nat.reduceLT, Nat.reduceLeDiff, Nat.reduceMul]
  refine And.intro ⟨by omega, by omega⟩ ?_
  refine dcall_mk (less_t q k) rfl trivial ?_
  simp only [push_cast, ↓reduceIte, reduceCtorEq, Nat.reduceBEq, Nat.reduceEqDiff, Nat.reduceAdd, Nat.reduceSub, Nat.reduceLT, Nat.reduceLeDiff, Nat.reduceMul]
  kernel_rfl
/-- The place of a key. -/
structure Plc (l : List Ky) (k : Ky) (r : Nat) : Prop where
  le : r ≤ l.length
  lo : ∀ (i : Nat) (q : Ky), i < r → l[i]? = some q → kl q k = true
  hi : ∀ (i : Nat) (q : Ky), r ≤ i → l[i]? = some q → kl q k = false
set_option maxRecDepth 100000 in
theorem find_t (l : List Ky) (k : Ky) (r : Nat) (hp : Plc l k r) (hl : l.length ≤ maxLen) : Triple Go.Proofs.Try.prog 26 [.r (keys l), k.av] []
    (.tup [int .i64 r, bl (decide (l[r]? = some k))]) [] := by
  refine tree_find_triple rfl (by decide) ?_
  have hF : ∀ i : Nat, i < l.length → Triple Go.Proofs.Try.prog 42 [int .i64 i, .ptr 1000000 0 0, .ptr 1000001 0 0] [.box [.r (keys l)], .box k.cs] (bl ((fun i => match l[i]? with | some q => !kl q k | none => true) i)) [.box [.r (keys l)], .box k.cs] := fun i hi => by
    have hq : l[i]? = some l[i] := by simp [hi]
    simp only [hq]
    exact find1_t l k _ i hi hq hl
  have hS := search_t 42 [.r (keys l)] k.cs rfl rfl rfl (fun i => match l[i]? with | some q => !kl q k | none => true) l.length r hl hp.le (fun i hi => by
    have hq : l[i]? = some (l[i]'(by have := hp.le; omega)) := by simp [show i < l.length by have := hp.le; omega]
    simp only [hq, hp.lo i _ hi hq]; rfl) (fun i hi hn => by
    have hq : l[i]? = some l[i] := by simp [hn]
    simp only [hq, hp.hi i _ hi hq]; rfl) hF
  simp only [tree_find_pc, keys, Ky.av, Ky.rv, List.length_nil, List.length_map, push_cast, ↓reduceIte, reduceCtorEq, Nat.reduceBEq, Nat.reduceEqDiff, Nat.reduceAdd, Nat.reduceSub, Nat.reduceLT, Nat.reduceLeDiff, Nat.reduceMul]
  refine call_mk hS rfl ⟨rfl, rfl, trivial⟩ ?_
  obtain ⟨q, hqd⟩ : ∃ q : Ky, q = (l[r]?).getD ⟨0, 0, 0⟩ := ⟨_, rfl⟩
  have hg : (l.map Ky.rv).getD ((r : Int)).toNat (.agg [.v (.int .u64 0), .v (.int .i64 0), .v (.int .i64 0)]) = .agg [.v (.int .u64 q.c), .v (.int .i64 q.v), .v (.int .i64 q.d)] := by
    rw [hqd]
    rcases hr : l[r]? with _ | q0 <;> simp [List.getD, hr, Ky.rv]
  simp only [keys, Ky.cs, List.length_map, hg, push_cast, ↓reduceIte, reduceCtorEq, Nat.reduceBEq, Nat.reduceEqDiff, Nat.reduceAdd, Nat.reduceSub, Nat.reduceLT, Nat.reduceLeDiff, Nat.reduceMul]
  refine ⟨fun h => ⟨by omega, by simpa using h⟩, by kernel_rfl, ?_⟩
  congr 4
  rcases hr : l[r]? with _ | q0
  · have : ¬ r < l.length := fun h => by simp [h] at hr
    simp [this]
  · have h1 := (List.getElem?_eq_some_iff.1 hr).1
    have h2 : q = q0 := by rw [hqd, hr]; rfl
    subst h2
    simp [h1]
    cases q; cases k
    simp
    rfl
end Go.Ev


namespace Go.Ev
open Go
set_option linter.unusedSectionVars false
set_option linter.unnecessarySimpa false
set_option linter.unusedSimpArgs false
set_option linter.unusedVariables false
noncomputable def tree_Tree_node_1_pc : PC :=
  (.seq (.reg [⟨(some 4), none, 0, .see (.mov (.c (.r (.v (.bool false)))))⟩])
  (.seq (.drw [⟨(some 5), none, 0, .see (.ld (some 3) (.t 1))⟩,
    ⟨(some 6), none, 0, .see (.ld none (.t 2))⟩,
    ⟨(some 7), none, 0, .see (.nck (.t 6))⟩,
    ⟨(some 8), none, 0, .see (.fa 0 (.t 7))⟩,
    ⟨(some 9), none, 0, .see (.ld none (.t 8))⟩,
    ⟨(some 10), none, 0, .see (.mov (.t 0))⟩,
    ⟨(some 11), none, 0, .see (.ia 1 (.sl 3 []) (.t 9) (.t 10))⟩,
    ⟨(some 12), none, 0, .see (.ld none (.t 11))⟩,
    ⟨(some 13), none, 0, .see (.ia 3 (.agg [(.v (.int .u64 0)), (.v (.int .i64 0)), (.v (.int .i64 0))]) (.t 12) (.c (.r (.v (.int .i64 0)))))⟩,
    ⟨(some 14), none, 0, .see (.ld (some 3) (.t 13))⟩,
    ⟨(some 15), none, 1, .call 41 [(.t 5), (.t 14)]⟩,
    ⟨(some 4), none, 0, .see (.mov (.t 15))⟩]
    [[], [], [1], [1, 2], [1, 2, 3], [], [1, 2, 3, 4, 5], [1, 2, 3, 4, 5, 6], [1, 2, 3, 4, 5, 6, 7], [1, 2, 3, 4, 5, 6, 7, 8], [0, 1, 2, 3, 4, 5, 6, 7, 8, 9], [0, 1, 2, 3, 4, 5, 6, 7, 8, 9, 10]])
  .ret))
noncomputable abbrev tree_Tree_node_1_code : Code := (Go.Proofs.Try.f40.body).getD .skip
theorem tree_Tree_node_1_chk : chkC Go.Proofs.Try.prog 16 tree_Tree_node_1_code tree_Tree_node_1_pc = true := by kernel_rfl
theorem tree_Tree_node_1_triple {args : List AV} {po ro : List Ob} {res : AV} (hal : args.length = 3) (hpo : po.length ≤ 1000)
    (h : run Go.Proofs.Try.prog po.length (RetP po.length [(4, false, none)] fun v os => v = res ∧ os = ro) [.c tree_Tree_node_1_pc] ⟨argE 0 args, ob0 po⟩) : Triple Go.Proofs.Try.prog 40 args po res ro :=
  triple_of_W (fn := Go.Proofs.Try.f40) (c := tree_Tree_node_1_code) (pc := tree_Tree_node_1_pc) (rs := [(4, false, none)]) Go.Proofs.Try.func40 rfl (by decide) (by have := tree_Tree_node_1_chk; exact this) (by rw [hal]; decide) rfl (by kernel_rfl) (by kernel_rfl) (by decide) hpo (W_of_run h)

noncomputable def tree_Tree_node_pc : PC :=
  (.seq (.reg [⟨(some 2), none, 0, .act (.box (.t 0))⟩,
    ⟨(some 3), none, 0, .act (.box (.t 1))⟩,
    ⟨(some 4), none, 0, .see (.mov (.c (.r (.v (.int .i64 0)))))⟩])
  (.seq (.reg [⟨(some 6), none, 0, .see (.ld none (.t 2))⟩,
    ⟨(some 7), none, 0, .see (.nck (.t 6))⟩,
    ⟨(some 8), none, 0, .see (.fa 0 (.t 7))⟩,
    ⟨(some 9), none, 0, .see (.ld none (.t 8))⟩,
    ⟨(some 10), none, 0, .see (.len false (.t 9))⟩,
    ⟨(some 11), none, 0, .see (.mkf (.func 40) [(.t 3), (.t 2)])⟩,
    ⟨(some 12), none, 1, .call 39 [(.t 10), (.t 11)]⟩,
    ⟨(some 5), none, 0, .see (.mov (.t 12))⟩])
  (.seq (.reg [⟨(some 13), none, 0, .see (.mov (.t 5))⟩,
    ⟨(some 14), none, 0, .see (.bin .sub (.t 13) (.c (.r (.v (.int .i64 1)))))⟩,
    ⟨(some 15), none, 0, .see (.mm true (.t 14) [(.c (.r (.v (.int .i64 0))))])⟩,
    ⟨(some 4), none, 0, .see (.mov (.t 15))⟩])
  .ret)))
noncomputable abbrev tree_Tree_node_code : Code := (Go.Proofs.Try.f25.body).getD .skip
theorem tree_Tree_node_chk : chkC Go.Proofs.Try.prog 16 tree_Tree_node_code tree_Tree_node_pc = true := by kernel_rfl
theorem tree_Tree_node_triple {args : List AV} {po ro : List Ob} {res : AV} (hal : args.length = 2) (hpo : po.length ≤ 1000)
    (h : run Go.Proofs.Try.prog po.length (RetP po.length [(4, false, none)] fun v os => v = res ∧ os = ro) [.c tree_Tree_node_pc] ⟨argE 0 args, ob0 po⟩) : Triple Go.Proofs.Try.prog 25 args po res ro :=
  triple_of_W (fn := Go.Proofs.Try.f25) (c := tree_Tree_node_code) (pc := tree_Tree_node_pc) (rs := [(4, false, none)]) Go.Proofs.Try.func25 rfl (by decide) (by have := tree_Tree_node_chk; exact this) (by rw [hal]; decide) rfl (by kernel_rfl) (by kernel_rfl) (by decide) hpo (W_of_run h)

/-- What lies behind the tree's pointer. -/
def tview (ns : List (List Ky)) (n : Int) : List RV := [.sl 1 (ns.map keys), .v (.int .i64 n)]
set_option maxRecDepth 100000 in
theorem node1_t (ns : List (List Ky)) (n : Int) (k q : Ky) (x : List Ky) (i : Nat) (hi : i < ns.length) (hx : ns[i]? = some (q :: x)) (hl : ns.length ≤ maxLen) (hl2 : (q :: x).length ≤ maxLen) :
    Triple Go.Proofs.Try.prog 40 [int .i64 i, .ptr 1000000 0 0, .ptr 1000001 0 0] [.box k.cs, .box [.rp (tview ns n)]] (bl (kl k q)) [.box k.cs, .box [.rp (tview ns n)]] := by
  refine tree_Tree_node_1_triple rfl (by simp) ?_
  have hg : (ns.map keys).getD ((i : Int)).toNat (.sl 3 []) = .sl 3 (q.rv :: x.map Ky.rv) := by
    simp [List.getD, hx, keys]
  have hg2 : (q.rv :: x.map Ky.rv).getD (Int.toNat 0) (.agg [.v (.int .u64 0), .v (.int .i64 0), .v (.int .i64 0)]) = .agg [.v (.int .u64 q.c), .v (.int .i64 q.v), .v (.int .i64 q.d)] := rfl
  simp only [tree_Tree_node_1_pc, tview, Ky.cs, List.length_nil, List.length_map, hg, hg2, push_cast, ↓reduceIte, reduceCtorEq, Nat.reduceBEq, Nat.reduceEqDiff, Nat.reduceAdd, Nat.reduceSub, Nat.reduceLT, Nat.reduceLeDiff, Nat.reduceMul]
  refine And.intro ⟨by omega, by omega⟩ (And.intro ⟨by omega, by omega⟩ ?_)
  refine dcall_mk (less_t k q) rfl trivial ?_
  simp only [push_cast, ↓reduceIte, reduceCtorEq, Nat.reduceBEq, Nat.reduceEqDiff, Nat.reduceAdd, Nat.reduceSub, Nat.reduceLT, Nat.reduceLeDiff, Nat.reduceMul]
  kernel_rfl
/-- The nodes are not empty, r is the first of those whose first key is behind k. -/
structure Nod (ns : List (List Ky)) (k : Ky) (r : Nat) : Prop where
  le : r ≤ ns.length
  len : ns.length ≤ maxLen
  ne : ∀ (i : Nat) (l : List Ky), ns[i]? = some l → l ≠ [] ∧ l.length ≤ maxLen
  lo : ∀ (i : Nat) (q : Ky) (x : List Ky), i < r → ns[i]? = some (q :: x) → kl k q = false
  hi : ∀ (i : Nat) (q : Ky) (x : List Ky), r ≤ i → ns[i]? = some (q :: x) → kl k q = true
def nodP (ns : List (List Ky)) (k : Ky) (i : Nat) : Bool := match ns[i]? with
  | some (q :: _) => kl k q
  | _ => true
theorem Nod.at_ {ns : List (List Ky)} {k : Ky} {r : Nat} (h : Nod ns k r) {i : Nat} (hi : i < ns.length) : ∃ q x, ns[i]? = some (q :: x) ∧ (q :: x).length ≤ maxLen := by
  have hq : ns[i]? = some ns[i] := by simp [hi]
  obtain ⟨h1, h2⟩ := h.ne i _ hq
  rcases hx : ns[i] with _ | ⟨q, x⟩
  · exact absurd hx h1
  · rw [hx] at hq h2
    exact ⟨q, x, hq, h2⟩
set_option maxRecDepth 100000 in
theorem node_t (ns : List (List Ky)) (n : Int) (k : Ky) (r : Nat) (h : Nod ns k r) : Triple Go.Proofs.Try.prog 25 [.rp (tview ns n), k.av] [] (int .i64 ((r - 1 : Nat) : Int)) [] := by
  refine tree_Tree_node_triple rfl (by decide) ?_
  have hS := search_t 40 k.cs [.rp (tview ns n)] rfl rfl rfl (nodP ns k) ns.length r h.len h.le (fun i hi => by
    obtain ⟨q, x, h1, _⟩ := h.at_ (i := i) (by have := h.le; omega)
    simp only [nodP, h1, h.lo i q x hi h1]) (fun i hi hn => by
    obtain ⟨q, x, h1, _⟩ := h.at_ hn
    simp only [nodP, h1, h.hi i q x hi h1]) (fun i hn => by
    obtain ⟨q, x, h1, h2⟩ := h.at_ hn
    simp only [nodP, h1]
    exact node1_t ns n k q x i hn h1 h.len h2)
  simp only [tree_Tree_node_pc, tview, Ky.av, Ky.rv, List.length_nil, List.length_map, push_cast, ↓reduceIte, reduceCtorEq, Nat.reduceBEq, Nat.reduceEqDiff, Nat.reduceAdd, Nat.reduceSub, Nat.reduceLT, Nat.reduceLeDiff, Nat.reduceMul]
  refine call_mk hS rfl ⟨rfl, rfl, trivial⟩ ?_
  simp only [tview, Ky.cs, List.length_map, push_cast, ↓reduceIte, reduceCtorEq, Nat.reduceBEq, Nat.reduceEqDiff, Nat.reduceAdd, Nat.reduceSub, Nat.reduceLT, Nat.reduceLeDiff, Nat.reduceMul]
  have hm : (ns.length : Int) ≤ 9223372036854775807 := by have := h.len; simp only [maxLen] at this; omega
  have hle := h.le
  rw [wrap_id ⟨by omega, by omega⟩, show max ((r : Int) - 1) 0 = ((r - 1 : Nat) : Int) by omega]
end Go.Ev


namespace Go.Ev
open Go
set_option linter.unusedSectionVars false
set_option linter.unnecessarySimpa false
set_option linter.unusedSimpArgs false
set_option linter.unusedVariables false
end Go.Ev


namespace Go.Ev
open Go
set_option linter.unusedSectionVars false
set_option linter.unnecessarySimpa false
set_option linter.unusedSimpArgs false
set_option linter.unusedVariables false
section
variable {P : Program} {w : World} {o : Oper} {a : Act} {K : Act → World → Prop} {Q : Exit → Act → World → Prop}
/-- A stretch of a block, read as a slice's elements. -/
theorem fc_block {w : World} {g off size m m' c : Nat} {cs : Array Value} {e : TypeId} {fr : Nat × Nat} {news : List Value} (hg : w.heap[g]? = some (.cells cs e fr)) (hn : news.length = m * size)
    (hj : ∀ (j : Nat) (u : Value), news[j]? = some u → cs[off + j]? = some u) : ∀ W : World, W.heap = w.heap → (Builtin.firstCells size m (.slice (some ⟨g, off, none⟩) m' c)).run P W = .ok news.toArray W := fun W hW => by
  refine run_firstCells_some W size m ⟨g, off, none⟩ m' c news hn fun j u hu => ?_
  rw [addr_add]
  simp only [World.cell?, hW, hg, Option.isSome_none, Bool.false_eq_true, if_false]
  exact hj j u hu
theorem fc_none {w : World} {size m' c : Nat} {A : Option Addr} : ∀ W : World, W.heap = w.heap → (Builtin.firstCells size 0 (.slice A m' c)).run P W = .ok #[] W := fun W hW => by
  cases A <;> simp [Builtin.firstCells, loadCells, loadCellsFrom]
theorem keeps_row {g : Nat} {old cs : Array Value} {t : TypeId} {fr : Nat × Nat} (hg : w.heap[g]? = some (.cells old t fr)) : Keeps (· = g) w (w.setRow g cs) :=
  have h := mods_setRow (cs := cs) hg
  ⟨rfl, rfl, rfl, by simp [World.setRow], fun k hk hn => setRow_other w g k cs hn⟩
theorem keeps_one {w' : World} {x : Obj} {I : Nat → Prop} (h : OneMore w w' x) : Keeps I w w' := ⟨h.os, h.tape, h.output, by rw [h.heap]; simp, fun k hk _ => by rw [h.heap]; simp [Array.getElem?_push, Nat.ne_of_lt hk]⟩
/-- append to a row in a block of its own. -/
theorem wp_app (x v : Operand) (t u : TypeId) (ho : o.op = .call { callee := .builtin .append, args := #[x, v], argTypes := #[t, u] }) {e d : TypeId} {inf : TypeInfo} {z : Value} {size bytes : Nat} (ht : P.underlying t = some (.slice e)) (hu : P.underlying u = some (.slice d))
    (hi : P.info? e = some inf) (hz : inf.zero = some z) (hzs : z.cells.size = inf.size) (hs : inf.size = size) (hby : inf.bytes = bytes) (g len cap : Nat) (hx : a.eval x = .slice (some ⟨g, 0, none⟩) len cap) (hc : 0 < cap) {cs : Array Value} {e' : TypeId} (hg : w.heap[g]? = some (.cells cs e' (0, 0)))
    (hsz : cap * size ≤ cs.size) (hlc : len ≤ cap) {A2 : Option Addr} {m c2 : Nat} (hv : a.eval v = .slice A2 m c2) (news : List Value) (hnew : ∀ W : World, W.heap = w.heap → (Builtin.firstCells size m (.slice A2 m c2)).run P W = .ok news.toArray W)
    (hn : news.length = m * size) (h1 : ∀ u ∈ news, u.oneCell' = true) (hmax : len + m ≤ maxLen) (hcap : cap ≤ maxLen) (hb : (len + m) * bytes ≤ 140737488355328)
    (h : ∀ (g' cap' : Nat) (cs' : Array Value) (e2 : TypeId) (w' : World), (g' = g ∨ g' = w.heap.size) → 0 < cap' → len + m ≤ cap' → cap' ≤ maxLen → w'.heap[g']? = some (.cells cs' e2 (0, 0)) → cap' * size ≤ cs'.size →
      (∀ j, j < (len + m) * size → cs'[j]? = (cs.toList.take (len * size) ++ news)[j]?) → Keeps (· = g) w w' → K (a.put o.dst (.slice (some ⟨g', 0, none⟩) (len + m) cap')) w') : o.wp P a w K Q := by
  subst hs; subst hby
  have hlt : len * inf.size ≤ cs.size := Nat.le_trans (Nat.mul_le_mul_right _ hlc) hsz
  have hol : (cs.toList.take (len * inf.size)).length = len * inf.size := by simp only [List.length_take, Array.length_toList]; exact Nat.min_eq_left hlt
  have hold := fc_block (P := P) (off := 0) (size := inf.size) (m := len) (m' := len) (c := cap) (news := cs.toList.take (len * inf.size)) hg hol (fun j u hu => by
    rw [List.getElem?_take] at hu
    split at hu
    · simpa using hu
    · cases hu)
  have hrun0 : ∀ r, (Builtin.append_ #[t, u] o.type #[.slice (some ⟨g, 0, none⟩) len cap, .slice A2 m c2]).run P w = r → (execOp a.eval o).run P w = r.andThen fun q w' => .ok (.value q) w' := by
    rintro r rfl
    simp [execOp, ho, resolve, invoke, builtin, hx, hv]
  unfold Oper.wp
  rcases run_app (P := P) (w := w) (ty := o.type) (A := some ⟨g, 0, none⟩) (A2 := A2) (len := len) (cap := cap) (m := m) (c2 := c2) (g := g) (cur := cs) (e' := e') (olds := cs.toList.take (len * inf.size)) (news := news) ht hu hi hz hzs hlc (fun _ => ⟨rfl, hg, hsz⟩)
      hold hol hnew hn h1 hmax hb with ⟨hroom, hr⟩ | ⟨hgrow, K', w', rest, hr, hK1, hK2, hom, hlen⟩
  · rw [hrun0 _ hr, if_pos hc]
    have hfit : len * inf.size + news.length ≤ cs.toList.length := by
      rw [hn, ← Nat.add_mul]; simp; exact Nat.le_trans (Nat.mul_le_mul_right _ hroom) hsz
    refine h g cap _ e' _ (.inl rfl) hc hroom hcap (setRow_heap w g cs _ e' _ hg) ?_ (fun j hj => ?_) (keeps_row hg)
    · simp only [List.size_toArray, splice_length hfit, Array.length_toList]; exact hsz
    · rw [List.getElem?_toArray, splice_at hfit, hn]
      rw [Nat.add_mul] at hj
      by_cases hj1 : len * inf.size ≤ j
      · rw [if_pos ⟨hj1, hj⟩, List.getElem?_append_right (by rw [hol]; exact hj1), hol]
      · rw [if_neg (fun q => hj1 q.1), List.getElem?_append_left (by rw [hol]; omega), List.getElem?_take, if_pos (by omega)]
  · rw [hrun0 _ hr]
    refine h w.heap.size K' _ e w' (.inr rfl) (by omega) hK1 hK2 hom.new ?_ (fun j hj => ?_) (keeps_one hom)
    · simp only [List.size_toArray, hlen]; exact Nat.le_refl _
    · rw [List.getElem?_toArray, List.getElem?_append_left]
      simp only [List.length_append, hol, hn, ← Nat.add_mul]
      exact hj
/-- append to what has no room. -/
theorem wp_app0 (x v : Operand) (t u : TypeId) (ho : o.op = .call { callee := .builtin .append, args := #[x, v], argTypes := #[t, u] }) {e d : TypeId} {inf : TypeInfo} {z : Value} {size bytes : Nat} (ht : P.underlying t = some (.slice e)) (hu : P.underlying u = some (.slice d))
    (hi : P.info? e = some inf) (hz : inf.zero = some z) (hzs : z.cells.size = inf.size) (hs : inf.size = size) (hby : inf.bytes = bytes) {A : Option Addr} (hx : a.eval x = .slice A 0 0)
    {A2 : Option Addr} {m c2 : Nat} (hv : a.eval v = .slice A2 m c2) (hm : 0 < m) (news : List Value) (hnew : ∀ W : World, W.heap = w.heap → (Builtin.firstCells size m (.slice A2 m c2)).run P W = .ok news.toArray W)
    (hn : news.length = m * size) (h1 : ∀ u ∈ news, u.oneCell' = true) (hmax : m ≤ maxLen) (hb : m * bytes ≤ 140737488355328)
    (h : ∀ (cap' : Nat) (cs' : Array Value) (w' : World), m ≤ cap' → cap' ≤ maxLen → w'.heap[w.heap.size]? = some (.cells cs' e (0, 0)) → cap' * size ≤ cs'.size →
      (∀ j, j < m * size → cs'[j]? = news[j]?) → (∀ I, Keeps I w w') → K (a.put o.dst (.slice (some ⟨w.heap.size, 0, none⟩) m cap')) w') : o.wp P a w K Q := by
  subst hs; subst hby
  have hrun0 : ∀ r, (Builtin.append_ #[t, u] o.type #[.slice A 0 0, .slice A2 m c2]).run P w = r → (execOp a.eval o).run P w = r.andThen fun q w' => .ok (.value q) w' := by
    rintro r rfl
    simp [execOp, ho, resolve, invoke, builtin, hx, hv]
  unfold Oper.wp
  rcases run_app (P := P) (w := w) (ty := o.type) (A := A) (A2 := A2) (len := 0) (cap := 0) (m := m) (c2 := c2) (g := 0) (cur := #[]) (e' := 0) (olds := []) (news := news) ht hu hi hz hzs (Nat.le_refl _) (by simp)
      (fun W hW => fc_none (w := W) W rfl) (by simp) hnew hn h1 (by omega) (by rw [Nat.zero_add]; exact hb) with ⟨hroom, hr⟩ | ⟨hgrow, K', w', rest, hr, hK1, hK2, hom, hlen⟩
  · omega
  · rw [hrun0 _ hr]
    simp only [Nat.zero_add] at hK1
    refine (show K (a.put o.dst (.slice (some ⟨w.heap.size, 0, none⟩) (0 + m) K')) w' from ?_)
    rw [Nat.zero_add]
    refine h K' _ w' hK1 hK2 hom.new ?_ (fun j hj => ?_) fun I => keeps_one hom
    · simp only [List.size_toArray, hlen]; exact Nat.le_refl _
    · rw [List.getElem?_toArray, List.nil_append, List.getElem?_append_left]
      rw [hn]
      exact hj
/-- copy within a block. -/
theorem wp_cpy (x v : Operand) (t u : TypeId) (ho : o.op = .call { callee := .builtin .copy, args := #[x, v], argTypes := #[t, u] }) {e : TypeId} {inf : TypeInfo} {size : Nat} (ht : P.underlying t = some (.slice e))
    (hi : P.info? e = some inf) (hs : inf.size = size) (g d s m : Nat) {cs : Array Value} {e' : TypeId} (hg : w.heap[g]? = some (.cells cs e' (0, 0))) {D S : Option Addr} {dl dc sl sc : Nat} (hx : a.eval x = .slice D dl dc) (hv : a.eval v = .slice S sl sc)
    (hm : m = Nat.min sl dl) (hpos : 0 < m → D = some ⟨g, d, none⟩ ∧ S = some ⟨g, s, none⟩) (hd : d + m * size ≤ cs.size) (hsr : s + m * size ≤ cs.size) (h1 : ∀ u ∈ (cs.toList.drop s).take (m * size), u.oneCell' = true)
    (h : ∀ w', w'.heap[g]? = some (.cells (splice cs.toList d ((cs.toList.drop s).take (m * size))).toArray e' (0, 0)) → Keeps (· = g) w w' → K (a.put o.dst (goInt m)) w') : o.wp P a w K Q := by
  subst hs
  unfold Oper.wp
  have hrun0 : ∀ r, (Builtin.copy_ #[t, u] o.type #[.slice D dl dc, .slice S sl sc]).run P w = r → (execOp a.eval o).run P w = r.andThen fun q w' => .ok (.value q) w' := by
    rintro r rfl
    simp [execOp, ho, resolve, invoke, builtin, hx, hv]
  by_cases h0 : m = 0
  · subst h0
    have hr : (Builtin.copy_ #[t, u] o.type #[.slice D dl dc, .slice S sl sc]).run P w = .ok (goInt 0) w := by
      have hl : ∀ (x : Addr), (loadCells x 0).run P w = .ok #[] w := fun x => by simpa using run_loadCells_list (P := P) w x [] (by simp)
      cases D <;> cases S <;> simp [Builtin.copy_, run_underlying ht, Builtin.lenOf, Builtin.firstCells, sizeOf, typeInfo, hi, ← hm, storeCells, hl]
    rw [hrun0 _ hr]
    refine h w ?_ (Keeps.refl _ _)
    simp [splice, hg]
  · obtain ⟨rfl, rfl⟩ := hpos (by omega)
    have hln : ((cs.toList.drop s).take (m * inf.size)).length = m * inf.size := by simp; omega
    have hf := fc_block (P := P) (w := w) (off := s) (size := inf.size) (m := m) (m' := sl) (c := sc) (news := (cs.toList.drop s).take (m * inf.size)) hg hln (fun j u hu => by
      rw [List.getElem?_take] at hu
      split at hu
      · rw [List.getElem?_drop] at hu; simpa using hu
      · cases hu) w rfl
    have hst := run_sts (P := P) g d e' (0, 0) ((cs.toList.drop s).take (m * inf.size)) 0 cs w hg (by simp) (by rw [hln]; omega) h1
    have hr : (Builtin.copy_ #[t, u] o.type #[.slice (some ⟨g, d, none⟩) dl dc, .slice (some ⟨g, s, none⟩) sl sc]).run P w = .ok (goInt m) (w.setRow g (splice cs.toList d ((cs.toList.drop s).take (m * inf.size))).toArray) := by
      simp only [Nat.add_zero] at hst
      simp [Builtin.copy_, run_underlying ht, Builtin.lenOf, sizeOf, typeInfo, hi, ← hm, hf, hst, splice]
    rw [hrun0 _ hr]
    exact h _ (setRow_heap w g cs _ e' _ hg) (keeps_row hg)
end
end Go.Ev

