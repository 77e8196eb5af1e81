import Derived.Test.YtjpejkfhkbaakaaGeoC
namespace Go.Ev
open Go
set_option linter.unnecessarySimpa false
set_option linter.unusedSimpArgs false
set_option linter.unusedVariables false
/-- The least, and the greatest, of the first and k. -/
def mnN (f : Nat → Int) : Nat → Int
  | 0 => f 0
  | k + 1 => min (mnN f k) (f k)
def mxN (f : Nat → Int) : Nat → Int
  | 0 => f 0
  | k + 1 => max (mxN f k) (f k)
theorem mnN_le (f : Nat → Int) (k i : Nat) (h : i < k) : mnN f k ≤ f i := by
  induction k with
  | zero => omega
  | succ k ih =>
    rw [mnN]
    by_cases hi : i = k
    · subst hi; omega
    · have := ih (by omega); omega
theorem mxN_ge (f : Nat → Int) (k i : Nat) (h : i < k) : f i ≤ mxN f k := by
  induction k with
  | zero => omega
  | succ k ih =>
    rw [mxN]
    by_cases hi : i = k
    · subst hi; omega
    · have := ih (by omega); omega
theorem mnN_in {f : Nat → Int} {a b : Int} (h : ∀ i, i < 6 → a ≤ f i ∧ f i ≤ b) (k : Nat) (hk : k ≤ 6) : a ≤ mnN f k ∧ mnN f k ≤ b := by
  induction k with
  | zero => exact h 0 (by decide)
  | succ k ih =>
    have := ih (by omega)
    have := h k (by omega)
    rw [mnN]
    omega
theorem mxN_in {f : Nat → Int} {a b : Int} (h : ∀ i, i < 6 → a ≤ f i ∧ f i ≤ b) (k : Nat) (hk : k ≤ 6) : a ≤ mxN f k ∧ mxN f k ≤ b := by
  induction k with
  | zero => exact h 0 (by decide)
  | succ k ih =>
    have := ih (by omega)
    have := h k (by omega)
    rw [mxN]
    omega
/-- Is the hexagon all beside a box (of thirds)? -/
def beside (z : Ei) (r : Nat) (lx ly ux uy : Int) : Prop := (mxN (hx z r) 6 < lx ∨ ux < mnN (hx z r) 6) ∨ (mxN (hy z r) 6 < ly ∨ uy < mnN (hy z r) 6)
instance (z : Ei) (r : Nat) (lx ly ux uy : Int) : Decidable (beside z r lx ly ux uy) := inferInstanceAs (Decidable (_ ∨ _))
/-- Is the box all outside a side? -/
def outs (z : Ei) (r : Nat) (lx ly ux uy : Int) (i : Nat) : Prop := crs z r i ((i + 1) % 6) lx ly < 0 ∧ crs z r i ((i + 1) % 6) ux ly < 0 ∧ crs z r i ((i + 1) % 6) ux uy < 0 ∧ crs z r i ((i + 1) % 6) lx uy < 0
instance (z : Ei) (r : Nat) (lx ly ux uy : Int) (i : Nat) : Decidable (outs z r lx ly ux uy i) := inferInstanceAs (Decidable (_ ∧ _))
def touch (z : Ei) (r : Nat) (lx ly ux uy : Int) : Bool := !decide (beside z r lx ly ux uy) && (List.range 6).all fun i => !decide (outs z r lx ly ux uy i)
theorem beside_no {z : Ei} {r : Nat} {lx ly ux uy : Int} (h : beside z r lx ly ux uy) : touch z r lx ly ux uy = false := by simp [touch, h]
theorem corner_up (A B x y lx ly ux uy : Int) (h1 : lx ≤ x ∧ x ≤ ux) (h2 : ly ≤ y ∧ y ≤ uy) :
    A * y - B * x ≤ A * ly - B * lx ∨ A * y - B * x ≤ A * ly - B * ux ∨ A * y - B * x ≤ A * uy - B * ux ∨ A * y - B * x ≤ A * uy - B * lx := by
  have ay : A * y ≤ A * ly ∨ A * y ≤ A * uy := by
    rcases Int.le_total 0 A with h | h
    · exact .inr (Int.mul_le_mul_of_nonneg_left h2.2 h)
    · exact .inl (Int.mul_le_mul_of_nonpos_left h h2.1)
  have bx : B * lx ≤ B * x ∨ B * ux ≤ B * x := by
    rcases Int.le_total 0 B with h | h
    · exact .inl (Int.mul_le_mul_of_nonneg_left h1.1 h)
    · exact .inr (Int.mul_le_mul_of_nonpos_left h h1.2)
  omega
theorem crs_eq (z : Ei) (r i j : Nat) (x y : Int) : crs z r i j x y = ((kx r j - kx r i) * y - (ky r j - ky r i) * x) - ((kx r j - kx r i) * hy z r i - (ky r j - ky r i) * hx z r i) := by
  unfold crs
  rw [Int.mul_sub, Int.mul_sub]
  omega
/-- A box that has a point touches the point's cell. -/
theorem own_touch {x y : Int} {z : Ei} {r : Nat} (h : Lies x y z r) {lx ly ux uy : Int} (h1 : lx ≤ 3 * x ∧ 3 * x ≤ ux) (h2 : ly ≤ 3 * y ∧ 3 * y ≤ uy) : touch z r lx ly ux uy = true := by
  obtain ⟨_, hc, ⟨a, a6, ha⟩, ⟨b, b6, hb⟩, ⟨c, c6, hcc⟩, ⟨d, d6, hd⟩⟩ := h
  have e1 := mnN_le (hx z r) 6 a a6
  have e2 := mxN_ge (hx z r) 6 b b6
  have e3 := mnN_le (hy z r) 6 c c6
  have e4 := mxN_ge (hy z r) 6 d d6
  simp only [touch, Bool.and_eq_true, Bool.not_eq_true', decide_eq_false_iff_not, List.all_eq_true, List.mem_range]
  refine ⟨by unfold beside; omega, fun i hi => ?_⟩
  have := hc i hi
  have hu := corner_up (kx r ((i + 1) % 6) - kx r i) (ky r ((i + 1) % 6) - ky r i) (3 * x) (3 * y) lx ly ux uy h1 h2
  simp only [outs, crs_eq] at this ⊢
  omega
/-- Numbers from one on to one. -/
def rng (a b : Int) : List Int := (List.range (b + 1 - a).toNat).map fun i : Nat => a + (i : Int)
theorem rng_nil {a b : Int} (h : b < a) : rng a b = [] := by
  unfold rng
  rw [show (b + 1 - a).toNat = 0 by omega]; rfl
theorem rng_snoc {a b : Int} (h : a ≤ b) : rng a b = rng a (b - 1) ++ [b] := by
  unfold rng
  rw [show (b + 1 - a).toNat = (b - 1 + 1 - a).toNat + 1 by omega, List.range_succ, List.map_append]
  congr 1
  simp only [List.map_cons, List.map_nil, List.cons.injEq, and_true]
  omega
theorem mem_rng {a b i : Int} : i ∈ rng a b ↔ a ≤ i ∧ i ≤ b := by
  unfold rng
  simp only [List.mem_map, List.mem_range]
  constructor
  · rintro ⟨k, hk, rfl⟩; omega
  · intro h; exact ⟨(i - a).toNat, by omega, by omega⟩
theorem rng_len (a b : Int) : (rng a b).length = (b + 1 - a).toNat := by simp [rng]
theorem rng_add {a b c : Int} (h1 : a ≤ b + 1) (h2 : b ≤ c) : rng a c = rng a b ++ rng (b + 1) c := by
  obtain ⟨n, hn⟩ : ∃ n : Nat, c = b + n := ⟨(c - b).toNat, by omega⟩
  subst hn
  induction n with
  | zero => rw [rng_nil (a := b + 1) (by omega)]; simp
  | succ n ih =>
    rw [rng_snoc (a := a) (by omega), rng_snoc (a := b + 1) (by omega)]
    rw [show b + ((n + 1 : Nat) : Int) - 1 = b + n by omega, ih (by omega), List.append_assoc]
/-- What holds only between two numbers is looked for there. -/
theorem rng_filter {a b A B : Int} (p : Int → Bool) (h1 : a ≤ A) (h2 : B ≤ b) (h : ∀ i, a ≤ i → i ≤ b → ¬ (A ≤ i ∧ i ≤ B) → p i = false) : (rng a b).filter p = (rng A B).filter p := by
  by_cases hAB : A ≤ B + 1
  · have e0 : ∀ l : List Int, (∀ i, i ∈ l → p i = false) → l.filter p = [] := fun l hl => List.filter_eq_nil_iff.2 fun i hi => by simp [hl i hi]
    rw [rng_add (a := a) (b := A - 1) (c := b) (by omega) (by omega), rng_add (a := A - 1 + 1) (b := B) (c := b) (by omega) (by omega), List.filter_append, List.filter_append,
      e0 (rng a (A - 1)) (fun i hi => by rw [mem_rng] at hi; exact h i (by omega) (by omega) (by omega)),
      e0 (rng (B + 1) b) (fun i hi => by rw [mem_rng] at hi; exact h i (by omega) (by omega) (by omega)), show A - 1 + 1 = A by omega]
    simp
  · rw [rng_nil (a := A) (b := B) (by omega)]
    exact List.filter_eq_nil_iff.2 fun i hi => by rw [mem_rng] at hi; simp [h i hi.1 hi.2 (by omega)]
/-- A row of tiles. -/
def rowT (p : Int → Int → Bool) (a b k : Int) : List (Int × Int) := ((rng a b).filter fun i => p i k).map fun i => (i, k)
/-- Rows of tiles. -/
def rowsT (p : Int → Int → Bool) (a b c d : Int) : List (Int × Int) := (rng c d).flatMap (rowT p a b)
theorem rowT_snoc (p : Int → Int → Bool) {a b k : Int} (h : a ≤ b) : rowT p a b k = rowT p a (b - 1) k ++ (if p b k then [(b, k)] else []) := by
  unfold rowT
  rw [rng_snoc h, List.filter_append, List.map_append]
  congr 1
  cases hp : p b k <;> simp [hp]
theorem rowT_nil (p : Int → Int → Bool) {a b k : Int} (h : b < a) : rowT p a b k = [] := by unfold rowT; rw [rng_nil h]; rfl
theorem rowsT_snoc (p : Int → Int → Bool) {a b c d : Int} (h : c ≤ d) : rowsT p a b c d = rowsT p a b c (d - 1) ++ rowT p a b d := by
  unfold rowsT
  rw [rng_snoc h, List.flatMap_append]
  simp
theorem rowsT_nil (p : Int → Int → Bool) {a b c d : Int} (h : d < c) : rowsT p a b c d = [] := by unfold rowsT; rw [rng_nil h]; rfl
theorem rowsT_mono (p : Int → Int → Bool) (a b c d e : Int) (h : d ≤ e) : ∃ l, rowsT p a b c e = rowsT p a b c d ++ l := by
  by_cases hc : c ≤ d + 1
  · exact ⟨_, by unfold rowsT; rw [rng_add hc h, List.flatMap_append]⟩
  · exact ⟨rowsT p a b c e, by rw [rowsT_nil p (d := d) (by omega), List.nil_append]⟩
theorem rowT_mono (p : Int → Int → Bool) (a b e k : Int) (h : b ≤ e) : ∃ l, rowT p a e k = rowT p a b k ++ l := by
  by_cases hc : a ≤ b + 1
  · exact ⟨_, by unfold rowT; rw [rng_add hc h, List.filter_append, List.map_append]⟩
  · exact ⟨rowT p a e k, by rw [rowT_nil p (b := b) (by omega), List.nil_append]⟩
theorem mem_rowsT {p : Int → Int → Bool} {a b c d i k : Int} (h1 : a ≤ i ∧ i ≤ b) (h2 : c ≤ k ∧ k ≤ d) (h : p i k = true) : (i, k) ∈ rowsT p a b c d := by
  unfold rowsT rowT
  simp only [List.mem_flatMap, List.mem_map, List.mem_filter, mem_rng]
  exact ⟨k, h2, i, ⟨h1, h⟩, rfl⟩
/-- The wide rows are the narrow ones. -/
theorem rowsT_wide (p : Int → Int → Bool) {a b c d A B C D : Int} (h1 : a ≤ A) (h2 : B ≤ b) (h3 : c ≤ C) (h4 : D ≤ d)
    (hx : ∀ i k, a ≤ i → i ≤ b → c ≤ k → k ≤ d → ¬ (A ≤ i ∧ i ≤ B) → p i k = false) (hy : ∀ i k, a ≤ i → i ≤ b → c ≤ k → k ≤ d → ¬ (C ≤ k ∧ k ≤ D) → p i k = false) : rowsT p a b c d = rowsT p A B C D := by
  have e1 : ∀ k, c ≤ k → k ≤ d → rowT p a b k = rowT p A B k := fun k k1 k2 => by
    unfold rowT
    rw [rng_filter (A := A) (B := B) (fun i => p i k) h1 h2 fun i i1 i2 => hx i k i1 i2 k1 k2]
  have e2 : ∀ k, c ≤ k → k ≤ d → ¬ (C ≤ k ∧ k ≤ D) → rowT p a b k = [] := fun k k1 k2 k3 => by
    unfold rowT
    rw [List.map_eq_nil_iff, List.filter_eq_nil_iff]
    intro i hi
    rw [mem_rng] at hi
    simp [hy i k hi.1 hi.2 k1 k2 k3]
  have e3 : ∀ l : List Int, (∀ k, k ∈ l → c ≤ k ∧ k ≤ d) → l.flatMap (rowT p a b) = (l.filter fun k => decide (C ≤ k ∧ k ≤ D)).flatMap (rowT p A B) := fun l hl => by
    induction l with
    | nil => rfl
    | cons k l ih =>
      have hk := hl k (by simp)
      have ih' := ih fun j hj => hl j (by simp [hj])
      rw [List.flatMap_cons, ih', List.filter_cons]
      by_cases hC : C ≤ k ∧ k ≤ D
      · simp only [hC, and_self, decide_true, if_true, List.flatMap_cons]
        rw [e1 k hk.1 hk.2]
      · simp only [hC, decide_false, Bool.false_eq_true, if_false]
        rw [e2 k hk.1 hk.2 hC]; rfl
  unfold rowsT
  rw [e3 _ fun k hk => by rw [mem_rng] at hk; exact hk]
  rw [rng_filter (A := C) (B := D) _ h3 h4 fun i i1 i2 i3 => by simp; omega]
  congr 1
  exact List.filter_eq_self.2 fun k hk => by rw [mem_rng] at hk; simp; omega
/-- There are no more than in the whole field. -/
theorem rowsT_len (p : Int → Int → Bool) (a b c d : Int) : (rowsT p a b c d).length ≤ (b + 1 - a).toNat * (d + 1 - c).toNat := by
  have e1 : ∀ k, (rowT p a b k).length ≤ (b + 1 - a).toNat := fun k => by
    unfold rowT
    rw [List.length_map, ← rng_len a b]
    exact List.length_filter_le _ _
  have e2 : ∀ l : List Int, (l.flatMap (rowT p a b)).length ≤ (b + 1 - a).toNat * l.length := fun l => by
    induction l with
    | nil => simp
    | cons k l ih =>
      rw [List.flatMap_cons, List.length_append, List.length_cons, Nat.mul_succ]
      have := e1 k
      omega
  have := e2 (rng c d)
  rw [rng_len] at this
  exact this
/-- The program's first and last number of an axis, and the document's. -/
def tlo (m s last : Int) : Int := min (max (m.tdiv (3 * s) - 1) 0) last
def thi (m s last : Int) : Int := min (max (m.tdiv (3 * s) + 1) 0) last
def dlo (m s : Int) : Int := max (m.tdiv (3 * s) - 2) 0
def dhi (m s last : Int) : Int := min (m.tdiv (3 * s) + 2) last
theorem tdiv_lt (m n : Int) (hn : 0 < n) : m < (m.tdiv n + 1) * n := by
  rw [Int.add_mul, Int.one_mul]
  have h := Int.tmod_add_tdiv_mul m n
  have : m.tmod n < n := Int.tmod_lt_of_pos m hn
  omega
theorem tdiv_ge {m n : Int} (hn : 0 < n) (h : 0 < m.tdiv n) : m.tdiv n * n ≤ m := by
  have hm : 0 ≤ m := by
    rcases Int.le_total 0 m with h1 | h1
    · exact h1
    · have : m.tdiv n ≤ 0 := by
        rcases Int.lt_or_le m 0 with h2 | h2
        · have h3 := Int.neg_tdiv (-m) n
          rw [Int.neg_neg] at h3
          have h4 := Int.tdiv_nonneg (show 0 ≤ -m by omega) (show 0 ≤ n by omega)
          omega
        · have : m = 0 := by omega
          subst this; simp
      omega
  have h := Int.tmod_add_tdiv_mul m n
  have := Int.tmod_nonneg n hm
  omega
/-- A number that is not from the first to the last is beside. -/
theorem axis_out {lo hi s last i : Int} (hs : 0 < s) (h0 : 0 ≤ i) (h1 : i ≤ last) (h : ¬ (tlo lo s last ≤ i ∧ i ≤ thi hi s last)) : hi < 3 * (i * s) ∨ 3 * ((i + 1) * s) < lo := by
  have h3 : 0 < 3 * s := by omega
  unfold tlo thi at h
  have hA := tdiv_lt hi (3 * s) h3
  have hB : 0 < lo.tdiv (3 * s) → _ := tdiv_ge h3
  generalize hi.tdiv (3 * s) = q at *
  generalize lo.tdiv (3 * s) = u at *
  rcases (show q + 2 ≤ i ∨ i + 2 ≤ u by omega) with c | c
  · left
    have : (q + 1) * (3 * s) ≤ i * (3 * s) := Int.mul_le_mul_of_nonneg_right (by omega) (by omega)
    rw [Int.mul_left_comm i 3 s] at this
    omega
  · right
    have hB := hB (by omega)
    have : (i + 1 + 1) * (3 * s) ≤ u * (3 * s) := Int.mul_le_mul_of_nonneg_right (by omega) (by omega)
    rw [Int.add_mul (i + 1), Int.mul_left_comm (i + 1) 3 s] at this
    omega
/-- The tile that touches, of a field of tiles with this side. -/
def tch (z : Ei) (r : Nat) (s i k : Int) : Bool := touch z r (3 * (i * s)) (3 * (k * s)) (3 * ((i + 1) * s)) (3 * ((k + 1) * s))
theorem tch_x {z : Ei} {r : Nat} {s i k last : Int} (hs : 0 < s) (h0 : 0 ≤ i) (h1 : i ≤ last) (h : ¬ (tlo (mnN (hx z r) 6) s last ≤ i ∧ i ≤ thi (mxN (hx z r) 6) s last)) : tch z r s i k = false :=
  beside_no (.inl (axis_out hs h0 h1 h))
theorem tch_y {z : Ei} {r : Nat} {s i k last : Int} (hs : 0 < s) (h0 : 0 ≤ k) (h1 : k ≤ last) (h : ¬ (tlo (mnN (hy z r) 6) s last ≤ k ∧ k ≤ thi (mxN (hy z r) 6) s last)) : tch z r s i k = false :=
  beside_no (.inr (axis_out hs h0 h1 h))
theorem ends_in {lo hi s last i : Int} (hs : 0 < s) (h0 : 0 ≤ i) (h1 : i ≤ last) (h2 : lo ≤ 3 * ((i + 1) * s)) (h3 : 3 * (i * s) ≤ hi) : dlo lo s ≤ tlo lo s last ∧ thi hi s last ≤ dhi hi s last := by
  have h4 : 0 < 3 * s := by omega
  have hA := tdiv_lt hi (3 * s) h4
  have hB : 0 < lo.tdiv (3 * s) → _ := tdiv_ge h4
  have hq : 0 ≤ hi.tdiv (3 * s) := Int.tdiv_nonneg (by have := Int.mul_nonneg h0 (Int.le_of_lt hs); omega) (by omega)
  unfold dlo tlo thi dhi
  generalize hi.tdiv (3 * s) = q at *
  generalize lo.tdiv (3 * s) = u at *
  refine ⟨?_, by omega⟩
  have : ¬ last + 2 ≤ u := fun c => by
    have hB := hB (by omega)
    have e1 : (last + 1 + 1) * (3 * s) ≤ u * (3 * s) := Int.mul_le_mul_of_nonneg_right (by omega) (by omega)
    have e2 : (i + 1) * s ≤ (last + 1) * s := Int.mul_le_mul_of_nonneg_right (by omega) (by omega)
    rw [Int.add_mul (last + 1), Int.mul_left_comm (last + 1) 3 s] at e1
    omega
  omega
def progT (z : Ei) (r : Nat) (s last : Int) : List (Int × Int) := rowsT (tch z r s) (tlo (mnN (hx z r) 6) s last) (thi (mxN (hx z r) 6) s last) (tlo (mnN (hy z r) 6) s last) (thi (mxN (hy z r) 6) s last)
def docT (z : Ei) (r : Nat) (s last : Int) : List (Int × Int) := rowsT (tch z r s) (dlo (mnN (hx z r) 6) s) (dhi (mxN (hx z r) 6) s last) (dlo (mnN (hy z r) 6) s) (dhi (mxN (hy z r) 6) s last)
/-- The program's tiles are the document's, and the own one is among them. -/
theorem tiles_same {x y : Int} {z : Ei} {r : Nat} (h : Lies x y z r) {s last i k : Int} (hs : 0 < s) (i0 : 0 ≤ i ∧ i ≤ last) (k0 : 0 ≤ k ∧ k ≤ last) (hx : i * s ≤ x ∧ x < (i + 1) * s) (hy : k * s ≤ y ∧ y < (k + 1) * s) :
    docT z r s last = progT z r s last ∧ (i, k) ∈ progT z r s last := by
  have ht : tch z r s i k = true := own_touch h ⟨by omega, by omega⟩ ⟨by omega, by omega⟩
  have hb : ¬ beside z r (3 * (i * s)) (3 * (k * s)) (3 * ((i + 1) * s)) (3 * ((k + 1) * s)) := fun hb => by
    have := beside_no hb
    rw [tch, this] at ht
    cases ht
  unfold beside at hb
  have ex := ends_in (lo := mnN (Go.Ev.hx z r) 6) (hi := mxN (Go.Ev.hx z r) 6) hs i0.1 i0.2 (by omega) (by omega)
  have ey := ends_in (lo := mnN (Go.Ev.hy z r) 6) (hi := mxN (Go.Ev.hy z r) 6) hs k0.1 k0.2 (by omega) (by omega)
  refine ⟨rowsT_wide _ ex.1 ex.2 ey.1 ey.2 (fun i' k' a b c d e => tch_x hs (by unfold dlo at a; omega) (by unfold dhi at b; omega) e) (fun i' k' a b c d e => tch_y hs (by unfold dlo at c; omega) (by unfold dhi at d; omega) e), mem_rowsT ?_ ?_ ht⟩
  · apply Classical.byContradiction
    intro c
    rw [tch_x hs i0.1 i0.2 c] at ht
    cases ht
  · apply Classical.byContradiction
    intro c
    rw [tch_y hs k0.1 k0.2 c] at ht
    cases ht
end Go.Ev
