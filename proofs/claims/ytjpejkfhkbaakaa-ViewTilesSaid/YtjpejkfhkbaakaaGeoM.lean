import Derived.Test.YtjpejkfhkbaakaaBase
namespace Go.Ev
open Go
set_option linter.unnecessarySimpa false
set_option linter.unusedSimpArgs false
set_option linter.unusedVariables false
/-- A number of the lattice. -/
structure Ei where
  a : Int
  b : Int
deriving DecidableEq
def Ei.rv (z : Ei) : RV := .agg [.v (.int .i64 z.a), .v (.int .i64 z.b)]
def Ei.v (z : Ei) : AV := .r z.rv
def Ei.mul (x y : Ei) : Ei := ⟨x.a * y.a - x.b * y.b, x.a * y.b + x.b * y.a + x.b * y.b⟩
def Ei.add (x y : Ei) : Ei := ⟨x.a + y.a, x.b + y.b⟩
def Ei.sub (x y : Ei) : Ei := ⟨x.a - y.a, x.b - y.b⟩
def Ei.conj (x : Ei) : Ei := ⟨x.a + x.b, -x.b⟩
/-- Both parts are no greater, either way. -/
def Ei.In (z : Ei) (n : Int) : Prop := (-n ≤ z.a ∧ z.a ≤ n) ∧ (-n ≤ z.b ∧ z.b ≤ n)
/-- So are both and their sum. -/
def Ei.H (z : Ei) (n : Int) : Prop := (-n ≤ z.a ∧ z.a ≤ n) ∧ (-n ≤ z.b ∧ z.b ≤ n) ∧ (-n ≤ z.a + z.b ∧ z.a + z.b ≤ n)
theorem Ei.ext' {x y : Ei} (h1 : x.a = y.a) (h2 : x.b = y.b) : x = y := by cases x; cases y; simp_all
theorem Ei.In.mono {z : Ei} {n m : Int} (h : z.In n) (hm : n ≤ m) : z.In m := by unfold Ei.In at *; omega
theorem Ei.H.mono {z : Ei} {n m : Int} (h : z.H n) (hm : n ≤ m) : z.H m := by unfold Ei.H at *; omega
theorem Ei.H.in {z : Ei} {n : Int} (h : z.H n) : z.In n := by unfold Ei.H Ei.In at *; omega
def beta : Ei := ⟨2, 1⟩
theorem mul_in {x y n m : Int} (h1 : -n ≤ x ∧ x ≤ n) (h2 : -m ≤ y ∧ y ≤ m) : -(n * m) ≤ x * y ∧ x * y ≤ n * m := by
  have h : (x * y).natAbs ≤ n.toNat * m.toNat := by rw [Int.natAbs_mul]; exact Nat.mul_le_mul (by omega) (by omega)
  have h3 : ((n.toNat * m.toNat : Nat) : Int) = n * m := by
    rw [Int.natCast_mul, Int.toNat_of_nonneg (by omega), Int.toNat_of_nonneg (by omega)]
  omega
/-- Is what is left nearest to nought? -/
def holds (d s t : Int) : Prop := (-d ≤ 2 * s + t ∧ 2 * s + t ≤ d) ∧ (-d ≤ s + 2 * t ∧ s + 2 * t ≤ d) ∧ (-d ≤ s - t ∧ s - t ≤ d)
instance (d s t : Int) : Decidable (holds d s t) := inferInstanceAs (Decidable (_ ∧ _ ∧ _))
def near0 (d s t : Int) : Ei := if holds d s t then ⟨0, 0⟩ else if holds d s (t - d) then ⟨0, 1⟩ else if holds d (s - d) t then ⟨1, 0⟩ else ⟨1, 1⟩
def Ei.round (u : Ei) (d : Int) : Ei := ⟨u.a / d + (near0 d (u.a % d) (u.b % d)).a, u.b / d + (near0 d (u.a % d) (u.b % d)).b⟩
theorem near0_spec {d s t : Int} (hs : 0 ≤ s ∧ s < d) (ht : 0 ≤ t ∧ t < d) :
    holds d (s - (near0 d s t).a * d) (t - (near0 d s t).b * d) ∧ (0 ≤ (near0 d s t).a ∧ (near0 d s t).a ≤ 1) ∧ (0 ≤ (near0 d s t).b ∧ (near0 d s t).b ≤ 1) := by
  unfold near0
  split
  · next h => unfold holds at *; dsimp only; omega
  · split
    · next h => unfold holds at *; dsimp only; omega
    · split
      · next h => unfold holds at *; dsimp only; omega
      · next h => unfold holds at *; dsimp only; omega
/-- The reference's search: the first that holds is it. -/
theorem near0_first {d s t i k : Int} (hs : 0 ≤ s ∧ s < d) (ht : 0 ≤ t ∧ t < d) (hi : -1 ≤ i ∧ i ≤ 2) (hk : -1 ≤ k ∧ k ≤ 2)
    (h : holds d (s - i * d) (t - k * d)) (h1 : ∀ k', -1 ≤ k' → k' < k → ¬ holds d (s - i * d) (t - k' * d))
    (h2 : ∀ i' k', -1 ≤ i' → i' < i → -1 ≤ k' → k' ≤ 2 → ¬ holds d (s - i' * d) (t - k' * d)) : near0 d s t = ⟨i, k⟩ := by
  have hi' : i = -1 ∨ i = 0 ∨ i = 1 ∨ i = 2 := by omega
  have hk' : k = -1 ∨ k = 0 ∨ k = 1 ∨ k = 2 := by omega
  have e0 : (-1 : Int) * d = -d := by omega
  have n00 : (0 < i ∨ (i = 0 ∧ 0 < k)) → ¬ holds d s t := fun c => by
    rcases c with c | ⟨c, c'⟩
    · have := h2 0 0 (by omega) c (by omega) (by omega); simpa using this
    · have := h1 0 (by omega) c'; rw [c] at this; simpa using this
  have n01 : (0 < i ∨ (i = 0 ∧ 1 < k)) → ¬ holds d s (t - d) := fun c => by
    rcases c with c | ⟨c, c'⟩
    · have := h2 0 1 (by omega) c (by omega) (by omega); simpa using this
    · have := h1 1 (by omega) c'; rw [c] at this; simpa using this
  have n10 : (1 < i ∨ (i = 1 ∧ 0 < k)) → ¬ holds d (s - d) t := fun c => by
    rcases c with c | ⟨c, c'⟩
    · have := h2 1 0 (by omega) c (by omega) (by omega); simpa using this
    · have := h1 0 (by omega) c'; rw [c] at this; simpa using this
  clear h1 h2
  rcases hi' with rfl | rfl | rfl | rfl <;> rcases hk' with rfl | rfl | rfl | rfl <;>
    first
    | (exfalso; unfold holds at h; omega)
    | (simp only [Int.zero_mul, Int.one_mul, Int.sub_zero] at h
       simp [near0, h]; done)
    | (simp only [Int.zero_mul, Int.one_mul, Int.sub_zero] at h
       simp [near0, h, n00, n01, n10])
theorem near0_ex {d s t : Int} (hs : 0 ≤ s ∧ s < d) (ht : 0 ≤ t ∧ t < d)
    (h2 : ∀ i' k', -1 ≤ i' → i' < 3 → -1 ≤ k' → k' ≤ 2 → ¬ holds d (s - i' * d) (t - k' * d)) : False := by
  obtain ⟨h, ha, hb⟩ := near0_spec hs ht
  exact h2 _ _ (by omega) (by omega) (by omega) (by omega) h
/-- How far one is: less than the size of what is left. -/
def fr (d a b : Int) (z : Ei) : Int := d * (z.a * z.a + z.a * z.b + z.b * z.b) - z.a * (2 * a + b) - z.b * (a + 2 * b)
def pk (d a b : Int) (p : Int × Ei) (z : Ei) : Int × Ei := if fr d a b z < p.1 then (fr d a b z, z) else p
def cands : List Ei := [⟨0, 1⟩, ⟨1, 0⟩, ⟨1, 1⟩]
/-- The program's search. -/
theorem near0_least {d a b : Int} (ha : 0 ≤ a ∧ a < d) (hb : 0 ≤ b ∧ b < d) : (cands.foldl (pk d a b) (0, ⟨0, 0⟩)).2 = near0 d a b := by
  simp only [cands, List.foldl_cons, List.foldl_nil]
  have e1 : fr d a b ⟨0, 1⟩ = d - (a + 2 * b) := by simp [fr]
  have e2 : fr d a b ⟨1, 0⟩ = d - (2 * a + b) := by simp [fr]
  have e3 : fr d a b ⟨1, 1⟩ = d * 3 - (2 * a + b) - (a + 2 * b) := by simp [fr]
  unfold near0
  by_cases c1 : d - (a + 2 * b) < 0
  · by_cases c2 : d - (2 * a + b) < d - (a + 2 * b)
    · by_cases c3 : d * 3 - (2 * a + b) - (a + 2 * b) < d - (2 * a + b)
      · simp only [pk, e1, e2, e3, c1, c2, c3, if_true]
        rw [if_neg (by unfold holds; omega), if_neg (by unfold holds; omega), if_neg (by unfold holds; omega)]
      · simp only [pk, e1, e2, e3, c1, c2, c3, if_true, if_false]
        rw [if_neg (by unfold holds; omega), if_neg (by unfold holds; omega), if_pos (by unfold holds; omega)]
    · by_cases c3 : d * 3 - (2 * a + b) - (a + 2 * b) < d - (a + 2 * b)
      · simp only [pk, e1, e2, e3, c1, c2, c3, if_true, if_false]
        rw [if_neg (by unfold holds; omega), if_neg (by unfold holds; omega), if_neg (by unfold holds; omega)]
      · simp only [pk, e1, e2, e3, c1, c2, c3, if_true, if_false]
        rw [if_neg (by unfold holds; omega), if_pos (by unfold holds; omega)]
  · by_cases c2 : d - (2 * a + b) < 0
    · by_cases c3 : d * 3 - (2 * a + b) - (a + 2 * b) < d - (2 * a + b)
      · simp only [pk, e1, e2, e3, c1, c2, c3, if_true, if_false]
        rw [if_neg (by unfold holds; omega), if_neg (by unfold holds; omega), if_neg (by unfold holds; omega)]
      · simp only [pk, e1, e2, e3, c1, c2, c3, if_true, if_false]
        rw [if_neg (by unfold holds; omega), if_neg (by unfold holds; omega), if_pos (by unfold holds; omega)]
    · by_cases c3 : d * 3 - (2 * a + b) - (a + 2 * b) < 0
      · exfalso; omega
      · simp only [pk, e1, e2, e3, c1, c2, c3, if_true, if_false]
        rw [if_pos (by unfold holds; omega)]
theorem round_spec (u : Ei) {d : Int} (hd : 0 < d) : holds d (u.a - (u.round d).a * d) (u.b - (u.round d).b * d) := by
  have h1 := Int.mul_ediv_add_emod u.a d
  have h2 := Int.mul_ediv_add_emod u.b d
  have h3 := Int.emod_lt_of_pos u.a hd
  have h4 := Int.emod_nonneg u.a (show d ≠ 0 by omega)
  have h5 := Int.emod_lt_of_pos u.b hd
  have h6 := Int.emod_nonneg u.b (show d ≠ 0 by omega)
  obtain ⟨h, _⟩ := near0_spec (d := d) (s := u.a % d) (t := u.b % d) ⟨h4, h3⟩ ⟨h6, h5⟩
  have e1 : u.a - (u.round d).a * d = u.a % d - (near0 d (u.a % d) (u.b % d)).a * d := by
    simp only [Ei.round, Int.add_mul]
    rw [Int.mul_comm (u.a / d) d]
    omega
  have e2 : u.b - (u.round d).b * d = u.b % d - (near0 d (u.a % d) (u.b % d)).b * d := by
    simp only [Ei.round, Int.add_mul]
    rw [Int.mul_comm (u.b / d) d]
    omega
  rw [e1, e2]; exact h
/-- The cell around one, and which of its it is. -/
def pr (z : Ei) : Ei := (z.mul ⟨3, -1⟩).round 7
def lft (z : Ei) : Ei := z.sub ((pr z).mul beta)
def dgOf (l : Ei) : Nat := if l = ⟨1, 0⟩ then 1 else if l = ⟨0, 1⟩ then 2 else if l = ⟨-1, 1⟩ then 3 else if l = ⟨-1, 0⟩ then 4 else if l = ⟨0, -1⟩ then 5 else if l = ⟨1, -1⟩ then 6 else 0
def dg (z : Ei) : Nat := dgOf (lft z)
def uni (d : Nat) : Ei := match d with | 0 => ⟨1, 0⟩ | 1 => ⟨0, 1⟩ | 2 => ⟨-1, 1⟩ | 3 => ⟨-1, 0⟩ | 4 => ⟨0, -1⟩ | _ => ⟨1, -1⟩
def child (z : Ei) (d : Nat) : Ei := if d = 0 then z.mul beta else (z.mul beta).add (uni (d - 1))
theorem dg_lt (z : Ei) : dg z < 7 := by unfold dg dgOf; repeat' split
                                        all_goals omega
theorem pr_spec (z : Ei) : ∃ l : Ei, lft z = l ∧ l.H 1 ∧ z.a = 2 * (pr z).a - (pr z).b + l.a ∧ z.b = (pr z).a + 3 * (pr z).b + l.b := by
  have h := round_spec (z.mul ⟨3, -1⟩) (d := 7) (by decide)
  refine ⟨lft z, rfl, ?_, ?_, ?_⟩
  · unfold holds at h
    unfold Ei.H lft Ei.sub pr
    simp only [Ei.mul, beta] at *
    generalize Ei.round _ 7 = q at *
    simp only [Int.mul_one, Int.mul_neg] at *
    omega
  · simp only [lft, Ei.sub, Ei.mul, beta]; omega
  · simp only [lft, Ei.sub, Ei.mul, beta]; omega
theorem child_back (z : Ei) : child (pr z) (dg z) = z := by
  obtain ⟨l, hl, h1, h2, h3⟩ := pr_spec z
  have h0 := round_spec (z.mul ⟨3, -1⟩) (d := 7) (by decide)
  have hl7 : l = ⟨0, 0⟩ ∨ l = ⟨1, 0⟩ ∨ l = ⟨0, 1⟩ ∨ l = ⟨-1, 1⟩ ∨ l = ⟨-1, 0⟩ ∨ l = ⟨0, -1⟩ ∨ l = ⟨1, -1⟩ := by
    obtain ⟨a, b⟩ := l
    unfold Ei.H at h1
    dsimp only at h1
    simp only [Ei.mk.injEq]
    omega
  unfold child dg
  rw [hl]
  rcases hl7 with rfl | rfl | rfl | rfl | rfl | rfl | rfl <;> apply Ei.ext' <;> simp [dgOf, uni, Ei.add, Ei.mul, beta] at h2 h3 ⊢ <;> omega
def anc : Nat → Ei → Ei
  | 0, z => z
  | k + 1, z => anc k (pr z)
theorem anc_succ (k : Nat) (z : Ei) : anc (k + 1) z = pr (anc k z) := by
  induction k generalizing z with
  | zero => rfl
  | succ k ih => rw [anc, ih]; rfl
/-- The digits of the way down, by eights. -/
def val : Nat → Ei → Nat
  | 0, _ => 0
  | r + 1, z => val r (pr z) * 8 + dg z
theorem val_lt (r : Nat) (z : Ei) : val r z < 8 ^ r := by
  induction r generalizing z with
  | zero => simp [val]
  | succ r ih =>
    have := ih (pr z)
    have := dg_lt z
    rw [val, Nat.pow_succ]
    omega
theorem val_div (r i : Nat) (z : Ei) (h : i ≤ r) : val r z / 8 ^ i = val (r - i) (anc i z) := by
  induction i generalizing r z with
  | zero => simp [anc]
  | succ i ih =>
    obtain ⟨r, rfl⟩ : ∃ m, r = m + 1 := ⟨r - 1, by omega⟩
    rw [show r + 1 - (i + 1) = r - i by omega, anc, ← ih r (pr z) (by omega), Nat.pow_succ, Nat.mul_comm, ← Nat.div_div_eq_div_mul, val]
    have := dg_lt z
    congr 1
    omega
/-- Is it a cell? -/
def okc (r : Nat) (z : Ei) : Prop := r ≤ 12 ∧ z.In 1073741824 ∧ (-512 ≤ (anc r z).a ∧ (anc r z).a ≤ 511) ∧ (-512 ≤ (anc r z).b ∧ (anc r z).b ≤ 511)
instance (r : Nat) (z : Ei) : Decidable (okc r z) := by unfold okc Ei.In; infer_instance
/-- Its word. -/
def hd36 (r : Nat) (q : Ei) : Nat := ((16 + r) * 1024 + (q.a + 512).toNat) * 1024 + (q.b + 512).toNat
def word (r : Nat) (z : Ei) : Nat := (hd36 r (anc r z) * 8 ^ r + val r z) * 8 ^ (12 - r) + (8 ^ (12 - r) - 1)
/-- A word read. -/
def dgt (w i : Nat) : Nat := w / 8 ^ (12 - i) % 8
def resW (w : Nat) : Nat := w / 72057594037927936 % 16
def baseW (w : Nat) : Ei := ⟨((w / 70368744177664 % 1024 : Nat) : Int) - 512, ((w / 68719476736 % 1024 : Nat) : Int) - 512⟩
def down (w : Nat) : Nat → Ei
  | 0 => baseW w
  | i + 1 => child (down w i) (dgt w (i + 1))
def isW (w : Nat) : Prop := w / 1152921504606846976 = 1 ∧ resW w ≤ 12 ∧ ∀ i, 1 ≤ i → i ≤ 12 → (dgt w i = 7 ↔ resW w < i)
theorem word_top (r : Nat) (z : Ei) (hr : r ≤ 12) : word r z / 68719476736 = hd36 r (anc r z) := by
  have hv := val_lt r z
  have e : (68719476736 : Nat) = 8 ^ r * 8 ^ (12 - r) := by rw [← Nat.pow_add, show r + (12 - r) = 12 by omega]
  have hp : 0 < 8 ^ (12 - r) := Nat.pow_pos (by decide)
  have hq : 0 < 8 ^ r := Nat.pow_pos (by decide)
  rw [e, Nat.mul_comm (8 ^ r), ← Nat.div_div_eq_div_mul, word]
  have h1 : ((hd36 r (anc r z) * 8 ^ r + val r z) * 8 ^ (12 - r) + (8 ^ (12 - r) - 1)) / 8 ^ (12 - r) = hd36 r (anc r z) * 8 ^ r + val r z := by
    rw [Nat.add_comm, Nat.add_mul_div_right _ _ hp, Nat.div_eq_of_lt (by omega)]; omega
  rw [h1, Nat.add_comm, Nat.add_mul_div_right _ _ hq, Nat.div_eq_of_lt hv]; omega
theorem word_dgt (r i : Nat) (z : Ei) (hr : r ≤ 12) (h1 : 1 ≤ i) (h2 : i ≤ r) : dgt (word r z) i = dg (anc (r - i) z) := by
  have hp : 0 < 8 ^ (12 - r) := Nat.pow_pos (by decide)
  have e : 8 ^ (12 - i) = 8 ^ (12 - r) * 8 ^ (r - i) := by rw [← Nat.pow_add, show 12 - r + (r - i) = 12 - i by omega]
  unfold dgt word
  rw [e, ← Nat.div_div_eq_div_mul]
  have h3 : ((hd36 r (anc r z) * 8 ^ r + val r z) * 8 ^ (12 - r) + (8 ^ (12 - r) - 1)) / 8 ^ (12 - r) = hd36 r (anc r z) * 8 ^ r + val r z := by
    rw [Nat.add_comm, Nat.add_mul_div_right _ _ hp, Nat.div_eq_of_lt (by omega)]; omega
  rw [h3]
  have e2 : hd36 r (anc r z) * 8 ^ r = hd36 r (anc r z) * 8 ^ (i - 1) * 8 * 8 ^ (r - i) := by
    rw [Nat.mul_assoc (hd36 r (anc r z)), ← Nat.pow_succ, Nat.mul_assoc, ← Nat.pow_add, show i - 1 + 1 + (r - i) = r by omega]
  rw [e2, Nat.add_comm, Nat.add_mul_div_right _ _ (Nat.pow_pos (by decide)), val_div r (r - i) z (by omega), show r - (r - i) = (i - 1) + 1 by omega, val]
  have := dg_lt (anc (r - i) z)
  generalize hd36 r (anc r z) * 8 ^ (i - 1) = m
  omega
theorem word_seven (r i : Nat) (z : Ei) (h1 : r < i) (h2 : i ≤ 12) : dgt (word r z) i = 7 := by
  unfold dgt word
  have e : 8 ^ (12 - r) = 8 ^ (i - r - 1) * 8 * 8 ^ (12 - i) := by rw [← Nat.pow_succ, ← Nat.pow_add, show i - r - 1 + 1 + (12 - i) = 12 - r by omega]
  have hq : 0 < 8 ^ (12 - i) := Nat.pow_pos (by decide)
  have hq2 : 0 < 8 ^ (i - r - 1) := Nat.pow_pos (by decide)
  rw [e]
  generalize hd36 r (anc r z) * 8 ^ r + val r z = m
  generalize hx : 8 ^ (i - r - 1) = x at *
  generalize hy : 8 ^ (12 - i) = y at *
  have h3 : m * (x * 8 * y) + (x * 8 * y - 1) = (y - 1) + (m * (x * 8) + (x * 8 - 1)) * y := by
    have : (x * 8 - 1) * y = x * 8 * y - y := by rw [Nat.sub_mul, Nat.one_mul]
    have h5 : y ≤ x * 8 * y := Nat.le_mul_of_pos_left _ (by omega)
    rw [Nat.add_mul, this, ← Nat.mul_assoc]
    omega
  rw [h3, Nat.add_mul_div_right _ _ hq, Nat.div_eq_of_lt (by omega)]
  have h4 : m * (x * 8) = m * x * 8 := (Nat.mul_assoc _ _ _).symm
  omega
theorem hd36_parts (r : Nat) (q : Ei) (hr : r ≤ 12) (ha : -512 ≤ q.a ∧ q.a ≤ 511) (hb : -512 ≤ q.b ∧ q.b ≤ 511) :
    hd36 r q / 16777216 = 1 ∧ hd36 r q / 1048576 % 16 = r ∧ ((hd36 r q / 1024 % 1024 : Nat) : Int) - 512 = q.a ∧ ((hd36 r q % 1024 : Nat) : Int) - 512 = q.b := by
  unfold hd36
  omega
theorem word_lt (r : Nat) (z : Ei) (h : okc r z) : word r z < 18446744073709551616 := by
  have h1 := word_top r z h.1
  have h2 := hd36_parts r (anc r z) h.1 h.2.2.1 h.2.2.2
  omega
theorem word_isW (r : Nat) (z : Ei) (h : okc r z) : isW (word r z) ∧ resW (word r z) = r := by
  have h1 := word_top r z h.1
  have h2 := hd36_parts r (anc r z) h.1 h.2.2.1 h.2.2.2
  have h3 : resW (word r z) = r := by unfold resW; omega
  refine ⟨⟨by omega, by rw [h3]; exact h.1, fun i i1 i2 => ?_⟩, h3⟩
  rw [h3]
  by_cases hi : r < i
  · simp [hi, word_seven r i z hi i2]
  · simp only [hi, iff_false]
    rw [word_dgt r i z h.1 i1 (by omega)]
    have := dg_lt (anc (r - i) z)
    omega
theorem word_down (r i : Nat) (z : Ei) (h : okc r z) (hi : i ≤ r) : down (word r z) i = anc (r - i) z := by
  induction i with
  | zero =>
    have h1 := word_top r z h.1
    have h2 := hd36_parts r (anc r z) h.1 h.2.2.1 h.2.2.2
    apply Ei.ext' <;> simp only [down, baseW] <;> rw [Nat.sub_zero] <;> omega
  | succ i ih =>
    rw [down, ih (by omega), word_dgt r (i + 1) z h.1 (by omega) hi]
    rw [show r - i = r - (i + 1) + 1 by omega, anc_succ, child_back]
end Go.Ev
