import Derived.Test.YtjpejkfhkbaakaaView3
namespace Go.Ev
open Go
set_option linter.unnecessarySimpa false
set_option linter.unusedSimpArgs false
set_option linter.unusedVariables false
set_option maxRecDepth 100000 in
theorem rfine_t (t : Til) (ht : t.ok) : Triple Go.Proofs.Try.prog 10 [t.v] [] (bl (fine t)) [] := by
  refine apiaryref9_Fine_triple rfl (by decide) ?_
  simp only [apiaryref9_Fine_pc, Til.v, List.length_nil, push_cast, ↓reduceIte, reduceCtorEq, Nat.reduceBEq, Nat.reduceEqDiff, Nat.reduceAdd, Nat.reduceSub, Nat.reduceLT, Nat.reduceLeDiff, Nat.reduceMul]
  refine dcall_as (as' := [t.v]) rfl ?_
  refine dcall_mk (rtile_t t) rfl trivial ?_
  cases hti : tis t with
  | false =>
    simp only [push_cast, ↓reduceIte, reduceCtorEq, Nat.reduceBEq, Nat.reduceEqDiff, Nat.reduceAdd, Nat.reduceSub, Nat.reduceLT, Nat.reduceLeDiff, Nat.reduceMul]
    exact ⟨by kernel_rfl, by simp [fine, hti]⟩
  | true =>
    have hr : 0 ≤ t.z ∧ t.z ≤ 18 ∧ 0 ≤ t.r ∧ t.r ≤ 12 := by simp [tis] at hti; omega
    have w1 : IntKind.i64.wrap (12 - t.r) = 12 - t.r := wrap_id (by omega)
    have w2 : IntKind.i64.wrap (18 - t.z) = 18 - t.z := wrap_id (by omega)
    have w3 : IntKind.i64.wrap (2 * (18 - t.z)) = 2 * (18 - t.z) := wrap_id (by omega)
    have h7 := p7 (12 - t.r).toNat (by omega)
    have h2 := p2 (2 * (18 - t.z)).toNat (by omega)
    have hq : (2 : Int) ^ (2 * (18 - t.z)).toNat = 2 ^ (18 - t.z).toNat * 2 ^ (18 - t.z).toNat := by
      rw [← Int.pow_add]; congr 1; omega
    simp only [w1, w2, w3, push_cast, ↓reduceIte, reduceCtorEq, Nat.reduceBEq, Nat.reduceEqDiff, Nat.reduceAdd, Nat.reduceSub, Nat.reduceLT, Nat.reduceLeDiff, Nat.reduceMul]
    refine dcall_mk (seven_t (12 - t.r) (by omega) (by omega)) rfl trivial ?_
    simp only [w1, w2, w3, push_cast, ↓reduceIte, reduceCtorEq, Nat.reduceBEq, Nat.reduceEqDiff, Nat.reduceAdd, Nat.reduceSub, Nat.reduceLT, Nat.reduceLeDiff, Nat.reduceMul]
    refine dcall_mk (shift_t (2 * (18 - t.z)) (by omega) (by omega)) rfl trivial ?_
    simp only [w1, w2, w3, push_cast, ↓reduceIte, reduceCtorEq, Nat.reduceBEq, Nat.reduceEqDiff, Nat.reduceAdd, Nat.reduceSub, Nat.reduceLT, Nat.reduceLeDiff, Nat.reduceMul]
    refine ⟨by kernel_rfl, ?_⟩
    rw [wrap_id (by omega), wrap_id (by omega)]
    refine bl_iff ?_
    rw [hq, ← Int.mul_assoc]
    simp [fine, hti]
theorem tmod_in (a n : Int) (hn : 0 < n) : -n < a.tmod n ∧ a.tmod n < n ∧ (a.tmod n + n) % n = a % n := by
  have h0 := Int.emod_nonneg a (show n ≠ 0 by omega)
  have h1 := Int.emod_lt_of_pos a hn
  rw [Int.tmod_eq_emod]
  split
  · refine ⟨by omega, by omega, ?_⟩
    rw [show a % n - ((0 : Nat) : Int) + n = a % n + n by omega, Int.add_emod_right, Int.emod_emod]
  · rename_i h
    have h2 : a % n ≠ 0 := fun h3 => h (.inr (Int.dvd_of_emod_eq_zero h3))
    refine ⟨by omega, by omega, ?_⟩
    rw [show a % n - (n.natAbs : Int) + n = a % n by omega, Int.emod_emod]
/-- How coarse cells must be. -/
def coarse (z : Int) : Nat → Nat
  | 0 => 0
  | n + 1 => if fine ⟨z, 0, 0, (n + 1 : Nat)⟩ then coarse z n else n + 1
def tileOf (x y z r : Int) : Til := ⟨z % 19, (x % 1073741824) / 2 ^ (30 - z % 19).toNat, (y % 1073741824) / 2 ^ (30 - z % 19).toNat, coarse (z % 19) (r % 13).toNat⟩
theorem coarse_le (z : Int) : ∀ n, coarse z n ≤ n
  | 0 => Nat.le_refl _
  | n + 1 => by
    have := coarse_le z n
    unfold coarse
    split <;> omega
theorem tis_of (x y z r : Int) : tis (tileOf x y z r) = true := by
  have h1 := coarse_le (z % 19) (r % 13).toNat
  have hz : 0 ≤ z % 19 ∧ z % 19 ≤ 18 := by omega
  have hp := p2 (30 - z % 19).toNat (by omega)
  have hq := p2 (z % 19).toNat (by omega)
  have hpq : (2 : Int) ^ (30 - z % 19).toNat * 2 ^ (z % 19).toNat = 1073741824 := by
    rw [← Int.pow_add, show (30 - z % 19).toNat + (z % 19).toNat = 30 by omega]; rfl
  have key : ∀ a : Int, 0 ≤ (a % 1073741824) / 2 ^ (30 - z % 19).toNat ∧ (a % 1073741824) / 2 ^ (30 - z % 19).toNat < 2 ^ (z % 19).toNat := fun a => by
    refine ⟨Int.ediv_nonneg (by omega) (by omega), ?_⟩
    rw [Int.ediv_lt_iff_lt_mul (by omega), Int.mul_comm, hpq]
    omega
  have kx := key x
  have ky := key y
  have hc : (0 : Int) ≤ (coarse (z % 19) (r % 13).toNat : Nat) ∧ ((coarse (z % 19) (r % 13).toNat : Nat) : Int) ≤ 12 := by omega
  exact decide_eq_true ⟨hz.1, hz.2, hc.1, hc.2, kx.1, kx.2, ky.1, ky.2⟩
theorem coarse_not (z : Int) : ∀ n, (coarse z n = 0) ∨ fine ⟨z, 0, 0, (coarse z n : Nat)⟩ = false
  | 0 => .inl rfl
  | n + 1 => by
    unfold coarse
    split
    · exact coarse_not z n
    · rename_i h
      right
      simpa using h
theorem fine_xy {a b : Til} (hz : a.z = b.z) (hr : a.r = b.r) (ha : tis a = true) (hb : tis b = true) : fine a = fine b := by
  simp only [fine, ha, hb, hz, hr]
theorem fine_zero {t : Til} (h : t.r = 0) : fine t = false := by
  cases hti : tis t with
  | false => simp [fine, hti]
  | true =>
    have hr : 0 ≤ t.z ∧ t.z ≤ 18 := by simp [tis] at hti; omega
    have hq : (2 : Int) ^ (18 - t.z).toNat ≤ 262144 := by
      have h1 : 2 ^ (18 - t.z).toNat ≤ 2 ^ 18 := Nat.pow_le_pow_right (by decide) (by omega)
      have h3 : ((2 ^ (18 - t.z).toNat : Nat) : Int) = (2 : Int) ^ (18 - t.z).toNat := by simp
      omega
    have hp := p2 (18 - t.z).toNat (by omega)
    have hm : 16 * (2 : Int) ^ (18 - t.z).toNat * 2 ^ (18 - t.z).toNat ≤ 4194304 * 262144 := Int.mul_le_mul (by omega) hq (by omega) (by omega)
    simp only [fine, hti, h, Bool.true_and, decide_eq_false_iff_not]
    have : (7 : Int) ^ (12 - (0 : Int)).toNat = 13841287201 := by decide
    omega
theorem fine_of (x y z r : Int) : fine (tileOf x y z r) = false := by
  rcases coarse_not (z % 19) (r % 13).toNat with h | h
  · exact fine_zero (by simp [tileOf, h])
  · by_cases h0 : coarse (z % 19) (r % 13).toNat = 0
    · exact fine_zero (by simp [tileOf, h0])
    · rw [← h]
      have h1 := coarse_le (z % 19) (r % 13).toNat
      have hp := p2 (z % 19).toNat (by omega)
      refine fine_xy rfl rfl (tis_of x y z r) ?_
      simp only [tis, decide_eq_true_eq]
      omega
theorem and30 (x : Int) (hx : in64 x) : IntKind.i64.wrap ((BitVec.ofInt IntKind.i64.bits x &&& BitVec.ofInt IntKind.i64.bits 1073741823).toNat) = x % 1073741824 := by
  have e : (BitVec.ofInt 64 1073741823).toNat = 2 ^ 30 - 1 := by decide
  rw [show IntKind.i64.bits = 64 from rfl, BitVec.toNat_and, e, Nat.and_two_pow_sub_one_eq_mod, BitVec.toNat_ofInt]
  rw [wrap_id (by unfold in64 at hx; omega)]
  omega
set_option maxRecDepth 100000 in
theorem tile_t (x y z r : Int) (hx : in64 x) (hy : in64 y) (hz : in64 z) (hr : in64 r) : Triple Go.Proofs.Try.prog 5 [int .i64 x, int .i64 y, int .i64 z, int .i64 r] [] (tileOf x y z r).v [] := by
  refine apiarylaw22_Tile_triple rfl (by decide) ?_
  have m1 : IntKind.i64.wrap (z.tmod 19 + 19) = z.tmod 19 + 19 := wrap_id (by have := tmod_in z 19 (by decide); omega)
  have m2 : (z.tmod 19 + 19).tmod 19 = z % 19 := by
    have := tmod_in z 19 (by decide)
    rw [Int.tmod_eq_emod_of_nonneg (by omega), this.2.2]
  have m3 : IntKind.i64.wrap (r.tmod 13 + 13) = r.tmod 13 + 13 := wrap_id (by have := tmod_in r 13 (by decide); omega)
  have m4 : (r.tmod 13 + 13).tmod 13 = r % 13 := by
    have := tmod_in r 13 (by decide)
    rw [Int.tmod_eq_emod_of_nonneg (by omega), this.2.2]
  simp only [apiarylaw22_Tile_pc, List.length_nil, m1, m2, m3, m4, push_cast, ↓reduceIte, reduceCtorEq, Nat.reduceBEq, Nat.reduceEqDiff, Nat.reduceAdd, Nat.reduceSub, Nat.reduceLT, Nat.reduceLeDiff, Nat.reduceMul]
  refine ⟨by decide, by decide, by decide, by decide, ?_⟩
  generalize hzz : z % 19 = z'
  have hz' : 0 ≤ z' ∧ z' ≤ 18 := by omega
  have hp := p2 z'.toNat (by omega)
  refine run_loop [(0, false), (1, false), (2, false), (3, false), (8, false)] (fun vs pos los => ∃ n : Nat, n ≤ 12 ∧ coarse z' n = coarse z' (r % 13).toNat ∧
    vs = [int .i64 x, int .i64 y, int .i64 z', int .i64 n, .ptr 2000000 0 0] ∧ pos = [] ∧ los = [.box [int .i64 0, int .i64 0, int .i64 0, int .i64 0]])
    (fun vs _ _ => match vs with | _ :: _ :: _ :: .r (.v (.int _ j)) :: _ => j.toNat | _ => 0) rfl ?_ ?_
  · simp only [push_cast, ↓reduceIte, reduceCtorEq, Nat.reduceBEq, Nat.reduceEqDiff, Nat.reduceAdd, Nat.reduceSub, Nat.reduceLT, Nat.reduceLeDiff, Nat.reduceMul]
    exact ⟨(r % 13).toNat, by omega, rfl, by rw [Int.toNat_of_nonneg (by omega)]⟩
  · rintro vs pos los ⟨n, hn, hc, rfl, rfl, rfl⟩
    have fin : tileOf x y z r = ⟨z', (x % 1073741824) / 2 ^ (30 - z').toNat, (y % 1073741824) / 2 ^ (30 - z').toNat, (coarse z' n : Nat)⟩ := by
      simp only [tileOf, hzz, hc]
    have w1 : IntKind.i64.wrap (30 - z') = 30 - z' := wrap_id (by omega)
    have sh : ∀ a : Int, a.fdiv (2 ^ min (30 - z').toNat IntKind.i64.bits) = a / 2 ^ (30 - z').toNat := fun a => by
      rw [show min (30 - z').toNat IntKind.i64.bits = (30 - z').toNat from Nat.min_eq_left (by simp [IntKind.bits]; omega)]
      exact Int.fdiv_eq_ediv_of_nonneg _ (Int.le_of_lt (Int.pow_pos (by decide)))
    cases n with
    | zero =>
      simp only [Int.reduceLT, gt_iff_lt, Int.lt_irrefl, and30 x hx, and30 y hy, w1, sh, fin, Til.v, coarse, push_cast, ↓reduceIte, reduceCtorEq, Nat.reduceBEq, Nat.reduceEqDiff, Nat.reduceAdd, Nat.reduceSub, Nat.reduceLT, Nat.reduceLeDiff, Nat.reduceMul]
      refine ⟨by omega, by omega, ?_⟩
      (show _ = true); kernel_rfl
    | succ n =>
      have e1 : decide (((n + 1 : Nat) : Int) > 0) = true := by simp
      have w2 : IntKind.i64.wrap (((n + 1 : Nat) : Int) - 1) = n := by rw [wrap_id (by omega)]; omega
      generalize hm : ((n + 1 : Nat) : Int) = m
      rw [hm] at e1 w2
      simp only [e1, push_cast, ↓reduceIte, reduceCtorEq, Nat.reduceBEq, Nat.reduceEqDiff, Nat.reduceAdd, Nat.reduceSub, Nat.reduceLT, Nat.reduceLeDiff, Nat.reduceMul]
      refine call_as (as' := [Til.v ⟨z', 0, 0, m⟩]) rfl ?_
      refine call_mk (rfine_t ⟨z', 0, 0, m⟩ ⟨by unfold in64; dsimp; omega, by show in64 0; decide, by show in64 0; decide, by unfold in64; dsimp; omega⟩) rfl trivial ?_
      cases hf : fine ⟨z', 0, 0, m⟩ with
      | true =>
        simp only [w2, push_cast, ↓reduceIte, reduceCtorEq, Nat.reduceBEq, Nat.reduceEqDiff, Nat.reduceAdd, Nat.reduceSub, Nat.reduceLT, Nat.reduceLeDiff, Nat.reduceMul]
        refine ⟨⟨n, by omega, ?_, rfl⟩, by omega⟩
        rw [← hc]
        simp only [coarse, hm, hf, if_true]
      | false =>
        have hk : coarse z' (n + 1) = n + 1 := by simp [coarse, hm, hf]
        rw [hk, hm] at fin
        simp only [and30 x hx, and30 y hy, w1, sh, fin, Til.v, push_cast, ↓reduceIte, reduceCtorEq, Nat.reduceBEq, Nat.reduceEqDiff, Nat.reduceAdd, Nat.reduceSub, Nat.reduceLT, Nat.reduceLeDiff, Nat.reduceMul]
        refine ⟨by omega, by omega, ?_⟩
        (show _ = true); kernel_rfl
end Go.Ev
