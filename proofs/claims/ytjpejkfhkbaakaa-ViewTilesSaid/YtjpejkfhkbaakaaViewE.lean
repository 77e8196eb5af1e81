import Derived.Test.YtjpejkfhkbaakaaViewD
import Derived.Test.YtjpejkfhkbaakaaView5
namespace Go.Ev
open Go
set_option linter.unnecessarySimpa false
set_option linter.unusedSimpArgs false
set_option linter.unusedVariables false
theorem word_cell (r : Nat) (z : Ei) (h : okc r z) : isWB (word r z) = true ∧ resW (word r z) = r ∧ down (word r z) r = z ∧ word r z < 18446744073709551616 := by
  refine ⟨isWB_word h, (word_isW r z h).2, ?_, word_lt r z h⟩
  rw [word_down r r z h (Nat.le_refl _), Nat.sub_self]
  rfl
theorem til_ok {t : Til} (h : tis t = true) : t.ok := by
  have hb : 0 ≤ t.z ∧ t.z ≤ 18 ∧ 0 ≤ t.r ∧ t.r ≤ 12 ∧ 0 ≤ t.x ∧ t.x < 2 ^ t.z.toNat ∧ 0 ≤ t.y ∧ t.y < 2 ^ t.z.toNat := by simpa [tis] using h
  have hp := p2 t.z.toNat (by omega)
  unfold Til.ok in64
  omega
set_option maxRecDepth 100000 in
/-- The document's cell of a cell's word. -/
theorem rcellW_t (r : Int) (z : Ei) (h0 : 0 ≤ r) (hk : okc r.toNat z) : Triple Go.Proofs.Try.prog 12 [uw (word r.toNat z)] [] (.tup [cel r z, int .i64 0]) [] := by
  obtain ⟨w1, w2, w3, w4⟩ := word_cell r.toNat z hk
  have h := rcell_t (word r.toNat z) w4
  rw [w1, w2, w3, Int.toNat_of_nonneg h0] at h
  exact h
set_option maxRecDepth 100000 in
theorem on1_t (t : Til) (h : tis t = true) (hf : fine t = false) (z : Ei) (hk : okc t.r.toNat z) (hb : hexIn z t.r.toNat) :
    Triple Go.Proofs.Try.prog 14 [t.v, uw (word t.r.toNat z)] [] (bl (tch z t.r.toNat (2 ^ (30 - t.z).toNat) t.x t.y)) [] := by
  refine apiaryref9_On1_triple rfl (by decide) ?_
  have hi := tile_in h
  have hz : 0 ≤ t.z ∧ t.z ≤ 18 ∧ 0 ≤ t.r := by simp only [tis, decide_eq_true_eq] at h; omega
  have hs := side_in ⟨hz.1, hz.2.1⟩
  have ho := til_ok h
  simp only [apiaryref9_On1_pc, Til.v, uw, List.length_nil, push_cast, ↓reduceIte, reduceCtorEq, Nat.reduceBEq, Nat.reduceEqDiff, Nat.reduceAdd, Nat.reduceSub, Nat.reduceLT, Nat.reduceLeDiff, Nat.reduceMul]
  refine call_as (as' := [uw (word t.r.toNat z)]) rfl ?_
  refine call_mk (rcellW_t t.r z hz.2.2 hk) rfl trivial ?_
  simp only [cel, push_cast, ↓reduceIte, reduceCtorEq, Nat.reduceBEq, Nat.reduceEqDiff, Nat.reduceAdd, Nat.reduceSub, Nat.reduceLT, Nat.reduceLeDiff, Nat.reduceMul]
  refine call_as (as' := [t.v]) rfl ?_
  refine call_mk (rorigin_t t h) rfl trivial ?_
  simp only [push_cast, ↓reduceIte, reduceCtorEq, Nat.reduceBEq, Nat.reduceEqDiff, Nat.reduceAdd, Nat.reduceSub, Nat.reduceLT, Nat.reduceLeDiff, Nat.reduceMul]
  refine call_as (as' := [t.v]) rfl ?_
  refine call_mk (rtileOk_t t ho) rfl trivial ?_
  rw [h, hf]
  have e1 : (t.r == t.r) = true := by simp
  simp only [e1, push_cast, ↓reduceIte, reduceCtorEq, Nat.reduceBEq, Nat.reduceEqDiff, Nat.reduceAdd, Nat.reduceSub, Nat.reduceLT, Nat.reduceLeDiff, Nat.reduceMul]
  rw [Int.add_mul, Int.one_mul, Int.add_mul, Int.one_mul] at hi
  have ex : IntKind.i64.wrap (t.x * 2 ^ (30 - t.z).toNat + 2 ^ (30 - t.z).toNat) = (t.x + 1) * 2 ^ (30 - t.z).toNat := by rw [Int.add_mul, Int.one_mul]; exact wrap_id (by omega)
  have ey : IntKind.i64.wrap (t.y * 2 ^ (30 - t.z).toNat + 2 ^ (30 - t.z).toNat) = (t.y + 1) * 2 ^ (30 - t.z).toNat := by rw [Int.add_mul, Int.one_mul]; exact wrap_id (by omega)
  rw [ex, ey]
  repeat refine And.intro (by first | decide | exact fun _ => by decide | (simp +contextual; done) | kernel_rfl) ?_
  refine call_as (as' := [cel t.r z, pv (t.x * 2 ^ (30 - t.z).toNat) (t.y * 2 ^ (30 - t.z).toNat), pv ((t.x + 1) * 2 ^ (30 - t.z).toNat) ((t.y + 1) * 2 ^ (30 - t.z).toNat)]) rfl ?_
  refine call_mk (rtouches_t z t.r hz.2.2 hk _ _ _ _ hb (by rw [Int.add_mul, Int.one_mul]; omega) (by rw [Int.add_mul, Int.one_mul]; omega)) rfl trivial ?_
  simp only [push_cast, ↓reduceIte, reduceCtorEq, Nat.reduceBEq, Nat.reduceEqDiff, Nat.reduceAdd, Nat.reduceSub, Nat.reduceLT, Nat.reduceLeDiff, Nat.reduceMul]
  repeat refine And.intro (by first | decide | exact fun _ => by decide | (simp +contextual; done) | kernel_rfl) ?_
  rfl
theorem lies_hexIn {x y : Int} {z : Ei} {r : Nat} (hr : r ≤ 12) (hw : inW x y) (h : Lies x y z r) : hexIn z r := fun i hi => by
  have h1 := h.1
  have h2 := k_in r i hr hi
  unfold inW at hw
  rw [hx_eq, hy_eq]
  omega
/-- What the law looks at. -/
structure TilF (x y : Int) (t : Til) (Z : Ei) (s last : Int) : Prop where
  b : 0 ≤ t.z ∧ t.z ≤ 18 ∧ 0 ≤ t.r ∧ t.r ≤ 12
  w : inW x y
  k : okc t.r.toNat Z
  l : Lies x y Z t.r.toNat
  h : hexIn Z t.r.toNat
  s1 : 4096 ≤ s ∧ s ≤ 1073741824
  l1 : 0 ≤ last ∧ last ≤ 262143
  same : docT Z t.r.toNat s last = progT Z t.r.toNat s last
  own : (t.x, t.y) ∈ progT Z t.r.toNat s last
theorem tilF (x y z r : Int) (Z : Ei) (hZ : near (x % 1073741824) (y % 1073741824) (tileOf x y z r).r.toNat = Z) : TilF (x % 1073741824) (y % 1073741824) (tileOf x y z r) Z (2 ^ (30 - (tileOf x y z r).z).toNat) (2 ^ (tileOf x y z r).z.toNat - 1) := by
  have hti := tis_of x y z r
  have hw : inW (x % 1073741824) (y % 1073741824) := by unfold inW; omega
  have hx : (tileOf x y z r).x = (x % 1073741824) / 2 ^ (30 - (tileOf x y z r).z).toNat := rfl
  have hy : (tileOf x y z r).y = (y % 1073741824) / 2 ^ (30 - (tileOf x y z r).z).toNat := rfl
  generalize tileOf x y z r = t at *
  generalize x % 1073741824 = X at *
  generalize y % 1073741824 = Y at *
  have hb : 0 ≤ t.z ∧ t.z ≤ 18 ∧ 0 ≤ t.r ∧ t.r ≤ 12 ∧ 0 ≤ t.x ∧ t.x < 2 ^ t.z.toNat ∧ 0 ≤ t.y ∧ t.y < 2 ^ t.z.toNat := by simpa [tis] using hti
  have hp := p2 t.z.toNat (by omega)
  have hl18 : (2 : Int) ^ t.z.toNat ≤ 262144 := by
    have h1 : 2 ^ t.z.toNat ≤ 2 ^ 18 := Nat.pow_le_pow_right (by decide) (by omega)
    have h3 : ((2 ^ t.z.toNat : Nat) : Int) = (2 : Int) ^ t.z.toNat := by simp
    omega
  have hs := side_in (show 0 ≤ t.z ∧ t.z ≤ 18 by omega)
  have hl : Lies X Y Z t.r.toNat := by rw [← hZ]; exact lies X Y t.r.toNat (by omega)
  generalize hS : (2 : Int) ^ (30 - t.z).toNat = s at *
  have q1 := Int.mul_ediv_add_emod X s
  have q2 := Int.emod_nonneg X (show s ≠ 0 by omega)
  have q3 := Int.emod_lt_of_pos X (show 0 < s by omega)
  have q4 := Int.mul_ediv_add_emod Y s
  have q5 := Int.emod_nonneg Y (show s ≠ 0 by omega)
  have q6 := Int.emod_lt_of_pos Y (show 0 < s by omega)
  rw [← hx, Int.mul_comm] at q1
  rw [← hy, Int.mul_comm] at q4
  have hh := tiles_same hl (s := s) (last := 2 ^ t.z.toNat - 1) (i := t.x) (k := t.y) (by omega) (by omega) (by omega) (by rw [Int.add_mul, Int.one_mul]; omega) (by rw [Int.add_mul, Int.one_mul]; omega)
  exact ⟨by omega, hw, by rw [← hZ]; exact near_okc X Y t.r.toNat hw.1 hw.2 (by omega), hl, lies_hexIn (by omega) hw hl, hs, by omega, hh.1, hh.2⟩
theorem mem_pos {α : Type} {x : α} {l : List α} (h : x ∈ l) : 0 < l.length := List.length_pos_of_mem h
end Go.Ev
