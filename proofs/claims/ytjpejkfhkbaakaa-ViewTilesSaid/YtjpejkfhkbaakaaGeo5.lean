import Derived.Test.YtjpejkfhkbaakaaGeo4
import Derived.Test.YtjpejkfhkbaakaaGeoC
namespace Go.Ev
open Go
set_option linter.unnecessarySimpa false
set_option linter.unusedSimpArgs false
set_option linter.unusedVariables false
theorem lb {r : Nat} (hr : r ≤ 12) : (betaN (12 - r)).In 120000 := betaN_in _ (by omega)
theorem scale_In {z : Ei} {n : Int} {by_ : Int} (h : z.In n) (hb : 0 ≤ by_ ∧ by_ ≤ 3) (hn : 0 ≤ n) : (⟨by_ * z.a, by_ * z.b⟩ : Ei).In (3 * n) := by
  have h1 := mul_in (show -3 ≤ by_ ∧ by_ ≤ 3 by omega) h.1
  have h2 := mul_in (show -3 ≤ by_ ∧ by_ ≤ 3 by omega) h.2
  exact ⟨h1, h2⟩
def placeN (z : Ei) (r : Nat) (b : Int) : Ei := (betaN (12 - r)).mul ⟨b * z.a, b * z.b⟩
theorem placeN_In {z : Ei} {r : Nat} {b : Int} (h : z.In 1073741824) (hr : r ≤ 12) (hb : 0 ≤ b ∧ b ≤ 3) : (placeN z r b).In 1159641169920000 := (mul_In (lb hr) (scale_In h hb (by decide))).mono (by decide)
set_option maxRecDepth 100000 in
theorem place_t (z : Ei) (r b : Int) (h : z.In 1073741824) (hr : 0 ≤ r ∧ r ≤ 12) (hb : 0 ≤ b ∧ b ≤ 3) : Triple Go.Proofs.Try.prog 38 [z.v, int .i64 r, int .i64 b] [] (.tup [(placeN z r.toNat b).v, bl true]) [] := by
  refine plane_place_triple rfl (by decide) ?_
  have h' := h
  unfold Ei.In at h'
  have i1 : in64 z.a ∧ in64 z.b := by unfold in64; omega
  simp only [plane_place_pc, Ei.v, Ei.rv, List.length_nil, push_cast, ↓reduceIte, reduceCtorEq, Nat.reduceBEq, Nat.reduceEqDiff, Nat.reduceAdd, Nat.reduceSub, Nat.reduceLT, Nat.reduceLeDiff, Nat.reduceMul]
  refine call_mk (isRes_t r) rfl trivial ?_
  rw [decide_eq_true hr]
  simp only [push_cast, ↓reduceIte, reduceCtorEq, Nat.reduceBEq, Nat.reduceEqDiff, Nat.reduceAdd, Nat.reduceSub, Nat.reduceLT, Nat.reduceLeDiff, Nat.reduceMul]
  refine call_mk (within_t _ _ i1.1 (by decide)) rfl trivial ?_
  rw [show decide (-1073741824 ≤ z.a ∧ z.a ≤ 1073741824) = true from decide_eq_true h'.1]
  simp only [push_cast, ↓reduceIte, reduceCtorEq, Nat.reduceBEq, Nat.reduceEqDiff, Nat.reduceAdd, Nat.reduceSub, Nat.reduceLT, Nat.reduceLeDiff, Nat.reduceMul]
  refine call_mk (within_t _ _ i1.2 (by decide)) rfl trivial ?_
  rw [show decide (-1073741824 ≤ z.b ∧ z.b ≤ 1073741824) = true from decide_eq_true h'.2]
  simp only [push_cast, ↓reduceIte, reduceCtorEq, Nat.reduceBEq, Nat.reduceEqDiff, Nat.reduceAdd, Nat.reduceSub, Nat.reduceLT, Nat.reduceLeDiff, Nat.reduceMul]
  rw [show IntKind.i64.wrap (12 - r) = 12 - r from wrap_id (by omega)]
  refine call_mk (ebeta_t (12 - r) (by omega)) rfl trivial ?_
  simp only [Ei.v, Ei.rv, push_cast, ↓reduceIte, reduceCtorEq, Nat.reduceBEq, Nat.reduceEqDiff, Nat.reduceAdd, Nat.reduceSub, Nat.reduceLT, Nat.reduceLeDiff, Nat.reduceMul]
  have hs := scale_In h hb (by decide)
  unfold Ei.In at hs
  rw [show IntKind.i64.wrap (b * z.a) = b * z.a from wrap_id (by have := hs.1; dsimp only at this; omega), show IntKind.i64.wrap (b * z.b) = b * z.b from wrap_id (by have := hs.2; dsimp only at this; omega)]
  refine call_as (as' := [(betaN (12 - r).toNat).v, Ei.v ⟨b * z.a, b * z.b⟩]) rfl ?_
  have e : (12 - r).toNat = 12 - r.toNat := by omega
  refine call_mk (emul_t _ _ ((betaN_in _ (by omega)).mono (by decide)) ((scale_In h hb (by decide)).mono (by decide)) ?_) rfl trivial ?_
  · rw [e]; exact (placeN_In h (by omega) hb).mono (by decide)
  simp only [placeN, ← e, Ei.v, Ei.rv, push_cast, ↓reduceIte, reduceCtorEq, Nat.reduceBEq, Nat.reduceEqDiff, Nat.reduceAdd, Nat.reduceSub, Nat.reduceLT, Nat.reduceLeDiff, Nat.reduceMul]
/-- A place in the plane. -/
def pnt (x y : Int) : RV := .agg [.v (.int .i64 x), .v (.int .i64 y)]
theorem spot_t (w : Ei) (h : w.In 10000000000000000) : Triple Go.Proofs.Try.prog 63 [w.v] [] (.r (pnt (52 * w.a + 26 * w.b) (45 * w.b))) [] := by
  refine plane_spot_triple rfl (by decide) ?_
  unfold Ei.In at h
  simp only [plane_spot_pc, Ei.v, Ei.rv, List.length_nil, push_cast, ↓reduceIte, reduceCtorEq, Nat.reduceBEq, Nat.reduceEqDiff, Nat.reduceAdd, Nat.reduceSub, Nat.reduceLT, Nat.reduceLeDiff, Nat.reduceMul]
  rw [show IntKind.i64.wrap (52 * w.a) = 52 * w.a from wrap_id (by omega), show IntKind.i64.wrap (26 * w.b) = 26 * w.b from wrap_id (by omega), show IntKind.i64.wrap (52 * w.a + 26 * w.b) = 52 * w.a + 26 * w.b from wrap_id (by omega), show IntKind.i64.wrap (45 * w.b) = 45 * w.b from wrap_id (by omega)]
  rfl
theorem add_In {x y : Ei} {n m : Int} (hx : x.In n) (hy : y.In m) : (x.add y).In (n + m) := by
  unfold Ei.In Ei.add at *
  dsimp only
  omega
theorem vv_In (i : Nat) : (vv i).In 2 := by
  unfold vv
  split <;> unfold Ei.In <;> decide
/-- A centre of which corners are made. -/
def cen (m b : Ei) : AV := .r (.agg [.v (.int .i64 m.a), .v (.int .i64 m.b), .v (.int .i64 b.a), .v (.int .i64 b.b)])
set_option maxRecDepth 100000 in
theorem corner_t (m b k : Ei) (hm : m.In 1159641169920000) (hb : b.In 120000) (hk : k.In 2) : Triple Go.Proofs.Try.prog 40 [cen m b, k.v] [] (.r (pnt (52 * (m.add (b.mul k)).a + 26 * (m.add (b.mul k)).b) (45 * (m.add (b.mul k)).b))) [] := by
  refine plane_centre_corner_triple rfl (by decide) ?_
  have hbk : (b.mul k).In 720000 := (mul_In hb hk).mono (by decide)
  simp only [plane_centre_corner_pc, cen, Ei.v, Ei.rv, List.length_nil, push_cast, ↓reduceIte, reduceCtorEq, Nat.reduceBEq, Nat.reduceEqDiff, Nat.reduceAdd, Nat.reduceSub, Nat.reduceLT, Nat.reduceLeDiff, Nat.reduceMul]
  refine call_as (as' := [b.v, k.v]) rfl ?_
  refine call_mk (emul_t _ _ (hb.mono (by decide)) (hk.mono (by decide)) (hbk.mono (by decide))) rfl trivial ?_
  simp only [Ei.v, Ei.rv, push_cast, ↓reduceIte, reduceCtorEq, Nat.reduceBEq, Nat.reduceEqDiff, Nat.reduceAdd, Nat.reduceSub, Nat.reduceLT, Nat.reduceLeDiff, Nat.reduceMul]
  refine call_as (as' := [m.v, (b.mul k).v]) rfl ?_
  have hs := add_In hm hbk
  refine call_mk (eadd_t _ _ (hm.mono (by decide)) (hbk.mono (by decide)) (hs.mono (by decide))) rfl trivial ?_
  simp only [Ei.v, Ei.rv, push_cast, ↓reduceIte, reduceCtorEq, Nat.reduceBEq, Nat.reduceEqDiff, Nat.reduceAdd, Nat.reduceSub, Nat.reduceLT, Nat.reduceLeDiff, Nat.reduceMul]
  refine call_as (as' := [(m.add (b.mul k)).v]) rfl ?_
  refine call_mk (spot_t _ (hs.mono (by decide))) rfl trivial ?_
  simp only [pnt, push_cast, ↓reduceIte, reduceCtorEq, Nat.reduceBEq, Nat.reduceEqDiff, Nat.reduceAdd, Nat.reduceSub, Nat.reduceLT, Nat.reduceLeDiff, Nat.reduceMul]
/-- A corner's place. -/
def hexP (z : Ei) (r i : Nat) : RV := pnt (hx z r i) (hy z r i)
def hexL (z : Ei) (r : Nat) (n : Nat) : List RV := (List.range n).map (hexP z r)
theorem hexL_succ (z : Ei) (r n : Nat) : hexL z r n ++ [hexP z r n] = hexL z r (n + 1) := by simp [hexL, List.range_succ]
theorem hexL_len (z : Ei) (r n : Nat) : (hexL z r n).length = n := by simp [hexL]
theorem hexP_eq (z : Ei) (r i : Nat) : RV.agg [.v (.int .i64 (52 * ((placeN z r 3).add ((betaN (12 - r)).mul (vv i))).a + 26 * ((placeN z r 3).add ((betaN (12 - r)).mul (vv i))).b)), .v (.int .i64 (45 * ((placeN z r 3).add ((betaN (12 - r)).mul (vv i))).b))] = hexP z r i := by
  have h : (placeN z r 3).add ((betaN (12 - r)).mul (vv i)) = hc z r i := by
    apply Ei.ext' <;> simp only [placeN, Ei.add, Ei.mul, hc, Int.mul_add] <;> omega
  rw [h]; rfl
def vvL : List RV := [(vv 0).rv, (vv 1).rv, (vv 2).rv, (vv 3).rv, (vv 4).rv, (vv 5).rv]
theorem vvL_at (i : Nat) (h : i < 6) (d : RV) : vvL.getD i d = .agg [.v (.int .i64 (vv i).a), .v (.int .i64 (vv i).b)] := by
  rcases lt6 h with rfl | rfl | rfl | rfl | rfl | rfl <;> rfl
set_option maxRecDepth 100000 in
theorem hex_t (z : Ei) (r : Int) (h : z.In 1073741824) (hr : 0 ≤ r ∧ r ≤ 12) : Triple Go.Proofs.Try.prog 21 [z.v, int .i64 r] [] (.tup [.own 1000000 0 0 6, bl true]) [.row 2 (pnt 0 0) true true (hexL z r.toNat 6)] := by
  refine plane_Hex_triple rfl (by decide) ?_
  simp only [plane_Hex_pc, Ei.v, Ei.rv, List.length_nil, push_cast, ↓reduceIte, reduceCtorEq, Nat.reduceBEq, Nat.reduceEqDiff, Nat.reduceAdd, Nat.reduceSub, Nat.reduceLT, Nat.reduceLeDiff, Nat.reduceMul]
  refine call_as (as' := [z.v, int .i64 r, int .i64 3]) rfl ?_
  refine call_mk (place_t z r 3 h hr (by decide)) rfl trivial ?_
  simp only [Ei.v, Ei.rv, push_cast, ↓reduceIte, reduceCtorEq, Nat.reduceBEq, Nat.reduceEqDiff, Nat.reduceAdd, Nat.reduceSub, Nat.reduceLT, Nat.reduceLeDiff, Nat.reduceMul]
  rw [show IntKind.i64.wrap (12 - r) = 12 - r from wrap_id (by omega)]
  refine call_mk (ebeta_t (12 - r) (by omega)) rfl trivial ?_
  simp only [Ei.v, Ei.rv, push_cast, ↓reduceIte, reduceCtorEq, Nat.reduceBEq, Nat.reduceEqDiff, Nat.reduceAdd, Nat.reduceSub, Nat.reduceLT, Nat.reduceLeDiff, Nat.reduceMul]
  refine ⟨by simp, ?_⟩
  have e : (12 - r).toNat = 12 - r.toNat := by omega
  have hk : r.toNat ≤ 12 := by omega
  have hmax := maxLen_big
  generalize hR : r.toNat = R at *
  rw [e]
  have hm : (placeN z R 3).In 1159641169920000 := placeN_In h hk (by decide)
  have hb : (betaN (12 - R)).In 120000 := lb hk
  refine run_loop [(38, false), (39, false), (40, false), (10, false), (11, false)] (fun vs pos los => ∃ i : Nat, i ≤ 6 ∧ pos = [] ∧
    ((i = 0 ∧ vs = [.own 2000000 0 0 6, int .i64 6, int .i64 i, .fn (.func 40) [.agg [int .i64 (placeN z R 3).a, int .i64 (placeN z R 3).b, int .i64 (betaN (12 - R)).a, int .i64 (betaN (12 - R)).b]] 1, .nils 2 (.agg [.v (.int .i64 0), .v (.int .i64 0)])] ∧ los = [.row 2 (.agg [.v (.int .i64 0), .v (.int .i64 0)]) true true vvL]) ∨
     (0 < i ∧ vs = [.own 2000000 0 0 6, int .i64 6, int .i64 i, .fn (.func 40) [.agg [int .i64 (placeN z R 3).a, int .i64 (placeN z R 3).b, int .i64 (betaN (12 - R)).a, int .i64 (betaN (12 - R)).b]] 1, .own 2000001 0 0 i] ∧ los = [.row 2 (.agg [.v (.int .i64 0), .v (.int .i64 0)]) true true vvL, .row 2 (pnt 0 0) true true (hexL z R i)])))
    (fun vs _ _ => match vs with | _ :: _ :: .r (.v (.int _ j)) :: _ => (6 - j).toNat | _ => 0) rfl ?_ ?_
  · simp only [push_cast, ↓reduceIte, reduceCtorEq, Nat.reduceBEq, Nat.reduceEqDiff, Nat.reduceAdd, Nat.reduceSub, Nat.reduceLT, Nat.reduceLeDiff, Nat.reduceMul]
    exact ⟨0, by omega, .inl ⟨rfl, rfl, rfl⟩⟩
  · rintro vs pos los ⟨i, i6, rfl, ⟨i0, rfl, rfl⟩ | ⟨i0, rfl, rfl⟩⟩
    · subst i0
      simp only [push_cast, ↓reduceIte, reduceCtorEq, Nat.reduceBEq, Nat.reduceEqDiff, Nat.reduceAdd, Nat.reduceSub, Nat.reduceLT, Nat.reduceLeDiff, Nat.reduceMul]
      rw [show decide ((0 : Int) < 6) = true from rfl]
      simp only [push_cast, ↓reduceIte, reduceCtorEq, Nat.reduceBEq, Nat.reduceEqDiff, Nat.reduceAdd, Nat.reduceSub, Nat.reduceLT, Nat.reduceLeDiff, Nat.reduceMul]
      refine ⟨by simp, ?_⟩
      rw [show (0 : Int).toNat = 0 from rfl, show 0 + 0 = 0 from rfl, vvL_at 0 (by decide)]
      simp only [push_cast, ↓reduceIte, reduceCtorEq, Nat.reduceBEq, Nat.reduceEqDiff, Nat.reduceAdd, Nat.reduceSub, Nat.reduceLT, Nat.reduceLeDiff, Nat.reduceMul]
      refine ⟨by kernel_rfl, ?_⟩
      refine call_as (as' := [cen (placeN z R 3) (betaN (12 - R)), (vv 0).v]) rfl ?_
      refine call_mk (corner_t _ _ _ hm hb (vv_In 0)) rfl trivial ?_
      simp only [pnt, push_cast, ↓reduceIte, reduceCtorEq, Nat.reduceBEq, Nat.reduceEqDiff, Nat.reduceAdd, Nat.reduceSub, Nat.reduceLT, Nat.reduceLeDiff, Nat.reduceMul]
      refine ⟨by decide, by omega, ?_, ?_⟩
      · refine ⟨1, by omega, .inr ⟨by omega, ?_, ?_⟩⟩
        · rw [show IntKind.i64.wrap (0 + 1) = ((1 : Nat) : Int) by decide]
        · rw [hexP_eq]; rfl
      · decide
    · simp only [push_cast, ↓reduceIte, reduceCtorEq, Nat.reduceBEq, Nat.reduceEqDiff, Nat.reduceAdd, Nat.reduceSub, Nat.reduceLT, Nat.reduceLeDiff, Nat.reduceMul]
      refine cnd_mk (fun h => ?_) (fun h => ?_)
      · have hi : i < 6 := by simp at h; omega
        simp only [push_cast, ↓reduceIte, reduceCtorEq, Nat.reduceBEq, Nat.reduceEqDiff, Nat.reduceAdd, Nat.reduceSub, Nat.reduceLT, Nat.reduceLeDiff, Nat.reduceMul]
        refine ⟨by simp; omega, ?_⟩
        rw [Int.toNat_natCast, Nat.zero_add, vvL_at i hi]
        simp only [push_cast, ↓reduceIte, reduceCtorEq, Nat.reduceBEq, Nat.reduceEqDiff, Nat.reduceAdd, Nat.reduceSub, Nat.reduceLT, Nat.reduceLeDiff, Nat.reduceMul]
        refine ⟨by kernel_rfl, ?_⟩
        refine call_as (as' := [cen (placeN z R 3) (betaN (12 - R)), (vv i).v]) rfl ?_
        refine call_mk (corner_t _ _ _ hm hb (vv_In i)) rfl trivial ?_
        simp only [pnt, push_cast, ↓reduceIte, reduceCtorEq, Nat.reduceBEq, Nat.reduceEqDiff, Nat.reduceAdd, Nat.reduceSub, Nat.reduceLT, Nat.reduceLeDiff, Nat.reduceMul]
        rw [hexP_eq, show IntKind.i64.wrap ((i : Int) + 1) = ((i + 1 : Nat) : Int) by rw [wrap_id (by omega)]; omega, List.take_of_length_le (by rw [hexL_len]; exact Nat.le_refl _), hexL_succ]
        refine ⟨by decide, by omega, ?_, ?_⟩
        · exact ⟨i + 1, by omega, .inr ⟨by omega, rfl, rfl⟩⟩
        · omega
      · have hi : i = 6 := by simp at h; omega
        subst hi
        simp only [push_cast, ↓reduceIte, reduceCtorEq, Nat.reduceBEq, Nat.reduceEqDiff, Nat.reduceAdd, Nat.reduceSub, Nat.reduceLT, Nat.reduceLeDiff, Nat.reduceMul]
end Go.Ev
