import Derived.Test.YtpjimnjfjopedaaTrG
namespace Go.Ev
open Go
set_option linter.unnecessarySimpa false
set_option linter.unusedSimpArgs false
set_option linter.unusedVariables false
theorem takeWhile_srt {hi : Ky} : ∀ {M : List Ky}, Srt M → M.takeWhile (fun k => !kl hi k) = M.filter fun k => !kl hi k
  | [], _ => rfl
  | x :: M, h => by
    have h1 := List.pairwise_cons.1 h
    rw [List.takeWhile_cons, List.filter_cons]
    rcases hx : kl hi x with _ | _
    · simp only [Bool.not_false, if_true]
      rw [takeWhile_srt h1.2]
    · simp only [Bool.not_true, Bool.false_eq_true, if_false]
      rw [eq_comm, List.filter_eq_nil_iff]
      intro y hy
      simp [kl_trans hx (h1.1 y hy)]
/-- The keys from lo to hi. -/
def rng (L : List Ky) (lo hi : Ky) : List Ky := L.filter fun k => !kl k lo && !kl hi k
theorem tw_rng {L : List Ky} (h : Srt L) (lo hi : Ky) : tw lo hi L = rng L lo hi := by
  unfold tw rng
  rw [takeWhile_srt (h.sublist List.filter_sublist), List.filter_filter]
  congr 1
  funext k
  exact Bool.and_comm _ _
set_option maxRecDepth 100000 in
theorem range_t {ns : List (List Ky)} (h : Good ns) (hn : ns.flatten.length ≤ 100000) (n : Int) (lo hi : Ky) : Triple Go.Proofs.Try.prog 16 [.rp (tview ns n), lo.av, hi.av] [] (.own 1000000 0 0 (rng ns.flatten lo hi).length) [.row 3 kz true true ((rng ns.flatten lo hi).map Ky.rv)] := by
  have hq : Triple Go.Proofs.Try.prog 25 [.rp (tview ns n), lo.av, .fn (.func 26) [.ptr 1000000 0 0, .ptr 1000001 0 0] 0] [.box hi.cs, .box [.nils 3 kz]] (.tup []) (roR hi 1000002 (rng ns.flatten lo hi)) := by
    by_cases h0 : ns = []
    · subst h0
      refine tree_Tree_from_triple rfl (by simp) ?_
      simp only [tree_Tree_from_pc, tview, Ky.av, Ky.rv, Ky.cs, kz, List.length_nil, List.map_nil, push_cast, ↓reduceIte, reduceCtorEq, Nat.reduceBEq, Nat.reduceEqDiff, Nat.reduceAdd, Nat.reduceSub, Nat.reduceLT, Nat.reduceLeDiff, Nat.reduceMul]
      rfl
    · refine fromR_t ns n lo hi _ (nodeIx_ok h (by omega) _) h0 hn _ ?_
      obtain ⟨i, s, l, hs⟩ := spt h (by omega) lo h0
      rw [hs.nx, ← tw_rng h.so]
      have hd : ns.drop i = l :: ns.drop (i + 1) := by
        rw [List.drop_eq_getElem_cons hs.lt, (List.getElem?_eq_some_iff.1 hs.at_).2]
      rw [hs.all, hd, List.flatten_cons]
      unfold tw
      conv => rhs; rw [List.filter_append]
      have : List.filter (fun k => !kl k lo) (List.take i ns).flatten = [] := by
        rw [List.filter_eq_nil_iff]
        intro x hx
        simp [hs.ahead x hx]
      rw [this, List.nil_append]
  generalize rng ns.flatten lo hi = R at hq
  rcases R with _ | ⟨x, xs⟩
  · refine nil_own ?_
    refine tree_Tree_Range_triple rfl (by decide) ?_
    rw [roR_nil] at hq
    simp only [tree_Tree_Range_pc, Ky.av, Ky.rv, List.length_nil, push_cast, ↓reduceIte, reduceCtorEq, Nat.reduceBEq, Nat.reduceEqDiff, Nat.reduceAdd, Nat.reduceSub, Nat.reduceLT, Nat.reduceLeDiff, Nat.reduceMul]
    refine call_mk hq rfl ⟨rfl, rfl, trivial⟩ ?_
    simp only [Ky.cs, kz, push_cast, ↓reduceIte, reduceCtorEq, Nat.reduceBEq, Nat.reduceEqDiff, Nat.reduceAdd, Nat.reduceSub, Nat.reduceLT, Nat.reduceLeDiff, Nat.reduceMul]
  · generalize hR : x :: xs = R at *
    have hne : R ≠ [] := by rw [← hR]; simp
    refine tree_Tree_Range_triple rfl (by decide) ?_
    rw [roR_ne hi _ hne] at hq
    simp only [tree_Tree_Range_pc, Ky.av, Ky.rv, kz, List.length_nil, push_cast, ↓reduceIte, reduceCtorEq, Nat.reduceBEq, Nat.reduceEqDiff, Nat.reduceAdd, Nat.reduceSub, Nat.reduceLT, Nat.reduceLeDiff, Nat.reduceMul]
    refine call_mk hq rfl ⟨rfl, rfl, trivial⟩ ?_
    simp only [Ky.cs, kz, push_cast, ↓reduceIte, reduceCtorEq, Nat.reduceBEq, Nat.reduceEqDiff, Nat.reduceAdd, Nat.reduceSub, Nat.reduceLT, Nat.reduceLeDiff, Nat.reduceMul]
theorem flat_rvs (l : List Ky) : ∀ x ∈ l.map Ky.rv, FlatR x := fun x hx => by
  obtain ⟨k, _, rfl⟩ := List.mem_map.1 hx
  simp [Ky.rv, FlatR, FlatRs]
theorem rangeP {ns : List (List Ky)} (h : Good ns) (hn : ns.flatten.length ≤ 100000) (lo hi : Ky) : Triple Go.Proofs.Try.prog 16 [.ptr 1000000 0 0, lo.av, hi.av] [.abs (tr ns)] (.own 1000001 0 0 (rng ns.flatten lo hi).length) [.abs (tr ns), .row 3 kz true true ((rng ns.flatten lo hi).map Ky.rv)] :=
  view1 (T := tr ns) (range_t h hn _ lo hi) rfl (flat_rvs _)
end Go.Ev
namespace Go.Ev
open Go
set_option linter.unusedSimpArgs false
set_option linter.unusedVariables false
theorem count2 {p q r : Ky → Bool} {L : List Ky} (h : ∀ x ∈ L, (p x).toNat + (q x).toNat = 1 + (r x).toNat) : L.countP p + L.countP q = L.length + L.countP r := by
  induction L with
  | nil => rfl
  | cons x L ih =>
    have h1 := h x (by simp)
    have h2 := ih fun y hy => h y (by simp [hy])
    simp only [List.countP_cons, List.length_cons]
    cases hp : p x <;> cases hq : q x <;> cases hr : r x <;> simp [hp, hq, hr] at h1 ⊢ <;> omega
theorem Srt.nodup {L : List Ky} (h : Srt L) : L.Nodup := h.imp fun {a b} hab e => by subst e; rw [kl_irr] at hab; cases hab
theorem countP_eq_mem {L : List Ky} (h : Srt L) (k : Ky) : L.countP (fun x => decide (x = k)) = (decide (k ∈ L)).toNat := by
  have := h.nodup.count (a := k)
  rw [show L.countP (fun x => decide (x = k)) = L.count k from rfl]
  rw [this]
  split <;> simp [*]
theorem three (x k : Ky) : (!kl k x).toNat + (!kl x k).toNat = 1 + (decide (x = k)).toNat := by
  rcases kl_three x k with h | h | h
  · have : x ≠ k := fun e => by subst e; rw [kl_irr] at h; cases h
    simp [h, kl_asym h, this]
  · have : x ≠ k := fun e => by subst e; rw [kl_irr] at h; cases h
    simp [h, kl_asym h, this]
  · subst h; simp [kl_irr]
theorem less_or (x k : Ky) : (kl x k).toNat + (decide (x = k)).toNat = (!kl k x).toNat := by
  rcases kl_three x k with h | h | h
  · have : x ≠ k := fun e => by subst e; rw [kl_irr] at h; cases h
    simp [h, kl_asym h, this]
  · have : x ≠ k := fun e => by subst e; rw [kl_irr] at h; cases h
    simp [h, kl_asym h, this]
  · subst h; simp [kl_irr]
theorem count3 {p q r : Ky → Bool} {L : List Ky} (h : ∀ x ∈ L, (p x).toNat + (q x).toNat = (r x).toNat) : L.countP p + L.countP q = L.countP r := by
  induction L with
  | nil => rfl
  | cons x L ih =>
    have h1 := h x (by simp)
    have h2 := ih fun y hy => h y (by simp [hy])
    simp only [List.countP_cons]
    cases hp : p x <;> cases hq : q x <;> cases hr : r x <;> simp [hp, hq, hr] at h1 ⊢ <;> omega
theorem rk_get {L : List Ky} (h : Srt L) {i : Nat} {x : Ky} (hx : L[i]? = some x) : rk L x = i := by
  have hlt := (List.getElem?_eq_some_iff.1 hx).1
  unfold rk
  conv => lhs; rw [← List.take_append_drop i L]
  rw [List.countP_append]
  have h1 : (L.take i).countP (fun q => kl q x) = i := by
    rw [List.countP_eq_length.2, List.length_take, Nat.min_eq_left (by omega)]
    intro y hy
    obtain ⟨j, hj⟩ := List.mem_iff_getElem?.1 hy
    rw [List.getElem?_take] at hj
    split at hj
    · rename_i hji; exact srt_lt h hji hj hx
    · cases hj
  have h2 : (L.drop i).countP (fun q => kl q x) = 0 := by
    rw [List.countP_eq_zero]
    intro y hy
    obtain ⟨j, hj⟩ := List.mem_iff_getElem?.1 hy
    rw [List.getElem?_drop] at hj
    rcases Nat.eq_zero_or_pos j with h0 | h0
    · subst h0
      rw [Nat.add_zero, hx] at hj
      cases hj
      rw [kl_irr]; simp
    · rw [kl_asym (srt_lt h (show i < i + j by omega) hx hj)]; simp
  omega
abbrev kLo : Ky := ⟨0, -9223372036854775808, -9223372036854775808⟩
abbrev kHi : Ky := ⟨18446744073709551615, 9223372036854775807, 9223372036854775807⟩
theorem not_lo {x : Ky} (h : x.Wf) : kl x kLo = false := by
  obtain ⟨c0, c1, v0, v1, d0, d1⟩ := h
  unfold kl
  split
  · simp; omega
  · split
    · simp; omega
    · simp; omega
theorem not_hi {x : Ky} (h : x.Wf) : kl kHi x = false := by
  obtain ⟨c0, c1, v0, v1, d0, d1⟩ := h
  unfold kl
  split
  · simp; omega
  · split
    · simp; omega
    · simp; omega
structure Parts (L : List Ky) (k : Ky) : Prop where
  sum : (rng L kLo k).length + (rng L k kHi).length = L.length + (decide (k ∈ L)).toNat
  all : rng L kLo kHi = L
  rank : rk L k + (decide (k ∈ L)).toNat = (rng L kLo k).length
  each : ∀ (i : Nat) (x : Ky), (rng L kLo k)[i]? = some x → rk L x = i
  none : rng L kHi kLo = []
theorem parts {L : List Ky} (h : Srt L) (hw : ∀ x ∈ L, x.Wf) (k : Ky) : Parts L k := by
  have hlo : ∀ x ∈ L, kl x kLo = false := fun x hx => not_lo (hw x hx)
  have hhi : ∀ x ∈ L, kl kHi x = false := fun x hx => not_hi (hw x hx)
  have eA : rng L kLo k = L.filter fun x => !kl k x := List.filter_congr fun x hx => by simp [hlo x hx]
  have eB : rng L k kHi = L.filter fun x => !kl x k := List.filter_congr fun x hx => by simp [hhi x hx]
  refine ⟨?_, ?_, ?_, fun i x hx => ?_, ?_⟩
  · rw [eA, eB, ← List.countP_eq_length_filter, ← List.countP_eq_length_filter, ← countP_eq_mem h]
    exact count2 fun x _ => three x k
  · exact List.filter_eq_self.2 fun x hx => by simp [hlo x hx, hhi x hx]
  · rw [eA, ← List.countP_eq_length_filter, ← countP_eq_mem h]
    exact count3 fun x _ => less_or x k
  · rw [eA, ← takeWhile_srt h] at hx
    have hp := List.takeWhile_prefix (l := L) fun x => !kl k x
    obtain ⟨t, ht⟩ := hp
    have : L[i]? = some x := by
      rw [← ht, List.getElem?_append_left (List.getElem?_eq_some_iff.1 hx).1]
      exact hx
    exact rk_get h this
  · refine List.filter_eq_nil_iff.2 fun x hx => ?_
    intro hc
    simp only [Bool.and_eq_true, Bool.not_eq_true'] at hc
    rcases kl_le hc.1 with h1 | h1
    · rw [← h1] at hc
      have := hc.2
      simp [kl] at this
    · rcases kl_le hc.2 with h2 | h2
      · rw [h2] at h1
        simp [kl] at h1
      · have := kl_trans h1 h2
        simp [kl] at this
end Go.Ev
