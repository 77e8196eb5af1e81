import Derived.Test.YtpjimnjfjopedaaTrG
namespace Go.Ev
open Go
set_option linter.unnecessarySimpa false
set_option linter.unusedSimpArgs false
set_option linter.unusedVariables false
theorem takeWhile_srt {hi : Ky} : ∀ {M : List Ky}, Srt M → M.takeWhile (fun k => !kl hi k) = M.filter fun k => !kl hi k
  | [], _ => rfl
  | x :: M, h => by
    have h1 := List.pairwise_cons.1 h
    rw [List.takeWhile_cons, List.filter_cons]
    rcases hx : kl hi x with _ | _
    · simp only [Bool.not_false, if_true]
      rw [takeWhile_srt h1.2]
    · simp only [Bool.not_true, Bool.false_eq_true, if_false]
      rw [eq_comm, List.filter_eq_nil_iff]
      intro y hy
      simp [kl_trans hx (h1.1 y hy)]
/-- The keys from lo to hi. -/
def rng (L : List Ky) (lo hi : Ky) : List Ky := L.filter fun k => !kl k lo && !kl hi k
theorem tw_rng {L : List Ky} (h : Srt L) (lo hi : Ky) : tw lo hi L = rng L lo hi := by
  unfold tw rng
  rw [takeWhile_srt (h.sublist List.filter_sublist), List.filter_filter]
  congr 1
  funext k
  exact Bool.and_comm _ _
set_option maxRecDepth 100000 in
theorem range_t {ns : List (List Ky)} (h : Good ns) (hn : ns.flatten.length ≤ 100000) (n : Int) (lo hi : Ky) : Triple Go.Proofs.Try.prog 16 [.rp (tview ns n), lo.av, hi.av] [] (.own 1000000 0 0 (rng ns.flatten lo hi).length) [.row 3 kz true true ((rng ns.flatten lo hi).map Ky.rv)] := by
  have hq : Triple Go.Proofs.Try.prog 25 [.rp (tview ns n), lo.av, .fn (.func 26) [.ptr 1000000 0 0, .ptr 1000001 0 0] 0] [.box hi.cs, .box [.nils 3 kz]] (.tup []) (roR hi 1000002 (rng ns.flatten lo hi)) := by
    by_cases h0 : ns = []
    · subst h0
      refine tree_Tree_from_triple rfl (by simp) ?_
      simp only [tree_Tree_from_pc, tview, Ky.av, Ky.rv, Ky.cs, kz, List.length_nil, List.map_nil, push_cast, ↓reduceIte, reduceCtorEq, Nat.reduceBEq, Nat.reduceEqDiff, Nat.reduceAdd, Nat.reduceSub, Nat.reduceLT, Nat.reduceLeDiff, Nat.reduceMul]
      rfl
    · refine fromR_t ns n lo hi _ (nodeIx_ok h (by omega) _) h0 hn _ ?_
      obtain ⟨i, s, l, hs⟩ := spt h (by omega) lo h0
      rw [hs.nx, ← tw_rng h.so]
      have hd : ns.drop i = l :: ns.drop (i + 1) := by
        rw [List.drop_eq_getElem_cons hs.lt, (List.getElem?_eq_some_iff.1 hs.at_).2]
      rw [hs.all, hd, List.flatten_cons]
      unfold tw
      conv => rhs; rw [List.filter_append]
      have : List.filter (fun k => !kl k lo) (List.take i ns).flatten = [] := by
        rw [List.filter_eq_nil_iff]
        intro x hx
        simp [hs.ahead x hx]
      rw [this, List.nil_append]
  generalize rng ns.flatten lo hi = R at hq
  rcases R with _ | ⟨x, xs⟩
  · refine nil_own ?_
    refine tree_Tree_Range_triple rfl (by decide) ?_
    rw [roR_nil] at hq
    simp only [tree_Tree_Range_pc, Ky.av, Ky.rv, List.length_nil, push_cast, ↓reduceIte, reduceCtorEq, Nat.reduceBEq, Nat.reduceEqDiff, Nat.reduceAdd, Nat.reduceSub, Nat.reduceLT, Nat.reduceLeDiff, Nat.reduceMul]
    refine call_mk hq rfl ⟨rfl, rfl, trivial⟩ ?_
    simp only [Ky.cs, kz, push_cast, ↓reduceIte, reduceCtorEq, Nat.reduceBEq, Nat.reduceEqDiff, Nat.reduceAdd, Nat.reduceSub, Nat.reduceLT, Nat.reduceLeDiff, Nat.reduceMul]
  · generalize hR : x :: xs = R at *
    have hne : R ≠ [] := by rw [← hR]; simp
    refine tree_Tree_Range_triple rfl (by decide) ?_
    rw [roR_ne hi _ hne] at hq
    simp only [tree_Tree_Range_pc, Ky.av, Ky.rv, kz, List.length_nil, push_cast, ↓reduceIte, reduceCtorEq, Nat.reduceBEq, Nat.reduceEqDiff, Nat.reduceAdd, Nat.reduceSub, Nat.reduceLT, Nat.reduceLeDiff, Nat.reduceMul]
    refine call_mk hq rfl ⟨rfl, rfl, trivial⟩ ?_
    simp only [Ky.cs, kz, push_cast, ↓reduceIte, reduceCtorEq, Nat.reduceBEq, Nat.reduceEqDiff, Nat.reduceAdd, Nat.reduceSub, Nat.reduceLT, Nat.reduceLeDiff, Nat.reduceMul]
theorem flat_rvs (l : List Ky) : ∀ x ∈ l.map Ky.rv, FlatR x := fun x hx => by
  obtain ⟨k, _, rfl⟩ := List.mem_map.1 hx
  simp [Ky.rv, FlatR, FlatRs]
theorem rangeP {ns : List (List Ky)} (h : Good ns) (hn : ns.flatten.length ≤ 100000) (lo hi : Ky) : Triple Go.Proofs.Try.prog 16 [.ptr 1000000 0 0, lo.av, hi.av] [.abs (tr ns)] (.own 1000001 0 0 (rng ns.flatten lo hi).length) [.abs (tr ns), .row 3 kz true true ((rng ns.flatten lo hi).map Ky.rv)] :=
  view1 (T := tr ns) (range_t h hn _ lo hi) rfl (flat_rvs _)
end Go.Ev
