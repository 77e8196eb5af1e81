import Derived.Test.YtpjimnjfjopedaaTr4
namespace Go.Ev
open Go
set_option linter.unnecessarySimpa false
set_option linter.unusedSimpArgs false
set_option linter.unusedVariables false
set_option maxRecDepth 100000 in
theorem len_t (ns : List (List Ky)) (n : Int) : Triple Go.Proofs.Try.prog 13 [.rp (tview ns n)] [] (int .i64 n) [] := by
  refine tree_Tree_Len_triple rfl (by decide) ?_
  simp only [tree_Tree_Len_pc, tview, List.length_nil, push_cast, ↓reduceIte, reduceCtorEq, Nat.reduceBEq, Nat.reduceEqDiff, Nat.reduceAdd, Nat.reduceSub, Nat.reduceLT, Nat.reduceLeDiff, Nat.reduceMul]
set_option maxRecDepth 100000 in
theorem has_no_t (n : Int) (k : Ky) : Triple Go.Proofs.Try.prog 14 [.rp (tview [] n), k.av] [] (bl false) [] := by
  refine tree_Tree_Has_triple rfl (by decide) ?_
  simp only [tree_Tree_Has_pc, tview, Ky.av, Ky.rv, List.length_nil, List.map_nil, push_cast, ↓reduceIte, reduceCtorEq, Nat.reduceBEq, Nat.reduceEqDiff, Nat.reduceAdd, Nat.reduceSub, Nat.reduceLT, Nat.reduceLeDiff, Nat.reduceMul]
set_option maxRecDepth 100000 in
theorem has_t (ns : List (List Ky)) (n : Int) (k : Ky) (r s : Nat) (l : List Ky) (h : Nod ns k r) (hl : ns[r - 1]? = some l) (hs : Plc l k s) : Triple Go.Proofs.Try.prog 14 [.rp (tview ns n), k.av] [] (bl (decide (l[s]? = some k))) [] := by
  refine tree_Tree_Has_triple rfl (by decide) ?_
  have h0 : r - 1 < ns.length := (List.getElem?_eq_some_iff.1 hl).1
  have hll := (h.ne _ _ hl).2
  have hne : ((ns.length : Int) == 0) = false := by simp; intro e; simp [e] at h0
  simp only [tree_Tree_Has_pc, tview, Ky.av, Ky.rv, List.length_nil, List.length_map, hne, push_cast, ↓reduceIte, reduceCtorEq, Nat.reduceBEq, Nat.reduceEqDiff, Nat.reduceAdd, Nat.reduceSub, Nat.reduceLT, Nat.reduceLeDiff, Nat.reduceMul]
  refine dcall_mk (node_t ns n k r h) rfl trivial ?_
  have hg : (ns.map keys).getD (((r - 1 : Nat) : Int)).toNat (.sl 3 []) = keys l := by
    simp [List.getD, hl]
  simp only [List.length_map, hg, keys, push_cast, ↓reduceIte, reduceCtorEq, Nat.reduceBEq, Nat.reduceEqDiff, Nat.reduceAdd, Nat.reduceSub, Nat.reduceLT, Nat.reduceLeDiff, Nat.reduceMul]
  refine And.intro ⟨by omega, by omega⟩ ?_
  refine dcall_mk (find_t l k s hs hll) rfl trivial ?_
  simp only [push_cast, ↓reduceIte, reduceCtorEq, Nat.reduceBEq, Nat.reduceEqDiff, Nat.reduceAdd, Nat.reduceSub, Nat.reduceLT, Nat.reduceLeDiff, Nat.reduceMul]
  kernel_rfl
end Go.Ev
