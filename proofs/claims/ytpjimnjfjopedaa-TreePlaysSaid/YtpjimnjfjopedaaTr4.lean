import Derived.Test.YtpjimnjfjopedaaTr3
namespace Go.Ev
open Go
set_option linter.unnecessarySimpa false
set_option linter.unusedSimpArgs false
set_option linter.unusedVariables false
noncomputable def tree_Tree_node_1_pc : PC :=
  (.seq (.reg [⟨(some 4), none, 0, .see (.mov (.c (.r (.v (.bool false)))))⟩])
  (.seq (.drw [⟨(some 5), none, 0, .see (.ld (some 3) (.t 1))⟩,
    ⟨(some 6), none, 0, .see (.ld none (.t 2))⟩,
    ⟨(some 7), none, 0, .see (.nck (.t 6))⟩,
    ⟨(some 8), none, 0, .see (.fa 0 (.t 7))⟩,
    ⟨(some 9), none, 0, .see (.ld none (.t 8))⟩,
    ⟨(some 10), none, 0, .see (.mov (.t 0))⟩,
    ⟨(some 11), none, 0, .see (.ia 1 (.sl 3 []) (.t 9) (.t 10))⟩,
    ⟨(some 12), none, 0, .see (.ld none (.t 11))⟩,
    ⟨(some 13), none, 0, .see (.ia 3 (.agg [(.v (.int .u64 0)), (.v (.int .i64 0)), (.v (.int .i64 0))]) (.t 12) (.c (.r (.v (.int .i64 0)))))⟩,
    ⟨(some 14), none, 0, .see (.ld (some 3) (.t 13))⟩,
    ⟨(some 15), none, 1, .call 8 [(.t 5), (.t 14)]⟩,
    ⟨(some 4), none, 0, .see (.mov (.t 15))⟩]
    [[], [], [1], [1, 2], [1, 2, 3], [], [1, 2, 3, 4, 5], [1, 2, 3, 4, 5, 6], [1, 2, 3, 4, 5, 6, 7], [1, 2, 3, 4, 5, 6, 7, 8], [0, 1, 2, 3, 4, 5, 6, 7, 8, 9], [0, 1, 2, 3, 4, 5, 6, 7, 8, 9, 10]])
  .ret))
noncomputable abbrev tree_Tree_node_1_code : Code := (Go.Proofs.Try.f31.body).getD .skip
theorem tree_Tree_node_1_chk : chkC Go.Proofs.Try.prog 16 tree_Tree_node_1_code tree_Tree_node_1_pc = true := by kernel_rfl
theorem tree_Tree_node_1_triple {args : List AV} {po ro : List Ob} {res : AV} (hal : args.length = 3) (hpo : po.length ≤ 1000)
    (h : run Go.Proofs.Try.prog po.length (RetP po.length [(4, false, none)] fun v os => v = res ∧ os = ro) [.c tree_Tree_node_1_pc] ⟨argE 0 args, ob0 po⟩) : Triple Go.Proofs.Try.prog 31 args po res ro :=
  triple_of_W (fn := Go.Proofs.Try.f31) (c := tree_Tree_node_1_code) (pc := tree_Tree_node_1_pc) (rs := [(4, false, none)]) Go.Proofs.Try.func31 rfl (by decide) (by have := tree_Tree_node_1_chk; exact this) (by rw [hal]; decide) rfl (by kernel_rfl) (by kernel_rfl) (by decide) hpo (W_of_run h)

noncomputable def tree_Tree_node_pc : PC :=
  (.seq (.reg [⟨(some 2), none, 0, .act (.box (.t 0))⟩,
    ⟨(some 3), none, 0, .act (.box (.t 1))⟩,
    ⟨(some 4), none, 0, .see (.mov (.c (.r (.v (.int .i64 0)))))⟩])
  (.seq (.reg [⟨(some 6), none, 0, .see (.ld none (.t 2))⟩,
    ⟨(some 7), none, 0, .see (.nck (.t 6))⟩,
    ⟨(some 8), none, 0, .see (.fa 0 (.t 7))⟩,
    ⟨(some 9), none, 0, .see (.ld none (.t 8))⟩,
    ⟨(some 10), none, 0, .see (.len false (.t 9))⟩,
    ⟨(some 11), none, 0, .see (.mkf (.func 31) [(.t 3), (.t 2)])⟩,
    ⟨(some 12), none, 1, .call 28 [(.t 10), (.t 11)]⟩,
    ⟨(some 5), none, 0, .see (.mov (.t 12))⟩])
  (.seq (.reg [⟨(some 13), none, 0, .see (.mov (.t 5))⟩,
    ⟨(some 14), none, 0, .see (.bin .sub (.t 13) (.c (.r (.v (.int .i64 1)))))⟩,
    ⟨(some 15), none, 0, .see (.mm true (.t 14) [(.c (.r (.v (.int .i64 0))))])⟩,
    ⟨(some 4), none, 0, .see (.mov (.t 15))⟩])
  .ret)))
noncomputable abbrev tree_Tree_node_code : Code := (Go.Proofs.Try.f22.body).getD .skip
theorem tree_Tree_node_chk : chkC Go.Proofs.Try.prog 16 tree_Tree_node_code tree_Tree_node_pc = true := by kernel_rfl
theorem tree_Tree_node_triple {args : List AV} {po ro : List Ob} {res : AV} (hal : args.length = 2) (hpo : po.length ≤ 1000)
    (h : run Go.Proofs.Try.prog po.length (RetP po.length [(4, false, none)] fun v os => v = res ∧ os = ro) [.c tree_Tree_node_pc] ⟨argE 0 args, ob0 po⟩) : Triple Go.Proofs.Try.prog 22 args po res ro :=
  triple_of_W (fn := Go.Proofs.Try.f22) (c := tree_Tree_node_code) (pc := tree_Tree_node_pc) (rs := [(4, false, none)]) Go.Proofs.Try.func22 rfl (by decide) (by have := tree_Tree_node_chk; exact this) (by rw [hal]; decide) rfl (by kernel_rfl) (by kernel_rfl) (by decide) hpo (W_of_run h)

noncomputable def tree_Tree_Len_pc : PC :=
  (.seq (.reg [⟨(some 2), none, 0, .see (.mov (.c (.r (.v (.int .i64 0)))))⟩])
  (.seq (.reg [⟨(some 3), none, 0, .see (.mov (.t 0))⟩,
    ⟨(some 4), none, 0, .see (.nck (.t 3))⟩,
    ⟨(some 5), none, 0, .see (.fa 1 (.t 4))⟩,
    ⟨(some 6), none, 0, .see (.ld none (.t 5))⟩,
    ⟨(some 2), none, 0, .see (.mov (.t 6))⟩])
  .ret))
noncomputable abbrev tree_Tree_Len_code : Code := (Go.Proofs.Try.f13.body).getD .skip
theorem tree_Tree_Len_chk : chkC Go.Proofs.Try.prog 7 tree_Tree_Len_code tree_Tree_Len_pc = true := by kernel_rfl
theorem tree_Tree_Len_triple {args : List AV} {po ro : List Ob} {res : AV} (hal : args.length = 1) (hpo : po.length ≤ 1000)
    (h : run Go.Proofs.Try.prog po.length (RetP po.length [(2, false, none)] fun v os => v = res ∧ os = ro) [.c tree_Tree_Len_pc] ⟨argE 0 args, ob0 po⟩) : Triple Go.Proofs.Try.prog 13 args po res ro :=
  triple_of_W (fn := Go.Proofs.Try.f13) (c := tree_Tree_Len_code) (pc := tree_Tree_Len_pc) (rs := [(2, false, none)]) Go.Proofs.Try.func13 rfl (by decide) (by have := tree_Tree_Len_chk; exact this) (by rw [hal]; decide) rfl (by kernel_rfl) (by kernel_rfl) (by decide) hpo (W_of_run h)

noncomputable def tree_Tree_Has_pc : PC :=
  (.seq (.reg [⟨(some 3), none, 0, .act (.box (.t 1))⟩,
    ⟨(some 4), none, 0, .see (.mov (.c (.r (.v (.bool false)))))⟩])
  (.seq (.seq (.reg [⟨(some 7), none, 0, .see (.mov (.t 0))⟩,
    ⟨(some 8), none, 0, .see (.nck (.t 7))⟩,
    ⟨(some 9), none, 0, .see (.fa 0 (.t 8))⟩,
    ⟨(some 10), none, 0, .see (.ld none (.t 9))⟩,
    ⟨(some 11), none, 0, .see (.len false (.t 10))⟩,
    ⟨(some 12), none, 0, .see (.bin .eql (.t 11) (.c (.r (.v (.int .i64 0)))))⟩])
  (.cond (.t 12)
    (.seq (.reg [⟨(some 4), none, 0, .see (.mov (.c (.r (.v (.bool false)))))⟩])
    .ret)
    .skip))
  (.seq (.drw [⟨(some 14), none, 0, .see (.mov (.t 0))⟩,
    ⟨(some 15), none, 0, .see (.nck (.t 14))⟩,
    ⟨(some 16), none, 0, .see (.fa 0 (.t 15))⟩,
    ⟨(some 17), none, 0, .see (.ld none (.t 16))⟩,
    ⟨(some 18), none, 0, .see (.mov (.t 0))⟩,
    ⟨(some 19), none, 0, .see (.ld (some 3) (.t 3))⟩,
    ⟨(some 20), none, 1, .call 22 [(.t 18), (.t 19)]⟩,
    ⟨(some 21), none, 0, .see (.ia 1 (.sl 3 []) (.t 17) (.t 20))⟩,
    ⟨(some 22), none, 0, .see (.ld none (.t 21))⟩,
    ⟨(some 23), none, 0, .see (.ld (some 3) (.t 3))⟩,
    ⟨(some 24), none, 2, .call 23 [(.t 22), (.t 23)]⟩,
    ⟨(some 13), none, 0, .see (.mov (.t 24))⟩,
    ⟨(some 25), none, 0, .see (.ext (.t 13) 0)⟩,
    ⟨(some 26), none, 0, .see (.ext (.t 13) 1)⟩,
    ⟨(some 5), none, 0, .see (.mov (.t 25))⟩,
    ⟨(some 6), none, 0, .see (.mov (.t 26))⟩]
    [[], [0], [0, 1], [0, 1, 2], [], [], [4, 5], [0, 1, 2, 3, 4, 5, 6], [0, 1, 2, 3, 4, 5, 6, 7], [], [0, 1, 2, 3, 4, 5, 6, 7, 8, 9], [0, 1, 2, 3, 4, 5, 6, 7, 8, 9, 10], [0, 1, 2, 3, 4, 5, 6, 7, 8, 9, 10, 11], [0, 1, 2, 3, 4, 5, 6, 7, 8, 9, 10, 11], [0, 1, 2, 3, 4, 5, 6, 7, 8, 9, 10, 11, 12], [0, 1, 2, 3, 4, 5, 6, 7, 8, 9, 10, 11, 12, 13, 14]])
  (.seq (.reg [⟨(some 27), none, 0, .see (.mov (.t 6))⟩,
    ⟨(some 4), none, 0, .see (.mov (.t 27))⟩])
  .ret))))
noncomputable abbrev tree_Tree_Has_code : Code := (Go.Proofs.Try.f14.body).getD .skip
theorem tree_Tree_Has_chk : chkC Go.Proofs.Try.prog 28 tree_Tree_Has_code tree_Tree_Has_pc = true := by kernel_rfl
theorem tree_Tree_Has_triple {args : List AV} {po ro : List Ob} {res : AV} (hal : args.length = 2) (hpo : po.length ≤ 1000)
    (h : run Go.Proofs.Try.prog po.length (RetP po.length [(4, false, none)] fun v os => v = res ∧ os = ro) [.c tree_Tree_Has_pc] ⟨argE 0 args, ob0 po⟩) : Triple Go.Proofs.Try.prog 14 args po res ro :=
  triple_of_W (fn := Go.Proofs.Try.f14) (c := tree_Tree_Has_code) (pc := tree_Tree_Has_pc) (rs := [(4, false, none)]) Go.Proofs.Try.func14 rfl (by decide) (by have := tree_Tree_Has_chk; exact this) (by rw [hal]; decide) rfl (by kernel_rfl) (by kernel_rfl) (by decide) hpo (W_of_run h)

/-- What lies behind the tree's pointer. -/
def tview (ns : List (List Ky)) (n : Int) : List RV := [.sl 1 (ns.map keys), .v (.int .i64 n)]
set_option maxRecDepth 100000 in
theorem node1_t (ns : List (List Ky)) (n : Int) (k q : Ky) (x : List Ky) (i : Nat) (hi : i < ns.length) (hx : ns[i]? = some (q :: x)) (hl : ns.length ≤ maxLen) (hl2 : (q :: x).length ≤ maxLen) :
    Triple Go.Proofs.Try.prog 31 [int .i64 i, .ptr 1000000 0 0, .ptr 1000001 0 0] [.box k.cs, .box [.rp (tview ns n)]] (bl (kl k q)) [.box k.cs, .box [.rp (tview ns n)]] := by
  refine tree_Tree_node_1_triple rfl (by simp) ?_
  have hg : (ns.map keys).getD ((i : Int)).toNat (.sl 3 []) = .sl 3 (q.rv :: x.map Ky.rv) := by
    simp [List.getD, hx, keys]
  have hg2 : (q.rv :: x.map Ky.rv).getD (Int.toNat 0) (.agg [.v (.int .u64 0), .v (.int .i64 0), .v (.int .i64 0)]) = .agg [.v (.int .u64 q.c), .v (.int .i64 q.v), .v (.int .i64 q.d)] := rfl
  simp only [tree_Tree_node_1_pc, tview, Ky.cs, List.length_nil, List.length_map, hg, hg2, push_cast, ↓reduceIte, reduceCtorEq, Nat.reduceBEq, Nat.reduceEqDiff, Nat.reduceAdd, Nat.reduceSub, Nat.reduceLT, Nat.reduceLeDiff, Nat.reduceMul]
  refine And.intro ⟨by omega, by omega⟩ (And.intro ⟨by omega, by omega⟩ ?_)
  refine dcall_mk (less_t k q) rfl trivial ?_
  simp only [push_cast, ↓reduceIte, reduceCtorEq, Nat.reduceBEq, Nat.reduceEqDiff, Nat.reduceAdd, Nat.reduceSub, Nat.reduceLT, Nat.reduceLeDiff, Nat.reduceMul]
  kernel_rfl
/-- The nodes are not empty, r is the first of those whose first key is behind k. -/
structure Nod (ns : List (List Ky)) (k : Ky) (r : Nat) : Prop where
  le : r ≤ ns.length
  len : ns.length ≤ maxLen
  ne : ∀ (i : Nat) (l : List Ky), ns[i]? = some l → l ≠ [] ∧ l.length ≤ maxLen
  lo : ∀ (i : Nat) (q : Ky) (x : List Ky), i < r → ns[i]? = some (q :: x) → kl k q = false
  hi : ∀ (i : Nat) (q : Ky) (x : List Ky), r ≤ i → ns[i]? = some (q :: x) → kl k q = true
def nodP (ns : List (List Ky)) (k : Ky) (i : Nat) : Bool := match ns[i]? with
  | some (q :: _) => kl k q
  | _ => true
theorem Nod.at_ {ns : List (List Ky)} {k : Ky} {r : Nat} (h : Nod ns k r) {i : Nat} (hi : i < ns.length) : ∃ q x, ns[i]? = some (q :: x) ∧ (q :: x).length ≤ maxLen := by
  have hq : ns[i]? = some ns[i] := by simp [hi]
  obtain ⟨h1, h2⟩ := h.ne i _ hq
  rcases hx : ns[i] with _ | ⟨q, x⟩
  · exact absurd hx h1
  · rw [hx] at hq h2
    exact ⟨q, x, hq, h2⟩
set_option maxRecDepth 100000 in
theorem node_t (ns : List (List Ky)) (n : Int) (k : Ky) (r : Nat) (h : Nod ns k r) : Triple Go.Proofs.Try.prog 22 [.rp (tview ns n), k.av] [] (int .i64 ((r - 1 : Nat) : Int)) [] := by
  refine tree_Tree_node_triple rfl (by decide) ?_
  have hS := search_t 31 k.cs [.rp (tview ns n)] rfl rfl rfl (nodP ns k) ns.length r h.len h.le (fun i hi => by
    obtain ⟨q, x, h1, _⟩ := h.at_ (i := i) (by have := h.le; omega)
    simp only [nodP, h1, h.lo i q x hi h1]) (fun i hi hn => by
    obtain ⟨q, x, h1, _⟩ := h.at_ hn
    simp only [nodP, h1, h.hi i q x hi h1]) (fun i hn => by
    obtain ⟨q, x, h1, h2⟩ := h.at_ hn
    simp only [nodP, h1]
    exact node1_t ns n k q x i hn h1 h.len h2)
  simp only [tree_Tree_node_pc, tview, Ky.av, Ky.rv, List.length_nil, List.length_map, push_cast, ↓reduceIte, reduceCtorEq, Nat.reduceBEq, Nat.reduceEqDiff, Nat.reduceAdd, Nat.reduceSub, Nat.reduceLT, Nat.reduceLeDiff, Nat.reduceMul]
  refine call_mk hS rfl ⟨rfl, rfl, trivial⟩ ?_
  simp only [tview, Ky.cs, List.length_map, push_cast, ↓reduceIte, reduceCtorEq, Nat.reduceBEq, Nat.reduceEqDiff, Nat.reduceAdd, Nat.reduceSub, Nat.reduceLT, Nat.reduceLeDiff, Nat.reduceMul]
  have hm : (ns.length : Int) ≤ 9223372036854775807 := by have := h.len; simp only [maxLen] at this; omega
  have hle := h.le
  rw [wrap_id ⟨by omega, by omega⟩, show max ((r : Int) - 1) 0 = ((r - 1 : Nat) : Int) by omega]
end Go.Ev
