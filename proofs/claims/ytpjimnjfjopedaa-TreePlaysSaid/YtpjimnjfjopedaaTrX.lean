import Derived.Test.YtpjimnjfjopedaaTrU
namespace Go.Ev
open Go
set_option linter.unnecessarySimpa false
set_option linter.unusedSimpArgs false
set_option linter.unusedVariables false
noncomputable def tree_Tree_Last_1_pc : PC :=
  (.seq (.reg [⟨(some 4), none, 0, .see (.mov (.c (.r (.v (.bool false)))))⟩])
  (.seq (.drw [⟨(some 5), none, 0, .see (.ld none (.t 1))⟩,
    ⟨(some 6), none, 0, .see (.nck (.t 5))⟩,
    ⟨(some 7), none, 0, .see (.fa 0 (.t 6))⟩,
    ⟨(some 8), none, 0, .see (.ld none (.t 7))⟩,
    ⟨(some 9), none, 0, .see (.mov (.t 0))⟩,
    ⟨(some 10), none, 0, .see (.ia 1 (.sl 3 []) (.t 8) (.t 9))⟩,
    ⟨(some 11), none, 0, .see (.ld none (.t 10))⟩,
    ⟨(some 12), none, 0, .see (.ia 3 (.agg [(.v (.int .u64 0)), (.v (.int .i64 0)), (.v (.int .i64 0))]) (.t 11) (.c (.r (.v (.int .i64 0)))))⟩,
    ⟨(some 13), none, 0, .see (.fa 0 (.t 12))⟩,
    ⟨(some 14), none, 0, .see (.ld none (.t 13))⟩,
    ⟨(some 15), none, 0, .see (.ld none (.t 2))⟩,
    ⟨(some 16), none, 0, .see (.bin .gtr (.t 14) (.t 15))⟩,
    ⟨(some 4), none, 0, .see (.mov (.t 16))⟩]
    [[], [0], [0, 1], [0, 1, 2], [], [0, 1, 2, 3, 4], [0, 1, 2, 3, 4, 5], [0, 1, 2, 3, 4, 5, 6], [0, 1, 2, 3, 4, 5, 6, 7], [0, 1, 2, 3, 4, 5, 6, 7, 8], [], [0, 1, 2, 3, 4, 5, 6, 7, 8, 9, 10], [0, 1, 2, 3, 4, 5, 6, 7, 8, 9, 10, 11]])
  .ret))
noncomputable abbrev tree_Tree_Last_1_code : Code := (Go.Proofs.Try.f29.body).getD .skip
theorem tree_Tree_Last_1_chk : chkC Go.Proofs.Try.prog 17 tree_Tree_Last_1_code tree_Tree_Last_1_pc = true := by kernel_rfl
theorem tree_Tree_Last_1_triple {args : List AV} {po ro : List Ob} {res : AV} (hal : args.length = 3) (hpo : po.length ≤ 1000)
    (h : run Go.Proofs.Try.prog po.length (RetP po.length [(4, false, none)] fun v os => v = res ∧ os = ro) [.c tree_Tree_Last_1_pc] ⟨argE 0 args, ob0 po⟩) : Triple Go.Proofs.Try.prog 29 args po res ro :=
  triple_of_W (fn := Go.Proofs.Try.f29) (c := tree_Tree_Last_1_code) (pc := tree_Tree_Last_1_pc) (rs := [(4, false, none)]) Go.Proofs.Try.func29 rfl (by decide) (by have := tree_Tree_Last_1_chk; exact this) (by rw [hal]; decide) rfl (by kernel_rfl) (by kernel_rfl) (by decide) hpo (W_of_run h)

noncomputable def tree_Tree_Last_2_pc : PC :=
  (.seq (.reg [⟨(some 4), none, 0, .see (.mov (.c (.r (.v (.bool false)))))⟩])
  (.seq (.drw [⟨(some 5), none, 0, .see (.ld none (.t 1))⟩,
    ⟨(some 6), none, 0, .see (.mov (.t 0))⟩,
    ⟨(some 7), none, 0, .see (.ia 3 (.agg [(.v (.int .u64 0)), (.v (.int .i64 0)), (.v (.int .i64 0))]) (.t 5) (.t 6))⟩,
    ⟨(some 8), none, 0, .see (.fa 0 (.t 7))⟩,
    ⟨(some 9), none, 0, .see (.ld none (.t 8))⟩,
    ⟨(some 10), none, 0, .see (.ld none (.t 2))⟩,
    ⟨(some 11), none, 0, .see (.bin .gtr (.t 9) (.t 10))⟩,
    ⟨(some 4), none, 0, .see (.mov (.t 11))⟩]
    [[], [], [0, 1], [0, 1, 2], [0, 1, 2, 3], [], [0, 1, 2, 3, 4, 5], [0, 1, 2, 3, 4, 5, 6]])
  .ret))
noncomputable abbrev tree_Tree_Last_2_code : Code := (Go.Proofs.Try.f30.body).getD .skip
theorem tree_Tree_Last_2_chk : chkC Go.Proofs.Try.prog 12 tree_Tree_Last_2_code tree_Tree_Last_2_pc = true := by kernel_rfl
theorem tree_Tree_Last_2_triple {args : List AV} {po ro : List Ob} {res : AV} (hal : args.length = 3) (hpo : po.length ≤ 1000)
    (h : run Go.Proofs.Try.prog po.length (RetP po.length [(4, false, none)] fun v os => v = res ∧ os = ro) [.c tree_Tree_Last_2_pc] ⟨argE 0 args, ob0 po⟩) : Triple Go.Proofs.Try.prog 30 args po res ro :=
  triple_of_W (fn := Go.Proofs.Try.f30) (c := tree_Tree_Last_2_code) (pc := tree_Tree_Last_2_pc) (rs := [(4, false, none)]) Go.Proofs.Try.func30 rfl (by decide) (by have := tree_Tree_Last_2_chk; exact this) (by rw [hal]; decide) rfl (by kernel_rfl) (by kernel_rfl) (by decide) hpo (W_of_run h)

noncomputable def tree_Tree_Last_pc : PC :=
  (.seq (.reg [⟨(some 2), none, 0, .act (.box (.t 0))⟩,
    ⟨(some 3), none, 0, .act (.box (.t 1))⟩,
    ⟨(some 4), none, 0, .act (.new [(.r (.v (.int .u64 0))), (.r (.v (.int .i64 0))), (.r (.v (.int .i64 0)))])⟩,
    ⟨(some 5), none, 0, .see (.mov (.c (.r (.v (.bool false)))))⟩])
  (.seq (.reg [⟨(some 9), none, 0, .see (.ld none (.t 2))⟩,
    ⟨(some 10), none, 0, .see (.nck (.t 9))⟩,
    ⟨(some 11), none, 0, .see (.fa 0 (.t 10))⟩,
    ⟨(some 12), none, 0, .see (.ld none (.t 11))⟩,
    ⟨(some 13), none, 0, .see (.len false (.t 12))⟩,
    ⟨(some 14), none, 0, .see (.mkf (.func 29) [(.t 2), (.t 3)])⟩,
    ⟨(some 15), none, 1, .call 28 [(.t 13), (.t 14)]⟩,
    ⟨(some 16), none, 0, .see (.bin .sub (.t 15) (.c (.r (.v (.int .i64 1)))))⟩,
    ⟨(some 6), none, 0, .see (.mov (.t 16))⟩])
  (.seq (.seq (.reg [⟨(some 17), none, 0, .see (.mov (.t 6))⟩,
    ⟨(some 18), none, 0, .see (.bin .lss (.t 17) (.c (.r (.v (.int .i64 0)))))⟩])
  (.cond (.t 18)
    (.seq (.reg [⟨(some 19), none, 0, .see (.build [(.r (.v (.int .u64 0))), (.r (.v (.int .i64 0))), (.r (.v (.int .i64 0)))] [])⟩,
    ⟨none, none, 0, .act (.st 3 (.t 4) (.t 19))⟩,
    ⟨(some 5), none, 0, .see (.mov (.c (.r (.v (.bool false)))))⟩])
    .ret)
    .skip))
  (.seq (.reg [⟨(some 20), none, 0, .see (.ld none (.t 2))⟩,
    ⟨(some 21), none, 0, .see (.nck (.t 20))⟩,
    ⟨(some 22), none, 0, .see (.fa 0 (.t 21))⟩,
    ⟨(some 23), none, 0, .see (.ld none (.t 22))⟩,
    ⟨(some 24), none, 0, .see (.mov (.t 6))⟩,
    ⟨(some 25), none, 0, .see (.ia 1 (.sl 3 []) (.t 23) (.t 24))⟩,
    ⟨(some 26), none, 0, .see (.ld none (.t 25))⟩,
    ⟨(some 7), none, 0, .act (.new [(.nils 3 (.agg [(.v (.int .u64 0)), (.v (.int .i64 0)), (.v (.int .i64 0))]))])⟩,
    ⟨none, none, 0, .act (.st 1 (.t 7) (.t 26))⟩])
  (.seq (.reg [⟨(some 27), none, 0, .see (.ld none (.t 7))⟩,
    ⟨(some 28), none, 0, .see (.len false (.t 27))⟩,
    ⟨(some 29), none, 0, .see (.mkf (.func 30) [(.t 7), (.t 3)])⟩,
    ⟨(some 30), none, 2, .call 28 [(.t 28), (.t 29)]⟩,
    ⟨(some 31), none, 0, .see (.bin .sub (.t 30) (.c (.r (.v (.int .i64 1)))))⟩,
    ⟨(some 8), none, 0, .see (.mov (.t 31))⟩])
  (.seq (.seq (.drw [⟨(some 32), none, 0, .see (.mov (.t 8))⟩,
    ⟨(some 33), none, 0, .see (.bin .lss (.t 32) (.c (.r (.v (.int .i64 0)))))⟩,
    ⟨(some 34), none, 0, .see (.mov (.t 33))⟩,
    ⟨(some 35), (some (34, false)), 0, .see (.ld none (.t 7))⟩,
    ⟨(some 36), (some (34, false)), 0, .see (.mov (.t 8))⟩,
    ⟨(some 37), (some (34, false)), 0, .see (.ia 3 (.agg [(.v (.int .u64 0)), (.v (.int .i64 0)), (.v (.int .i64 0))]) (.t 35) (.t 36))⟩,
    ⟨(some 38), (some (34, false)), 0, .see (.fa 0 (.t 37))⟩,
    ⟨(some 39), (some (34, false)), 0, .see (.ld none (.t 38))⟩,
    ⟨(some 40), (some (34, false)), 0, .see (.ld none (.t 3))⟩,
    ⟨(some 41), (some (34, false)), 0, .see (.bin .neq (.t 39) (.t 40))⟩,
    ⟨(some 42), none, 0, .see (.pick (.t 34) (.c (.r (.v (.bool true)))) (.t 41))⟩]
    [[], [0], [0, 1], [0, 1, 2], [0, 1, 2], [0, 1, 2, 3, 4], [0, 1, 2, 3, 4, 5], [0, 1, 2, 3, 4, 5, 6], [0, 1, 2], [0, 1, 2, 3, 4, 5, 6, 7, 8], [0, 1, 2, 3, 4, 5, 6, 7, 8, 9]])
  (.cond (.t 42)
    (.seq (.reg [⟨(some 43), none, 0, .see (.build [(.r (.v (.int .u64 0))), (.r (.v (.int .i64 0))), (.r (.v (.int .i64 0)))] [])⟩,
    ⟨none, none, 0, .act (.st 3 (.t 4) (.t 43))⟩,
    ⟨(some 5), none, 0, .see (.mov (.c (.r (.v (.bool false)))))⟩])
    .ret)
    .skip))
  (.seq (.reg [⟨(some 44), none, 0, .see (.ld none (.t 7))⟩,
    ⟨(some 45), none, 0, .see (.mov (.t 8))⟩,
    ⟨(some 46), none, 0, .see (.ia 3 (.agg [(.v (.int .u64 0)), (.v (.int .i64 0)), (.v (.int .i64 0))]) (.t 44) (.t 45))⟩,
    ⟨(some 47), none, 0, .see (.ld (some 3) (.t 46))⟩,
    ⟨none, none, 0, .act (.st 3 (.t 4) (.t 47))⟩,
    ⟨(some 5), none, 0, .see (.mov (.c (.r (.v (.bool true)))))⟩])
  .ret)))))))
noncomputable abbrev tree_Tree_Last_code : Code := (Go.Proofs.Try.f21.body).getD .skip
theorem tree_Tree_Last_chk : chkC Go.Proofs.Try.prog 48 tree_Tree_Last_code tree_Tree_Last_pc = true := by kernel_rfl
theorem tree_Tree_Last_triple {args : List AV} {po ro : List Ob} {res : AV} (hal : args.length = 2) (hpo : po.length ≤ 1000)
    (h : run Go.Proofs.Try.prog po.length (RetP po.length [(4, false, some (24, (some 3))), (5, false, none)] fun v os => v = res ∧ os = ro) [.c tree_Tree_Last_pc] ⟨argE 0 args, ob0 po⟩) : Triple Go.Proofs.Try.prog 21 args po res ro :=
  triple_of_W (fn := Go.Proofs.Try.f21) (c := tree_Tree_Last_code) (pc := tree_Tree_Last_pc) (rs := [(4, false, some (24, (some 3))), (5, false, none)]) Go.Proofs.Try.func21 rfl (by decide) (by have := tree_Tree_Last_chk; exact this) (by rw [hal]; decide) rfl (by kernel_rfl) (by kernel_rfl) (by decide) hpo (W_of_run h)

noncomputable def apiaryref21_KeyAt_pc : PC :=
  (.seq (.reg [⟨(some 3), none, 0, .act (.box (.t 1))⟩,
    ⟨(some 4), none, 0, .see (.mov (.c (.r (.v (.int .i64 0)))))⟩,
    ⟨(some 5), none, 0, .see (.mov (.c (.r (.v (.bool false)))))⟩])
  (.seq (.reg [⟨(some 9), none, 0, .see (.mov (.t 0))⟩,
    ⟨(some 10), none, 0, .see (.len false (.t 9))⟩,
    ⟨(some 6), none, 0, .see (.mov (.c (.r (.v (.int .i64 0)))))⟩,
    ⟨(some 7), none, 0, .see (.mov (.t 10))⟩])
  (.seq (.block 0 (.loop (.seq (.seq (.reg [⟨(some 11), none, 0, .see (.mov (.t 6))⟩,
    ⟨(some 12), none, 0, .see (.mov (.t 7))⟩,
    ⟨(some 13), none, 0, .see (.bin .lss (.t 11) (.t 12))⟩])
  (.cond (.t 13)
    .skip
    (.exit 0)))
  (.block 1 (.seq (.reg [⟨(some 14), none, 0, .see (.mov (.t 6))⟩,
    ⟨(some 15), none, 0, .see (.mov (.t 7))⟩,
    ⟨(some 16), none, 0, .see (.bin .add (.t 14) (.t 15))⟩,
    ⟨(some 17), none, 0, .see (.bin .quo (.t 16) (.c (.r (.v (.int .i64 2)))))⟩,
    ⟨(some 8), none, 0, .see (.mov (.t 17))⟩])
  (.seq (.drw [⟨(some 18), none, 0, .see (.mov (.t 0))⟩,
    ⟨(some 19), none, 0, .see (.mov (.t 8))⟩,
    ⟨(some 20), none, 0, .see (.ia 3 (.agg [(.v (.int .u64 0)), (.v (.int .i64 0)), (.v (.int .i64 0))]) (.t 18) (.t 19))⟩,
    ⟨(some 21), none, 0, .see (.ld (some 3) (.t 20))⟩,
    ⟨(some 22), none, 0, .see (.ld (some 3) (.t 3))⟩,
    ⟨(some 23), none, 1, .call 9 [(.t 21), (.t 22)]⟩]
    [[], [], [0, 1], [0, 1, 2], [], [0, 1, 2, 3, 4]])
  (.cond (.t 23)
    (.reg [⟨(some 24), none, 0, .see (.mov (.t 8))⟩,
    ⟨(some 25), none, 0, .see (.bin .add (.t 24) (.c (.r (.v (.int .i64 1)))))⟩,
    ⟨(some 6), none, 0, .see (.mov (.t 25))⟩])
    (.reg [⟨(some 26), none, 0, .see (.mov (.t 8))⟩,
    ⟨(some 7), none, 0, .see (.mov (.t 26))⟩]))))))))
  (.seq (.drw [⟨(some 27), none, 0, .see (.mov (.t 6))⟩,
    ⟨(some 28), none, 0, .see (.mov (.t 6))⟩,
    ⟨(some 29), none, 0, .see (.mov (.t 0))⟩,
    ⟨(some 30), none, 0, .see (.len false (.t 29))⟩,
    ⟨(some 31), none, 0, .see (.bin .lss (.t 28) (.t 30))⟩,
    ⟨(some 32), none, 0, .see (.mov (.t 31))⟩,
    ⟨(some 33), (some (32, true)), 0, .see (.mov (.t 0))⟩,
    ⟨(some 34), (some (32, true)), 0, .see (.mov (.t 6))⟩,
    ⟨(some 35), (some (32, true)), 0, .see (.ia 3 (.agg [(.v (.int .u64 0)), (.v (.int .i64 0)), (.v (.int .i64 0))]) (.t 33) (.t 34))⟩,
    ⟨(some 36), (some (32, true)), 0, .see (.ld (some 3) (.t 35))⟩,
    ⟨(some 37), (some (32, true)), 0, .see (.ld (some 3) (.t 3))⟩,
    ⟨(some 38), (some (32, true)), 0, .see (.eqa false [0, 0, 0] (.t 36) (.t 37))⟩,
    ⟨(some 39), none, 0, .see (.pick (.t 32) (.t 38) (.c (.r (.v (.bool false)))))⟩,
    ⟨(some 4), none, 0, .see (.mov (.t 27))⟩,
    ⟨(some 5), none, 0, .see (.mov (.t 39))⟩]
    [[], [], [], [2], [1, 2, 3], [1, 2, 3, 4], [1, 2, 3, 4, 5], [1, 2, 3, 4, 5], [1, 2, 3, 4, 5, 6, 7], [1, 2, 3, 4, 5, 6, 7, 8], [1, 2, 3, 4, 5], [1, 2, 3, 4, 5, 6, 7, 8, 9, 10], [1, 2, 3, 4, 5, 6, 7, 8, 9, 10, 11], [0, 1, 2, 3, 4, 5], [0, 1, 2, 3, 4, 5, 6, 7, 8, 9, 10, 11, 12, 13]])
  .ret))))
noncomputable abbrev apiaryref21_KeyAt_code : Code := (Go.Proofs.Try.f20.body).getD .skip
theorem apiaryref21_KeyAt_chk : chkC Go.Proofs.Try.prog 40 apiaryref21_KeyAt_code apiaryref21_KeyAt_pc = true := by kernel_rfl
theorem apiaryref21_KeyAt_triple {args : List AV} {po ro : List Ob} {res : AV} (hal : args.length = 2) (hpo : po.length ≤ 1000)
    (h : run Go.Proofs.Try.prog po.length (RetP po.length [(4, false, none), (5, false, none)] fun v os => v = res ∧ os = ro) [.c apiaryref21_KeyAt_pc] ⟨argE 0 args, ob0 po⟩) : Triple Go.Proofs.Try.prog 20 args po res ro :=
  triple_of_W (fn := Go.Proofs.Try.f20) (c := apiaryref21_KeyAt_code) (pc := apiaryref21_KeyAt_pc) (rs := [(4, false, none), (5, false, none)]) Go.Proofs.Try.func20 rfl (by decide) (by have := apiaryref21_KeyAt_chk; exact this) (by rw [hal]; decide) rfl (by kernel_rfl) (by kernel_rfl) (by decide) hpo (W_of_run h)

set_option maxRecDepth 100000 in
theorem last1_t (ns : List (List Ky)) (n c : Int) (q : Ky) (x : List Ky) (i : Nat) (hi : i < ns.length) (hx : ns[i]? = some (q :: x)) (hl : ns.length ≤ maxLen) (hl2 : (q :: x).length ≤ maxLen) :
    Triple Go.Proofs.Try.prog 29 [int .i64 i, .ptr 1000000 0 0, .ptr 1000001 0 0] [.box [.rp (tview ns n)], .box [int .u64 c]] (bl (decide (c < q.c))) [.box [.rp (tview ns n)], .box [int .u64 c]] := by
  refine tree_Tree_Last_1_triple rfl (by simp) ?_
  have hg : (ns.map keys).getD ((i : Int)).toNat (.sl 3 []) = .sl 3 (q.rv :: x.map Ky.rv) := by
    simp [List.getD, hx, keys]
  have hg2 : (q.rv :: x.map Ky.rv).getD (Int.toNat 0) (.agg [.v (.int .u64 0), .v (.int .i64 0), .v (.int .i64 0)]) = .agg [.v (.int .u64 q.c), .v (.int .i64 q.v), .v (.int .i64 q.d)] := rfl
  simp only [tree_Tree_Last_1_pc, tview, Ky.cs, List.length_nil, List.length_map, hg, hg2, push_cast, ↓reduceIte, reduceCtorEq, Nat.reduceBEq, Nat.reduceEqDiff, Nat.reduceAdd, Nat.reduceSub, Nat.reduceLT, Nat.reduceLeDiff, Nat.reduceMul]
  exact ⟨⟨by omega, by omega⟩, ⟨by omega, by omega⟩, by kernel_rfl⟩
set_option maxRecDepth 100000 in
theorem last2_t (l : List Ky) (c : Int) (q : Ky) (i : Nat) (hi : i < l.length) (hq : l[i]? = some q) (hl : l.length ≤ maxLen) : Triple Go.Proofs.Try.prog 30 [int .i64 i, .ptr 1000000 0 0, .ptr 1000001 0 0] [.box [.r (keys l)], .box [int .u64 c]]
    (bl (decide (c < q.c))) [.box [.r (keys l)], .box [int .u64 c]] := by
  refine tree_Tree_Last_2_triple rfl (by simp) ?_
  simp only [tree_Tree_Last_2_pc, keys, Ky.cs, List.length_nil, List.length_map, keys_get hq, push_cast, ↓reduceIte, reduceCtorEq, Nat.reduceBEq, Nat.reduceEqDiff, Nat.reduceAdd, Nat.reduceSub, Nat.reduceLT, Nat.reduceLeDiff, Nat.reduceMul]
  exact ⟨⟨by omega, by omega⟩, by kernel_rfl⟩
set_option maxRecDepth 100000 in
theorem keyAt_t (l : List Ky) (k : Ky) (r : Nat) (hp : Plc l k r) (hl : l.length ≤ 1000000) : Triple Go.Proofs.Try.prog 20 [.r (keys l), k.av] [] (.tup [int .i64 r, bl (decide (l[r]? = some k))]) [] := by
  refine apiaryref21_KeyAt_triple rfl (by decide) ?_
  simp only [apiaryref21_KeyAt_pc, keys, Ky.av, Ky.rv, List.length_nil, List.length_map, push_cast, ↓reduceIte, reduceCtorEq, Nat.reduceBEq, Nat.reduceEqDiff, Nat.reduceAdd, Nat.reduceSub, Nat.reduceLT, Nat.reduceLeDiff, Nat.reduceMul]
  have hple := hp.le
  refine run_loop [(0, false), (3, false), (6, false), (7, false)] (fun vs pos los => ∃ (lo hi : Nat), lo ≤ r ∧ r ≤ hi ∧ hi ≤ l.length ∧ vs = [.r (keys l), .ptr 2000000 0 0, int .i64 lo, int .i64 hi] ∧ pos = [] ∧ los = [.box k.cs])
      (fun vs _ _ => match vs with | [_, _, .r (.v (.int _ a)), .r (.v (.int _ b))] => (b - a).toNat | _ => 0) rfl ?_ ?_
  · simp only [keys, Ky.cs, push_cast, ↓reduceIte, reduceCtorEq, Nat.reduceBEq, Nat.reduceEqDiff, Nat.reduceAdd, Nat.reduceSub, Nat.reduceLT, Nat.reduceLeDiff, Nat.reduceMul]
    exact ⟨0, l.length, by omega, hp.le, by omega, by simp⟩
  · rintro vs pos los ⟨lo, hi, h1, h2, h3, rfl, rfl, rfl⟩
    simp only [keys, Ky.cs, List.length_map, push_cast, ↓reduceIte, reduceCtorEq, Nat.reduceBEq, Nat.reduceEqDiff, Nat.reduceAdd, Nat.reduceSub, Nat.reduceLT, Nat.reduceLeDiff, Nat.reduceMul]
    refine cnd_mk (fun h => ?_) (fun h => ?_)
    · have h' : lo < hi := by simpa using h
      obtain ⟨m, hm⟩ : ∃ m, (lo + hi) / 2 = m := ⟨_, rfl⟩
      obtain ⟨q, hq⟩ : ∃ q, l[m]? = some q := ⟨l[m]'(by omega), by simp [show m < l.length by omega]⟩
      have e1 : IntKind.i64.wrap ((lo : Int) + (hi : Int)) = (lo : Int) + (hi : Int) := wrap_id ⟨by omega, by omega⟩
      have e2 : ((lo : Int) + (hi : Int)).tdiv 2 = (m : Int) := by rw [Int.tdiv_eq_ediv_of_nonneg (by omega)]; omega
      have e3 : IntKind.i64.wrap (m : Int) = (m : Int) := wrap_id ⟨by omega, by omega⟩
      have e4 : IntKind.i64.wrap ((m : Int) + 1) = (m : Int) + 1 := wrap_id ⟨by omega, by omega⟩
      simp only [keys, Ky.cs, List.length_map, e1, e2, e3, e4, keys_get hq, push_cast, ↓reduceIte, reduceCtorEq, Nat.reduceBEq, Nat.reduceEqDiff, Nat.reduceAdd, Nat.reduceSub, Nat.reduceLT, Nat.reduceLeDiff, Nat.reduceMul]
      repeat refine And.intro (by first | omega | decide) ?_
      refine dcall_mk (keyLess_t q k) rfl trivial ?_
      simp only [e1, e2, e3, e4, push_cast, ↓reduceIte, reduceCtorEq, Nat.reduceBEq, Nat.reduceEqDiff, Nat.reduceAdd, Nat.reduceSub, Nat.reduceLT, Nat.reduceLeDiff, Nat.reduceMul]
      refine ⟨by kernel_rfl, ?_⟩
      refine cnd_mk (fun h5 => ?_) (fun h5 => ?_)
      · have : m < r := Nat.lt_of_not_le fun hle => by rw [hp.hi m q hle hq] at h5; cases h5
        simp only [e4, push_cast, ↓reduceIte, reduceCtorEq, Nat.reduceBEq, Nat.reduceEqDiff, Nat.reduceAdd, Nat.reduceSub, Nat.reduceLT, Nat.reduceLeDiff, Nat.reduceMul]
        exact ⟨⟨m + 1, hi, by omega, h2, h3, by simp⟩, by omega⟩
      · have : r ≤ m := Nat.le_of_not_lt fun hlt => by rw [hp.lo m q hlt hq] at h5; cases h5
        simp only [e4, push_cast, ↓reduceIte, reduceCtorEq, Nat.reduceBEq, Nat.reduceEqDiff, Nat.reduceAdd, Nat.reduceSub, Nat.reduceLT, Nat.reduceLeDiff, Nat.reduceMul]
        exact ⟨⟨lo, m, h1, by omega, by omega, by simp⟩, by omega⟩
    · have h' : lo = r := by simp at h; omega
      subst h'
      obtain ⟨q, hqd⟩ : ∃ q : Ky, q = (l[lo]?).getD ⟨0, 0, 0⟩ := ⟨_, rfl⟩
      have hg : (l.map Ky.rv).getD ((lo : Int)).toNat (.agg [.v (.int .u64 0), .v (.int .i64 0), .v (.int .i64 0)]) = .agg [.v (.int .u64 q.c), .v (.int .i64 q.v), .v (.int .i64 q.d)] := by
        rw [hqd]
        rcases hr : l[lo]? with _ | q0 <;> simp [List.getD, hr, Ky.rv]
      simp only [keys, Ky.cs, List.length_map, hg, push_cast, ↓reduceIte, reduceCtorEq, Nat.reduceBEq, Nat.reduceEqDiff, Nat.reduceAdd, Nat.reduceSub, Nat.reduceLT, Nat.reduceLeDiff, Nat.reduceMul]
      refine ⟨fun h => ⟨by omega, by simpa using h⟩, by kernel_rfl, ?_⟩
      congr 4
      rcases hr : l[lo]? with _ | q0
      · have : ¬ lo < l.length := fun h => by simp [h] at hr
        simp [this]
      · have h1 := (List.getElem?_eq_some_iff.1 hr).1
        have h2 : q = q0 := by rw [hqd, hr]; rfl
        subst h2
        simp [h1]
        cases q; cases k
        simp
        rfl
theorem kl_c {a b : Ky} (h : kl a b = true) : a.c ≤ b.c := by
  unfold kl at h
  split at h
  · simp at h; omega
  · rename_i h1; simp at h1; omega
/-- The last of a cell. -/
def lastO : Option Ky → Ky × Bool
  | some k => (k, true)
  | none => (⟨0, 0, 0⟩, false)
def lastS (L : List Ky) (c : Int) : Ky × Bool := lastO (L.filter fun k => decide (k.c = c)).getLast?
theorem filt_last {A B : List Ky} {c : Int} (hs : Srt (A ++ B)) (hA : ∀ x ∈ A, x.c ≤ c) (hB : ∀ x ∈ B, c < x.c) :
    ((A ++ B).filter fun k => decide (k.c = c)).getLast? = A.getLast?.bind fun k => if k.c = c then some k else none := by
  have h1 : B.filter (fun k => decide (k.c = c)) = [] := by
    rw [List.filter_eq_nil_iff]
    intro x hx
    have := hB x hx
    simp; omega
  rw [List.filter_append, h1, List.append_nil]
  rcases List.eq_nil_or_concat A with rfl | ⟨A', k, rfl⟩
  · rfl
  · rw [List.concat_eq_append] at *
    rw [List.getLast?_concat, List.filter_append]
    simp only [Option.bind_some]
    by_cases hk : k.c = c
    · rw [if_pos hk]
      simp [hk]
    · rw [if_neg hk]
      have h2 : (A' ++ [k]).filter (fun k => decide (k.c = c)) = [] := by
        rw [List.filter_eq_nil_iff]
        intro x hx
        have hkc := hA k (by simp)
        rcases List.mem_append.1 hx with q | q
        · have h3 := (List.pairwise_append.1 ((List.pairwise_append.1 hs).1)).2.2 x q k (by simp)
          have := kl_c h3
          simp; omega
        · simp at q; subst q; simp [hk]
      rw [List.filter_append] at h2
      rw [h2]
      rfl
def nc (c : Int) : List Ky → Bool
  | q :: _ => decide (c < q.c)
  | [] => true
set_option maxRecDepth 100000 in
theorem last_t {ns : List (List Ky)} (h : Good ns) (hn : ns.flatten.length ≤ 100000) (n c : Int) : Triple Go.Proofs.Try.prog 21 [.rp (tview ns n), int .u64 c] [] (.tup [(lastS ns.flatten c).1.av, bl (lastS ns.flatten c).2]) [] := by
  have hnl : ns.length ≤ 100000 := by have := Good.len fun l hl => (h.ne l hl).1; omega
  have hml : ns.length ≤ maxLen := by simp only [maxLen]; omega
  obtain ⟨r, hr⟩ : ∃ r, ns.findIdx (nc c) = r := ⟨_, rfl⟩
  have hrl : r ≤ ns.length := by rw [← hr]; exact List.findIdx_le_length
  have hat : ∀ i (hi : i < ns.length), ∃ q x, ns[i]? = some (q :: x) ∧ (q :: x).length ≤ 32 := fun i hi => by
    have hx := h.ne ns[i] (List.getElem_mem hi)
    rcases hq : ns[i] with _ | ⟨q, x⟩
    · exact absurd hq hx.1
    · rw [hq] at hx
      exact ⟨q, x, by simp [hi, hq], hx.2⟩
  have hlo : ∀ i q x, i < r → ns[i]? = some (q :: x) → q.c ≤ c := fun i q x hi hx => by
    obtain ⟨h1, h2⟩ := List.getElem?_eq_some_iff.1 hx
    have := List.not_of_lt_findIdx (p := nc c) (xs := ns) (i := i) (by rw [hr]; exact hi)
    rw [h2] at this
    simpa [nc] using this
  have hhi : ∀ i q x, r ≤ i → ns[i]? = some (q :: x) → c < q.c := fun i q x hi hx => by
    obtain ⟨h1, h2⟩ := List.getElem?_eq_some_iff.1 hx
    have hs : r < ns.length := by omega
    have h0 : nc c ns[ns.findIdx (nc c)] = true := List.findIdx_getElem (w := by rw [hr]; exact hs)
    obtain ⟨q0, x0, hx0, _⟩ := hat r hs
    have e0 : ns[ns.findIdx (nc c)]'(by rw [hr]; exact hs) = q0 :: x0 := by
      have := (List.getElem?_eq_some_iff.1 hx0).2
      subst hr
      exact this
    rw [e0] at h0
    have h0c : c < q0.c := by simpa [nc] using h0
    rcases Nat.eq_or_lt_of_le hi with e | e
    · subst e
      rw [hx0] at hx
      cases hx
      exact h0c
    · have := kl_c (h.apart e hx0 hx q0 (by simp) q (by simp))
      omega
  refine tree_Tree_Last_triple rfl (by decide) ?_
  have hS := search_t 29 [.rp (tview ns n)] [int .u64 c] rfl rfl rfl (fun i => match ns[i]? with | some (q :: _) => decide (c < q.c) | _ => true) ns.length r hml hrl (fun i hi => by
    obtain ⟨q, x, h1, _⟩ := hat i (by omega)
    have := hlo i q x hi h1
    simp only [h1]; simpa using this) (fun i hi hi2 => by
    obtain ⟨q, x, h1, _⟩ := hat i hi2
    have := hhi i q x hi h1
    simp only [h1]; simpa using this) (fun i hi => by
    obtain ⟨q, x, h1, h2⟩ := hat i hi
    simp only [h1]
    exact last1_t ns n c q x i hi h1 hml (by simp only [maxLen]; omega))
  have er : IntKind.i64.wrap ((r : Int) - 1) = (r : Int) - 1 := wrap_id ⟨by omega, by omega⟩
  simp only [tree_Tree_Last_pc, tview, List.length_nil, List.length_map, push_cast, ↓reduceIte, reduceCtorEq, Nat.reduceBEq, Nat.reduceEqDiff, Nat.reduceAdd, Nat.reduceSub, Nat.reduceLT, Nat.reduceLeDiff, Nat.reduceMul]
  refine call_mk hS rfl ⟨rfl, rfl, trivial⟩ ?_
  simp only [tview, List.length_map, er, push_cast, ↓reduceIte, reduceCtorEq, Nat.reduceBEq, Nat.reduceEqDiff, Nat.reduceAdd, Nat.reduceSub, Nat.reduceLT, Nat.reduceLeDiff, Nat.reduceMul]
  refine cnd_mk (fun h1 => ?_) (fun h1 => ?_)
  · have hr0 : r = 0 := by simp at h1; omega
    subst hr0
    have hall : ∀ x ∈ ns.flatten, c < x.c := fun x hx => by
      obtain ⟨l, hl, hxl⟩ := List.mem_flatten.1 hx
      obtain ⟨i, hi⟩ := List.mem_iff_getElem?.1 hl
      obtain ⟨q, y, h2, _⟩ := hat i (List.getElem?_eq_some_iff.1 hi).1
      rw [hi] at h2
      cases h2
      have h3 := hhi i q y (by omega) hi
      rcases List.mem_cons.1 hxl with rfl | q2
      · exact h3
      · have := kl_c (List.rel_of_pairwise_cons (h.node hi) q2)
        omega
    have hls : lastS ns.flatten c = (⟨0, 0, 0⟩, false) := by
      have := filt_last (A := []) (B := ns.flatten) (c := c) h.so (by simp) hall
      unfold lastS
      rw [List.nil_append] at this
      rw [this]
      rfl
    simp only [tview, hls, push_cast, ↓reduceIte, reduceCtorEq, Nat.reduceBEq, Nat.reduceEqDiff, Nat.reduceAdd, Nat.reduceSub, Nat.reduceLT, Nat.reduceLeDiff, Nat.reduceMul]
    rfl
  · have hr0 : 0 < r := by simp at h1; omega
    obtain ⟨a, rfl⟩ : ∃ a, r = a + 1 := ⟨r - 1, by omega⟩
    have era : ((a : Int) + 1 - 1) = (a : Int) := by omega
    obtain ⟨q, x, hx, hxl⟩ := hat a (by omega)
    have hqc := hlo a q x (by omega) hx
    obtain ⟨l, hl⟩ : ∃ l, q :: x = l := ⟨_, rfl⟩
    rw [hl] at hx hxl
    have hls := h.node hx
    have hl0 : 0 < l.length := by rw [← hl]; simp
    have hlq : l[0]? = some q := by rw [← hl]; rfl
    obtain ⟨r2, hr2⟩ : ∃ r2, l.findIdx (fun k => decide (c < k.c)) = r2 := ⟨_, rfl⟩
    have hr2l : r2 ≤ l.length := by rw [← hr2]; exact List.findIdx_le_length
    have glo : ∀ i k, i < r2 → l[i]? = some k → k.c ≤ c := fun i k hi hk => by
      obtain ⟨h1, h2⟩ := List.getElem?_eq_some_iff.1 hk
      have := List.not_of_lt_findIdx (p := fun k : Ky => decide (c < k.c)) (xs := l) (i := i) (by rw [hr2]; exact hi)
      rw [h2] at this
      simpa using this
    have ghi : ∀ i k, r2 ≤ i → l[i]? = some k → c < k.c := fun i k hi hk => by
      obtain ⟨h1, h2⟩ := List.getElem?_eq_some_iff.1 hk
      have hs : r2 < l.length := by omega
      have h0 : decide (c < (l[l.findIdx (fun k => decide (c < k.c))]'(by rw [hr2]; exact hs)).c) = true := List.findIdx_getElem (w := by rw [hr2]; exact hs)
      have h0c : c < (l[r2]'hs).c := by subst hr2; simpa using h0
      rcases Nat.eq_or_lt_of_le hi with e | e
      · subst e
        rw [h2] at h0c
        exact h0c
      · have := kl_c (srt_lt hls e (List.getElem?_eq_getElem hs) hk)
        omega
    have hr20 : 0 < r2 := by
      rcases Nat.eq_zero_or_pos r2 with e | e
      · have := ghi 0 q (by omega) hlq; omega
      · exact e
    have hml2 : l.length ≤ maxLen := by simp only [maxLen]; omega
    have hS2 := search_t 30 [.r (keys l)] [int .u64 c] rfl rfl rfl (fun i => match l[i]? with | some k => decide (c < k.c) | _ => true) l.length r2 hml2 hr2l (fun i hi => by
      obtain ⟨k, hk⟩ : ∃ k, l[i]? = some k := ⟨l[i]'(by omega), by simp [show i < l.length by omega]⟩
      have := glo i k hi hk
      simp only [hk]; simpa using this) (fun i hi hi2 => by
      obtain ⟨k, hk⟩ : ∃ k, l[i]? = some k := ⟨l[i]'(by omega), by simp [show i < l.length by omega]⟩
      have := ghi i k hi hk
      simp only [hk]; simpa using this) (fun i hi => by
      obtain ⟨k, hk⟩ : ∃ k, l[i]? = some k := ⟨l[i]'(by omega), by simp [show i < l.length by omega]⟩
      simp only [hk]
      exact last2_t l c k i hi hk hml2)
    obtain ⟨b, rfl⟩ : ∃ b, r2 = b + 1 := ⟨r2 - 1, by omega⟩
    have erb : ((b : Int) + 1 - 1) = (b : Int) := by omega
    have erb2 : IntKind.i64.wrap ((b : Int) + 1 - 1) = (b : Int) := by rw [erb, wrap_id ⟨by omega, by omega⟩]
    obtain ⟨k, hk⟩ : ∃ k, l[b]? = some k := ⟨l[b]'(by omega), by simp [show b < l.length by omega]⟩
    have hkc := glo b k (by omega) hk
    have hal : ns.flatten = ((ns.take a).flatten ++ l.take (b + 1)) ++ (l.drop (b + 1) ++ (ns.drop (a + 1)).flatten) := by
      have e1 : ns = ns.take a ++ l :: ns.drop (a + 1) := by
        have h9 : ns[a]'(by omega) = l := (List.getElem?_eq_some_iff.1 hx).2
        rw [← h9, List.getElem_cons_drop, List.take_append_drop]
      conv => lhs; rw [e1]
      rw [List.flatten_append, List.flatten_cons, List.append_assoc, ← List.append_assoc (l.take (b + 1)), List.take_append_drop]
    have hso := h.so
    rw [hal] at hso
    have hlast : ((ns.take a).flatten ++ l.take (b + 1)).getLast? = some k := by
      rw [take_snoc hk, ← List.append_assoc, List.getLast?_concat]
    have hfl := filt_last (c := c) hso (fun y hy => by
      rcases List.mem_append.1 hy with p1 | p1
      · have := kl_c ((List.pairwise_append.1 ((List.pairwise_append.1 hso).1)).2.2 y p1 k (by rw [take_snoc hk]; simp))
        omega
      · obtain ⟨j, hj⟩ := List.mem_iff_getElem?.1 p1
        rw [List.getElem?_take] at hj
        split at hj
        · rename_i hjb; exact glo j y hjb hj
        · cases hj) (fun y hy => by
      rcases List.mem_append.1 hy with p1 | p1
      · obtain ⟨j, hj⟩ := List.mem_iff_getElem?.1 p1
        rw [List.getElem?_drop] at hj
        exact ghi _ y (by omega) hj
      · obtain ⟨m, hm, hym⟩ := List.mem_flatten.1 p1
        obtain ⟨j, hj⟩ := List.mem_iff_getElem?.1 hm
        rw [List.getElem?_drop] at hj
        obtain ⟨q3, x3, h3, _⟩ := hat (a + 1 + j) (List.getElem?_eq_some_iff.1 hj).1
        rw [hj] at h3
        cases h3
        have h4 := hhi _ q3 x3 (by omega) hj
        rcases List.mem_cons.1 hym with rfl | p2
        · exact h4
        · have := kl_c (List.rel_of_pairwise_cons (h.node hj) p2)
          omega)
    rw [← hal, hlast, Option.bind_some] at hfl
    have hLS : lastS ns.flatten c = if k.c = c then (k, true) else (⟨0, 0, 0⟩, false) := by
      unfold lastS
      rw [hfl]
      split <;> rfl
    have hg : (ns.map keys).getD ((a : Int)).toNat (.sl 3 []) = .sl 3 (l.map Ky.rv) := by simp [List.getD, hx, keys]
    clear hal hso hlast hfl
    rw [hLS]
    simp only [era, erb2, tview, List.length_map, hg, keys, push_cast, ↓reduceIte, reduceCtorEq, Nat.reduceBEq, Nat.reduceEqDiff, Nat.reduceAdd, Nat.reduceSub, Nat.reduceLT, Nat.reduceLeDiff, Nat.reduceMul]
    refine And.intro ⟨by omega, by omega⟩ ?_
    refine call_mk hS2 rfl ⟨rfl, rfl, trivial⟩ ?_
    have hb0 : decide ((b : Int) < 0) = false := by simp
    simp only [era, erb2, hb0, tview, List.length_map, keys_get hk, keys, push_cast, ↓reduceIte, reduceCtorEq, Nat.reduceBEq, Nat.reduceEqDiff, Nat.reduceAdd, Nat.reduceSub, Nat.reduceLT, Nat.reduceLeDiff, Nat.reduceMul]
    refine ⟨⟨by omega, by omega⟩, by kernel_rfl, ?_⟩
    refine cnd_mk (fun h5 => ?_) (fun h5 => ?_)
    · have hne : ¬ k.c = c := by simpa using h5
      rw [if_neg hne]
      simp only [push_cast, ↓reduceIte, reduceCtorEq, Nat.reduceBEq, Nat.reduceEqDiff, Nat.reduceAdd, Nat.reduceSub, Nat.reduceLT, Nat.reduceLeDiff, Nat.reduceMul]
      rfl
    · have he : k.c = c := by simpa using h5
      rw [if_pos he]
      simp only [keys_get hk, List.length_map, push_cast, ↓reduceIte, reduceCtorEq, Nat.reduceBEq, Nat.reduceEqDiff, Nat.reduceAdd, Nat.reduceSub, Nat.reduceLT, Nat.reduceLeDiff, Nat.reduceMul]
      refine ⟨⟨by omega, by omega⟩, ?_⟩
      rfl
theorem lastP {ns : List (List Ky)} (h : Good ns) (hn : ns.flatten.length ≤ 100000) (c : Int) : Triple Go.Proofs.Try.prog 21 [.ptr 1000000 0 0, int .u64 c] [.abs (tr ns)] (.tup [(lastS ns.flatten c).1.av, bl (lastS ns.flatten c).2]) [.abs (tr ns)] :=
  view0 (T := tr ns) (last_t h hn _ c) rfl rfl (by simp [Flat, Flats, FlatR, FlatRs, Ky.av, Ky.rv])
end Go.Ev
namespace Go.Ev
open Go
set_option linter.unusedSimpArgs false
set_option linter.unusedVariables false
/-- A call of a script. -/
structure Opk where
  kind : Int
  key : Ky
def Opk.rv (o : Opk) : RV := .agg [.v (.int .i64 o.kind), .v (.int .u64 o.key.c), .v (.int .i64 o.key.v), .v (.int .i64 o.key.d)]
def ops (l : List Opk) : RV := .sl 4 (l.map Opk.rv)
theorem ops_get {l : List Opk} {i : Nat} {o : Opk} (h : l[i]? = some o) : (l.map Opk.rv).getD ((i : Int)).toNat (.agg [.v (.int .i64 0), .v (.int .u64 0), .v (.int .i64 0), .v (.int .i64 0)]) = .agg [.v (.int .i64 o.kind), .v (.int .u64 o.key.c), .v (.int .i64 o.key.v), .v (.int .i64 o.key.d)] := by
  simp [List.getD, h, Opk.rv]
theorem plc_mem {L : List Ky} (h : Srt L) {k : Ky} {r : Nat} (hp : Plc L k r) : L[r]? = some k ↔ k ∈ L := by
  refine ⟨fun he => List.mem_of_getElem? he, fun hm => ?_⟩
  obtain ⟨j, hj⟩ := List.mem_iff_getElem?.1 hm
  rcases Nat.lt_trichotomy j r with h1 | h1 | h1
  · have := hp.lo j k h1 hj; rw [kl_irr] at this; cases this
  · exact h1 ▸ hj
  · have hjl := (List.getElem?_eq_some_iff.1 hj).1
    have hsl : L[r]? = some (L[r]'(by omega)) := by simp [show r < L.length by omega]
    have h2 := srt_lt h h1 hsl hj
    rw [hp.hi r _ (Nat.le_refl _) hsl] at h2
    cases h2
theorem plc_lo {L : List Ky} {k : Ky} {r : Nat} (hp : Plc L k r) : ∀ x ∈ L.take r, kl x k = true := fun x hx => by
  obtain ⟨j, hj⟩ := List.mem_iff_getElem?.1 hx
  rw [List.getElem?_take] at hj
  split at hj
  · rename_i h1; exact hp.lo j x h1 hj
  · cases hj
theorem plc_hi {L : List Ky} (h : Srt L) {k : Ky} {r : Nat} (hp : Plc L k r) (hk : k ∉ L) : ∀ x ∈ L.drop r, kl k x = true := fun x hx => by
  obtain ⟨j, hj⟩ := List.mem_iff_getElem?.1 hx
  rw [List.getElem?_drop] at hj
  have h1 := hp.hi (r + j) x (by omega) hj
  rcases kl_le h1 with rfl | h2
  · exact absurd (List.mem_of_getElem? hj) hk
  · exact h2
/-- Put in at its place: the same as the tree. -/
theorem ins_eq {L M : List Ky} (h : Srt L) (hM : Srt M) {k : Ky} {r : Nat} (hp : Plc L k r) (hk : k ∉ L) (hm : ∀ x, x ∈ M ↔ x = k ∨ x ∈ L) : L.take r ++ k :: L.drop r = M := by
  refine srt_ext ?_ hM fun x => ?_
  · rw [Srt, List.pairwise_append]
    have hs := h
    rw [Srt, ← List.take_append_drop r L, List.pairwise_append] at hs
    refine ⟨hs.1, List.pairwise_cons.2 ⟨plc_hi h hp hk, hs.2.1⟩, fun a ha b hb => ?_⟩
    rcases List.mem_cons.1 hb with rfl | hb
    · exact plc_lo hp a ha
    · exact hs.2.2 a ha b hb
  · rw [hm]
    conv => rhs; rw [← List.take_append_drop r L]
    simp only [List.mem_append, List.mem_cons]
    constructor
    · rintro (q | q | q) <;> simp [q]
    · rintro (q | q | q) <;> simp [q]
theorem del_eq {L M : List Ky} (h : Srt L) (hM : Srt M) {k : Ky} {r : Nat} (hk : L[r]? = some k) (hm : ∀ x, x ∈ M ↔ x ≠ k ∧ x ∈ L) : L.take r ++ L.drop (r + 1) = M := by
  have hr := (List.getElem?_eq_some_iff.1 hk).1
  have e : L = L.take r ++ k :: L.drop (r + 1) := by
    have : L[r] = k := (List.getElem?_eq_some_iff.1 hk).2
    conv => lhs; rw [← List.take_append_drop r L, ← List.getElem_cons_drop hr, this]
  have hnd := h.nodup
  refine srt_ext ?_ hM fun x => ?_
  · refine h.sublist ?_
    conv => rhs; rw [e]
    exact List.Sublist.append_left (List.sublist_cons_self _ _) _
  · rw [hm]
    have hnk : k ∉ L.take r ++ L.drop (r + 1) := by
      have hp : L.Perm (k :: (L.take r ++ L.drop (r + 1))) := by
        conv => lhs; rw [e]
        exact List.perm_middle
      exact (List.nodup_cons.1 (hp.nodup_iff.1 hnd)).1
    constructor
    · intro q
      refine ⟨fun e2 => hnk (e2 ▸ q), ?_⟩
      rcases List.mem_append.1 q with q | q
      · exact List.mem_of_mem_take q
      · exact List.mem_of_mem_drop q
    · rintro ⟨n1, q⟩
      rw [e] at q
      simp only [List.mem_append, List.mem_cons] at q ⊢
      rcases q with q | q | q
      · exact .inl q
      · exact absurd q n1
      · exact .inr q
/-- The row: room at the end, moved up, and written. -/
theorem row_ins {M : List RV} {z x : RV} {r : Nat} (h : r ≤ M.length) :
    (splice (M ++ [z]) (r + 1) ((((M ++ [z]).drop r).take (M.length + 1 - r)).take (M.length + 1 - (r + 1)))).set r x = M.take r ++ x :: M.drop r := by
  have e1 : (((M ++ [z]).drop r).take (M.length + 1 - r)).take (M.length + 1 - (r + 1)) = M.drop r := by
    rw [List.take_take, Nat.min_eq_left (by omega), List.drop_append_of_le_length h, List.take_append_of_le_length (by rw [List.length_drop]; omega), List.take_of_length_le (by rw [List.length_drop]; omega)]
  rw [e1]
  apply List.ext_getElem?
  intro j
  have hl : (M ++ [z]).length = M.length + 1 := by simp
  have hd : (M.drop r).length = M.length - r := by simp
  rw [List.getElem?_set, splice_length (by rw [hl, hd]; omega), hl, splice_at (by rw [hl, hd]; omega), hd, List.getElem?_append (l₁ := M.take r)]
  have ht : (M.take r).length = r := by simp; omega
  rw [ht]
  by_cases h1 : r = j
  · subst h1
    rw [if_pos rfl, if_pos (by omega), if_neg (by omega)]
    simp
  · rw [if_neg h1]
    by_cases h2 : j < r
    · rw [if_neg (by omega), if_pos h2, List.getElem?_append_left (by omega), List.getElem?_take, if_pos h2]
    · rw [if_neg h2]
      obtain ⟨m, rfl⟩ : ∃ m, j = r + 1 + m := ⟨j - (r + 1), by omega⟩
      rw [show r + 1 + m - r = m + 1 by omega, List.getElem?_cons_succ]
      by_cases h3 : r + 1 + m < r + 1 + (M.length - r)
      · rw [if_pos ⟨by omega, h3⟩, show r + 1 + m - (r + 1) = m by omega]
      · rw [if_neg (by omega), List.getElem?_eq_none (by rw [hl]; omega), List.getElem?_eq_none (by rw [hd]; omega)]
theorem row_ins2 {M : List RV} (z : RV) {r n : Nat} (hn : M.length = n) (h : r ≤ n) :
    ∃ W, spl (M ++ [z]) (0 + ((r : Int) + 1).toNat) (List.take ((n : Int) + 1 - ((r : Int) + 1)).toNat (List.take ((n : Int) + 1 - (r : Int)).toNat (List.drop (0 + ((r : Int)).toNat) (M ++ [z])))) = W ∧
      W.length = n + 1 ∧ (∀ x, W.set r x = M.take r ++ x :: M.drop r) ∧ W[r]? = (M ++ [z])[r]? := by
  refine ⟨_, rfl, ?_⟩
  subst hn
  have e1 : 0 + ((r : Int) + 1).toNat = r + 1 := by omega
  have e2 : ((M.length : Int) + 1 - ((r : Int) + 1)).toNat = M.length + 1 - (r + 1) := by omega
  have e3 : ((M.length : Int) + 1 - (r : Int)).toNat = M.length + 1 - r := by omega
  have e4 : 0 + ((r : Int)).toNat = r := by omega
  rw [e1, e2, e3, e4]
  unfold spl
  have hl : (M ++ [z]).length = M.length + 1 := by simp
  have hfit : r + 1 + (List.take (M.length + 1 - (r + 1)) (List.take (M.length + 1 - r) (List.drop r (M ++ [z])))).length ≤ (M ++ [z]).length := by
    rw [List.length_take, List.length_take, List.length_drop, hl]
    omega
  refine ⟨by rw [splice_length hfit, hl], fun x => row_ins h, ?_⟩
  rw [splice_at hfit, if_neg (by omega)]
theorem row_ins3 (L : List Ky) {r : Nat} (h : r ≤ L.length) :
    ∃ (W : List RV) (g : Ky), spl (L.map Ky.rv ++ [.agg [.v (.int .u64 0), .v (.int .i64 0), .v (.int .i64 0)]]) (0 + ((r : Int) + 1).toNat) (List.take ((L.length : Int) + 1 - ((r : Int) + 1)).toNat (List.take ((L.length : Int) + 1 - (r : Int)).toNat (List.drop (0 + ((r : Int)).toNat) (L.map Ky.rv ++ [.agg [.v (.int .u64 0), .v (.int .i64 0), .v (.int .i64 0)]])))) = W ∧
      W.getD (0 + ((r : Int)).toNat) (.agg [.v (.int .u64 0), .v (.int .i64 0), .v (.int .i64 0)]) = .agg [.v (.int .u64 g.c), .v (.int .i64 g.v), .v (.int .i64 g.d)] ∧
      ∀ k : Ky, W.set (0 + ((r : Int)).toNat) (.agg [.v (.int .u64 k.c), .v (.int .i64 k.v), .v (.int .i64 k.d)]) = (L.take r ++ k :: L.drop r).map Ky.rv := by
  obtain ⟨W, hW, hWl, hWs, hWr⟩ := row_ins2 (M := L.map Ky.rv) kz (r := r) (n := L.length) (by simp) h
  obtain ⟨g, hg⟩ : ∃ g : Ky, W[r]? = some g.rv := by
    rw [hWr]
    by_cases hrl2 : r < L.length
    · exact ⟨L[r], by rw [List.getElem?_append_left (by simpa using hrl2)]; simp [hrl2]⟩
    · exact ⟨⟨0, 0, 0⟩, by rw [List.getElem?_append_right (by simp; omega)]; simp [show r - L.length = 0 by omega, kz, Ky.rv]⟩
  refine ⟨W, g, hW, by simp [List.getD, hg, Ky.rv], fun k => ?_⟩
  rw [show 0 + ((r : Int)).toNat = r by omega]
  have := hWs k.rv
  rw [List.map_append, List.map_cons, List.map_take, List.map_drop]
  exact this
theorem rk_plc {L : List Ky} {k : Ky} {r : Nat} (hp : Plc L k r) : rk L k = r := by
  unfold rk
  conv => lhs; rw [← List.take_append_drop r L]
  rw [List.countP_append]
  have e1 : (L.take r).countP (fun q => kl q k) = r := by
    rw [List.countP_eq_length.2 (plc_lo hp), List.length_take, Nat.min_eq_left hp.le]
  have e2 : (L.drop r).countP (fun q => kl q k) = 0 := List.countP_eq_zero.2 fun x hx => by
    obtain ⟨j, hj⟩ := List.mem_iff_getElem?.1 hx
    rw [List.getElem?_drop] at hj
    rw [hp.hi (r + j) x (by omega) hj]
    simp
  omega
def cel (L : List Ky) (c : Int) : List Ky := L.filter fun k => decide (k.c = c)
theorem cel_yes {L : List Ky} {j : Nat} {x : Ky} {c : Int} (h : L[j]? = some x) (hx : x.c = c) : cel (L.take (j + 1)) c = cel (L.take j) c ++ [x] := by
  unfold cel
  rw [take_snoc h, List.filter_append]
  simp [hx]
theorem cel_no {L : List Ky} {j : Nat} {x : Ky} {c : Int} (h : L[j]? = some x) (hx : ¬ x.c = c) : cel (L.take (j + 1)) c = cel (L.take j) c := by
  unfold cel
  rw [take_snoc h, List.filter_append]
  simp [hx]
theorem rng_yes {L : List Ky} {j : Nat} {x a b : Ky} (h : L[j]? = some x) (h1 : kl x a = false) (h2 : kl b x = false) : rng (L.take (j + 1)) a b = rng (L.take j) a b ++ [x] := by
  unfold rng
  rw [take_snoc h, List.filter_append]
  simp [h1, h2]
theorem rng_no1 {L : List Ky} {j : Nat} {x a b : Ky} (h : L[j]? = some x) (h1 : kl x a = true) : rng (L.take (j + 1)) a b = rng (L.take j) a b := by
  unfold rng
  rw [take_snoc h, List.filter_append]
  simp [h1]
theorem rng_no2 {L : List Ky} {j : Nat} {x a b : Ky} (h : L[j]? = some x) (h1 : kl b x = true) : rng (L.take (j + 1)) a b = rng (L.take j) a b := by
  unfold rng
  rw [take_snoc h, List.filter_append]
  simp [h1]
/-- The first of a cell, among keys that may be. -/
theorem firstS_eq {ns : List (List Ky)} (h : Good ns) (hw : ∀ x ∈ ns.flatten, x.Wf) (c : Int) : firstS ns c = lastO (ns.flatten.filter fun k => decide (k.c = c)).head? := by
  unfold firstS
  have hpr : ∀ x ∈ ns.flatten, (!kl x ⟨c, -9223372036854775808, -9223372036854775808⟩) = decide (c ≤ x.c) := fun x hx => by
    obtain ⟨c0, c1, v0, v1, d0, d1⟩ := hw x hx
    unfold kl
    rw [Bool.eq_iff_iff]
    split
    · simp only [Bool.not_eq_true', decide_eq_false_iff_not, decide_eq_true_eq]; omega
    · split
      · simp at *; omega
      · simp at *; omega
  have hfind : ns.flatten.find? (fun k => !kl k ⟨c, -9223372036854775808, -9223372036854775808⟩) = ns.flatten.find? fun k => decide (c ≤ k.c) := by
    have hso := h.so
    generalize ns.flatten = L at hpr
    clear hso hw
    induction L with
    | nil => rfl
    | cons x L ih =>
      rw [List.find?_cons, List.find?_cons, hpr x (by simp), ih fun y hy => hpr y (by simp [hy])]
  rw [hfind]
  have hso := h.so
  generalize ns.flatten = L at hso
  clear hfind hpr hw
  induction L with
  | nil => rfl
  | cons x L ih =>
    have h1 := List.pairwise_cons.1 hso
    rw [List.find?_cons, List.filter_cons]
    by_cases hx : x.c = c
    · have : decide (c ≤ x.c) = true := by simp; omega
      rw [this, if_pos (by simpa using hx)]
      simp [fstO, lastO, hx]
    · rw [if_neg (by simpa using hx)]
      by_cases hx2 : c ≤ x.c
      · have : decide (c ≤ x.c) = true := by simpa using hx2
        rw [this]
        have hn : L.filter (fun k => decide (k.c = c)) = [] := by
          rw [List.filter_eq_nil_iff]
          intro y hy
          have := kl_c (h1.1 y hy)
          simp; omega
        rw [hn]
        simp [fstO, lastO, hx]
      · have : decide (c ≤ x.c) = false := by simp; omega
        rw [this]
        exact ih h1.2
end Go.Ev
