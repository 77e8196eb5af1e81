import Derived.Test.YtpjimnjfjopedaaTrT
namespace Go.Ev
open Go
set_option linter.unnecessarySimpa false
set_option linter.unusedSimpArgs false
set_option linter.unusedVariables false
noncomputable def tree_Tree_from_pc : PC :=
  (.seq (.reg [⟨(some 4), none, 0, .act (.box (.t 1))⟩])
  (.seq (.seq (.reg [⟨(some 9), none, 0, .see (.mov (.t 0))⟩,
    ⟨(some 10), none, 0, .see (.nck (.t 9))⟩,
    ⟨(some 11), none, 0, .see (.fa 0 (.t 10))⟩,
    ⟨(some 12), none, 0, .see (.ld none (.t 11))⟩,
    ⟨(some 13), none, 0, .see (.len false (.t 12))⟩,
    ⟨(some 14), none, 0, .see (.bin .eql (.t 13) (.c (.r (.v (.int .i64 0)))))⟩])
  (.cond (.t 14)
    .ret
    .skip))
  (.seq (.reg [⟨(some 15), none, 0, .see (.mov (.t 0))⟩,
    ⟨(some 16), none, 0, .see (.ld (some 3) (.t 4))⟩,
    ⟨(some 17), none, 1, .call 22 [(.t 15), (.t 16)]⟩,
    ⟨(some 6), none, 0, .see (.mov (.t 17))⟩])
  (.block 0 (.loop (.seq (.seq (.reg [⟨(some 18), none, 0, .see (.mov (.t 6))⟩,
    ⟨(some 19), none, 0, .see (.mov (.t 0))⟩,
    ⟨(some 20), none, 0, .see (.nck (.t 19))⟩,
    ⟨(some 21), none, 0, .see (.fa 0 (.t 20))⟩,
    ⟨(some 22), none, 0, .see (.ld none (.t 21))⟩,
    ⟨(some 23), none, 0, .see (.len false (.t 22))⟩,
    ⟨(some 24), none, 0, .see (.bin .lss (.t 18) (.t 23))⟩])
  (.cond (.t 24)
    .skip
    (.exit 0)))
  (.seq (.block 1 (.seq (.reg [⟨(some 27), none, 0, .see (.mov (.t 0))⟩,
    ⟨(some 28), none, 0, .see (.nck (.t 27))⟩,
    ⟨(some 29), none, 0, .see (.fa 0 (.t 28))⟩,
    ⟨(some 30), none, 0, .see (.ld none (.t 29))⟩,
    ⟨(some 31), none, 0, .see (.mov (.t 6))⟩,
    ⟨(some 32), none, 0, .see (.ia 1 (.sl 3 []) (.t 30) (.t 31))⟩,
    ⟨(some 33), none, 0, .see (.ld none (.t 32))⟩,
    ⟨(some 34), none, 0, .see (.len false (.t 33))⟩,
    ⟨(some 35), none, 0, .see (.mov (.c (.r (.v (.int .i64 0)))))⟩])
  (.block 2 (.loop (.seq (.reg [⟨(some 36), none, 0, .see (.bin .lss (.t 35) (.t 34))⟩])
  (.seq (.cond (.t 36)
    .skip
    (.exit 2))
  (.seq (.block 3 (.seq (.reg [⟨(some 37), none, 0, .see (.ia 3 (.agg [(.v (.int .u64 0)), (.v (.int .i64 0)), (.v (.int .i64 0))]) (.t 33) (.t 35))⟩,
    ⟨(some 38), none, 0, .see (.ld (some 3) (.t 37))⟩,
    ⟨(some 8), none, 0, .act (.new [(.r (.v (.int .u64 0))), (.r (.v (.int .i64 0))), (.r (.v (.int .i64 0)))])⟩,
    ⟨none, none, 0, .act (.st 3 (.t 8) (.t 38))⟩])
  (.seq (.reg [⟨(some 39), none, 0, .see (.ld (some 3) (.t 8))⟩,
    ⟨(some 40), none, 0, .see (.ld (some 3) (.t 4))⟩,
    ⟨(some 41), none, 2, .call 8 [(.t 39), (.t 40)]⟩,
    ⟨(some 42), none, 0, .see (.un .not (.t 41))⟩,
    ⟨(some 43), none, 0, .see (.mov (.t 42))⟩,
    ⟨(some 44), (some (43, true)), 0, .see (.mov (.t 2))⟩,
    ⟨(some 45), (some (43, true)), 0, .see (.ld (some 3) (.t 8))⟩,
    ⟨(some 46), (some (43, true)), 3, .callv (.t 44) [(.t 45)]⟩,
    ⟨(some 47), (some (43, true)), 0, .see (.un .not (.t 46))⟩,
    ⟨(some 48), none, 0, .see (.pick (.t 43) (.t 47) (.c (.r (.v (.bool false)))))⟩])
  (.cond (.t 48)
    .ret
    .skip))))
  (.reg [⟨(some 49), none, 0, .see (.bin .add (.t 35) (.c (.r (.v (.int .i64 1)))))⟩,
    ⟨(some 35), none, 0, .see (.mov (.t 49))⟩]))))))))
  (.reg [⟨(some 25), none, 0, .see (.mov (.t 6))⟩,
    ⟨(some 26), none, 0, .see (.bin .add (.t 25) (.c (.r (.v (.int .i64 1)))))⟩,
    ⟨(some 6), none, 0, .see (.mov (.t 26))⟩]))))))))
noncomputable abbrev tree_Tree_from_code : Code := (Go.Proofs.Try.f25.body).getD .skip
theorem tree_Tree_from_chk : chkC Go.Proofs.Try.prog 50 tree_Tree_from_code tree_Tree_from_pc = true := by kernel_rfl
theorem tree_Tree_from_triple {args : List AV} {po ro : List Ob} {res : AV} (hal : args.length = 3) (hpo : po.length ≤ 1000)
    (h : run Go.Proofs.Try.prog po.length (RetP po.length [] fun v os => v = res ∧ os = ro) [.c tree_Tree_from_pc] ⟨argE 0 args, ob0 po⟩) : Triple Go.Proofs.Try.prog 25 args po res ro :=
  triple_of_W (fn := Go.Proofs.Try.f25) (c := tree_Tree_from_code) (pc := tree_Tree_from_pc) (rs := []) Go.Proofs.Try.func25 rfl (by decide) (by have := tree_Tree_from_chk; exact this) (by rw [hal]; decide) rfl (by kernel_rfl) (by kernel_rfl) (by decide) hpo (W_of_run h)

noncomputable def tree_Tree_First_1_pc : PC :=
  (.seq (.reg [⟨(some 4), none, 0, .act (.box (.t 0))⟩,
    ⟨(some 5), none, 0, .see (.mov (.c (.r (.v (.bool false)))))⟩])
  (.seq (.seq (.reg [⟨(some 6), none, 0, .see (.fa 0 (.t 4))⟩,
    ⟨(some 7), none, 0, .see (.ld none (.t 6))⟩,
    ⟨(some 8), none, 0, .see (.ld none (.t 1))⟩,
    ⟨(some 9), none, 0, .see (.bin .eql (.t 7) (.t 8))⟩])
  (.cond (.t 9)
    (.reg [⟨(some 10), none, 0, .see (.ld (some 3) (.t 4))⟩,
    ⟨none, none, 0, .act (.st 3 (.t 2) (.t 10))⟩,
    ⟨none, none, 0, .act (.st 1 (.t 3) (.c (.r (.v (.bool true)))))⟩])
    .skip))
  (.seq (.reg [⟨(some 5), none, 0, .see (.mov (.c (.r (.v (.bool false)))))⟩])
  .ret)))
noncomputable abbrev tree_Tree_First_1_code : Code := (Go.Proofs.Try.f27.body).getD .skip
theorem tree_Tree_First_1_chk : chkC Go.Proofs.Try.prog 11 tree_Tree_First_1_code tree_Tree_First_1_pc = true := by kernel_rfl
theorem tree_Tree_First_1_triple {args : List AV} {po ro : List Ob} {res : AV} (hal : args.length = 4) (hpo : po.length ≤ 1000)
    (h : run Go.Proofs.Try.prog po.length (RetP po.length [(5, false, none)] fun v os => v = res ∧ os = ro) [.c tree_Tree_First_1_pc] ⟨argE 0 args, ob0 po⟩) : Triple Go.Proofs.Try.prog 27 args po res ro :=
  triple_of_W (fn := Go.Proofs.Try.f27) (c := tree_Tree_First_1_code) (pc := tree_Tree_First_1_pc) (rs := [(5, false, none)]) Go.Proofs.Try.func27 rfl (by decide) (by have := tree_Tree_First_1_chk; exact this) (by rw [hal]; decide) rfl (by kernel_rfl) (by kernel_rfl) (by decide) hpo (W_of_run h)

noncomputable def tree_Tree_First_pc : PC :=
  (.seq (.reg [⟨(some 3), none, 0, .act (.box (.t 1))⟩,
    ⟨(some 4), none, 0, .act (.new [(.r (.v (.int .u64 0))), (.r (.v (.int .i64 0))), (.r (.v (.int .i64 0)))])⟩,
    ⟨(some 5), none, 0, .see (.mov (.c (.r (.v (.bool false)))))⟩])
  (.seq (.reg [⟨(some 6), none, 0, .act (.new [(.r (.v (.int .u64 0))), (.r (.v (.int .i64 0))), (.r (.v (.int .i64 0)))])⟩])
  (.seq (.reg [⟨(some 7), none, 0, .act (.new [(.r (.v (.bool false)))])⟩,
    ⟨none, none, 0, .act (.st 1 (.t 7) (.c (.r (.v (.bool false)))))⟩])
  (.seq (.reg [⟨(some 8), none, 0, .see (.mov (.t 0))⟩,
    ⟨(some 9), none, 0, .see (.ld none (.t 3))⟩,
    ⟨(some 10), none, 0, .see (.build [(.r (.v (.int .u64 0))), (.r (.v (.int .i64 0))), (.r (.v (.int .i64 0)))] [(0, 1, (.t 9)), (1, 1, (.c (.r (.v (.int .i64 (-9223372036854775808)))))), (2, 1, (.c (.r (.v (.int .i64 (-9223372036854775808))))))])⟩,
    ⟨(some 11), none, 0, .see (.mkf (.func 27) [(.t 3), (.t 6), (.t 7)])⟩,
    ⟨(some 12), none, 1, .call 25 [(.t 8), (.t 10), (.t 11)]⟩])
  (.seq (.drw [⟨(some 13), none, 0, .see (.ld (some 3) (.t 6))⟩,
    ⟨(some 14), none, 0, .see (.ld none (.t 7))⟩,
    ⟨none, none, 0, .act (.st 3 (.t 4) (.t 13))⟩,
    ⟨(some 5), none, 0, .see (.mov (.t 14))⟩]
    [[], [], [0], [0, 1, 2]])
  .ret)))))
noncomputable abbrev tree_Tree_First_code : Code := (Go.Proofs.Try.f19.body).getD .skip
theorem tree_Tree_First_chk : chkC Go.Proofs.Try.prog 15 tree_Tree_First_code tree_Tree_First_pc = true := by kernel_rfl
theorem tree_Tree_First_triple {args : List AV} {po ro : List Ob} {res : AV} (hal : args.length = 2) (hpo : po.length ≤ 1000)
    (h : run Go.Proofs.Try.prog po.length (RetP po.length [(4, false, some (24, (some 3))), (5, false, none)] fun v os => v = res ∧ os = ro) [.c tree_Tree_First_pc] ⟨argE 0 args, ob0 po⟩) : Triple Go.Proofs.Try.prog 19 args po res ro :=
  triple_of_W (fn := Go.Proofs.Try.f19) (c := tree_Tree_First_code) (pc := tree_Tree_First_pc) (rs := [(4, false, some (24, (some 3))), (5, false, none)]) Go.Proofs.Try.func19 rfl (by decide) (by have := tree_Tree_First_chk; exact this) (by rw [hal]; decide) rfl (by kernel_rfl) (by kernel_rfl) (by decide) hpo (W_of_run h)

def fstO (c : Int) (o : Ky × Bool) : Option Ky → Ky × Bool
  | some k => if k.c = c then (k, true) else o
  | none => o
def fst1 (c : Int) (k : Ky) (o : Ky × Bool) : Ky × Bool := if k.c = c then (k, true) else o
set_option maxRecDepth 100000 in
theorem first1_t (c : Int) (k : Ky) (o : Ky × Bool) : Triple Go.Proofs.Try.prog 27 [k.av, .ptr 1000000 0 0, .ptr 1000001 0 0, .ptr 1000002 0 0] [.box [int .u64 c], .box o.1.cs, .box [bl o.2]] (bl false) [.box [int .u64 c], .box (fst1 c k o).1.cs, .box [bl (fst1 c k o).2]] := by
  refine tree_Tree_First_1_triple rfl (by simp) ?_
  simp only [tree_Tree_First_1_pc, Ky.av, Ky.rv, Ky.cs, List.length_nil, push_cast, ↓reduceIte, reduceCtorEq, Nat.reduceBEq, Nat.reduceEqDiff, Nat.reduceAdd, Nat.reduceSub, Nat.reduceLT, Nat.reduceLeDiff, Nat.reduceMul]
  refine cnd_mk (fun h1 => ?_) (fun h1 => ?_)
  · have h1' : k.c = c := by simpa using h1
    simp only [fst1, h1', push_cast, ↓reduceIte, reduceCtorEq, Nat.reduceBEq, Nat.reduceEqDiff, Nat.reduceAdd, Nat.reduceSub, Nat.reduceLT, Nat.reduceLeDiff, Nat.reduceMul]
  · have h1' : ¬ k.c = c := by simpa using h1
    simp only [fst1, h1', push_cast, ↓reduceIte, reduceCtorEq, Nat.reduceBEq, Nat.reduceEqDiff, Nat.reduceAdd, Nat.reduceSub, Nat.reduceLT, Nat.reduceLeDiff, Nat.reduceMul]
set_option maxRecDepth 100000 in
theorem fromF_t (ns : List (List Ky)) (n : Int) (lo : Ky) (c : Int) (o : Ky × Bool) (r : Nat) (h : Nod ns lo r) (h0 : ns ≠ []) (F : Option Ky) (hF : (ns.drop (r - 1)).flatten.find? (fun k => !kl k lo) = F) (q : Ky × Bool) (hq : q = fstO c o F) :
    Triple Go.Proofs.Try.prog 25 [.rp (tview ns n), lo.av, .fn (.func 27) [.ptr 1000000 0 0, .ptr 1000001 0 0, .ptr 1000002 0 0] 0] [.box [int .u64 c], .box o.1.cs, .box [bl o.2]] (.tup [])
      [.box [int .u64 c], .box q.1.cs, .box [bl q.2]] := by
  refine tree_Tree_from_triple rfl (by simp) ?_
  have hne : ((ns.length : Int) == 0) = false := by simp [h0]
  simp only [tree_Tree_from_pc, tview, Ky.av, Ky.rv, Ky.cs, List.length_nil, List.length_map, hne, push_cast, ↓reduceIte, reduceCtorEq, Nat.reduceBEq, Nat.reduceEqDiff, Nat.reduceAdd, Nat.reduceSub, Nat.reduceLT, Nat.reduceLeDiff, Nat.reduceMul]
  refine call_mk (node_t ns n lo r h) rfl trivial ?_
  simp only [List.length_map, push_cast, ↓reduceIte, reduceCtorEq, Nat.reduceBEq, Nat.reduceEqDiff, Nat.reduceAdd, Nat.reduceSub, Nat.reduceLT, Nat.reduceLeDiff, Nat.reduceMul]
  refine run_loop [(0, false), (2, false), (4, false), (6, false)] (fun vs pos los => ∃ a : Nat, a ≤ ns.length ∧ (ns.drop a).flatten.find? (fun k => !kl k lo) = F ∧
      vs = [.rp (tview ns n), .fn (.func 27) [.ptr 1000000 0 0, .ptr 1000001 0 0, .ptr 1000002 0 0] 0, .ptr 2000000 0 0, int .i64 a] ∧ pos = [.box [int .u64 c], .box o.1.cs, .box [bl o.2]] ∧ los = [.box lo.cs])
    (fun vs _ _ => match vs with | [_, _, _, .r (.v (.int _ a))] => (ns.length - a).toNat | _ => 0) rfl ?_ ?_
  · simp only [tview, Ky.cs, push_cast, ↓reduceIte, reduceCtorEq, Nat.reduceBEq, Nat.reduceEqDiff, Nat.reduceAdd, Nat.reduceSub, Nat.reduceLT, Nat.reduceLeDiff, Nat.reduceMul]
    have := h.le
    exact ⟨r - 1, by omega, hF, by simp⟩
  · rintro vs pos los ⟨a, ha, hf, rfl, rfl, rfl⟩
    simp only [tview, Ky.cs, List.length_map, push_cast, ↓reduceIte, reduceCtorEq, Nat.reduceBEq, Nat.reduceEqDiff, Nat.reduceAdd, Nat.reduceSub, Nat.reduceLT, Nat.reduceLeDiff, Nat.reduceMul]
    refine cnd_mk (fun h1 => ?_) (fun h1 => ?_)
    · have h1' : a < ns.length := by simpa using h1
      obtain ⟨l, hl⟩ : ∃ l, ns[a]? = some l := ⟨ns[a], by simp [h1']⟩
      have hll := (h.ne a l hl).2
      have hd : ns.drop a = l :: ns.drop (a + 1) := by
        rw [List.drop_eq_getElem_cons h1', (List.getElem?_eq_some_iff.1 hl).2]
      rw [hd, List.flatten_cons] at hf
      have hg : (ns.map keys).getD ((a : Int)).toNat (.sl 3 []) = .sl 3 (l.map Ky.rv) := by simp [List.getD, hl, keys]
      simp only [tview, Ky.cs, List.length_map, hg, push_cast, ↓reduceIte, reduceCtorEq, Nat.reduceBEq, Nat.reduceEqDiff, Nat.reduceAdd, Nat.reduceSub, Nat.reduceLT, Nat.reduceLeDiff, Nat.reduceMul]
      refine And.intro ⟨by omega, by omega⟩ ?_
      refine run_loop [(0, false), (2, false), (4, false), (6, false), (33, false), (34, false), (35, false)] (fun vs pos los => ∃ j : Nat, j ≤ l.length ∧ (l.drop j ++ (ns.drop (a + 1)).flatten).find? (fun k => !kl k lo) = F ∧
          vs = [.rp (tview ns n), .fn (.func 27) [.ptr 1000000 0 0, .ptr 1000001 0 0, .ptr 1000002 0 0] 0, .ptr 2000000 0 0, int .i64 a, .r (keys l), int .i64 l.length, int .i64 j] ∧ pos = [.box [int .u64 c], .box o.1.cs, .box [bl o.2]] ∧ los = [.box lo.cs])
        (fun vs _ _ => match vs with | [_, _, _, _, _, _, .r (.v (.int _ a))] => (l.length - a).toNat | _ => 0) rfl ?_ ?_
      · simp only [tview, Ky.cs, keys, push_cast, ↓reduceIte, reduceCtorEq, Nat.reduceBEq, Nat.reduceEqDiff, Nat.reduceAdd, Nat.reduceSub, Nat.reduceLT, Nat.reduceLeDiff, Nat.reduceMul]
        exact ⟨0, by omega, hf, by simp⟩
      · rintro vs pos los ⟨j, hj, hf, rfl, rfl, rfl⟩
        simp only [tview, Ky.cs, keys, List.length_map, push_cast, ↓reduceIte, reduceCtorEq, Nat.reduceBEq, Nat.reduceEqDiff, Nat.reduceAdd, Nat.reduceSub, Nat.reduceLT, Nat.reduceLeDiff, Nat.reduceMul]
        refine cnd_mk (fun h2 => ?_) (fun h2 => ?_)
        · have h2' : j < l.length := by simpa using h2
          obtain ⟨k, hk⟩ : ∃ k, l[j]? = some k := ⟨l[j], by simp [h2']⟩
          have hkd : l.drop j = k :: l.drop (j + 1) := by
            rw [List.drop_eq_getElem_cons h2', (List.getElem?_eq_some_iff.1 hk).2]
          rw [hkd, List.cons_append, List.find?_cons] at hf
          have hg2 : (l.map Ky.rv).getD ((j : Int)).toNat (.agg [.v (.int .u64 0), .v (.int .i64 0), .v (.int .i64 0)]) = .agg [.v (.int .u64 k.c), .v (.int .i64 k.v), .v (.int .i64 k.d)] := by
            simp [List.getD, hk, Ky.rv]
          simp only [tview, Ky.cs, keys, List.length_map, hg2, push_cast, ↓reduceIte, reduceCtorEq, Nat.reduceBEq, Nat.reduceEqDiff, Nat.reduceAdd, Nat.reduceSub, Nat.reduceLT, Nat.reduceLeDiff, Nat.reduceMul]
          refine And.intro ⟨by omega, by omega⟩ (call_mk (less_t k lo) rfl trivial ?_)
          rcases hkl : kl k lo with _ | _
          · simp only [hkl, Bool.not_false] at hf
            have hfn : isFn Go.Proofs.Try.prog 27 = true := rfl
            simp only [tview, Ky.cs, keys, List.length_map, hg2, hfn, Bool.not_false, push_cast, ↓reduceIte, reduceCtorEq, Nat.reduceBEq, Nat.reduceEqDiff, Nat.reduceAdd, Nat.reduceSub, Nat.reduceLT, Nat.reduceLeDiff, Nat.reduceMul]
            refine call_mk (first1_t c k o) rfl ⟨rfl, rfl, rfl, trivial⟩ ?_
            simp only [tview, Ky.cs, keys, List.length_map, hg2, Bool.not_false, push_cast, ↓reduceIte, reduceCtorEq, Nat.reduceBEq, Nat.reduceEqDiff, Nat.reduceAdd, Nat.reduceSub, Nat.reduceLT, Nat.reduceLeDiff, Nat.reduceMul]
            have hq2 : q = fst1 c k o := by rw [hq, ← hf]; rfl
            rw [hq2]
          · simp only [hkl, Bool.not_true] at hf
            have hj1 : IntKind.i64.wrap ((j : Int) + 1) = (j : Int) + 1 := wrap_id ⟨by omega, by simp only [maxLen] at hll; omega⟩
            simp only [tview, Ky.cs, keys, List.length_map, hg2, Bool.not_true, hj1, push_cast, ↓reduceIte, reduceCtorEq, Nat.reduceBEq, Nat.reduceEqDiff, Nat.reduceAdd, Nat.reduceSub, Nat.reduceLT, Nat.reduceLeDiff, Nat.reduceMul]
            refine ⟨⟨j + 1, by omega, hf, by simp⟩, by omega⟩
        · have h2' : ¬ j < l.length := by simpa using h2
          rw [List.drop_eq_nil_of_le (by omega), List.nil_append] at hf
          have ha1 : IntKind.i64.wrap ((a : Int) + 1) = (a : Int) + 1 := wrap_id ⟨by omega, by have := h.len; simp only [maxLen] at this; omega⟩
          simp only [tview, Ky.cs, keys, List.length_map, ha1, push_cast, ↓reduceIte, reduceCtorEq, Nat.reduceBEq, Nat.reduceEqDiff, Nat.reduceAdd, Nat.reduceSub, Nat.reduceLT, Nat.reduceLeDiff, Nat.reduceMul]
          refine ⟨⟨a + 1, by omega, hf, by simp⟩, by omega⟩
    · have h1' : ¬ a < ns.length := by simpa using h1
      rw [List.drop_eq_nil_of_le (by omega)] at hf
      simp only [tview, Ky.cs, keys, List.length_map, push_cast, ↓reduceIte, reduceCtorEq, Nat.reduceBEq, Nat.reduceEqDiff, Nat.reduceAdd, Nat.reduceSub, Nat.reduceLT, Nat.reduceLeDiff, Nat.reduceMul]
      have hq2 : q = o := by rw [hq, ← hf]; rfl
      rw [hq2]
/-- The first of a cell. -/
def firstS (ns : List (List Ky)) (c : Int) : Ky × Bool := fstO c (⟨0, 0, 0⟩, false) (ns.flatten.find? fun k => !kl k ⟨c, -9223372036854775808, -9223372036854775808⟩)
set_option maxRecDepth 100000 in
theorem fromF0_t (n : Int) (lo : Ky) (c : Int) (o : Ky × Bool) :
    Triple Go.Proofs.Try.prog 25 [.rp (tview [] n), lo.av, .fn (.func 27) [.ptr 1000000 0 0, .ptr 1000001 0 0, .ptr 1000002 0 0] 0] [.box [int .u64 c], .box o.1.cs, .box [bl o.2]] (.tup [])
      [.box [int .u64 c], .box o.1.cs, .box [bl o.2]] := by
  refine tree_Tree_from_triple rfl (by simp) ?_
  simp only [tree_Tree_from_pc, tview, Ky.av, Ky.rv, Ky.cs, List.length_nil, List.map_nil, push_cast, ↓reduceIte, reduceCtorEq, Nat.reduceBEq, Nat.reduceEqDiff, Nat.reduceAdd, Nat.reduceSub, Nat.reduceLT, Nat.reduceLeDiff, Nat.reduceMul]
set_option maxRecDepth 100000 in
theorem first_t {ns : List (List Ky)} (h : Good ns) (hn : ns.flatten.length ≤ 100000) (n c : Int) : Triple Go.Proofs.Try.prog 19 [.rp (tview ns n), int .u64 c] [] (.tup [(firstS ns c).1.av, bl (firstS ns c).2]) [] := by
  refine tree_Tree_First_triple rfl (by decide) ?_
  simp only [tree_Tree_First_pc, List.length_nil, push_cast, ↓reduceIte, reduceCtorEq, Nat.reduceBEq, Nat.reduceEqDiff, Nat.reduceAdd, Nat.reduceSub, Nat.reduceLT, Nat.reduceLeDiff, Nat.reduceMul]
  have hq : Triple Go.Proofs.Try.prog 25 [.rp (tview ns n), Ky.av ⟨c, -9223372036854775808, -9223372036854775808⟩, .fn (.func 27) [.ptr 1000000 0 0, .ptr 1000001 0 0, .ptr 1000002 0 0] 0] [.box [int .u64 c], .box (Ky.cs ⟨0, 0, 0⟩), .box [bl false]] (.tup [])
      [.box [int .u64 c], .box (firstS ns c).1.cs, .box [bl (firstS ns c).2]] := by
    by_cases h0 : ns = []
    · subst h0
      exact fromF0_t n ⟨c, -9223372036854775808, -9223372036854775808⟩ c (⟨0, 0, 0⟩, false)
    · refine fromF_t ns n _ c (⟨0, 0, 0⟩, false) _ (nodeIx_ok h (by omega) _) h0 _ ?_ _ rfl
      obtain ⟨i, s, l, hs⟩ := spt h (by omega) ⟨c, -9223372036854775808, -9223372036854775808⟩ h0
      rw [hs.nx]
      have hd : ns.drop i = l :: ns.drop (i + 1) := by
        rw [List.drop_eq_getElem_cons hs.lt, (List.getElem?_eq_some_iff.1 hs.at_).2]
      rw [hs.all, List.find?_append, hd, List.flatten_cons]
      have : List.find? (fun k => !kl k ⟨c, -9223372036854775808, -9223372036854775808⟩) (List.take i ns).flatten = none := by
        rw [List.find?_eq_none]
        intro x hx
        simp [hs.ahead x hx]
      rw [this]
      rfl
  refine call_mk hq rfl ⟨rfl, rfl, rfl, trivial⟩ ?_
  simp only [Ky.cs, push_cast, ↓reduceIte, reduceCtorEq, Nat.reduceBEq, Nat.reduceEqDiff, Nat.reduceAdd, Nat.reduceSub, Nat.reduceLT, Nat.reduceLeDiff, Nat.reduceMul]
  exact ⟨by kernel_rfl, rfl⟩
end Go.Ev
