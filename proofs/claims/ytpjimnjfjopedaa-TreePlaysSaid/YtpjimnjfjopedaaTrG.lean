import Derived.Test.YtpjimnjfjopedaaTrR
namespace Go.Ev
open Go
set_option linter.unnecessarySimpa false
set_option linter.unusedSimpArgs false
set_option linter.unusedVariables false
noncomputable def tree_Tree_Range_1_pc : PC :=
  (.seq (.reg [⟨(some 3), none, 0, .act (.box (.t 0))⟩,
    ⟨(some 4), none, 0, .see (.mov (.c (.r (.v (.bool false)))))⟩])
  (.seq (.seq (.reg [⟨(some 5), none, 0, .see (.ld (some 3) (.t 1))⟩,
    ⟨(some 6), none, 0, .see (.ld (some 3) (.t 3))⟩,
    ⟨(some 7), none, 1, .call 8 [(.t 5), (.t 6)]⟩])
  (.cond (.t 7)
    (.seq (.reg [⟨(some 4), none, 0, .see (.mov (.c (.r (.v (.bool false)))))⟩])
    .ret)
    .skip))
  (.seq (.reg [⟨(some 8), none, 0, .see (.ld none (.t 2))⟩,
    ⟨(some 9), none, 0, .see (.ld (some 3) (.t 3))⟩,
    ⟨(some 10), none, 0, .act (.bsl 3 (.agg [(.v (.int .u64 0)), (.v (.int .i64 0)), (.v (.int .i64 0))]) [(.t 9)])⟩,
    ⟨(some 11), none, 0, .act (.app 3 (.agg [(.v (.int .u64 0)), (.v (.int .i64 0)), (.v (.int .i64 0))]) 24 (.t 8) (.t 10))⟩,
    ⟨none, none, 0, .act (.st 1 (.t 2) (.t 11))⟩])
  (.seq (.reg [⟨(some 4), none, 0, .see (.mov (.c (.r (.v (.bool true)))))⟩])
  .ret))))
noncomputable abbrev tree_Tree_Range_1_code : Code := (Go.Proofs.Try.f26.body).getD .skip
theorem tree_Tree_Range_1_chk : chkC Go.Proofs.Try.prog 12 tree_Tree_Range_1_code tree_Tree_Range_1_pc = true := by kernel_rfl
theorem tree_Tree_Range_1_triple {args : List AV} {po ro : List Ob} {res : AV} (hal : args.length = 3) (hpo : po.length ≤ 1000)
    (h : run Go.Proofs.Try.prog po.length (RetP po.length [(4, false, none)] fun v os => v = res ∧ os = ro) [.c tree_Tree_Range_1_pc] ⟨argE 0 args, ob0 po⟩) : Triple Go.Proofs.Try.prog 26 args po res ro :=
  triple_of_W (fn := Go.Proofs.Try.f26) (c := tree_Tree_Range_1_code) (pc := tree_Tree_Range_1_pc) (rs := [(4, false, none)]) Go.Proofs.Try.func26 rfl (by decide) (by have := tree_Tree_Range_1_chk; exact this) (by rw [hal]; decide) rfl (by kernel_rfl) (by kernel_rfl) (by decide) hpo (W_of_run h)

noncomputable def tree_Tree_Range_pc : PC :=
  (.seq (.reg [⟨(some 4), none, 0, .act (.box (.t 1))⟩,
    ⟨(some 5), none, 0, .act (.box (.t 2))⟩,
    ⟨(some 6), none, 0, .see (.mov (.c (.nils 3 (.agg [(.v (.int .u64 0)), (.v (.int .i64 0)), (.v (.int .i64 0))]))))⟩])
  (.seq (.reg [⟨(some 7), none, 0, .act (.new [(.nils 3 (.agg [(.v (.int .u64 0)), (.v (.int .i64 0)), (.v (.int .i64 0))]))])⟩])
  (.seq (.reg [⟨(some 8), none, 0, .see (.mov (.t 0))⟩,
    ⟨(some 9), none, 0, .see (.ld (some 3) (.t 4))⟩,
    ⟨(some 10), none, 0, .see (.mkf (.func 26) [(.t 5), (.t 7)])⟩,
    ⟨(some 11), none, 1, .call 25 [(.t 8), (.t 9), (.t 10)]⟩])
  (.seq (.reg [⟨(some 12), none, 0, .see (.ld none (.t 7))⟩,
    ⟨(some 6), none, 0, .see (.mov (.t 12))⟩])
  .ret))))
noncomputable abbrev tree_Tree_Range_code : Code := (Go.Proofs.Try.f16.body).getD .skip
theorem tree_Tree_Range_chk : chkC Go.Proofs.Try.prog 13 tree_Tree_Range_code tree_Tree_Range_pc = true := by kernel_rfl
theorem tree_Tree_Range_triple {args : List AV} {po ro : List Ob} {res : AV} (hal : args.length = 3) (hpo : po.length ≤ 1000)
    (h : run Go.Proofs.Try.prog po.length (RetP po.length [(6, false, none)] fun v os => v = res ∧ os = ro) [.c tree_Tree_Range_pc] ⟨argE 0 args, ob0 po⟩) : Triple Go.Proofs.Try.prog 16 args po res ro :=
  triple_of_W (fn := Go.Proofs.Try.f16) (c := tree_Tree_Range_code) (pc := tree_Tree_Range_pc) (rs := [(6, false, none)]) Go.Proofs.Try.func16 rfl (by decide) (by have := tree_Tree_Range_chk; exact this) (by rw [hal]; decide) rfl (by kernel_rfl) (by kernel_rfl) (by decide) hpo (W_of_run h)

set_option maxRecDepth 100000 in
theorem range1_no (k hi : Ky) (h : kl hi k = true) : Triple Go.Proofs.Try.prog 26 [k.av, .ptr 1000000 0 0, .ptr 1000001 0 0] [.box hi.cs, .box [.nils 3 kz]] (bl false) [.box hi.cs, .box [.nils 3 kz]] := by
  refine tree_Tree_Range_1_triple rfl (by simp) ?_
  simp only [tree_Tree_Range_1_pc, Ky.av, Ky.rv, Ky.cs, kz, List.length_nil, push_cast, ↓reduceIte, reduceCtorEq, Nat.reduceBEq, Nat.reduceEqDiff, Nat.reduceAdd, Nat.reduceSub, Nat.reduceLT, Nat.reduceLeDiff, Nat.reduceMul]
  refine call_mk (less_t hi k) rfl trivial ?_
  simp only [h, push_cast, ↓reduceIte, reduceCtorEq, Nat.reduceBEq, Nat.reduceEqDiff, Nat.reduceAdd, Nat.reduceSub, Nat.reduceLT, Nat.reduceLeDiff, Nat.reduceMul]
set_option maxRecDepth 100000 in
theorem range1_no2 (k hi : Ky) (l : List Ky) (h : kl hi k = true) : Triple Go.Proofs.Try.prog 26 [k.av, .ptr 1000000 0 0, .ptr 1000001 0 0] [.box hi.cs, .box [.own 1000002 0 0 l.length], .row 3 kz true true (l.map Ky.rv)] (bl false) [.box hi.cs, .box [.own 1000002 0 0 l.length], .row 3 kz true true (l.map Ky.rv)] := by
  refine tree_Tree_Range_1_triple rfl (by simp) ?_
  simp only [tree_Tree_Range_1_pc, Ky.av, Ky.rv, Ky.cs, kz, List.length_nil, push_cast, ↓reduceIte, reduceCtorEq, Nat.reduceBEq, Nat.reduceEqDiff, Nat.reduceAdd, Nat.reduceSub, Nat.reduceLT, Nat.reduceLeDiff, Nat.reduceMul]
  refine call_mk (less_t hi k) rfl trivial ?_
  simp only [h, push_cast, ↓reduceIte, reduceCtorEq, Nat.reduceBEq, Nat.reduceEqDiff, Nat.reduceAdd, Nat.reduceSub, Nat.reduceLT, Nat.reduceLeDiff, Nat.reduceMul]
set_option maxRecDepth 100000 in
theorem range1_yes (k hi : Ky) (h : kl hi k = false) : Triple Go.Proofs.Try.prog 26 [k.av, .ptr 1000000 0 0, .ptr 1000001 0 0] [.box hi.cs, .box [.nils 3 kz]] (bl true) [.box hi.cs, .box [.own 1000002 0 0 1], .row 3 kz true true ([k].map Ky.rv)] := by
  refine tree_Tree_Range_1_triple rfl (by simp) ?_
  simp only [tree_Tree_Range_1_pc, Ky.av, Ky.rv, Ky.cs, kz, List.length_nil, push_cast, ↓reduceIte, reduceCtorEq, Nat.reduceBEq, Nat.reduceEqDiff, Nat.reduceAdd, Nat.reduceSub, Nat.reduceLT, Nat.reduceLeDiff, Nat.reduceMul]
  refine call_mk (less_t hi k) rfl trivial ?_
  simp only [h, push_cast, ↓reduceIte, reduceCtorEq, Nat.reduceBEq, Nat.reduceEqDiff, Nat.reduceAdd, Nat.reduceSub, Nat.reduceLT, Nat.reduceLeDiff, Nat.reduceMul]
  exact ⟨by simp, by simp [maxLen]⟩
set_option maxRecDepth 100000 in
theorem range1_yes2 (k hi : Ky) (l : List Ky) (hl : l.length ≤ 100000) (h : kl hi k = false) : Triple Go.Proofs.Try.prog 26 [k.av, .ptr 1000000 0 0, .ptr 1000001 0 0] [.box hi.cs, .box [.own 1000002 0 0 l.length], .row 3 kz true true (l.map Ky.rv)] (bl true) [.box hi.cs, .box [.own 1000002 0 0 (l ++ [k]).length], .row 3 kz true true ((l ++ [k]).map Ky.rv)] := by
  refine tree_Tree_Range_1_triple rfl (by simp) ?_
  simp only [tree_Tree_Range_1_pc, Ky.av, Ky.rv, Ky.cs, kz, List.length_nil, push_cast, ↓reduceIte, reduceCtorEq, Nat.reduceBEq, Nat.reduceEqDiff, Nat.reduceAdd, Nat.reduceSub, Nat.reduceLT, Nat.reduceLeDiff, Nat.reduceMul]
  refine call_mk (less_t hi k) rfl trivial ?_
  simp only [h, push_cast, ↓reduceIte, reduceCtorEq, Nat.reduceBEq, Nat.reduceEqDiff, Nat.reduceAdd, Nat.reduceSub, Nat.reduceLT, Nat.reduceLeDiff, Nat.reduceMul]
  refine ⟨by simp, ⟨by omega, by simp only [maxLen]; omega⟩, by simp [Ky.rv]⟩
/-- What is told from lo on, till hi. -/
def tw (lo hi : Ky) (r : List Ky) : List Ky := (r.filter fun k => !kl k lo).takeWhile fun k => !kl hi k
theorem tw_skip {lo hi k : Ky} {r : List Ky} (h : kl k lo = true) : tw lo hi (k :: r) = tw lo hi r := by simp [tw, h]
theorem tw_take {lo hi k : Ky} {r : List Ky} (h : kl k lo = false) (h2 : kl hi k = false) : tw lo hi (k :: r) = k :: tw lo hi r := by simp [tw, h, h2]
theorem tw_stop {lo hi k : Ky} {r : List Ky} (h : kl k lo = false) (h2 : kl hi k = true) : tw lo hi (k :: r) = [] := by simp [tw, h, h2]
def roR (hi : Ky) (id : Nat) : List Ky → List Ob
  | [] => [.box hi.cs, .box [.nils 3 kz]]
  | x :: xs => [.box hi.cs, .box [.own id 0 0 (x :: xs).length], .row 3 kz true true ((x :: xs).map Ky.rv)]
def poR (hi : Ky) (id : Nat) : List Ky → List Ob
  | [] => [.box hi.cs, .box [.nils 3 kz]]
  | x :: xs => [.box hi.cs, .box [.own id 0 0 (x :: xs).length]]
def loR (lo : Ky) : List Ky → List Ob
  | [] => [.box lo.cs]
  | x :: xs => [.row 3 kz true true ((x :: xs).map Ky.rv), .box lo.cs]
def lpR : List Ky → Nat
  | [] => 2000000
  | _ => 2000001
theorem lpR_nil : lpR [] = 2000000 := rfl
theorem lpR_ne {acc : List Ky} (h : acc ≠ []) : lpR acc = 2000001 := by cases acc; exact absurd rfl h; rfl
theorem poR_nil (hi : Ky) (id : Nat) : poR hi id [] = [.box [int .u64 hi.c, int .i64 hi.v, int .i64 hi.d], .box [.nils 3 (.agg [.v (.int .u64 0), .v (.int .i64 0), .v (.int .i64 0)])]] := rfl
theorem poR_ne (hi : Ky) (id : Nat) {acc : List Ky} (h : acc ≠ []) : poR hi id acc = [.box [int .u64 hi.c, int .i64 hi.v, int .i64 hi.d], .box [.own id 0 0 acc.length]] := by cases acc; exact absurd rfl h; rfl
theorem loR_nil (lo : Ky) : loR lo [] = [.box [int .u64 lo.c, int .i64 lo.v, int .i64 lo.d]] := rfl
theorem loR_ne (lo : Ky) {acc : List Ky} (h : acc ≠ []) : loR lo acc = [.row 3 (.agg [.v (.int .u64 0), .v (.int .i64 0), .v (.int .i64 0)]) true true (acc.map Ky.rv), .box [int .u64 lo.c, int .i64 lo.v, int .i64 lo.d]] := by cases acc; exact absurd rfl h; rfl
theorem roR_ne (hi : Ky) (id : Nat) {acc : List Ky} (h : acc ≠ []) : roR hi id acc = [.box [int .u64 hi.c, int .i64 hi.v, int .i64 hi.d], .box [.own id 0 0 acc.length], .row 3 (.agg [.v (.int .u64 0), .v (.int .i64 0), .v (.int .i64 0)]) true true (acc.map Ky.rv)] := by cases acc; exact absurd rfl h; rfl
theorem roR_nil (hi : Ky) (id : Nat) : roR hi id [] = [.box [int .u64 hi.c, int .i64 hi.v, int .i64 hi.d], .box [.nils 3 (.agg [.v (.int .u64 0), .v (.int .i64 0), .v (.int .i64 0)])]] := rfl
set_option maxRecDepth 100000 in
set_option maxHeartbeats 1000000 in
theorem fromR_t (ns : List (List Ky)) (n : Int) (lo hi : Ky) (r : Nat) (h : Nod ns lo r) (h0 : ns ≠ []) (hn : ns.flatten.length ≤ 100000) (R : List Ky) (hR : tw lo hi (ns.drop (r - 1)).flatten = R) :
    Triple Go.Proofs.Try.prog 25 [.rp (tview ns n), lo.av, .fn (.func 26) [.ptr 1000000 0 0, .ptr 1000001 0 0] 0] [.box hi.cs, .box [.nils 3 kz]] (.tup []) (roR hi 1000002 R) := by
  refine tree_Tree_from_triple rfl (by simp) ?_
  have hne : ((ns.length : Int) == 0) = false := by simp [h0]
  have hRl : R.length ≤ 100000 := by
    rw [← hR]
    have h1 : (tw lo hi (ns.drop (r - 1)).flatten).length ≤ (ns.drop (r - 1)).flatten.length := Nat.le_trans (List.takeWhile_sublist _).length_le (List.filter_sublist).length_le
    have h2 : (ns.drop (r - 1)).flatten.length ≤ ns.flatten.length := by
      conv => rhs; rw [← List.take_append_drop (r - 1) ns]
      rw [List.flatten_append, List.length_append]
      omega
    omega
  have hfn : isFn Go.Proofs.Try.prog 26 = true := rfl
  simp only [tree_Tree_from_pc, tview, Ky.av, Ky.rv, Ky.cs, kz, List.length_nil, List.length_map, hne, push_cast, ↓reduceIte, reduceCtorEq, Nat.reduceBEq, Nat.reduceEqDiff, Nat.reduceAdd, Nat.reduceSub, Nat.reduceLT, Nat.reduceLeDiff, Nat.reduceMul]
  refine call_mk (node_t ns n lo r h) rfl trivial ?_
  simp only [List.length_map, push_cast, ↓reduceIte, reduceCtorEq, Nat.reduceBEq, Nat.reduceEqDiff, Nat.reduceAdd, Nat.reduceSub, Nat.reduceLT, Nat.reduceLeDiff, Nat.reduceMul]
  refine run_loop [(0, false), (2, false), (4, false), (6, false)] (fun vs pos los => ∃ (a : Nat) (acc : List Ky), a ≤ ns.length ∧ R = acc ++ tw lo hi (ns.drop a).flatten ∧
      vs = [.rp (tview ns n), .fn (.func 26) [.ptr 1000000 0 0, .ptr 1000001 0 0] 0, .ptr (lpR acc) 0 0, int .i64 a] ∧ pos = poR hi 2000000 acc ∧ los = loR lo acc)
    (fun vs _ _ => match vs with | [_, _, _, .r (.v (.int _ a))] => (ns.length - a).toNat | _ => 0) rfl ?_ ?_
  · simp only [tview, Ky.cs, kz, push_cast, ↓reduceIte, reduceCtorEq, Nat.reduceBEq, Nat.reduceEqDiff, Nat.reduceAdd, Nat.reduceSub, Nat.reduceLT, Nat.reduceLeDiff, Nat.reduceMul]
    have := h.le
    exact ⟨r - 1, [], by omega, by simp [hR], by simp [poR, loR, lpR, Ky.cs, kz]⟩
  · rintro vs pos los ⟨a, acc, ha, hf, rfl, rfl, rfl⟩
    rcases acc with _ | ⟨x, xs⟩
    · have hP := poR_nil hi 2000000
      have hL := loR_nil lo
      have hI := lpR_nil
      simp only [tview, hP, hL, hI, List.length_map, push_cast, ↓reduceIte, reduceCtorEq, Nat.reduceBEq, Nat.reduceEqDiff, Nat.reduceAdd, Nat.reduceSub, Nat.reduceLT, Nat.reduceLeDiff, Nat.reduceMul]
      refine cnd_mk (fun h1 => ?_) (fun h1 => ?_)
      · have h1' : a < ns.length := by simpa using h1
        obtain ⟨l, hl⟩ : ∃ l, ns[a]? = some l := ⟨ns[a], by simp [h1']⟩
        have hll := (h.ne a l hl).2
        have hd : ns.drop a = l :: ns.drop (a + 1) := by
          rw [List.drop_eq_getElem_cons h1', (List.getElem?_eq_some_iff.1 hl).2]
        rw [hd, List.flatten_cons] at hf
        have hg : (ns.map keys).getD ((a : Int)).toNat (.sl 3 []) = .sl 3 (l.map Ky.rv) := by simp [List.getD, hl, keys]
        have ha1 : IntKind.i64.wrap ((a : Int) + 1) = (a : Int) + 1 := wrap_id ⟨by omega, by have := h.len; simp only [maxLen] at this; omega⟩
        simp only [tview, List.length_map, hg, push_cast, ↓reduceIte, reduceCtorEq, Nat.reduceBEq, Nat.reduceEqDiff, Nat.reduceAdd, Nat.reduceSub, Nat.reduceLT, Nat.reduceLeDiff, Nat.reduceMul]
        refine And.intro ⟨by omega, by omega⟩ ?_
        refine run_loop [(0, false), (2, false), (4, false), (6, false), (33, false), (34, false), (35, false)] (fun vs pos los => ∃ (j : Nat) (acc : List Ky), j ≤ l.length ∧ R = acc ++ tw lo hi (l.drop j ++ (ns.drop (a + 1)).flatten) ∧
            vs = [.rp (tview ns n), .fn (.func 26) [.ptr 1000000 0 0, .ptr 1000001 0 0] 0, .ptr (lpR acc) 0 0, int .i64 a, .r (keys l), int .i64 l.length, int .i64 j] ∧ pos = poR hi 2000000 acc ∧ los = loR lo acc)
          (fun vs _ _ => match vs with | [_, _, _, _, _, _, .r (.v (.int _ a))] => (l.length - a).toNat | _ => 0) rfl ?_ ?_
        · simp only [tview, keys, push_cast, ↓reduceIte, reduceCtorEq, Nat.reduceBEq, Nat.reduceEqDiff, Nat.reduceAdd, Nat.reduceSub, Nat.reduceLT, Nat.reduceLeDiff, Nat.reduceMul]
          exact ⟨0, [], by omega, hf, by simp [hP, hL, hI]⟩
        · rintro vs pos los ⟨j, acc2, hj, hf2, rfl, rfl, rfl⟩
          rcases acc2 with _ | ⟨y, ys⟩
          · have hP := poR_nil hi 2000000
            have hL := loR_nil lo
            have hI := lpR_nil
            simp only [tview, keys, hP, hL, hI, List.length_map, push_cast, ↓reduceIte, reduceCtorEq, Nat.reduceBEq, Nat.reduceEqDiff, Nat.reduceAdd, Nat.reduceSub, Nat.reduceLT, Nat.reduceLeDiff, Nat.reduceMul]
            refine cnd_mk (fun h2 => ?_) (fun h2 => ?_)
            · have h2' : j < l.length := by simpa using h2
              have hj1 : IntKind.i64.wrap ((j : Int) + 1) = (j : Int) + 1 := wrap_id ⟨by omega, by simp only [maxLen] at hll; omega⟩
              obtain ⟨k, hk⟩ : ∃ k, l[j]? = some k := ⟨l[j], by simp [h2']⟩
              have hkd : l.drop j = k :: l.drop (j + 1) := by
                rw [List.drop_eq_getElem_cons h2', (List.getElem?_eq_some_iff.1 hk).2]
              rw [hkd, List.cons_append] at hf2
              simp only [tview, keys, List.length_map, keys_get hk, push_cast, ↓reduceIte, reduceCtorEq, Nat.reduceBEq, Nat.reduceEqDiff, Nat.reduceAdd, Nat.reduceSub, Nat.reduceLT, Nat.reduceLeDiff, Nat.reduceMul]
              refine And.intro ⟨by omega, by omega⟩ (call_mk (less_t k lo) rfl trivial ?_)
              rcases hkl : kl k lo with _ | _
              · simp only [tview, Ky.cs, keys, List.length_map, keys_get hk, hfn, Bool.not_false, push_cast, ↓reduceIte, reduceCtorEq, Nat.reduceBEq, Nat.reduceEqDiff, Nat.reduceAdd, Nat.reduceSub, Nat.reduceLT, Nat.reduceLeDiff, Nat.reduceMul]
                rcases hkh : kl hi k with _ | _
                · refine call_mk (range1_yes k hi hkh) rfl ⟨rfl, rfl, trivial⟩ ?_
                  rw [tw_take hkl hkh] at hf2
                  simp only [tview, Ky.cs, keys, kz, List.length_map, hj1, push_cast, ↓reduceIte, reduceCtorEq, Nat.reduceBEq, Nat.reduceEqDiff, Nat.reduceAdd, Nat.reduceSub, Nat.reduceLT, Nat.reduceLeDiff, Nat.reduceMul]
                  exact ⟨⟨j + 1, [k], by omega, by simpa using hf2, by simp [poR, loR, lpR, Ky.cs, kz]⟩, by omega⟩
                · refine call_mk (range1_no k hi hkh) rfl ⟨rfl, rfl, trivial⟩ ?_
                  rw [tw_stop hkl hkh] at hf2
                  simp only [tview, Ky.cs, keys, kz, List.length_map, push_cast, ↓reduceIte, reduceCtorEq, Nat.reduceBEq, Nat.reduceEqDiff, Nat.reduceAdd, Nat.reduceSub, Nat.reduceLT, Nat.reduceLeDiff, Nat.reduceMul]
                  rw [hf2]
                  exact (roR_nil hi 1000002).symm
              · rw [tw_skip hkl] at hf2
                simp only [tview, Ky.cs, keys, List.length_map, Bool.not_true, hj1, push_cast, ↓reduceIte, reduceCtorEq, Nat.reduceBEq, Nat.reduceEqDiff, Nat.reduceAdd, Nat.reduceSub, Nat.reduceLT, Nat.reduceLeDiff, Nat.reduceMul]
                exact ⟨⟨j + 1, [], by omega, hf2, by simp [poR, loR, lpR, Ky.cs, kz]⟩, by omega⟩
            · have h2' : ¬ j < l.length := by simpa using h2
              rw [List.drop_eq_nil_of_le (by omega), List.nil_append] at hf2
              simp only [tview, keys, List.length_map, ha1, push_cast, ↓reduceIte, reduceCtorEq, Nat.reduceBEq, Nat.reduceEqDiff, Nat.reduceAdd, Nat.reduceSub, Nat.reduceLT, Nat.reduceLeDiff, Nat.reduceMul]
              exact ⟨⟨a + 1, [], by omega, hf2, by simp [poR, loR, lpR, Ky.cs, kz]⟩, by omega⟩
          · have hac2 : y :: ys ≠ [] := by simp
            generalize y :: ys = acc2 at *
            have hal : acc2.length ≤ 100000 := by rw [hf2, List.length_append] at hRl; omega
            have hP := poR_ne hi 2000000 hac2
            have hL := loR_ne lo hac2
            have hI := lpR_ne hac2
            simp only [tview, keys, hP, hL, hI, List.length_map, push_cast, ↓reduceIte, reduceCtorEq, Nat.reduceBEq, Nat.reduceEqDiff, Nat.reduceAdd, Nat.reduceSub, Nat.reduceLT, Nat.reduceLeDiff, Nat.reduceMul]
            refine cnd_mk (fun h2 => ?_) (fun h2 => ?_)
            · have h2' : j < l.length := by simpa using h2
              have hj1 : IntKind.i64.wrap ((j : Int) + 1) = (j : Int) + 1 := wrap_id ⟨by omega, by simp only [maxLen] at hll; omega⟩
              obtain ⟨k, hk⟩ : ∃ k, l[j]? = some k := ⟨l[j], by simp [h2']⟩
              have hkd : l.drop j = k :: l.drop (j + 1) := by
                rw [List.drop_eq_getElem_cons h2', (List.getElem?_eq_some_iff.1 hk).2]
              rw [hkd, List.cons_append] at hf2
              simp only [tview, keys, List.length_map, keys_get hk, push_cast, ↓reduceIte, reduceCtorEq, Nat.reduceBEq, Nat.reduceEqDiff, Nat.reduceAdd, Nat.reduceSub, Nat.reduceLT, Nat.reduceLeDiff, Nat.reduceMul]
              refine And.intro ⟨by omega, by omega⟩ (call_mk (less_t k lo) rfl trivial ?_)
              rcases hkl : kl k lo with _ | _
              · simp only [tview, Ky.cs, keys, List.length_map, keys_get hk, hfn, Bool.not_false, push_cast, ↓reduceIte, reduceCtorEq, Nat.reduceBEq, Nat.reduceEqDiff, Nat.reduceAdd, Nat.reduceSub, Nat.reduceLT, Nat.reduceLeDiff, Nat.reduceMul]
                rcases hkh : kl hi k with _ | _
                · refine call_mk (range1_yes2 k hi acc2 hal hkh) rfl ⟨rfl, rfl, trivial⟩ ?_
                  rw [tw_take hkl hkh] at hf2
                  simp only [tview, Ky.cs, keys, kz, List.length_map, hj1, push_cast, ↓reduceIte, reduceCtorEq, Nat.reduceBEq, Nat.reduceEqDiff, Nat.reduceAdd, Nat.reduceSub, Nat.reduceLT, Nat.reduceLeDiff, Nat.reduceMul]
                  refine ⟨⟨j + 1, acc2 ++ [k], by omega, by simpa using hf2, by simp [poR_ne, loR_ne, lpR_ne]⟩, by omega⟩
                · refine call_mk (range1_no2 k hi acc2 hkh) rfl ⟨rfl, rfl, trivial⟩ ?_
                  rw [tw_stop hkl hkh, List.append_nil] at hf2
                  simp only [tview, Ky.cs, keys, kz, List.length_map, push_cast, ↓reduceIte, reduceCtorEq, Nat.reduceBEq, Nat.reduceEqDiff, Nat.reduceAdd, Nat.reduceSub, Nat.reduceLT, Nat.reduceLeDiff, Nat.reduceMul]
                  rw [hf2]
                  exact (roR_ne hi 1000002 hac2).symm
              · rw [tw_skip hkl] at hf2
                simp only [tview, Ky.cs, keys, List.length_map, Bool.not_true, hj1, push_cast, ↓reduceIte, reduceCtorEq, Nat.reduceBEq, Nat.reduceEqDiff, Nat.reduceAdd, Nat.reduceSub, Nat.reduceLT, Nat.reduceLeDiff, Nat.reduceMul]
                refine ⟨⟨j + 1, acc2, by omega, hf2, by simp [hP, hL, hI]⟩, by omega⟩
            · have h2' : ¬ j < l.length := by simpa using h2
              rw [List.drop_eq_nil_of_le (by omega), List.nil_append] at hf2
              simp only [tview, keys, List.length_map, ha1, push_cast, ↓reduceIte, reduceCtorEq, Nat.reduceBEq, Nat.reduceEqDiff, Nat.reduceAdd, Nat.reduceSub, Nat.reduceLT, Nat.reduceLeDiff, Nat.reduceMul]
              refine ⟨⟨a + 1, acc2, by omega, hf2, by simp [hP, hL, hI]⟩, by omega⟩
      · have h1' : ¬ a < ns.length := by simpa using h1
        rw [List.drop_eq_nil_of_le (by omega)] at hf
        simp only [tview, List.length_map, push_cast, ↓reduceIte, reduceCtorEq, Nat.reduceBEq, Nat.reduceEqDiff, Nat.reduceAdd, Nat.reduceSub, Nat.reduceLT, Nat.reduceLeDiff, Nat.reduceMul]
        have hRa : R = [] := by simpa [tw] using hf
        rw [hRa]
        exact (roR_nil hi 1000002).symm
    · have hac : x :: xs ≠ [] := by simp
      generalize x :: xs = acc at *
      have hP := poR_ne hi 2000000 hac
      have hL := loR_ne lo hac
      have hI := lpR_ne hac
      simp only [tview, hP, hL, hI, List.length_map, push_cast, ↓reduceIte, reduceCtorEq, Nat.reduceBEq, Nat.reduceEqDiff, Nat.reduceAdd, Nat.reduceSub, Nat.reduceLT, Nat.reduceLeDiff, Nat.reduceMul]
      refine cnd_mk (fun h1 => ?_) (fun h1 => ?_)
      · have h1' : a < ns.length := by simpa using h1
        obtain ⟨l, hl⟩ : ∃ l, ns[a]? = some l := ⟨ns[a], by simp [h1']⟩
        have hll := (h.ne a l hl).2
        have hd : ns.drop a = l :: ns.drop (a + 1) := by
          rw [List.drop_eq_getElem_cons h1', (List.getElem?_eq_some_iff.1 hl).2]
        rw [hd, List.flatten_cons] at hf
        have hg : (ns.map keys).getD ((a : Int)).toNat (.sl 3 []) = .sl 3 (l.map Ky.rv) := by simp [List.getD, hl, keys]
        have ha1 : IntKind.i64.wrap ((a : Int) + 1) = (a : Int) + 1 := wrap_id ⟨by omega, by have := h.len; simp only [maxLen] at this; omega⟩
        simp only [tview, List.length_map, hg, push_cast, ↓reduceIte, reduceCtorEq, Nat.reduceBEq, Nat.reduceEqDiff, Nat.reduceAdd, Nat.reduceSub, Nat.reduceLT, Nat.reduceLeDiff, Nat.reduceMul]
        refine And.intro ⟨by omega, by omega⟩ ?_
        refine run_loop [(0, false), (2, false), (4, false), (6, false), (33, false), (34, false), (35, false)] (fun vs pos los => ∃ (j : Nat) (acc : List Ky), j ≤ l.length ∧ R = acc ++ tw lo hi (l.drop j ++ (ns.drop (a + 1)).flatten) ∧
            vs = [.rp (tview ns n), .fn (.func 26) [.ptr 1000000 0 0, .ptr 1000001 0 0] 0, .ptr (lpR acc) 0 0, int .i64 a, .r (keys l), int .i64 l.length, int .i64 j] ∧ pos = poR hi 2000000 acc ∧ los = loR lo acc)
          (fun vs _ _ => match vs with | [_, _, _, _, _, _, .r (.v (.int _ a))] => (l.length - a).toNat | _ => 0) rfl ?_ ?_
        · simp only [tview, keys, push_cast, ↓reduceIte, reduceCtorEq, Nat.reduceBEq, Nat.reduceEqDiff, Nat.reduceAdd, Nat.reduceSub, Nat.reduceLT, Nat.reduceLeDiff, Nat.reduceMul]
          exact ⟨0, acc, by omega, hf, by simp [hP, hL, hI]⟩
        · rintro vs pos los ⟨j, acc2, hj, hf2, rfl, rfl, rfl⟩
          rcases acc2 with _ | ⟨y, ys⟩
          · have hP := poR_nil hi 2000000
            have hL := loR_nil lo
            have hI := lpR_nil
            simp only [tview, keys, hP, hL, hI, List.length_map, push_cast, ↓reduceIte, reduceCtorEq, Nat.reduceBEq, Nat.reduceEqDiff, Nat.reduceAdd, Nat.reduceSub, Nat.reduceLT, Nat.reduceLeDiff, Nat.reduceMul]
            refine cnd_mk (fun h2 => ?_) (fun h2 => ?_)
            · have h2' : j < l.length := by simpa using h2
              have hj1 : IntKind.i64.wrap ((j : Int) + 1) = (j : Int) + 1 := wrap_id ⟨by omega, by simp only [maxLen] at hll; omega⟩
              obtain ⟨k, hk⟩ : ∃ k, l[j]? = some k := ⟨l[j], by simp [h2']⟩
              have hkd : l.drop j = k :: l.drop (j + 1) := by
                rw [List.drop_eq_getElem_cons h2', (List.getElem?_eq_some_iff.1 hk).2]
              rw [hkd, List.cons_append] at hf2
              simp only [tview, keys, List.length_map, keys_get hk, push_cast, ↓reduceIte, reduceCtorEq, Nat.reduceBEq, Nat.reduceEqDiff, Nat.reduceAdd, Nat.reduceSub, Nat.reduceLT, Nat.reduceLeDiff, Nat.reduceMul]
              refine And.intro ⟨by omega, by omega⟩ (call_mk (less_t k lo) rfl trivial ?_)
              rcases hkl : kl k lo with _ | _
              · simp only [tview, Ky.cs, keys, List.length_map, keys_get hk, hfn, Bool.not_false, push_cast, ↓reduceIte, reduceCtorEq, Nat.reduceBEq, Nat.reduceEqDiff, Nat.reduceAdd, Nat.reduceSub, Nat.reduceLT, Nat.reduceLeDiff, Nat.reduceMul]
                rcases hkh : kl hi k with _ | _
                · refine call_mk (range1_yes k hi hkh) rfl ⟨rfl, rfl, trivial⟩ ?_
                  rw [tw_take hkl hkh] at hf2
                  simp only [tview, Ky.cs, keys, kz, List.length_map, hj1, push_cast, ↓reduceIte, reduceCtorEq, Nat.reduceBEq, Nat.reduceEqDiff, Nat.reduceAdd, Nat.reduceSub, Nat.reduceLT, Nat.reduceLeDiff, Nat.reduceMul]
                  exact ⟨⟨j + 1, [k], by omega, by simpa using hf2, by simp [poR, loR, lpR, Ky.cs, kz]⟩, by omega⟩
                · refine call_mk (range1_no k hi hkh) rfl ⟨rfl, rfl, trivial⟩ ?_
                  rw [tw_stop hkl hkh] at hf2
                  simp only [tview, Ky.cs, keys, kz, List.length_map, push_cast, ↓reduceIte, reduceCtorEq, Nat.reduceBEq, Nat.reduceEqDiff, Nat.reduceAdd, Nat.reduceSub, Nat.reduceLT, Nat.reduceLeDiff, Nat.reduceMul]
                  rw [hf2]
                  exact (roR_nil hi 1000002).symm
              · rw [tw_skip hkl] at hf2
                simp only [tview, Ky.cs, keys, List.length_map, Bool.not_true, hj1, push_cast, ↓reduceIte, reduceCtorEq, Nat.reduceBEq, Nat.reduceEqDiff, Nat.reduceAdd, Nat.reduceSub, Nat.reduceLT, Nat.reduceLeDiff, Nat.reduceMul]
                exact ⟨⟨j + 1, [], by omega, hf2, by simp [poR, loR, lpR, Ky.cs, kz]⟩, by omega⟩
            · have h2' : ¬ j < l.length := by simpa using h2
              rw [List.drop_eq_nil_of_le (by omega), List.nil_append] at hf2
              simp only [tview, keys, List.length_map, ha1, push_cast, ↓reduceIte, reduceCtorEq, Nat.reduceBEq, Nat.reduceEqDiff, Nat.reduceAdd, Nat.reduceSub, Nat.reduceLT, Nat.reduceLeDiff, Nat.reduceMul]
              exact ⟨⟨a + 1, [], by omega, hf2, by simp [poR, loR, lpR, Ky.cs, kz]⟩, by omega⟩
          · have hac2 : y :: ys ≠ [] := by simp
            generalize y :: ys = acc2 at *
            have hal : acc2.length ≤ 100000 := by rw [hf2, List.length_append] at hRl; omega
            have hP := poR_ne hi 2000000 hac2
            have hL := loR_ne lo hac2
            have hI := lpR_ne hac2
            simp only [tview, keys, hP, hL, hI, List.length_map, push_cast, ↓reduceIte, reduceCtorEq, Nat.reduceBEq, Nat.reduceEqDiff, Nat.reduceAdd, Nat.reduceSub, Nat.reduceLT, Nat.reduceLeDiff, Nat.reduceMul]
            refine cnd_mk (fun h2 => ?_) (fun h2 => ?_)
            · have h2' : j < l.length := by simpa using h2
              have hj1 : IntKind.i64.wrap ((j : Int) + 1) = (j : Int) + 1 := wrap_id ⟨by omega, by simp only [maxLen] at hll; omega⟩
              obtain ⟨k, hk⟩ : ∃ k, l[j]? = some k := ⟨l[j], by simp [h2']⟩
              have hkd : l.drop j = k :: l.drop (j + 1) := by
                rw [List.drop_eq_getElem_cons h2', (List.getElem?_eq_some_iff.1 hk).2]
              rw [hkd, List.cons_append] at hf2
              simp only [tview, keys, List.length_map, keys_get hk, push_cast, ↓reduceIte, reduceCtorEq, Nat.reduceBEq, Nat.reduceEqDiff, Nat.reduceAdd, Nat.reduceSub, Nat.reduceLT, Nat.reduceLeDiff, Nat.reduceMul]
              refine And.intro ⟨by omega, by omega⟩ (call_mk (less_t k lo) rfl trivial ?_)
              rcases hkl : kl k lo with _ | _
              · simp only [tview, Ky.cs, keys, List.length_map, keys_get hk, hfn, Bool.not_false, push_cast, ↓reduceIte, reduceCtorEq, Nat.reduceBEq, Nat.reduceEqDiff, Nat.reduceAdd, Nat.reduceSub, Nat.reduceLT, Nat.reduceLeDiff, Nat.reduceMul]
                rcases hkh : kl hi k with _ | _
                · refine call_mk (range1_yes2 k hi acc2 hal hkh) rfl ⟨rfl, rfl, trivial⟩ ?_
                  rw [tw_take hkl hkh] at hf2
                  simp only [tview, Ky.cs, keys, kz, List.length_map, hj1, push_cast, ↓reduceIte, reduceCtorEq, Nat.reduceBEq, Nat.reduceEqDiff, Nat.reduceAdd, Nat.reduceSub, Nat.reduceLT, Nat.reduceLeDiff, Nat.reduceMul]
                  refine ⟨⟨j + 1, acc2 ++ [k], by omega, by simpa using hf2, by simp [poR_ne, loR_ne, lpR_ne]⟩, by omega⟩
                · refine call_mk (range1_no2 k hi acc2 hkh) rfl ⟨rfl, rfl, trivial⟩ ?_
                  rw [tw_stop hkl hkh, List.append_nil] at hf2
                  simp only [tview, Ky.cs, keys, kz, List.length_map, push_cast, ↓reduceIte, reduceCtorEq, Nat.reduceBEq, Nat.reduceEqDiff, Nat.reduceAdd, Nat.reduceSub, Nat.reduceLT, Nat.reduceLeDiff, Nat.reduceMul]
                  rw [hf2]
                  exact (roR_ne hi 1000002 hac2).symm
              · rw [tw_skip hkl] at hf2
                simp only [tview, Ky.cs, keys, List.length_map, Bool.not_true, hj1, push_cast, ↓reduceIte, reduceCtorEq, Nat.reduceBEq, Nat.reduceEqDiff, Nat.reduceAdd, Nat.reduceSub, Nat.reduceLT, Nat.reduceLeDiff, Nat.reduceMul]
                refine ⟨⟨j + 1, acc2, by omega, hf2, by simp [hP, hL, hI]⟩, by omega⟩
            · have h2' : ¬ j < l.length := by simpa using h2
              rw [List.drop_eq_nil_of_le (by omega), List.nil_append] at hf2
              simp only [tview, keys, List.length_map, ha1, push_cast, ↓reduceIte, reduceCtorEq, Nat.reduceBEq, Nat.reduceEqDiff, Nat.reduceAdd, Nat.reduceSub, Nat.reduceLT, Nat.reduceLeDiff, Nat.reduceMul]
              refine ⟨⟨a + 1, acc2, by omega, hf2, by simp [hP, hL, hI]⟩, by omega⟩
      · have h1' : ¬ a < ns.length := by simpa using h1
        rw [List.drop_eq_nil_of_le (by omega)] at hf
        simp only [tview, List.length_map, push_cast, ↓reduceIte, reduceCtorEq, Nat.reduceBEq, Nat.reduceEqDiff, Nat.reduceAdd, Nat.reduceSub, Nat.reduceLT, Nat.reduceLeDiff, Nat.reduceMul]
        have hRa : R = acc := by simpa [tw] using hf
        rw [hRa]
        exact (roR_ne hi 1000002 hac).symm
end Go.Ev
