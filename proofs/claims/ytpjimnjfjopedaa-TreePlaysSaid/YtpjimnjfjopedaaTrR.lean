import Derived.Test.YtpjimnjfjopedaaTrK
namespace Go.Ev
open Go
set_option linter.unnecessarySimpa false
set_option linter.unusedSimpArgs false
set_option linter.unusedVariables false
noncomputable def tree_Tree_Rank_pc : PC :=
  (.seq (.reg [⟨(some 3), none, 0, .act (.box (.t 1))⟩,
    ⟨(some 4), none, 0, .see (.mov (.c (.r (.v (.int .i64 0)))))⟩])
  (.seq (.reg [⟨(some 5), none, 0, .see (.mov (.c (.r (.v (.int .i64 0)))))⟩])
  (.seq (.seq (.reg [⟨(some 11), none, 0, .see (.mov (.t 0))⟩,
    ⟨(some 12), none, 0, .see (.nck (.t 11))⟩,
    ⟨(some 13), none, 0, .see (.fa 0 (.t 12))⟩,
    ⟨(some 14), none, 0, .see (.ld none (.t 13))⟩,
    ⟨(some 15), none, 0, .see (.len false (.t 14))⟩,
    ⟨(some 16), none, 0, .see (.bin .eql (.t 15) (.c (.r (.v (.int .i64 0)))))⟩])
  (.cond (.t 16)
    (.seq (.reg [⟨(some 4), none, 0, .see (.mov (.c (.r (.v (.int .i64 0)))))⟩])
    .ret)
    .skip))
  (.seq (.reg [⟨(some 17), none, 0, .see (.mov (.t 0))⟩,
    ⟨(some 18), none, 0, .see (.ld (some 3) (.t 3))⟩,
    ⟨(some 19), none, 1, .call 22 [(.t 17), (.t 18)]⟩,
    ⟨(some 6), none, 0, .see (.mov (.t 19))⟩])
  (.seq (.seq (.reg [⟨(some 20), none, 0, .see (.mov (.t 0))⟩,
    ⟨(some 21), none, 0, .see (.nck (.t 20))⟩,
    ⟨(some 22), none, 0, .see (.fa 0 (.t 21))⟩,
    ⟨(some 23), none, 0, .see (.ld none (.t 22))⟩,
    ⟨(some 24), none, 0, .see (.mov (.t 6))⟩,
    ⟨(some 25), none, 0, .see (.sll 1 (.t 23) none (some (.t 24)) none)⟩,
    ⟨(some 26), none, 0, .see (.len false (.t 25))⟩,
    ⟨(some 27), none, 0, .see (.mov (.c (.r (.v (.int .i64 0)))))⟩])
  (.block 0 (.loop (.seq (.reg [⟨(some 28), none, 0, .see (.bin .lss (.t 27) (.t 26))⟩])
  (.seq (.cond (.t 28)
    .skip
    (.exit 0))
  (.seq (.block 1 (.seq (.reg [⟨(some 29), none, 0, .see (.ia 1 (.sl 3 []) (.t 25) (.t 27))⟩,
    ⟨(some 30), none, 0, .see (.ld none (.t 29))⟩,
    ⟨(some 8), none, 0, .see (.mov (.t 30))⟩])
  (.reg [⟨(some 31), none, 0, .see (.mov (.t 5))⟩,
    ⟨(some 32), none, 0, .see (.mov (.t 8))⟩,
    ⟨(some 33), none, 0, .see (.len false (.t 32))⟩,
    ⟨(some 34), none, 0, .see (.bin .add (.t 31) (.t 33))⟩,
    ⟨(some 5), none, 0, .see (.mov (.t 34))⟩])))
  (.reg [⟨(some 35), none, 0, .see (.bin .add (.t 27) (.c (.r (.v (.int .i64 1)))))⟩,
    ⟨(some 27), none, 0, .see (.mov (.t 35))⟩])))))))
  (.seq (.drw [⟨(some 37), none, 0, .see (.mov (.t 0))⟩,
    ⟨(some 38), none, 0, .see (.nck (.t 37))⟩,
    ⟨(some 39), none, 0, .see (.fa 0 (.t 38))⟩,
    ⟨(some 40), none, 0, .see (.ld none (.t 39))⟩,
    ⟨(some 41), none, 0, .see (.mov (.t 6))⟩,
    ⟨(some 42), none, 0, .see (.ia 1 (.sl 3 []) (.t 40) (.t 41))⟩,
    ⟨(some 43), none, 0, .see (.ld none (.t 42))⟩,
    ⟨(some 44), none, 0, .see (.ld (some 3) (.t 3))⟩,
    ⟨(some 45), none, 2, .call 23 [(.t 43), (.t 44)]⟩,
    ⟨(some 36), none, 0, .see (.mov (.t 45))⟩,
    ⟨(some 46), none, 0, .see (.ext (.t 36) 0)⟩,
    ⟨(some 47), none, 0, .see (.ext (.t 36) 1)⟩,
    ⟨(some 9), none, 0, .see (.mov (.t 46))⟩,
    ⟨(some 10), none, 0, .see (.mov (.t 47))⟩]
    [[], [0], [0, 1], [0, 1, 2], [], [0, 1, 2, 3, 4], [0, 1, 2, 3, 4, 5], [], [0, 1, 2, 3, 4, 5, 6, 7], [0, 1, 2, 3, 4, 5, 6, 7, 8], [0, 1, 2, 3, 4, 5, 6, 7, 8, 9], [0, 1, 2, 3, 4, 5, 6, 7, 8, 9], [0, 1, 2, 3, 4, 5, 6, 7, 8, 9, 10], [0, 1, 2, 3, 4, 5, 6, 7, 8, 9, 10, 11, 12]])
  (.seq (.reg [⟨(some 48), none, 0, .see (.mov (.t 5))⟩,
    ⟨(some 49), none, 0, .see (.mov (.t 9))⟩,
    ⟨(some 50), none, 0, .see (.bin .add (.t 48) (.t 49))⟩,
    ⟨(some 4), none, 0, .see (.mov (.t 50))⟩])
  .ret)))))))
noncomputable abbrev tree_Tree_Rank_code : Code := (Go.Proofs.Try.f17.body).getD .skip
theorem tree_Tree_Rank_chk : chkC Go.Proofs.Try.prog 51 tree_Tree_Rank_code tree_Tree_Rank_pc = true := by kernel_rfl
theorem tree_Tree_Rank_triple {args : List AV} {po ro : List Ob} {res : AV} (hal : args.length = 2) (hpo : po.length ≤ 1000)
    (h : run Go.Proofs.Try.prog po.length (RetP po.length [(4, false, none)] fun v os => v = res ∧ os = ro) [.c tree_Tree_Rank_pc] ⟨argE 0 args, ob0 po⟩) : Triple Go.Proofs.Try.prog 17 args po res ro :=
  triple_of_W (fn := Go.Proofs.Try.f17) (c := tree_Tree_Rank_code) (pc := tree_Tree_Rank_pc) (rs := [(4, false, none)]) Go.Proofs.Try.func17 rfl (by decide) (by have := tree_Tree_Rank_chk; exact this) (by rw [hal]; decide) rfl (by kernel_rfl) (by kernel_rfl) (by decide) hpo (W_of_run h)

/-- How many are less. -/
def rk (L : List Ky) (k : Ky) : Nat := L.countP fun q => kl q k
theorem Spt.rk {ns : List (List Ky)} {k : Ky} {i s : Nat} {l : List Ky} (hs : Spt ns k i s l) : Go.Ev.rk ns.flatten k = (ns.take i).flatten.length + s := by
  unfold Go.Ev.rk
  rw [hs.all, List.countP_append, List.countP_append]
  have h1 : (ns.take i).flatten.countP (fun q => kl q k) = (ns.take i).flatten.length := List.countP_eq_length.2 hs.ahead
  have h2 : (ns.drop (i + 1)).flatten.countP (fun q => kl q k) = 0 := List.countP_eq_zero.2 fun x hx => by rw [kl_asym (hs.behind x hx)]; simp
  have h3 : l.countP (fun q => kl q k) = s := by
    conv => lhs; rw [← List.take_append_drop s l]
    rw [List.countP_append]
    have e1 : (l.take s).countP (fun q => kl q k) = s := by
      rw [List.countP_eq_length.2 hs.lo_, List.length_take, Nat.min_eq_left hs.pl.le]
    have e2 : (l.drop s).countP (fun q => kl q k) = 0 := List.countP_eq_zero.2 fun x hx => by
      obtain ⟨j, hj⟩ := List.mem_iff_getElem?.1 hx
      rw [List.getElem?_drop] at hj
      rw [hs.pl.hi (s + j) x (by omega) hj]
      simp
    omega
  omega
set_option maxRecDepth 100000 in
theorem rank_t {ns : List (List Ky)} (n : Int) {k : Ky} {i s : Nat} {l : List Ky} (hs : Spt ns k i s l) (hn : ns.flatten.length ≤ 100000) :
    Triple Go.Proofs.Try.prog 17 [.rp (tview ns n), k.av] [] (int .i64 (rk ns.flatten k)) [] := by
  refine tree_Tree_Rank_triple rfl (by decide) ?_
  have hlt := hs.lt
  have hne : ((ns.length : Int) == 0) = false := by rw [beq_eq_false_iff_ne]; omega
  have hnd := node_t ns n k _ hs.nd
  rw [hs.nx] at hnd
  have htl : ((ns.map keys).take ((i : Int)).toNat).length = i := by simp; omega
  have hsl := hs.pl.le
  have hall := congrArg List.length hs.all
  simp only [List.length_append] at hall
  simp only [tree_Tree_Rank_pc, tview, Ky.av, Ky.rv, List.length_nil, List.length_map, hne, push_cast, ↓reduceIte, reduceCtorEq, Nat.reduceBEq, Nat.reduceEqDiff, Nat.reduceAdd, Nat.reduceSub, Nat.reduceLT, Nat.reduceLeDiff, Nat.reduceMul]
  refine call_mk hnd rfl trivial ?_
  simp only [List.length_map, List.drop_zero, push_cast, ↓reduceIte, reduceCtorEq, Nat.reduceBEq, Nat.reduceEqDiff, Nat.reduceAdd, Nat.reduceSub, Nat.reduceLT, Nat.reduceLeDiff, Nat.reduceMul]
  refine And.intro ⟨by omega, by omega⟩ ?_
  refine run_loop [(0, false), (3, false), (5, false), (6, false), (25, false), (26, false), (27, false)] (fun vs pos los => ∃ j : Nat, j ≤ i ∧
      vs = [.rp (tview ns n), .ptr 2000000 0 0, int .i64 (ns.take j).flatten.length, int .i64 i, .r (.sl 1 ((ns.map keys).take i)), int .i64 i, int .i64 j] ∧ pos = [] ∧ los = [.box k.cs])
    (fun vs _ _ => match vs with | [_, _, _, _, _, _, .r (.v (.int _ a))] => (i - a).toNat | _ => 0) rfl ?_ ?_
  · simp only [tview, Ky.cs, keys, push_cast, ↓reduceIte, reduceCtorEq, Nat.reduceBEq, Nat.reduceEqDiff, Nat.reduceAdd, Nat.reduceSub, Nat.reduceLT, Nat.reduceLeDiff, Nat.reduceMul]
    refine ⟨0, by omega, ?_⟩
    simp
    omega
  · rintro vs pos los ⟨j, hj, rfl, rfl, rfl⟩
    simp only [tview, Ky.cs, List.length_map, push_cast, ↓reduceIte, reduceCtorEq, Nat.reduceBEq, Nat.reduceEqDiff, Nat.reduceAdd, Nat.reduceSub, Nat.reduceLT, Nat.reduceLeDiff, Nat.reduceMul]
    refine cnd_mk (fun h2 => ?_) (fun h2 => ?_)
    · have h2' : j < i := by simpa using h2
      obtain ⟨x, hx⟩ : ∃ x, ns[j]? = some x := ⟨ns[j], by simp [show j < ns.length by omega]⟩
      have hg : ((ns.map keys).take i).getD ((j : Int)).toNat (.sl 3 []) = .sl 3 (x.map Ky.rv) := by simp [List.getD, List.getElem?_take, h2', hx, keys]
      have hj1 : IntKind.i64.wrap ((j : Int) + 1) = (j : Int) + 1 := wrap_id ⟨by omega, by have := hs.nd.len; simp only [maxLen] at this; omega⟩
      have hsum : (ns.take (j + 1)).flatten.length = (ns.take j).flatten.length + x.length := by
        rw [take_snoc hx]
        simp
      have hle : (ns.take (j + 1)).flatten.length ≤ 100000 := by
        have : (ns.take (j + 1)).flatten.length ≤ ns.flatten.length := by
          conv => rhs; rw [← List.take_append_drop (j + 1) ns]
          rw [List.flatten_append, List.length_append]
          omega
        omega
      have hwn : IntKind.i64.wrap (((ns.take j).flatten.length : Int) + (x.length : Int)) = ((ns.take (j + 1)).flatten.length : Int) := by rw [wrap_id ⟨by omega, by omega⟩]; omega
      simp only [tview, Ky.cs, List.length_map, hg, hj1, hwn, push_cast, ↓reduceIte, reduceCtorEq, Nat.reduceBEq, Nat.reduceEqDiff, Nat.reduceAdd, Nat.reduceSub, Nat.reduceLT, Nat.reduceLeDiff, Nat.reduceMul]
      refine And.intro ⟨by omega, by simp; omega⟩ ⟨⟨j + 1, by omega, by simp⟩, by omega⟩
    · have h2' : j = i := by simp at h2; omega
      subst h2'
      have hg : (ns.map keys).getD ((j : Int)).toNat (.sl 3 []) = keys l := by simp [List.getD, hs.at_]
      simp only [tview, Ky.cs, List.length_map, hg, keys, push_cast, ↓reduceIte, reduceCtorEq, Nat.reduceBEq, Nat.reduceEqDiff, Nat.reduceAdd, Nat.reduceSub, Nat.reduceLT, Nat.reduceLeDiff, Nat.reduceMul]
      refine And.intro ⟨by omega, by omega⟩ ?_
      have hle := hs.le
      refine dcall_mk (find_t l k s hs.pl (by simp only [maxLen]; omega)) rfl trivial ?_
      have hwn : IntKind.i64.wrap (((ns.take j).flatten.length : Int) + (s : Int)) = (rk ns.flatten k : Int) := by rw [hs.rk, wrap_id ⟨by omega, by omega⟩]; omega
      simp only [hwn, push_cast, ↓reduceIte, reduceCtorEq, Nat.reduceBEq, Nat.reduceEqDiff, Nat.reduceAdd, Nat.reduceSub, Nat.reduceLT, Nat.reduceLeDiff, Nat.reduceMul]
      show _ = true
      kernel_rfl
set_option maxRecDepth 100000 in
theorem rank0_t (n : Int) (k : Ky) : Triple Go.Proofs.Try.prog 17 [.rp (tview [] n), k.av] [] (int .i64 0) [] := by
  refine tree_Tree_Rank_triple rfl (by decide) ?_
  simp only [tree_Tree_Rank_pc, tview, Ky.av, Ky.rv, List.length_nil, List.map_nil, push_cast, ↓reduceIte, reduceCtorEq, Nat.reduceBEq, Nat.reduceEqDiff, Nat.reduceAdd, Nat.reduceSub, Nat.reduceLT, Nat.reduceLeDiff, Nat.reduceMul]
theorem rankP {ns : List (List Ky)} (h : Good ns) (hn : ns.flatten.length ≤ 100000) (k : Ky) : Triple Go.Proofs.Try.prog 17 [.ptr 1000000 0 0, k.av] [.abs (tr ns)] (int .i64 (rk ns.flatten k)) [.abs (tr ns)] := by
  have hv : Triple Go.Proofs.Try.prog 17 [.rp (tr ns).view, k.av] [] (int .i64 (rk ns.flatten k)) [] := by
    by_cases h0 : ns = []
    · subst h0
      exact rank0_t _ k
    · obtain ⟨i, s, l, hs⟩ := spt h (by omega) k h0
      exact rank_t _ hs hn
  exact view0 (T := tr ns) hv rfl rfl (by simp [Flat, FlatR])
end Go.Ev
