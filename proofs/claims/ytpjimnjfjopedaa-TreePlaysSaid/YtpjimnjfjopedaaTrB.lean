import Derived.Test.YtpjimnjfjopedaaTrA
namespace Go.Ev
open Go
set_option linter.unnecessarySimpa false
set_option linter.unusedSimpArgs false
set_option linter.unusedVariables false
noncomputable def apiarylaw17_awake_pc : PC :=
  (.seq (.reg [⟨(some 0), none, 0, .see (.mov (.c (.r (.v (.bool false)))))⟩])
  (.seq (.reg [⟨(some 6), none, 1, .call 11 []⟩,
    ⟨(some 1), none, 0, .see (.mov (.t 6))⟩])
  (.seq (.seq (.reg [⟨(some 7), none, 0, .see (.mov (.t 1))⟩,
    ⟨(some 8), none, 0, .see (.eqn false (.t 7))⟩])
  (.cond (.t 8)
    (.seq (.reg [⟨(some 0), none, 0, .see (.mov (.c (.r (.v (.bool false)))))⟩])
    .ret)
    .skip))
  (.seq (.reg [⟨(some 9), none, 0, .see (.mov (.t 1))⟩,
    ⟨(some 10), none, 0, .see (.build [(.r (.v (.int .u64 0))), (.r (.v (.int .i64 0))), (.r (.v (.int .i64 0)))] [(0, 1, (.c (.r (.v (.int .u64 5))))), (1, 1, (.c (.r (.v (.int .i64 (-2)))))), (2, 1, (.c (.r (.v (.int .i64 1)))))])⟩,
    ⟨(some 11), none, 2, .call 12 [(.t 9), (.t 10)]⟩,
    ⟨(some 2), none, 0, .see (.mov (.t 11))⟩])
  (.seq (.reg [⟨(some 12), none, 0, .see (.mov (.t 1))⟩,
    ⟨(some 13), none, 0, .see (.build [(.r (.v (.int .u64 0))), (.r (.v (.int .i64 0))), (.r (.v (.int .i64 0)))] [(0, 1, (.c (.r (.v (.int .u64 5))))), (1, 1, (.c (.r (.v (.int .i64 3))))), (2, 1, (.c (.r (.v (.int .i64 2)))))])⟩,
    ⟨(some 14), none, 3, .call 12 [(.t 12), (.t 13)]⟩,
    ⟨(some 3), none, 0, .see (.mov (.t 14))⟩])
  (.seq (.reg [⟨(some 16), none, 0, .see (.mov (.t 1))⟩,
    ⟨(some 17), none, 4, .call 19 [(.t 16), (.c (.r (.v (.int .u64 5))))]⟩,
    ⟨(some 15), none, 0, .see (.mov (.t 17))⟩,
    ⟨(some 18), none, 0, .see (.ext (.t 15) 0)⟩,
    ⟨(some 19), none, 0, .see (.ext (.t 15) 1)⟩,
    ⟨(some 4), none, 0, .act (.new [(.r (.v (.int .u64 0))), (.r (.v (.int .i64 0))), (.r (.v (.int .i64 0)))])⟩,
    ⟨none, none, 0, .act (.st 3 (.t 4) (.t 18))⟩,
    ⟨(some 5), none, 0, .see (.mov (.t 19))⟩])
  (.seq (.reg [⟨(some 20), none, 0, .see (.mov (.t 2))⟩,
    ⟨(some 21), none, 0, .see (.mov (.t 20))⟩,
    ⟨(some 22), (some (21, true)), 0, .see (.mov (.t 3))⟩,
    ⟨(some 23), none, 0, .see (.pick (.t 21) (.t 22) (.c (.r (.v (.bool false)))))⟩,
    ⟨(some 24), none, 0, .see (.mov (.t 23))⟩,
    ⟨(some 25), (some (24, true)), 0, .see (.mov (.t 5))⟩,
    ⟨(some 26), none, 0, .see (.pick (.t 24) (.t 25) (.c (.r (.v (.bool false)))))⟩,
    ⟨(some 27), none, 0, .see (.mov (.t 26))⟩,
    ⟨(some 28), (some (27, true)), 0, .see (.fa 1 (.t 4))⟩,
    ⟨(some 29), (some (27, true)), 0, .see (.ld none (.t 28))⟩,
    ⟨(some 30), (some (27, true)), 0, .see (.bin .eql (.t 29) (.c (.r (.v (.int .i64 (-2))))))⟩,
    ⟨(some 31), none, 0, .see (.pick (.t 27) (.t 30) (.c (.r (.v (.bool false)))))⟩,
    ⟨(some 32), none, 0, .see (.mov (.t 31))⟩,
    ⟨(some 33), (some (32, true)), 0, .see (.mov (.t 1))⟩,
    ⟨(some 34), (some (32, true)), 5, .call 13 [(.t 33)]⟩,
    ⟨(some 35), (some (32, true)), 0, .see (.bin .eql (.t 34) (.c (.r (.v (.int .i64 2)))))⟩,
    ⟨(some 36), none, 0, .see (.pick (.t 32) (.t 35) (.c (.r (.v (.bool false)))))⟩,
    ⟨(some 37), none, 0, .see (.mov (.t 36))⟩,
    ⟨(some 38), (some (37, true)), 0, .see (.mov (.t 1))⟩,
    ⟨(some 39), (some (37, true)), 0, .see (.ld (some 3) (.t 4))⟩,
    ⟨(some 40), (some (37, true)), 6, .call 12 [(.t 38), (.t 39)]⟩,
    ⟨(some 41), (some (37, true)), 0, .see (.un .not (.t 40))⟩,
    ⟨(some 42), none, 0, .see (.pick (.t 37) (.t 41) (.c (.r (.v (.bool false)))))⟩,
    ⟨(some 0), none, 0, .see (.mov (.t 42))⟩])
  .ret)))))))
noncomputable abbrev apiarylaw17_awake_code : Code := (Go.Proofs.Try.f10.body).getD .skip
theorem apiarylaw17_awake_chk : chkC Go.Proofs.Try.prog 43 apiarylaw17_awake_code apiarylaw17_awake_pc = true := by kernel_rfl
theorem apiarylaw17_awake_triple {args : List AV} {po ro : List Ob} {res : AV} (hal : args.length = 0) (hpo : po.length ≤ 1000)
    (h : run Go.Proofs.Try.prog po.length (RetP po.length [(0, false, none)] fun v os => v = res ∧ os = ro) [.c apiarylaw17_awake_pc] ⟨argE 0 args, ob0 po⟩) : Triple Go.Proofs.Try.prog 10 args po res ro :=
  triple_of_W (fn := Go.Proofs.Try.f10) (c := apiarylaw17_awake_code) (pc := apiarylaw17_awake_pc) (rs := [(0, false, none)]) Go.Proofs.Try.func10 rfl (by decide) (by have := apiarylaw17_awake_chk; exact this) (by rw [hal]; decide) rfl (by kernel_rfl) (by kernel_rfl) (by decide) hpo (W_of_run h)

noncomputable def apiarylaw17_TreeLess_pc : PC :=
  (.seq (.reg [⟨(some 3), none, 0, .act (.box (.t 0))⟩,
    ⟨(some 4), none, 0, .act (.box (.t 1))⟩,
    ⟨(some 5), none, 0, .act (.box (.t 2))⟩,
    ⟨(some 6), none, 0, .see (.mov (.c (.r (.v (.bool false)))))⟩])
  (.seq (.drw [⟨(some 9), none, 0, .see (.ld (some 3) (.t 3))⟩,
    ⟨(some 10), none, 0, .see (.ld (some 3) (.t 4))⟩,
    ⟨(some 11), none, 1, .call 8 [(.t 9), (.t 10)]⟩,
    ⟨(some 12), none, 0, .see (.ld (some 3) (.t 4))⟩,
    ⟨(some 13), none, 0, .see (.ld (some 3) (.t 3))⟩,
    ⟨(some 14), none, 2, .call 8 [(.t 12), (.t 13)]⟩,
    ⟨(some 7), none, 0, .see (.mov (.t 11))⟩,
    ⟨(some 8), none, 0, .see (.mov (.t 14))⟩]
    [[], [], [0, 1], [], [], [0, 1, 2, 3, 4], [0, 1, 2, 3, 4, 5], [0, 1, 2, 3, 4, 5, 6]])
  (.seq (.seq (.reg [⟨(some 15), none, 0, .see (.mov (.t 7))⟩,
    ⟨(some 16), none, 0, .see (.ld (some 3) (.t 3))⟩,
    ⟨(some 17), none, 0, .see (.ld (some 3) (.t 4))⟩,
    ⟨(some 18), none, 3, .call 9 [(.t 16), (.t 17)]⟩,
    ⟨(some 19), none, 0, .see (.beq true (.t 15) (.t 18))⟩,
    ⟨(some 20), none, 0, .see (.mov (.t 19))⟩,
    ⟨(some 21), (some (20, false)), 0, .see (.mov (.t 7))⟩,
    ⟨(some 22), (some (20, false)), 0, .see (.mov (.t 21))⟩,
    ⟨(some 23), (some (22, true)), 0, .see (.mov (.t 8))⟩,
    ⟨(some 24), (some (20, false)), 0, .see (.pick (.t 22) (.t 23) (.c (.r (.v (.bool false)))))⟩,
    ⟨(some 25), none, 0, .see (.pick (.t 20) (.c (.r (.v (.bool true)))) (.t 24))⟩,
    ⟨(some 26), none, 0, .see (.mov (.t 25))⟩,
    ⟨(some 27), (some (26, false)), 0, .see (.mov (.t 7))⟩,
    ⟨(some 28), (some (26, false)), 0, .see (.un .not (.t 27))⟩,
    ⟨(some 29), (some (26, false)), 0, .see (.mov (.t 28))⟩,
    ⟨(some 30), (some (29, true)), 0, .see (.mov (.t 8))⟩,
    ⟨(some 31), (some (29, true)), 0, .see (.un .not (.t 30))⟩,
    ⟨(some 32), (some (26, false)), 0, .see (.pick (.t 29) (.t 31) (.c (.r (.v (.bool false)))))⟩,
    ⟨(some 33), (some (26, false)), 0, .see (.mov (.t 32))⟩,
    ⟨(some 34), (some (33, true)), 0, .see (.ld (some 3) (.t 3))⟩,
    ⟨(some 35), (some (33, true)), 0, .see (.ld (some 3) (.t 4))⟩,
    ⟨(some 36), (some (33, true)), 0, .see (.eqa true [0, 0, 0] (.t 34) (.t 35))⟩,
    ⟨(some 37), (some (26, false)), 0, .see (.pick (.t 33) (.t 36) (.c (.r (.v (.bool false)))))⟩,
    ⟨(some 38), none, 0, .see (.pick (.t 26) (.c (.r (.v (.bool true)))) (.t 37))⟩,
    ⟨(some 39), none, 0, .see (.mov (.t 38))⟩,
    ⟨(some 40), (some (39, false)), 0, .see (.ld (some 3) (.t 3))⟩,
    ⟨(some 41), (some (39, false)), 0, .see (.ld (some 3) (.t 3))⟩,
    ⟨(some 42), (some (39, false)), 4, .call 8 [(.t 40), (.t 41)]⟩,
    ⟨(some 43), none, 0, .see (.pick (.t 39) (.c (.r (.v (.bool true)))) (.t 42))⟩])
  (.cond (.t 43)
    (.seq (.reg [⟨(some 6), none, 0, .see (.mov (.c (.r (.v (.bool false)))))⟩])
    .ret)
    .skip))
  (.seq (.reg [⟨(some 44), none, 0, .see (.mov (.t 7))⟩,
    ⟨(some 45), none, 0, .see (.un .not (.t 44))⟩,
    ⟨(some 46), none, 0, .see (.mov (.t 45))⟩,
    ⟨(some 47), (some (46, false)), 0, .see (.ld (some 3) (.t 4))⟩,
    ⟨(some 48), (some (46, false)), 0, .see (.ld (some 3) (.t 5))⟩,
    ⟨(some 49), (some (46, false)), 5, .call 8 [(.t 47), (.t 48)]⟩,
    ⟨(some 50), (some (46, false)), 0, .see (.un .not (.t 49))⟩,
    ⟨(some 51), none, 0, .see (.pick (.t 46) (.c (.r (.v (.bool true)))) (.t 50))⟩,
    ⟨(some 52), none, 0, .see (.mov (.t 51))⟩,
    ⟨(some 53), (some (52, false)), 0, .see (.ld (some 3) (.t 3))⟩,
    ⟨(some 54), (some (52, false)), 0, .see (.ld (some 3) (.t 5))⟩,
    ⟨(some 55), (some (52, false)), 6, .call 8 [(.t 53), (.t 54)]⟩,
    ⟨(some 56), none, 0, .see (.pick (.t 52) (.c (.r (.v (.bool true)))) (.t 55))⟩,
    ⟨(some 57), none, 0, .see (.mov (.t 56))⟩,
    ⟨(some 58), (some (57, true)), 7, .call 10 []⟩,
    ⟨(some 59), none, 0, .see (.pick (.t 57) (.t 58) (.c (.r (.v (.bool false)))))⟩,
    ⟨(some 6), none, 0, .see (.mov (.t 59))⟩])
  .ret))))
noncomputable abbrev apiarylaw17_TreeLess_code : Code := (Go.Proofs.Try.f3.body).getD .skip
theorem apiarylaw17_TreeLess_chk : chkC Go.Proofs.Try.prog 60 apiarylaw17_TreeLess_code apiarylaw17_TreeLess_pc = true := by kernel_rfl
theorem apiarylaw17_TreeLess_triple {args : List AV} {po ro : List Ob} {res : AV} (hal : args.length = 3) (hpo : po.length ≤ 1000)
    (h : run Go.Proofs.Try.prog po.length (RetP po.length [(6, false, none)] fun v os => v = res ∧ os = ro) [.c apiarylaw17_TreeLess_pc] ⟨argE 0 args, ob0 po⟩) : Triple Go.Proofs.Try.prog 3 args po res ro :=
  triple_of_W (fn := Go.Proofs.Try.f3) (c := apiarylaw17_TreeLess_code) (pc := apiarylaw17_TreeLess_pc) (rs := [(6, false, none)]) Go.Proofs.Try.func3 rfl (by decide) (by have := apiarylaw17_TreeLess_chk; exact this) (by rw [hal]; decide) rfl (by kernel_rfl) (by kernel_rfl) (by decide) hpo (W_of_run h)

theorem firstP {ns : List (List Ky)} (h : Good ns) (hn : ns.flatten.length ≤ 100000) (c : Int) : Triple Go.Proofs.Try.prog 19 [.ptr 1000000 0 0, int .u64 c] [.abs (tr ns)] (.tup [(firstS ns c).1.av, bl (firstS ns c).2]) [.abs (tr ns)] :=
  view0 (T := tr ns) (first_t h hn _ c) rfl rfl (by simp [Flat, Flats, FlatR, FlatRs, Ky.av, Ky.rv])
theorem lenP (ns : List (List Ky)) : Triple Go.Proofs.Try.prog 13 [.ptr 1000000 0 0] [.abs (tr ns)] (int .i64 ns.flatten.length) [.abs (tr ns)] :=
  view0 (T := tr ns) (len_t ns _) rfl rfl (by simp [Flat, FlatR])
abbrev kA : Ky := ⟨5, -2, 1⟩
abbrev kB : Ky := ⟨5, 3, 2⟩
theorem goodA : Good [[kA]] := ⟨by simp, by simp [Srt]⟩
theorem goodAB : Good [[kA, kB]] := ⟨by simp, by simp [Srt, kl]⟩
theorem good0 : Good [] := ⟨by simp, by simp [Srt]⟩
set_option maxRecDepth 100000 in
theorem awake_t : Triple Go.Proofs.Try.prog 10 [] [] (bl true) [] := by
  have p1 : Triple Go.Proofs.Try.prog 12 [.ptr 1000000 0 0, kA.av] [.abs (tr [])] (bl true) [.abs (tr [[kA]])] := put_t good0 (by simp) kA
  have p2 : Triple Go.Proofs.Try.prog 12 [.ptr 1000000 0 0, kB.av] [.abs (tr [[kA]])] (bl true) [.abs (tr [[kA, kB]])] := put_t goodA (by simp) kB
  have p3 : Triple Go.Proofs.Try.prog 12 [.ptr 1000000 0 0, kA.av] [.abs (tr [[kA, kB]])] (bl false) [.abs (tr [[kA, kB]])] := put_t goodAB (by simp) kA
  have p4 : Triple Go.Proofs.Try.prog 19 [.ptr 1000000 0 0, int .u64 5] [.abs (tr [[kA, kB]])] (.tup [kA.av, bl true]) [.abs (tr [[kA, kB]])] := firstP goodAB (by simp) 5
  have p5 : Triple Go.Proofs.Try.prog 13 [.ptr 1000000 0 0] [.abs (tr [[kA, kB]])] (int .i64 2) [.abs (tr [[kA, kB]])] := lenP [[kA, kB]]
  refine apiarylaw17_awake_triple rfl (by decide) ?_
  simp only [apiarylaw17_awake_pc, List.length_nil, push_cast, ↓reduceIte, reduceCtorEq, Nat.reduceBEq, Nat.reduceEqDiff, Nat.reduceAdd, Nat.reduceSub, Nat.reduceLT, Nat.reduceLeDiff, Nat.reduceMul]
  refine call_mk new_t rfl trivial ?_
  simp only [push_cast, ↓reduceIte, reduceCtorEq, Nat.reduceBEq, Nat.reduceEqDiff, Nat.reduceAdd, Nat.reduceSub, Nat.reduceLT, Nat.reduceLeDiff, Nat.reduceMul]
  refine call_mk p1 rfl ⟨rfl, trivial⟩ ?_
  simp only [push_cast, ↓reduceIte, reduceCtorEq, Nat.reduceBEq, Nat.reduceEqDiff, Nat.reduceAdd, Nat.reduceSub, Nat.reduceLT, Nat.reduceLeDiff, Nat.reduceMul]
  refine call_mk p2 rfl ⟨rfl, trivial⟩ ?_
  simp only [push_cast, ↓reduceIte, reduceCtorEq, Nat.reduceBEq, Nat.reduceEqDiff, Nat.reduceAdd, Nat.reduceSub, Nat.reduceLT, Nat.reduceLeDiff, Nat.reduceMul]
  refine call_mk p4 rfl ⟨rfl, trivial⟩ ?_
  simp only [Ky.av, Ky.rv, push_cast, ↓reduceIte, reduceCtorEq, Nat.reduceBEq, Nat.reduceEqDiff, Nat.reduceAdd, Nat.reduceSub, Nat.reduceLT, Nat.reduceLeDiff, Nat.reduceMul]
  refine call_mk p5 rfl ⟨rfl, trivial⟩ ?_
  simp only [Ky.av, Ky.rv, push_cast, ↓reduceIte, reduceCtorEq, Nat.reduceBEq, Nat.reduceEqDiff, Nat.reduceAdd, Nat.reduceSub, Nat.reduceLT, Nat.reduceLeDiff, Nat.reduceMul]
  refine call_mk p3 rfl ⟨rfl, trivial⟩ ?_
  simp only [Ky.av, Ky.rv, push_cast, ↓reduceIte, reduceCtorEq, Nat.reduceBEq, Nat.reduceEqDiff, Nat.reduceAdd, Nat.reduceSub, Nat.reduceLT, Nat.reduceLeDiff, Nat.reduceMul]
theorem kl_three (a b : Ky) : kl a b = true ∨ kl b a = true ∨ a = b := by
  rcases h1 : kl a b with _ | _
  · rcases h2 : kl b a with _ | _
    · exact .inr (.inr (kl_tot h1 h2))
    · exact .inr (.inl rfl)
  · exact .inl rfl
set_option maxRecDepth 100000 in
theorem treeLess_t (a b c : Ky) : Triple Go.Proofs.Try.prog 3 [a.av, b.av, c.av] [] (bl true) [] := by
  refine apiarylaw17_TreeLess_triple rfl (by decide) ?_
  simp only [apiarylaw17_TreeLess_pc, Ky.av, Ky.rv, List.length_nil, push_cast, ↓reduceIte, reduceCtorEq, Nat.reduceBEq, Nat.reduceEqDiff, Nat.reduceAdd, Nat.reduceSub, Nat.reduceLT, Nat.reduceLeDiff, Nat.reduceMul]
  refine dcall_mk (less_t a b) rfl trivial ?_
  simp only [push_cast, ↓reduceIte, reduceCtorEq, Nat.reduceBEq, Nat.reduceEqDiff, Nat.reduceAdd, Nat.reduceSub, Nat.reduceLT, Nat.reduceLeDiff, Nat.reduceMul]
  refine dcall_mk (less_t b a) rfl trivial ?_
  simp only [push_cast, ↓reduceIte, reduceCtorEq, Nat.reduceBEq, Nat.reduceEqDiff, Nat.reduceAdd, Nat.reduceSub, Nat.reduceLT, Nat.reduceLeDiff, Nat.reduceMul]
  refine ⟨by kernel_rfl, ?_⟩
  refine call_mk (keyLess_t a b) rfl trivial ?_
  have hia := kl_irr a
  rcases hab : kl a b with _ | _
  · rcases hba : kl b a with _ | _
    · obtain rfl := kl_tot hab hba
      simp only [push_cast, ↓reduceIte, reduceCtorEq, Nat.reduceBEq, Nat.reduceEqDiff, Nat.reduceAdd, Nat.reduceSub, Nat.reduceLT, Nat.reduceLeDiff, Nat.reduceMul]
      refine call_mk (less_t a a) rfl trivial ?_
      simp only [hia, push_cast, ↓reduceIte, reduceCtorEq, Nat.reduceBEq, Nat.reduceEqDiff, Nat.reduceAdd, Nat.reduceSub, Nat.reduceLT, Nat.reduceLeDiff, Nat.reduceMul]
      refine call_mk awake_t rfl trivial ?_
      simp only [push_cast, ↓reduceIte, reduceCtorEq, Nat.reduceBEq, Nat.reduceEqDiff, Nat.reduceAdd, Nat.reduceSub, Nat.reduceLT, Nat.reduceLeDiff, Nat.reduceMul]
    · simp only [push_cast, ↓reduceIte, reduceCtorEq, Nat.reduceBEq, Nat.reduceEqDiff, Nat.reduceAdd, Nat.reduceSub, Nat.reduceLT, Nat.reduceLeDiff, Nat.reduceMul]
      refine call_mk (less_t a a) rfl trivial ?_
      simp only [hia, push_cast, ↓reduceIte, reduceCtorEq, Nat.reduceBEq, Nat.reduceEqDiff, Nat.reduceAdd, Nat.reduceSub, Nat.reduceLT, Nat.reduceLeDiff, Nat.reduceMul]
      refine call_mk awake_t rfl trivial ?_
      simp only [push_cast, ↓reduceIte, reduceCtorEq, Nat.reduceBEq, Nat.reduceEqDiff, Nat.reduceAdd, Nat.reduceSub, Nat.reduceLT, Nat.reduceLeDiff, Nat.reduceMul]
  · have hba := kl_asym hab
    simp only [hba, push_cast, ↓reduceIte, reduceCtorEq, Nat.reduceBEq, Nat.reduceEqDiff, Nat.reduceAdd, Nat.reduceSub, Nat.reduceLT, Nat.reduceLeDiff, Nat.reduceMul]
    refine call_mk (less_t a a) rfl trivial ?_
    simp only [hia, push_cast, ↓reduceIte, reduceCtorEq, Nat.reduceBEq, Nat.reduceEqDiff, Nat.reduceAdd, Nat.reduceSub, Nat.reduceLT, Nat.reduceLeDiff, Nat.reduceMul]
    refine call_mk (less_t b c) rfl trivial ?_
    rcases hbc : kl b c with _ | _
    · simp only [push_cast, ↓reduceIte, reduceCtorEq, Nat.reduceBEq, Nat.reduceEqDiff, Nat.reduceAdd, Nat.reduceSub, Nat.reduceLT, Nat.reduceLeDiff, Nat.reduceMul]
      refine call_mk awake_t rfl trivial ?_
      simp only [push_cast, ↓reduceIte, reduceCtorEq, Nat.reduceBEq, Nat.reduceEqDiff, Nat.reduceAdd, Nat.reduceSub, Nat.reduceLT, Nat.reduceLeDiff, Nat.reduceMul]
    · have hac := kl_trans hab hbc
      simp only [push_cast, ↓reduceIte, reduceCtorEq, Nat.reduceBEq, Nat.reduceEqDiff, Nat.reduceAdd, Nat.reduceSub, Nat.reduceLT, Nat.reduceLeDiff, Nat.reduceMul]
      refine call_mk (less_t a c) rfl trivial ?_
      simp only [hac, push_cast, ↓reduceIte, reduceCtorEq, Nat.reduceBEq, Nat.reduceEqDiff, Nat.reduceAdd, Nat.reduceSub, Nat.reduceLT, Nat.reduceLeDiff, Nat.reduceMul]
      refine call_mk awake_t rfl trivial ?_
      simp only [push_cast, ↓reduceIte, reduceCtorEq, Nat.reduceBEq, Nat.reduceEqDiff, Nat.reduceAdd, Nat.reduceSub, Nat.reduceLT, Nat.reduceLeDiff, Nat.reduceMul]
end Go.Ev
