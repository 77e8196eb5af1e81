import Derived.Test.YtjagonphgaphaaaPb5
namespace Go.Ev
open Go Go.RowKit
set_option linter.unnecessarySimpa false
set_option linter.unusedSimpArgs false
set_option linter.unusedVariables false
noncomputable def apiarylaw21_awake_pc : PC :=
  (.seq (.reg [⟨(some 0), none, 0, .see (.mov (.c (.r (.v (.bool false)))))⟩])
  (.seq (.reg [⟨(some 4), none, 1, .call 20 [(.c (.nils 1 (.v (.int .u8 0)))), (.c (.r (.v (.int .i64 1)))), (.c (.r (.v (.int .u64 300))))]⟩,
    ⟨(some 1), none, 0, .see (.mov (.t 4))⟩])
  (.seq (.reg [⟨(some 6), none, 0, .see (.mov (.t 1))⟩,
    ⟨(some 7), none, 2, .call 14 [(.t 6)]⟩,
    ⟨(some 5), none, 0, .see (.mov (.t 7))⟩,
    ⟨(some 8), none, 0, .see (.ext (.t 5) 0)⟩,
    ⟨(some 9), none, 0, .see (.ext (.t 5) 1)⟩,
    ⟨(some 2), none, 0, .see (.mov (.t 8))⟩,
    ⟨(some 3), none, 0, .see (.mov (.t 9))⟩])
  (.seq (.reg [⟨(some 10), none, 0, .see (.mov (.t 1))⟩,
    ⟨(some 11), none, 0, .see (.toStr (.t 10))⟩,
    ⟨(some 12), none, 0, .see (.bin .eql (.t 11) (.c (.r (.v (.string ⟨#[8, 172, 2]⟩)))))⟩,
    ⟨(some 13), none, 0, .see (.mov (.t 12))⟩,
    ⟨(some 14), (some (13, true)), 0, .see (.mov (.t 3))⟩,
    ⟨(some 15), (some (13, true)), 0, .see (.bin .eql (.t 14) (.c (.r (.v (.int .i64 0)))))⟩,
    ⟨(some 16), none, 0, .see (.pick (.t 13) (.t 15) (.c (.r (.v (.bool false)))))⟩,
    ⟨(some 17), none, 0, .see (.mov (.t 16))⟩,
    ⟨(some 18), (some (17, true)), 0, .see (.mov (.t 2))⟩,
    ⟨(some 19), (some (17, true)), 0, .see (.len false (.t 18))⟩,
    ⟨(some 20), (some (17, true)), 0, .see (.bin .eql (.t 19) (.c (.r (.v (.int .i64 1)))))⟩,
    ⟨(some 21), none, 0, .see (.pick (.t 17) (.t 20) (.c (.r (.v (.bool false)))))⟩,
    ⟨(some 22), none, 0, .see (.mov (.t 21))⟩,
    ⟨(some 23), (some (22, true)), 0, .see (.mov (.t 2))⟩,
    ⟨(some 24), (some (22, true)), 0, .see (.ia 4 (.agg [(.v (.int .i64 0)), (.v (.int .i64 0)), (.v (.int .u64 0)), (.sl 1 [])]) (.t 23) (.c (.r (.v (.int .i64 0)))))⟩,
    ⟨(some 25), (some (22, true)), 0, .see (.fa 2 (.t 24))⟩,
    ⟨(some 26), (some (22, true)), 0, .see (.ld none (.t 25))⟩,
    ⟨(some 27), (some (22, true)), 0, .see (.bin .eql (.t 26) (.c (.r (.v (.int .u64 300)))))⟩,
    ⟨(some 28), none, 0, .see (.pick (.t 22) (.t 27) (.c (.r (.v (.bool false)))))⟩,
    ⟨(some 29), none, 0, .see (.mov (.t 28))⟩,
    ⟨(some 30), (some (29, true)), 0, .see (.mov (.t 2))⟩,
    ⟨(some 31), (some (29, true)), 0, .see (.ia 4 (.agg [(.v (.int .i64 0)), (.v (.int .i64 0)), (.v (.int .u64 0)), (.sl 1 [])]) (.t 30) (.c (.r (.v (.int .i64 0)))))⟩,
    ⟨(some 32), (some (29, true)), 0, .see (.fa 0 (.t 31))⟩,
    ⟨(some 33), (some (29, true)), 0, .see (.ld none (.t 32))⟩,
    ⟨(some 34), (some (29, true)), 0, .see (.bin .eql (.t 33) (.c (.r (.v (.int .i64 1)))))⟩,
    ⟨(some 35), none, 0, .see (.pick (.t 29) (.t 34) (.c (.r (.v (.bool false)))))⟩,
    ⟨(some 36), none, 0, .see (.mov (.t 35))⟩,
    ⟨(some 37), (some (36, true)), 3, .call 9 [(.c (.r (.v (.int .i64 (-1)))))]⟩,
    ⟨(some 38), (some (36, true)), 0, .see (.bin .eql (.t 37) (.c (.r (.v (.int .u64 1)))))⟩,
    ⟨(some 39), none, 0, .see (.pick (.t 36) (.t 38) (.c (.r (.v (.bool false)))))⟩,
    ⟨(some 0), none, 0, .see (.mov (.t 39))⟩])
  .ret))))
noncomputable abbrev apiarylaw21_awake_code : Code := (Go.Proofs.Try.f10.body).getD .skip
theorem apiarylaw21_awake_chk : chkC Go.Proofs.Try.prog 40 apiarylaw21_awake_code apiarylaw21_awake_pc = true := by kernel_rfl
theorem apiarylaw21_awake_triple {args : List AV} {po ro : List Ob} {res : AV} (hal : args.length = 0) (hpo : po.length ≤ 1000)
    (h : run Go.Proofs.Try.prog po.length (RetP po.length [(0, false, none)] fun v os => v = res ∧ os = ro) [.c apiarylaw21_awake_pc] ⟨argE 0 args, ob0 po⟩) : Triple Go.Proofs.Try.prog 10 args po res ro :=
  triple_of_W (fn := Go.Proofs.Try.f10) (c := apiarylaw21_awake_code) (pc := apiarylaw21_awake_pc) (rs := [(0, false, none)]) Go.Proofs.Try.func10 rfl (by decide) (by have := apiarylaw21_awake_chk; exact this) (by rw [hal]; decide) rfl (by kernel_rfl) (by kernel_rfl) (by decide) hpo (W_of_run h)

noncomputable def apiarylaw21_PbfSmall_pc : PC :=
  (.seq (.reg [⟨(some 2), none, 0, .see (.mov (.c (.r (.v (.bool false)))))⟩])
  (.seq (.reg [⟨(some 12), none, 0, .see (.mov (.t 0))⟩,
    ⟨(some 13), none, 1, .call 19 [(.c (.nils 1 (.v (.int .u8 0)))), (.t 12)]⟩,
    ⟨(some 3), none, 0, .see (.mov (.t 13))⟩])
  (.seq (.seq (.reg [⟨(some 14), none, 0, .see (.mov (.t 3))⟩,
    ⟨(some 15), none, 0, .see (.len false (.t 14))⟩,
    ⟨(some 16), none, 0, .see (.bin .eql (.t 15) (.c (.r (.v (.int .i64 0)))))⟩])
  (.cond (.t 16)
    (.seq (.reg [⟨(some 2), none, 0, .see (.mov (.c (.r (.v (.bool false)))))⟩])
    .ret)
    .skip))
  (.seq (.reg [⟨(some 4), none, 0, .see (.mov (.c (.r (.v (.int .i64 1)))))⟩])
  (.seq (.seq (.reg [⟨(some 17), none, 0, .see (.mov (.t 0))⟩,
    ⟨(some 18), none, 0, .see (.bin .shr (.t 17) (.c (.r (.v (.int .u64 7)))))⟩,
    ⟨(some 5), none, 0, .see (.mov (.t 18))⟩])
  (.block 0 (.loop (.seq (.seq (.reg [⟨(some 19), none, 0, .see (.mov (.t 5))⟩,
    ⟨(some 20), none, 0, .see (.bin .gtr (.t 19) (.c (.r (.v (.int .u64 0)))))⟩])
  (.cond (.t 20)
    .skip
    (.exit 0)))
  (.seq (.block 1 (.reg [⟨(some 23), none, 0, .see (.mov (.t 4))⟩,
    ⟨(some 24), none, 0, .see (.bin .add (.t 23) (.c (.r (.v (.int .i64 1)))))⟩,
    ⟨(some 4), none, 0, .see (.mov (.t 24))⟩]))
  (.reg [⟨(some 21), none, 0, .see (.mov (.t 5))⟩,
    ⟨(some 22), none, 0, .see (.bin .shr (.t 21) (.c (.r (.v (.int .u64 7)))))⟩,
    ⟨(some 5), none, 0, .see (.mov (.t 22))⟩]))))))
  (.seq (.reg [⟨(some 26), none, 0, .see (.mov (.t 3))⟩,
    ⟨(some 27), none, 2, .call 16 [(.t 26)]⟩,
    ⟨(some 25), none, 0, .see (.mov (.t 27))⟩,
    ⟨(some 28), none, 0, .see (.ext (.t 25) 0)⟩,
    ⟨(some 29), none, 0, .see (.ext (.t 25) 1)⟩,
    ⟨(some 6), none, 0, .see (.mov (.t 28))⟩,
    ⟨(some 7), none, 0, .see (.mov (.t 29))⟩])
  (.seq (.drw [⟨(some 31), none, 0, .act (.bsl 1 (.v (.int .u8 0)) [])⟩,
    ⟨(some 32), none, 0, .see (.mov (.t 3))⟩,
    ⟨(some 33), none, 0, .see (.mov (.t 3))⟩,
    ⟨(some 34), none, 0, .see (.len false (.t 33))⟩,
    ⟨(some 35), none, 0, .see (.bin .sub (.t 34) (.c (.r (.v (.int .i64 1)))))⟩,
    ⟨(some 36), none, 0, .see (.sll 1 (.t 32) none (some (.t 35)) none)⟩,
    ⟨(some 37), none, 0, .act (.app 1 (.v (.int .u8 0)) 1 (.t 31) (.t 36))⟩,
    ⟨(some 38), none, 0, .see (.mov (.t 3))⟩,
    ⟨(some 39), none, 0, .see (.mov (.t 3))⟩,
    ⟨(some 40), none, 0, .see (.len false (.t 39))⟩,
    ⟨(some 41), none, 0, .see (.bin .sub (.t 40) (.c (.r (.v (.int .i64 1)))))⟩,
    ⟨(some 42), none, 0, .see (.ia 1 (.v (.int .u8 0)) (.t 38) (.t 41))⟩,
    ⟨(some 43), none, 0, .see (.ld none (.t 42))⟩,
    ⟨(some 44), none, 0, .see (.bin .or (.t 43) (.c (.r (.v (.int .u8 128)))))⟩,
    ⟨(some 45), none, 0, .act (.bsl 1 (.v (.int .u8 0)) [(.t 44)])⟩,
    ⟨(some 46), none, 0, .act (.app 1 (.v (.int .u8 0)) 1 (.t 37) (.t 45))⟩,
    ⟨(some 47), none, 3, .call 16 [(.t 46)]⟩,
    ⟨(some 30), none, 0, .see (.mov (.t 47))⟩,
    ⟨(some 48), none, 0, .see (.ext (.t 30) 0)⟩,
    ⟨(some 49), none, 0, .see (.ext (.t 30) 1)⟩,
    ⟨(some 8), none, 0, .see (.mov (.t 48))⟩,
    ⟨(some 9), none, 0, .see (.mov (.t 49))⟩]
    [[], [], [], [2], [2, 3], [1, 2, 3, 4], [0, 1, 2, 3, 4, 5], [], [], [8], [8, 9], [7, 8, 9, 10], [7, 8, 9, 10, 11], [7, 8, 9, 10, 11, 12], [7, 8, 9, 10, 11, 12, 13], [0, 1, 2, 3, 4, 5, 6, 7, 8, 9, 10, 11, 12, 13, 14], [0, 1, 2, 3, 4, 5, 6, 7, 8, 9, 10, 11, 12, 13, 14, 15], [0, 1, 2, 3, 4, 5, 6, 7, 8, 9, 10, 11, 12, 13, 14, 15, 16], [0, 1, 2, 3, 4, 5, 6, 7, 8, 9, 10, 11, 12, 13, 14, 15, 16, 17], [0, 1, 2, 3, 4, 5, 6, 7, 8, 9, 10, 11, 12, 13, 14, 15, 16, 17], [0, 1, 2, 3, 4, 5, 6, 7, 8, 9, 10, 11, 12, 13, 14, 15, 16, 17, 18], [0, 1, 2, 3, 4, 5, 6, 7, 8, 9, 10, 11, 12, 13, 14, 15, 16, 17, 18, 19, 20]])
  (.seq (.drw [⟨(some 51), none, 0, .act (.bsl 1 (.v (.int .u8 0)) [])⟩,
    ⟨(some 52), none, 0, .see (.mov (.t 3))⟩,
    ⟨(some 53), none, 0, .see (.mov (.t 3))⟩,
    ⟨(some 54), none, 0, .see (.len false (.t 53))⟩,
    ⟨(some 55), none, 0, .see (.bin .sub (.t 54) (.c (.r (.v (.int .i64 1)))))⟩,
    ⟨(some 56), none, 0, .see (.sll 1 (.t 52) none (some (.t 55)) none)⟩,
    ⟨(some 57), none, 0, .act (.app 1 (.v (.int .u8 0)) 1 (.t 51) (.t 56))⟩,
    ⟨(some 58), none, 0, .see (.mov (.t 3))⟩,
    ⟨(some 59), none, 0, .see (.mov (.t 3))⟩,
    ⟨(some 60), none, 0, .see (.len false (.t 59))⟩,
    ⟨(some 61), none, 0, .see (.bin .sub (.t 60) (.c (.r (.v (.int .i64 1)))))⟩,
    ⟨(some 62), none, 0, .see (.ia 1 (.v (.int .u8 0)) (.t 58) (.t 61))⟩,
    ⟨(some 63), none, 0, .see (.ld none (.t 62))⟩,
    ⟨(some 64), none, 0, .see (.bin .or (.t 63) (.c (.r (.v (.int .u8 128)))))⟩,
    ⟨(some 65), none, 0, .act (.bsl 1 (.v (.int .u8 0)) [(.t 64)])⟩,
    ⟨(some 66), none, 0, .act (.app 1 (.v (.int .u8 0)) 1 (.t 57) (.t 65))⟩,
    ⟨(some 67), none, 0, .act (.bsl 1 (.v (.int .u8 0)) [(.c (.r (.v (.int .u8 0))))])⟩,
    ⟨(some 68), none, 0, .act (.app 1 (.v (.int .u8 0)) 1 (.t 66) (.t 67))⟩,
    ⟨(some 69), none, 4, .call 16 [(.t 68)]⟩,
    ⟨(some 50), none, 0, .see (.mov (.t 69))⟩,
    ⟨(some 70), none, 0, .see (.ext (.t 50) 0)⟩,
    ⟨(some 71), none, 0, .see (.ext (.t 50) 1)⟩,
    ⟨(some 10), none, 0, .see (.mov (.t 70))⟩,
    ⟨(some 11), none, 0, .see (.mov (.t 71))⟩]
    [[], [], [], [2], [2, 3], [1, 2, 3, 4], [0, 1, 2, 3, 4, 5], [], [], [8], [8, 9], [7, 8, 9, 10], [7, 8, 9, 10, 11], [7, 8, 9, 10, 11, 12], [7, 8, 9, 10, 11, 12, 13], [0, 1, 2, 3, 4, 5, 6, 7, 8, 9, 10, 11, 12, 13, 14], [], [0, 1, 2, 3, 4, 5, 6, 7, 8, 9, 10, 11, 12, 13, 14, 15, 16], [0, 1, 2, 3, 4, 5, 6, 7, 8, 9, 10, 11, 12, 13, 14, 15, 16, 17], [0, 1, 2, 3, 4, 5, 6, 7, 8, 9, 10, 11, 12, 13, 14, 15, 16, 17, 18], [0, 1, 2, 3, 4, 5, 6, 7, 8, 9, 10, 11, 12, 13, 14, 15, 16, 17, 18, 19], [0, 1, 2, 3, 4, 5, 6, 7, 8, 9, 10, 11, 12, 13, 14, 15, 16, 17, 18, 19], [0, 1, 2, 3, 4, 5, 6, 7, 8, 9, 10, 11, 12, 13, 14, 15, 16, 17, 18, 19, 20], [0, 1, 2, 3, 4, 5, 6, 7, 8, 9, 10, 11, 12, 13, 14, 15, 16, 17, 18, 19, 20, 21, 22]])
  (.seq (.reg [⟨(some 72), none, 0, .see (.mov (.t 3))⟩,
    ⟨(some 73), none, 0, .see (.len false (.t 72))⟩,
    ⟨(some 74), none, 0, .see (.mov (.t 4))⟩,
    ⟨(some 75), none, 0, .see (.bin .eql (.t 73) (.t 74))⟩,
    ⟨(some 76), none, 0, .see (.mov (.t 75))⟩,
    ⟨(some 77), (some (76, true)), 0, .see (.mov (.t 7))⟩,
    ⟨(some 78), (some (76, true)), 0, .see (.bin .eql (.t 77) (.c (.r (.v (.int .i64 0)))))⟩,
    ⟨(some 79), none, 0, .see (.pick (.t 76) (.t 78) (.c (.r (.v (.bool false)))))⟩,
    ⟨(some 80), none, 0, .see (.mov (.t 79))⟩,
    ⟨(some 81), (some (80, true)), 0, .see (.mov (.t 6))⟩,
    ⟨(some 82), (some (80, true)), 0, .see (.len false (.t 81))⟩,
    ⟨(some 83), (some (80, true)), 0, .see (.bin .eql (.t 82) (.c (.r (.v (.int .i64 1)))))⟩,
    ⟨(some 84), none, 0, .see (.pick (.t 80) (.t 83) (.c (.r (.v (.bool false)))))⟩,
    ⟨(some 85), none, 0, .see (.mov (.t 84))⟩,
    ⟨(some 86), (some (85, true)), 0, .see (.mov (.t 6))⟩,
    ⟨(some 87), (some (85, true)), 0, .see (.ia 1 (.v (.int .u64 0)) (.t 86) (.c (.r (.v (.int .i64 0)))))⟩,
    ⟨(some 88), (some (85, true)), 0, .see (.ld none (.t 87))⟩,
    ⟨(some 89), (some (85, true)), 0, .see (.mov (.t 0))⟩,
    ⟨(some 90), (some (85, true)), 0, .see (.bin .eql (.t 88) (.t 89))⟩,
    ⟨(some 91), none, 0, .see (.pick (.t 85) (.t 90) (.c (.r (.v (.bool false)))))⟩,
    ⟨(some 92), none, 0, .see (.mov (.t 91))⟩,
    ⟨(some 93), (some (92, true)), 0, .see (.mov (.t 9))⟩,
    ⟨(some 94), (some (92, true)), 0, .see (.bin .eql (.t 93) (.c (.r (.v (.int .i64 10)))))⟩,
    ⟨(some 95), none, 0, .see (.pick (.t 92) (.t 94) (.c (.r (.v (.bool false)))))⟩,
    ⟨(some 96), none, 0, .see (.mov (.t 95))⟩,
    ⟨(some 97), (some (96, true)), 0, .see (.mov (.t 11))⟩,
    ⟨(some 98), (some (96, true)), 0, .see (.bin .eql (.t 97) (.c (.r (.v (.int .i64 10)))))⟩,
    ⟨(some 99), none, 0, .see (.pick (.t 96) (.t 98) (.c (.r (.v (.bool false)))))⟩,
    ⟨(some 100), none, 0, .see (.mov (.t 99))⟩,
    ⟨(some 101), (some (100, true)), 5, .call 10 []⟩,
    ⟨(some 102), none, 0, .see (.pick (.t 100) (.t 101) (.c (.r (.v (.bool false)))))⟩,
    ⟨(some 2), none, 0, .see (.mov (.t 102))⟩])
  .ret)))))))))
noncomputable abbrev apiarylaw21_PbfSmall_code : Code := (Go.Proofs.Try.f5.body).getD .skip
theorem apiarylaw21_PbfSmall_chk : chkC Go.Proofs.Try.prog 103 apiarylaw21_PbfSmall_code apiarylaw21_PbfSmall_pc = true := by kernel_rfl
theorem apiarylaw21_PbfSmall_triple {args : List AV} {po ro : List Ob} {res : AV} (hal : args.length = 1) (hpo : po.length ≤ 1000)
    (h : run Go.Proofs.Try.prog po.length (RetP po.length [(2, false, none)] fun v os => v = res ∧ os = ro) [.c apiarylaw21_PbfSmall_pc] ⟨argE 0 args, ob0 po⟩) : Triple Go.Proofs.Try.prog 5 args po res ro :=
  triple_of_W (fn := Go.Proofs.Try.f5) (c := apiarylaw21_PbfSmall_code) (pc := apiarylaw21_PbfSmall_pc) (rs := [(2, false, none)]) Go.Proofs.Try.func5 rfl (by decide) (by have := apiarylaw21_PbfSmall_chk; exact this) (by rw [hal]; decide) rfl (by kernel_rfl) (by kernel_rfl) (by decide) hpo (W_of_run h)

set_option maxRecDepth 100000 in
theorem awake21_t : Triple Go.Proofs.Try.prog 10 [] [] (bl true) [] := by
  refine apiarylaw21_awake_triple rfl (by decide) ?_
  have h1 : ([] ++ numL 1 300) = [8, 172, 2] := by decide +kernel
  have hn := num_t [] 1 300 (by decide) (by decide) (by decide) (by simp)
  rw [h1] at hn
  have h2 : readL [8, 172, 2] = some [(1, 0, 300, [])] := by decide +kernel
  have hr := read_t [8, 172, 2] (by simp)
  rw [h2] at hr
  simp only [apiarylaw21_awake_pc, List.length_nil, push_cast, ↓reduceIte, reduceCtorEq, Nat.reduceBEq, Nat.reduceEqDiff, Nat.reduceAdd, Nat.reduceSub, Nat.reduceLT, Nat.reduceLeDiff, Nat.reduceMul]
  refine call_as (as' := [sb [], int .i64 1, int .u64 300]) rfl ?_
  refine call_mk hn rfl trivial ?_
  simp only [push_cast, ↓reduceIte, reduceCtorEq, Nat.reduceBEq, Nat.reduceEqDiff, Nat.reduceAdd, Nat.reduceSub, Nat.reduceLT, Nat.reduceLeDiff, Nat.reduceMul]
  refine callA_give ?_
  simp only [push_cast, ↓reduceIte, reduceCtorEq, Nat.reduceBEq, Nat.reduceEqDiff, Nat.reduceAdd, Nat.reduceSub, Nat.reduceLT, Nat.reduceLeDiff, Nat.reduceMul]
  refine call_as (as' := [sb [8, 172, 2]]) rfl ?_
  refine call_mk hr rfl trivial ?_
  have z0 : Int.toNat 0 = 0 := rfl
  simp only [readR, readO, fldV, by8_isByte, byteOf_by8, z0, Nat.zero_add, push_cast, ↓reduceIte, reduceCtorEq, Nat.reduceBEq, Nat.reduceEqDiff, Nat.reduceAdd, Nat.reduceSub, Nat.reduceLT, Nat.reduceLeDiff, Nat.reduceMul]
  refine ⟨by decide, by decide, ?_⟩
  refine call_mk (zig_t (-1) (by decide)) rfl trivial ?_
  rw [show zig (-1) = 1 by decide]
  simp only [push_cast, ↓reduceIte, reduceCtorEq, Nat.reduceBEq, Nat.reduceEqDiff, Nat.reduceAdd, Nat.reduceSub, Nat.reduceLT, Nat.reduceLeDiff, Nat.reduceMul]
set_option maxRecDepth 100000 in
theorem small_t (n : Nat) (hn : n < 18446744073709551616) : Triple Go.Proofs.Try.prog 5 [int .u64 n] [] (bl true) [] := by
  refine apiarylaw21_PbfSmall_triple rfl (by decide) ?_
  obtain ⟨U, hU⟩ : ∃ U : Int, U = n := ⟨_, rfl⟩
  have hUn : U.toNat = n := by omega
  have hpos := varL_pos n
  have hmax := maxLen_big
  have hlen := varL_len n
  have hgr := varL_groups n hn
  have hvs := varsL_var n hn
  obtain ⟨q, c, hq, hc, hq1⟩ := varL_init n hn
  have hv := var_t [] U (by omega) (by omega) (by simp)
  rw [hUn, List.nil_append] at hv
  rw [← hU]
  obtain ⟨L, hL⟩ : ∃ L : Int, L = (varL n).length := ⟨_, rfl⟩
  simp only [apiarylaw21_PbfSmall_pc, List.length_nil, push_cast, ↓reduceIte, reduceCtorEq, Nat.reduceBEq, Nat.reduceEqDiff, Nat.reduceAdd, Nat.reduceSub, Nat.reduceLT, Nat.reduceLeDiff, Nat.reduceMul]
  refine call_as (as' := [sb [], int .u64 U]) rfl ?_
  refine call_mk hv rfl trivial ?_
  have g0 : (L == 0) = false := by rw [beq_eq_false_iff_ne]; omega
  have s7 : ∀ x : Int, x.fdiv (2 ^ min (Int.toNat 7) IntKind.u64.bits) = x / 128 := fun x => shr_u x 7 (by decide)
  simp only [← hL, g0, s7, push_cast, ↓reduceIte, reduceCtorEq, Nat.reduceBEq, Nat.reduceEqDiff, Nat.reduceAdd, Nat.reduceSub, Nat.reduceLT, Nat.reduceLeDiff, Nat.reduceMul]
  refine ⟨by decide, ?_⟩
  refine run_loop [(0, false), (3, false), (4, false), (5, false)] (fun vs pos los => ∃ (k M : Int) (f : Nat), 0 ≤ M ∧ M.toNat < 128 ^ f ∧ k + groups f M.toNat = L ∧ 1 ≤ k ∧ pos = [] ∧ los = [rowB (varL n)] ∧ vs = [int .u64 U, .own 2000000 0 0 (varL n).length, int .i64 k, int .u64 M])
    (fun vs _ _ => match vs with | [_, _, _, .r (.v (.int _ j))] => j.toNat | _ => 0) rfl ?_ ?_
  · simp only [push_cast, ↓reduceIte, reduceCtorEq, Nat.reduceBEq, Nat.reduceEqDiff, Nat.reduceAdd, Nat.reduceSub, Nat.reduceLT, Nat.reduceLeDiff, Nat.reduceMul]
    refine ⟨1, U / 128, 9, by omega, ?_, ?_, by omega, rfl⟩
    · exact Nat.lt_of_lt_of_le (show (U / 128).toNat < 144115188075855872 by omega) (by decide)
    · rw [show (U / 128).toNat = n / 128 by omega]; omega
  · rintro vs pos los ⟨k, M, f, M0, Mf, hk, k1, rfl, rfl, rfl⟩
    simp only [push_cast, ↓reduceIte, reduceCtorEq, Nat.reduceBEq, Nat.reduceEqDiff, Nat.reduceAdd, Nat.reduceSub, Nat.reduceLT, Nat.reduceLeDiff, Nat.reduceMul]
    refine cnd_mk (fun h => ?_) (fun h => ?_)
    · have h : M > 0 := by simpa using h
      obtain ⟨f', hf', hg', hm'⟩ := groups_on (f := f) (m := M.toNat) (by omega) Mf
      have w1 : IntKind.i64.wrap (k + 1) = k + 1 := wrap_id (by omega)
      have hM : (M / 128).toNat = M.toNat / 128 := by omega
      simp only [s7, w1, push_cast, ↓reduceIte, reduceCtorEq, Nat.reduceBEq, Nat.reduceEqDiff, Nat.reduceAdd, Nat.reduceSub, Nat.reduceLT, Nat.reduceLeDiff, Nat.reduceMul]
      refine ⟨by decide, ⟨k + 1, M / 128, f', by omega, by rw [hM]; exact hm', by rw [hM]; omega, by omega, rfl⟩, by omega⟩
    · have h : M = 0 := by have : ¬ M > 0 := by simpa using h
                           omega
      rw [h, show (0 : Int).toNat = 0 from rfl, groups_nought] at hk
      have hkL : k = L := by omega
      simp only [push_cast, ↓reduceIte, reduceCtorEq, Nat.reduceBEq, Nat.reduceEqDiff, Nat.reduceAdd, Nat.reduceSub, Nat.reduceLT, Nat.reduceLeDiff, Nat.reduceMul]
      refine callA_give ?_
      simp only [push_cast, ↓reduceIte, reduceCtorEq, Nat.reduceBEq, Nat.reduceEqDiff, Nat.reduceAdd, Nat.reduceSub, Nat.reduceLT, Nat.reduceLeDiff, Nat.reduceMul]
      refine call_as (as' := [sb (varL n)]) rfl ?_
      have hvt := vars_t (varL n) (by omega)
      rw [hvs] at hvt
      refine call_mk hvt rfl trivial ?_
      obtain ⟨C, hC⟩ : ∃ C : Int, C = c.toNat := ⟨_, rfl⟩
      have hql : q.length + 1 = (varL n).length := by rw [hq]; simp
      have w0 : IntKind.i64.wrap (L - 1) = L - 1 := wrap_id (by omega)
      have z0 : Int.toNat 0 = 0 := rfl
      have hlast : List.getD (bys (varL n)) (L - 1).toNat (.v (.int .u8 0)) = .v (.int .u8 C) := by
        rw [hq, show (L - 1).toNat = q.length by omega, hC]
        simp [List.getD, by8]
      have hq' : List.take (L - 1).toNat (bys (varL n)) = bys q := by
        rw [hq, show (L - 1).toNat = q.length by omega]
        simp
      have hor : RV.v (.int .u8 (IntKind.u8.wrap ((BitVec.ofInt IntKind.u8.bits C ||| BitVec.ofInt IntKind.u8.bits 128).toNat))) = by8 (UInt8.ofNat (c.toNat + 128)) := by
        have := or128 ⟨c.toNat, hc⟩
        simp only at this
        rw [hC, show IntKind.u8.bits = 8 from rfl, this, IntKind.wrap_u8]
        simp only [by8]
        congr 2
      simp only [varsR, varsO, ← hL, w0, z0, Nat.zero_add, Int.sub_zero, hlast, hq', push_cast, ↓reduceIte, reduceCtorEq, Nat.reduceBEq, Nat.reduceEqDiff, Nat.reduceAdd, Nat.reduceSub, Nat.reduceLT, Nat.reduceLeDiff, Nat.reduceMul]
      repeat refine And.intro (by first | omega | (simp; done) | (simp; omega) | (refine ⟨?_, ?_⟩ <;> omega)) ?_
      rw [hor]
      have hc' : (UInt8.ofNat (c.toNat + 128)).toNat = c.toNat + 128 := by simp; omega
      have hall : ∀ x ∈ q ++ [UInt8.ofNat (c.toNat + 128)], 128 ≤ x.toNat := fun x hx => by
        rcases List.mem_append.1 hx with h | h
        · exact hq1 x h
        · rw [List.mem_singleton.1 h, hc']; omega
      have hb1 : varsL (q ++ [UInt8.ofNat (c.toNat + 128)]) = none := varsL_bad (by simp) (takeF_high _ 0 0 hall)
      have hb2 : varsL (q ++ [UInt8.ofNat (c.toNat + 128), 0]) = none := by
        rw [show q ++ [UInt8.ofNat (c.toNat + 128), 0] = (q ++ [UInt8.ofNat (c.toNat + 128)]) ++ [0] by simp]
        exact varsL_bad (by simp) (takeF_high0 _ 0 0 hall (.inr (by simp)))
      have ht1 := vars_t (q ++ [UInt8.ofNat (c.toNat + 128)]) (by rw [List.length_append, List.length_singleton]; omega)
      have ht2 := vars_t (q ++ [UInt8.ofNat (c.toNat + 128), 0]) (by rw [List.length_append]; simp; omega)
      rw [hb1] at ht1
      rw [hb2] at ht2
      have hs1 : List.take (q.length + 1) (List.map by8 q ++ [by8 (UInt8.ofNat (c.toNat + 128))]) = bys (q ++ [UInt8.ofNat (c.toNat + 128)]) := by
        rw [List.take_of_length_le (by simp)]; simp
      rw [hs1]
      refine dcall_lend ht1 rfl trivial ⟨trivial, trivial, trivial⟩ (by simp [varsO]) ?_
      simp only [varsR, varsO, ← hL, w0, z0, Nat.zero_add, Int.sub_zero, hlast, hq', push_cast, ↓reduceIte, reduceCtorEq, Nat.reduceBEq, Nat.reduceEqDiff, Nat.reduceAdd, Nat.reduceSub, Nat.reduceLT, Nat.reduceLeDiff, Nat.reduceMul]
      refine ⟨by kernel_rfl, ?_⟩
      repeat refine And.intro (by first | omega | (simp; done) | (simp; omega) | (refine ⟨?_, ?_⟩ <;> omega)) ?_
      rw [hor, hs1]
      have hs2 : List.take (q.length + 1 + 1) (bys (q ++ [UInt8.ofNat (c.toNat + 128)]) ++ [RV.v (.int .u8 0)]) = bys (q ++ [UInt8.ofNat (c.toNat + 128), 0]) := by
        rw [List.take_of_length_le (by simp)]; simp [by8]
      rw [hs2]
      refine dcall_lend ht2 rfl trivial ⟨trivial, trivial, trivial⟩ (by simp [varsO]) ?_
      have gL : (L == k) = true := by rw [beq_iff_eq]; omega
      have gU : (U == U) = true := beq_self_eq_true U
      simp only [varsR, varsO, ← hL, gL, nums64, ← hU, gU, z0, Nat.zero_add, push_cast, ↓reduceIte, reduceCtorEq, Nat.reduceBEq, Nat.reduceEqDiff, Nat.reduceAdd, Nat.reduceSub, Nat.reduceLT, Nat.reduceLeDiff, Nat.reduceMul]
      refine ⟨by kernel_rfl, by decide, ?_⟩
      refine call_mk awake21_t rfl trivial ?_
      simp only [push_cast, ↓reduceIte, reduceCtorEq, Nat.reduceBEq, Nat.reduceEqDiff, Nat.reduceAdd, Nat.reduceSub, Nat.reduceLT, Nat.reduceLeDiff, Nat.reduceMul]
theorem small_t' (U : Int) (h0 : 0 ≤ U) (h1 : U < 18446744073709551616) : Triple Go.Proofs.Try.prog 5 [int .u64 U] [] (bl true) [] := by
  have := small_t U.toNat (by omega)
  rwa [Int.toNat_of_nonneg h0] at this
theorem gl_pbf (W : World) : Gl Go.Proofs.Try.prog W fun _ => False := gl_none (by kernel_rfl) (fun h => by cases h) (fun h => by cases h) W
end Go.Ev
