import Derived.Test.YtjagonphgaphaaaPb8
namespace Go.Ev
open Go Go.RowKit
set_option linter.unnecessarySimpa false
set_option linter.unusedSimpArgs false
set_option linter.unusedVariables false
noncomputable def apiarylaw21_PbfWrites_pc : PC :=
  (.seq (.reg [⟨(some 12), none, 0, .see (.mov (.c (.r (.v (.bool false)))))⟩])
  (.seq (.seq (.reg [⟨(some 15), none, 0, .see (.mov (.t 0))⟩,
    ⟨(some 16), none, 0, .see (.len false (.t 15))⟩,
    ⟨(some 17), none, 0, .see (.bin .gtr (.t 16) (.c (.r (.v (.int .i64 500)))))⟩,
    ⟨(some 18), none, 0, .see (.mov (.t 17))⟩,
    ⟨(some 19), (some (18, false)), 0, .see (.mov (.t 4))⟩,
    ⟨(some 20), (some (18, false)), 0, .see (.len false (.t 19))⟩,
    ⟨(some 21), (some (18, false)), 0, .see (.bin .gtr (.t 20) (.c (.r (.v (.int .i64 1000)))))⟩,
    ⟨(some 22), none, 0, .see (.pick (.t 18) (.c (.r (.v (.bool true)))) (.t 21))⟩,
    ⟨(some 23), none, 0, .see (.mov (.t 22))⟩,
    ⟨(some 24), (some (23, false)), 0, .see (.mov (.t 5))⟩,
    ⟨(some 25), (some (23, false)), 0, .see (.len false (.t 24))⟩,
    ⟨(some 26), (some (23, false)), 0, .see (.bin .gtr (.t 25) (.c (.r (.v (.int .i64 200)))))⟩,
    ⟨(some 27), none, 0, .see (.pick (.t 23) (.c (.r (.v (.bool true)))) (.t 26))⟩])
  (.cond (.t 27)
    (.seq (.reg [⟨(some 28), none, 1, .call 10 []⟩,
    ⟨(some 12), none, 0, .see (.mov (.t 28))⟩])
    .ret)
    .skip))
  (.seq (.reg [⟨(some 29), none, 0, .see (.mov (.t 0))⟩,
    ⟨(some 30), none, 0, .see (.toStr (.t 29))⟩,
    ⟨(some 13), none, 0, .see (.mov (.t 30))⟩])
  (.seq (.seq (.reg [⟨(some 14), none, 0, .see (.mov (.c (.r (.v (.int .i64 0)))))⟩])
  (.block 0 (.loop (.seq (.seq (.reg [⟨(some 31), none, 0, .see (.mov (.t 14))⟩,
    ⟨(some 32), none, 0, .see (.bin .lss (.t 31) (.c (.r (.v (.int .i64 2)))))⟩])
  (.cond (.t 32)
    .skip
    (.exit 0)))
  (.seq (.block 1 (.seq (.seq (.drw [⟨(some 35), none, 0, .see (.mov (.t 0))⟩,
    ⟨(some 36), none, 0, .see (.mov (.t 1))⟩,
    ⟨(some 37), none, 0, .see (.mov (.t 2))⟩,
    ⟨(some 38), none, 2, .call 20 [(.t 35), (.t 36), (.t 37)]⟩,
    ⟨(some 39), none, 0, .see (.toStr (.t 38))⟩,
    ⟨(some 40), none, 0, .see (.mov (.t 13))⟩,
    ⟨(some 41), none, 0, .see (.mov (.t 1))⟩,
    ⟨(some 42), none, 0, .see (.mov (.t 2))⟩,
    ⟨(some 43), none, 3, .call 13 [(.t 41), (.t 42)]⟩,
    ⟨(some 44), none, 0, .see (.bin .add (.t 40) (.t 43))⟩,
    ⟨(some 45), none, 0, .see (.bin .neq (.t 39) (.t 44))⟩,
    ⟨(some 46), none, 0, .see (.mov (.t 45))⟩,
    ⟨(some 47), (some (46, false)), 0, .see (.mov (.t 0))⟩,
    ⟨(some 48), (some (46, false)), 0, .see (.mov (.t 1))⟩,
    ⟨(some 49), (some (46, false)), 0, .see (.mov (.t 4))⟩,
    ⟨(some 50), (some (46, false)), 4, .call 21 [(.t 47), (.t 48), (.t 49)]⟩,
    ⟨(some 51), (some (46, false)), 0, .see (.toStr (.t 50))⟩,
    ⟨(some 52), (some (46, false)), 0, .see (.mov (.t 13))⟩,
    ⟨(some 53), (some (46, false)), 0, .see (.mov (.t 1))⟩,
    ⟨(some 54), (some (46, false)), 0, .see (.mov (.t 4))⟩,
    ⟨(some 55), (some (46, false)), 0, .see (.toStr (.t 54))⟩,
    ⟨(some 56), (some (46, false)), 5, .call 12 [(.t 53), (.t 55)]⟩,
    ⟨(some 57), (some (46, false)), 0, .see (.bin .add (.t 52) (.t 56))⟩,
    ⟨(some 58), (some (46, false)), 0, .see (.bin .neq (.t 51) (.t 57))⟩,
    ⟨(some 59), none, 0, .see (.pick (.t 46) (.c (.r (.v (.bool true)))) (.t 58))⟩,
    ⟨(some 60), none, 0, .see (.mov (.t 59))⟩,
    ⟨(some 61), (some (60, false)), 0, .see (.mov (.t 0))⟩,
    ⟨(some 62), (some (60, false)), 0, .see (.mov (.t 1))⟩,
    ⟨(some 63), (some (60, false)), 0, .see (.mov (.t 5))⟩,
    ⟨(some 64), (some (60, false)), 6, .call 22 [(.t 61), (.t 62), (.t 63)]⟩,
    ⟨(some 65), (some (60, false)), 0, .see (.toStr (.t 64))⟩,
    ⟨(some 66), (some (60, false)), 0, .see (.mov (.t 13))⟩,
    ⟨(some 67), (some (60, false)), 0, .see (.mov (.t 1))⟩,
    ⟨(some 68), (some (60, false)), 0, .see (.mov (.t 5))⟩,
    ⟨(some 69), (some (60, false)), 7, .call 11 [(.t 67), (.t 68)]⟩,
    ⟨(some 70), (some (60, false)), 0, .see (.bin .add (.t 66) (.t 69))⟩,
    ⟨(some 71), (some (60, false)), 0, .see (.bin .neq (.t 65) (.t 70))⟩,
    ⟨(some 72), none, 0, .see (.pick (.t 60) (.c (.r (.v (.bool true)))) (.t 71))⟩]
    [[], [], [], [0, 1, 2], [0, 1, 2, 3], [], [], [], [0, 1, 2, 3, 6, 7], [0, 1, 2, 3, 5, 6, 7, 8], [0, 1, 2, 3, 4, 5, 6, 7, 8, 9], [0, 1, 2, 3, 4, 5, 6, 7, 8, 9, 10], [0, 1, 2, 3, 4, 5, 6, 7, 8, 9, 10, 11], [0, 1, 2, 3, 4, 5, 6, 7, 8, 9, 10, 11], [0, 1, 2, 3, 4, 5, 6, 7, 8, 9, 10, 11], [0, 1, 2, 3, 4, 5, 6, 7, 8, 9, 10, 11, 12, 13, 14], [0, 1, 2, 3, 4, 5, 6, 7, 8, 9, 10, 11, 12, 13, 14, 15], [0, 1, 2, 3, 4, 5, 6, 7, 8, 9, 10, 11], [0, 1, 2, 3, 4, 5, 6, 7, 8, 9, 10, 11], [0, 1, 2, 3, 4, 5, 6, 7, 8, 9, 10, 11], [0, 1, 2, 3, 4, 5, 6, 7, 8, 9, 10, 11, 19], [0, 1, 2, 3, 4, 5, 6, 7, 8, 9, 10, 11, 12, 13, 14, 15, 18, 19, 20], [0, 1, 2, 3, 4, 5, 6, 7, 8, 9, 10, 11, 12, 13, 14, 15, 17, 18, 19, 20, 21], [0, 1, 2, 3, 4, 5, 6, 7, 8, 9, 10, 11, 12, 13, 14, 15, 16, 17, 18, 19, 20, 21, 22], [0, 1, 2, 3, 4, 5, 6, 7, 8, 9, 10, 11, 12, 13, 14, 15, 16, 17, 18, 19, 20, 21, 22, 23], [0, 1, 2, 3, 4, 5, 6, 7, 8, 9, 10, 11, 12, 13, 14, 15, 16, 17, 18, 19, 20, 21, 22, 23, 24], [0, 1, 2, 3, 4, 5, 6, 7, 8, 9, 10, 11, 12, 13, 14, 15, 16, 17, 18, 19, 20, 21, 22, 23, 24, 25], [0, 1, 2, 3, 4, 5, 6, 7, 8, 9, 10, 11, 12, 13, 14, 15, 16, 17, 18, 19, 20, 21, 22, 23, 24, 25], [0, 1, 2, 3, 4, 5, 6, 7, 8, 9, 10, 11, 12, 13, 14, 15, 16, 17, 18, 19, 20, 21, 22, 23, 24, 25], [0, 1, 2, 3, 4, 5, 6, 7, 8, 9, 10, 11, 12, 13, 14, 15, 16, 17, 18, 19, 20, 21, 22, 23, 24, 25, 26, 27, 28], [0, 1, 2, 3, 4, 5, 6, 7, 8, 9, 10, 11, 12, 13, 14, 15, 16, 17, 18, 19, 20, 21, 22, 23, 24, 25, 26, 27, 28, 29], [0, 1, 2, 3, 4, 5, 6, 7, 8, 9, 10, 11, 12, 13, 14, 15, 16, 17, 18, 19, 20, 21, 22, 23, 24, 25], [0, 1, 2, 3, 4, 5, 6, 7, 8, 9, 10, 11, 12, 13, 14, 15, 16, 17, 18, 19, 20, 21, 22, 23, 24, 25], [0, 1, 2, 3, 4, 5, 6, 7, 8, 9, 10, 11, 12, 13, 14, 15, 16, 17, 18, 19, 20, 21, 22, 23, 24, 25], [0, 1, 2, 3, 4, 5, 6, 7, 8, 9, 10, 11, 12, 13, 14, 15, 16, 17, 18, 19, 20, 21, 22, 23, 24, 25, 26, 27, 28, 29, 32, 33], [0, 1, 2, 3, 4, 5, 6, 7, 8, 9, 10, 11, 12, 13, 14, 15, 16, 17, 18, 19, 20, 21, 22, 23, 24, 25, 26, 27, 28, 29, 31, 32, 33, 34], [0, 1, 2, 3, 4, 5, 6, 7, 8, 9, 10, 11, 12, 13, 14, 15, 16, 17, 18, 19, 20, 21, 22, 23, 24, 25, 26, 27, 28, 29, 30, 31, 32, 33, 34, 35], [0, 1, 2, 3, 4, 5, 6, 7, 8, 9, 10, 11, 12, 13, 14, 15, 16, 17, 18, 19, 20, 21, 22, 23, 24, 25, 26, 27, 28, 29, 30, 31, 32, 33, 34, 35, 36]])
  (.cond (.t 72)
    (.seq (.reg [⟨(some 12), none, 0, .see (.mov (.c (.r (.v (.bool false)))))⟩])
    .ret)
    .skip))
  (.reg [⟨(some 73), none, 0, .see (.mov (.t 1))⟩,
    ⟨(some 74), none, 0, .see (.bin .and (.t 73) (.c (.r (.v (.int .i64 1023)))))⟩,
    ⟨(some 75), none, 0, .see (.bin .add (.t 74) (.c (.r (.v (.int .i64 1)))))⟩,
    ⟨(some 1), none, 0, .see (.mov (.t 75))⟩])))
  (.reg [⟨(some 33), none, 0, .see (.mov (.t 14))⟩,
    ⟨(some 34), none, 0, .see (.bin .add (.t 33) (.c (.r (.v (.int .i64 1)))))⟩,
    ⟨(some 14), none, 0, .see (.mov (.t 34))⟩]))))))
  (.seq (.drw [⟨(some 76), none, 0, .see (.mov (.t 0))⟩,
    ⟨(some 77), none, 0, .see (.mov (.t 2))⟩,
    ⟨(some 78), none, 8, .call 19 [(.t 76), (.t 77)]⟩,
    ⟨(some 79), none, 0, .see (.toStr (.t 78))⟩,
    ⟨(some 80), none, 0, .see (.mov (.t 13))⟩,
    ⟨(some 81), none, 0, .see (.mov (.t 2))⟩,
    ⟨(some 82), none, 9, .call 23 [(.t 81)]⟩,
    ⟨(some 83), none, 0, .see (.bin .add (.t 80) (.t 82))⟩,
    ⟨(some 84), none, 0, .see (.bin .eql (.t 79) (.t 83))⟩,
    ⟨(some 85), none, 0, .see (.mov (.t 84))⟩,
    ⟨(some 86), (some (85, true)), 0, .see (.mov (.t 3))⟩,
    ⟨(some 87), (some (85, true)), 10, .call 9 [(.t 86)]⟩,
    ⟨(some 88), (some (85, true)), 0, .see (.mov (.t 3))⟩,
    ⟨(some 89), (some (85, true)), 11, .call 24 [(.t 88)]⟩,
    ⟨(some 90), (some (85, true)), 0, .see (.bin .eql (.t 87) (.t 89))⟩,
    ⟨(some 91), none, 0, .see (.pick (.t 85) (.t 90) (.c (.r (.v (.bool false)))))⟩,
    ⟨(some 92), none, 0, .see (.mov (.t 91))⟩,
    ⟨(some 93), (some (92, true)), 0, .see (.mov (.t 3))⟩,
    ⟨(some 94), (some (92, true)), 12, .call 9 [(.t 93)]⟩,
    ⟨(some 95), (some (92, true)), 13, .call 25 [(.t 94)]⟩,
    ⟨(some 96), (some (92, true)), 0, .see (.mov (.t 3))⟩,
    ⟨(some 97), (some (92, true)), 0, .see (.bin .eql (.t 95) (.t 96))⟩,
    ⟨(some 98), none, 0, .see (.pick (.t 92) (.t 97) (.c (.r (.v (.bool false)))))⟩,
    ⟨(some 99), none, 0, .see (.mov (.t 98))⟩,
    ⟨(some 100), (some (99, true)), 0, .see (.mov (.t 2))⟩,
    ⟨(some 101), (some (99, true)), 14, .call 25 [(.t 100)]⟩,
    ⟨(some 102), (some (99, true)), 15, .call 9 [(.t 101)]⟩,
    ⟨(some 103), (some (99, true)), 0, .see (.mov (.t 2))⟩,
    ⟨(some 104), (some (99, true)), 0, .see (.bin .eql (.t 102) (.t 103))⟩,
    ⟨(some 105), none, 0, .see (.pick (.t 99) (.t 104) (.c (.r (.v (.bool false)))))⟩,
    ⟨(some 106), none, 0, .see (.mov (.t 105))⟩,
    ⟨(some 107), (some (106, true)), 16, .call 10 []⟩,
    ⟨(some 108), none, 0, .see (.pick (.t 106) (.t 107) (.c (.r (.v (.bool false)))))⟩,
    ⟨(some 12), none, 0, .see (.mov (.t 108))⟩]
    [[], [], [0, 1], [0, 1, 2], [], [], [0, 1, 2, 5], [0, 1, 2, 4, 5, 6], [0, 1, 2, 3, 4, 5, 6, 7], [0, 1, 2, 3, 4, 5, 6, 7, 8], [0, 1, 2, 3, 4, 5, 6, 7, 8, 9], [0, 1, 2, 3, 4, 5, 6, 7, 8, 9, 10], [0, 1, 2, 3, 4, 5, 6, 7, 8, 9], [0, 1, 2, 3, 4, 5, 6, 7, 8, 9, 10, 11, 12], [0, 1, 2, 3, 4, 5, 6, 7, 8, 9, 10, 11, 12, 13], [0, 1, 2, 3, 4, 5, 6, 7, 8, 9, 10, 11, 12, 13, 14], [0, 1, 2, 3, 4, 5, 6, 7, 8, 9, 10, 11, 12, 13, 14, 15], [0, 1, 2, 3, 4, 5, 6, 7, 8, 9, 10, 11, 12, 13, 14, 15, 16], [0, 1, 2, 3, 4, 5, 6, 7, 8, 9, 10, 11, 12, 13, 14, 15, 16, 17], [0, 1, 2, 3, 4, 5, 6, 7, 8, 9, 10, 11, 12, 13, 14, 15, 16, 17, 18], [0, 1, 2, 3, 4, 5, 6, 7, 8, 9, 10, 11, 12, 13, 14, 15, 16], [0, 1, 2, 3, 4, 5, 6, 7, 8, 9, 10, 11, 12, 13, 14, 15, 16, 17, 18, 19, 20], [0, 1, 2, 3, 4, 5, 6, 7, 8, 9, 10, 11, 12, 13, 14, 15, 16, 17, 18, 19, 20, 21], [0, 1, 2, 3, 4, 5, 6, 7, 8, 9, 10, 11, 12, 13, 14, 15, 16, 17, 18, 19, 20, 21, 22], [0, 1, 2, 3, 4, 5, 6, 7, 8, 9, 10, 11, 12, 13, 14, 15, 16, 17, 18, 19, 20, 21, 22, 23], [0, 1, 2, 3, 4, 5, 6, 7, 8, 9, 10, 11, 12, 13, 14, 15, 16, 17, 18, 19, 20, 21, 22, 23, 24], [0, 1, 2, 3, 4, 5, 6, 7, 8, 9, 10, 11, 12, 13, 14, 15, 16, 17, 18, 19, 20, 21, 22, 23, 24, 25], [0, 1, 2, 3, 4, 5, 6, 7, 8, 9, 10, 11, 12, 13, 14, 15, 16, 17, 18, 19, 20, 21, 22, 23], [0, 1, 2, 3, 4, 5, 6, 7, 8, 9, 10, 11, 12, 13, 14, 15, 16, 17, 18, 19, 20, 21, 22, 23, 24, 25, 26, 27], [0, 1, 2, 3, 4, 5, 6, 7, 8, 9, 10, 11, 12, 13, 14, 15, 16, 17, 18, 19, 20, 21, 22, 23, 24, 25, 26, 27, 28], [0, 1, 2, 3, 4, 5, 6, 7, 8, 9, 10, 11, 12, 13, 14, 15, 16, 17, 18, 19, 20, 21, 22, 23, 24, 25, 26, 27, 28, 29], [0, 1, 2, 3, 4, 5, 6, 7, 8, 9, 10, 11, 12, 13, 14, 15, 16, 17, 18, 19, 20, 21, 22, 23, 24, 25, 26, 27, 28, 29, 30], [0, 1, 2, 3, 4, 5, 6, 7, 8, 9, 10, 11, 12, 13, 14, 15, 16, 17, 18, 19, 20, 21, 22, 23, 24, 25, 26, 27, 28, 29, 30, 31], [0, 1, 2, 3, 4, 5, 6, 7, 8, 9, 10, 11, 12, 13, 14, 15, 16, 17, 18, 19, 20, 21, 22, 23, 24, 25, 26, 27, 28, 29, 30, 31, 32]])
  .ret)))))
noncomputable abbrev apiarylaw21_PbfWrites_code : Code := (Go.Proofs.Try.f6.body).getD .skip
theorem apiarylaw21_PbfWrites_chk : chkC Go.Proofs.Try.prog 109 apiarylaw21_PbfWrites_code apiarylaw21_PbfWrites_pc = true := by kernel_rfl
theorem apiarylaw21_PbfWrites_triple {args : List AV} {po ro : List Ob} {res : AV} (hal : args.length = 6) (hpo : po.length ≤ 1000)
    (h : run Go.Proofs.Try.prog po.length (RetP po.length [(12, false, none)] fun v os => v = res ∧ os = ro) [.c apiarylaw21_PbfWrites_pc] ⟨argE 0 args, ob0 po⟩) : Triple Go.Proofs.Try.prog 6 args po res ro :=
  triple_of_W (fn := Go.Proofs.Try.f6) (c := apiarylaw21_PbfWrites_code) (pc := apiarylaw21_PbfWrites_pc) (rs := [(12, false, none)]) Go.Proofs.Try.func6 rfl (by decide) (by have := apiarylaw21_PbfWrites_chk; exact this) (by rw [hal]; decide) rfl (by kernel_rfl) (by kernel_rfl) (by decide) hpo (W_of_run h)

set_option maxRecDepth 100000 in
theorem writes_t (b : List UInt8) (F n i : Int) (x : List UInt8) (ns : List Int) (hF : in64 F) (n0 : 0 ≤ n) (n1 : n < 18446744073709551616) (hi : in64 i) (hns : ∀ n ∈ ns, 0 ≤ n ∧ n < 18446744073709551616) :
    Triple Go.Proofs.Try.prog 6 [sb b, int .i64 F, int .u64 n, int .i64 i, sb x, .r (.sl 1 (ns.map fun n => .v (.int .u64 n)))] [] (bl true) [] := by
  refine apiarylaw21_PbfWrites_triple rfl (by decide) ?_
  obtain ⟨B, hB, B0⟩ : ∃ N : Int, N = b.length ∧ 0 ≤ N := ⟨_, rfl, by omega⟩
  obtain ⟨X, hX, X0⟩ : ∃ N : Int, N = x.length ∧ 0 ≤ N := ⟨_, rfl, by omega⟩
  obtain ⟨N, hN, N0⟩ : ∃ N : Int, N = ns.length ∧ 0 ≤ N := ⟨_, rfl, by omega⟩
  simp only [apiarylaw21_PbfWrites_pc, List.length_nil, ← hB, ← hX, ← hN, push_cast, ↓reduceIte, reduceCtorEq, Nat.reduceBEq, Nat.reduceEqDiff, Nat.reduceAdd, Nat.reduceSub, Nat.reduceLT, Nat.reduceLeDiff, Nat.reduceMul]
  repeat refine And.intro (by simp +contextual) ?_
  refine cnd_mk (fun h => ?_) (fun h => ?_)
  · simp only [push_cast, ↓reduceIte, reduceCtorEq, Nat.reduceBEq, Nat.reduceEqDiff, Nat.reduceAdd, Nat.reduceSub, Nat.reduceLT, Nat.reduceLeDiff, Nat.reduceMul]
    refine call_mk awake21_t rfl trivial ?_
    simp only [push_cast, ↓reduceIte, reduceCtorEq, Nat.reduceBEq, Nat.reduceEqDiff, Nat.reduceAdd, Nat.reduceSub, Nat.reduceLT, Nat.reduceLeDiff, Nat.reduceMul]
  · have hs : B ≤ 500 ∧ X ≤ 1000 ∧ N ≤ 200 := by
      by_cases c1 : B > 500 <;> by_cases c2 : X > 1000 <;> by_cases c3 : N > 200 <;> simp [c1, c2, c3] at h <;> omega
    simp only [bys_isByte, bstr_of_bys, push_cast, ↓reduceIte, reduceCtorEq, Nat.reduceBEq, Nat.reduceEqDiff, Nat.reduceAdd, Nat.reduceSub, Nat.reduceLT, Nat.reduceLeDiff, Nat.reduceMul]
    have hmax := maxLen_big
    have nl : ∀ G : Int, (numL G n).length ≤ 20 := fun G => by
      unfold numL; split
      · have := varL_len (G * 8).toNat; have := varL_len n.toNat; rw [List.length_append]; omega
      · simp
    have fl : (ns.flatMap fun n => varL n.toNat).length ≤ 10 * ns.length := by
      clear hns hN
      induction ns with
      | nil => simp
      | cons m ns ih =>
        have := varL_len m.toNat
        rw [List.flatMap_cons, List.length_append, List.length_cons]; omega
    have blen : ∀ (G : Int) (y : List UInt8), (bytesL G y).length ≤ 20 + y.length := fun G y => by
      unfold bytesL; split
      · have := varL_len (G * 8 + 2).toNat; have := varL_len y.length; rw [List.length_append, List.length_append]; omega
      · simp
    refine run_loop [(0, false), (1, false), (2, false), (3, false), (4, false), (5, false), (13, false), (14, false)] (fun vs pos los => ∃ (G k : Int), in64 G ∧ 0 ≤ k ∧ k ≤ 2 ∧
      vs = [sb b, int .i64 G, int .u64 n, int .i64 i, sb x, .r (.sl 1 (ns.map fun n => .v (.int .u64 n))), strv (bstr b), int .i64 k] ∧ pos = [] ∧ los = [])
      (fun vs _ _ => match vs with | [_, _, _, _, _, _, _, .r (.v (.int _ j))] => (2 - j).toNat | _ => 0) rfl ?_ ?_
    · simp only [push_cast, ↓reduceIte, reduceCtorEq, Nat.reduceBEq, Nat.reduceEqDiff, Nat.reduceAdd, Nat.reduceSub, Nat.reduceLT, Nat.reduceLeDiff, Nat.reduceMul]
      exact ⟨F, 0, hF, by omega, by omega, rfl⟩
    · rintro vs pos los ⟨G, k, hG, k0, k2, rfl, rfl, rfl⟩
      simp only [push_cast, ↓reduceIte, reduceCtorEq, Nat.reduceBEq, Nat.reduceEqDiff, Nat.reduceAdd, Nat.reduceSub, Nat.reduceLT, Nat.reduceLeDiff, Nat.reduceMul]
      refine cnd_mk (fun h => ?_) (fun h => ?_)
      · have hk : k < 2 := by simpa using h
        obtain ⟨m1, hm1⟩ : ∃ m, m = b ++ numL G n := ⟨_, rfl⟩
        obtain ⟨m2, hm2⟩ : ∃ m, m = b ++ bytesL G x := ⟨_, rfl⟩
        obtain ⟨m3, hm3⟩ : ∃ m, m = b ++ bytesL G (ns.flatMap fun n => varL n.toNat) := ⟨_, rfl⟩
        have t1 := num_t b G n hG n0 n1 (by omega)
        have t2 := bytes_t b G x hG (by omega) (by omega)
        have t3 := pack_t b G ns hG hns (by omega) (by omega)
        rw [← hm1] at t1
        rw [← hm2] at t2
        rw [← hm3] at t3
        have a1 := nl G
        have a2 := blen G x
        have a3 := blen G (ns.flatMap fun n => varL n.toNat)
        have w1 : IntKind.i64.wrap (k + 1) = k + 1 := wrap_id (by omega)
        have w2 : IntKind.i64.wrap (G % 2 ^ 10 + 1) = G % 2 ^ 10 + 1 := wrap_id (by have := Int.emod_nonneg G (show (2 : Int) ^ 10 ≠ 0 by decide); have := Int.emod_lt_of_pos G (show (0 : Int) < 2 ^ 10 by decide); omega)
        simp only [push_cast, ↓reduceIte, reduceCtorEq, Nat.reduceBEq, Nat.reduceEqDiff, Nat.reduceAdd, Nat.reduceSub, Nat.reduceLT, Nat.reduceLeDiff, Nat.reduceMul]
        refine dcall_mk t1 rfl trivial ?_
        simp only [bys_isByte, bstr_of_bys, push_cast, ↓reduceIte, reduceCtorEq, Nat.reduceBEq, Nat.reduceEqDiff, Nat.reduceAdd, Nat.reduceSub, Nat.reduceLT, Nat.reduceLeDiff, Nat.reduceMul]
        refine dcall_mk (rnum_t G n hG n0 n1) rfl trivial ?_
        simp only [bstr_size, bstr_app, bstr_list, ← hm1, bne_self_eq_false, beq_self_eq_true, push_cast, ↓reduceIte, reduceCtorEq, Nat.reduceBEq, Nat.reduceEqDiff, Nat.reduceAdd, Nat.reduceSub, Nat.reduceLT, Nat.reduceLeDiff, Nat.reduceMul]
        refine ⟨by omega, ?_⟩
        refine dcall_as (as' := [sb b, int .i64 G, sb x]) rfl ?_
        refine dcall_mk t2 rfl trivial ?_
        simp only [bys_isByte, bstr_of_bys, bstr_size, bstr_app, bstr_list, ← hm2, bne_self_eq_false, beq_self_eq_true, push_cast, ↓reduceIte, reduceCtorEq, Nat.reduceBEq, Nat.reduceEqDiff, Nat.reduceAdd, Nat.reduceSub, Nat.reduceLT, Nat.reduceLeDiff, Nat.reduceMul]
        refine dcall_mk (rbytes_t G x hG (by omega)) rfl trivial ?_
        simp only [bys_isByte, bstr_of_bys, bstr_size, bstr_app, bstr_list, ← hm2, bne_self_eq_false, beq_self_eq_true, push_cast, ↓reduceIte, reduceCtorEq, Nat.reduceBEq, Nat.reduceEqDiff, Nat.reduceAdd, Nat.reduceSub, Nat.reduceLT, Nat.reduceLeDiff, Nat.reduceMul]
        refine ⟨by omega, ?_⟩
        refine dcall_mk t3 rfl trivial ?_
        simp only [bys_isByte, bstr_of_bys, bstr_size, bstr_app, bstr_list, ← hm3, bne_self_eq_false, beq_self_eq_true, push_cast, ↓reduceIte, reduceCtorEq, Nat.reduceBEq, Nat.reduceEqDiff, Nat.reduceAdd, Nat.reduceSub, Nat.reduceLT, Nat.reduceLeDiff, Nat.reduceMul]
        refine dcall_mk (rpack_t G ns hG hns (by omega)) rfl trivial ?_
        simp only [bys_isByte, bstr_of_bys, bstr_size, bstr_app, bstr_list, ← hm3, bne_self_eq_false, beq_self_eq_true, and_mask G 1023 10 (by decide) (by decide), w1, w2, push_cast, ↓reduceIte, reduceCtorEq, Nat.reduceBEq, Nat.reduceEqDiff, Nat.reduceAdd, Nat.reduceSub, Nat.reduceLT, Nat.reduceLeDiff, Nat.reduceMul]
        refine ⟨by omega, by kernel_rfl, ⟨G % 2 ^ 10 + 1, k + 1, ?_, by omega, by omega, rfl⟩, by omega⟩
        have := Int.emod_nonneg G (show (2 : Int) ^ 10 ≠ 0 by decide); have := Int.emod_lt_of_pos G (show (0 : Int) < 2 ^ 10 by decide)
        unfold in64; omega
      · obtain ⟨m, hm⟩ : ∃ m, m = b ++ varL n.toNat := ⟨_, rfl⟩
        have t1 := var_t b n n0 n1 (by omega)
        rw [← hm] at t1
        have a1 := varL_len n.toNat
        have hz := zig_bounds hi.1 hi.2
        have hg := zag_in n n0 n1
        simp only [push_cast, ↓reduceIte, reduceCtorEq, Nat.reduceBEq, Nat.reduceEqDiff, Nat.reduceAdd, Nat.reduceSub, Nat.reduceLT, Nat.reduceLeDiff, Nat.reduceMul]
        refine dcall_mk t1 rfl trivial ?_
        simp only [bys_isByte, bstr_of_bys, bstr_size, bstr_app, bstr_list, ← hm, bne_self_eq_false, beq_self_eq_true, push_cast, ↓reduceIte, reduceCtorEq, Nat.reduceBEq, Nat.reduceEqDiff, Nat.reduceAdd, Nat.reduceSub, Nat.reduceLT, Nat.reduceLeDiff, Nat.reduceMul]
        refine dcall_mk (rvar_t n n0 n1) rfl trivial ?_
        simp only [bys_isByte, bstr_of_bys, bstr_size, bstr_app, bstr_list, ← hm, bne_self_eq_false, beq_self_eq_true, push_cast, ↓reduceIte, reduceCtorEq, Nat.reduceBEq, Nat.reduceEqDiff, Nat.reduceAdd, Nat.reduceSub, Nat.reduceLT, Nat.reduceLeDiff, Nat.reduceMul]
        refine ⟨by omega, ?_⟩
        refine dcall_mk (zig_t i hi) rfl trivial ?_
        simp only [beq_self_eq_true, push_cast, ↓reduceIte, reduceCtorEq, Nat.reduceBEq, Nat.reduceEqDiff, Nat.reduceAdd, Nat.reduceSub, Nat.reduceLT, Nat.reduceLeDiff, Nat.reduceMul]
        refine dcall_mk (rzig_t i hi) rfl trivial ?_
        simp only [beq_self_eq_true, push_cast, ↓reduceIte, reduceCtorEq, Nat.reduceBEq, Nat.reduceEqDiff, Nat.reduceAdd, Nat.reduceSub, Nat.reduceLT, Nat.reduceLeDiff, Nat.reduceMul]
        refine dcall_mk (zig_t i hi) rfl trivial ?_
        simp only [beq_self_eq_true, push_cast, ↓reduceIte, reduceCtorEq, Nat.reduceBEq, Nat.reduceEqDiff, Nat.reduceAdd, Nat.reduceSub, Nat.reduceLT, Nat.reduceLeDiff, Nat.reduceMul]
        refine dcall_mk (zag_t (zig i) hz.1 hz.2) rfl trivial ?_
        rw [zag_zig]
        simp only [beq_self_eq_true, push_cast, ↓reduceIte, reduceCtorEq, Nat.reduceBEq, Nat.reduceEqDiff, Nat.reduceAdd, Nat.reduceSub, Nat.reduceLT, Nat.reduceLeDiff, Nat.reduceMul]
        refine dcall_mk (zag_t n n0 n1) rfl trivial ?_
        simp only [beq_self_eq_true, push_cast, ↓reduceIte, reduceCtorEq, Nat.reduceBEq, Nat.reduceEqDiff, Nat.reduceAdd, Nat.reduceSub, Nat.reduceLT, Nat.reduceLeDiff, Nat.reduceMul]
        refine dcall_mk (zig_t (zag n) hg) rfl trivial ?_
        rw [zig_zag n n0]
        simp only [beq_self_eq_true, push_cast, ↓reduceIte, reduceCtorEq, Nat.reduceBEq, Nat.reduceEqDiff, Nat.reduceAdd, Nat.reduceSub, Nat.reduceLT, Nat.reduceLeDiff, Nat.reduceMul]
        refine dcall_mk awake21_t rfl trivial ?_
        simp only [push_cast, ↓reduceIte, reduceCtorEq, Nat.reduceBEq, Nat.reduceEqDiff, Nat.reduceAdd, Nat.reduceSub, Nat.reduceLT, Nat.reduceLeDiff, Nat.reduceMul]
        (show _ = true); kernel_rfl
end Go.Ev
