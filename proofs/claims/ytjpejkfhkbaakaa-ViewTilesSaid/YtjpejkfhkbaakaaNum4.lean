import Derived.Test.YtjpejkfhkbaakaaNum3
import Derived.Test.YtjpejkfhkbaakaaEvLaw
namespace Go.Ev
open Go
set_option linter.unnecessarySimpa false
set_option linter.unusedSimpArgs false
set_option linter.unusedVariables false
noncomputable def num_Pow_1_pc : PC :=
  (.reg [⟨(some 4), none, 0, .see (.ld none (.t 0))⟩,
    ⟨(some 5), none, 0, .see (.ld none (.t 1))⟩,
    ⟨(some 6), none, 1, .call 56 [(.t 4), (.t 5)]⟩,
    ⟨(some 3), none, 0, .see (.mov (.t 6))⟩,
    ⟨(some 7), none, 0, .see (.ext (.t 3) 0)⟩,
    ⟨(some 8), none, 0, .see (.ext (.t 3) 1)⟩,
    ⟨none, none, 0, .act (.st 1 (.t 0) (.t 7))⟩,
    ⟨none, none, 0, .act (.st 1 (.t 2) (.t 8))⟩])
noncomputable abbrev num_Pow_1_code : Code := (Go.Proofs.Try.f55.body).getD .skip
theorem num_Pow_1_chk : chkC Go.Proofs.Try.prog 9 num_Pow_1_code num_Pow_1_pc = true := by kernel_rfl
theorem num_Pow_1_triple {args : List AV} {po ro : List Ob} {res : AV} (hal : args.length = 3) (hpo : po.length ≤ 1000)
    (h : run Go.Proofs.Try.prog po.length (RetP po.length [] fun v os => v = res ∧ os = ro) [.c num_Pow_1_pc] ⟨argE 0 args, ob0 po⟩) : Triple Go.Proofs.Try.prog 55 args po res ro :=
  triple_of_W (fn := Go.Proofs.Try.f55) (c := num_Pow_1_code) (pc := num_Pow_1_pc) (rs := []) Go.Proofs.Try.func55 rfl (by decide) (by have := num_Pow_1_chk; exact this) (by rw [hal]; decide) rfl (by kernel_rfl) (by kernel_rfl) (by decide) hpo (W_of_run h)

noncomputable def num_Pow_pc : PC :=
  (.seq (.reg [⟨(some 2), none, 0, .act (.box (.t 0))⟩,
    ⟨(some 4), none, 0, .see (.mov (.c (.r (.v (.int .i64 0)))))⟩,
    ⟨(some 5), none, 0, .see (.mov (.c (.r (.v (.bool false)))))⟩])
  (.seq (.seq (.reg [⟨(some 9), none, 0, .see (.mov (.t 1))⟩,
    ⟨(some 10), none, 0, .see (.bin .lss (.t 9) (.c (.r (.v (.int .i64 0)))))⟩])
  (.cond (.t 10)
    (.seq (.reg [⟨(some 4), none, 0, .see (.mov (.c (.r (.v (.int .i64 0)))))⟩,
    ⟨(some 5), none, 0, .see (.mov (.c (.r (.v (.bool false)))))⟩])
    .ret)
    .skip))
  (.seq (.seq (.reg [⟨(some 11), none, 0, .see (.ld none (.t 2))⟩,
    ⟨(some 12), none, 0, .see (.bin .geq (.t 11) (.c (.r (.v (.int .i64 (-1))))))⟩,
    ⟨(some 13), none, 0, .see (.mov (.t 12))⟩,
    ⟨(some 14), (some (13, true)), 0, .see (.ld none (.t 2))⟩,
    ⟨(some 15), (some (13, true)), 0, .see (.bin .leq (.t 14) (.c (.r (.v (.int .i64 1)))))⟩,
    ⟨(some 16), none, 0, .see (.pick (.t 13) (.t 15) (.c (.r (.v (.bool false)))))⟩])
  (.cond (.t 16)
    (.reg [⟨(some 17), none, 0, .see (.mov (.t 1))⟩,
    ⟨(some 18), none, 0, .see (.mov (.t 1))⟩,
    ⟨(some 19), none, 0, .see (.bin .rem (.t 18) (.c (.r (.v (.int .i64 2)))))⟩,
    ⟨(some 20), none, 0, .see (.bin .sub (.c (.r (.v (.int .i64 2)))) (.t 19))⟩,
    ⟨(some 21), none, 0, .see (.mm false (.t 17) [(.t 20)])⟩,
    ⟨(some 1), none, 0, .see (.mov (.t 21))⟩])
    .skip))
  (.seq (.reg [⟨(some 6), none, 0, .act (.new [(.r (.v (.int .i64 0)))])⟩,
    ⟨(some 7), none, 0, .act (.new [(.r (.v (.bool false)))])⟩,
    ⟨none, none, 0, .act (.st 1 (.t 6) (.c (.r (.v (.int .i64 1)))))⟩,
    ⟨none, none, 0, .act (.st 1 (.t 7) (.c (.r (.v (.bool true)))))⟩])
  (.seq (.reg [⟨(some 22), none, 0, .see (.mkf (.func 55) [(.t 6), (.t 2), (.t 7)])⟩,
    ⟨(some 8), none, 0, .see (.mov (.t 22))⟩])
  (.seq (.block 0 (.loop (.seq (.seq (.reg [⟨(some 23), none, 0, .see (.mov (.t 1))⟩,
    ⟨(some 24), none, 0, .see (.bin .gtr (.t 23) (.c (.r (.v (.int .i64 0)))))⟩,
    ⟨(some 25), none, 0, .see (.mov (.t 24))⟩,
    ⟨(some 26), (some (25, true)), 0, .see (.ld none (.t 7))⟩,
    ⟨(some 27), none, 0, .see (.pick (.t 25) (.t 26) (.c (.r (.v (.bool false)))))⟩])
  (.cond (.t 27)
    .skip
    (.exit 0)))
  (.seq (.block 1 (.reg [⟨(some 30), none, 0, .see (.mov (.t 8))⟩,
    ⟨(some 31), none, 1, .callv (.t 30) []⟩]))
  (.reg [⟨(some 28), none, 0, .see (.mov (.t 1))⟩,
    ⟨(some 29), none, 0, .see (.bin .sub (.t 28) (.c (.r (.v (.int .i64 1)))))⟩,
    ⟨(some 1), none, 0, .see (.mov (.t 29))⟩])))))
  (.seq (.drw [⟨(some 32), none, 0, .see (.ld none (.t 6))⟩,
    ⟨(some 33), none, 0, .see (.ld none (.t 7))⟩,
    ⟨(some 4), none, 0, .see (.mov (.t 32))⟩,
    ⟨(some 5), none, 0, .see (.mov (.t 33))⟩]
    [[], [], [0], [0, 1, 2]])
  .ret)))))))
noncomputable abbrev num_Pow_code : Code := (Go.Proofs.Try.f36.body).getD .skip
theorem num_Pow_chk : chkC Go.Proofs.Try.prog 34 num_Pow_code num_Pow_pc = true := by kernel_rfl
theorem num_Pow_triple {args : List AV} {po ro : List Ob} {res : AV} (hal : args.length = 2) (hpo : po.length ≤ 1000)
    (h : run Go.Proofs.Try.prog po.length (RetP po.length [(4, false, none), (5, false, none)] fun v os => v = res ∧ os = ro) [.c num_Pow_pc] ⟨argE 0 args, ob0 po⟩) : Triple Go.Proofs.Try.prog 36 args po res ro :=
  triple_of_W (fn := Go.Proofs.Try.f36) (c := num_Pow_code) (pc := num_Pow_pc) (rs := [(4, false, none), (5, false, none)]) Go.Proofs.Try.func36 rfl (by decide) (by have := num_Pow_chk; exact this) (by rw [hal]; decide) rfl (by kernel_rfl) (by kernel_rfl) (by decide) hpo (W_of_run h)

noncomputable def apiaryref1_Pow_pc : PC :=
  (.seq (.reg [⟨(some 4), none, 0, .see (.mov (.c (.r (.v (.int .i64 0)))))⟩,
    ⟨(some 5), none, 0, .see (.mov (.c (.r (.v (.bool false)))))⟩])
  (.seq (.seq (.reg [⟨(some 10), none, 0, .see (.mov (.t 1))⟩,
    ⟨(some 11), none, 0, .see (.bin .lss (.t 10) (.c (.r (.v (.int .i64 0)))))⟩])
  (.cond (.t 11)
    (.seq (.reg [⟨(some 4), none, 0, .see (.mov (.c (.r (.v (.int .i64 0)))))⟩,
    ⟨(some 5), none, 0, .see (.mov (.c (.r (.v (.bool false)))))⟩])
    .ret)
    .skip))
  (.seq (.reg [⟨(some 6), none, 0, .see (.mov (.c (.r (.v (.int .i64 1)))))⟩])
  (.seq (.seq (.reg [⟨(some 7), none, 0, .see (.mov (.c (.r (.v (.int .i64 0)))))⟩])
  (.block 0 (.loop (.seq (.seq (.reg [⟨(some 12), none, 0, .see (.mov (.t 7))⟩,
    ⟨(some 13), none, 0, .see (.mov (.t 1))⟩,
    ⟨(some 14), none, 0, .see (.bin .lss (.t 12) (.t 13))⟩])
  (.cond (.t 14)
    .skip
    (.exit 0)))
  (.seq (.block 1 (.seq (.seq (.reg [⟨(some 17), none, 0, .see (.mov (.t 6))⟩,
    ⟨(some 18), none, 0, .see (.bin .eql (.t 17) (.c (.r (.v (.int .i64 0)))))⟩,
    ⟨(some 19), none, 0, .see (.mov (.t 18))⟩,
    ⟨(some 20), (some (19, false)), 0, .see (.mov (.t 6))⟩,
    ⟨(some 21), (some (19, false)), 0, .see (.bin .eql (.t 20) (.c (.r (.v (.int .i64 1)))))⟩,
    ⟨(some 22), (some (19, false)), 0, .see (.mov (.t 21))⟩,
    ⟨(some 23), (some (22, true)), 0, .see (.mov (.t 0))⟩,
    ⟨(some 24), (some (22, true)), 0, .see (.bin .eql (.t 23) (.c (.r (.v (.int .i64 1)))))⟩,
    ⟨(some 25), (some (19, false)), 0, .see (.pick (.t 22) (.t 24) (.c (.r (.v (.bool false)))))⟩,
    ⟨(some 26), none, 0, .see (.pick (.t 19) (.c (.r (.v (.bool true)))) (.t 25))⟩])
  (.cond (.t 26)
    (.seq (.reg [⟨(some 27), none, 0, .see (.mov (.t 6))⟩,
    ⟨(some 4), none, 0, .see (.mov (.t 27))⟩,
    ⟨(some 5), none, 0, .see (.mov (.c (.r (.v (.bool true)))))⟩])
    .ret)
    .skip))
  (.seq (.seq (.reg [⟨(some 28), none, 0, .see (.mov (.t 0))⟩,
    ⟨(some 29), none, 0, .see (.bin .eql (.t 28) (.c (.r (.v (.int .i64 (-1))))))⟩])
  (.cond (.t 29)
    (.seq (.seq (.reg [⟨(some 30), none, 0, .see (.mov (.t 1))⟩,
    ⟨(some 31), none, 0, .see (.bin .rem (.t 30) (.c (.r (.v (.int .i64 2)))))⟩,
    ⟨(some 32), none, 0, .see (.bin .eql (.t 31) (.c (.r (.v (.int .i64 1)))))⟩])
    (.cond (.t 32)
      (.seq (.reg [⟨(some 4), none, 0, .see (.mov (.c (.r (.v (.int .i64 (-1))))))⟩,
    ⟨(some 5), none, 0, .see (.mov (.c (.r (.v (.bool true)))))⟩])
      .ret)
      .skip))
    (.seq (.reg [⟨(some 4), none, 0, .see (.mov (.c (.r (.v (.int .i64 1)))))⟩,
    ⟨(some 5), none, 0, .see (.mov (.c (.r (.v (.bool true)))))⟩])
    .ret))
    .skip))
  (.seq (.reg [⟨(some 34), none, 0, .see (.mov (.t 6))⟩,
    ⟨(some 35), none, 0, .see (.mov (.t 0))⟩,
    ⟨(some 36), none, 1, .call 49 [(.t 34), (.t 35)]⟩,
    ⟨(some 37), none, 2, .call 65 [(.t 36)]⟩,
    ⟨(some 33), none, 0, .see (.mov (.t 37))⟩,
    ⟨(some 38), none, 0, .see (.ext (.t 33) 0)⟩,
    ⟨(some 39), none, 0, .see (.ext (.t 33) 1)⟩,
    ⟨(some 8), none, 0, .see (.mov (.t 38))⟩,
    ⟨(some 9), none, 0, .see (.mov (.t 39))⟩])
  (.seq (.seq (.reg [⟨(some 40), none, 0, .see (.mov (.t 9))⟩,
    ⟨(some 41), none, 0, .see (.un .not (.t 40))⟩])
  (.cond (.t 41)
    (.seq (.reg [⟨(some 4), none, 0, .see (.mov (.c (.r (.v (.int .i64 0)))))⟩,
    ⟨(some 5), none, 0, .see (.mov (.c (.r (.v (.bool false)))))⟩])
    .ret)
    .skip))
  (.reg [⟨(some 42), none, 0, .see (.mov (.t 8))⟩,
    ⟨(some 6), none, 0, .see (.mov (.t 42))⟩]))))))
  (.reg [⟨(some 15), none, 0, .see (.mov (.t 7))⟩,
    ⟨(some 16), none, 0, .see (.bin .add (.t 15) (.c (.r (.v (.int .i64 1)))))⟩,
    ⟨(some 7), none, 0, .see (.mov (.t 16))⟩]))))))
  (.seq (.reg [⟨(some 43), none, 0, .see (.mov (.t 6))⟩,
    ⟨(some 4), none, 0, .see (.mov (.t 43))⟩,
    ⟨(some 5), none, 0, .see (.mov (.c (.r (.v (.bool true)))))⟩])
  .ret)))))
noncomputable abbrev apiaryref1_Pow_code : Code := (Go.Proofs.Try.f43.body).getD .skip
theorem apiaryref1_Pow_chk : chkC Go.Proofs.Try.prog 44 apiaryref1_Pow_code apiaryref1_Pow_pc = true := by kernel_rfl
theorem apiaryref1_Pow_triple {args : List AV} {po ro : List Ob} {res : AV} (hal : args.length = 2) (hpo : po.length ≤ 1000)
    (h : run Go.Proofs.Try.prog po.length (RetP po.length [(4, false, none), (5, false, none)] fun v os => v = res ∧ os = ro) [.c apiaryref1_Pow_pc] ⟨argE 0 args, ob0 po⟩) : Triple Go.Proofs.Try.prog 43 args po res ro :=
  triple_of_W (fn := Go.Proofs.Try.f43) (c := apiaryref1_Pow_code) (pc := apiaryref1_Pow_pc) (rs := [(4, false, none), (5, false, none)]) Go.Proofs.Try.func43 rfl (by decide) (by have := apiaryref1_Pow_chk; exact this) (by rw [hal]; decide) rfl (by kernel_rfl) (by kernel_rfl) (by decide) hpo (W_of_run h)

set_option maxRecDepth 100000 in
theorem times1_t (x a : Int) (y : Bool) (hx : in64 x) (ha : in64 a) : Triple Go.Proofs.Try.prog 55 [.ptr 1000000 0 0, .ptr 1000001 0 0, .ptr 1000002 0 0] [.box [int .i64 x], .box [int .i64 a], .box [bl y]] (.tup [])
    [.box [int .i64 (if in64 (x * a) then x * a else 0)], .box [int .i64 a], .box [bl (decide (in64 (x * a)))]] := by
  refine num_Pow_1_triple rfl (by simp) ?_
  simp only [num_Pow_1_pc, List.length_nil, push_cast, ↓reduceIte, reduceCtorEq, Nat.reduceBEq, Nat.reduceEqDiff, Nat.reduceAdd, Nat.reduceSub, Nat.reduceLT, Nat.reduceLeDiff, Nat.reduceMul]
  refine call_mk (mul_t x a hx ha) rfl trivial ?_
  simp only [sm, push_cast, ↓reduceIte, reduceCtorEq, Nat.reduceBEq, Nat.reduceEqDiff, Nat.reduceAdd, Nat.reduceSub, Nat.reduceLT, Nat.reduceLeDiff, Nat.reduceMul]
theorem pow_small {a : Int} (h1 : -1 ≤ a) (h2 : a ≤ 1) (n : Nat) : a ^ (min n (2 - n % 2)) = a ^ n := by
  have key : ∀ m : Nat, 1 ≤ m → a ^ (m + 2) = a ^ m := fun m hm => by
    have : a = -1 ∨ a = 0 ∨ a = 1 := by omega
    rcases this with rfl | rfl | rfl
    · rw [Int.pow_succ, Int.pow_succ]; omega
    · rw [Int.zero_pow (by omega), Int.zero_pow (by omega)]
    · rw [Int.one_pow, Int.one_pow]
  induction n using Nat.strongRecOn with
  | ind n ih =>
    rcases (show n = 0 ∨ n = 1 ∨ n = 2 ∨ 3 ≤ n by omega) with h | h | h | h
    · subst h; rfl
    · subst h; rfl
    · subst h; rfl
    · have := ih (n - 2) (by omega)
      have e := key (n - 2) (by omega)
      rw [show n - 2 + 2 = n by omega] at e
      rw [e, ← this]
      congr 1
      omega
theorem pow_out {x a T : Int} {n : Nat} (hx1 : -1 ≤ a ∧ a ≤ 1 → -1 ≤ x ∧ x ≤ 1) (hx : in64 x) (ha : in64 a) (h : ¬ in64 (x * a)) (hT : x * a * a ^ n = T) : ¬ in64 T := by
  have h4 : ¬ (-1 ≤ a ∧ a ≤ 1) := fun hs => by
    have := hx1 hs
    have h4 : a = -1 ∨ a = 0 ∨ a = 1 := by omega
    apply h
    unfold in64
    rcases h4 with rfl | rfl | rfl <;> omega
  have h5 : 2 ≤ a.natAbs := by omega
  have h6 : 9223372036854775808 ≤ (x * a).natAbs := by unfold in64 at h; omega
  have h7 : T.natAbs = (x * a).natAbs * a.natAbs ^ n := by rw [← hT, Int.natAbs_mul, Int.natAbs_pow]
  cases n with
  | zero =>
    simp at hT
    rw [← hT]; exact h
  | succ n =>
    have h8 : 2 ≤ a.natAbs ^ (n + 1) := Nat.le_trans h5 (Nat.le_self_pow (by omega) _)
    have h9 : 9223372036854775808 * 2 ≤ (x * a).natAbs * a.natAbs ^ (n + 1) := Nat.mul_le_mul h6 h8
    rw [← h7] at h9
    unfold in64
    omega
set_option maxRecDepth 100000 in
theorem pow_t (a k : Int) (ha : in64 a) (hk : in64 k) : Triple Go.Proofs.Try.prog 36 [int .i64 a, int .i64 k] [] (if k < 0 then .tup [int .i64 0, bl false] else sm (a ^ k.toNat)) [] := by
  refine num_Pow_triple rfl (by decide) ?_
  simp only [num_Pow_pc, List.length_nil, push_cast, ↓reduceIte, reduceCtorEq, Nat.reduceBEq, Nat.reduceEqDiff, Nat.reduceAdd, Nat.reduceSub, Nat.reduceLT, Nat.reduceLeDiff, Nat.reduceMul]
  refine cnd_mk (fun h1 => ?_) (fun h1 => ?_)
  · simp only [decide_eq_true_eq] at h1
    simp only [if_pos h1, push_cast, ↓reduceIte, reduceCtorEq, Nat.reduceBEq, Nat.reduceEqDiff, Nat.reduceAdd, Nat.reduceSub, Nat.reduceLT, Nat.reduceLeDiff, Nat.reduceMul]
  · simp only [decide_eq_false_iff_not] at h1
    simp only [if_neg h1, push_cast, ↓reduceIte, reduceCtorEq, Nat.reduceBEq, Nat.reduceEqDiff, Nat.reduceAdd, Nat.reduceSub, Nat.reduceLT, Nat.reduceLeDiff, Nat.reduceMul]
    generalize hT : a ^ k.toNat = T
    refine cnd_join (fun e ob => ∃ k', e 1 = int .i64 k' ∧ e 2 = .ptr 2 0 0 ∧ 0 ≤ k' ∧ in64 k' ∧ a ^ k'.toNat = T ∧ (a = -1 ∨ a = 0 ∨ a = 1 → k' ≤ 2) ∧ ob = upd 2 (0, .box [int .i64 a]) (fun _ => none)) ?_ (fun h2 => ?_) (fun h2 => ?_)
    · rintro e ob ⟨k', he1, he2, hk0, hk1, hkT, hk3, rfl⟩
      simp only [he1, he2, push_cast, ↓reduceIte, reduceCtorEq, Nat.reduceBEq, Nat.reduceEqDiff, Nat.reduceAdd, Nat.reduceSub, Nat.reduceLT, Nat.reduceLeDiff, Nat.reduceMul]
      refine run_loop [(1, false), (6, false), (2, false), (7, false), (8, false)] (fun vs pos los => ∃ (j x : Int) (y : Bool), 0 ≤ j ∧ in64 j ∧ in64 x ∧ (y = true → x * a ^ j.toNat = T) ∧ (y = false → x = 0 ∧ ¬ in64 T) ∧ (-1 ≤ a ∧ a ≤ 1 → -1 ≤ x ∧ x ≤ 1) ∧
        vs = [int .i64 j, .ptr 2000000 0 0, .ptr 2000001 0 0, .ptr 2000002 0 0, .fn (.func 55) [.ptr 2000000 0 0, .ptr 2000001 0 0, .ptr 2000002 0 0]] ∧ pos = [] ∧ los = [.box [int .i64 x], .box [int .i64 a], .box [bl y]])
        (fun vs _ _ => match vs with | .r (.v (.int _ j)) :: _ => j.toNat | _ => 0) rfl ?_ ?_
      · simp only [he1, he2, push_cast, ↓reduceIte, reduceCtorEq, Nat.reduceBEq, Nat.reduceEqDiff, Nat.reduceAdd, Nat.reduceSub, Nat.reduceLT, Nat.reduceLeDiff, Nat.reduceMul]
        exact ⟨k', 1, true, hk0, hk1, by decide, fun _ => by rw [Int.one_mul, hkT], by simp, fun _ => by decide, rfl, rfl⟩
      · rintro vs pos los ⟨j, x, y, j0, j1, x0, hy1, hy2, hx1, rfl, rfl, rfl⟩
        simp only [push_cast, ↓reduceIte, reduceCtorEq, Nat.reduceBEq, Nat.reduceEqDiff, Nat.reduceAdd, Nat.reduceSub, Nat.reduceLT, Nat.reduceLeDiff, Nat.reduceMul]
        refine cnd_mk (fun h => ?_) (fun h => ?_)
        · have hj : 0 < j := by
            rcases Int.lt_or_le 0 j with h' | h'
            · exact h'
            · simp [show ¬ j > 0 by omega] at h
          have hy : y = true := by simpa [hj] using h
          simp only [push_cast, ↓reduceIte, reduceCtorEq, Nat.reduceBEq, Nat.reduceEqDiff, Nat.reduceAdd, Nat.reduceSub, Nat.reduceLT, Nat.reduceLeDiff, Nat.reduceMul]
          refine ⟨by kernel_rfl, ?_⟩
          refine call_mk (times1_t x a y x0 ha) rfl ⟨rfl, rfl, rfl, trivial⟩ ?_
          simp only [push_cast, ↓reduceIte, reduceCtorEq, Nat.reduceBEq, Nat.reduceEqDiff, Nat.reduceAdd, Nat.reduceSub, Nat.reduceLT, Nat.reduceLeDiff, Nat.reduceMul]
          have hw : IntKind.i64.wrap (j - 1) = j - 1 := wrap_id (by unfold in64 at j1; omega)
          rw [hw]
          have hjn : j.toNat = (j - 1).toNat + 1 := by omega
          have hT' : x * a * a ^ (j - 1).toNat = T := by
            rw [← hy1 hy, hjn, Int.pow_succ, Int.mul_assoc, Int.mul_comm a]
          refine ⟨⟨j - 1, _, _, by omega, by unfold in64 at j1 ⊢; omega, ?_, ?_, ?_, ?_, rfl, rfl⟩, by omega⟩
          · split
            · assumption
            · decide
          · intro hd
            rw [if_pos (of_decide_eq_true hd)]
            exact hT'
          · intro hd
            have hd := of_decide_eq_false hd
            rw [if_neg hd]
            refine ⟨rfl, ?_⟩
            exact pow_out hx1 x0 ha hd hT'
          · intro hs
            have := hx1 hs
            have h4 : a = -1 ∨ a = 0 ∨ a = 1 := by omega
            split
            · rcases h4 with rfl | rfl | rfl <;> omega
            · omega
        · simp only [push_cast, ↓reduceIte, reduceCtorEq, Nat.reduceBEq, Nat.reduceEqDiff, Nat.reduceAdd, Nat.reduceSub, Nat.reduceLT, Nat.reduceLeDiff, Nat.reduceMul]
          refine ⟨by kernel_rfl, ?_⟩
          cases y with
          | true =>
            have hj : j = 0 := by
              rcases Int.lt_or_le 0 j with h' | h'
              · simp [h'] at h
              · omega
            subst hj
            have := hy1 rfl
            simp at this
            subst this
            exact sm_yes rfl x0
          | false =>
            obtain ⟨rfl, hn⟩ := hy2 rfl
            exact sm_no hn
    · simp only [push_cast, ↓reduceIte, reduceCtorEq, Nat.reduceBEq, Nat.reduceEqDiff, Nat.reduceAdd, Nat.reduceSub, Nat.reduceLT, Nat.reduceLeDiff, Nat.reduceMul]
      have h4 : a = -1 ∨ a = 0 ∨ a = 1 := by
        by_cases p : a ≥ -1 <;> by_cases q : a ≤ 1 <;> simp [p, q] at h2 <;> omega
      have e0 : k.tmod 2 = k % 2 := by
        rw [Int.tmod_eq_emod_of_nonneg (by omega)]
      have ew : IntKind.i64.wrap (2 - k.tmod 2) = 2 - k % 2 := by rw [e0]; exact wrap_id (by omega)
      rw [ew]
      refine ⟨by decide, min k (2 - k % 2), rfl, by omega, by unfold in64 at *; omega, ?_, by omega⟩
      rw [show (min k (2 - k % 2)).toNat = min k.toNat (2 - k.toNat % 2) by omega, pow_small (by omega) (by omega), hT]
    · simp only [push_cast, ↓reduceIte, reduceCtorEq, Nat.reduceBEq, Nat.reduceEqDiff, Nat.reduceAdd, Nat.reduceSub, Nat.reduceLT, Nat.reduceLeDiff, Nat.reduceMul]
      refine ⟨k, rfl, by omega, hk, hT, fun h => ?_⟩
      rcases h with rfl | rfl | rfl <;> simp at h2
end Go.Ev
