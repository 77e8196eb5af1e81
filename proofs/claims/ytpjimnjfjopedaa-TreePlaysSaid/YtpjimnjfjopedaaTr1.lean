import Derived.Test.YtpjimnjfjopedaaChecked
import Derived.Test.YtpjimnjfjopedaaBase
import Derived.Test.YtpjimnjfjopedaaEvView
namespace Go.Ev
open Go
set_option linter.unnecessarySimpa false
set_option linter.unusedSimpArgs false
set_option linter.unusedVariables false
noncomputable def tree_Less_pc : PC :=
  (.seq (.reg [⟨(some 2), none, 0, .act (.box (.t 0))⟩,
    ⟨(some 3), none, 0, .act (.box (.t 1))⟩,
    ⟨(some 4), none, 0, .see (.mov (.c (.r (.v (.bool false)))))⟩])
  (.seq (.block 0 (.seq (.reg [⟨(some 6), none, 0, .see (.fa 0 (.t 2))⟩,
    ⟨(some 7), none, 0, .see (.ld none (.t 6))⟩,
    ⟨(some 8), none, 0, .see (.fa 0 (.t 3))⟩,
    ⟨(some 9), none, 0, .see (.ld none (.t 8))⟩,
    ⟨(some 10), none, 0, .see (.bin .neq (.t 7) (.t 9))⟩,
    ⟨(some 5), none, 0, .see (.mov (.t 10))⟩])
  (.cond (.t 5)
    (.seq (.reg [⟨(some 11), none, 0, .see (.fa 0 (.t 2))⟩,
    ⟨(some 12), none, 0, .see (.ld none (.t 11))⟩,
    ⟨(some 13), none, 0, .see (.fa 0 (.t 3))⟩,
    ⟨(some 14), none, 0, .see (.ld none (.t 13))⟩,
    ⟨(some 15), none, 0, .see (.bin .lss (.t 12) (.t 14))⟩,
    ⟨(some 4), none, 0, .see (.mov (.t 15))⟩])
    .ret)
    (.seq (.reg [⟨(some 17), none, 0, .see (.fa 1 (.t 2))⟩,
    ⟨(some 18), none, 0, .see (.ld none (.t 17))⟩,
    ⟨(some 19), none, 0, .see (.fa 1 (.t 3))⟩,
    ⟨(some 20), none, 0, .see (.ld none (.t 19))⟩,
    ⟨(some 21), none, 0, .see (.bin .neq (.t 18) (.t 20))⟩,
    ⟨(some 16), none, 0, .see (.mov (.t 21))⟩])
    (.cond (.t 16)
      (.seq (.reg [⟨(some 22), none, 0, .see (.fa 1 (.t 2))⟩,
    ⟨(some 23), none, 0, .see (.ld none (.t 22))⟩,
    ⟨(some 24), none, 0, .see (.fa 1 (.t 3))⟩,
    ⟨(some 25), none, 0, .see (.ld none (.t 24))⟩,
    ⟨(some 26), none, 0, .see (.bin .lss (.t 23) (.t 25))⟩,
    ⟨(some 4), none, 0, .see (.mov (.t 26))⟩])
      .ret)
      .skip)))))
  (.seq (.reg [⟨(some 27), none, 0, .see (.fa 2 (.t 2))⟩,
    ⟨(some 28), none, 0, .see (.ld none (.t 27))⟩,
    ⟨(some 29), none, 0, .see (.fa 2 (.t 3))⟩,
    ⟨(some 30), none, 0, .see (.ld none (.t 29))⟩,
    ⟨(some 31), none, 0, .see (.bin .lss (.t 28) (.t 30))⟩,
    ⟨(some 4), none, 0, .see (.mov (.t 31))⟩])
  .ret)))
noncomputable abbrev tree_Less_code : Code := (Go.Proofs.Try.f8.body).getD .skip
theorem tree_Less_chk : chkC Go.Proofs.Try.prog 32 tree_Less_code tree_Less_pc = true := by kernel_rfl
theorem tree_Less_triple {args : List AV} {po ro : List Ob} {res : AV} (hal : args.length = 2) (hpo : po.length ≤ 1000)
    (h : run Go.Proofs.Try.prog po.length (RetP po.length [(4, false, none)] fun v os => v = res ∧ os = ro) [.c tree_Less_pc] ⟨argE 0 args, ob0 po⟩) : Triple Go.Proofs.Try.prog 8 args po res ro :=
  triple_of_W (fn := Go.Proofs.Try.f8) (c := tree_Less_code) (pc := tree_Less_pc) (rs := [(4, false, none)]) Go.Proofs.Try.func8 rfl (by decide) (by have := tree_Less_chk; exact this) (by rw [hal]; decide) rfl (by kernel_rfl) (by kernel_rfl) (by decide) hpo (W_of_run h)

noncomputable def apiaryref21_KeyLess_pc : PC :=
  (.seq (.reg [⟨(some 2), none, 0, .act (.box (.t 0))⟩,
    ⟨(some 3), none, 0, .act (.box (.t 1))⟩,
    ⟨(some 4), none, 0, .see (.mov (.c (.r (.v (.bool false)))))⟩])
  (.seq (.seq (.reg [⟨(some 5), none, 0, .see (.fa 0 (.t 2))⟩,
    ⟨(some 6), none, 0, .see (.ld none (.t 5))⟩,
    ⟨(some 7), none, 0, .see (.fa 0 (.t 3))⟩,
    ⟨(some 8), none, 0, .see (.ld none (.t 7))⟩,
    ⟨(some 9), none, 0, .see (.bin .neq (.t 6) (.t 8))⟩])
  (.cond (.t 9)
    (.seq (.reg [⟨(some 10), none, 0, .see (.fa 0 (.t 2))⟩,
    ⟨(some 11), none, 0, .see (.ld none (.t 10))⟩,
    ⟨(some 12), none, 0, .see (.fa 0 (.t 3))⟩,
    ⟨(some 13), none, 0, .see (.ld none (.t 12))⟩,
    ⟨(some 14), none, 0, .see (.bin .lss (.t 11) (.t 13))⟩,
    ⟨(some 4), none, 0, .see (.mov (.t 14))⟩])
    .ret)
    .skip))
  (.seq (.seq (.reg [⟨(some 15), none, 0, .see (.fa 1 (.t 2))⟩,
    ⟨(some 16), none, 0, .see (.ld none (.t 15))⟩,
    ⟨(some 17), none, 0, .see (.fa 1 (.t 3))⟩,
    ⟨(some 18), none, 0, .see (.ld none (.t 17))⟩,
    ⟨(some 19), none, 0, .see (.bin .neq (.t 16) (.t 18))⟩])
  (.cond (.t 19)
    (.seq (.reg [⟨(some 20), none, 0, .see (.fa 1 (.t 2))⟩,
    ⟨(some 21), none, 0, .see (.ld none (.t 20))⟩,
    ⟨(some 22), none, 0, .see (.fa 1 (.t 3))⟩,
    ⟨(some 23), none, 0, .see (.ld none (.t 22))⟩,
    ⟨(some 24), none, 0, .see (.bin .lss (.t 21) (.t 23))⟩,
    ⟨(some 4), none, 0, .see (.mov (.t 24))⟩])
    .ret)
    .skip))
  (.seq (.reg [⟨(some 25), none, 0, .see (.fa 2 (.t 2))⟩,
    ⟨(some 26), none, 0, .see (.ld none (.t 25))⟩,
    ⟨(some 27), none, 0, .see (.fa 2 (.t 3))⟩,
    ⟨(some 28), none, 0, .see (.ld none (.t 27))⟩,
    ⟨(some 29), none, 0, .see (.bin .lss (.t 26) (.t 28))⟩,
    ⟨(some 4), none, 0, .see (.mov (.t 29))⟩])
  .ret))))
noncomputable abbrev apiaryref21_KeyLess_code : Code := (Go.Proofs.Try.f9.body).getD .skip
theorem apiaryref21_KeyLess_chk : chkC Go.Proofs.Try.prog 30 apiaryref21_KeyLess_code apiaryref21_KeyLess_pc = true := by kernel_rfl
theorem apiaryref21_KeyLess_triple {args : List AV} {po ro : List Ob} {res : AV} (hal : args.length = 2) (hpo : po.length ≤ 1000)
    (h : run Go.Proofs.Try.prog po.length (RetP po.length [(4, false, none)] fun v os => v = res ∧ os = ro) [.c apiaryref21_KeyLess_pc] ⟨argE 0 args, ob0 po⟩) : Triple Go.Proofs.Try.prog 9 args po res ro :=
  triple_of_W (fn := Go.Proofs.Try.f9) (c := apiaryref21_KeyLess_code) (pc := apiaryref21_KeyLess_pc) (rs := [(4, false, none)]) Go.Proofs.Try.func9 rfl (by decide) (by have := apiaryref21_KeyLess_chk; exact this) (by rw [hal]; decide) rfl (by kernel_rfl) (by kernel_rfl) (by decide) hpo (W_of_run h)

noncomputable def sort_Search_pc : PC :=
  (.seq (.reg [⟨(some 4), none, 0, .see (.mov (.c (.r (.v (.int .i64 0)))))⟩])
  (.seq (.reg [⟨(some 8), none, 0, .see (.mov (.t 0))⟩,
    ⟨(some 5), none, 0, .see (.mov (.c (.r (.v (.int .i64 0)))))⟩,
    ⟨(some 6), none, 0, .see (.mov (.t 8))⟩])
  (.seq (.block 0 (.loop (.seq (.seq (.reg [⟨(some 9), none, 0, .see (.mov (.t 5))⟩,
    ⟨(some 10), none, 0, .see (.mov (.t 6))⟩,
    ⟨(some 11), none, 0, .see (.bin .lss (.t 9) (.t 10))⟩])
  (.cond (.t 11)
    .skip
    (.exit 0)))
  (.block 1 (.seq (.reg [⟨(some 12), none, 0, .see (.mov (.t 5))⟩,
    ⟨(some 13), none, 0, .see (.mov (.t 6))⟩,
    ⟨(some 14), none, 0, .see (.bin .add (.t 12) (.t 13))⟩,
    ⟨(some 15), none, 0, .see (.conv .u64 (.t 14))⟩,
    ⟨(some 16), none, 0, .see (.bin .shr (.t 15) (.c (.r (.v (.int .u64 1)))))⟩,
    ⟨(some 17), none, 0, .see (.conv .i64 (.t 16))⟩,
    ⟨(some 7), none, 0, .see (.mov (.t 17))⟩])
  (.seq (.reg [⟨(some 18), none, 0, .see (.mov (.t 1))⟩,
    ⟨(some 19), none, 0, .see (.mov (.t 7))⟩,
    ⟨(some 20), none, 1, .callv (.t 18) [(.t 19)]⟩,
    ⟨(some 21), none, 0, .see (.un .not (.t 20))⟩])
  (.cond (.t 21)
    (.reg [⟨(some 22), none, 0, .see (.mov (.t 7))⟩,
    ⟨(some 23), none, 0, .see (.bin .add (.t 22) (.c (.r (.v (.int .i64 1)))))⟩,
    ⟨(some 5), none, 0, .see (.mov (.t 23))⟩])
    (.reg [⟨(some 24), none, 0, .see (.mov (.t 7))⟩,
    ⟨(some 6), none, 0, .see (.mov (.t 24))⟩]))))))))
  (.seq (.reg [⟨(some 25), none, 0, .see (.mov (.t 5))⟩,
    ⟨(some 4), none, 0, .see (.mov (.t 25))⟩])
  .ret))))
noncomputable abbrev sort_Search_code : Code := (Go.Proofs.Try.f28.body).getD .skip
theorem sort_Search_chk : chkC Go.Proofs.Try.prog 26 sort_Search_code sort_Search_pc = true := by kernel_rfl
theorem sort_Search_triple {args : List AV} {po ro : List Ob} {res : AV} (hal : args.length = 2) (hpo : po.length ≤ 1000)
    (h : run Go.Proofs.Try.prog po.length (RetP po.length [(4, false, none)] fun v os => v = res ∧ os = ro) [.c sort_Search_pc] ⟨argE 0 args, ob0 po⟩) : Triple Go.Proofs.Try.prog 28 args po res ro :=
  triple_of_W (fn := Go.Proofs.Try.f28) (c := sort_Search_code) (pc := sort_Search_pc) (rs := [(4, false, none)]) Go.Proofs.Try.func28 rfl (by decide) (by have := sort_Search_chk; exact this) (by rw [hal]; decide) rfl (by kernel_rfl) (by kernel_rfl) (by decide) hpo (W_of_run h)

noncomputable def tree_find_1_pc : PC :=
  (.seq (.reg [⟨(some 4), none, 0, .see (.mov (.c (.r (.v (.bool false)))))⟩])
  (.seq (.drw [⟨(some 5), none, 0, .see (.ld none (.t 1))⟩,
    ⟨(some 6), none, 0, .see (.mov (.t 0))⟩,
    ⟨(some 7), none, 0, .see (.ia 3 (.agg [(.v (.int .u64 0)), (.v (.int .i64 0)), (.v (.int .i64 0))]) (.t 5) (.t 6))⟩,
    ⟨(some 8), none, 0, .see (.ld (some 3) (.t 7))⟩,
    ⟨(some 9), none, 0, .see (.ld (some 3) (.t 2))⟩,
    ⟨(some 10), none, 1, .call 8 [(.t 8), (.t 9)]⟩,
    ⟨(some 11), none, 0, .see (.un .not (.t 10))⟩,
    ⟨(some 4), none, 0, .see (.mov (.t 11))⟩]
    [[], [], [0, 1], [0, 1, 2], [], [0, 1, 2, 3, 4], [0, 1, 2, 3, 4, 5], [0, 1, 2, 3, 4, 5, 6]])
  .ret))
noncomputable abbrev tree_find_1_code : Code := (Go.Proofs.Try.f32.body).getD .skip
theorem tree_find_1_chk : chkC Go.Proofs.Try.prog 12 tree_find_1_code tree_find_1_pc = true := by kernel_rfl
theorem tree_find_1_triple {args : List AV} {po ro : List Ob} {res : AV} (hal : args.length = 3) (hpo : po.length ≤ 1000)
    (h : run Go.Proofs.Try.prog po.length (RetP po.length [(4, false, none)] fun v os => v = res ∧ os = ro) [.c tree_find_1_pc] ⟨argE 0 args, ob0 po⟩) : Triple Go.Proofs.Try.prog 32 args po res ro :=
  triple_of_W (fn := Go.Proofs.Try.f32) (c := tree_find_1_code) (pc := tree_find_1_pc) (rs := [(4, false, none)]) Go.Proofs.Try.func32 rfl (by decide) (by have := tree_find_1_chk; exact this) (by rw [hal]; decide) rfl (by kernel_rfl) (by kernel_rfl) (by decide) hpo (W_of_run h)

noncomputable def tree_find_pc : PC :=
  (.seq (.reg [⟨(some 2), none, 0, .act (.box (.t 0))⟩,
    ⟨(some 3), none, 0, .act (.box (.t 1))⟩,
    ⟨(some 4), none, 0, .see (.mov (.c (.r (.v (.int .i64 0)))))⟩,
    ⟨(some 5), none, 0, .see (.mov (.c (.r (.v (.bool false)))))⟩])
  (.seq (.reg [⟨(some 7), none, 0, .see (.ld none (.t 2))⟩,
    ⟨(some 8), none, 0, .see (.len false (.t 7))⟩,
    ⟨(some 9), none, 0, .see (.mkf (.func 32) [(.t 2), (.t 3)])⟩,
    ⟨(some 10), none, 1, .call 28 [(.t 8), (.t 9)]⟩,
    ⟨(some 6), none, 0, .see (.mov (.t 10))⟩])
  (.seq (.drw [⟨(some 11), none, 0, .see (.mov (.t 6))⟩,
    ⟨(some 12), none, 0, .see (.mov (.t 6))⟩,
    ⟨(some 13), none, 0, .see (.ld none (.t 2))⟩,
    ⟨(some 14), none, 0, .see (.len false (.t 13))⟩,
    ⟨(some 15), none, 0, .see (.bin .lss (.t 12) (.t 14))⟩,
    ⟨(some 16), none, 0, .see (.mov (.t 15))⟩,
    ⟨(some 17), (some (16, true)), 0, .see (.ld none (.t 2))⟩,
    ⟨(some 18), (some (16, true)), 0, .see (.mov (.t 6))⟩,
    ⟨(some 19), (some (16, true)), 0, .see (.ia 3 (.agg [(.v (.int .u64 0)), (.v (.int .i64 0)), (.v (.int .i64 0))]) (.t 17) (.t 18))⟩,
    ⟨(some 20), (some (16, true)), 0, .see (.ld (some 3) (.t 19))⟩,
    ⟨(some 21), (some (16, true)), 0, .see (.ld (some 3) (.t 3))⟩,
    ⟨(some 22), (some (16, true)), 0, .see (.eqa false [0, 0, 0] (.t 20) (.t 21))⟩,
    ⟨(some 23), none, 0, .see (.pick (.t 16) (.t 22) (.c (.r (.v (.bool false)))))⟩,
    ⟨(some 4), none, 0, .see (.mov (.t 11))⟩,
    ⟨(some 5), none, 0, .see (.mov (.t 23))⟩]
    [[], [], [], [2], [1, 2, 3], [1, 2, 3, 4], [1, 2, 3, 4, 5], [1, 2, 3, 4, 5], [1, 2, 3, 4, 5, 6, 7], [1, 2, 3, 4, 5, 6, 7, 8], [1, 2, 3, 4, 5], [1, 2, 3, 4, 5, 6, 7, 8, 9, 10], [1, 2, 3, 4, 5, 6, 7, 8, 9, 10, 11], [0, 1, 2, 3, 4, 5], [0, 1, 2, 3, 4, 5, 6, 7, 8, 9, 10, 11, 12, 13]])
  .ret)))
noncomputable abbrev tree_find_code : Code := (Go.Proofs.Try.f23.body).getD .skip
theorem tree_find_chk : chkC Go.Proofs.Try.prog 24 tree_find_code tree_find_pc = true := by kernel_rfl
theorem tree_find_triple {args : List AV} {po ro : List Ob} {res : AV} (hal : args.length = 2) (hpo : po.length ≤ 1000)
    (h : run Go.Proofs.Try.prog po.length (RetP po.length [(4, false, none), (5, false, none)] fun v os => v = res ∧ os = ro) [.c tree_find_pc] ⟨argE 0 args, ob0 po⟩) : Triple Go.Proofs.Try.prog 23 args po res ro :=
  triple_of_W (fn := Go.Proofs.Try.f23) (c := tree_find_code) (pc := tree_find_pc) (rs := [(4, false, none), (5, false, none)]) Go.Proofs.Try.func23 rfl (by decide) (by have := tree_find_chk; exact this) (by rw [hal]; decide) rfl (by kernel_rfl) (by kernel_rfl) (by decide) hpo (W_of_run h)

/-- A key. -/
structure Ky where
  c : Int
  v : Int
  d : Int
deriving DecidableEq
def Ky.rv (k : Ky) : RV := .agg [.v (.int .u64 k.c), .v (.int .i64 k.v), .v (.int .i64 k.d)]
def Ky.av (k : Ky) : AV := .r k.rv
/-- The order of keys. -/
def kl (a b : Ky) : Bool := if a.c ≠ b.c then decide (a.c < b.c) else if a.v ≠ b.v then decide (a.v < b.v) else decide (a.d < b.d)
set_option maxRecDepth 100000 in
theorem less_t (a b : Ky) : Triple Go.Proofs.Try.prog 8 [a.av, b.av] [] (bl (kl a b)) [] := by
  refine tree_Less_triple rfl (by decide) ?_
  simp only [tree_Less_pc, Ky.av, Ky.rv, kl, List.length_nil, push_cast, ↓reduceIte, reduceCtorEq, Nat.reduceBEq, Nat.reduceEqDiff, Nat.reduceAdd, Nat.reduceSub, Nat.reduceLT, Nat.reduceLeDiff, Nat.reduceMul]
  refine cnd_mk (fun h1 => ?_) (fun h1 => ?_)
  · simp only [push_cast, ↓reduceIte, reduceCtorEq, Nat.reduceBEq, Nat.reduceEqDiff, Nat.reduceAdd, Nat.reduceSub, Nat.reduceLT, Nat.reduceLeDiff, Nat.reduceMul]
    simp at h1
    refine bl_iff ?_
    simp [h1]
  · simp only [push_cast, ↓reduceIte, reduceCtorEq, Nat.reduceBEq, Nat.reduceEqDiff, Nat.reduceAdd, Nat.reduceSub, Nat.reduceLT, Nat.reduceLeDiff, Nat.reduceMul]
    simp at h1
    refine cnd_mk (fun h2 => ?_) (fun h2 => ?_)
    · simp only [push_cast, ↓reduceIte, reduceCtorEq, Nat.reduceBEq, Nat.reduceEqDiff, Nat.reduceAdd, Nat.reduceSub, Nat.reduceLT, Nat.reduceLeDiff, Nat.reduceMul]
      simp at h2
      refine bl_iff ?_
      simp [h1, h2]
    · simp only [push_cast, ↓reduceIte, reduceCtorEq, Nat.reduceBEq, Nat.reduceEqDiff, Nat.reduceAdd, Nat.reduceSub, Nat.reduceLT, Nat.reduceLeDiff, Nat.reduceMul]
      simp at h2
      refine bl_iff ?_
      simp [h1, h2]
set_option maxRecDepth 100000 in
theorem keyLess_t (a b : Ky) : Triple Go.Proofs.Try.prog 9 [a.av, b.av] [] (bl (kl a b)) [] := by
  refine apiaryref21_KeyLess_triple rfl (by decide) ?_
  simp only [apiaryref21_KeyLess_pc, Ky.av, Ky.rv, kl, List.length_nil, push_cast, ↓reduceIte, reduceCtorEq, Nat.reduceBEq, Nat.reduceEqDiff, Nat.reduceAdd, Nat.reduceSub, Nat.reduceLT, Nat.reduceLeDiff, Nat.reduceMul]
  refine cnd_mk (fun h1 => ?_) (fun h1 => ?_)
  · simp only [push_cast, ↓reduceIte, reduceCtorEq, Nat.reduceBEq, Nat.reduceEqDiff, Nat.reduceAdd, Nat.reduceSub, Nat.reduceLT, Nat.reduceLeDiff, Nat.reduceMul]
    simp at h1
    refine bl_iff ?_
    simp [h1]
  · simp only [push_cast, ↓reduceIte, reduceCtorEq, Nat.reduceBEq, Nat.reduceEqDiff, Nat.reduceAdd, Nat.reduceSub, Nat.reduceLT, Nat.reduceLeDiff, Nat.reduceMul]
    simp at h1
    refine cnd_mk (fun h2 => ?_) (fun h2 => ?_)
    · simp only [push_cast, ↓reduceIte, reduceCtorEq, Nat.reduceBEq, Nat.reduceEqDiff, Nat.reduceAdd, Nat.reduceSub, Nat.reduceLT, Nat.reduceLeDiff, Nat.reduceMul]
      simp at h2
      refine bl_iff ?_
      simp [h1, h2]
    · simp only [push_cast, ↓reduceIte, reduceCtorEq, Nat.reduceBEq, Nat.reduceEqDiff, Nat.reduceAdd, Nat.reduceSub, Nat.reduceLT, Nat.reduceLeDiff, Nat.reduceMul]
      simp at h2
      refine bl_iff ?_
      simp [h1, h2]
end Go.Ev
