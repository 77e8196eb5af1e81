import Derived.Test.YtjpejkfhkbaakaaNum2
namespace Go.Ev
open Go
set_option linter.unnecessarySimpa false
set_option linter.unusedSimpArgs false
set_option linter.unusedVariables false
noncomputable def apiaryref1_W_pc : PC :=
  (.seq (.reg [⟨(some 2), none, 0, .act (.new [(.r (.v (.int .u64 0))), (.r (.v (.int .u64 0)))])⟩])
  (.seq (.reg [⟨(some 3), none, 0, .see (.mov (.t 0))⟩,
    ⟨(some 4), none, 0, .see (.bin .shr (.t 3) (.c (.r (.v (.int .u64 63)))))⟩,
    ⟨(some 5), none, 0, .see (.conv .u64 (.t 4))⟩,
    ⟨(some 6), none, 0, .see (.mov (.t 0))⟩,
    ⟨(some 7), none, 0, .see (.conv .u64 (.t 6))⟩,
    ⟨(some 8), none, 0, .see (.build [(.r (.v (.int .u64 0))), (.r (.v (.int .u64 0)))] [(0, 1, (.t 5)), (1, 1, (.t 7))])⟩,
    ⟨none, none, 0, .act (.st 2 (.t 2) (.t 8))⟩])
  .ret))
noncomputable abbrev apiaryref1_W_code : Code := (Go.Proofs.Try.f84.body).getD .skip
theorem apiaryref1_W_chk : chkC Go.Proofs.Try.prog 9 apiaryref1_W_code apiaryref1_W_pc = true := by kernel_rfl
theorem apiaryref1_W_triple {args : List AV} {po ro : List Ob} {res : AV} (hal : args.length = 1) (hpo : po.length ≤ 1000)
    (h : run Go.Proofs.Try.prog po.length (RetP po.length [(2, false, some (85, (some 2)))] fun v os => v = res ∧ os = ro) [.c apiaryref1_W_pc] ⟨argE 0 args, ob0 po⟩) : Triple Go.Proofs.Try.prog 84 args po res ro :=
  triple_of_W (fn := Go.Proofs.Try.f84) (c := apiaryref1_W_code) (pc := apiaryref1_W_pc) (rs := [(2, false, some (85, (some 2)))]) Go.Proofs.Try.func84 rfl (by decide) (by have := apiaryref1_W_chk; exact this) (by rw [hal]; decide) rfl (by kernel_rfl) (by kernel_rfl) (by decide) hpo (W_of_run h)

noncomputable def apiaryref1_Wide_Plus_pc : PC :=
  (.seq (.reg [⟨(some 2), none, 0, .act (.box (.t 0))⟩,
    ⟨(some 3), none, 0, .act (.box (.t 1))⟩,
    ⟨(some 4), none, 0, .act (.new [(.r (.v (.int .u64 0))), (.r (.v (.int .u64 0)))])⟩])
  (.seq (.reg [⟨(some 10), none, 0, .see (.fa 1 (.t 2))⟩,
    ⟨(some 11), none, 0, .see (.ld none (.t 10))⟩,
    ⟨(some 12), none, 0, .see (.fa 1 (.t 3))⟩,
    ⟨(some 13), none, 0, .see (.ld none (.t 12))⟩,
    ⟨(some 14), none, 0, .see (.carry false (.t 11) (.t 13) (.c (.r (.v (.int .u64 0)))))⟩,
    ⟨(some 9), none, 0, .see (.mov (.t 14))⟩,
    ⟨(some 15), none, 0, .see (.ext (.t 9) 0)⟩,
    ⟨(some 16), none, 0, .see (.ext (.t 9) 1)⟩,
    ⟨(some 5), none, 0, .see (.mov (.t 15))⟩,
    ⟨(some 6), none, 0, .see (.mov (.t 16))⟩])
  (.seq (.reg [⟨(some 18), none, 0, .see (.fa 0 (.t 2))⟩,
    ⟨(some 19), none, 0, .see (.ld none (.t 18))⟩,
    ⟨(some 20), none, 0, .see (.fa 0 (.t 3))⟩,
    ⟨(some 21), none, 0, .see (.ld none (.t 20))⟩,
    ⟨(some 22), none, 0, .see (.mov (.t 6))⟩,
    ⟨(some 23), none, 0, .see (.carry false (.t 19) (.t 21) (.t 22))⟩,
    ⟨(some 17), none, 0, .see (.mov (.t 23))⟩,
    ⟨(some 24), none, 0, .see (.ext (.t 17) 0)⟩,
    ⟨(some 25), none, 0, .see (.ext (.t 17) 1)⟩,
    ⟨(some 7), none, 0, .see (.mov (.t 24))⟩,
    ⟨(some 8), none, 0, .see (.mov (.t 25))⟩])
  (.seq (.reg [⟨(some 26), none, 0, .see (.mov (.t 7))⟩,
    ⟨(some 27), none, 0, .see (.mov (.t 5))⟩,
    ⟨(some 28), none, 0, .see (.build [(.r (.v (.int .u64 0))), (.r (.v (.int .u64 0)))] [(0, 1, (.t 26)), (1, 1, (.t 27))])⟩,
    ⟨none, none, 0, .act (.st 2 (.t 4) (.t 28))⟩])
  .ret))))
noncomputable abbrev apiaryref1_Wide_Plus_code : Code := (Go.Proofs.Try.f51.body).getD .skip
theorem apiaryref1_Wide_Plus_chk : chkC Go.Proofs.Try.prog 29 apiaryref1_Wide_Plus_code apiaryref1_Wide_Plus_pc = true := by kernel_rfl
theorem apiaryref1_Wide_Plus_triple {args : List AV} {po ro : List Ob} {res : AV} (hal : args.length = 2) (hpo : po.length ≤ 1000)
    (h : run Go.Proofs.Try.prog po.length (RetP po.length [(4, false, some (85, (some 2)))] fun v os => v = res ∧ os = ro) [.c apiaryref1_Wide_Plus_pc] ⟨argE 0 args, ob0 po⟩) : Triple Go.Proofs.Try.prog 51 args po res ro :=
  triple_of_W (fn := Go.Proofs.Try.f51) (c := apiaryref1_Wide_Plus_code) (pc := apiaryref1_Wide_Plus_pc) (rs := [(4, false, some (85, (some 2)))]) Go.Proofs.Try.func51 rfl (by decide) (by have := apiaryref1_Wide_Plus_chk; exact this) (by rw [hal]; decide) rfl (by kernel_rfl) (by kernel_rfl) (by decide) hpo (W_of_run h)

noncomputable def apiaryref1_Wide_Turned_pc : PC :=
  (.seq (.reg [⟨(some 1), none, 0, .act (.box (.t 0))⟩,
    ⟨(some 2), none, 0, .act (.new [(.r (.v (.int .u64 0))), (.r (.v (.int .u64 0)))])⟩])
  (.seq (.reg [⟨(some 3), none, 0, .see (.fa 0 (.t 1))⟩,
    ⟨(some 4), none, 0, .see (.ld none (.t 3))⟩,
    ⟨(some 5), none, 0, .see (.un .xor (.t 4))⟩,
    ⟨(some 6), none, 0, .see (.fa 1 (.t 1))⟩,
    ⟨(some 7), none, 0, .see (.ld none (.t 6))⟩,
    ⟨(some 8), none, 0, .see (.un .xor (.t 7))⟩,
    ⟨(some 9), none, 0, .see (.build [(.r (.v (.int .u64 0))), (.r (.v (.int .u64 0)))] [(0, 1, (.t 5)), (1, 1, (.t 8))])⟩,
    ⟨(some 10), none, 0, .see (.build [(.r (.v (.int .u64 0))), (.r (.v (.int .u64 0)))] [(0, 1, (.c (.r (.v (.int .u64 0))))), (1, 1, (.c (.r (.v (.int .u64 1)))))])⟩,
    ⟨(some 11), none, 1, .call 51 [(.t 9), (.t 10)]⟩,
    ⟨none, none, 0, .act (.st 2 (.t 2) (.t 11))⟩])
  .ret))
noncomputable abbrev apiaryref1_Wide_Turned_code : Code := (Go.Proofs.Try.f52.body).getD .skip
theorem apiaryref1_Wide_Turned_chk : chkC Go.Proofs.Try.prog 12 apiaryref1_Wide_Turned_code apiaryref1_Wide_Turned_pc = true := by kernel_rfl
theorem apiaryref1_Wide_Turned_triple {args : List AV} {po ro : List Ob} {res : AV} (hal : args.length = 1) (hpo : po.length ≤ 1000)
    (h : run Go.Proofs.Try.prog po.length (RetP po.length [(2, false, some (85, (some 2)))] fun v os => v = res ∧ os = ro) [.c apiaryref1_Wide_Turned_pc] ⟨argE 0 args, ob0 po⟩) : Triple Go.Proofs.Try.prog 52 args po res ro :=
  triple_of_W (fn := Go.Proofs.Try.f52) (c := apiaryref1_Wide_Turned_code) (pc := apiaryref1_Wide_Turned_pc) (rs := [(2, false, some (85, (some 2)))]) Go.Proofs.Try.func52 rfl (by decide) (by have := apiaryref1_Wide_Turned_chk; exact this) (by rw [hal]; decide) rfl (by kernel_rfl) (by kernel_rfl) (by decide) hpo (W_of_run h)

noncomputable def apiaryref1_Times_pc : PC :=
  (.seq (.reg [⟨(some 4), none, 0, .act (.new [(.r (.v (.int .u64 0))), (.r (.v (.int .u64 0)))])⟩])
  (.seq (.reg [⟨(some 9), none, 0, .see (.mov (.t 0))⟩,
    ⟨(some 10), none, 0, .see (.conv .u64 (.t 9))⟩,
    ⟨(some 11), none, 0, .see (.mov (.t 1))⟩,
    ⟨(some 12), none, 0, .see (.conv .u64 (.t 11))⟩,
    ⟨(some 5), none, 0, .see (.mov (.t 10))⟩,
    ⟨(some 6), none, 0, .see (.mov (.t 12))⟩])
  (.seq (.seq (.reg [⟨(some 13), none, 0, .see (.mov (.t 0))⟩,
    ⟨(some 14), none, 0, .see (.bin .lss (.t 13) (.c (.r (.v (.int .i64 0)))))⟩])
  (.cond (.t 14)
    (.reg [⟨(some 15), none, 0, .see (.mov (.t 5))⟩,
    ⟨(some 16), none, 0, .see (.un .neg (.t 15))⟩,
    ⟨(some 5), none, 0, .see (.mov (.t 16))⟩])
    .skip))
  (.seq (.seq (.reg [⟨(some 17), none, 0, .see (.mov (.t 1))⟩,
    ⟨(some 18), none, 0, .see (.bin .lss (.t 17) (.c (.r (.v (.int .i64 0)))))⟩])
  (.cond (.t 18)
    (.reg [⟨(some 19), none, 0, .see (.mov (.t 6))⟩,
    ⟨(some 20), none, 0, .see (.un .neg (.t 19))⟩,
    ⟨(some 6), none, 0, .see (.mov (.t 20))⟩])
    .skip))
  (.seq (.reg [⟨(some 22), none, 0, .see (.mov (.t 5))⟩,
    ⟨(some 23), none, 0, .see (.mov (.t 6))⟩,
    ⟨(some 24), none, 1, .call 68 [(.t 22), (.t 23)]⟩,
    ⟨(some 21), none, 0, .see (.mov (.t 24))⟩,
    ⟨(some 25), none, 0, .see (.ext (.t 21) 0)⟩,
    ⟨(some 26), none, 0, .see (.ext (.t 21) 1)⟩,
    ⟨(some 7), none, 0, .see (.mov (.t 25))⟩,
    ⟨(some 8), none, 0, .see (.mov (.t 26))⟩])
  (.seq (.seq (.reg [⟨(some 27), none, 0, .see (.mov (.t 0))⟩,
    ⟨(some 28), none, 0, .see (.bin .lss (.t 27) (.c (.r (.v (.int .i64 0)))))⟩,
    ⟨(some 29), none, 0, .see (.mov (.t 1))⟩,
    ⟨(some 30), none, 0, .see (.bin .lss (.t 29) (.c (.r (.v (.int .i64 0)))))⟩,
    ⟨(some 31), none, 0, .see (.beq true (.t 28) (.t 30))⟩])
  (.cond (.t 31)
    (.seq (.reg [⟨(some 32), none, 0, .see (.mov (.t 7))⟩,
    ⟨(some 33), none, 0, .see (.mov (.t 8))⟩,
    ⟨(some 34), none, 0, .see (.build [(.r (.v (.int .u64 0))), (.r (.v (.int .u64 0)))] [(0, 1, (.t 32)), (1, 1, (.t 33))])⟩,
    ⟨(some 35), none, 2, .call 52 [(.t 34)]⟩,
    ⟨none, none, 0, .act (.st 2 (.t 4) (.t 35))⟩])
    .ret)
    .skip))
  (.seq (.reg [⟨(some 36), none, 0, .see (.mov (.t 7))⟩,
    ⟨(some 37), none, 0, .see (.mov (.t 8))⟩,
    ⟨(some 38), none, 0, .see (.build [(.r (.v (.int .u64 0))), (.r (.v (.int .u64 0)))] [(0, 1, (.t 36)), (1, 1, (.t 37))])⟩,
    ⟨none, none, 0, .act (.st 2 (.t 4) (.t 38))⟩])
  .ret)))))))
noncomputable abbrev apiaryref1_Times_code : Code := (Go.Proofs.Try.f49.body).getD .skip
theorem apiaryref1_Times_chk : chkC Go.Proofs.Try.prog 39 apiaryref1_Times_code apiaryref1_Times_pc = true := by kernel_rfl
theorem apiaryref1_Times_triple {args : List AV} {po ro : List Ob} {res : AV} (hal : args.length = 2) (hpo : po.length ≤ 1000)
    (h : run Go.Proofs.Try.prog po.length (RetP po.length [(4, false, some (85, (some 2)))] fun v os => v = res ∧ os = ro) [.c apiaryref1_Times_pc] ⟨argE 0 args, ob0 po⟩) : Triple Go.Proofs.Try.prog 49 args po res ro :=
  triple_of_W (fn := Go.Proofs.Try.f49) (c := apiaryref1_Times_code) (pc := apiaryref1_Times_pc) (rs := [(4, false, some (85, (some 2)))]) Go.Proofs.Try.func49 rfl (by decide) (by have := apiaryref1_Times_chk; exact this) (by rw [hal]; decide) rfl (by kernel_rfl) (by kernel_rfl) (by decide) hpo (W_of_run h)

noncomputable def apiaryref1_Wide_Small_pc : PC :=
  (.seq (.reg [⟨(some 1), none, 0, .act (.box (.t 0))⟩,
    ⟨(some 2), none, 0, .see (.mov (.c (.r (.v (.int .i64 0)))))⟩,
    ⟨(some 3), none, 0, .see (.mov (.c (.r (.v (.bool false)))))⟩])
  (.seq (.reg [⟨(some 5), none, 0, .see (.fa 1 (.t 1))⟩,
    ⟨(some 6), none, 0, .see (.ld none (.t 5))⟩,
    ⟨(some 7), none, 0, .see (.conv .i64 (.t 6))⟩,
    ⟨(some 4), none, 0, .see (.mov (.t 7))⟩])
  (.seq (.seq (.drw [⟨(some 8), none, 0, .see (.mov (.t 4))⟩,
    ⟨(some 9), none, 1, .call 84 [(.t 8)]⟩,
    ⟨(some 10), none, 0, .see (.ld (some 2) (.t 1))⟩,
    ⟨(some 11), none, 0, .see (.eqa true [0, 0] (.t 9) (.t 10))⟩]
    [[], [0], [], [0, 1, 2]])
  (.cond (.t 11)
    (.seq (.reg [⟨(some 2), none, 0, .see (.mov (.c (.r (.v (.int .i64 0)))))⟩,
    ⟨(some 3), none, 0, .see (.mov (.c (.r (.v (.bool false)))))⟩])
    .ret)
    .skip))
  (.seq (.reg [⟨(some 12), none, 0, .see (.mov (.t 4))⟩,
    ⟨(some 2), none, 0, .see (.mov (.t 12))⟩,
    ⟨(some 3), none, 0, .see (.mov (.c (.r (.v (.bool true)))))⟩])
  .ret))))
noncomputable abbrev apiaryref1_Wide_Small_code : Code := (Go.Proofs.Try.f65.body).getD .skip
theorem apiaryref1_Wide_Small_chk : chkC Go.Proofs.Try.prog 13 apiaryref1_Wide_Small_code apiaryref1_Wide_Small_pc = true := by kernel_rfl
theorem apiaryref1_Wide_Small_triple {args : List AV} {po ro : List Ob} {res : AV} (hal : args.length = 1) (hpo : po.length ≤ 1000)
    (h : run Go.Proofs.Try.prog po.length (RetP po.length [(2, false, none), (3, false, none)] fun v os => v = res ∧ os = ro) [.c apiaryref1_Wide_Small_pc] ⟨argE 0 args, ob0 po⟩) : Triple Go.Proofs.Try.prog 65 args po res ro :=
  triple_of_W (fn := Go.Proofs.Try.f65) (c := apiaryref1_Wide_Small_code) (pc := apiaryref1_Wide_Small_pc) (rs := [(2, false, none), (3, false, none)]) Go.Proofs.Try.func65 rfl (by decide) (by have := apiaryref1_Wide_Small_chk; exact this) (by rw [hal]; decide) rfl (by kernel_rfl) (by kernel_rfl) (by decide) hpo (W_of_run h)

/-- A number of 128 bits. -/
def wide (x : Int) : AV := .r (.agg [.v (.int .u64 (x / 18446744073709551616 % 18446744073709551616)), .v (.int .u64 (x % 18446744073709551616))])
theorem wide_eq {x a b : Int} (h1 : a = x / 18446744073709551616 % 18446744073709551616) (h2 : b = x % 18446744073709551616) : AV.r (.agg [.v (.int .u64 a), .v (.int .u64 b)]) = wide x := by rw [h1, h2]; rfl
theorem shr63 (a : Int) (ha : in64 a) : a.fdiv (2 ^ min (Int.toNat 63) IntKind.i64.bits) = if a < 0 then -1 else 0 := by
  have : (2 : Int) ^ min (Int.toNat 63) IntKind.i64.bits = 9223372036854775808 := by decide
  rw [this, Int.fdiv_eq_ediv_of_nonneg _ (by decide)]
  unfold in64 at ha
  split <;> omega
set_option maxRecDepth 100000 in
theorem w_t (a : Int) (ha : in64 a) : Triple Go.Proofs.Try.prog 84 [int .i64 a] [] (wide a) [] := by
  refine apiaryref1_W_triple rfl (by decide) ?_
  simp only [apiaryref1_W_pc, List.length_nil, push_cast, ↓reduceIte, reduceCtorEq, Nat.reduceBEq, Nat.reduceEqDiff, Nat.reduceAdd, Nat.reduceSub, Nat.reduceLT, Nat.reduceLeDiff, Nat.reduceMul]
  refine ⟨by decide, wide_eq ?_ ?_⟩
  · rw [shr63 a ha, IntKind.wrap_u64]
    unfold in64 at ha
    split <;> omega
  · rw [IntKind.wrap_u64]
theorem not64 {x : Int} (h0 : 0 ≤ x) (h1 : x < 18446744073709551616) : IntKind.u64.wrap ((BitVec.ofInt IntKind.u64.bits (if IntKind.u64.signed = true then -1 else IntKind.u64.max) ^^^ BitVec.ofInt IntKind.u64.bits x).toNat) = 18446744073709551615 - x := by
  obtain ⟨n, rfl⟩ := Int.eq_ofNat_of_zero_le h0
  have e1 : BitVec.ofInt IntKind.u64.bits (if IntKind.u64.signed = true then -1 else IntKind.u64.max) = BitVec.allOnes 64 := by rfl
  have e2 : BitVec.ofInt IntKind.u64.bits (n : Int) = BitVec.ofNat 64 n := by simp [IntKind.bits]
  rw [e1, e2]
  show IntKind.u64.wrap ((BitVec.allOnes 64 ^^^ BitVec.ofNat 64 n).toNat : Int) = _
  rw [BitVec.allOnes_xor, BitVec.toNat_not, BitVec.toNat_ofNat, IntKind.wrap_u64]
  omega
theorem and_all {p q : Prop} (h1 : p) (h2 : q) : p ∧ q := ⟨h1, h2⟩
set_option maxRecDepth 100000 in
theorem plus_t (a b : Int) : Triple Go.Proofs.Try.prog 51 [wide a, wide b] [] (wide (a + b)) [] := by
  refine apiaryref1_Wide_Plus_triple rfl (by decide) ?_
  simp only [apiaryref1_Wide_Plus_pc, wide, List.length_nil, push_cast, ↓reduceIte, reduceCtorEq, Nat.reduceBEq, Nat.reduceEqDiff, Nat.reduceAdd, Nat.reduceSub, Nat.reduceLT, Nat.reduceLeDiff, Nat.reduceMul]
  refine ⟨by omega, by omega, wide_eq (by omega) (by omega)⟩
set_option maxRecDepth 100000 in
theorem small_t (a : Int) (h : -170141183460469231731687303715884105728 ≤ a ∧ a < 170141183460469231731687303715884105728) : Triple Go.Proofs.Try.prog 65 [wide a] [] (sm a) [] := by
  refine apiaryref1_Wide_Small_triple rfl (by decide) ?_
  simp only [apiaryref1_Wide_Small_pc, wide, List.length_nil, push_cast, ↓reduceIte, reduceCtorEq, Nat.reduceBEq, Nat.reduceEqDiff, Nat.reduceAdd, Nat.reduceSub, Nat.reduceLT, Nat.reduceLeDiff, Nat.reduceMul]
  rw [IntKind.wrap_i64]
  refine dcall_mk (w_t _ (by unfold in64; omega)) rfl trivial ?_
  simp only [wide, push_cast, ↓reduceIte, reduceCtorEq, Nat.reduceBEq, Nat.reduceEqDiff, Nat.reduceAdd, Nat.reduceSub, Nat.reduceLT, Nat.reduceLeDiff, Nat.reduceMul]
  refine ⟨by kernel_rfl, ?_⟩
  refine cnd_mk (fun h => ?_) (fun h => ?_)
  · simp only [push_cast, ↓reduceIte, reduceCtorEq, Nat.reduceBEq, Nat.reduceEqDiff, Nat.reduceAdd, Nat.reduceSub, Nat.reduceLT, Nat.reduceLeDiff, Nat.reduceMul]
    refine sm_no ?_
    unfold in64
    simp at h
    omega
  · simp only [push_cast, ↓reduceIte, reduceCtorEq, Nat.reduceBEq, Nat.reduceEqDiff, Nat.reduceAdd, Nat.reduceSub, Nat.reduceLT, Nat.reduceLeDiff, Nat.reduceMul]
    simp at h
    refine sm_yes ?_ ?_
    · omega
    · unfold in64; omega
set_option maxRecDepth 100000 in
theorem turned_t (a : Int) : Triple Go.Proofs.Try.prog 52 [wide a] [] (wide (-a)) [] := by
  refine apiaryref1_Wide_Turned_triple rfl (by decide) ?_
  simp only [apiaryref1_Wide_Turned_pc, wide, List.length_nil, push_cast, ↓reduceIte, reduceCtorEq, Nat.reduceBEq, Nat.reduceEqDiff, Nat.reduceAdd, Nat.reduceSub, Nat.reduceLT, Nat.reduceLeDiff, Nat.reduceMul]
  rw [not64 (by omega) (by omega), not64 (by omega) (by omega)]
  refine call_as (as' := [wide (-1 - a), wide 1]) ?_ ?_
  · congr 1
    · exact wide_eq (by omega) (by omega)
  · refine call_mk (plus_t (-1 - a) 1) rfl trivial ?_
    simp only [wide, push_cast, ↓reduceIte, reduceCtorEq, Nat.reduceBEq, Nat.reduceEqDiff, Nat.reduceAdd, Nat.reduceSub, Nat.reduceLT, Nat.reduceLeDiff, Nat.reduceMul]
    exact wide_eq (by omega) (by omega)
theorem wrap_abs (a : Int) (ha : in64 a) : (a < 0 → IntKind.u64.wrap (0 - IntKind.u64.wrap a) = a.natAbs) ∧ (¬ a < 0 → IntKind.u64.wrap a = a.natAbs) := by
  unfold in64 at ha
  rw [IntKind.wrap_u64, IntKind.wrap_u64]
  omega
set_option maxRecDepth 100000 in
theorem times_t (a b : Int) (ha : in64 a) (hb : in64 b) : Triple Go.Proofs.Try.prog 49 [int .i64 a, int .i64 b] [] (wide (a * b)) [] := by
  refine apiaryref1_Times_triple rfl (by decide) ?_
  have ha' := ha
  have hb' := hb
  unfold in64 at ha' hb'
  obtain ⟨wa1, wa2⟩ := wrap_abs a ha
  obtain ⟨wb1, wb2⟩ := wrap_abs b hb
  have hab : a.natAbs * b.natAbs = (a * b).natAbs := (Int.natAbs_mul a b).symm
  have hle : (a * b).natAbs ≤ 9223372036854775808 * 9223372036854775808 := by rw [← hab]; exact Nat.mul_le_mul (by omega) (by omega)
  have hs : (a < 0 ∧ b < 0 → 0 < a * b) ∧ (a < 0 ∧ 0 ≤ b → a * b ≤ 0) ∧ (0 ≤ a ∧ b < 0 → a * b ≤ 0) ∧ (0 ≤ a ∧ 0 ≤ b → 0 ≤ a * b) :=
    ⟨fun h => Int.mul_pos_of_neg_of_neg h.1 h.2, fun h => Int.mul_nonpos_of_nonpos_of_nonneg (by omega) h.2, fun h => Int.mul_nonpos_of_nonneg_of_nonpos h.1 (by omega), fun h => Int.mul_nonneg h.1 h.2⟩
  simp only [apiaryref1_Times_pc, List.length_nil, push_cast, ↓reduceIte, reduceCtorEq, Nat.reduceBEq, Nat.reduceEqDiff, Nat.reduceAdd, Nat.reduceSub, Nat.reduceLT, Nat.reduceLeDiff, Nat.reduceMul]
  refine cnd_mk (fun h1 => ?_) (fun h1 => ?_) <;> simp only [push_cast, ↓reduceIte, reduceCtorEq, Nat.reduceBEq, Nat.reduceEqDiff, Nat.reduceAdd, Nat.reduceSub, Nat.reduceLT, Nat.reduceLeDiff, Nat.reduceMul] <;> refine cnd_mk (fun h2 => ?_) (fun h2 => ?_) <;> simp only [push_cast, ↓reduceIte, reduceCtorEq, Nat.reduceBEq, Nat.reduceEqDiff, Nat.reduceAdd, Nat.reduceSub, Nat.reduceLT, Nat.reduceLeDiff, Nat.reduceMul]
  all_goals
    simp only [decide_eq_true_eq, decide_eq_false_iff_not] at h1 h2
    refine call_as (as' := [int .u64 a.natAbs, int .u64 b.natAbs]) (by first | rw [wa1 h1, wb1 h2] | rw [wa1 h1, wb2 h2] | rw [wa2 h1, wb1 h2] | rw [wa2 h1, wb2 h2]) ?_
    refine call_mk (mul64_t a.natAbs b.natAbs (by omega) (by omega)) rfl trivial ?_
    rw [hab]
    simp only [h1, h2, Bool.true_beq, Bool.false_beq, push_cast, ↓reduceIte, reduceCtorEq, Nat.reduceBEq, Nat.reduceEqDiff, Nat.reduceAdd, Nat.reduceSub, Nat.reduceLT, Nat.reduceLeDiff, Nat.reduceMul]
    generalize a * b = m at *
  · exact wide_eq (by omega) (by omega)
  · refine call_as (as' := [wide (-m)]) (by congr 1; exact wide_eq (by omega) (by omega)) ?_
    refine call_mk (turned_t (-m)) rfl trivial ?_
    simp only [wide, push_cast, ↓reduceIte, reduceCtorEq, Nat.reduceBEq, Nat.reduceEqDiff, Nat.reduceAdd, Nat.reduceSub, Nat.reduceLT, Nat.reduceLeDiff, Nat.reduceMul]
    exact wide_eq (by omega) (by omega)
  · refine call_as (as' := [wide (-m)]) (by congr 1; exact wide_eq (by omega) (by omega)) ?_
    refine call_mk (turned_t (-m)) rfl trivial ?_
    simp only [wide, push_cast, ↓reduceIte, reduceCtorEq, Nat.reduceBEq, Nat.reduceEqDiff, Nat.reduceAdd, Nat.reduceSub, Nat.reduceLT, Nat.reduceLeDiff, Nat.reduceMul]
    exact wide_eq (by omega) (by omega)
  · exact wide_eq (by omega) (by omega)
end Go.Ev
