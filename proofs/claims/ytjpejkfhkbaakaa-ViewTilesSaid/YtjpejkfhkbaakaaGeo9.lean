import Derived.Test.YtjpejkfhkbaakaaGeo8
namespace Go.Ev
open Go
set_option linter.unnecessarySimpa false
set_option linter.unusedSimpArgs false
set_option linter.unusedVariables false
noncomputable def apiaryref1_Word_pc : PC :=
  (.seq (.reg [⟨(some 1), none, 0, .act (.box (.t 0))⟩,
    ⟨(some 2), none, 0, .see (.mov (.c (.r (.v (.int .u64 0)))))⟩,
    ⟨(some 3), none, 0, .see (.mov (.c (.r (.v (.int .i64 0)))))⟩])
  (.seq (.seq (.reg [⟨(some 10), none, 0, .see (.ld (some 3) (.t 1))⟩,
    ⟨(some 11), none, 1, .call 47 [(.t 10)]⟩,
    ⟨(some 12), none, 0, .see (.un .not (.t 11))⟩])
  (.cond (.t 12)
    (.seq (.reg [⟨(some 2), none, 0, .see (.mov (.c (.r (.v (.int .u64 0)))))⟩,
    ⟨(some 3), none, 0, .see (.mov (.c (.r (.v (.int .i64 2)))))⟩])
    .ret)
    .skip))
  (.seq (.reg [⟨(some 13), none, 0, .see (.fa 1 (.t 1))⟩,
    ⟨(some 14), none, 0, .see (.ld (some 2) (.t 13))⟩,
    ⟨(some 4), none, 0, .act (.new [(.r (.v (.int .i64 0))), (.r (.v (.int .i64 0)))])⟩,
    ⟨none, none, 0, .act (.st 2 (.t 4) (.t 14))⟩])
  (.seq (.reg [⟨(some 5), none, 0, .see (.mov (.c (.r (.v (.int .u64 68719476735)))))⟩])
  (.seq (.seq (.reg [⟨(some 15), none, 0, .see (.fa 0 (.t 1))⟩,
    ⟨(some 16), none, 0, .see (.ld none (.t 15))⟩,
    ⟨(some 6), none, 0, .see (.mov (.t 16))⟩])
  (.block 0 (.loop (.seq (.seq (.reg [⟨(some 17), none, 0, .see (.mov (.t 6))⟩,
    ⟨(some 18), none, 0, .see (.bin .gtr (.t 17) (.c (.r (.v (.int .i64 0)))))⟩])
  (.cond (.t 18)
    .skip
    (.exit 0)))
  (.seq (.block 1 (.seq (.reg [⟨(some 22), none, 0, .see (.ld (some 2) (.t 4))⟩,
    ⟨(some 23), none, 2, .call 48 [(.t 22)]⟩,
    ⟨(some 21), none, 0, .see (.mov (.t 23))⟩,
    ⟨(some 24), none, 0, .see (.ext (.t 21) 0)⟩,
    ⟨(some 25), none, 0, .see (.ext (.t 21) 1)⟩,
    ⟨(some 7), none, 0, .act (.new [(.r (.v (.int .i64 0))), (.r (.v (.int .i64 0)))])⟩,
    ⟨none, none, 0, .act (.st 2 (.t 7) (.t 24))⟩,
    ⟨(some 8), none, 0, .see (.mov (.t 25))⟩])
  (.seq (.reg [⟨(some 26), none, 0, .see (.mov (.t 6))⟩,
    ⟨(some 27), none, 0, .see (.bin .mul (.c (.r (.v (.int .i64 3)))) (.t 26))⟩,
    ⟨(some 28), none, 0, .see (.bin .sub (.c (.r (.v (.int .i64 36)))) (.t 27))⟩,
    ⟨(some 9), none, 0, .see (.mov (.t 28))⟩])
  (.seq (.drw [⟨(some 29), none, 0, .see (.mov (.t 5))⟩,
    ⟨(some 30), none, 0, .see (.mov (.t 9))⟩,
    ⟨(some 31), none, 0, .see (.bin .shl (.c (.r (.v (.int .u64 7)))) (.t 30))⟩,
    ⟨(some 32), none, 0, .see (.bin .andNot (.t 29) (.t 31))⟩,
    ⟨(some 33), none, 0, .see (.mov (.t 8))⟩,
    ⟨(some 34), none, 0, .see (.conv .u64 (.t 33))⟩,
    ⟨(some 35), none, 0, .see (.mov (.t 9))⟩,
    ⟨(some 36), none, 0, .see (.bin .shl (.t 34) (.t 35))⟩,
    ⟨(some 37), none, 0, .see (.bin .or (.t 32) (.t 36))⟩,
    ⟨(some 5), none, 0, .see (.mov (.t 37))⟩]
    [[], [], [1], [0, 1, 2], [], [4], [], [4, 5, 6], [0, 1, 2, 3, 4, 5, 6, 7], [0, 1, 2, 3, 4, 5, 6, 7, 8]])
  (.reg [⟨(some 38), none, 0, .see (.ld (some 2) (.t 7))⟩,
    ⟨none, none, 0, .act (.st 2 (.t 4) (.t 38))⟩])))))
  (.reg [⟨(some 19), none, 0, .see (.mov (.t 6))⟩,
    ⟨(some 20), none, 0, .see (.bin .sub (.t 19) (.c (.r (.v (.int .i64 1)))))⟩,
    ⟨(some 6), none, 0, .see (.mov (.t 20))⟩]))))))
  (.seq (.reg [⟨(some 39), none, 0, .see (.mov (.t 5))⟩,
    ⟨(some 40), none, 0, .see (.bin .or (.t 39) (.c (.r (.v (.int .u64 1152921504606846976)))))⟩,
    ⟨(some 41), none, 0, .see (.fa 0 (.t 1))⟩,
    ⟨(some 42), none, 0, .see (.ld none (.t 41))⟩,
    ⟨(some 43), none, 0, .see (.conv .u64 (.t 42))⟩,
    ⟨(some 44), none, 0, .see (.bin .shl (.t 43) (.c (.r (.v (.int .u64 56)))))⟩,
    ⟨(some 45), none, 0, .see (.bin .or (.t 40) (.t 44))⟩,
    ⟨(some 46), none, 0, .see (.fa 0 (.t 4))⟩,
    ⟨(some 47), none, 0, .see (.ld none (.t 46))⟩,
    ⟨(some 48), none, 0, .see (.bin .add (.t 47) (.c (.r (.v (.int .i64 512)))))⟩,
    ⟨(some 49), none, 0, .see (.conv .u64 (.t 48))⟩,
    ⟨(some 50), none, 0, .see (.bin .shl (.t 49) (.c (.r (.v (.int .u64 46)))))⟩,
    ⟨(some 51), none, 0, .see (.bin .or (.t 45) (.t 50))⟩,
    ⟨(some 52), none, 0, .see (.fa 1 (.t 4))⟩,
    ⟨(some 53), none, 0, .see (.ld none (.t 52))⟩,
    ⟨(some 54), none, 0, .see (.bin .add (.t 53) (.c (.r (.v (.int .i64 512)))))⟩,
    ⟨(some 55), none, 0, .see (.conv .u64 (.t 54))⟩,
    ⟨(some 56), none, 0, .see (.bin .shl (.t 55) (.c (.r (.v (.int .u64 36)))))⟩,
    ⟨(some 57), none, 0, .see (.bin .or (.t 51) (.t 56))⟩,
    ⟨(some 2), none, 0, .see (.mov (.t 57))⟩,
    ⟨(some 3), none, 0, .see (.mov (.c (.r (.v (.int .i64 0)))))⟩])
  .ret))))))
noncomputable abbrev apiaryref1_Word_code : Code := (Go.Proofs.Try.f27.body).getD .skip
theorem apiaryref1_Word_chk : chkC Go.Proofs.Try.prog 58 apiaryref1_Word_code apiaryref1_Word_pc = true := by kernel_rfl
theorem apiaryref1_Word_triple {args : List AV} {po ro : List Ob} {res : AV} (hal : args.length = 1) (hpo : po.length ≤ 1000)
    (h : run Go.Proofs.Try.prog po.length (RetP po.length [(2, false, none), (3, false, none)] fun v os => v = res ∧ os = ro) [.c apiaryref1_Word_pc] ⟨argE 0 args, ob0 po⟩) : Triple Go.Proofs.Try.prog 27 args po res ro :=
  triple_of_W (fn := Go.Proofs.Try.f27) (c := apiaryref1_Word_code) (pc := apiaryref1_Word_pc) (rs := [(2, false, none), (3, false, none)]) Go.Proofs.Try.func27 rfl (by decide) (by have := apiaryref1_Word_chk; exact this) (by rw [hal]; decide) rfl (by kernel_rfl) (by kernel_rfl) (by decide) hpo (W_of_run h)

noncomputable def apiaryref1_Cell_pc : PC :=
  (.seq (.reg [⟨(some 2), none, 0, .act (.new [(.r (.v (.int .i64 0))), (.r (.v (.int .i64 0))), (.r (.v (.int .i64 0)))])⟩,
    ⟨(some 3), none, 0, .see (.mov (.c (.r (.v (.int .i64 0)))))⟩])
  (.seq (.reg [⟨(some 9), none, 0, .see (.mov (.t 0))⟩,
    ⟨(some 10), none, 0, .see (.bin .shr (.t 9) (.c (.r (.v (.int .u64 56)))))⟩,
    ⟨(some 11), none, 0, .see (.bin .and (.t 10) (.c (.r (.v (.int .u64 15)))))⟩,
    ⟨(some 12), none, 0, .see (.conv .i64 (.t 11))⟩,
    ⟨(some 4), none, 0, .see (.mov (.t 12))⟩])
  (.seq (.seq (.reg [⟨(some 13), none, 0, .see (.mov (.t 0))⟩,
    ⟨(some 14), none, 0, .see (.bin .shr (.t 13) (.c (.r (.v (.int .u64 60)))))⟩,
    ⟨(some 15), none, 0, .see (.bin .neq (.t 14) (.c (.r (.v (.int .u64 1)))))⟩,
    ⟨(some 16), none, 0, .see (.mov (.t 15))⟩,
    ⟨(some 17), (some (16, false)), 0, .see (.mov (.t 4))⟩,
    ⟨(some 18), (some (16, false)), 0, .see (.bin .gtr (.t 17) (.c (.r (.v (.int .i64 12)))))⟩,
    ⟨(some 19), none, 0, .see (.pick (.t 16) (.c (.r (.v (.bool true)))) (.t 18))⟩])
  (.cond (.t 19)
    (.seq (.reg [⟨(some 20), none, 0, .see (.build [(.r (.v (.int .i64 0))), (.r (.v (.int .i64 0))), (.r (.v (.int .i64 0)))] [])⟩,
    ⟨none, none, 0, .act (.st 3 (.t 2) (.t 20))⟩,
    ⟨(some 3), none, 0, .see (.mov (.c (.r (.v (.int .i64 5)))))⟩])
    .ret)
    .skip))
  (.seq (.reg [⟨(some 21), none, 0, .see (.mov (.t 0))⟩,
    ⟨(some 22), none, 0, .see (.bin .shr (.t 21) (.c (.r (.v (.int .u64 46)))))⟩,
    ⟨(some 23), none, 0, .see (.bin .and (.t 22) (.c (.r (.v (.int .u64 1023)))))⟩,
    ⟨(some 24), none, 0, .see (.conv .i64 (.t 23))⟩,
    ⟨(some 25), none, 0, .see (.bin .sub (.t 24) (.c (.r (.v (.int .i64 512)))))⟩,
    ⟨(some 26), none, 0, .see (.mov (.t 0))⟩,
    ⟨(some 27), none, 0, .see (.bin .shr (.t 26) (.c (.r (.v (.int .u64 36)))))⟩,
    ⟨(some 28), none, 0, .see (.bin .and (.t 27) (.c (.r (.v (.int .u64 1023)))))⟩,
    ⟨(some 29), none, 0, .see (.conv .i64 (.t 28))⟩,
    ⟨(some 30), none, 0, .see (.bin .sub (.t 29) (.c (.r (.v (.int .i64 512)))))⟩,
    ⟨(some 31), none, 0, .see (.build [(.r (.v (.int .i64 0))), (.r (.v (.int .i64 0)))] [(0, 1, (.t 25)), (1, 1, (.t 30))])⟩,
    ⟨(some 5), none, 0, .act (.new [(.r (.v (.int .i64 0))), (.r (.v (.int .i64 0)))])⟩,
    ⟨none, none, 0, .act (.st 2 (.t 5) (.t 31))⟩])
  (.seq (.seq (.reg [⟨(some 6), none, 0, .see (.mov (.c (.r (.v (.int .i64 1)))))⟩])
  (.block 0 (.loop (.seq (.seq (.reg [⟨(some 32), none, 0, .see (.mov (.t 6))⟩,
    ⟨(some 33), none, 0, .see (.bin .leq (.t 32) (.c (.r (.v (.int .i64 12)))))⟩])
  (.cond (.t 33)
    .skip
    (.exit 0)))
  (.seq (.block 1 (.seq (.reg [⟨(some 36), none, 0, .see (.mov (.t 0))⟩,
    ⟨(some 37), none, 0, .see (.mov (.t 6))⟩,
    ⟨(some 38), none, 0, .see (.bin .mul (.c (.r (.v (.int .i64 3)))) (.t 37))⟩,
    ⟨(some 39), none, 0, .see (.bin .sub (.c (.r (.v (.int .i64 36)))) (.t 38))⟩,
    ⟨(some 40), none, 0, .see (.bin .shr (.t 36) (.t 39))⟩,
    ⟨(some 41), none, 0, .see (.bin .and (.t 40) (.c (.r (.v (.int .u64 7)))))⟩,
    ⟨(some 42), none, 0, .see (.conv .i64 (.t 41))⟩,
    ⟨(some 7), none, 0, .see (.mov (.t 42))⟩])
  (.seq (.seq (.reg [⟨(some 43), none, 0, .see (.mov (.t 6))⟩,
    ⟨(some 44), none, 0, .see (.mov (.t 4))⟩,
    ⟨(some 45), none, 0, .see (.bin .gtr (.t 43) (.t 44))⟩])
  (.cond (.t 45)
    (.seq (.seq (.reg [⟨(some 46), none, 0, .see (.mov (.t 7))⟩,
    ⟨(some 47), none, 0, .see (.bin .neq (.t 46) (.c (.r (.v (.int .i64 7)))))⟩])
    (.cond (.t 47)
      (.seq (.reg [⟨(some 48), none, 0, .see (.build [(.r (.v (.int .i64 0))), (.r (.v (.int .i64 0))), (.r (.v (.int .i64 0)))] [])⟩,
    ⟨none, none, 0, .act (.st 3 (.t 2) (.t 48))⟩,
    ⟨(some 3), none, 0, .see (.mov (.c (.r (.v (.int .i64 5)))))⟩])
      .ret)
      .skip))
    (.exit 1))
    .skip))
  (.seq (.seq (.reg [⟨(some 49), none, 0, .see (.mov (.t 7))⟩,
    ⟨(some 50), none, 0, .see (.bin .eql (.t 49) (.c (.r (.v (.int .i64 7)))))⟩])
  (.cond (.t 50)
    (.seq (.reg [⟨(some 51), none, 0, .see (.build [(.r (.v (.int .i64 0))), (.r (.v (.int .i64 0))), (.r (.v (.int .i64 0)))] [])⟩,
    ⟨none, none, 0, .act (.st 3 (.t 2) (.t 51))⟩,
    ⟨(some 3), none, 0, .see (.mov (.c (.r (.v (.int .i64 5)))))⟩])
    .ret)
    .skip))
  (.seq (.reg [⟨(some 53), none, 0, .see (.ld (some 2) (.t 5))⟩,
    ⟨(some 54), none, 0, .see (.build [(.r (.v (.int .i64 0))), (.r (.v (.int .i64 0)))] [(0, 1, (.c (.r (.v (.int .i64 2))))), (1, 1, (.c (.r (.v (.int .i64 1)))))])⟩,
    ⟨(some 55), none, 1, .call 28 [(.t 53), (.t 54)]⟩,
    ⟨(some 52), none, 0, .see (.mov (.t 55))⟩,
    ⟨(some 56), none, 0, .see (.ext (.t 52) 0)⟩,
    ⟨(some 57), none, 0, .see (.ext (.t 52) 1)⟩,
    ⟨none, none, 0, .act (.st 2 (.t 5) (.t 56))⟩])
  (.seq (.reg [⟨(some 58), none, 0, .see (.mov (.t 7))⟩,
    ⟨(some 59), none, 0, .see (.bin .gtr (.t 58) (.c (.r (.v (.int .i64 0)))))⟩])
  (.cond (.t 59)
    (.seq (.reg [⟨(some 60), none, 0, .see (.mov (.t 7))⟩,
    ⟨(some 61), none, 0, .see (.bin .sub (.t 60) (.c (.r (.v (.int .i64 1)))))⟩,
    ⟨(some 62), none, 2, .call 29 [(.t 61)]⟩,
    ⟨(some 8), none, 0, .act (.new [(.r (.v (.int .i64 0))), (.r (.v (.int .i64 0)))])⟩,
    ⟨none, none, 0, .act (.st 2 (.t 8) (.t 62))⟩])
    (.reg [⟨(some 63), none, 0, .see (.fa 0 (.t 5))⟩,
    ⟨(some 64), none, 0, .see (.ld none (.t 63))⟩,
    ⟨(some 65), none, 0, .see (.fa 0 (.t 8))⟩,
    ⟨(some 66), none, 0, .see (.ld none (.t 65))⟩,
    ⟨(some 67), none, 0, .see (.bin .add (.t 64) (.t 66))⟩,
    ⟨(some 68), none, 0, .see (.fa 1 (.t 5))⟩,
    ⟨(some 69), none, 0, .see (.ld none (.t 68))⟩,
    ⟨(some 70), none, 0, .see (.fa 1 (.t 8))⟩,
    ⟨(some 71), none, 0, .see (.ld none (.t 70))⟩,
    ⟨(some 72), none, 0, .see (.bin .add (.t 69) (.t 71))⟩,
    ⟨(some 73), none, 0, .see (.build [(.r (.v (.int .i64 0))), (.r (.v (.int .i64 0)))] [(0, 1, (.t 67)), (1, 1, (.t 72))])⟩,
    ⟨none, none, 0, .act (.st 2 (.t 5) (.t 73))⟩]))
    .skip)))))))
  (.reg [⟨(some 34), none, 0, .see (.mov (.t 6))⟩,
    ⟨(some 35), none, 0, .see (.bin .add (.t 34) (.c (.r (.v (.int .i64 1)))))⟩,
    ⟨(some 6), none, 0, .see (.mov (.t 35))⟩]))))))
  (.seq (.reg [⟨(some 74), none, 0, .see (.mov (.t 4))⟩,
    ⟨(some 75), none, 0, .see (.ld (some 2) (.t 5))⟩,
    ⟨(some 76), none, 0, .see (.build [(.r (.v (.int .i64 0))), (.r (.v (.int .i64 0))), (.r (.v (.int .i64 0)))] [(0, 1, (.t 74)), (1, 2, (.t 75))])⟩,
    ⟨none, none, 0, .act (.st 3 (.t 2) (.t 76))⟩,
    ⟨(some 3), none, 0, .see (.mov (.c (.r (.v (.int .i64 0)))))⟩])
  .ret))))))
noncomputable abbrev apiaryref1_Cell_code : Code := (Go.Proofs.Try.f12.body).getD .skip
theorem apiaryref1_Cell_chk : chkC Go.Proofs.Try.prog 77 apiaryref1_Cell_code apiaryref1_Cell_pc = true := by kernel_rfl
theorem apiaryref1_Cell_triple {args : List AV} {po ro : List Ob} {res : AV} (hal : args.length = 1) (hpo : po.length ≤ 1000)
    (h : run Go.Proofs.Try.prog po.length (RetP po.length [(2, false, some (37, (some 3))), (3, false, none)] fun v os => v = res ∧ os = ro) [.c apiaryref1_Cell_pc] ⟨argE 0 args, ob0 po⟩) : Triple Go.Proofs.Try.prog 12 args po res ro :=
  triple_of_W (fn := Go.Proofs.Try.f12) (c := apiaryref1_Cell_code) (pc := apiaryref1_Cell_pc) (rs := [(2, false, some (37, (some 3))), (3, false, none)]) Go.Proofs.Try.func12 rfl (by decide) (by have := apiaryref1_Cell_chk; exact this) (by rw [hal]; decide) rfl (by kernel_rfl) (by kernel_rfl) (by decide) hpo (W_of_run h)

theorem un64 {a : Nat} (h : a < 18446744073709551616) : IntKind.u64.wrap (a : Int) = a := by rw [IntKind.wrap_u64]; omega
theorem ofI (a : Nat) (h : a < 18446744073709551616) : (BitVec.ofInt IntKind.u64.bits (a : Int)).toNat = a := by
  rw [show IntKind.u64.bits = 64 from rfl, BitVec.toNat_ofInt]
  omega
theorem or_u {a b : Nat} (ha : a < 18446744073709551616) (hb : b < 18446744073709551616) : IntKind.u64.wrap (BitVec.ofInt IntKind.u64.bits (a : Int) ||| BitVec.ofInt IntKind.u64.bits (b : Int)).toNat = ((a ||| b : Nat) : Int) := by
  rw [BitVec.toNat_or, ofI a ha, ofI b hb]
  exact un64 (Nat.or_lt_two_pow (n := 64) ha hb)
theorem not_toNat (x : BitVec 64) : (~~~ x).toNat = 2 ^ 64 - 1 - x.toNat := BitVec.toNat_not
theorem andnot_u {a b : Nat} (ha : a < 18446744073709551616) (hb : b < 18446744073709551616) : IntKind.u64.wrap (BitVec.ofInt IntKind.u64.bits (a : Int) &&& ~~~ BitVec.ofInt IntKind.u64.bits (b : Int)).toNat = ((a &&& (2 ^ 64 - 1 - b) : Nat) : Int) := by
  rw [BitVec.toNat_and, ofI a ha, show (~~~ BitVec.ofInt IntKind.u64.bits (b : Int)).toNat = 2 ^ 64 - 1 - (BitVec.ofInt IntKind.u64.bits (b : Int)).toNat from not_toNat _, ofI b hb]
  exact un64 (Nat.lt_of_le_of_lt Nat.and_le_left ha)
theorem and_u {a n : Nat} (m : Int) (hm : m = 2 ^ n - 1) (hn : n ≤ 62) (ha : a < 18446744073709551616) : IntKind.u64.wrap (BitVec.ofInt IntKind.u64.bits (a : Int) &&& BitVec.ofInt IntKind.u64.bits m).toNat = ((a % 2 ^ n : Nat) : Int) := by
  have h1 : 2 ^ n ≤ 2 ^ 62 := Nat.pow_le_pow_right (by decide) hn
  have h2 := Nat.two_pow_pos n
  have h3 : ((2 ^ n : Nat) : Int) = (2 : Int) ^ n := by simp
  have h4 : m = ((2 ^ n - 1 : Nat) : Int) := by rw [hm, ← h3]; omega
  rw [h4, BitVec.toNat_and, ofI a ha, ofI _ (by omega), Nat.and_two_pow_sub_one_eq_mod]
  exact un64 (Nat.lt_of_le_of_lt (Nat.mod_le _ _) ha)
theorem shl_u {a k : Nat} {s : Int} (hs : s.toNat = k) (hk : k ≤ 63) (h : a * 2 ^ k < 18446744073709551616) : IntKind.u64.wrap ((a : Int) * 2 ^ min s.toNat IntKind.u64.bits) = ((a * 2 ^ k : Nat) : Int) := by
  rw [hs, show min k IntKind.u64.bits = k from Nat.min_eq_left (by simp [IntKind.bits]; omega), show (a : Int) * 2 ^ k = ((a * 2 ^ k : Nat) : Int) by simp]
  exact un64 h
def uw (n : Nat) : AV := int .u64 n
set_option maxRecDepth 100000 in
theorem rword_t (r : Int) (z : Ei) (h0 : 0 ≤ r) (h_ : okc r.toNat z) : Triple Go.Proofs.Try.prog 27 [cel r z] [] (.tup [uw (word r.toNat z), int .i64 0]) [] := by
  refine apiaryref1_Word_triple rfl (by decide) ?_
  have h' := h_
  obtain ⟨r12, hz, ha, hb⟩ := h'
  simp only [apiaryref1_Word_pc, cel, List.length_nil, push_cast, ↓reduceIte, reduceCtorEq, Nat.reduceBEq, Nat.reduceEqDiff, Nat.reduceAdd, Nat.reduceSub, Nat.reduceLT, Nat.reduceLeDiff, Nat.reduceMul]
  refine call_as (as' := [cel r z]) rfl ?_
  refine call_mk (rokc_t r z h0 h_) rfl trivial ?_
  simp only [push_cast, ↓reduceIte, reduceCtorEq, Nat.reduceBEq, Nat.reduceEqDiff, Nat.reduceAdd, Nat.reduceSub, Nat.reduceLT, Nat.reduceLeDiff, Nat.reduceMul]
  have hw0 := wordI_r r.toNat z (by omega)
  refine run_loop [(6, false), (1, false), (4, false), (5, false)] (fun vs pos los => ∃ i : Int, (0 ≤ i ∧ i ≤ r) ∧ vs = [int .i64 i, .ptr 2000000 0 0, .ptr 2000001 0 0, int .u64 (wordI r.toNat z i.toNat)] ∧ pos = [] ∧ los = [.box [int .i64 r, int .i64 z.a, int .i64 z.b], .box [int .i64 (anc (r - i).toNat z).a, int .i64 (anc (r - i).toNat z).b]])
    (fun vs _ _ => match vs with | .r (.v (.int _ j)) :: _ => j.toNat | _ => 0) rfl ?_ ?_
  · simp only [push_cast, ↓reduceIte, reduceCtorEq, Nat.reduceBEq, Nat.reduceEqDiff, Nat.reduceAdd, Nat.reduceSub, Nat.reduceLT, Nat.reduceLeDiff, Nat.reduceMul]
    refine ⟨r, by omega, ?_⟩
    rw [hw0, Int.sub_self]
    exact ⟨rfl, rfl⟩
  · rintro vs pos los ⟨i, i6, rfl, rfl, rfl⟩
    simp only [push_cast, ↓reduceIte, reduceCtorEq, Nat.reduceBEq, Nat.reduceEqDiff, Nat.reduceAdd, Nat.reduceSub, Nat.reduceLT, Nat.reduceLeDiff, Nat.reduceMul]
    refine cnd_mk (fun h => ?_) (fun h => ?_)
    · simp only [decide_eq_true_eq] at h
      have hp := anc_In (r - i).toNat hz (by decide)
      simp only [push_cast, ↓reduceIte, reduceCtorEq, Nat.reduceBEq, Nat.reduceEqDiff, Nat.reduceAdd, Nat.reduceSub, Nat.reduceLT, Nat.reduceLeDiff, Nat.reduceMul]
      refine call_as (as' := [(anc (r - i).toNat z).v]) rfl ?_
      refine call_mk (rparent_t _ hp) rfl trivial ?_
      simp only [Ei.v, Ei.rv, push_cast, ↓reduceIte, reduceCtorEq, Nat.reduceBEq, Nat.reduceEqDiff, Nat.reduceAdd, Nat.reduceSub, Nat.reduceLT, Nat.reduceLeDiff, Nat.reduceMul]
      rw [show IntKind.i64.wrap (3 * i) = 3 * i from wrap_id (by omega), show IntKind.i64.wrap (36 - 3 * i) = 36 - 3 * i from wrap_id (by omega), show IntKind.i64.wrap (i - 1) = i - 1 from wrap_id (by omega)]
      have hl := wordI_lt r.toNat z i.toNat (by omega) r12
      have hst := wordI_step r.toNat z i.toNat (by omega) (by omega) r12
      have hd := dg_lt (anc (r - i).toNat z)
      have hat : (36 - 3 * i).toNat = 36 - 3 * i.toNat := by omega
      have hp2 : 2 ^ (36 - 3 * i.toNat) ≤ 2 ^ 33 := Nat.pow_le_pow_right (by decide) (by omega)
      have hd2 : dg (anc (r - i).toNat z) * 2 ^ (36 - 3 * i.toNat) ≤ 6 * 2 ^ (36 - 3 * i.toNat) := Nat.mul_le_mul_right _ (by omega)
      rw [un64 (show dg (anc (r - i).toNat z) < 18446744073709551616 by omega), show (7 : Int) = ((7 : Nat) : Int) from rfl, shl_u hat (by omega) (by omega), shl_u hat (by omega) (by omega), andnot_u (by omega) (by omega), or_u (Nat.lt_of_le_of_lt Nat.and_le_left (by omega)) (by omega)]
      rw [show (r - i).toNat = r.toNat - i.toNat by omega] at *
      rw [hst]
      refine ⟨by omega, by omega, by kernel_rfl, ⟨i - 1, by omega, ?_, ?_⟩, by omega⟩
      · rw [show (i - 1).toNat = i.toNat - 1 by omega]
      · rw [show (r - (i - 1)).toNat = r.toNat - i.toNat + 1 by omega, anc_succ]
    · have hi : i = 0 := by simp at h; omega
      subst hi
      simp only [push_cast, ↓reduceIte, reduceCtorEq, Nat.reduceBEq, Nat.reduceEqDiff, Nat.reduceAdd, Nat.reduceSub, Nat.reduceLT, Nat.reduceLeDiff, Nat.reduceMul]
      refine ⟨by decide, by decide, by decide, ?_⟩
      have hl := wordI_lt r.toNat z 0 (by omega) r12
      rw [show (r - 0).toNat = r.toNat by omega]
      obtain ⟨A, hA⟩ : ∃ A : Nat, (anc r.toNat z).a + 512 = A := ⟨((anc r.toNat z).a + 512).toNat, by omega⟩
      obtain ⟨B, hB⟩ : ∃ B : Nat, (anc r.toNat z).b + 512 = B := ⟨((anc r.toNat z).b + 512).toNat, by omega⟩
      have ho := word_or r.toNat z r12 A B (by omega) (by omega) hA hB
      have hwl := word_lt r.toNat z h_
      obtain ⟨R, rfl⟩ : ∃ R : Nat, r = R := ⟨r.toNat, by omega⟩
      rw [Int.toNat_natCast] at *
      rw [hA, hB, show IntKind.i64.wrap (A : Int) = A from wrap_id (by omega), show IntKind.i64.wrap (B : Int) = B from wrap_id (by omega), un64 (show A < 18446744073709551616 by omega), un64 (show B < 18446744073709551616 by omega), un64 (show R < 18446744073709551616 by omega)]
      rw [shl_u (k := 56) rfl (by decide) (by omega), shl_u (k := 46) rfl (by decide) (by omega), shl_u (k := 36) rfl (by decide) (by omega), show (1152921504606846976 : Int) = ((1152921504606846976 : Nat) : Int) from rfl, Int.toNat_zero]
      have l1 : wordI R z 0 ||| 1152921504606846976 < 18446744073709551616 := Nat.or_lt_two_pow (n := 64) (by omega) (by omega)
      have l2 : wordI R z 0 ||| 1152921504606846976 ||| R * 2 ^ 56 < 18446744073709551616 := Nat.or_lt_two_pow (n := 64) l1 (by omega)
      have l3 : wordI R z 0 ||| 1152921504606846976 ||| R * 2 ^ 56 ||| A * 2 ^ 46 < 18446744073709551616 := Nat.or_lt_two_pow (n := 64) l2 (by omega)
      rw [or_u (by omega) (by omega), or_u l1 (by omega), or_u l2 (by omega), or_u l3 (by omega), ho]
      rfl
/-- Is it a word? -/
def isWB (w : Nat) : Bool := decide (w / 1152921504606846976 = 1) && decide (resW w ≤ 12) && (List.range 13).all fun i => decide (i = 0) || (decide (dgt w i = 7) == decide (resW w < i))
theorem isWB_iff (w : Nat) : isWB w = true ↔ isW w := by
  simp only [isWB, isW, Bool.and_eq_true, decide_eq_true_eq, List.all_eq_true, List.mem_range, Bool.or_eq_true, beq_iff_eq, decide_eq_decide]
  constructor
  · rintro ⟨⟨h1, h2⟩, h3⟩
    refine ⟨h1, h2, fun i i1 i2 => ?_⟩
    rcases h3 i (by omega) with h | h
    · omega
    · exact h
  · rintro ⟨h1, h2, h3⟩
    refine ⟨⟨h1, h2⟩, fun i hi => ?_⟩
    by_cases h0 : i = 0
    · exact .inl h0
    · exact .inr (h3 i (by omega) (by omega))
theorem isWB_word {r : Nat} {z : Ei} (h : okc r z) : isWB (word r z) = true := (isWB_iff _).2 (word_isW r z h).1
theorem isWB_no {w : Nat} (h : ¬ isW w) : isWB w = false := by
  cases hb : isWB w with
  | false => rfl
  | true => exact absurd ((isWB_iff w).1 hb) h
theorem shru {a k : Nat} {s : Int} (hs : s.toNat = k) (hk : k ≤ 63) : (a : Int).fdiv (2 ^ min s.toNat IntKind.u64.bits) = ((a / 2 ^ k : Nat) : Int) := by
  rw [hs, show min k IntKind.u64.bits = k from Nat.min_eq_left (by simp [IntKind.bits]; omega)]
  rw [Int.fdiv_eq_ediv_of_nonneg _ (by have := Int.pow_pos (n := 2) (m := k) (by decide); omega)]
  simp
theorem shr_and {a k n : Nat} {s m : Int} (hs : s.toNat = k) (hk : k ≤ 63) (hm : m = 2 ^ n - 1) (hn : n ≤ 62) (ha : a < 18446744073709551616) :
    IntKind.u64.wrap (BitVec.ofInt IntKind.u64.bits ((a : Int).fdiv (2 ^ min s.toNat IntKind.u64.bits)) &&& BitVec.ofInt IntKind.u64.bits m).toNat = ((a / 2 ^ k % 2 ^ n : Nat) : Int) := by
  rw [shru hs hk, and_u m hm hn (Nat.lt_of_le_of_lt (Nat.div_le_self _ _) ha)]
theorem down_In (w : Nat) (i : Nat) (hi : i ≤ 12) : (down w i).In 1000000000000 := by
  have h : ∀ i : Nat, ∀ n : Int, (down w i).In n → 1 ≤ n → (down w (i + 1)).In (5 * n) := fun i n hn h1 => by
    have hd : ∀ d, (uni d).In 1 := fun d => by unfold uni; split <;> unfold Ei.In <;> decide
    have hu := hd (dgt w (i + 1) - 1)
    unfold Ei.In at hn hu ⊢
    rw [down, child]
    split <;> simp only [Ei.mul, beta, Ei.add] <;> omega
  have h0 : (down w 0).In 512 := by
    unfold Ei.In down baseW
    dsimp only
    omega
  have h1 := h 0 _ h0 (by decide)
  have h2 := h 1 _ h1 (by decide)
  have h3 := h 2 _ h2 (by decide)
  have h4 := h 3 _ h3 (by decide)
  have h5 := h 4 _ h4 (by decide)
  have h6 := h 5 _ h5 (by decide)
  have h7 := h 6 _ h6 (by decide)
  have h8 := h 7 _ h7 (by decide)
  have h9 := h 8 _ h8 (by decide)
  have h10 := h 9 _ h9 (by decide)
  have h11 := h 10 _ h10 (by decide)
  have h12 := h 11 _ h11 (by decide)
  rcases (show i = 0 ∨ i = 1 ∨ i = 2 ∨ i = 3 ∨ i = 4 ∨ i = 5 ∨ i = 6 ∨ i = 7 ∨ i = 8 ∨ i = 9 ∨ i = 10 ∨ i = 11 ∨ i = 12 by omega) with rfl | rfl | rfl | rfl | rfl | rfl | rfl | rfl | rfl | rfl | rfl | rfl | rfl
  · exact h0.mono (by decide)
  · exact h1.mono (by decide)
  · exact h2.mono (by decide)
  · exact h3.mono (by decide)
  · exact h4.mono (by decide)
  · exact h5.mono (by decide)
  · exact h6.mono (by decide)
  · exact h7.mono (by decide)
  · exact h8.mono (by decide)
  · exact h9.mono (by decide)
  · exact h10.mono (by decide)
  · exact h11.mono (by decide)
  · exact h12.mono (by decide)
set_option maxRecDepth 100000 in
theorem rcell_t (w : Nat) (hw : w < 18446744073709551616) : Triple Go.Proofs.Try.prog 12 [uw w] [] (.tup (if isWB w then [cel (resW w) (down w (resW w)), int .i64 0] else [cel 0 ⟨0, 0⟩, int .i64 5])) [] := by
  refine apiaryref1_Cell_triple rfl (by decide) ?_
  simp only [apiaryref1_Cell_pc, cel, uw, List.length_nil, push_cast, ↓reduceIte, reduceCtorEq, Nat.reduceBEq, Nat.reduceEqDiff, Nat.reduceAdd, Nat.reduceSub, Nat.reduceLT, Nat.reduceLeDiff, Nat.reduceMul]
  have e1 : (w : Int).fdiv (2 ^ min (Int.toNat 60) IntKind.u64.bits) = ((w / 1152921504606846976 : Nat) : Int) := shru (k := 60) rfl (by decide)
  have e2 : IntKind.i64.wrap (IntKind.u64.wrap (BitVec.ofInt IntKind.u64.bits ((w : Int).fdiv (2 ^ min (Int.toNat 56) IntKind.u64.bits)) &&& BitVec.ofInt IntKind.u64.bits 15).toNat) = (resW w : Int) := by
    rw [shr_and (k := 56) (n := 4) rfl (by decide) (by decide) (by decide) hw]
    exact wrap_id (by omega)
  have e3 : IntKind.i64.wrap (IntKind.i64.wrap (IntKind.u64.wrap (BitVec.ofInt IntKind.u64.bits ((w : Int).fdiv (2 ^ min (Int.toNat 46) IntKind.u64.bits)) &&& BitVec.ofInt IntKind.u64.bits 1023).toNat) - 512) = (down w 0).a := by
    rw [shr_and (k := 46) (n := 10) rfl (by decide) (by decide) (by decide) hw, show ∀ x : Nat, x < 1024 → IntKind.i64.wrap (IntKind.i64.wrap (x : Int) - 512) = x - 512 from fun x hx => by rw [wrap_id (x := (x : Int)) (by omega), wrap_id (by omega)]]
    · rfl
    · omega
  have e4 : IntKind.i64.wrap (IntKind.i64.wrap (IntKind.u64.wrap (BitVec.ofInt IntKind.u64.bits ((w : Int).fdiv (2 ^ min (Int.toNat 36) IntKind.u64.bits)) &&& BitVec.ofInt IntKind.u64.bits 1023).toNat) - 512) = (down w 0).b := by
    rw [shr_and (k := 36) (n := 10) rfl (by decide) (by decide) (by decide) hw, show ∀ x : Nat, x < 1024 → IntKind.i64.wrap (IntKind.i64.wrap (x : Int) - 512) = x - 512 from fun x hx => by rw [wrap_id (x := (x : Int)) (by omega), wrap_id (by omega)]]
    · rfl
    · omega
  rw [e1, e2]
  obtain ⟨T, hT⟩ : ∃ T : Int, ((w / 1152921504606846976 : Nat) : Int) = T := ⟨_, rfl⟩
  obtain ⟨R, hR⟩ : ∃ R : Int, (resW w : Int) = R := ⟨_, rfl⟩
  have hR16 : resW w < 16 := by unfold resW; omega
  rw [hT, hR]
  refine ⟨by decide, by decide, fun h => by simp [h], ?_⟩
  refine cnd_mk (fun h => ?_) (fun h => ?_)
  · have hno : isWB w = false := isWB_no fun hh => by
      obtain ⟨w1, w2, _⟩ := hh
      have : ¬ R > 12 := by omega
      have hT1 : T = 1 := by omega
      rw [hT1] at h
      simp [this] at h
    rw [hno]
    simp only [push_cast, ↓reduceIte, reduceCtorEq, Nat.reduceBEq, Nat.reduceEqDiff, Nat.reduceAdd, Nat.reduceSub, Nat.reduceLT, Nat.reduceLeDiff, Nat.reduceMul]
  · have hT1 : T = 1 := by
      by_cases hc : T = 1
      · exact hc
      · have : (T != 1) = true := by simp [hc]
        rw [this] at h
        cases h
    rw [hT1] at h
    have hR12 : R ≤ 12 := by simpa using h
    simp only [push_cast, ↓reduceIte, reduceCtorEq, Nat.reduceBEq, Nat.reduceEqDiff, Nat.reduceAdd, Nat.reduceSub, Nat.reduceLT, Nat.reduceLeDiff, Nat.reduceMul]
    rw [e3, e4]
    refine ⟨by decide, by decide, ?_⟩
    refine run_loop [(6, false), (0, false), (4, false), (5, false), (2, false)] (fun vs pos los => ∃ i : Nat, (1 ≤ i ∧ i ≤ 13) ∧ (∀ j, 1 ≤ j → j < i → (dgt w j = 7 ↔ resW w < j)) ∧ vs = [int .i64 i, int .u64 w, int .i64 R, .ptr 2000000 0 0, .ptr 2000001 0 0] ∧ pos = [] ∧ los = [.box [int .i64 (down w (min (i - 1) (resW w))).a, int .i64 (down w (min (i - 1) (resW w))).b], .box [int .i64 0, int .i64 0, int .i64 0]])
      (fun vs _ _ => match vs with | .r (.v (.int _ j)) :: _ => (13 - j).toNat | _ => 0) rfl ?_ ?_
    · simp only [push_cast, ↓reduceIte, reduceCtorEq, Nat.reduceBEq, Nat.reduceEqDiff, Nat.reduceAdd, Nat.reduceSub, Nat.reduceLT, Nat.reduceLeDiff, Nat.reduceMul]
      refine ⟨1, by omega, fun j h1 h2 => by omega, rfl, ?_⟩
      rw [show min (1 - 1) (resW w) = 0 by omega]
    · rintro vs pos los ⟨i, i6, hj, rfl, rfl, rfl⟩
      simp only [push_cast, ↓reduceIte, reduceCtorEq, Nat.reduceBEq, Nat.reduceEqDiff, Nat.reduceAdd, Nat.reduceSub, Nat.reduceLT, Nat.reduceLeDiff, Nat.reduceMul]
      refine cnd_mk (fun hi => ?_) (fun hi => ?_)
      · have hi : i ≤ 12 := by simp at hi; omega
        have e5 : IntKind.i64.wrap (IntKind.u64.wrap (BitVec.ofInt IntKind.u64.bits ((w : Int).fdiv (2 ^ min (36 - 3 * (i : Int)).toNat IntKind.u64.bits)) &&& BitVec.ofInt IntKind.u64.bits 7).toNat) = (dgt w i : Int) := by
          rw [shr_and (k := 36 - 3 * i) (n := 3) (by omega) (by omega) (by decide) (by decide) hw]
          rw [show 2 ^ (36 - 3 * i) = 8 ^ (12 - i) by rw [show (8 : Nat) = 2 ^ 3 from rfl, ← Nat.pow_mul]; congr 1; omega]
          have : w / 8 ^ (12 - i) % 2 ^ 3 = dgt w i := rfl
          rw [this]
          have : dgt w i < 8 := Nat.mod_lt _ (by decide)
          exact wrap_id (by omega)
        have hD8 : dgt w i < 8 := Nat.mod_lt _ (by decide)
        simp only [push_cast, ↓reduceIte, reduceCtorEq, Nat.reduceBEq, Nat.reduceEqDiff, Nat.reduceAdd, Nat.reduceSub, Nat.reduceLT, Nat.reduceLeDiff, Nat.reduceMul]
        rw [show IntKind.i64.wrap (3 * (i : Int)) = 3 * i from wrap_id (by omega), show IntKind.i64.wrap (36 - 3 * (i : Int)) = 36 - 3 * i from wrap_id (by omega), e5]
        obtain ⟨D, hD⟩ : ∃ D : Int, (dgt w i : Int) = D := ⟨_, rfl⟩
        rw [hD]
        refine ⟨by omega, ?_⟩
        refine cnd_mk (fun hc => ?_) (fun hc => ?_)
        · have hc' : resW w < i := by simp at hc; omega
          simp only [push_cast, ↓reduceIte, reduceCtorEq, Nat.reduceBEq, Nat.reduceEqDiff, Nat.reduceAdd, Nat.reduceSub, Nat.reduceLT, Nat.reduceLeDiff, Nat.reduceMul]
          refine cnd_mk (fun hd => ?_) (fun hd => ?_)
          · have hno : isWB w = false := isWB_no fun hh => by
              have := (hh.2.2 i i6.1 hi).2 hc'
              have : D = 7 := by omega
              rw [this] at hd
              cases hd
            rw [hno]
            simp only [push_cast, ↓reduceIte, reduceCtorEq, Nat.reduceBEq, Nat.reduceEqDiff, Nat.reduceAdd, Nat.reduceSub, Nat.reduceLT, Nat.reduceLeDiff, Nat.reduceMul]
          · have hd7 : D = 7 := by simpa using hd
            simp only [push_cast, ↓reduceIte, reduceCtorEq, Nat.reduceBEq, Nat.reduceEqDiff, Nat.reduceAdd, Nat.reduceSub, Nat.reduceLT, Nat.reduceLeDiff, Nat.reduceMul]
            rw [show IntKind.i64.wrap ((i : Int) + 1) = ((i + 1 : Nat) : Int) by rw [wrap_id (by omega)]; omega]
            refine ⟨⟨i + 1, by omega, fun j h1 h2 => ?_, rfl, ?_⟩, by omega⟩
            · by_cases hji : j = i
              · subst hji
                constructor
                · intro _; exact hc'
                · intro _; omega
              · exact hj j h1 (by omega)
            · rw [show min (i + 1 - 1) (resW w) = min (i - 1) (resW w) by omega]
        · have hc' : i ≤ resW w := by simp at hc; omega
          simp only [push_cast, ↓reduceIte, reduceCtorEq, Nat.reduceBEq, Nat.reduceEqDiff, Nat.reduceAdd, Nat.reduceSub, Nat.reduceLT, Nat.reduceLeDiff, Nat.reduceMul]
          refine cnd_mk (fun hd => ?_) (fun hd => ?_)
          · have hno : isWB w = false := isWB_no fun hh => by
              have hd7 : D = 7 := by simpa using hd
              have := (hh.2.2 i i6.1 hi).1 (by omega)
              omega
            rw [hno]
            simp only [push_cast, ↓reduceIte, reduceCtorEq, Nat.reduceBEq, Nat.reduceEqDiff, Nat.reduceAdd, Nat.reduceSub, Nat.reduceLT, Nat.reduceLeDiff, Nat.reduceMul]
          · have hd7 : D ≠ 7 := by simpa using hd
            have hz := down_In w (i - 1) (by omega)
            have hz2 := down_In w i hi
            have hzm : ((down w (i - 1)).mul beta).In 10000000000000 := (mul_In hz (show beta.In 2 by unfold Ei.In; decide)).mono (by decide)
            have hdn : down w i = child (down w (i - 1)) (dgt w i) := by
              conv => lhs; rw [show i = i - 1 + 1 by omega]
              rw [down, show i - 1 + 1 = i by omega]
            rw [show min (i - 1) (resW w) = i - 1 by omega]
            simp only [push_cast, ↓reduceIte, reduceCtorEq, Nat.reduceBEq, Nat.reduceEqDiff, Nat.reduceAdd, Nat.reduceSub, Nat.reduceLT, Nat.reduceLeDiff, Nat.reduceMul]
            refine call_as (as' := [(down w (i - 1)).v, beta.v]) rfl ?_
            refine call_mk (rmul_t _ _ (hz.mono (by decide)) (show beta.In _ by unfold Ei.In; decide) (hzm.mono (by decide))) rfl trivial ?_
            simp only [Ei.v, Ei.rv, push_cast, ↓reduceIte, reduceCtorEq, Nat.reduceBEq, Nat.reduceEqDiff, Nat.reduceAdd, Nat.reduceSub, Nat.reduceLT, Nat.reduceLeDiff, Nat.reduceMul]
            have hnew : ∀ j, 1 ≤ j → j < i + 1 → (dgt w j = 7 ↔ resW w < j) := fun j h1 h2 => by
              by_cases hji : j = i
              · subst hji
                constructor
                · intro h; omega
                · intro h; omega
              · exact hj j h1 (by omega)
            refine cnd_mk (fun hp => ?_) (fun hp => ?_)
            · have hp' : 0 < D := by simpa using hp
              simp only [push_cast, ↓reduceIte, reduceCtorEq, Nat.reduceBEq, Nat.reduceEqDiff, Nat.reduceAdd, Nat.reduceSub, Nat.reduceLT, Nat.reduceLeDiff, Nat.reduceMul]
              rw [show IntKind.i64.wrap (D - 1) = D - 1 from wrap_id (by omega)]
              refine call_mk (runit_t (D - 1) (by omega)) rfl trivial ?_
              simp only [Ei.v, Ei.rv, push_cast, ↓reduceIte, reduceCtorEq, Nat.reduceBEq, Nat.reduceEqDiff, Nat.reduceAdd, Nat.reduceSub, Nat.reduceLT, Nat.reduceLeDiff, Nat.reduceMul]
              rw [show IntKind.i64.wrap ((i : Int) + 1) = ((i + 1 : Nat) : Int) by rw [wrap_id (by omega)]; omega]
              rw [show (D - 1).toNat = dgt w i - 1 by omega]
              have hch : child (down w (i - 1)) (dgt w i) = ((down w (i - 1)).mul beta).add (uni (dgt w i - 1)) := by
                unfold child
                rw [if_neg (by omega)]
              rw [hch] at hdn
              have ea : ((down w (i - 1)).mul beta).a + (uni (dgt w i - 1)).a = (down w i).a := by rw [hdn]; rfl
              have eb : ((down w (i - 1)).mul beta).b + (uni (dgt w i - 1)).b = (down w i).b := by rw [hdn]; rfl
              unfold Ei.In at hz2
              rw [ea, eb, wrap_id (by omega), wrap_id (by omega)]
              refine ⟨⟨i + 1, by omega, hnew, rfl, ?_⟩, by omega⟩
              rw [show min (i + 1 - 1) (resW w) = i by omega]
            · have hp' : D = 0 := by simp at hp; omega
              simp only [push_cast, ↓reduceIte, reduceCtorEq, Nat.reduceBEq, Nat.reduceEqDiff, Nat.reduceAdd, Nat.reduceSub, Nat.reduceLT, Nat.reduceLeDiff, Nat.reduceMul]
              rw [show IntKind.i64.wrap ((i : Int) + 1) = ((i + 1 : Nat) : Int) by rw [wrap_id (by omega)]; omega]
              have hch : child (down w (i - 1)) (dgt w i) = (down w (i - 1)).mul beta := by
                unfold child
                rw [if_pos (by omega)]
              rw [hch] at hdn
              refine ⟨⟨i + 1, by omega, hnew, rfl, ?_⟩, by omega⟩
              rw [show min (i + 1 - 1) (resW w) = i by omega, hdn]
      · have hi : i = 13 := by simp at hi; omega
        subst hi
        have hyes : isWB w = true := (isWB_iff w).2 ⟨by omega, by omega, fun j h1 h2 => hj j h1 (by omega)⟩
        rw [hyes]
        simp only [push_cast, ↓reduceIte, reduceCtorEq, Nat.reduceBEq, Nat.reduceEqDiff, Nat.reduceAdd, Nat.reduceSub, Nat.reduceLT, Nat.reduceLeDiff, Nat.reduceMul]
        rw [show min (13 - 1) (resW w) = resW w by omega]
end Go.Ev
