import Derived.Test.YtjpejkfhkbaakaaGeo7
import Derived.Test.YtjpejkfhkbaakaaGeoW
namespace Go.Ev
open Go
set_option linter.unnecessarySimpa false
set_option linter.unusedSimpArgs false
set_option linter.unusedVariables false
noncomputable def apiaryref1_Centre_pc : PC :=
  (.seq (.reg [⟨(some 2), none, 0, .act (.box (.t 0))⟩,
    ⟨(some 4), none, 0, .see (.mov (.c (.r (.v (.int .i64 0)))))⟩,
    ⟨(some 5), none, 0, .see (.mov (.c (.r (.v (.int .i64 0)))))⟩,
    ⟨(some 6), none, 0, .see (.mov (.c (.r (.v (.bool false)))))⟩])
  (.seq (.seq (.reg [⟨(some 11), none, 0, .see (.mov (.t 1))⟩,
    ⟨(some 12), none, 0, .see (.bin .lss (.t 11) (.c (.r (.v (.int .i64 0)))))⟩,
    ⟨(some 13), none, 0, .see (.mov (.t 12))⟩,
    ⟨(some 14), (some (13, false)), 0, .see (.mov (.t 1))⟩,
    ⟨(some 15), (some (13, false)), 0, .see (.bin .gtr (.t 14) (.c (.r (.v (.int .i64 12)))))⟩,
    ⟨(some 16), none, 0, .see (.pick (.t 13) (.c (.r (.v (.bool true)))) (.t 15))⟩,
    ⟨(some 17), none, 0, .see (.mov (.t 16))⟩,
    ⟨(some 18), (some (17, false)), 0, .see (.fa 0 (.t 2))⟩,
    ⟨(some 19), (some (17, false)), 0, .see (.ld none (.t 18))⟩,
    ⟨(some 20), (some (17, false)), 0, .see (.bin .lss (.t 19) (.c (.r (.v (.int .i64 (-1073741824))))))⟩,
    ⟨(some 21), none, 0, .see (.pick (.t 17) (.c (.r (.v (.bool true)))) (.t 20))⟩,
    ⟨(some 22), none, 0, .see (.mov (.t 21))⟩,
    ⟨(some 23), (some (22, false)), 0, .see (.fa 0 (.t 2))⟩,
    ⟨(some 24), (some (22, false)), 0, .see (.ld none (.t 23))⟩,
    ⟨(some 25), (some (22, false)), 0, .see (.bin .gtr (.t 24) (.c (.r (.v (.int .i64 1073741824)))))⟩,
    ⟨(some 26), none, 0, .see (.pick (.t 22) (.c (.r (.v (.bool true)))) (.t 25))⟩,
    ⟨(some 27), none, 0, .see (.mov (.t 26))⟩,
    ⟨(some 28), (some (27, false)), 0, .see (.fa 1 (.t 2))⟩,
    ⟨(some 29), (some (27, false)), 0, .see (.ld none (.t 28))⟩,
    ⟨(some 30), (some (27, false)), 0, .see (.bin .lss (.t 29) (.c (.r (.v (.int .i64 (-1073741824))))))⟩,
    ⟨(some 31), none, 0, .see (.pick (.t 27) (.c (.r (.v (.bool true)))) (.t 30))⟩,
    ⟨(some 32), none, 0, .see (.mov (.t 31))⟩,
    ⟨(some 33), (some (32, false)), 0, .see (.fa 1 (.t 2))⟩,
    ⟨(some 34), (some (32, false)), 0, .see (.ld none (.t 33))⟩,
    ⟨(some 35), (some (32, false)), 0, .see (.bin .gtr (.t 34) (.c (.r (.v (.int .i64 1073741824)))))⟩,
    ⟨(some 36), none, 0, .see (.pick (.t 32) (.c (.r (.v (.bool true)))) (.t 35))⟩])
  (.cond (.t 36)
    (.seq (.reg [⟨(some 4), none, 0, .see (.mov (.c (.r (.v (.int .i64 0)))))⟩,
    ⟨(some 5), none, 0, .see (.mov (.c (.r (.v (.int .i64 0)))))⟩,
    ⟨(some 6), none, 0, .see (.mov (.c (.r (.v (.bool false)))))⟩])
    .ret)
    .skip))
  (.seq (.reg [⟨(some 38), none, 0, .see (.mov (.t 1))⟩,
    ⟨(some 39), none, 0, .see (.bin .sub (.c (.r (.v (.int .i64 12)))) (.t 38))⟩,
    ⟨(some 40), none, 1, .call 31 [(.t 39)]⟩,
    ⟨(some 37), none, 0, .see (.mov (.t 40))⟩,
    ⟨(some 41), none, 0, .see (.ext (.t 37) 0)⟩,
    ⟨(some 42), none, 0, .see (.ext (.t 37) 1)⟩,
    ⟨(some 7), none, 0, .act (.new [(.r (.v (.int .i64 0))), (.r (.v (.int .i64 0)))])⟩,
    ⟨none, none, 0, .act (.st 2 (.t 7) (.t 41))⟩,
    ⟨(some 8), none, 0, .see (.mov (.t 42))⟩])
  (.seq (.reg [⟨(some 44), none, 0, .see (.ld (some 2) (.t 2))⟩,
    ⟨(some 45), none, 0, .see (.ld (some 2) (.t 7))⟩,
    ⟨(some 46), none, 2, .call 28 [(.t 44), (.t 45)]⟩,
    ⟨(some 43), none, 0, .see (.mov (.t 46))⟩,
    ⟨(some 47), none, 0, .see (.ext (.t 43) 0)⟩,
    ⟨(some 48), none, 0, .see (.ext (.t 43) 1)⟩,
    ⟨(some 9), none, 0, .act (.new [(.r (.v (.int .i64 0))), (.r (.v (.int .i64 0)))])⟩,
    ⟨none, none, 0, .act (.st 2 (.t 9) (.t 47))⟩,
    ⟨(some 10), none, 0, .see (.mov (.t 48))⟩])
  (.seq (.drw [⟨(some 49), none, 0, .see (.fa 0 (.t 9))⟩,
    ⟨(some 50), none, 0, .see (.ld none (.t 49))⟩,
    ⟨(some 51), none, 0, .see (.bin .mul (.c (.r (.v (.int .i64 52)))) (.t 50))⟩,
    ⟨(some 52), none, 0, .see (.fa 1 (.t 9))⟩,
    ⟨(some 53), none, 0, .see (.ld none (.t 52))⟩,
    ⟨(some 54), none, 0, .see (.bin .mul (.c (.r (.v (.int .i64 26)))) (.t 53))⟩,
    ⟨(some 55), none, 0, .see (.bin .add (.t 51) (.t 54))⟩,
    ⟨(some 56), none, 0, .see (.fa 1 (.t 9))⟩,
    ⟨(some 57), none, 0, .see (.ld none (.t 56))⟩,
    ⟨(some 58), none, 0, .see (.bin .mul (.c (.r (.v (.int .i64 45)))) (.t 57))⟩,
    ⟨(some 4), none, 0, .see (.mov (.t 55))⟩,
    ⟨(some 5), none, 0, .see (.mov (.t 58))⟩,
    ⟨(some 6), none, 0, .see (.mov (.c (.r (.v (.bool true)))))⟩]
    [[], [0], [0, 1], [], [3], [3, 4], [0, 1, 2, 3, 4, 5], [], [7], [7, 8], [0, 1, 2, 3, 4, 5, 6], [0, 1, 2, 3, 4, 5, 6, 7, 8, 9, 10], [0, 1, 2, 3, 4, 5, 6, 7, 8, 9, 10, 11]])
  .ret)))))
noncomputable abbrev apiaryref1_Centre_code : Code := (Go.Proofs.Try.f30.body).getD .skip
theorem apiaryref1_Centre_chk : chkC Go.Proofs.Try.prog 59 apiaryref1_Centre_code apiaryref1_Centre_pc = true := by kernel_rfl
theorem apiaryref1_Centre_triple {args : List AV} {po ro : List Ob} {res : AV} (hal : args.length = 2) (hpo : po.length ≤ 1000)
    (h : run Go.Proofs.Try.prog po.length (RetP po.length [(4, false, none), (5, false, none), (6, false, none)] fun v os => v = res ∧ os = ro) [.c apiaryref1_Centre_pc] ⟨argE 0 args, ob0 po⟩) : Triple Go.Proofs.Try.prog 30 args po res ro :=
  triple_of_W (fn := Go.Proofs.Try.f30) (c := apiaryref1_Centre_code) (pc := apiaryref1_Centre_pc) (rs := [(4, false, none), (5, false, none), (6, false, none)]) Go.Proofs.Try.func30 rfl (by decide) (by have := apiaryref1_Centre_chk; exact this) (by rw [hal]; decide) rfl (by kernel_rfl) (by kernel_rfl) (by decide) hpo (W_of_run h)

noncomputable def apiaryref1_Hex_pc : PC :=
  (.seq (.reg [⟨(some 2), none, 0, .act (.box (.t 0))⟩,
    ⟨(some 4), none, 0, .see (.mov (.c (.nils 2 (.agg [(.v (.int .i64 0)), (.v (.int .i64 0))]))))⟩])
  (.seq (.seq (.reg [⟨(some 16), none, 0, .see (.ld (some 2) (.t 2))⟩,
    ⟨(some 17), none, 0, .see (.mov (.t 1))⟩,
    ⟨(some 18), none, 1, .call 30 [(.t 16), (.t 17)]⟩,
    ⟨(some 15), none, 0, .see (.mov (.t 18))⟩,
    ⟨(some 19), none, 0, .see (.ext (.t 15) 0)⟩,
    ⟨(some 20), none, 0, .see (.ext (.t 15) 1)⟩,
    ⟨(some 21), none, 0, .see (.ext (.t 15) 2)⟩,
    ⟨(some 5), none, 0, .see (.mov (.t 19))⟩,
    ⟨(some 6), none, 0, .see (.mov (.t 20))⟩,
    ⟨(some 7), none, 0, .see (.mov (.t 21))⟩])
  (.seq (.reg [⟨(some 22), none, 0, .see (.mov (.t 7))⟩,
    ⟨(some 23), none, 0, .see (.un .not (.t 22))⟩])
  (.cond (.t 23)
    (.seq (.reg [⟨(some 4), none, 0, .see (.mov (.c (.nils 2 (.agg [(.v (.int .i64 0)), (.v (.int .i64 0))]))))⟩])
    .ret)
    .skip)))
  (.seq (.reg [⟨(some 25), none, 0, .see (.mov (.t 1))⟩,
    ⟨(some 26), none, 0, .see (.bin .sub (.c (.r (.v (.int .i64 12)))) (.t 25))⟩,
    ⟨(some 27), none, 2, .call 31 [(.t 26)]⟩,
    ⟨(some 24), none, 0, .see (.mov (.t 27))⟩,
    ⟨(some 28), none, 0, .see (.ext (.t 24) 0)⟩,
    ⟨(some 29), none, 0, .see (.ext (.t 24) 1)⟩,
    ⟨(some 8), none, 0, .act (.new [(.r (.v (.int .i64 0))), (.r (.v (.int .i64 0)))])⟩,
    ⟨none, none, 0, .act (.st 2 (.t 8) (.t 28))⟩,
    ⟨(some 9), none, 0, .see (.mov (.t 29))⟩])
  (.seq (.reg [⟨(some 30), none, 0, .see (.build [(.r (.v (.int .i64 0))), (.r (.v (.int .i64 0)))] [(0, 1, (.c (.r (.v (.int .i64 1))))), (1, 1, (.c (.r (.v (.int .i64 1)))))])⟩,
    ⟨(some 31), none, 0, .see (.build [(.r (.v (.int .i64 0))), (.r (.v (.int .i64 0)))] [(0, 1, (.c (.r (.v (.int .i64 (-1)))))), (1, 1, (.c (.r (.v (.int .i64 2)))))])⟩,
    ⟨(some 32), none, 0, .see (.build [(.r (.v (.int .i64 0))), (.r (.v (.int .i64 0)))] [(0, 1, (.c (.r (.v (.int .i64 (-2)))))), (1, 1, (.c (.r (.v (.int .i64 1)))))])⟩,
    ⟨(some 33), none, 0, .see (.build [(.r (.v (.int .i64 0))), (.r (.v (.int .i64 0)))] [(0, 1, (.c (.r (.v (.int .i64 (-1)))))), (1, 1, (.c (.r (.v (.int .i64 (-1))))))])⟩,
    ⟨(some 34), none, 0, .see (.build [(.r (.v (.int .i64 0))), (.r (.v (.int .i64 0)))] [(0, 1, (.c (.r (.v (.int .i64 1))))), (1, 1, (.c (.r (.v (.int .i64 (-2))))))])⟩,
    ⟨(some 35), none, 0, .see (.build [(.r (.v (.int .i64 0))), (.r (.v (.int .i64 0)))] [(0, 1, (.c (.r (.v (.int .i64 2))))), (1, 1, (.c (.r (.v (.int .i64 (-1))))))])⟩,
    ⟨(some 36), none, 0, .see (.build [(.r (.v (.int .i64 0))), (.r (.v (.int .i64 0))), (.r (.v (.int .i64 0))), (.r (.v (.int .i64 0))), (.r (.v (.int .i64 0))), (.r (.v (.int .i64 0))), (.r (.v (.int .i64 0))), (.r (.v (.int .i64 0))), (.r (.v (.int .i64 0))), (.r (.v (.int .i64 0))), (.r (.v (.int .i64 0))), (.r (.v (.int .i64 0)))] [(0, 2, (.t 30)), (2, 2, (.t 31)), (4, 2, (.t 32)), (6, 2, (.t 33)), (8, 2, (.t 34)), (10, 2, (.t 35))])⟩,
    ⟨(some 10), none, 0, .act (.new [(.r (.v (.int .i64 0))), (.r (.v (.int .i64 0))), (.r (.v (.int .i64 0))), (.r (.v (.int .i64 0))), (.r (.v (.int .i64 0))), (.r (.v (.int .i64 0))), (.r (.v (.int .i64 0))), (.r (.v (.int .i64 0))), (.r (.v (.int .i64 0))), (.r (.v (.int .i64 0))), (.r (.v (.int .i64 0))), (.r (.v (.int .i64 0)))])⟩,
    ⟨none, none, 0, .act (.st 12 (.t 10) (.t 36))⟩])
  (.seq (.reg [⟨(some 11), none, 0, .see (.mov (.c (.nils 2 (.agg [(.v (.int .i64 0)), (.v (.int .i64 0))]))))⟩])
  (.seq (.seq (.reg [⟨(some 12), none, 0, .see (.mov (.c (.r (.v (.int .i64 0)))))⟩])
  (.block 0 (.loop (.seq (.seq (.reg [⟨(some 37), none, 0, .see (.mov (.t 12))⟩,
    ⟨(some 38), none, 0, .see (.bin .lss (.t 37) (.c (.r (.v (.int .i64 6)))))⟩])
  (.cond (.t 38)
    .skip
    (.exit 0)))
  (.seq (.block 1 (.seq (.drw [⟨(some 42), none, 0, .see (.fa 0 (.t 2))⟩,
    ⟨(some 43), none, 0, .see (.ld none (.t 42))⟩,
    ⟨(some 44), none, 0, .see (.bin .mul (.c (.r (.v (.int .i64 3)))) (.t 43))⟩,
    ⟨(some 45), none, 0, .see (.mov (.t 12))⟩,
    ⟨(some 46), none, 0, .see (.iaa 6 2 (.t 10) (.t 45))⟩,
    ⟨(some 47), none, 0, .see (.fa 0 (.t 46))⟩,
    ⟨(some 48), none, 0, .see (.ld none (.t 47))⟩,
    ⟨(some 49), none, 0, .see (.bin .add (.t 44) (.t 48))⟩,
    ⟨(some 50), none, 0, .see (.fa 1 (.t 2))⟩,
    ⟨(some 51), none, 0, .see (.ld none (.t 50))⟩,
    ⟨(some 52), none, 0, .see (.bin .mul (.c (.r (.v (.int .i64 3)))) (.t 51))⟩,
    ⟨(some 53), none, 0, .see (.mov (.t 12))⟩,
    ⟨(some 54), none, 0, .see (.iaa 6 2 (.t 10) (.t 53))⟩,
    ⟨(some 55), none, 0, .see (.fa 1 (.t 54))⟩,
    ⟨(some 56), none, 0, .see (.ld none (.t 55))⟩,
    ⟨(some 57), none, 0, .see (.bin .add (.t 52) (.t 56))⟩,
    ⟨(some 58), none, 0, .see (.build [(.r (.v (.int .i64 0))), (.r (.v (.int .i64 0)))] [(0, 1, (.t 49)), (1, 1, (.t 57))])⟩,
    ⟨(some 59), none, 0, .see (.ld (some 2) (.t 8))⟩,
    ⟨(some 60), none, 3, .call 28 [(.t 58), (.t 59)]⟩,
    ⟨(some 41), none, 0, .see (.mov (.t 60))⟩,
    ⟨(some 61), none, 0, .see (.ext (.t 41) 0)⟩,
    ⟨(some 62), none, 0, .see (.ext (.t 41) 1)⟩,
    ⟨(some 13), none, 0, .act (.new [(.r (.v (.int .i64 0))), (.r (.v (.int .i64 0)))])⟩,
    ⟨none, none, 0, .act (.st 2 (.t 13) (.t 61))⟩,
    ⟨(some 14), none, 0, .see (.mov (.t 62))⟩]
    [[], [0], [0, 1], [], [3], [3, 4], [3, 4, 5], [0, 1, 2, 3, 4, 5, 6], [], [8], [8, 9], [], [11], [11, 12], [11, 12, 13], [8, 9, 10, 11, 12, 13, 14], [0, 1, 2, 3, 4, 5, 6, 7, 8, 9, 10, 11, 12, 13, 14, 15], [], [0, 1, 2, 3, 4, 5, 6, 7, 8, 9, 10, 11, 12, 13, 14, 15, 16, 17], [0, 1, 2, 3, 4, 5, 6, 7, 8, 9, 10, 11, 12, 13, 14, 15, 16, 17, 18], [0, 1, 2, 3, 4, 5, 6, 7, 8, 9, 10, 11, 12, 13, 14, 15, 16, 17, 18, 19], [0, 1, 2, 3, 4, 5, 6, 7, 8, 9, 10, 11, 12, 13, 14, 15, 16, 17, 18, 19], [], [0, 1, 2, 3, 4, 5, 6, 7, 8, 9, 10, 11, 12, 13, 14, 15, 16, 17, 18, 19, 20, 22], [0, 1, 2, 3, 4, 5, 6, 7, 8, 9, 10, 11, 12, 13, 14, 15, 16, 17, 18, 19, 20, 21, 22, 23]])
  (.reg [⟨(some 63), none, 0, .see (.mov (.t 11))⟩,
    ⟨(some 64), none, 0, .see (.fa 0 (.t 13))⟩,
    ⟨(some 65), none, 0, .see (.ld none (.t 64))⟩,
    ⟨(some 66), none, 0, .see (.bin .mul (.c (.r (.v (.int .i64 52)))) (.t 65))⟩,
    ⟨(some 67), none, 0, .see (.fa 1 (.t 13))⟩,
    ⟨(some 68), none, 0, .see (.ld none (.t 67))⟩,
    ⟨(some 69), none, 0, .see (.bin .mul (.c (.r (.v (.int .i64 26)))) (.t 68))⟩,
    ⟨(some 70), none, 0, .see (.bin .add (.t 66) (.t 69))⟩,
    ⟨(some 71), none, 0, .see (.fa 1 (.t 13))⟩,
    ⟨(some 72), none, 0, .see (.ld none (.t 71))⟩,
    ⟨(some 73), none, 0, .see (.bin .mul (.c (.r (.v (.int .i64 45)))) (.t 72))⟩,
    ⟨(some 74), none, 0, .see (.build [(.r (.v (.int .i64 0))), (.r (.v (.int .i64 0)))] [(0, 1, (.t 70)), (1, 1, (.t 73))])⟩,
    ⟨(some 75), none, 0, .act (.bsl 2 (.agg [(.v (.int .i64 0)), (.v (.int .i64 0))]) [(.t 74)])⟩,
    ⟨(some 76), none, 0, .act (.app 2 (.agg [(.v (.int .i64 0)), (.v (.int .i64 0))]) 16 (.t 63) (.t 75))⟩,
    ⟨(some 11), none, 0, .see (.mov (.t 76))⟩])))
  (.reg [⟨(some 39), none, 0, .see (.mov (.t 12))⟩,
    ⟨(some 40), none, 0, .see (.bin .add (.t 39) (.c (.r (.v (.int .i64 1)))))⟩,
    ⟨(some 12), none, 0, .see (.mov (.t 40))⟩]))))))
  (.seq (.reg [⟨(some 77), none, 0, .see (.mov (.t 11))⟩,
    ⟨(some 4), none, 0, .see (.mov (.t 77))⟩])
  .ret)))))))
noncomputable abbrev apiaryref1_Hex_code : Code := (Go.Proofs.Try.f13.body).getD .skip
theorem apiaryref1_Hex_chk : chkC Go.Proofs.Try.prog 78 apiaryref1_Hex_code apiaryref1_Hex_pc = true := by kernel_rfl
theorem apiaryref1_Hex_triple {args : List AV} {po ro : List Ob} {res : AV} (hal : args.length = 2) (hpo : po.length ≤ 1000)
    (h : run Go.Proofs.Try.prog po.length (RetP po.length [(4, false, none)] fun v os => v = res ∧ os = ro) [.c apiaryref1_Hex_pc] ⟨argE 0 args, ob0 po⟩) : Triple Go.Proofs.Try.prog 13 args po res ro :=
  triple_of_W (fn := Go.Proofs.Try.f13) (c := apiaryref1_Hex_code) (pc := apiaryref1_Hex_pc) (rs := [(4, false, none)]) Go.Proofs.Try.func13 rfl (by decide) (by have := apiaryref1_Hex_chk; exact this) (by rw [hal]; decide) rfl (by kernel_rfl) (by kernel_rfl) (by decide) hpo (W_of_run h)

noncomputable def apiaryref1_Unit_pc : PC :=
  (.seq (.reg [⟨(some 2), none, 0, .act (.new [(.r (.v (.int .i64 0))), (.r (.v (.int .i64 0)))])⟩])
  (.seq (.reg [⟨(some 4), none, 0, .see (.build [(.r (.v (.int .i64 0))), (.r (.v (.int .i64 0)))] [(0, 1, (.c (.r (.v (.int .i64 1)))))])⟩,
    ⟨(some 5), none, 0, .see (.build [(.r (.v (.int .i64 0))), (.r (.v (.int .i64 0)))] [(1, 1, (.c (.r (.v (.int .i64 1)))))])⟩,
    ⟨(some 6), none, 0, .see (.build [(.r (.v (.int .i64 0))), (.r (.v (.int .i64 0)))] [(0, 1, (.c (.r (.v (.int .i64 (-1)))))), (1, 1, (.c (.r (.v (.int .i64 1)))))])⟩,
    ⟨(some 7), none, 0, .see (.build [(.r (.v (.int .i64 0))), (.r (.v (.int .i64 0)))] [(0, 1, (.c (.r (.v (.int .i64 (-1))))))])⟩,
    ⟨(some 8), none, 0, .see (.build [(.r (.v (.int .i64 0))), (.r (.v (.int .i64 0)))] [(1, 1, (.c (.r (.v (.int .i64 (-1))))))])⟩,
    ⟨(some 9), none, 0, .see (.build [(.r (.v (.int .i64 0))), (.r (.v (.int .i64 0)))] [(0, 1, (.c (.r (.v (.int .i64 1))))), (1, 1, (.c (.r (.v (.int .i64 (-1))))))])⟩,
    ⟨(some 10), none, 0, .see (.build [(.r (.v (.int .i64 0))), (.r (.v (.int .i64 0))), (.r (.v (.int .i64 0))), (.r (.v (.int .i64 0))), (.r (.v (.int .i64 0))), (.r (.v (.int .i64 0))), (.r (.v (.int .i64 0))), (.r (.v (.int .i64 0))), (.r (.v (.int .i64 0))), (.r (.v (.int .i64 0))), (.r (.v (.int .i64 0))), (.r (.v (.int .i64 0)))] [(0, 2, (.t 4)), (2, 2, (.t 5)), (4, 2, (.t 6)), (6, 2, (.t 7)), (8, 2, (.t 8)), (10, 2, (.t 9))])⟩,
    ⟨(some 3), none, 0, .act (.new [(.r (.v (.int .i64 0))), (.r (.v (.int .i64 0))), (.r (.v (.int .i64 0))), (.r (.v (.int .i64 0))), (.r (.v (.int .i64 0))), (.r (.v (.int .i64 0))), (.r (.v (.int .i64 0))), (.r (.v (.int .i64 0))), (.r (.v (.int .i64 0))), (.r (.v (.int .i64 0))), (.r (.v (.int .i64 0))), (.r (.v (.int .i64 0)))])⟩,
    ⟨none, none, 0, .act (.st 12 (.t 3) (.t 10))⟩])
  (.seq (.reg [⟨(some 11), none, 0, .see (.mov (.t 0))⟩,
    ⟨(some 12), none, 0, .see (.bin .rem (.t 11) (.c (.r (.v (.int .i64 6)))))⟩,
    ⟨(some 13), none, 0, .see (.bin .add (.t 12) (.c (.r (.v (.int .i64 6)))))⟩,
    ⟨(some 14), none, 0, .see (.bin .rem (.t 13) (.c (.r (.v (.int .i64 6)))))⟩,
    ⟨(some 15), none, 0, .see (.iaa 6 2 (.t 3) (.t 14))⟩,
    ⟨(some 16), none, 0, .see (.ld (some 2) (.t 15))⟩,
    ⟨none, none, 0, .act (.st 2 (.t 2) (.t 16))⟩])
  .ret)))
noncomputable abbrev apiaryref1_Unit_code : Code := (Go.Proofs.Try.f29.body).getD .skip
theorem apiaryref1_Unit_chk : chkC Go.Proofs.Try.prog 17 apiaryref1_Unit_code apiaryref1_Unit_pc = true := by kernel_rfl
theorem apiaryref1_Unit_triple {args : List AV} {po ro : List Ob} {res : AV} (hal : args.length = 1) (hpo : po.length ≤ 1000)
    (h : run Go.Proofs.Try.prog po.length (RetP po.length [(2, false, some (35, (some 2)))] fun v os => v = res ∧ os = ro) [.c apiaryref1_Unit_pc] ⟨argE 0 args, ob0 po⟩) : Triple Go.Proofs.Try.prog 29 args po res ro :=
  triple_of_W (fn := Go.Proofs.Try.f29) (c := apiaryref1_Unit_code) (pc := apiaryref1_Unit_pc) (rs := [(2, false, some (35, (some 2)))]) Go.Proofs.Try.func29 rfl (by decide) (by have := apiaryref1_Unit_chk; exact this) (by rw [hal]; decide) rfl (by kernel_rfl) (by kernel_rfl) (by decide) hpo (W_of_run h)

noncomputable def apiaryref1_parent_pc : PC :=
  (.seq (.reg [⟨(some 1), none, 0, .act (.box (.t 0))⟩,
    ⟨(some 2), none, 0, .act (.new [(.r (.v (.int .i64 0))), (.r (.v (.int .i64 0)))])⟩,
    ⟨(some 3), none, 0, .see (.mov (.c (.r (.v (.int .i64 0)))))⟩])
  (.seq (.reg [⟨(some 13), none, 0, .see (.ld (some 2) (.t 1))⟩,
    ⟨(some 14), none, 0, .see (.build [(.r (.v (.int .i64 0))), (.r (.v (.int .i64 0)))] [(0, 1, (.c (.r (.v (.int .i64 3))))), (1, 1, (.c (.r (.v (.int .i64 (-1))))))])⟩,
    ⟨(some 15), none, 1, .call 28 [(.t 13), (.t 14)]⟩,
    ⟨(some 12), none, 0, .see (.mov (.t 15))⟩,
    ⟨(some 16), none, 0, .see (.ext (.t 12) 0)⟩,
    ⟨(some 17), none, 0, .see (.ext (.t 12) 1)⟩,
    ⟨(some 4), none, 0, .act (.new [(.r (.v (.int .i64 0))), (.r (.v (.int .i64 0)))])⟩,
    ⟨none, none, 0, .act (.st 2 (.t 4) (.t 16))⟩,
    ⟨(some 5), none, 0, .see (.mov (.t 17))⟩])
  (.seq (.reg [⟨(some 19), none, 0, .see (.ld (some 2) (.t 4))⟩,
    ⟨(some 20), none, 2, .call 46 [(.t 19), (.c (.r (.v (.int .i64 7))))]⟩,
    ⟨(some 18), none, 0, .see (.mov (.t 20))⟩,
    ⟨(some 21), none, 0, .see (.ext (.t 18) 0)⟩,
    ⟨(some 22), none, 0, .see (.ext (.t 18) 1)⟩,
    ⟨(some 6), none, 0, .act (.new [(.r (.v (.int .i64 0))), (.r (.v (.int .i64 0)))])⟩,
    ⟨none, none, 0, .act (.st 2 (.t 6) (.t 21))⟩,
    ⟨(some 7), none, 0, .see (.mov (.t 22))⟩])
  (.seq (.reg [⟨(some 24), none, 0, .see (.ld (some 2) (.t 6))⟩,
    ⟨(some 25), none, 0, .see (.build [(.r (.v (.int .i64 0))), (.r (.v (.int .i64 0)))] [(0, 1, (.c (.r (.v (.int .i64 2))))), (1, 1, (.c (.r (.v (.int .i64 1)))))])⟩,
    ⟨(some 26), none, 3, .call 28 [(.t 24), (.t 25)]⟩,
    ⟨(some 23), none, 0, .see (.mov (.t 26))⟩,
    ⟨(some 27), none, 0, .see (.ext (.t 23) 0)⟩,
    ⟨(some 28), none, 0, .see (.ext (.t 23) 1)⟩,
    ⟨(some 8), none, 0, .act (.new [(.r (.v (.int .i64 0))), (.r (.v (.int .i64 0)))])⟩,
    ⟨none, none, 0, .act (.st 2 (.t 8) (.t 27))⟩,
    ⟨(some 9), none, 0, .see (.mov (.t 28))⟩])
  (.seq (.reg [⟨(some 29), none, 0, .see (.fa 0 (.t 1))⟩,
    ⟨(some 30), none, 0, .see (.ld none (.t 29))⟩,
    ⟨(some 31), none, 0, .see (.fa 0 (.t 8))⟩,
    ⟨(some 32), none, 0, .see (.ld none (.t 31))⟩,
    ⟨(some 33), none, 0, .see (.bin .sub (.t 30) (.t 32))⟩,
    ⟨(some 34), none, 0, .see (.fa 1 (.t 1))⟩,
    ⟨(some 35), none, 0, .see (.ld none (.t 34))⟩,
    ⟨(some 36), none, 0, .see (.fa 1 (.t 8))⟩,
    ⟨(some 37), none, 0, .see (.ld none (.t 36))⟩,
    ⟨(some 38), none, 0, .see (.bin .sub (.t 35) (.t 37))⟩,
    ⟨(some 39), none, 0, .see (.build [(.r (.v (.int .i64 0))), (.r (.v (.int .i64 0)))] [(0, 1, (.t 33)), (1, 1, (.t 38))])⟩,
    ⟨(some 10), none, 0, .act (.new [(.r (.v (.int .i64 0))), (.r (.v (.int .i64 0)))])⟩,
    ⟨none, none, 0, .act (.st 2 (.t 10) (.t 39))⟩])
  (.seq (.seq (.reg [⟨(some 11), none, 0, .see (.mov (.c (.r (.v (.int .i64 0)))))⟩])
  (.block 0 (.loop (.seq (.seq (.reg [⟨(some 40), none, 0, .see (.mov (.t 11))⟩,
    ⟨(some 41), none, 0, .see (.bin .lss (.t 40) (.c (.r (.v (.int .i64 6)))))⟩])
  (.cond (.t 41)
    .skip
    (.exit 0)))
  (.seq (.block 1 (.seq (.drw [⟨(some 44), none, 0, .see (.mov (.t 11))⟩,
    ⟨(some 45), none, 4, .call 29 [(.t 44)]⟩,
    ⟨(some 46), none, 0, .see (.ld (some 2) (.t 10))⟩,
    ⟨(some 47), none, 0, .see (.eqa false [0, 0] (.t 45) (.t 46))⟩]
    [[], [0], [], [0, 1, 2]])
  (.cond (.t 47)
    (.seq (.reg [⟨(some 48), none, 0, .see (.ld (some 2) (.t 6))⟩,
    ⟨(some 49), none, 0, .see (.mov (.t 11))⟩,
    ⟨(some 50), none, 0, .see (.bin .add (.t 49) (.c (.r (.v (.int .i64 1)))))⟩,
    ⟨none, none, 0, .act (.st 2 (.t 2) (.t 48))⟩,
    ⟨(some 3), none, 0, .see (.mov (.t 50))⟩])
    .ret)
    .skip)))
  (.reg [⟨(some 42), none, 0, .see (.mov (.t 11))⟩,
    ⟨(some 43), none, 0, .see (.bin .add (.t 42) (.c (.r (.v (.int .i64 1)))))⟩,
    ⟨(some 11), none, 0, .see (.mov (.t 43))⟩]))))))
  (.seq (.reg [⟨(some 51), none, 0, .see (.ld (some 2) (.t 6))⟩,
    ⟨none, none, 0, .act (.st 2 (.t 2) (.t 51))⟩,
    ⟨(some 3), none, 0, .see (.mov (.c (.r (.v (.int .i64 0)))))⟩])
  .ret)))))))
noncomputable abbrev apiaryref1_parent_code : Code := (Go.Proofs.Try.f48.body).getD .skip
theorem apiaryref1_parent_chk : chkC Go.Proofs.Try.prog 52 apiaryref1_parent_code apiaryref1_parent_pc = true := by kernel_rfl
theorem apiaryref1_parent_triple {args : List AV} {po ro : List Ob} {res : AV} (hal : args.length = 1) (hpo : po.length ≤ 1000)
    (h : run Go.Proofs.Try.prog po.length (RetP po.length [(2, false, some (35, (some 2))), (3, false, none)] fun v os => v = res ∧ os = ro) [.c apiaryref1_parent_pc] ⟨argE 0 args, ob0 po⟩) : Triple Go.Proofs.Try.prog 48 args po res ro :=
  triple_of_W (fn := Go.Proofs.Try.f48) (c := apiaryref1_parent_code) (pc := apiaryref1_parent_pc) (rs := [(2, false, some (35, (some 2))), (3, false, none)]) Go.Proofs.Try.func48 rfl (by decide) (by have := apiaryref1_parent_chk; exact this) (by rw [hal]; decide) rfl (by kernel_rfl) (by kernel_rfl) (by decide) hpo (W_of_run h)

noncomputable def apiaryref1_Ok_pc : PC :=
  (.seq (.reg [⟨(some 1), none, 0, .act (.box (.t 0))⟩,
    ⟨(some 2), none, 0, .see (.mov (.c (.r (.v (.bool false)))))⟩])
  (.seq (.seq (.reg [⟨(some 5), none, 0, .see (.fa 0 (.t 1))⟩,
    ⟨(some 6), none, 0, .see (.ld none (.t 5))⟩,
    ⟨(some 7), none, 0, .see (.bin .lss (.t 6) (.c (.r (.v (.int .i64 0)))))⟩,
    ⟨(some 8), none, 0, .see (.mov (.t 7))⟩,
    ⟨(some 9), (some (8, false)), 0, .see (.fa 0 (.t 1))⟩,
    ⟨(some 10), (some (8, false)), 0, .see (.ld none (.t 9))⟩,
    ⟨(some 11), (some (8, false)), 0, .see (.bin .gtr (.t 10) (.c (.r (.v (.int .i64 12)))))⟩,
    ⟨(some 12), none, 0, .see (.pick (.t 8) (.c (.r (.v (.bool true)))) (.t 11))⟩,
    ⟨(some 13), none, 0, .see (.mov (.t 12))⟩,
    ⟨(some 14), (some (13, false)), 0, .see (.fa 1 (.t 1))⟩,
    ⟨(some 15), (some (13, false)), 0, .see (.fa 0 (.t 14))⟩,
    ⟨(some 16), (some (13, false)), 0, .see (.ld none (.t 15))⟩,
    ⟨(some 17), (some (13, false)), 0, .see (.bin .lss (.t 16) (.c (.r (.v (.int .i64 (-1073741824))))))⟩,
    ⟨(some 18), none, 0, .see (.pick (.t 13) (.c (.r (.v (.bool true)))) (.t 17))⟩,
    ⟨(some 19), none, 0, .see (.mov (.t 18))⟩,
    ⟨(some 20), (some (19, false)), 0, .see (.fa 1 (.t 1))⟩,
    ⟨(some 21), (some (19, false)), 0, .see (.fa 0 (.t 20))⟩,
    ⟨(some 22), (some (19, false)), 0, .see (.ld none (.t 21))⟩,
    ⟨(some 23), (some (19, false)), 0, .see (.bin .gtr (.t 22) (.c (.r (.v (.int .i64 1073741824)))))⟩,
    ⟨(some 24), none, 0, .see (.pick (.t 19) (.c (.r (.v (.bool true)))) (.t 23))⟩,
    ⟨(some 25), none, 0, .see (.mov (.t 24))⟩,
    ⟨(some 26), (some (25, false)), 0, .see (.fa 1 (.t 1))⟩,
    ⟨(some 27), (some (25, false)), 0, .see (.fa 1 (.t 26))⟩,
    ⟨(some 28), (some (25, false)), 0, .see (.ld none (.t 27))⟩,
    ⟨(some 29), (some (25, false)), 0, .see (.bin .lss (.t 28) (.c (.r (.v (.int .i64 (-1073741824))))))⟩,
    ⟨(some 30), none, 0, .see (.pick (.t 25) (.c (.r (.v (.bool true)))) (.t 29))⟩,
    ⟨(some 31), none, 0, .see (.mov (.t 30))⟩,
    ⟨(some 32), (some (31, false)), 0, .see (.fa 1 (.t 1))⟩,
    ⟨(some 33), (some (31, false)), 0, .see (.fa 1 (.t 32))⟩,
    ⟨(some 34), (some (31, false)), 0, .see (.ld none (.t 33))⟩,
    ⟨(some 35), (some (31, false)), 0, .see (.bin .gtr (.t 34) (.c (.r (.v (.int .i64 1073741824)))))⟩,
    ⟨(some 36), none, 0, .see (.pick (.t 31) (.c (.r (.v (.bool true)))) (.t 35))⟩])
  (.cond (.t 36)
    (.seq (.reg [⟨(some 2), none, 0, .see (.mov (.c (.r (.v (.bool false)))))⟩])
    .ret)
    .skip))
  (.seq (.reg [⟨(some 37), none, 0, .see (.fa 1 (.t 1))⟩,
    ⟨(some 38), none, 0, .see (.ld (some 2) (.t 37))⟩,
    ⟨(some 3), none, 0, .act (.new [(.r (.v (.int .i64 0))), (.r (.v (.int .i64 0)))])⟩,
    ⟨none, none, 0, .act (.st 2 (.t 3) (.t 38))⟩])
  (.seq (.seq (.reg [⟨(some 4), none, 0, .see (.mov (.c (.r (.v (.int .i64 0)))))⟩])
  (.block 0 (.loop (.seq (.seq (.reg [⟨(some 39), none, 0, .see (.mov (.t 4))⟩,
    ⟨(some 40), none, 0, .see (.fa 0 (.t 1))⟩,
    ⟨(some 41), none, 0, .see (.ld none (.t 40))⟩,
    ⟨(some 42), none, 0, .see (.bin .lss (.t 39) (.t 41))⟩])
  (.cond (.t 42)
    .skip
    (.exit 0)))
  (.seq (.block 1 (.reg [⟨(some 46), none, 0, .see (.ld (some 2) (.t 3))⟩,
    ⟨(some 47), none, 1, .call 48 [(.t 46)]⟩,
    ⟨(some 45), none, 0, .see (.mov (.t 47))⟩,
    ⟨(some 48), none, 0, .see (.ext (.t 45) 0)⟩,
    ⟨(some 49), none, 0, .see (.ext (.t 45) 1)⟩,
    ⟨none, none, 0, .act (.st 2 (.t 3) (.t 48))⟩]))
  (.reg [⟨(some 43), none, 0, .see (.mov (.t 4))⟩,
    ⟨(some 44), none, 0, .see (.bin .add (.t 43) (.c (.r (.v (.int .i64 1)))))⟩,
    ⟨(some 4), none, 0, .see (.mov (.t 44))⟩]))))))
  (.seq (.reg [⟨(some 50), none, 0, .see (.fa 0 (.t 3))⟩,
    ⟨(some 51), none, 0, .see (.ld none (.t 50))⟩,
    ⟨(some 52), none, 0, .see (.bin .geq (.t 51) (.c (.r (.v (.int .i64 (-512))))))⟩,
    ⟨(some 53), none, 0, .see (.mov (.t 52))⟩,
    ⟨(some 54), (some (53, true)), 0, .see (.fa 0 (.t 3))⟩,
    ⟨(some 55), (some (53, true)), 0, .see (.ld none (.t 54))⟩,
    ⟨(some 56), (some (53, true)), 0, .see (.bin .leq (.t 55) (.c (.r (.v (.int .i64 511)))))⟩,
    ⟨(some 57), none, 0, .see (.pick (.t 53) (.t 56) (.c (.r (.v (.bool false)))))⟩,
    ⟨(some 58), none, 0, .see (.mov (.t 57))⟩,
    ⟨(some 59), (some (58, true)), 0, .see (.fa 1 (.t 3))⟩,
    ⟨(some 60), (some (58, true)), 0, .see (.ld none (.t 59))⟩,
    ⟨(some 61), (some (58, true)), 0, .see (.bin .geq (.t 60) (.c (.r (.v (.int .i64 (-512))))))⟩,
    ⟨(some 62), none, 0, .see (.pick (.t 58) (.t 61) (.c (.r (.v (.bool false)))))⟩,
    ⟨(some 63), none, 0, .see (.mov (.t 62))⟩,
    ⟨(some 64), (some (63, true)), 0, .see (.fa 1 (.t 3))⟩,
    ⟨(some 65), (some (63, true)), 0, .see (.ld none (.t 64))⟩,
    ⟨(some 66), (some (63, true)), 0, .see (.bin .leq (.t 65) (.c (.r (.v (.int .i64 511)))))⟩,
    ⟨(some 67), none, 0, .see (.pick (.t 63) (.t 66) (.c (.r (.v (.bool false)))))⟩,
    ⟨(some 2), none, 0, .see (.mov (.t 67))⟩])
  .ret)))))
noncomputable abbrev apiaryref1_Ok_code : Code := (Go.Proofs.Try.f47.body).getD .skip
theorem apiaryref1_Ok_chk : chkC Go.Proofs.Try.prog 68 apiaryref1_Ok_code apiaryref1_Ok_pc = true := by kernel_rfl
theorem apiaryref1_Ok_triple {args : List AV} {po ro : List Ob} {res : AV} (hal : args.length = 1) (hpo : po.length ≤ 1000)
    (h : run Go.Proofs.Try.prog po.length (RetP po.length [(2, false, none)] fun v os => v = res ∧ os = ro) [.c apiaryref1_Ok_pc] ⟨argE 0 args, ob0 po⟩) : Triple Go.Proofs.Try.prog 47 args po res ro :=
  triple_of_W (fn := Go.Proofs.Try.f47) (c := apiaryref1_Ok_code) (pc := apiaryref1_Ok_pc) (rs := [(2, false, none)]) Go.Proofs.Try.func47 rfl (by decide) (by have := apiaryref1_Ok_chk; exact this) (by rw [hal]; decide) rfl (by kernel_rfl) (by kernel_rfl) (by decide) hpo (W_of_run h)

theorem Ei.mul_comm (x y : Ei) : x.mul y = y.mul x := by
  apply Ei.ext' <;> simp only [Ei.mul]
  · rw [Int.mul_comm x.a, Int.mul_comm x.b]
  · rw [Int.mul_comm x.a y.b, Int.mul_comm x.b y.a, Int.mul_comm x.b y.b]; omega
theorem cz_In {z : Ei} {r : Nat} (h : z.In 1073741824) (hr : r ≤ 12) : ((betaN (12 - r)).mul z).In 386547056640000 := (mul_In (lb hr) h).mono (by decide)
set_option maxRecDepth 100000 in
theorem rcentre_t (z : Ei) (r : Int) (h : z.In 1073741824) (hr : 0 ≤ r ∧ r ≤ 12) : Triple Go.Proofs.Try.prog 30 [z.v, int .i64 r] [] (.tup [int .i64 (cx z r.toNat), int .i64 (cy z r.toNat), bl true]) [] := by
  refine apiaryref1_Centre_triple rfl (by decide) ?_
  have h' := h
  unfold Ei.In at h'
  have c1 : decide (r < 0) = false := by simp; omega
  have c2 : decide (r > 12) = false := by simp; omega
  have c3 : decide (z.a < -1073741824) = false := by simp; omega
  have c4 : decide (z.a > 1073741824) = false := by simp; omega
  have c5 : decide (z.b < -1073741824) = false := by simp; omega
  have c6 : decide (z.b > 1073741824) = false := by simp; omega
  simp only [apiaryref1_Centre_pc, Ei.v, Ei.rv, List.length_nil, c1, c2, c3, c4, c5, c6, push_cast, ↓reduceIte, reduceCtorEq, Nat.reduceBEq, Nat.reduceEqDiff, Nat.reduceAdd, Nat.reduceSub, Nat.reduceLT, Nat.reduceLeDiff, Nat.reduceMul]
  rw [show IntKind.i64.wrap (12 - r) = 12 - r from wrap_id (by omega)]
  refine call_mk (rbeta_t (12 - r) (by omega)) rfl trivial ?_
  simp only [Ei.v, Ei.rv, push_cast, ↓reduceIte, reduceCtorEq, Nat.reduceBEq, Nat.reduceEqDiff, Nat.reduceAdd, Nat.reduceSub, Nat.reduceLT, Nat.reduceLeDiff, Nat.reduceMul]
  have e : (12 - r).toNat = 12 - r.toNat := by omega
  have hk : r.toNat ≤ 12 := by omega
  rw [e]
  have hm := cz_In h hk
  have hz := (lb hk)
  refine call_as (as' := [z.v, (betaN (12 - r.toNat)).v]) rfl ?_
  refine call_mk (rmul_t _ _ (h.mono (by decide)) (hz.mono (by decide)) (by rw [Ei.mul_comm]; exact hm.mono (by decide))) rfl trivial ?_
  rw [Ei.mul_comm]
  unfold Ei.In at hm
  simp only [Ei.v, Ei.rv, cx, cy, push_cast, ↓reduceIte, reduceCtorEq, Nat.reduceBEq, Nat.reduceEqDiff, Nat.reduceAdd, Nat.reduceSub, Nat.reduceLT, Nat.reduceLeDiff, Nat.reduceMul]
  rw [show IntKind.i64.wrap (52 * ((betaN (12 - r.toNat)).mul z).a) = 52 * ((betaN (12 - r.toNat)).mul z).a from wrap_id (by omega), show IntKind.i64.wrap (26 * ((betaN (12 - r.toNat)).mul z).b) = 26 * ((betaN (12 - r.toNat)).mul z).b from wrap_id (by omega), show IntKind.i64.wrap (52 * ((betaN (12 - r.toNat)).mul z).a + 26 * ((betaN (12 - r.toNat)).mul z).b) = 52 * ((betaN (12 - r.toNat)).mul z).a + 26 * ((betaN (12 - r.toNat)).mul z).b from wrap_id (by omega), show IntKind.i64.wrap (45 * ((betaN (12 - r.toNat)).mul z).b) = 45 * ((betaN (12 - r.toNat)).mul z).b from wrap_id (by omega)]
  exact ⟨by kernel_rfl, rfl⟩
theorem hc_In {z : Ei} {r : Nat} (i : Nat) (h : z.In 1073741824) (hr : r ≤ 12) : (hc z r i).In 1159641889920000 := by
  have hv := vv_In i
  unfold Ei.In at h hv
  exact (mul_In (lb hr) (show (⟨3 * z.a + (vv i).a, 3 * z.b + (vv i).b⟩ : Ei).In 3221225474 by unfold Ei.In; dsimp only; omega)).mono (by decide)
def vvB : List AV := [int .i64 1, int .i64 1, int .i64 (-1), int .i64 2, int .i64 (-2), int .i64 1, int .i64 (-1), int .i64 (-1), int .i64 1, int .i64 (-2), int .i64 2, int .i64 (-1)]
theorem vvB_a (i : Nat) (h : i < 6) : vvB.getD (0 + (i : Int).toNat * 2 + 0) AV.undef = int .i64 (vv i).a := by
  rcases lt6 h with rfl | rfl | rfl | rfl | rfl | rfl <;> rfl
theorem vvB_b (i : Nat) (h : i < 6) : vvB.getD (0 + (i : Int).toNat * 2 + 1) AV.undef = int .i64 (vv i).b := by
  rcases lt6 h with rfl | rfl | rfl | rfl | rfl | rfl <;> rfl
theorem vvB_a0 : vvB.getD (0 + (0 : Int).toNat * 2 + 0) AV.undef = int .i64 (vv 0).a := rfl
theorem vvB_b0 : vvB.getD (0 + (0 : Int).toNat * 2 + 1) AV.undef = int .i64 (vv 0).b := rfl
theorem hidL_vvB : hidL vvB = [] := rfl
theorem imL_vvB (F : Ren) : imL F vvB = vvB := rfl
theorem vvB_len : vvB.length = 12 := rfl
theorem hc_eq (z : Ei) (r i : Nat) : (⟨3 * z.a + (vv i).a, 3 * z.b + (vv i).b⟩ : Ei).mul (betaN (12 - r)) = hc z r i := Ei.mul_comm _ _
theorem in3 {x v : Int} (h : -1073741824 ≤ x ∧ x ≤ 1073741824) (h' : -2 ≤ v ∧ v ≤ 2) : IntKind.i64.wrap (3 * x) = 3 * x ∧ IntKind.i64.wrap (3 * x + v) = 3 * x + v := ⟨wrap_id (by omega), wrap_id (by omega)⟩
set_option maxRecDepth 100000 in
theorem rhex_t (z : Ei) (r : Int) (hz : z.In 1073741824) (hr : 0 ≤ r ∧ r ≤ 12) : Triple Go.Proofs.Try.prog 13 [z.v, int .i64 r] [] (.own 1000000 0 0 6) [.row 2 (pnt 0 0) true true (hexL z r.toNat 6)] := by
  refine apiaryref1_Hex_triple rfl (by decide) ?_
  simp only [apiaryref1_Hex_pc, Ei.v, Ei.rv, List.length_nil, push_cast, ↓reduceIte, reduceCtorEq, Nat.reduceBEq, Nat.reduceEqDiff, Nat.reduceAdd, Nat.reduceSub, Nat.reduceLT, Nat.reduceLeDiff, Nat.reduceMul]
  refine call_as (as' := [z.v, int .i64 r]) rfl ?_
  refine call_mk (rcentre_t z r hz hr) rfl trivial ?_
  simp only [push_cast, ↓reduceIte, reduceCtorEq, Nat.reduceBEq, Nat.reduceEqDiff, Nat.reduceAdd, Nat.reduceSub, Nat.reduceLT, Nat.reduceLeDiff, Nat.reduceMul]
  rw [show IntKind.i64.wrap (12 - r) = 12 - r from wrap_id (by omega)]
  refine call_mk (rbeta_t (12 - r) (by omega)) rfl trivial ?_
  have e : (12 - r).toNat = 12 - r.toNat := by omega
  have hk : r.toNat ≤ 12 := by omega
  rw [e]
  simp only [Ei.v, Ei.rv, push_cast, ↓reduceIte, reduceCtorEq, Nat.reduceBEq, Nat.reduceEqDiff, Nat.reduceAdd, Nat.reduceSub, Nat.reduceLT, Nat.reduceLeDiff, Nat.reduceMul]
  have hmax := maxLen_big
  generalize hR : r.toNat = R at *
  have hb : (betaN (12 - R)).In 120000 := lb hk
  have h' := hz
  unfold Ei.In at h'
  have h3 : ∀ i, (⟨3 * z.a + (vv i).a, 3 * z.b + (vv i).b⟩ : Ei).In M63 := fun i => by
    have hv := vv_In i
    unfold Ei.In at hv ⊢
    unfold M63
    dsimp only
    omega
  refine run_loop [(12, false), (2, false), (8, false), (10, false), (11, false)] (fun vs pos los => ∃ i : Nat, i ≤ 6 ∧ pos = [] ∧
    ((i = 0 ∧ vs = [int .i64 i, .ptr 2000000 0 0, .ptr 2000001 0 0, .ptr 2000002 0 0, .nils 2 (.agg [.v (.int .i64 0), .v (.int .i64 0)])] ∧ los = [.box [int .i64 z.a, int .i64 z.b], .box [int .i64 (betaN (12 - R)).a, int .i64 (betaN (12 - R)).b], .box vvB]) ∨
     (0 < i ∧ vs = [int .i64 i, .ptr 2000000 0 0, .ptr 2000001 0 0, .ptr 2000002 0 0, .own 2000003 0 0 i] ∧ los = [.box [int .i64 z.a, int .i64 z.b], .box [int .i64 (betaN (12 - R)).a, int .i64 (betaN (12 - R)).b], .box vvB, .row 2 (pnt 0 0) true true (hexL z R i)])))
    (fun vs _ _ => match vs with | .r (.v (.int _ j)) :: _ => (6 - j).toNat | _ => 0) rfl ?_ ?_
  · simp only [push_cast, ↓reduceIte, reduceCtorEq, Nat.reduceBEq, Nat.reduceEqDiff, Nat.reduceAdd, Nat.reduceSub, Nat.reduceLT, Nat.reduceLeDiff, Nat.reduceMul]
    exact ⟨0, by omega, .inl ⟨rfl, rfl, rfl⟩⟩
  · rintro vs pos los ⟨i, i6, rfl, ⟨i0, rfl, rfl⟩ | ⟨i0, rfl, rfl⟩⟩
    · subst i0
      simp only [show decide ((0 : Int) < 6) = true from rfl, vvB_a0, vvB_b0, vvB_len, push_cast, ↓reduceIte, reduceCtorEq, Nat.reduceBEq, Nat.reduceEqDiff, Nat.reduceAdd, Nat.reduceSub, Nat.reduceLT, Nat.reduceLeDiff, Nat.reduceMul]
      repeat refine And.intro (by first | decide | omega) ?_
      rw [(in3 h'.1 (vv_In 0).1).1, (in3 h'.1 (vv_In 0).1).2, (in3 h'.2 (vv_In 0).2).1, (in3 h'.2 (vv_In 0).2).2]
      refine dcall_as (as' := [Ei.v ⟨3 * z.a + (vv 0).a, 3 * z.b + (vv 0).b⟩, (betaN (12 - R)).v]) rfl ?_
      refine dcall_mk (rmul_t _ _ (h3 0) (hb.mono (by decide)) (by rw [hc_eq]; exact (hc_In 0 hz hk).mono (by decide))) rfl trivial ?_
      rw [hc_eq]
      have hw := hc_In 0 hz hk
      unfold Ei.In at hw
      simp only [Ei.v, Ei.rv, hidL_vvB, imL_vvB, push_cast, ↓reduceIte, reduceCtorEq, Nat.reduceBEq, Nat.reduceEqDiff, Nat.reduceAdd, Nat.reduceSub, Nat.reduceLT, Nat.reduceLeDiff, Nat.reduceMul]
      rw [show IntKind.i64.wrap (52 * (hc z R 0).a) = 52 * (hc z R 0).a from wrap_id (by omega), show IntKind.i64.wrap (26 * (hc z R 0).b) = 26 * (hc z R 0).b from wrap_id (by omega), show IntKind.i64.wrap (52 * (hc z R 0).a + 26 * (hc z R 0).b) = 52 * (hc z R 0).a + 26 * (hc z R 0).b from wrap_id (by omega), show IntKind.i64.wrap (45 * (hc z R 0).b) = 45 * (hc z R 0).b from wrap_id (by omega)]
      refine ⟨by kernel_rfl, by simp, by omega, ⟨1, by omega, .inr ⟨by omega, ?_, rfl⟩⟩, by decide⟩
      rw [show IntKind.i64.wrap (0 + 1) = ((1 : Nat) : Int) by decide]
    · simp only [push_cast, ↓reduceIte, reduceCtorEq, Nat.reduceBEq, Nat.reduceEqDiff, Nat.reduceAdd, Nat.reduceSub, Nat.reduceLT, Nat.reduceLeDiff, Nat.reduceMul]
      refine cnd_mk (fun h => ?_) (fun h => ?_)
      · have hi : i < 6 := by simp at h; omega
        simp only [vvB_a i hi, vvB_b i hi, vvB_len, push_cast, ↓reduceIte, reduceCtorEq, Nat.reduceBEq, Nat.reduceEqDiff, Nat.reduceAdd, Nat.reduceSub, Nat.reduceLT, Nat.reduceLeDiff, Nat.reduceMul]
        repeat refine And.intro (by first | decide | omega) ?_
        rw [(in3 h'.1 (vv_In i).1).1, (in3 h'.1 (vv_In i).1).2, (in3 h'.2 (vv_In i).2).1, (in3 h'.2 (vv_In i).2).2]
        refine dcall_as (as' := [Ei.v ⟨3 * z.a + (vv i).a, 3 * z.b + (vv i).b⟩, (betaN (12 - R)).v]) rfl ?_
        refine dcall_mk (rmul_t _ _ (h3 i) (hb.mono (by decide)) (by rw [hc_eq]; exact (hc_In i hz hk).mono (by decide))) rfl trivial ?_
        rw [hc_eq]
        have hw := hc_In i hz hk
        unfold Ei.In at hw
        simp only [Ei.v, Ei.rv, hidL_vvB, imL_vvB, push_cast, ↓reduceIte, reduceCtorEq, Nat.reduceBEq, Nat.reduceEqDiff, Nat.reduceAdd, Nat.reduceSub, Nat.reduceLT, Nat.reduceLeDiff, Nat.reduceMul]
        rw [show IntKind.i64.wrap (52 * (hc z R i).a) = 52 * (hc z R i).a from wrap_id (by omega), show IntKind.i64.wrap (26 * (hc z R i).b) = 26 * (hc z R i).b from wrap_id (by omega), show IntKind.i64.wrap (52 * (hc z R i).a + 26 * (hc z R i).b) = 52 * (hc z R i).a + 26 * (hc z R i).b from wrap_id (by omega), show IntKind.i64.wrap (45 * (hc z R i).b) = 45 * (hc z R i).b from wrap_id (by omega)]
        refine ⟨by kernel_rfl, by simp, by omega, ⟨i + 1, by omega, .inr ⟨by omega, ?_, ?_⟩⟩, ?_⟩
        · rw [show IntKind.i64.wrap ((i : Int) + 1) = ((i + 1 : Nat) : Int) by rw [wrap_id (by omega)]; omega]
        · rw [List.take_of_length_le (by rw [hexL_len]; exact Nat.le_refl _), ← hexL_succ]; rfl
        · rw [wrap_id (by omega)]; omega
      · have hi : i = 6 := by simp at h; omega
        subst hi
        simp only [push_cast, ↓reduceIte, reduceCtorEq, Nat.reduceBEq, Nat.reduceEqDiff, Nat.reduceAdd, Nat.reduceSub, Nat.reduceLT, Nat.reduceLeDiff, Nat.reduceMul]
set_option maxRecDepth 100000 in
theorem runit_t (k : Int) (hk : 0 ≤ k ∧ k < 6) : Triple Go.Proofs.Try.prog 29 [int .i64 k] [] ((uni k.toNat).v) [] := by
  refine apiaryref1_Unit_triple rfl (by decide) ?_
  have hm : (IntKind.i64.wrap (Int.tmod k 6 + 6)).tmod 6 = k := by
    rw [Int.tmod_eq_emod_of_nonneg hk.1, wrap_id (by omega), Int.tmod_eq_emod_of_nonneg (by omega)]; omega
  simp only [apiaryref1_Unit_pc, List.length_nil, hm, Ei.v, Ei.rv, push_cast, ↓reduceIte, reduceCtorEq, Nat.reduceBEq, Nat.reduceEqDiff, Nat.reduceAdd, Nat.reduceSub, Nat.reduceLT, Nat.reduceLeDiff, Nat.reduceMul]
  refine ⟨by decide, by decide, hk, by omega, ?_⟩
  rcases (show k = 0 ∨ k = 1 ∨ k = 2 ∨ k = 3 ∨ k = 4 ∨ k = 5 by omega) with rfl | rfl | rfl | rfl | rfl | rfl
  all_goals
    simp only [Int.reduceToNat, Nat.zero_mul, Nat.add_zero, Nat.zero_add, uni_0, uni_1, uni_2, uni_3, uni_4, uni_5, push_cast, ↓reduceIte, reduceCtorEq, Nat.reduceBEq, Nat.reduceEqDiff, Nat.reduceAdd, Nat.reduceSub, Nat.reduceLT, Nat.reduceLeDiff, Nat.reduceMul]
set_option maxRecDepth 100000 in
theorem rparent_t (z : Ei) (h : z.In 1073741824) : Triple Go.Proofs.Try.prog 48 [z.v] [] (.tup [(pr z).v, int .i64 (dg z)]) [] := by
  refine apiaryref1_parent_triple rfl (by decide) ?_
  simp only [apiaryref1_parent_pc, Ei.v, Ei.rv, List.length_nil, push_cast, ↓reduceIte, reduceCtorEq, Nat.reduceBEq, Nat.reduceEqDiff, Nat.reduceAdd, Nat.reduceSub, Nat.reduceLT, Nat.reduceLeDiff, Nat.reduceMul]
  have h1 : (z.mul ⟨3, -1⟩).In 9663676416 := (mul_In h (show (⟨3, -1⟩ : Ei).In 3 by unfold Ei.In; decide)).mono (by decide)
  have h2 : (pr z).In 1073741824 := pr_In h (by decide)
  have h3 : ((pr z).mul beta).In 6442450944 := (mul_In h2 (show beta.In 2 by unfold Ei.In; decide)).mono (by decide)
  have hl := lft_In z
  refine call_as (as' := [z.v, Ei.v ⟨3, -1⟩]) rfl ?_
  refine call_mk (rmul_t _ _ (h.mono (by decide)) (show (⟨3, -1⟩ : Ei).In _ by unfold Ei.In; decide) (h1.mono (by decide))) rfl trivial ?_
  simp only [Ei.v, Ei.rv, push_cast, ↓reduceIte, reduceCtorEq, Nat.reduceBEq, Nat.reduceEqDiff, Nat.reduceAdd, Nat.reduceSub, Nat.reduceLT, Nat.reduceLeDiff, Nat.reduceMul]
  refine call_as (as' := [(z.mul ⟨3, -1⟩).v, int .i64 7]) rfl ?_
  refine call_mk (rround_t _ 7 (h1.mono (by decide)) (by decide)) rfl trivial ?_
  rw [show (z.mul ⟨3, -1⟩).round 7 = pr z from rfl]
  simp only [Ei.v, Ei.rv, push_cast, ↓reduceIte, reduceCtorEq, Nat.reduceBEq, Nat.reduceEqDiff, Nat.reduceAdd, Nat.reduceSub, Nat.reduceLT, Nat.reduceLeDiff, Nat.reduceMul]
  refine call_as (as' := [(pr z).v, beta.v]) rfl ?_
  refine call_mk (rmul_t _ _ (h2.mono (by decide)) (show beta.In _ by unfold Ei.In; decide) (h3.mono (by decide))) rfl trivial ?_
  have e1 : z.a - ((pr z).mul beta).a = (lft z).a := rfl
  have e2 : z.b - ((pr z).mul beta).b = (lft z).b := rfl
  unfold Ei.In at hl
  rw [← e1, ← e2] at hl
  simp only [Ei.v, Ei.rv, push_cast, ↓reduceIte, reduceCtorEq, Nat.reduceBEq, Nat.reduceEqDiff, Nat.reduceAdd, Nat.reduceSub, Nat.reduceLT, Nat.reduceLeDiff, Nat.reduceMul]
  rw [show IntKind.i64.wrap (z.a - ((pr z).mul beta).a) = (lft z).a by rw [← e1]; exact wrap_id (by omega), show IntKind.i64.wrap (z.b - ((pr z).mul beta).b) = (lft z).b by rw [← e2]; exact wrap_id (by omega)]
  rw [show dg z = dgOf (lft z) from rfl]
  generalize lft z = l at *
  generalize pr z = q at *
  refine run_loop [(11, false), (10, false), (6, false), (2, false)] (fun vs pos los => ∃ i : Int, (0 ≤ i ∧ i ≤ 6) ∧ (∀ j : Nat, (j : Int) < i → uni j ≠ l) ∧ vs = [int .i64 i, .ptr 2000000 0 0, .ptr 2000001 0 0, .ptr 2000002 0 0] ∧ pos = [] ∧ los = [.box [int .i64 l.a, int .i64 l.b], .box [int .i64 q.a, int .i64 q.b], .box [int .i64 0, int .i64 0]])
    (fun vs _ _ => match vs with | .r (.v (.int _ j)) :: _ => (6 - j).toNat | _ => 0) rfl ?_ ?_
  · simp only [push_cast, ↓reduceIte, reduceCtorEq, Nat.reduceBEq, Nat.reduceEqDiff, Nat.reduceAdd, Nat.reduceSub, Nat.reduceLT, Nat.reduceLeDiff, Nat.reduceMul]
    exact ⟨0, by omega, fun j hj => by omega, rfl⟩
  · rintro vs pos los ⟨i, i6, hj, rfl, rfl, rfl⟩
    simp only [push_cast, ↓reduceIte, reduceCtorEq, Nat.reduceBEq, Nat.reduceEqDiff, Nat.reduceAdd, Nat.reduceSub, Nat.reduceLT, Nat.reduceLeDiff, Nat.reduceMul]
    refine cnd_mk (fun h => ?_) (fun h => ?_)
    · simp only [decide_eq_true_eq] at h
      simp only [push_cast, ↓reduceIte, reduceCtorEq, Nat.reduceBEq, Nat.reduceEqDiff, Nat.reduceAdd, Nat.reduceSub, Nat.reduceLT, Nat.reduceLeDiff, Nat.reduceMul]
      refine dcall_mk (runit_t i ⟨i6.1, h⟩) rfl trivial ?_
      simp only [Ei.v, Ei.rv, push_cast, ↓reduceIte, reduceCtorEq, Nat.reduceBEq, Nat.reduceEqDiff, Nat.reduceAdd, Nat.reduceSub, Nat.reduceLT, Nat.reduceLeDiff, Nat.reduceMul]
      refine ⟨by kernel_rfl, cnd_mk (fun h' => ?_) (fun h' => ?_)⟩
      · have e : uni i.toNat = l := by
          simp only [Bool.and_eq_true, beq_iff_eq] at h'
          exact Ei.ext' h'.1 h'.2
        simp only [push_cast, ↓reduceIte, reduceCtorEq, Nat.reduceBEq, Nat.reduceEqDiff, Nat.reduceAdd, Nat.reduceSub, Nat.reduceLT, Nat.reduceLeDiff, Nat.reduceMul]
        rw [← e, dgOf_uni _ (by omega), wrap_id (by omega), show ((i.toNat + 1 : Nat) : Int) = i + 1 by omega]
      · have e : uni i.toNat ≠ l := fun e => by rw [e] at h'; simp at h'
        simp only [push_cast, ↓reduceIte, reduceCtorEq, Nat.reduceBEq, Nat.reduceEqDiff, Nat.reduceAdd, Nat.reduceSub, Nat.reduceLT, Nat.reduceLeDiff, Nat.reduceMul]
        rw [wrap_id (by omega)]
        refine ⟨⟨i + 1, by omega, fun j hj' => ?_, rfl⟩, by omega⟩
        by_cases hji : (j : Int) = i
        · rw [show j = i.toNat by omega]; exact e
        · exact hj j (by omega)
    · have hi : i = 6 := by simp at h; omega
      subst hi
      simp only [push_cast, ↓reduceIte, reduceCtorEq, Nat.reduceBEq, Nat.reduceEqDiff, Nat.reduceAdd, Nat.reduceSub, Nat.reduceLT, Nat.reduceLeDiff, Nat.reduceMul]
      rw [dgOf_no l fun j h6 => hj j (by omega)]
      rfl
set_option maxRecDepth 100000 in
theorem rokc_t (r : Int) (z : Ei) (h0 : 0 ≤ r) (h : okc r.toNat z) : Triple Go.Proofs.Try.prog 47 [cel r z] [] (bl true) [] := by
  refine apiaryref1_Ok_triple rfl (by decide) ?_
  obtain ⟨r12, hz, ha, hb⟩ := h
  have hz' := hz
  unfold Ei.In at hz'
  have c1 : decide (r < 0) = false := by simp; omega
  have c2 : decide (r > 12) = false := by simp; omega
  have c3 : decide (z.a < -1073741824) = false := by simp; omega
  have c4 : decide (z.a > 1073741824) = false := by simp; omega
  have c5 : decide (z.b < -1073741824) = false := by simp; omega
  have c6 : decide (z.b > 1073741824) = false := by simp; omega
  simp only [apiaryref1_Ok_pc, cel, List.length_nil, c1, c2, c3, c4, c5, c6, push_cast, ↓reduceIte, reduceCtorEq, Nat.reduceBEq, Nat.reduceEqDiff, Nat.reduceAdd, Nat.reduceSub, Nat.reduceLT, Nat.reduceLeDiff, Nat.reduceMul]
  refine run_loop [(4, false), (1, false), (3, false)] (fun vs pos los => ∃ i : Int, (0 ≤ i ∧ i ≤ r) ∧ vs = [int .i64 i, .ptr 2000000 0 0, .ptr 2000001 0 0] ∧ pos = [] ∧ los = [.box [int .i64 r, int .i64 z.a, int .i64 z.b], .box [int .i64 (anc i.toNat z).a, int .i64 (anc i.toNat z).b]])
    (fun vs _ _ => match vs with | .r (.v (.int _ j)) :: _ => (r - j).toNat | _ => 0) rfl ?_ ?_
  · simp only [push_cast, ↓reduceIte, reduceCtorEq, Nat.reduceBEq, Nat.reduceEqDiff, Nat.reduceAdd, Nat.reduceSub, Nat.reduceLT, Nat.reduceLeDiff, Nat.reduceMul]
    exact ⟨0, by omega, rfl, rfl⟩
  · rintro vs pos los ⟨i, i6, rfl, rfl, rfl⟩
    simp only [push_cast, ↓reduceIte, reduceCtorEq, Nat.reduceBEq, Nat.reduceEqDiff, Nat.reduceAdd, Nat.reduceSub, Nat.reduceLT, Nat.reduceLeDiff, Nat.reduceMul]
    refine cnd_mk (fun h => ?_) (fun h => ?_)
    · simp only [decide_eq_true_eq] at h
      simp only [push_cast, ↓reduceIte, reduceCtorEq, Nat.reduceBEq, Nat.reduceEqDiff, Nat.reduceAdd, Nat.reduceSub, Nat.reduceLT, Nat.reduceLeDiff, Nat.reduceMul]
      have hp := anc_In i.toNat hz (by decide)
      refine call_as (as' := [(anc i.toNat z).v]) rfl ?_
      refine call_mk (rparent_t _ hp) rfl trivial ?_
      simp only [Ei.v, Ei.rv, push_cast, ↓reduceIte, reduceCtorEq, Nat.reduceBEq, Nat.reduceEqDiff, Nat.reduceAdd, Nat.reduceSub, Nat.reduceLT, Nat.reduceLeDiff, Nat.reduceMul]
      rw [show IntKind.i64.wrap (i + 1) = i + 1 from wrap_id (by omega)]
      refine ⟨⟨i + 1, by omega, rfl, ?_⟩, by omega⟩
      rw [show (i + 1).toNat = i.toNat + 1 by omega, anc_succ]
    · have hi : i = r := by simp at h; omega
      subst hi
      simp only [ge_iff_le, ha.1, ha.2, hb.1, hb.2, decide_true, push_cast, ↓reduceIte, reduceCtorEq, Nat.reduceBEq, Nat.reduceEqDiff, Nat.reduceAdd, Nat.reduceSub, Nat.reduceLT, Nat.reduceLeDiff, Nat.reduceMul]
end Go.Ev
