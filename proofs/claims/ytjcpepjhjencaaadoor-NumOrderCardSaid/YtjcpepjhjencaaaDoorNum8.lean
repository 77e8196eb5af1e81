import Derived.Test.YtjcpepjhjencaaaDoorNum7
namespace Go.Ev
open Go
set_option linter.unnecessarySimpa false
set_option linter.unusedSimpArgs false
set_option linter.unusedVariables false
noncomputable def apiarylaw1_NumOrder_pc : PC :=
  (.seq (.reg [⟨(some 4), none, 0, .see (.mov (.c (.r (.v (.bool false)))))⟩])
  (.seq (.reg [⟨(some 20), none, 0, .see (.mov (.t 0))⟩,
    ⟨(some 21), none, 0, .see (.mov (.t 1))⟩,
    ⟨(some 22), none, 1, .call 10 [(.t 20), (.t 21)]⟩,
    ⟨(some 19), none, 0, .see (.mov (.t 22))⟩,
    ⟨(some 23), none, 0, .see (.ext (.t 19) 0)⟩,
    ⟨(some 24), none, 0, .see (.ext (.t 19) 1)⟩,
    ⟨(some 5), none, 0, .see (.mov (.t 23))⟩,
    ⟨(some 6), none, 0, .see (.mov (.t 24))⟩])
  (.seq (.reg [⟨(some 26), none, 0, .see (.mov (.t 1))⟩,
    ⟨(some 27), none, 0, .see (.mov (.t 0))⟩,
    ⟨(some 28), none, 2, .call 10 [(.t 26), (.t 27)]⟩,
    ⟨(some 25), none, 0, .see (.mov (.t 28))⟩,
    ⟨(some 29), none, 0, .see (.ext (.t 25) 0)⟩,
    ⟨(some 30), none, 0, .see (.ext (.t 25) 1)⟩,
    ⟨(some 7), none, 0, .see (.mov (.t 29))⟩,
    ⟨(some 8), none, 0, .see (.mov (.t 30))⟩])
  (.seq (.reg [⟨(some 32), none, 0, .see (.mov (.t 0))⟩,
    ⟨(some 33), none, 0, .see (.mov (.t 1))⟩,
    ⟨(some 34), none, 3, .call 11 [(.t 32), (.t 33)]⟩,
    ⟨(some 31), none, 0, .see (.mov (.t 34))⟩,
    ⟨(some 35), none, 0, .see (.ext (.t 31) 0)⟩,
    ⟨(some 36), none, 0, .see (.ext (.t 31) 1)⟩,
    ⟨(some 9), none, 0, .see (.mov (.t 35))⟩,
    ⟨(some 10), none, 0, .see (.mov (.t 36))⟩])
  (.seq (.reg [⟨(some 38), none, 0, .see (.mov (.t 1))⟩,
    ⟨(some 39), none, 0, .see (.mov (.t 0))⟩,
    ⟨(some 40), none, 4, .call 11 [(.t 38), (.t 39)]⟩,
    ⟨(some 37), none, 0, .see (.mov (.t 40))⟩,
    ⟨(some 41), none, 0, .see (.ext (.t 37) 0)⟩,
    ⟨(some 42), none, 0, .see (.ext (.t 37) 1)⟩,
    ⟨(some 11), none, 0, .see (.mov (.t 41))⟩,
    ⟨(some 12), none, 0, .see (.mov (.t 42))⟩])
  (.seq (.reg [⟨(some 44), none, 0, .see (.mov (.t 1))⟩,
    ⟨(some 45), none, 5, .call 12 [(.t 44)]⟩,
    ⟨(some 43), none, 0, .see (.mov (.t 45))⟩,
    ⟨(some 46), none, 0, .see (.ext (.t 43) 0)⟩,
    ⟨(some 47), none, 0, .see (.ext (.t 43) 1)⟩,
    ⟨(some 13), none, 0, .see (.mov (.t 46))⟩,
    ⟨(some 14), none, 0, .see (.mov (.t 47))⟩])
  (.seq (.reg [⟨(some 49), none, 0, .see (.mov (.t 0))⟩,
    ⟨(some 50), none, 0, .see (.mov (.t 1))⟩,
    ⟨(some 51), none, 6, .call 13 [(.t 49), (.t 50)]⟩,
    ⟨(some 48), none, 0, .see (.mov (.t 51))⟩,
    ⟨(some 52), none, 0, .see (.ext (.t 48) 0)⟩,
    ⟨(some 53), none, 0, .see (.ext (.t 48) 1)⟩,
    ⟨(some 15), none, 0, .see (.mov (.t 52))⟩,
    ⟨(some 16), none, 0, .see (.mov (.t 53))⟩])
  (.seq (.seq (.reg [⟨(some 54), none, 0, .see (.mov (.t 14))⟩])
  (.cond (.t 54)
    (.seq (.reg [⟨(some 56), none, 0, .see (.mov (.t 0))⟩,
    ⟨(some 57), none, 0, .see (.mov (.t 13))⟩,
    ⟨(some 58), none, 7, .call 10 [(.t 56), (.t 57)]⟩,
    ⟨(some 55), none, 0, .see (.mov (.t 58))⟩,
    ⟨(some 59), none, 0, .see (.ext (.t 55) 0)⟩,
    ⟨(some 60), none, 0, .see (.ext (.t 55) 1)⟩,
    ⟨(some 17), none, 0, .see (.mov (.t 59))⟩,
    ⟨(some 18), none, 0, .see (.mov (.t 60))⟩])
    (.seq (.reg [⟨(some 61), none, 0, .see (.mov (.t 17))⟩,
    ⟨(some 62), none, 0, .see (.mov (.t 15))⟩,
    ⟨(some 63), none, 0, .see (.bin .neq (.t 61) (.t 62))⟩,
    ⟨(some 64), none, 0, .see (.mov (.t 63))⟩,
    ⟨(some 65), (some (64, false)), 0, .see (.mov (.t 18))⟩,
    ⟨(some 66), (some (64, false)), 0, .see (.mov (.t 16))⟩,
    ⟨(some 67), (some (64, false)), 0, .see (.beq true (.t 65) (.t 66))⟩,
    ⟨(some 68), none, 0, .see (.pick (.t 64) (.c (.r (.v (.bool true)))) (.t 67))⟩])
    (.cond (.t 68)
      (.seq (.reg [⟨(some 4), none, 0, .see (.mov (.c (.r (.v (.bool false)))))⟩])
      .ret)
      .skip)))
    .skip))
  (.seq (.reg [⟨(some 69), none, 0, .see (.mov (.t 5))⟩,
    ⟨(some 70), none, 0, .see (.mov (.t 7))⟩,
    ⟨(some 71), none, 0, .see (.bin .eql (.t 69) (.t 70))⟩,
    ⟨(some 72), none, 0, .see (.mov (.t 71))⟩,
    ⟨(some 73), (some (72, true)), 0, .see (.mov (.t 6))⟩,
    ⟨(some 74), (some (72, true)), 0, .see (.mov (.t 8))⟩,
    ⟨(some 75), (some (72, true)), 0, .see (.beq false (.t 73) (.t 74))⟩,
    ⟨(some 76), none, 0, .see (.pick (.t 72) (.t 75) (.c (.r (.v (.bool false)))))⟩,
    ⟨(some 77), none, 0, .see (.mov (.t 76))⟩,
    ⟨(some 78), (some (77, true)), 0, .see (.mov (.t 9))⟩,
    ⟨(some 79), (some (77, true)), 0, .see (.mov (.t 11))⟩,
    ⟨(some 80), (some (77, true)), 0, .see (.bin .eql (.t 78) (.t 79))⟩,
    ⟨(some 81), none, 0, .see (.pick (.t 77) (.t 80) (.c (.r (.v (.bool false)))))⟩,
    ⟨(some 82), none, 0, .see (.mov (.t 81))⟩,
    ⟨(some 83), (some (82, true)), 0, .see (.mov (.t 10))⟩,
    ⟨(some 84), (some (82, true)), 0, .see (.mov (.t 12))⟩,
    ⟨(some 85), (some (82, true)), 0, .see (.beq false (.t 83) (.t 84))⟩,
    ⟨(some 86), none, 0, .see (.pick (.t 82) (.t 85) (.c (.r (.v (.bool false)))))⟩,
    ⟨(some 87), none, 0, .see (.mov (.t 86))⟩,
    ⟨(some 88), (some (87, true)), 8, .call 14 []⟩,
    ⟨(some 89), none, 0, .see (.pick (.t 87) (.t 88) (.c (.r (.v (.bool false)))))⟩,
    ⟨(some 4), none, 0, .see (.mov (.t 89))⟩])
  .ret)))))))))
noncomputable abbrev apiarylaw1_NumOrder_code : Code := (Go.Proofs.Tryd.f3.body).getD .skip
theorem apiarylaw1_NumOrder_chk : chkC Go.Proofs.Tryd.prog 90 apiarylaw1_NumOrder_code apiarylaw1_NumOrder_pc = true := by kernel_rfl
theorem apiarylaw1_NumOrder_triple {args : List AV} {po ro : List Ob} {res : AV} (hal : args.length = 2) (hpo : po.length ≤ 1000)
    (h : run Go.Proofs.Tryd.prog po.length (RetP po.length [(4, false, none)] fun v os => v = res ∧ os = ro) [.c apiarylaw1_NumOrder_pc] ⟨argE 0 args, ob0 po⟩) : Triple Go.Proofs.Tryd.prog 3 args po res ro :=
  triple_of_W (fn := Go.Proofs.Tryd.f3) (c := apiarylaw1_NumOrder_code) (pc := apiarylaw1_NumOrder_pc) (rs := [(4, false, none)]) Go.Proofs.Tryd.func3 rfl (by decide) (by have := apiarylaw1_NumOrder_chk; exact this) (by rw [hal]; decide) rfl (by kernel_rfl) (by kernel_rfl) (by decide) hpo (W_of_run h)

noncomputable def apiarylaw1_NumReckons_pc : PC :=
  (.seq (.reg [⟨(some 4), none, 0, .see (.mov (.c (.r (.v (.bool false)))))⟩])
  (.seq (.reg [⟨(some 22), none, 0, .see (.mov (.t 0))⟩,
    ⟨(some 23), none, 0, .see (.mov (.t 1))⟩,
    ⟨(some 24), none, 1, .call 10 [(.t 22), (.t 23)]⟩,
    ⟨(some 21), none, 0, .see (.mov (.t 24))⟩,
    ⟨(some 25), none, 0, .see (.ext (.t 21) 0)⟩,
    ⟨(some 26), none, 0, .see (.ext (.t 21) 1)⟩,
    ⟨(some 5), none, 0, .see (.mov (.t 25))⟩,
    ⟨(some 6), none, 0, .see (.mov (.t 26))⟩])
  (.seq (.reg [⟨(some 28), none, 0, .see (.mov (.t 0))⟩,
    ⟨(some 29), none, 0, .see (.mov (.t 1))⟩,
    ⟨(some 30), none, 2, .call 13 [(.t 28), (.t 29)]⟩,
    ⟨(some 27), none, 0, .see (.mov (.t 30))⟩,
    ⟨(some 31), none, 0, .see (.ext (.t 27) 0)⟩,
    ⟨(some 32), none, 0, .see (.ext (.t 27) 1)⟩,
    ⟨(some 7), none, 0, .see (.mov (.t 31))⟩,
    ⟨(some 8), none, 0, .see (.mov (.t 32))⟩])
  (.seq (.reg [⟨(some 34), none, 0, .see (.mov (.t 0))⟩,
    ⟨(some 35), none, 0, .see (.mov (.t 1))⟩,
    ⟨(some 36), none, 3, .call 11 [(.t 34), (.t 35)]⟩,
    ⟨(some 33), none, 0, .see (.mov (.t 36))⟩,
    ⟨(some 37), none, 0, .see (.ext (.t 33) 0)⟩,
    ⟨(some 38), none, 0, .see (.ext (.t 33) 1)⟩,
    ⟨(some 9), none, 0, .see (.mov (.t 37))⟩,
    ⟨(some 10), none, 0, .see (.mov (.t 38))⟩])
  (.seq (.reg [⟨(some 40), none, 0, .see (.mov (.t 0))⟩,
    ⟨(some 41), none, 4, .call 12 [(.t 40)]⟩,
    ⟨(some 39), none, 0, .see (.mov (.t 41))⟩,
    ⟨(some 42), none, 0, .see (.ext (.t 39) 0)⟩,
    ⟨(some 43), none, 0, .see (.ext (.t 39) 1)⟩,
    ⟨(some 11), none, 0, .see (.mov (.t 42))⟩,
    ⟨(some 12), none, 0, .see (.mov (.t 43))⟩])
  (.seq (.reg [⟨(some 45), none, 0, .see (.mov (.t 0))⟩,
    ⟨(some 46), none, 5, .call 16 [(.t 45)]⟩,
    ⟨(some 47), none, 0, .see (.mov (.t 1))⟩,
    ⟨(some 48), none, 6, .call 16 [(.t 47)]⟩,
    ⟨(some 49), none, 7, .call 17 [(.t 46), (.t 48)]⟩,
    ⟨(some 50), none, 8, .call 18 [(.t 49)]⟩,
    ⟨(some 44), none, 0, .see (.mov (.t 50))⟩,
    ⟨(some 51), none, 0, .see (.ext (.t 44) 0)⟩,
    ⟨(some 52), none, 0, .see (.ext (.t 44) 1)⟩,
    ⟨(some 13), none, 0, .see (.mov (.t 51))⟩,
    ⟨(some 14), none, 0, .see (.mov (.t 52))⟩])
  (.seq (.reg [⟨(some 54), none, 0, .see (.mov (.t 0))⟩,
    ⟨(some 55), none, 9, .call 16 [(.t 54)]⟩,
    ⟨(some 56), none, 0, .see (.mov (.t 1))⟩,
    ⟨(some 57), none, 10, .call 16 [(.t 56)]⟩,
    ⟨(some 58), none, 11, .call 19 [(.t 57)]⟩,
    ⟨(some 59), none, 12, .call 17 [(.t 55), (.t 58)]⟩,
    ⟨(some 60), none, 13, .call 18 [(.t 59)]⟩,
    ⟨(some 53), none, 0, .see (.mov (.t 60))⟩,
    ⟨(some 61), none, 0, .see (.ext (.t 53) 0)⟩,
    ⟨(some 62), none, 0, .see (.ext (.t 53) 1)⟩,
    ⟨(some 15), none, 0, .see (.mov (.t 61))⟩,
    ⟨(some 16), none, 0, .see (.mov (.t 62))⟩])
  (.seq (.reg [⟨(some 64), none, 0, .see (.mov (.t 0))⟩,
    ⟨(some 65), none, 0, .see (.mov (.t 1))⟩,
    ⟨(some 66), none, 14, .call 20 [(.t 64), (.t 65)]⟩,
    ⟨(some 67), none, 15, .call 18 [(.t 66)]⟩,
    ⟨(some 63), none, 0, .see (.mov (.t 67))⟩,
    ⟨(some 68), none, 0, .see (.ext (.t 63) 0)⟩,
    ⟨(some 69), none, 0, .see (.ext (.t 63) 1)⟩,
    ⟨(some 17), none, 0, .see (.mov (.t 68))⟩,
    ⟨(some 18), none, 0, .see (.mov (.t 69))⟩])
  (.seq (.reg [⟨(some 71), none, 0, .see (.mov (.t 0))⟩,
    ⟨(some 72), none, 16, .call 16 [(.t 71)]⟩,
    ⟨(some 73), none, 17, .call 19 [(.t 72)]⟩,
    ⟨(some 74), none, 18, .call 18 [(.t 73)]⟩,
    ⟨(some 70), none, 0, .see (.mov (.t 74))⟩,
    ⟨(some 75), none, 0, .see (.ext (.t 70) 0)⟩,
    ⟨(some 76), none, 0, .see (.ext (.t 70) 1)⟩,
    ⟨(some 19), none, 0, .see (.mov (.t 75))⟩,
    ⟨(some 20), none, 0, .see (.mov (.t 76))⟩])
  (.seq (.reg [⟨(some 77), none, 0, .see (.mov (.t 5))⟩,
    ⟨(some 78), none, 0, .see (.mov (.t 13))⟩,
    ⟨(some 79), none, 0, .see (.bin .eql (.t 77) (.t 78))⟩,
    ⟨(some 80), none, 0, .see (.mov (.t 79))⟩,
    ⟨(some 81), (some (80, true)), 0, .see (.mov (.t 6))⟩,
    ⟨(some 82), (some (80, true)), 0, .see (.mov (.t 14))⟩,
    ⟨(some 83), (some (80, true)), 0, .see (.beq false (.t 81) (.t 82))⟩,
    ⟨(some 84), none, 0, .see (.pick (.t 80) (.t 83) (.c (.r (.v (.bool false)))))⟩,
    ⟨(some 85), none, 0, .see (.mov (.t 84))⟩,
    ⟨(some 86), (some (85, true)), 0, .see (.mov (.t 7))⟩,
    ⟨(some 87), (some (85, true)), 0, .see (.mov (.t 15))⟩,
    ⟨(some 88), (some (85, true)), 0, .see (.bin .eql (.t 86) (.t 87))⟩,
    ⟨(some 89), none, 0, .see (.pick (.t 85) (.t 88) (.c (.r (.v (.bool false)))))⟩,
    ⟨(some 90), none, 0, .see (.mov (.t 89))⟩,
    ⟨(some 91), (some (90, true)), 0, .see (.mov (.t 8))⟩,
    ⟨(some 92), (some (90, true)), 0, .see (.mov (.t 16))⟩,
    ⟨(some 93), (some (90, true)), 0, .see (.beq false (.t 91) (.t 92))⟩,
    ⟨(some 94), none, 0, .see (.pick (.t 90) (.t 93) (.c (.r (.v (.bool false)))))⟩,
    ⟨(some 95), none, 0, .see (.mov (.t 94))⟩,
    ⟨(some 96), (some (95, true)), 0, .see (.mov (.t 9))⟩,
    ⟨(some 97), (some (95, true)), 0, .see (.mov (.t 17))⟩,
    ⟨(some 98), (some (95, true)), 0, .see (.bin .eql (.t 96) (.t 97))⟩,
    ⟨(some 99), none, 0, .see (.pick (.t 95) (.t 98) (.c (.r (.v (.bool false)))))⟩,
    ⟨(some 100), none, 0, .see (.mov (.t 99))⟩,
    ⟨(some 101), (some (100, true)), 0, .see (.mov (.t 10))⟩,
    ⟨(some 102), (some (100, true)), 0, .see (.mov (.t 18))⟩,
    ⟨(some 103), (some (100, true)), 0, .see (.beq false (.t 101) (.t 102))⟩,
    ⟨(some 104), none, 0, .see (.pick (.t 100) (.t 103) (.c (.r (.v (.bool false)))))⟩,
    ⟨(some 105), none, 0, .see (.mov (.t 104))⟩,
    ⟨(some 106), (some (105, true)), 0, .see (.mov (.t 11))⟩,
    ⟨(some 107), (some (105, true)), 0, .see (.mov (.t 19))⟩,
    ⟨(some 108), (some (105, true)), 0, .see (.bin .eql (.t 106) (.t 107))⟩,
    ⟨(some 109), none, 0, .see (.pick (.t 105) (.t 108) (.c (.r (.v (.bool false)))))⟩,
    ⟨(some 110), none, 0, .see (.mov (.t 109))⟩,
    ⟨(some 111), (some (110, true)), 0, .see (.mov (.t 12))⟩,
    ⟨(some 112), (some (110, true)), 0, .see (.mov (.t 20))⟩,
    ⟨(some 113), (some (110, true)), 0, .see (.beq false (.t 111) (.t 112))⟩,
    ⟨(some 114), none, 0, .see (.pick (.t 110) (.t 113) (.c (.r (.v (.bool false)))))⟩,
    ⟨(some 115), none, 0, .see (.mov (.t 114))⟩,
    ⟨(some 116), (some (115, true)), 19, .call 14 []⟩,
    ⟨(some 117), none, 0, .see (.pick (.t 115) (.t 116) (.c (.r (.v (.bool false)))))⟩,
    ⟨(some 4), none, 0, .see (.mov (.t 117))⟩])
  .ret))))))))))
noncomputable abbrev apiarylaw1_NumReckons_code : Code := (Go.Proofs.Tryd.f5.body).getD .skip
theorem apiarylaw1_NumReckons_chk : chkC Go.Proofs.Tryd.prog 118 apiarylaw1_NumReckons_code apiarylaw1_NumReckons_pc = true := by kernel_rfl
theorem apiarylaw1_NumReckons_triple {args : List AV} {po ro : List Ob} {res : AV} (hal : args.length = 2) (hpo : po.length ≤ 1000)
    (h : run Go.Proofs.Tryd.prog po.length (RetP po.length [(4, false, none)] fun v os => v = res ∧ os = ro) [.c apiarylaw1_NumReckons_pc] ⟨argE 0 args, ob0 po⟩) : Triple Go.Proofs.Tryd.prog 5 args po res ro :=
  triple_of_W (fn := Go.Proofs.Tryd.f5) (c := apiarylaw1_NumReckons_code) (pc := apiarylaw1_NumReckons_pc) (rs := [(4, false, none)]) Go.Proofs.Tryd.func5 rfl (by decide) (by have := apiarylaw1_NumReckons_chk; exact this) (by rw [hal]; decide) rfl (by kernel_rfl) (by kernel_rfl) (by decide) hpo (W_of_run h)

theorem sm_v (x : Int) : sm x = .tup [int .i64 (if in64 x then x else 0), bl (decide (in64 x))] := rfl
def vl (x : Int) : Int := if in64 x then x else 0
def okl (x : Int) : Bool := decide (in64 x)
theorem sm_vl (x : Int) : sm x = .tup [int .i64 (vl x), bl (okl x)] := rfl
theorem vl_in (x : Int) : in64 (vl x) := by unfold vl; split; assumption; decide
theorem vl_yes {x : Int} (h : okl x = true) : vl x = x := if_pos (of_decide_eq_true h)
theorem vl_no {x : Int} (h : okl x = false) : vl x = 0 := if_neg (of_decide_eq_false h)
theorem okl_yes {x : Int} (h : in64 x) : okl x = true := decide_eq_true h
theorem okl_no {x : Int} (h : ¬ in64 x) : okl x = false := decide_eq_false h
theorem okl_in {x : Int} (h : okl x = true) : in64 x := of_decide_eq_true h
set_option maxRecDepth 100000 in
theorem numOrder_t (a b : Int) (ha : in64 a) (hb : in64 b) : Triple Go.Proofs.Tryd.prog 3 [int .i64 a, int .i64 b] [] (bl true) [] := by
  refine apiarylaw1_NumOrder_triple rfl (by decide) ?_
  simp only [apiarylaw1_NumOrder_pc, List.length_nil, push_cast, ↓reduceIte, reduceCtorEq, Nat.reduceBEq, Nat.reduceEqDiff, Nat.reduceAdd, Nat.reduceSub, Nat.reduceLT, Nat.reduceLeDiff, Nat.reduceMul]
  refine call_mk (add_t a b ha hb) rfl trivial ?_
  simp only [sm_vl, push_cast, ↓reduceIte, reduceCtorEq, Nat.reduceBEq, Nat.reduceEqDiff, Nat.reduceAdd, Nat.reduceSub, Nat.reduceLT, Nat.reduceLeDiff, Nat.reduceMul]
  refine call_mk (add_t b a hb ha) rfl trivial ?_
  simp only [sm_vl, push_cast, ↓reduceIte, reduceCtorEq, Nat.reduceBEq, Nat.reduceEqDiff, Nat.reduceAdd, Nat.reduceSub, Nat.reduceLT, Nat.reduceLeDiff, Nat.reduceMul]
  refine call_mk (mul_t a b ha hb) rfl trivial ?_
  simp only [sm_vl, push_cast, ↓reduceIte, reduceCtorEq, Nat.reduceBEq, Nat.reduceEqDiff, Nat.reduceAdd, Nat.reduceSub, Nat.reduceLT, Nat.reduceLeDiff, Nat.reduceMul]
  refine call_mk (mul_t b a hb ha) rfl trivial ?_
  simp only [sm_vl, push_cast, ↓reduceIte, reduceCtorEq, Nat.reduceBEq, Nat.reduceEqDiff, Nat.reduceAdd, Nat.reduceSub, Nat.reduceLT, Nat.reduceLeDiff, Nat.reduceMul]
  refine call_mk (neg_t b hb) rfl trivial ?_
  simp only [sm_vl, push_cast, ↓reduceIte, reduceCtorEq, Nat.reduceBEq, Nat.reduceEqDiff, Nat.reduceAdd, Nat.reduceSub, Nat.reduceLT, Nat.reduceLeDiff, Nat.reduceMul]
  refine call_mk (sub_t a b ha hb) rfl trivial ?_
  simp only [sm_vl, push_cast, ↓reduceIte, reduceCtorEq, Nat.reduceBEq, Nat.reduceEqDiff, Nat.reduceAdd, Nat.reduceSub, Nat.reduceLT, Nat.reduceLeDiff, Nat.reduceMul]
  rw [Int.add_comm b a, Int.mul_comm b a]
  have key : ∀ x : Int, (x == x) = true := fun x => beq_self_eq_true x
  cases hn : okl (-b) with
  | true =>
    have hv : vl (-b) = -b := vl_yes hn
    simp only [hv, push_cast, ↓reduceIte, reduceCtorEq, Nat.reduceBEq, Nat.reduceEqDiff, Nat.reduceAdd, Nat.reduceSub, Nat.reduceLT, Nat.reduceLeDiff, Nat.reduceMul]
    refine call_mk (add_t a (-b) ha (okl_in hn)) rfl trivial ?_
    simp only [sm_vl, ← Int.sub_eq_add_neg, bne_self_eq_false, push_cast, ↓reduceIte, reduceCtorEq, Nat.reduceBEq, Nat.reduceEqDiff, Nat.reduceAdd, Nat.reduceSub, Nat.reduceLT, Nat.reduceLeDiff, Nat.reduceMul]
    refine call_mk awake1_t rfl trivial ?_
    simp only [push_cast, ↓reduceIte, reduceCtorEq, Nat.reduceBEq, Nat.reduceEqDiff, Nat.reduceAdd, Nat.reduceSub, Nat.reduceLT, Nat.reduceLeDiff, Nat.reduceMul]
  | false =>
    simp only [push_cast, ↓reduceIte, reduceCtorEq, Nat.reduceBEq, Nat.reduceEqDiff, Nat.reduceAdd, Nat.reduceSub, Nat.reduceLT, Nat.reduceLeDiff, Nat.reduceMul]
    refine call_mk awake1_t rfl trivial ?_
    simp only [push_cast, ↓reduceIte, reduceCtorEq, Nat.reduceBEq, Nat.reduceEqDiff, Nat.reduceAdd, Nat.reduceSub, Nat.reduceLT, Nat.reduceLeDiff, Nat.reduceMul]
set_option maxRecDepth 100000 in
theorem numReckons_t (a b : Int) (ha : in64 a) (hb : in64 b) : Triple Go.Proofs.Tryd.prog 5 [int .i64 a, int .i64 b] [] (bl true) [] := by
  refine apiarylaw1_NumReckons_triple rfl (by decide) ?_
  simp only [apiarylaw1_NumReckons_pc, List.length_nil, push_cast, ↓reduceIte, reduceCtorEq, Nat.reduceBEq, Nat.reduceEqDiff, Nat.reduceAdd, Nat.reduceSub, Nat.reduceLT, Nat.reduceLeDiff, Nat.reduceMul]
  refine call_mk (add_t a b ha hb) rfl trivial ?_
  simp only [sm_vl, push_cast, ↓reduceIte, reduceCtorEq, Nat.reduceBEq, Nat.reduceEqDiff, Nat.reduceAdd, Nat.reduceSub, Nat.reduceLT, Nat.reduceLeDiff, Nat.reduceMul]
  refine call_mk (sub_t a b ha hb) rfl trivial ?_
  simp only [sm_vl, push_cast, ↓reduceIte, reduceCtorEq, Nat.reduceBEq, Nat.reduceEqDiff, Nat.reduceAdd, Nat.reduceSub, Nat.reduceLT, Nat.reduceLeDiff, Nat.reduceMul]
  refine call_mk (mul_t a b ha hb) rfl trivial ?_
  simp only [sm_vl, push_cast, ↓reduceIte, reduceCtorEq, Nat.reduceBEq, Nat.reduceEqDiff, Nat.reduceAdd, Nat.reduceSub, Nat.reduceLT, Nat.reduceLeDiff, Nat.reduceMul]
  refine call_mk (neg_t a ha) rfl trivial ?_
  simp only [sm_vl, push_cast, ↓reduceIte, reduceCtorEq, Nat.reduceBEq, Nat.reduceEqDiff, Nat.reduceAdd, Nat.reduceSub, Nat.reduceLT, Nat.reduceLeDiff, Nat.reduceMul]
  have ia : -170141183460469231731687303715884105728 ≤ a ∧ a < 170141183460469231731687303715884105728 := by unfold in64 at ha; omega
  refine call_mk (w_t a ha) rfl trivial ?_
  simp only [wide, push_cast, ↓reduceIte, reduceCtorEq, Nat.reduceBEq, Nat.reduceEqDiff, Nat.reduceAdd, Nat.reduceSub, Nat.reduceLT, Nat.reduceLeDiff, Nat.reduceMul]
  refine call_mk (w_t b hb) rfl trivial ?_
  simp only [wide, push_cast, ↓reduceIte, reduceCtorEq, Nat.reduceBEq, Nat.reduceEqDiff, Nat.reduceAdd, Nat.reduceSub, Nat.reduceLT, Nat.reduceLeDiff, Nat.reduceMul]
  refine call_as (as' := [wide a, wide b]) rfl ?_
  refine call_mk (plus_t a b) rfl trivial ?_
  simp only [wide, push_cast, ↓reduceIte, reduceCtorEq, Nat.reduceBEq, Nat.reduceEqDiff, Nat.reduceAdd, Nat.reduceSub, Nat.reduceLT, Nat.reduceLeDiff, Nat.reduceMul]
  refine call_as (as' := [wide (a + b)]) rfl ?_
  refine call_mk (small_t (a + b) (by unfold in64 at ha hb; omega)) rfl trivial ?_
  simp only [sm_vl, push_cast, ↓reduceIte, reduceCtorEq, Nat.reduceBEq, Nat.reduceEqDiff, Nat.reduceAdd, Nat.reduceSub, Nat.reduceLT, Nat.reduceLeDiff, Nat.reduceMul]
  refine call_mk (w_t a ha) rfl trivial ?_
  simp only [wide, push_cast, ↓reduceIte, reduceCtorEq, Nat.reduceBEq, Nat.reduceEqDiff, Nat.reduceAdd, Nat.reduceSub, Nat.reduceLT, Nat.reduceLeDiff, Nat.reduceMul]
  refine call_mk (w_t b hb) rfl trivial ?_
  simp only [wide, push_cast, ↓reduceIte, reduceCtorEq, Nat.reduceBEq, Nat.reduceEqDiff, Nat.reduceAdd, Nat.reduceSub, Nat.reduceLT, Nat.reduceLeDiff, Nat.reduceMul]
  refine call_as (as' := [wide b]) rfl ?_
  refine call_mk (turned_t b) rfl trivial ?_
  simp only [wide, push_cast, ↓reduceIte, reduceCtorEq, Nat.reduceBEq, Nat.reduceEqDiff, Nat.reduceAdd, Nat.reduceSub, Nat.reduceLT, Nat.reduceLeDiff, Nat.reduceMul]
  refine call_as (as' := [wide a, wide (-b)]) rfl ?_
  refine call_mk (plus_t a (-b)) rfl trivial ?_
  simp only [wide, push_cast, ↓reduceIte, reduceCtorEq, Nat.reduceBEq, Nat.reduceEqDiff, Nat.reduceAdd, Nat.reduceSub, Nat.reduceLT, Nat.reduceLeDiff, Nat.reduceMul]
  refine call_as (as' := [wide (a + -b)]) rfl ?_
  refine call_mk (small_t (a + -b) (by unfold in64 at ha hb; omega)) rfl trivial ?_
  simp only [sm_vl, ← Int.sub_eq_add_neg, push_cast, ↓reduceIte, reduceCtorEq, Nat.reduceBEq, Nat.reduceEqDiff, Nat.reduceAdd, Nat.reduceSub, Nat.reduceLT, Nat.reduceLeDiff, Nat.reduceMul]
  refine call_mk (times_t a b ha hb) rfl trivial ?_
  simp only [wide, push_cast, ↓reduceIte, reduceCtorEq, Nat.reduceBEq, Nat.reduceEqDiff, Nat.reduceAdd, Nat.reduceSub, Nat.reduceLT, Nat.reduceLeDiff, Nat.reduceMul]
  have hab : (a * b).natAbs ≤ 9223372036854775808 * 9223372036854775808 := by
    rw [Int.natAbs_mul]
    unfold in64 at ha hb
    exact Nat.mul_le_mul (by omega) (by omega)
  refine call_as (as' := [wide (a * b)]) rfl ?_
  refine call_mk (small_t (a * b) (by omega)) rfl trivial ?_
  simp only [sm_vl, push_cast, ↓reduceIte, reduceCtorEq, Nat.reduceBEq, Nat.reduceEqDiff, Nat.reduceAdd, Nat.reduceSub, Nat.reduceLT, Nat.reduceLeDiff, Nat.reduceMul]
  refine call_mk (w_t a ha) rfl trivial ?_
  simp only [wide, push_cast, ↓reduceIte, reduceCtorEq, Nat.reduceBEq, Nat.reduceEqDiff, Nat.reduceAdd, Nat.reduceSub, Nat.reduceLT, Nat.reduceLeDiff, Nat.reduceMul]
  refine call_as (as' := [wide a]) rfl ?_
  refine call_mk (turned_t a) rfl trivial ?_
  simp only [wide, push_cast, ↓reduceIte, reduceCtorEq, Nat.reduceBEq, Nat.reduceEqDiff, Nat.reduceAdd, Nat.reduceSub, Nat.reduceLT, Nat.reduceLeDiff, Nat.reduceMul]
  refine call_as (as' := [wide (-a)]) rfl ?_
  refine call_mk (small_t (-a) (by unfold in64 at ha; omega)) rfl trivial ?_
  simp only [sm_vl, push_cast, ↓reduceIte, reduceCtorEq, Nat.reduceBEq, Nat.reduceEqDiff, Nat.reduceAdd, Nat.reduceSub, Nat.reduceLT, Nat.reduceLeDiff, Nat.reduceMul]
  refine call_mk awake1_t rfl trivial ?_
  simp only [push_cast, ↓reduceIte, reduceCtorEq, Nat.reduceBEq, Nat.reduceEqDiff, Nat.reduceAdd, Nat.reduceSub, Nat.reduceLT, Nat.reduceLeDiff, Nat.reduceMul]
end Go.Ev
