import Derived.Test.YtocfnfcflljooaaGreatM9
namespace Go.Ev
set_option maxRecDepth 100000
open Go
set_option linter.unusedSectionVars false
set_option linter.unnecessarySimpa false
open Nat (reduceEqDiff reduceAdd reduceSub reduceLT reduceLeDiff reduceMul)
set_option linter.unusedSimpArgs false
set_option linter.unusedVariables false
noncomputable def apiarylaw18_StatsOrder_pc : PC :=
  (.seq (.reg [p_s 6 (.mov (.c (.r (.v (.bool false)))))])
 (.seq (.seq (.reg [p_m 23 0, p_s 24 (.len false (.t 23)), p_s 25 (.bin .gtr (.t 24) (o_i 100))])
 (.cond (.t 25)
 (.seq (.reg [p_c 26 1 7 [], p_m 6 26])
 .ret)
 .skip))
 (.seq (.reg [p_m 27 0, p_c 28 2 8 [.t 27], p_m 7 28])
 (.seq (.reg [p_m 29 2, p_s 30 (.bin .rem (.t 29) (o_i 13)), p_s 31 (.bin .add (.t 30) (o_i 13)), p_s 32 (.bin .rem (.t 31) (o_i 13)), p_m 2 32])
 (.seq (.reg [p_m 33 7, p_c 34 3 9 [.t 33], p_c 35 4 10 [], p_m 8 34, p_m 9 35])
 (.seq (.seq (.reg [p_m 36 8, p_s 37 (.eqn false (.t 36)), p_m 38 37, p_g 39 38 false (.mov (.t 9)), p_g 40 38 false (.eqn false (.t 39)), p_s 41 (.pick (.t 38) (.c (.r (.v (.bool true)))) (.t 40))])
 (.cond (.t 41)
 (.seq (.reg [p_s 6 (.mov (.c (.r (.v (.bool false)))))])
 .ret)
 .skip))
 (.seq (.reg [p_m 42 7, p_s 43 (.len false (.t 42)), p_m 10 43])
 (.seq (.seq (.reg [p_s 11 (.mov (o_i 0))])
 (.block 0 (.loop (.seq (.seq (.reg [p_m 44 11, p_m 45 10, p_s 46 (.bin .lss (.t 44) (.t 45))])
 (.cond (.t 46)
 .skip
 (.exit 0)))
 (.seq (.block 1 (.seq (.reg [p_m 49 7, p_m 50 11, p_m 51 1, p_s 52 (.bin .and (.t 51) (o_i 255)), p_s 53 (.bin .add (.t 50) (.t 52)), p_m 54 10, p_s 55 (.bin .rem (.t 53) (.t 54)), p_s 56 (.ia 4 (.agg [(.v (.int .i64 0)), (.v (.int .i64 0)), (.v (.int .i64 0)), (.v (.int .i64 0))]) (.t 49) (.t 55)),
 p_s 57 (.ld (some 4) (.t 56)), p_a 12 (.new [(.r (.v (.int .i64 0))), (.r (.v (.int .i64 0))), (.r (.v (.int .i64 0))), (.r (.v (.int .i64 0)))]), ⟨none, none, 0, .act (.st 4 (.t 12) (.t 57))⟩])
 (.seq (.reg [p_s 58 (.ld (some 4) (.t 12)), p_a 13 (.new [(.r (.v (.int .i64 0))), (.r (.v (.int .i64 0))), (.r (.v (.int .i64 0))), (.r (.v (.int .i64 0)))]), ⟨none, none, 0, .act (.st 4 (.t 13) (.t 58))⟩])
 (.seq (.reg [p_s 59 (.fa 1 (.t 13)), p_s 60 (.ld none (.t 59)), p_s 61 (.bin .xor (.t 60) (o_i 1023)), p_s 62 (.fa 3 (.t 13)), p_s 63 (.ld none (.t 62)), p_s 64 (.bin .add (.t 63) (o_i 5)),
 p_s 65 (.fa 1 (.t 13)), ⟨none, none, 0, .act (.st 1 (.t 65) (.t 61))⟩, p_s 66 (.fa 3 (.t 13)), ⟨none, none, 0, .act (.st 1 (.t 66) (.t 64))⟩])
 (.seq (.reg [p_m 67 9, p_s 68 (.ld (some 4) (.t 13)), p_c 69 5 11 [.t 67, .t 68], p_s 70 (.un .not (.t 69)), p_m 71 70, p_g 72 71 false (.mov (.t 11)), p_g 73 71 false (.bin .rem (.t 72) (o_i 3)),
 p_g 74 71 false (.bin .eql (.t 73) (o_i 0)), p_g 75 71 false (.mov (.t 74)), p_g 76 75 true (.mov (.t 9)), p_g 77 75 true (.fa 0 (.t 13)), p_g 78 75 true (.ld none (.t 77)),
 ⟨(some 79), (some (75, true)), 6, .call 12 [(.t 76), (.t 78)]⟩, p_g 80 75 true (.un .not (.t 79)), p_g 81 71 false (.pick (.t 75) (.t 80) (.c (.r (.v (.bool false))))),
 p_s 82 (.pick (.t 71) (.c (.r (.v (.bool true)))) (.t 81)), p_m 83 82, p_g 84 83 false (.mov (.t 9)), p_g 85 83 false (.ld (some 4) (.t 12)), ⟨(some 86), (some (83, false)), 7, .call 11 [(.t 84), (.t 85)]⟩,
 p_g 87 83 false (.un .not (.t 86)), p_s 88 (.pick (.t 83) (.c (.r (.v (.bool true)))) (.t 87))])
 (.cond (.t 88)
 (.seq (.reg [p_s 6 (.mov (.c (.r (.v (.bool false)))))])
 .ret)
 .skip))))))
 (.reg [p_m 47 11, p_s 48 (.bin .add (.t 47) (o_i 1)), p_m 11 48]))))))
 (.seq (.reg [p_m 89 8, p_m 90 2, p_c 91 8 13 [.t 89, .t 90], p_m 92 9, p_m 93 2, p_c 94 9 13 [.t 92, .t 93], p_m 14 91, p_m 15 94])
 (.seq (.seq (.reg [p_m 95 14, p_m 96 15, p_c 97 10 14 [.t 95, .t 96], p_s 98 (.un .not (.t 97))])
 (.cond (.t 98)
 (.seq (.reg [p_s 6 (.mov (.c (.r (.v (.bool false)))))])
 .ret)
 .skip))
 (.seq (.seq (.reg [p_s 16 (.mov (o_i 0))])
 (.block 2 (.loop (.seq (.seq (.reg [p_m 99 16, p_m 100 14, p_s 101 (.len false (.t 100)), p_s 102 (.bin .lss (.t 99) (.t 101))])
 (.cond (.t 102)
 .skip
 (.exit 2)))
 (.seq (.block 3 (.seq (.reg [p_m 106 8, p_m 107 14, p_m 108 16, p_s 109 (.ia 1 (.v (.int .u64 0)) (.t 107) (.t 108)), p_s 110 (.ld none (.t 109)), p_c 111 11 15 [.t 106, .t 110], p_m 105 111,
 p_s 112 (.ext (.t 105) 0), p_s 113 (.ext (.t 105) 1), p_a 17 (.new [(.r (.v (.int .u64 0))), (.r (.v (.int .i64 0))), (.r (.v (.int .i64 0))), (.r (.v (.int .i64 0))), (.r (.v (.int .i64 0)))]),
 ⟨none, none, 0, .act (.st 5 (.t 17) (.t 112))⟩, p_m 18 113])
 (.seq (.reg [p_m 115 9, p_m 116 14, p_m 117 16, p_s 118 (.ia 1 (.v (.int .u64 0)) (.t 116) (.t 117)), p_s 119 (.ld none (.t 118)), p_c 120 12 15 [.t 115, .t 119], p_m 114 120,
 p_s 121 (.ext (.t 114) 0), p_s 122 (.ext (.t 114) 1), p_a 19 (.new [(.r (.v (.int .u64 0))), (.r (.v (.int .i64 0))), (.r (.v (.int .i64 0))), (.r (.v (.int .i64 0))), (.r (.v (.int .i64 0)))]),
 ⟨none, none, 0, .act (.st 5 (.t 19) (.t 121))⟩, p_m 20 122])
 (.seq (.reg [p_s 123 (.ld (some 5) (.t 17)), p_s 124 (.ld (some 5) (.t 19)), p_s 125 (.eqa true [0, 0, 0, 0, 0] (.t 123) (.t 124)), p_m 126 125, p_g 127 126 false (.mov (.t 20)),
 p_g 128 126 false (.un .not (.t 127)), p_s 129 (.pick (.t 126) (.c (.r (.v (.bool true)))) (.t 128))])
 (.cond (.t 129)
 (.seq (.reg [p_s 6 (.mov (.c (.r (.v (.bool false)))))])
 .ret)
 .skip)))))
 (.reg [p_m 103 16, p_s 104 (.bin .add (.t 103) (o_i 1)), p_m 16 104]))))))
 (.seq (.reg [p_m 131 8, p_m 132 2, p_c 133 13 16 [(o_i 3), (o_i 4), (.t 132)], p_s 134 (.bin .xor (.t 133) (.c (.r (.v (.int .u64 1152921504606846976))))), p_c 135 14 15 [.t 131, .t 134],
 p_m 130 135, p_s 136 (.ext (.t 130) 0), p_s 137 (.ext (.t 130) 1), p_a 21 (.new [(.r (.v (.int .u64 0))), (.r (.v (.int .i64 0))), (.r (.v (.int .i64 0))), (.r (.v (.int .i64 0))), (.r (.v (.int .i64 0)))]),
 ⟨none, none, 0, .act (.st 5 (.t 21) (.t 136))⟩, p_m 22 137])
 (.seq (.reg [p_m 138 22, p_s 139 (.un .not (.t 138)), p_m 140 139, ⟨(some 141), (some (140, true)), 15, .call 7 []⟩, p_s 142 (.pick (.t 140) (.t 141) (.c (.r (.v (.bool false))))),
 p_m 6 142])
 .ret)))))))))))))
theorem apiarylaw18_StatsOrder_triple : Fun Go.Proofs.Tryz.prog 3 3 [(6, false, none)] apiarylaw18_StatsOrder_pc := fun_mk Go.Proofs.Tryz.func3 rfl (by decide) (by kernel_rfl) (by decide) rfl (by kernel_rfl) (by kernel_rfl) (by decide)
def mvd (q : Pt) (X : Int) : Pt := ⟨q.k, X, q.y, q.v + 5⟩
theorem xor_1023 (x : Int) (h0 : 0 ≤ x) (h1 : x < 1073741824) : ∃ X : Int, 0 ≤ X ∧ X < 1073741824 ∧ IntKind.i64.wrap ((BitVec.ofInt IntKind.i64.bits x ^^^ BitVec.ofInt IntKind.i64.bits 1023).toNat : Int) = X := by
 have e1 : (BitVec.ofInt 64 x).toNat = x.toNat := by
  rw [BitVec.toNat_ofInt]
  omega
 have e2 : (BitVec.ofInt 64 1023).toNat = 1023 := by decide
 have h2 : x.toNat ^^^ 1023 < 2 ^ 30 := Nat.xor_lt_two_pow (by omega) (by decide)
 refine ⟨((x.toNat ^^^ 1023 : Nat) : Int), by omega, by omega, ?_⟩
 rw [show IntKind.i64.bits = 64 from rfl, BitVec.toNat_xor, e1, e2]
 exact wrap_id (by omega)
theorem gPt_v (a b : Int) (l : List Pt) : -99 ≤ (gPt a b l).v ∧ (gPt a b l).v ≤ 156 := by
 unfold gPt
 split
 ·split <;> simp only <;> omega
 ·simp only; omega
theorem gp_v : ∀ (xs : List Int) (l : List Pt), (∀ p ∈ l, -99 ≤ p.v ∧ p.v ≤ 156) → ∀ p ∈ genL xs l, -99 ≤ p.v ∧ p.v ≤ 156
 | [], l, h => h
 | [_], l, h => h
 | a :: b :: r, l, h => by
  rw [genL]
  split
  ·refine gp_v r _ fun p hp => ?_
   rcases List.mem_append.1 hp with hp | hp
   ·exact h p hp
   ·simp at hp; subst hp; exact gPt_v a b l
  ·exact h
theorem take_rw64 (C : List Int) : List.take C.length (rw64 C) = rw64 C := List.take_of_length_le (by rw [rw64_len]; omega)
theorem rw64_get0 {ws : List Int} {i : Nat} {n : Int} (h : ws[i]? = some n) (z : RV) : (rw64 ws).getD (0 + ((i : Int)).toNat) z = .v (.int .u64 n) := by rw [Nat.zero_add]; exact rw64_get h z
theorem xor_60 {W : Nat} (h : isWB W = true) (hl : W < 18446744073709551616) : ∃ W' : Nat, IntKind.u64.wrap ((BitVec.ofInt IntKind.u64.bits (W : Int) ^^^ BitVec.ofInt IntKind.u64.bits 1152921504606846976).toNat : Int) = (W' : Int) ∧ W' / 1152921504606846976 = 0 := by
 have h1 := (isWB_iff W).1 h
 have e1 : (BitVec.ofInt 64 (W : Int)).toNat = W := by
  rw [BitVec.toNat_ofInt]
  omega
 have e2 : (BitVec.ofInt 64 1152921504606846976).toNat = 1152921504606846976 := by decide
 have hx : (W ^^^ 1152921504606846976) / 2 ^ 60 = 0 := by
  rw [Nat.xor_div_two_pow, show W / 2 ^ 60 = 1 from h1.1]; decide
 have hx' : (W ^^^ 1152921504606846976) / 1152921504606846976 = 0 := hx
 refine ⟨W ^^^ 1152921504606846976, ?_, hx'⟩
 rw [show IntKind.u64.bits = 64 from rfl, BitVec.toNat_xor, e1, e2]
 exact u_wrap_id ⟨Int.natCast_nonneg _, by omega⟩
theorem mem_mode {L : List Pt} (hok : ∀ p ∈ L, p.ok) {w : Nat} (hw : w / 1152921504606846976 = 0) : mem L w = [] := by
 unfold mem
 rw [List.filter_eq_nil_iff]
 intro p hp hc
 obtain ⟨r, hr, e⟩ := inC_iff.1 hc
 have := ((isWB_iff _).1 (Pt.w_res (hok p hp) hr).1).1
 rw [e] at this
 omega
theorem put_moves (LB : List Pt) (q : Pt) (X : Int) (hq : q.ok) (hm : (mvd q X).ok) (hno : has LB q.k = false) (hl : LB.length < 2000) :
  Triple Go.Proofs.Tryz.prog 11 [.ptr 1000000 0 0, (mvd q X).av] [.abs (sT LB)] (bl true) [.abs (sT (LB ++ [mvd q X]))] ∧
  Triple Go.Proofs.Tryz.prog 12 [.ptr 1000000 0 0, int .i64 q.k] [.abs (sT (LB ++ [mvd q X]))] (bl true) [.abs (sT LB)] ∧
  Triple Go.Proofs.Tryz.prog 11 [.ptr 1000000 0 0, q.av] [.abs (sT LB)] (bl true) [.abs (sT (LB ++ [q]))] ∧
  Triple Go.Proofs.Tryz.prog 11 [.ptr 1000000 0 0, q.av] [.abs (sT (LB ++ [mvd q X]))] (bl true) [.abs (sT (LB ++ [q]))] := by
 have e1 : plusP LB (mvd q X) = LB ++ [mvd q X] := by unfold plusP; rw [show (mvd q X).k = q.k from rfl, without_no hno]
 have e2 : without q.k (LB ++ [mvd q X]) = LB := by
  have : without q.k (LB ++ [mvd q X]) = without q.k LB := by
   unfold without
   rw [List.filter_append]
   simp [mvd]
  rw [this, without_no hno]
 have e3 : plusP LB q = LB ++ [q] := by unfold plusP; rw [without_no hno]
 have e4 : plusP (LB ++ [mvd q X]) q = LB ++ [q] := by unfold plusP; rw [e2]
 have h2 : has (LB ++ [mvd q X]) q.k = true := has_iff.2 ⟨mvd q X, by simp, rfl⟩
 have c1 : canPut LB (mvd q X) = true := by simp [canPut, hm, hl]
 have c2 : canPut LB q = true := by simp [canPut, hq, hl]
 have c3 : canPut (LB ++ [mvd q X]) q = true := by simp [canPut, hq, h2]
 have d := del_a (LB ++ [mvd q X]) q.k
 rw [h2, e2] at d
 have p1 := put_yes LB _ c1
 have p2 := put_yes LB _ c2
 have p3 := put_yes _ _ c3
 rw [e1] at p1
 rw [e3] at p2
 rw [e4] at p3
 exact ⟨p1, d, p2, p3⟩
set_option maxHeartbeats 4000000 in
theorem order_t (xs : List Int) (hx : ∀ x ∈ xs, -9223372036854775808 ≤ x ∧ x ≤ 9223372036854775807) (turn r : Int) :
    Triple Go.Proofs.Tryz.prog 3 [.r (i64s xs), int .i64 turn, int .i64 r] [] (bl true) [] := by
  refine apiarylaw18_StatsOrder_triple rfl (by decide) ?_
  obtain ⟨R, hR, eR⟩ := r13 r
  have hgp : GP (genL xs []) := genL_gp xs [] (by simp [GP])
  have hle := genL_le xs [] (by decide)
  have hv := gp_v xs [] (by simp)
  have hPt := points_t xs hx
  by_cases h100 : xs.length > 100
  · have e1 : decide ((xs.length : Int) > 100) = true := by simp; omega
    simp only [apiarylaw18_StatsOrder_pc, i64s, List.length_map, e1, List.length_nil, push_cast, ↓reduceIte, reduceCtorEq, Nat.reduceBEq, reduceEqDiff, reduceAdd, reduceSub, reduceLT, reduceLeDiff, reduceMul]
    refine call_mk awake_t rfl trivial ?_
    simp only [push_cast, ↓reduceIte, reduceCtorEq, Nat.reduceBEq, reduceEqDiff, reduceAdd, reduceSub, reduceLT, reduceLeDiff, reduceMul]
  have e1 : decide ((xs.length : Int) > 100) = false := by simp; omega
  simp only [apiarylaw18_StatsOrder_pc, i64s, List.length_map, e1, List.length_nil, push_cast, ↓reduceIte, reduceCtorEq, Nat.reduceBEq, reduceEqDiff, reduceAdd, reduceSub, reduceLT, reduceLeDiff, reduceMul]
  refine call_as (as' := [.r (i64s xs)]) rfl ?_
  refine call_mk hPt rfl trivial ?_
  generalize hG : genL xs [] = l at *
  simp only [eR, push_cast, ↓reduceIte, reduceCtorEq, Nat.reduceBEq, reduceEqDiff, reduceAdd, reduceSub, reduceLT, reduceLeDiff, reduceMul]
  repeat refine And.intro (by first | decide | omega | exact fun _ => by decide | (simp +contextual; done) | kernel_rfl) ?_
  have hO := of_t l (by omega)
  rw [gp_of hgp (by omega)] at hO
  refine callA_lend ?_
  simp only [push_cast, ↓reduceIte, reduceCtorEq, Nat.reduceBEq, reduceEqDiff, reduceAdd, reduceSub, reduceLT, reduceLeDiff, reduceMul]
  refine call_lend hO rfl trivial (by simp [Flat]) (by simp [FlatO]) ?_
  simp only [eR, push_cast, ↓reduceIte, reduceCtorEq, Nat.reduceBEq, reduceEqDiff, reduceAdd, reduceSub, reduceLT, reduceLeDiff, reduceMul]
  refine call_mk new_a rfl trivial ?_
  simp only [eR, push_cast, ↓reduceIte, reduceCtorEq, Nat.reduceBEq, reduceEqDiff, reduceAdd, reduceSub, reduceLT, reduceLeDiff, reduceMul]
  obtain ⟨T, hT, eT⟩ : ∃ T : Nat, T < 256 ∧ turn % 256 = T := ⟨(turn % 256).toNat, by omega, by omega⟩
  have hlen0 : l.length ≤ 40 := hle
  refine run_loop [(11, false), (1, false), (2, false), (7, false), (8, false), (9, false), (10, false)] (fun vs pos los => ∃ i : Nat, i ≤ l.length ∧
      vs = [int .i64 i, int .i64 turn, int .i64 R, .own 2000000 0 0 l.length, .ptr 2000001 0 0, .ptr 2000002 0 0, int .i64 l.length] ∧ pos = [] ∧
      los = [.row 4 (Pt.rv ⟨0, 0, 0, 0⟩) true true (l.map Pt.rv), .abs (sT l), .abs (sT (rotL l T i))])
    (fun vs _ _ => match vs with | .r (.v (.int _ i)) :: _ => (l.length - i).toNat | _ => 0) rfl ?_ ?_
  · simp only [push_cast, ↓reduceIte, reduceCtorEq, Nat.reduceBEq, reduceEqDiff, reduceAdd, reduceSub, reduceLT, reduceLeDiff, reduceMul]
    exact ⟨0, by omega, rfl, rfl⟩
  · rintro vs pos los ⟨i, hi, rfl, rfl, rfl⟩
    simp only [push_cast, ↓reduceIte, reduceCtorEq, Nat.reduceBEq, reduceEqDiff, reduceAdd, reduceSub, reduceLT, reduceLeDiff, reduceMul]
    refine cnd_mk (fun h => ?_) (fun h => ?_)
    · have hi' : i < l.length := by simpa using h
      have hJ : (i + T) % l.length < l.length := Nat.mod_lt _ (by omega)
      obtain ⟨J, hJe⟩ : ∃ J, (i + T) % l.length = J := ⟨_, rfl⟩
      rw [hJe] at hJ
      obtain ⟨q, hq⟩ : ∃ q, l[J]? = some q := ⟨l[J], by simp [hJ]⟩
      have gq : ∀ z, (l.map Pt.rv).getD ((J : Int)).toNat z = .agg [.v (.int .i64 q.k), .v (.int .i64 q.x), .v (.int .i64 q.y), .v (.int .i64 q.v)] := pts_get hq
      have gq' : ∀ z, (l.map Pt.rv).getD (0 + ((J : Int)).toNat) z = .agg [.v (.int .i64 q.k), .v (.int .i64 q.x), .v (.int .i64 q.y), .v (.int .i64 q.v)] := fun z => by rw [Nat.zero_add]; exact gq z
      have hqo : q.ok := (hgp J q hq).2
      have hqv := hv q (List.mem_of_getElem? hq)
      have eD : l.getD ((i + T) % l.length) ⟨0, 0, 0, 0⟩ = q := by rw [hJe, List.getD_eq_getElem?_getD, hq]; rfl
      have hno := rotL_no (t := T) hgp hi'
      rw [eD] at hno
      have hsucc := rotL_succ l T i
      rw [eD] at hsucc
      have hBl := rotL_len l T i
      obtain ⟨X, hX0, hX1, eX⟩ := xor_1023 q.x hqo.2.1.1.1 (by have := hqo.2.1; unfold inW at this; omega)
      have w1 : IntKind.i64.wrap ((i : Int) + T) = ((i + T : Nat) : Int) := by rw [wrap_id (by omega)]; omega
      have w2 : ((i + T : Nat) : Int).tmod (l.length : Int) = (J : Int) := by rw [Int.tmod_eq_emod_of_nonneg (by omega), ← hJe]; omega
      have w3 : IntKind.i64.wrap (q.v + 5) = q.v + 5 := wrap_id (by omega)
      have w4 : IntKind.i64.wrap ((i : Int) + 1) = (i : Int) + 1 := wrap_id (by omega)
      have hn0 : ¬ ((l.length : Int) = 0) := by omega
      generalize hIT : i + T = IT at *
      simp only [m8, eT, w1, w2, gq, gq', eX, w3, hn0, push_cast, ↓reduceIte, reduceCtorEq, Nat.reduceBEq, reduceEqDiff, reduceAdd, reduceSub, reduceLT, reduceLeDiff, reduceMul]
      repeat refine And.intro (by first | decide | omega | exact fun _ => by decide | (simp +contextual; done) | kernel_rfl) ?_
      have hm : (mvd q X).ok := by
        obtain ⟨o1, o2, o3⟩ := hqo
        refine ⟨o1, ?_, ?_⟩
        · unfold inW at o2 ⊢; simp only [mvd]; omega
        · simp only [mvd]; omega
      obtain ⟨P1, D1, P2, P3⟩ := put_moves (rotL l T i) q X hqo hm hno (by omega)
      rw [← hsucc] at P2 P3
      refine call_as (as' := [.ptr 1000000 0 0, (mvd q X).av]) rfl ?_
      refine call_mk P1 rfl ⟨rfl, trivial⟩ ?_
      by_cases h3 : (i : Int).tmod 3 = 0
      · have e3 : ((i : Int).tmod 3 == 0) = true := by simp [h3]
        generalize hmq : mvd q X = mq at *
        have hmk : mq.k = q.k := by rw [← hmq]; rfl
        simp only [e3, gq, gq', push_cast, ↓reduceIte, reduceCtorEq, Nat.reduceBEq, reduceEqDiff, reduceAdd, reduceSub, reduceLT, reduceLeDiff, reduceMul]
        repeat refine And.intro (by first | decide | omega | exact fun _ => by decide | (simp +contextual; done) | kernel_rfl) ?_
        refine call_mk D1 rfl ⟨rfl, trivial⟩ ?_
        simp only [e3, gq, gq', push_cast, ↓reduceIte, reduceCtorEq, Nat.reduceBEq, reduceEqDiff, reduceAdd, reduceSub, reduceLT, reduceLeDiff, reduceMul]
        repeat refine And.intro (by first | decide | omega | exact fun _ => by decide | (simp +contextual; done) | kernel_rfl) ?_
        refine call_as (as' := [.ptr 1000000 0 0, q.av]) rfl ?_
        refine call_mk P2 rfl ⟨rfl, trivial⟩ ?_
        simp only [w4, push_cast, ↓reduceIte, reduceCtorEq, Nat.reduceBEq, reduceEqDiff, reduceAdd, reduceSub, reduceLT, reduceLeDiff, reduceMul]
        exact ⟨⟨i + 1, by omega, by simp, rfl⟩, by omega⟩
      · have e3 : ((i : Int).tmod 3 == 0) = false := by simp [h3]
        simp only [e3, gq, gq', push_cast, ↓reduceIte, reduceCtorEq, Nat.reduceBEq, reduceEqDiff, reduceAdd, reduceSub, reduceLT, reduceLeDiff, reduceMul]
        repeat refine And.intro (by first | decide | omega | exact fun _ => by decide | (simp +contextual; done) | kernel_rfl) ?_
        refine call_as (as' := [.ptr 1000000 0 0, q.av]) rfl ?_
        refine call_mk P3 rfl ⟨rfl, trivial⟩ ?_
        simp only [w4, push_cast, ↓reduceIte, reduceCtorEq, Nat.reduceBEq, reduceEqDiff, reduceAdd, reduceSub, reduceLT, reduceLeDiff, reduceMul]
        exact ⟨⟨i + 1, by omega, by simp, rfl⟩, by omega⟩
    · have hi2 : i = l.length := by have : ¬ i < l.length := by simpa using h
                                    omega
      have hP := rotL_perm hgp T
      rw [hi2]
      generalize rotL l T l.length = LB at *
      have hLB := hP.length_eq
      have hca := cells_a l (by omega) R hR
      have hcb := cells_a LB (by omega) R hR
      rw [← cellsL_perm hP.symm] at hcb
      obtain ⟨C, hC⟩ : ∃ C, cellsL l R = C := ⟨_, rfl⟩
      have hCl : C.length ≤ 40 := by rw [← hC]; exact Nat.le_trans (cellsL_len l R) hle
      rw [hC] at hca hcb
      simp only [push_cast, ↓reduceIte, reduceCtorEq, Nat.reduceBEq, reduceEqDiff, reduceAdd, reduceSub, reduceLT, reduceLeDiff, reduceMul]
      refine call_mk hca rfl ⟨rfl, trivial⟩ ?_
      simp only [rowU, push_cast, ↓reduceIte, reduceCtorEq, Nat.reduceBEq, reduceEqDiff, reduceAdd, reduceSub, reduceLT, reduceLeDiff, reduceMul]
      refine call_mk hcb rfl ⟨rfl, trivial⟩ ?_
      simp only [rowU, push_cast, ↓reduceIte, reduceCtorEq, Nat.reduceBEq, reduceEqDiff, reduceAdd, reduceSub, reduceLT, reduceLeDiff, reduceMul]
      refine callA_lend ?_
      simp only [take_rw64, push_cast, ↓reduceIte, reduceCtorEq, Nat.reduceBEq, reduceEqDiff, reduceAdd, reduceSub, reduceLT, reduceLeDiff, reduceMul]
      refine call_lend (same_t C (by omega)) rfl trivial (by simp [Flat, FlatR]) (by simp) ?_
      simp only [take_rw64, push_cast, ↓reduceIte, reduceCtorEq, Nat.reduceBEq, reduceEqDiff, reduceAdd, reduceSub, reduceLT, reduceLeDiff, reduceMul]
      refine run_loop [(16, false), (2, false), (8, false), (9, false), (14, false)] (fun vs pos los => ∃ i : Nat, i ≤ C.length ∧
          vs = [int .i64 i, int .i64 R, .ptr 2000000 0 0, .ptr 2000001 0 0, .own 2000002 0 0 C.length] ∧ pos = [] ∧ los = [.abs (sT l), .abs (sT LB), rowU C])
        (fun vs _ _ => match vs with | .r (.v (.int _ i)) :: _ => (C.length - i).toNat | _ => 0) rfl ?_ ?_
      · simp only [rowU, push_cast, ↓reduceIte, reduceCtorEq, Nat.reduceBEq, reduceEqDiff, reduceAdd, reduceSub, reduceLT, reduceLeDiff, reduceMul]
        exact ⟨0, by omega, rfl⟩
      · rintro vs pos los ⟨k, hk, rfl, rfl, rfl⟩
        simp only [rowU, push_cast, ↓reduceIte, reduceCtorEq, Nat.reduceBEq, reduceEqDiff, reduceAdd, reduceSub, reduceLT, reduceLeDiff, reduceMul]
        refine cnd_mk (fun h5 => ?_) (fun h5 => ?_)
        · have hk' : k < C.length := by simpa using h5
          obtain ⟨n, hn⟩ : ∃ n, C[k]? = some n := ⟨C[k], by simp [hk']⟩
          obtain ⟨w, rfl, hpw⟩ := cellsL_at (by rw [hC]; exact hn)
          have wk : IntKind.i64.wrap ((k : Int) + 1) = (k : Int) + 1 := wrap_id (by omega)
          have hm1 := mem_ne hR hpw
          have hm2 : mem LB w ≠ [] := fun e => hm1 (by
            have := (mem_perm hP w).length_eq
            rw [e] at this
            exact List.length_eq_zero_iff.1 this.symm)
          have c1 := cell_yes l w hm1
          have c2 := cell_yes LB w hm2
          rw [(mem_perm hP w).length_eq, sumV_perm (mem_perm hP w), loV_perm (mem_perm hP w), hiV_perm (mem_perm hP w)] at c2
          simp only [rw64_get hn, rw64_get0 hn, rowU, rw64_len, push_cast, ↓reduceIte, reduceCtorEq, Nat.reduceBEq, reduceEqDiff, reduceAdd, reduceSub, reduceLT, reduceLeDiff, reduceMul]
          repeat refine And.intro (by first | decide | omega | exact fun _ => by decide | (simp +contextual; done) | kernel_rfl) ?_
          refine call_mk c1 rfl ⟨rfl, trivial⟩ ?_
          simp only [rw64_get hn, rw64_get0 hn, rowU, rw64_len, push_cast, ↓reduceIte, reduceCtorEq, Nat.reduceBEq, reduceEqDiff, reduceAdd, reduceSub, reduceLT, reduceLeDiff, reduceMul]
          repeat refine And.intro (by first | decide | omega | exact fun _ => by decide | (simp +contextual; done) | kernel_rfl) ?_
          refine call_mk c2 rfl ⟨rfl, trivial⟩ ?_
          simp only [wk, rowU, rw64_len, push_cast, ↓reduceIte, reduceCtorEq, Nat.reduceBEq, reduceEqDiff, reduceAdd, reduceSub, reduceLT, reduceLeDiff, reduceMul]
          exact ⟨⟨k + 1, by omega, rfl⟩, by omega⟩
        · simp only [rowU, push_cast, ↓reduceIte, reduceCtorEq, Nat.reduceBEq, reduceEqDiff, reduceAdd, reduceSub, reduceLT, reduceLeDiff, reduceMul]
          refine call_mk (word34_t R (by omega)) rfl trivial ?_
          have hW := isWB_word (near_okc 3 4 R (by decide) (by decide) (by omega))
          have hWlt := word_lt R _ (near_okc 3 4 R (by decide) (by decide) (by omega))
          rw [show word R (near 3 4 R) = wordOf 3 4 R from rfl] at hW hWlt
          simp only [Int.toNat_natCast]
          generalize wordOf 3 4 R = W at *
          obtain ⟨W', eW, hW'⟩ := xor_60 hW hWlt
          have c3 := cell_no l W' (mem_mode (fun p hp => by
            obtain ⟨j, hj⟩ := List.getElem?_of_mem hp
            exact (hgp j p hj).2) hW')
          simp only [uw, eW, rowU, push_cast, ↓reduceIte, reduceCtorEq, Nat.reduceBEq, reduceEqDiff, reduceAdd, reduceSub, reduceLT, reduceLeDiff, reduceMul]
          refine call_mk c3 rfl ⟨rfl, trivial⟩ ?_
          simp only [rowU, push_cast, ↓reduceIte, reduceCtorEq, Nat.reduceBEq, reduceEqDiff, reduceAdd, reduceSub, reduceLT, reduceLeDiff, reduceMul]
          refine call_mk awake_t rfl trivial ?_
          simp only [rowU, push_cast, ↓reduceIte, reduceCtorEq, Nat.reduceBEq, reduceEqDiff, reduceAdd, reduceSub, reduceLT, reduceLeDiff, reduceMul]

end Go.Ev
