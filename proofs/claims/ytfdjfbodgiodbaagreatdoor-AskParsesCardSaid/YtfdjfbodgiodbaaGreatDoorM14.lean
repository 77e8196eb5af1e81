import Derived.Test.YtfdjfbodgiodbaaGreatDoorM13
open Nat renaming reduceBEq → zB, reduceEqDiff → zE, reduceAdd → zA, reduceSub → zS, reduceLT → zL, reduceLeDiff → zD, reduceMul → zM
open Go.Proofs.Tryz renaming prog → P0
open Int renaming toNat_natCast → zaa, toNat_natCast_add_one → zab, tmod_eq_emod_of_nonneg → zal
open Nat renaming zero_add → zac
open List renaming length_cons → zad, length_nil → zae, length_append → zaf, getD_eq_getElem?_getD → zag, append_assoc → zai, getElem?_eq_none → zak, length_eq_zero_iff → zam, take_of_length_le → zan
open BitVec renaming ofInt → zah
open Bool renaming eq_iff_iff → zaj
namespace Go.Ev
set_option maxRecDepth 100000
open Go
set_option linter.unusedSectionVars false
set_option linter.unnecessarySimpa false
set_option linter.unusedSimpArgs false
set_option linter.unusedVariables false
noncomputable def apiarylaw25_Make_1_pc : PC :=
  (.seq (.reg [p_s 2 (.mov (o_i 0))])
 (.seq (.reg [p_s 3 (.ld none (.t 0)), p_s 4 (.bin .add (.t 3) (o_i 1)), ⟨none, none, 0, .act (.st 1 (.t 0) (.t 4))⟩])
 (.seq (.seq (.reg [p_s 5 (.ld none (.t 0)), p_s 6 (.ld none (.t 1)), p_s 7 (.len false (.t 6)), p_s 8 (.bin .gtr (.t 5) (.t 7))])
 (.cond (.t 8)
 (.seq (.reg [p_s 2 (.mov (o_i 0))])
 .ret)
 .skip))
 (.seq (.reg [p_s 9 (.ld none (.t 1)), p_s 10 (.ld none (.t 0)), p_s 11 (.bin .sub (.t 10) (o_i 1)), p_s 12 (.ia 1 (.v (.int .i64 0)) (.t 9) (.t 11)), p_s 13 (.ld none (.t 12)),
 p_m 2 13])
 .ret))))
theorem apiarylaw25_Make_1_triple : Fun P0 35 2 [(2, false, none)] apiarylaw25_Make_1_pc := fun_mk Go.Proofs.Tryz.func35 rfl (by decide) (by kernel_rfl) (by decide) rfl (by kernel_rfl) (by kernel_rfl) (by decide)
noncomputable def apiarylaw25_Make_pc : PC :=
  (.seq (.reg [p_a 4 (.box (.t 1)), p_a 6 (.new [(.r (.v (.int .i64 0))), (.nils 1 (.v (.int .i64 0))), (.nils 1 (.v (.int .u64 0))), (.nils 2 (.agg [(.v (.int .i64 0)), (.v (.int .i64 0))])), (.nils 5 (.agg [(.v (.int .i64 0)), (.v (.int .i64 0)), (.v (.int .i64 0)), (.v (.int .i64 0)), (.v (.int .i64 0))]))])])
 (.seq (.reg [p_m 19 0, p_s 20 (.bin .rem (.t 19) (o_i 16)), p_s 21 (.bin .add (.t 20) (o_i 16)), p_s 22 (.bin .rem (.t 21) (o_i 16)), p_s 23 (.bin .add (.t 22) (o_i 1)), p_m 0 23])
 (.seq (.reg [p_m 24 0, p_s 25 (.build [(.r (.v (.int .i64 0))), (.nils 1 (.v (.int .i64 0))), (.nils 1 (.v (.int .u64 0))), (.nils 2 (.agg [(.v (.int .i64 0)), (.v (.int .i64 0))])), (.nils 5 (.agg [(.v (.int .i64 0)), (.v (.int .i64 0)), (.v (.int .i64 0)), (.v (.int .i64 0)), (.v (.int .i64 0))]))] [(0, 1, (.t 24))]),
 p_a 7 (.new [(.r (.v (.int .i64 0))), (.nils 1 (.v (.int .i64 0))), (.nils 1 (.v (.int .u64 0))), (.nils 2 (.agg [(.v (.int .i64 0)), (.v (.int .i64 0))])), (.nils 5 (.agg [(.v (.int .i64 0)), (.v (.int .i64 0)), (.v (.int .i64 0)), (.v (.int .i64 0)), (.v (.int .i64 0))]))]),
 ⟨none, none, 0, .act (.st 5 (.t 7) (.t 25))⟩])
 (.seq (.reg [p_a 8 (.new [(.r (.v (.int .i64 0)))]), ⟨none, none, 0, .act (.st 1 (.t 8) (o_i 0))⟩])
 (.seq (.reg [p_s 26 (.mkf (.func 35) [(.t 8), (.t 4)]), p_m 9 26])
 (.seq (.reg [p_c 28 1 32 [], p_m 27 28, p_s 29 (.ext (.t 27) 0), p_s 30 (.ext (.t 27) 1), p_m 10 29, p_m 11 30])
 (.seq (.reg [p_m 31 11, p_m 32 0, p_s 33 (.bin .sub (.t 32) (o_i 1)), p_s 34 (.ia 1 (.v (.string ⟨#[]⟩)) (.t 31) (.t 33)), p_s 35 (.ld none (.t 34)), p_m 12 35])
 (.seq (.seq (.reg [p_s 13 (.mov (o_i 0))])
 (.block 0 (.loop (.seq (.seq (.reg [p_m 36 13, p_m 37 12, p_s 38 (.len true (.t 37)), p_s 39 (.bin .lss (.t 36) (.t 38))])
 (.cond (.t 39)
 .skip
 (.exit 0)))
 (.seq (.block 1 (.seq (.reg [p_m 42 12, p_m 43 13, p_s 44 (.ixs (.t 42) (.t 43)), p_m 14 44])
 (.block 2 (.seq (.reg [p_m 53 14, p_s 54 (.bin .eql (.t 53) (.c (.r (.v (.int .u8 119))))), p_m 55 54, p_g 56 55 false (.mov (.t 0)), p_g 57 55 false (.bin .eql (.t 56) (o_i 7)), p_g 58 55 false (.mov (.t 57)),
 p_g 59 58 true (.mov (.t 14)), p_g 60 58 true (.bin .eql (.t 59) (.c (.r (.v (.int .u8 118))))), p_g 61 55 false (.pick (.t 58) (.t 60) (.c (.r (.v (.bool false))))),
 p_s 62 (.pick (.t 55) (.c (.r (.v (.bool true)))) (.t 61)), p_m 52 62])
 (.cond (.t 52)
 (.seq (.reg [p_m 63 9, ⟨(some 64), none, 2, .callv (.t 63) []⟩, p_m 65 9, ⟨(some 66), none, 3, .callv (.t 65) []⟩, p_m 15 64, p_m 16 66])
 (.drw [p_s 67 (.fa 2 (.t 7)), p_s 68 (.ld none (.t 67)), p_m 69 15, p_m 70 16, p_m 71 9, ⟨(some 72), none, 4, .callv (.t 71) []⟩, p_s 73 (.bin .and (.t 72) (o_i 15)), p_c 74 5 13 [.t 69, .t 70, .t 73],
 p_a 75 (.bsl 1 (.v (.int .u64 0)) [(.t 74)]), p_a 76 (.app 1 (.v (.int .u64 0)) 8 (.t 68) (.t 75)), p_s 77 (.fa 2 (.t 7)), ⟨none, none, 0, .act (.st 1 (.t 77) (.t 76))⟩]
 [[], [0], [], [], [], [4], [4, 5], [2, 3, 4, 5, 6], [2, 3, 4, 5, 6, 7], [0, 1, 2, 3, 4, 5, 6, 7, 8], [0, 1, 2, 3, 4, 5, 6, 7, 8, 9], [0, 1, 2, 3, 4, 5, 6, 7, 8, 9, 10]]))
 (.seq (.reg [p_m 79 14, p_s 80 (.bin .eql (.t 79) (.c (.r (.v (.int .u8 112))))), p_m 78 80])
 (.cond (.t 78)
 (.seq (.reg [p_s 17 (.mov (o_i 0))])
 (.block 3 (.loop (.seq (.seq (.reg [p_m 81 17, p_m 82 9, ⟨(some 83), none, 6, .callv (.t 82) []⟩, p_s 84 (.bin .and (.t 83) (o_i 3)), p_s 85 (.bin .add (o_i 3) (.t 84)), p_s 86 (.bin .lss (.t 81) (.t 85))])
 (.cond (.t 86)
 .skip
 (.exit 3)))
 (.seq (.block 4 (.drw [p_s 89 (.fa 3 (.t 7)), p_s 90 (.ld none (.t 89)), p_m 91 9, ⟨(some 92), none, 7, .callv (.t 91) []⟩, p_s 93 (.bin .and (.t 92) (o_i 1073741823)), p_m 94 9, ⟨(some 95), none, 8, .callv (.t 94) []⟩,
 p_s 96 (.bin .and (.t 95) (o_i 1073741823)), p_s 97 (.build [(.r (.v (.int .i64 0))), (.r (.v (.int .i64 0)))] [(0, 1, (.t 93)), (1, 1, (.t 96))]), p_a 98 (.bsl 2 (.agg [(.v (.int .i64 0)), (.v (.int .i64 0))]) [(.t 97)]),
 p_a 99 (.app 2 (.agg [(.v (.int .i64 0)), (.v (.int .i64 0))]) 16 (.t 90) (.t 98)), p_s 100 (.fa 3 (.t 7)), ⟨none, none, 0, .act (.st 1 (.t 100) (.t 99))⟩]
 [[], [0], [], [2], [2, 3], [], [2, 3, 5], [2, 3, 5, 6], [2, 3, 4, 5, 6, 7], [2, 3, 4, 5, 6, 7, 8], [0, 1, 2, 3, 4, 5, 6, 7, 8, 9], [0, 1, 2, 3, 4, 5, 6, 7, 8, 9, 10], [0, 1, 2, 3, 4, 5, 6, 7, 8, 9, 10, 11]]))
 (.reg [p_m 87 17, p_s 88 (.bin .add (.t 87) (o_i 1)), p_m 17 88]))))))
 (.drw [p_s 45 (.fa 1 (.t 7)), p_s 46 (.ld none (.t 45)), p_m 47 9, ⟨(some 48), none, 9, .callv (.t 47) []⟩, p_a 49 (.bsl 1 (.v (.int .i64 0)) [(.t 48)]), p_a 50 (.app 1 (.v (.int .i64 0)) 8 (.t 46) (.t 49)),
 p_s 51 (.fa 1 (.t 7)), ⟨none, none, 0, .act (.st 1 (.t 51) (.t 50))⟩]
 [[], [0], [], [2], [2, 3], [0, 1, 2, 3, 4], [0, 1, 2, 3, 4, 5], [0, 1, 2, 3, 4, 5, 6]]))))))))
 (.reg [p_m 40 13, p_s 41 (.bin .add (.t 40) (o_i 1)), p_m 13 41]))))))
 (.seq (.seq (.reg [p_m 101 0, p_s 102 (.bin .eql (.t 101) (o_i 16))])
 (.cond (.t 102)
 (.seq (.seq (.reg [p_s 18 (.mov (o_i 0))])
 (.block 5 (.loop (.seq (.seq (.reg [p_m 103 18, p_m 104 2, p_s 105 (.len false (.t 104)), p_s 106 (.bin .lss (.t 103) (.t 105)), p_m 107 106, p_g 108 107 true (.mov (.t 18)), p_g 109 107 true (.bin .lss (.t 108) (o_i 60)),
 p_s 110 (.pick (.t 107) (.t 109) (.c (.r (.v (.bool false)))))])
 (.cond (.t 110)
 .skip
 (.exit 5)))
 (.seq (.block 6 (.seq (.reg [p_m 113 2, p_m 114 18, p_s 115 (.ia 5 (.agg [(.v (.int .i64 0)), (.v (.int .i64 0)), (.v (.int .i64 0)), (.v (.int .i64 0)), (.v (.int .i64 0))]) (.t 113) (.t 114)),
 p_s 116 (.ld (some 5) (.t 115)), p_c 117 10 36 [.t 116]])
 (.cond (.t 117)
 (.drw [p_s 118 (.fa 4 (.t 7)), p_s 119 (.ld none (.t 118)), p_m 120 2, p_m 121 18, p_s 122 (.ia 5 (.agg [(.v (.int .i64 0)), (.v (.int .i64 0)), (.v (.int .i64 0)), (.v (.int .i64 0)), (.v (.int .i64 0))]) (.t 120) (.t 121)),
 p_s 123 (.ld (some 5) (.t 122)), p_a 124 (.bsl 5 (.agg [(.v (.int .i64 0)), (.v (.int .i64 0)), (.v (.int .i64 0)), (.v (.int .i64 0)), (.v (.int .i64 0))]) [(.t 123)]),
 p_a 125 (.app 5 (.agg [(.v (.int .i64 0)), (.v (.int .i64 0)), (.v (.int .i64 0)), (.v (.int .i64 0)), (.v (.int .i64 0))]) 40 (.t 119) (.t 124)), p_s 126 (.fa 4 (.t 7)),
 ⟨none, none, 0, .act (.st 1 (.t 126) (.t 125))⟩]
 [[], [0], [], [], [2, 3], [2, 3, 4], [2, 3, 4, 5], [0, 1, 2, 3, 4, 5, 6], [0, 1, 2, 3, 4, 5, 6, 7], [0, 1, 2, 3, 4, 5, 6, 7, 8]])
 .skip)))
 (.reg [p_m 111 18, p_s 112 (.bin .add (.t 111) (o_i 1)), p_m 18 112]))))))
 (.seq (.reg [p_s 127 (.fa 4 (.t 7)), p_s 128 (.ld none (.t 127)), p_s 129 (.len false (.t 128)), p_s 130 (.bin .eql (.t 129) (o_i 0))])
 (.cond (.t 130)
 (.reg [p_s 131 (.build [(.r (.v (.int .i64 0))), (.r (.v (.int .i64 0))), (.r (.v (.int .i64 0))), (.r (.v (.int .i64 0)))] [(0, 1, (o_i 1))]), p_s 132 (.build [(.r (.v (.int .i64 0))), (.r (.v (.int .i64 0))), (.r (.v (.int .i64 0))), (.r (.v (.int .i64 0))), (.r (.v (.int .i64 0)))] [(0, 1, (o_i 2)), (1, 4, (.t 131))]),
 p_a 133 (.bsl 5 (.agg [(.v (.int .i64 0)), (.v (.int .i64 0)), (.v (.int .i64 0)), (.v (.int .i64 0)), (.v (.int .i64 0))]) [(.t 132)]), p_s 134 (.fa 4 (.t 7)),
 ⟨none, none, 0, .act (.st 1 (.t 134) (.t 133))⟩])
 .skip)))
 .skip))
 (.seq (.reg [p_s 135 (.ld (some 5) (.t 7)), ⟨none, none, 0, .act (.st 5 (.t 6) (.t 135))⟩])
 .ret))))))))))
theorem apiarylaw25_Make_triple : Fun P0 16 3 [(6, false, some (29, (some 5)))] apiarylaw25_Make_pc := fun_mk Go.Proofs.Tryz.func16 rfl (by decide) (by kernel_rfl) (by decide) rfl (by kernel_rfl) (by kernel_rfl) (by decide)
def nx (l : List Int) (i : Nat) : Int := l.getD i 0
theorem nx_in {l : List Int} (h : ∀ n ∈ l, in64 n) (i : Nat) : in64 (nx l i) := by
 unfold nx
 by_cases hi : i < l.length
 ·rw [zag, List.getElem?_eq_getElem hi]
  exact h _ (List.getElem_mem hi)
 ·rw [zag, zak (by omega)]
  unfold in64
  decide
theorem next_t (l : List Int) (i : Nat) (hi : i ≤ 1000000) : Triple P0 35 [.ptr 1000000 0 0, .ptr 1000001 0 0] [.box [int .i64 i], .box [.r (.sl 1 (l.map n8))]] (int .i64 (nx l i)) [.box [int .i64 ((i : Int) + 1)], .box [.r (.sl 1 (l.map n8))]] := by
 refine apiarylaw25_Make_1_triple rfl (by simp) ?_
 have w1 : IntKind.i64.wrap ((i : Int) + 1) = (i : Int) + 1 := wrap_id (by omega)
 have w2 : IntKind.i64.wrap ((i : Int) + 1 - 1) = (i : Int) := by rw [wrap_id (by omega)]; omega
 unfold nx
 by_cases h : i < l.length
 ·have g : decide (((i : Nat) : Int) + 1 > ((l.length : Nat) : Int)) = false := decide_eq_false (by omega)
  have hg : ∀ z, (l.map n8).getD i z = .v (.int .i64 (l.getD i 0)) := fun z => by
   rw [zag, zag]
   simp [h, n8]
  simp only [apiarylaw25_Make_1_pc, w1, w2, g, hg, zaa, zab, zac, push_cast, ↓reduceIte, reduceCtorEq, zB, zE, zA, zS, zL, zD, zM]
  omega
 ·have g : decide (((i : Nat) : Int) + 1 > ((l.length : Nat) : Int)) = true := decide_eq_true (by omega)
  have e : l.getD i 0 = 0 := by rw [zag, zak (by omega)]; rfl
  rw [e]
  simp only [apiarylaw25_Make_1_pc, w1, w2, g, zaa, zab, zac, push_cast, ↓reduceIte, reduceCtorEq, zB, zE, zA, zS, zL, zD, zM]
def mkR (l : List Int) : Nat → Nat → Nat → List (Int × Int) → Nat × List (Int × Int)
 | 0, _, at', rg => (at', rg)
 | f + 1, k, at', rg => if (k : Int) < 3 + nx l at' % 4 then mkR l f (k + 1) (at' + 3) (rg ++ [(nx l (at' + 1) % 1073741824, nx l (at' + 2) % 1073741824)]) else (at' + 1, rg)
def mkS (l : List Int) (k : Int) : Bs → Nat → List Int → List Nat → List (Int × Int) → Nat × List Int × List Nat × List (Int × Int)
 | [], at', ns, ws, rg => (at', ns, ws, rg)
 | c :: ks, at', ns, ws, rg =>
  if wordB k c = true then mkS l k ks (at' + 3) ns (ws ++ [word (someR (nx l (at' + 2) % 16)) (someC (nx l at') (nx l (at' + 1)) (nx l (at' + 2) % 16))]) rg
  else if c = 112 then mkS l k ks (mkR l 8 0 at' rg).1 ns ws (mkR l 8 0 at' rg).2
  else mkS l k ks (at' + 1) (ns ++ [nx l at']) ws rg
def mkO (os : List Op5) : List Op5 := if (os.take 60).filter opB = [] then [⟨2, 1, 0, 0, 0⟩] else (os.take 60).filter opB
def kindS (kind : Int) : Int := kind % 16 + 1
def makeD (kind : Int) (l : List Int) (os : List Op5) : AskD :=
 let x := mkS l (kindS kind) (keysL.getD (kind % 16).toNat []) 0 [] [] []
 ⟨kindS kind, x.2.1, x.2.2.1, x.2.2.2, if kindS kind = 16 then mkO os else []⟩
def mlos (k : Int) (i : Nat) (l : List Int) : List Int → List Nat → List (Int × Int) → List Ob
 | [], [], [] => [zbx, .box [int .i64 i], .box [.r (.sl 1 (l.map n8))], .box [int .i64 k, .nils 1 (n8 0), .nils 1 (u8R 0), .nils 2 ptZ, .nils 5 opZ]]
 | n :: nr, [], [] => [zbx, .box [int .i64 i], .box [.r (.sl 1 (l.map n8))], .box [int .i64 k, .own 2000004 0 0 (nr.length + 1), .nils 1 (u8R 0), .nils 2 ptZ, .nils 5 opZ], .row 1 (n8 0) true true ((n :: nr).map n8)]
 | [], w :: wr, [] => [zbx, .box [int .i64 i], .box [.r (.sl 1 (l.map n8))], .box [int .i64 k, .nils 1 (n8 0), .own 2000004 0 0 (wr.length + 1), .nils 2 ptZ, .nils 5 opZ], .row 1 (u8R 0) true true ((w :: wr).map u8R)]
 | [], [], g :: gr => [zbx, .box [int .i64 i], .box [.r (.sl 1 (l.map n8))], .box [int .i64 k, .nils 1 (n8 0), .nils 1 (u8R 0), .own 2000004 0 0 (gr.length + 1), .nils 5 opZ], .row 2 ptZ true true ((g :: gr).map ptR)]
 | n :: nr, w :: wr, [] => [zbx, .box [int .i64 i], .box [.r (.sl 1 (l.map n8))], .box [int .i64 k, .own 2000004 0 0 (nr.length + 1), .own 2000005 0 0 (wr.length + 1), .nils 2 ptZ, .nils 5 opZ], .row 1 (n8 0) true true ((n :: nr).map n8), .row 1 (u8R 0) true true ((w :: wr).map u8R)]
 | n :: nr, [], g :: gr => [zbx, .box [int .i64 i], .box [.r (.sl 1 (l.map n8))], .box [int .i64 k, .own 2000004 0 0 (nr.length + 1), .nils 1 (u8R 0), .own 2000005 0 0 (gr.length + 1), .nils 5 opZ], .row 1 (n8 0) true true ((n :: nr).map n8), .row 2 ptZ true true ((g :: gr).map ptR)]
 | [], w :: wr, g :: gr => [zbx, .box [int .i64 i], .box [.r (.sl 1 (l.map n8))], .box [int .i64 k, .nils 1 (n8 0), .own 2000004 0 0 (wr.length + 1), .own 2000005 0 0 (gr.length + 1), .nils 5 opZ], .row 1 (u8R 0) true true ((w :: wr).map u8R), .row 2 ptZ true true ((g :: gr).map ptR)]
 | n :: nr, w :: wr, g :: gr => [zbx, .box [int .i64 i], .box [.r (.sl 1 (l.map n8))], .box [int .i64 k, .own 2000004 0 0 (nr.length + 1), .own 2000005 0 0 (wr.length + 1), .own 2000006 0 0 (gr.length + 1), .nils 5 opZ], .row 1 (n8 0) true true ((n :: nr).map n8), .row 1 (u8R 0) true true ((w :: wr).map u8R), .row 2 ptZ true true ((g :: gr).map ptR)]
theorem ml_1 (k : Int) (i : Nat) (l : List Int) : mlos k i l [] [] [] = [zbx, .box [int .i64 i], .box [.r (.sl 1 (l.map n8))], .box [int .i64 k, .nils 1 (n8 0), .nils 1 (u8R 0), .nils 2 ptZ, .nils 5 opZ]] := (rfl)
theorem ml_2 (k : Int) (i : Nat) (l : List Int) (n : Int) (nr : List Int) : mlos k i l (n :: nr) [] [] = [zbx, .box [int .i64 i], .box [.r (.sl 1 (l.map n8))], .box [int .i64 k, .own 2000004 0 0 (nr.length + 1), .nils 1 (u8R 0), .nils 2 ptZ, .nils 5 opZ], .row 1 (n8 0) true true ((n :: nr).map n8)] := (rfl)
theorem ml_3 (k : Int) (i : Nat) (l : List Int) (w : Nat) (wr : List Nat) : mlos k i l [] (w :: wr) [] = [zbx, .box [int .i64 i], .box [.r (.sl 1 (l.map n8))], .box [int .i64 k, .nils 1 (n8 0), .own 2000004 0 0 (wr.length + 1), .nils 2 ptZ, .nils 5 opZ], .row 1 (u8R 0) true true ((w :: wr).map u8R)] := (rfl)
theorem ml_4 (k : Int) (i : Nat) (l : List Int) (g : Int × Int) (gr : List (Int × Int)) : mlos k i l [] [] (g :: gr) = [zbx, .box [int .i64 i], .box [.r (.sl 1 (l.map n8))], .box [int .i64 k, .nils 1 (n8 0), .nils 1 (u8R 0), .own 2000004 0 0 (gr.length + 1), .nils 5 opZ], .row 2 ptZ true true ((g :: gr).map ptR)] := (rfl)
theorem ml_5 (k : Int) (i : Nat) (l : List Int) (n : Int) (nr : List Int) (w : Nat) (wr : List Nat) : mlos k i l (n :: nr) (w :: wr) [] = [zbx, .box [int .i64 i], .box [.r (.sl 1 (l.map n8))], .box [int .i64 k, .own 2000004 0 0 (nr.length + 1), .own 2000005 0 0 (wr.length + 1), .nils 2 ptZ, .nils 5 opZ], .row 1 (n8 0) true true ((n :: nr).map n8), .row 1 (u8R 0) true true ((w :: wr).map u8R)] := (rfl)
theorem ml_6 (k : Int) (i : Nat) (l : List Int) (n : Int) (nr : List Int) (g : Int × Int) (gr : List (Int × Int)) : mlos k i l (n :: nr) [] (g :: gr) = [zbx, .box [int .i64 i], .box [.r (.sl 1 (l.map n8))], .box [int .i64 k, .own 2000004 0 0 (nr.length + 1), .nils 1 (u8R 0), .own 2000005 0 0 (gr.length + 1), .nils 5 opZ], .row 1 (n8 0) true true ((n :: nr).map n8), .row 2 ptZ true true ((g :: gr).map ptR)] := (rfl)
theorem ml_7 (k : Int) (i : Nat) (l : List Int) (w : Nat) (wr : List Nat) (g : Int × Int) (gr : List (Int × Int)) : mlos k i l [] (w :: wr) (g :: gr) = [zbx, .box [int .i64 i], .box [.r (.sl 1 (l.map n8))], .box [int .i64 k, .nils 1 (n8 0), .own 2000004 0 0 (wr.length + 1), .own 2000005 0 0 (gr.length + 1), .nils 5 opZ], .row 1 (u8R 0) true true ((w :: wr).map u8R), .row 2 ptZ true true ((g :: gr).map ptR)] := (rfl)
theorem ml_8 (k : Int) (i : Nat) (l : List Int) (n : Int) (nr : List Int) (w : Nat) (wr : List Nat) (g : Int × Int) (gr : List (Int × Int)) : mlos k i l (n :: nr) (w :: wr) (g :: gr) = [zbx, .box [int .i64 i], .box [.r (.sl 1 (l.map n8))], .box [int .i64 k, .own 2000004 0 0 (nr.length + 1), .own 2000005 0 0 (wr.length + 1), .own 2000006 0 0 (gr.length + 1), .nils 5 opZ], .row 1 (n8 0) true true ((n :: nr).map n8), .row 1 (u8R 0) true true ((w :: wr).map u8R), .row 2 ptZ true true ((g :: gr).map ptR)] := (rfl)
def olos : List Op5 → List Ob
 | [] => [zbx, .box [int .i64 16, .nils 1 (n8 0), .nils 1 (u8R 0), .nils 2 ptZ, .nils 5 opZ]]
 | o :: r => [zbx, .box [int .i64 16, .nils 1 (n8 0), .nils 1 (u8R 0), .nils 2 ptZ, .own 2000002 0 0 (r.length + 1)], .row 5 opZ true true ((o :: r).map opR)]
set_option maxHeartbeats 4000000 in
theorem make_t (kind : Int) (l : List Int) (os : List Op5) (hk : in64 kind) (hl : ∀ n ∈ l, in64 n) (hol : os.length ≤ 100000) (hll : l.length ≤ 100000) :
  Triple P0 16 [int .i64 kind, .r (.sl 1 (l.map n8)), .r (.sl 5 (os.map opR))] [] (makeD kind l os).av [] := by
 refine apiarylaw25_Make_triple rfl (by decide) ?_
 obtain ⟨Q, hQ⟩ : ∃ Q, makeD kind l os = Q := ⟨_, rfl⟩
 rw [hQ]
 unfold makeD at hQ
 have hfn : isFn P0 35 = true := rfl
 obtain ⟨K, hK⟩ : ∃ K : Nat, kind % 16 = (K : Int) := ⟨(kind % 16).toNat, by omega⟩
 have hK16 : K < 16 := by omega
 have hkt : IntKind.i64.wrap ((IntKind.i64.wrap (kind.tmod 16 + 16)).tmod 16 + 1) = (K : Int) + 1 := by
  have h1 := Int.tmod_lt_of_pos kind (show (0 : Int) < 16 by decide)
  have h2 := Int.lt_tmod_of_pos kind (show (0 : Int) < 16 by decide)
  have h3 : (kind.tmod 16 + 16).tmod 16 = (K : Int) := by
   rw [zal (by omega)]
   have := Int.mul_tdiv_add_tmod kind 16
   omega
  rw [wrap_id (x := kind.tmod 16 + 16) (by omega), h3, wrap_id (by omega)]
 have hgk : ∀ z, (strs keysL).getD K z = .v (.string (bstr (keysL.getD K []))) := fun z => by
  have hK : K < keysL.length := hK16
  rw [zag, zag]
  simp [hK, strR]
 have hks5 : ∀ i : Fin 16, (keysL.getD i.val []).length ≤ 5 := by decide
 have hks5 := hks5 ⟨K, hK16⟩
 simp only at hks5
 unfold kindS at hQ
 rw [hK] at hQ
 simp only [zaa] at hQ
 obtain ⟨ks, hks⟩ : ∃ ks, keysL.getD K [] = ks := ⟨_, rfl⟩
 obtain ⟨k, hk⟩ : ∃ k : Int, (K : Int) + 1 = k := ⟨_, rfl⟩
 have wk : IntKind.i64.wrap (k - 1) = (K : Int) := by rw [wrap_id (by omega)]; omega
 simp only [hks, hk] at hQ hks5 hgk hkt
 obtain ⟨R, hR⟩ : ∃ R, mkS l k ks 0 [] [] [] = R := ⟨_, rfl⟩
 rw [hR] at hQ
 have hKL : (strs keysL).length = 16 := rfl
 have hmax := maxLen_big
 simp only [apiarylaw25_Make_pc, hfn, hkt, push_cast, ↓reduceIte, reduceCtorEq, zB, zE, zA, zS, zL, zD, zM]
 refine ⟨by decide, by decide, ?_⟩
 refine call_mk names_t rfl trivial ?_
 simp only [wk, hgk, hKL, hfn, zaa, zab, zac, push_cast, ↓reduceIte, reduceCtorEq, zB, zE, zA, zS, zL, zD, zM]
 refine ⟨by omega, ?_⟩
 refine run_loop [(0, false), (2, false), (12, false), (13, false), (6, false), (9, false), (7, false)] (fun vs pos los => ∃ (i at' : Nat) (ns : List Int) (ws : List Nat) (rg : List (Int × Int)), i ≤ ks.length ∧ at' ≤ 100 * i ∧ ns.length ≤ i ∧ ws.length ≤ i ∧ rg.length ≤ 10 * i ∧ mkS l k (ks.drop i) at' ns ws rg = R ∧
   vs = [int .i64 k, .r (.sl 5 (os.map opR)), sV ks, int .i64 i, .ptr 2000000 0 0, .fn (.func 35) [.ptr 2000001 0 0, .ptr 2000002 0 0] 0, .ptr 2000003 0 0] ∧ pos = [] ∧ los = mlos k at' l ns ws rg)
  (fun vs _ _ => match vs with | [_, _, _, .r (.v (.int _ j)), _, _, _] => (ks.length - j).toNat | _ => 0) rfl ?_ ?_
 ·simp only [hfn, push_cast, ↓reduceIte, reduceCtorEq, zB, zE, zA, zS, zL, zD, zM]
  exact ⟨0, 0, [], [], [], by omega, by omega, by simp, by simp, by simp, hR, rfl, rfl⟩
 ·rintro vs pos los ⟨i, at', ns, ws, rg, i0, hat, hnl, hwl, hrl, hmk, rfl, rfl, rfl⟩
  by_cases hi : i < ks.length
  ·obtain ⟨c, hc⟩ : ∃ c, ks[i] = c := ⟨_, rfl⟩
   have hd : ks.drop i = c :: ks.drop (i + 1) := by rw [List.drop_eq_getElem_cons hi, hc]
   have hgc : ks.getD i 0 = c := by simp [List.getD, hi, hc]
   have gi : decide (((i : Nat) : Int) < ((ks.length : Nat) : Int)) = true := decide_eq_true (by omega)
   have w1 : IntKind.i64.wrap ((i : Int) + 1) = (i : Int) + 1 := wrap_id (by omega)
   rw [hd, mkS] at hmk
   obtain ⟨C, hC⟩ : ∃ C : Int, ((c.toNat : Nat) : Int) = C := ⟨_, rfl⟩
   have hwd : (bif C == 119 then true else bif k == 7 then C == 118 else false) = wordB k c := by
    unfold wordB
    by_cases h1 : c.toNat = 119
    ·have : (C == 119) = true := by rw [beq_iff_eq]; omega
     simp [this, h1]
    ·have e1 : (C == 119) = false := by rw [beq_eq_false_iff_ne]; omega
     by_cases h2 : k = 7
     ·have e2 : (k == 7) = true := by rw [beq_iff_eq]; exact h2
      by_cases h3 : c.toNat = 118
      ·have e3 : (C == 118) = true := by rw [beq_iff_eq]; omega
       simp [e1, e2, e3, h1, h2, h3]
      ·have e3 : (C == 118) = false := by rw [beq_eq_false_iff_ne]; omega
       simp [e1, e2, e3, h1, h2, h3]
     ·have e2 : (k == 7) = false := by rw [beq_eq_false_iff_ne]; exact h2
      simp [e1, e2, h1, h2]
   obtain ⟨A1, hA1⟩ : ∃ A, (C == 119) = A := ⟨_, rfl⟩
   obtain ⟨A2, hA2⟩ : ∃ A, (k == 7) = A := ⟨_, rfl⟩
   obtain ⟨A3, hA3⟩ : ∃ A, (C == 118) = A := ⟨_, rfl⟩
   rw [hA1, hA2, hA3] at hwd
   have hwcase : (A1 = true ∧ wordB k c = true) ∨ (A1 = false ∧ A2 = true ∧ A3 = true ∧ wordB k c = true) ∨ (A1 = false ∧ A2 = true ∧ A3 = false ∧ wordB k c = false) ∨ (A1 = false ∧ A2 = false ∧ wordB k c = false) := by
    rw [← hwd]
    cases A1 <;> cases A2 <;> cases A3 <;> simp
   have t0 := next_t l at' (by omega)
   have t1 := next_t l (at' + 1) (by omega)
   have t2 := next_t l (at' + 2) (by omega)
   have hx := nx_in hl at'
   have hy := nx_in hl (at' + 1)
   have hz := nx_in hl (at' + 2)
   simp only [hfn, gi, hgc, hC, w1, hA1, hA2, hA3, hwd, bstr_size, bstr_data, zaa, zab, zac, push_cast, ↓reduceIte, reduceCtorEq, zB, zE, zA, zS, zL, zD, zM]
   repeat refine And.intro (by first | omega | (cases A1 <;> cases A2 <;> cases A3 <;> simp; done) | (simp; done)) ?_
   refine cnd_mk (fun hW => ?_) (fun hW => ?_)
   ·rw [if_pos hW] at hmk
    have wr : IntKind.i64.wrap ((zah IntKind.i64.bits (nx l (at' + 2)) &&& zah IntKind.i64.bits 15).toNat) = nx l (at' + 2) % 16 := by
     have := and_mask (nx l (at' + 2)) 15 4 (by decide) (by decide)
     rw [this]
     rfl
    have haw := aword_t (nx l at') (nx l (at' + 1)) (nx l (at' + 2) % 16) hx hy ⟨by omega, by omega⟩
    have ea1 : (((at' + 1 : Nat)) : Int) = (at' : Int) + 1 := by omega
    have ea2 : (((at' + 2 : Nat)) : Int) = (at' : Int) + 1 + 1 := by omega
    simp only [ea1] at t1
    simp only [ea2] at t2
    rcases ns with _ | ⟨n0, nr⟩ <;> rcases ws with _ | ⟨w0, wr'⟩ <;> rcases rg with _ | ⟨g0, gr⟩ <;> simp only [hfn, gi, hgc, hC, w1, ml_1, ml_2, ml_3, ml_4, ml_5, ml_6, ml_7, ml_8, zbx, n8, u8R, ptZ, opZ, bstr_size, bstr_data, zaa, zab, zac, push_cast, ↓reduceIte, reduceCtorEq, zB, zE, zA, zS, zL, zD, zM]
    all_goals refine call_mk t0 rfl ⟨rfl, rfl, trivial⟩ ?_
    all_goals simp only [hfn, gi, hgc, hC, w1, ml_1, ml_2, ml_3, ml_4, ml_5, ml_6, ml_7, ml_8, zbx, n8, u8R, ptZ, opZ, bstr_size, bstr_data, zaa, zab, zac, push_cast, ↓reduceIte, reduceCtorEq, zB, zE, zA, zS, zL, zD, zM]
    all_goals refine call_mk t1 rfl ⟨rfl, rfl, trivial⟩ ?_
    all_goals simp only [hfn, gi, hgc, hC, w1, ml_1, ml_2, ml_3, ml_4, ml_5, ml_6, ml_7, ml_8, zbx, n8, u8R, ptZ, opZ, bstr_size, bstr_data, zaa, zab, zac, push_cast, ↓reduceIte, reduceCtorEq, zB, zE, zA, zS, zL, zD, zM]
    all_goals refine dcall_mk t2 rfl ⟨rfl, rfl, trivial⟩ ?_
    all_goals simp only [wr, hfn, gi, hgc, hC, w1, ml_1, ml_2, ml_3, ml_4, ml_5, ml_6, ml_7, ml_8, zbx, n8, u8R, ptZ, opZ, bstr_size, bstr_data, zaa, zab, zac, push_cast, ↓reduceIte, reduceCtorEq, zB, zE, zA, zS, zL, zD, zM]
    all_goals refine dcall_mk haw rfl trivial ?_
    all_goals simp only [uw, wr, hfn, gi, hgc, hC, w1, ml_1, ml_2, ml_3, ml_4, ml_5, ml_6, ml_7, ml_8, zbx, n8, u8R, ptZ, opZ, bstr_size, bstr_data, zaa, zab, zac, push_cast, ↓reduceIte, reduceCtorEq, zB, zE, zA, zS, zL, zD, zM]
    all_goals repeat refine And.intro (by first | omega | (simp; done) | (simp only [zad, zae, zaf] at hnl hwl hrl ⊢; omega) | (constructor <;> (simp only [zad, zae, zaf] at hnl hwl hrl ⊢; omega)) | (constructor <;> omega) | kernel_rfl) ?_
    all_goals refine ⟨⟨i + 1, at' + 3, _, _, _, by omega, by omega, by first | omega | (simp; done) | (simp only [zad, zae, zaf] at hnl hwl hrl ⊢; omega) | (simp; omega) | (simp at hnl hwl hrl ⊢; omega), by first | omega | (simp; done) | (simp only [zad, zae, zaf] at hnl hwl hrl ⊢; omega) | (simp; omega) | (simp at hnl hwl hrl ⊢; omega), by first | omega | (simp; done) | (simp only [zad, zae, zaf] at hnl hwl hrl ⊢; omega) | (simp; omega) | (simp at hnl hwl hrl ⊢; omega), hmk, by simp, ?_⟩, by omega⟩
    all_goals simp [mlos, zbx, n8, u8R, ptZ, opZ, ptR]
    all_goals try omega
   ·rw [if_neg (by rw [hW]; decide)] at hmk
    simp only [hfn, gi, hgc, hC, w1, bstr_size, bstr_data, zaa, zab, zac, push_cast, ↓reduceIte, reduceCtorEq, zB, zE, zA, zS, zL, zD, zM]
    refine cnd_mk (fun h112 => ?_) (fun h112 => ?_)
    ·have h112 : c = 112 := by
      apply UInt8.toNat_inj.1
      have : (112 : UInt8).toNat = 112 := rfl
      have : C = 112 := by simpa using h112
      omega
     rw [if_pos h112] at hmk
     obtain ⟨RR, hRR⟩ : ∃ x, mkR l 8 0 at' rg = x := ⟨_, rfl⟩
     rw [hRR] at hmk
     obtain ⟨NS, hNS⟩ : ∃ x, x = ns := ⟨_, rfl⟩
     obtain ⟨WS, hWS⟩ : ∃ x, x = ws := ⟨_, rfl⟩
     rcases ns with _ | ⟨n0, nr⟩ <;> rcases ws with _ | ⟨w0, wr'⟩ <;> rcases rg with _ | ⟨g0, gr⟩ <;> simp only [hfn, gi, hgc, hC, w1, ml_1, ml_2, ml_3, ml_4, ml_5, ml_6, ml_7, ml_8, zbx, n8, u8R, ptZ, opZ, bstr_size, bstr_data, zaa, zab, zac, push_cast, ↓reduceIte, reduceCtorEq, zB, zE, zA, zS, zL, zD, zM]
     all_goals (
      refine run_loop [(0, false), (2, false), (12, false), (13, false), (17, false), (6, false), (9, false), (7, false)] (fun vs pos los => ∃ (f j a'' : Nat) (rg' : List (Int × Int)), j + f = 8 ∧ j ≤ 6 ∧ a'' ≤ at' + 3 * j ∧ rg'.length ≤ 10 * i + j ∧ mkR l f j a'' rg' = RR ∧
        vs = [int .i64 k, .r (.sl 5 (os.map opR)), sV ks, int .i64 i, int .i64 j, .ptr 2000000 0 0, .fn (.func 35) [.ptr 2000001 0 0, .ptr 2000002 0 0] 0, .ptr 2000003 0 0] ∧ pos = [] ∧ los = mlos k a'' l NS WS rg')
       (fun vs _ _ => match vs with | [_, _, _, _, .r (.v (.int _ j)), _, _, _] => (7 - j).toNat | _ => 0) rfl ?_ ?_
      ·subst hNS hWS
       simp only [hfn, push_cast, ↓reduceIte, reduceCtorEq, zB, zE, zA, zS, zL, zD, zM]
       exact ⟨8, 0, at', _, by omega, by omega, by omega, by first | omega | (simp; done) | (simp only [zad, zae, zaf] at hnl hwl hrl ⊢; omega) | (simp; omega) | (simp at hnl hwl hrl ⊢; omega), hRR, rfl, rfl⟩
      ·subst hNS hWS
       rintro vs pos los ⟨f, j, a'', rg', hf, hj6, ha'', hrl', hmr, rfl, rfl, rfl⟩
       obtain ⟨f, rfl⟩ : ∃ g, f = g + 1 := ⟨f - 1, by omega⟩
       rw [mkR] at hmr
       have u0 := next_t l a'' (by omega)
       have u1 := next_t l (a'' + 1) (by omega)
       have u2 := next_t l (a'' + 2) (by omega)
       have ea1 : (((a'' + 1 : Nat)) : Int) = (a'' : Int) + 1 := by omega
       have ea2 : (((a'' + 2 : Nat)) : Int) = (a'' : Int) + 1 + 1 := by omega
       simp only [ea1] at u1
       simp only [ea2] at u2
       have m3 : IntKind.i64.wrap ((zah IntKind.i64.bits (nx l a'') &&& zah IntKind.i64.bits 3).toNat) = nx l a'' % 4 := by
        have := and_mask (nx l a'') 3 2 (by decide) (by decide)
        rw [this]
        rfl
       have m30 : ∀ x : Int, IntKind.i64.wrap ((zah IntKind.i64.bits x &&& zah IntKind.i64.bits 1073741823).toNat) = x % 1073741824 := fun x => by
        have := and_mask x 1073741823 30 (by decide) (by decide)
        rw [this]
        rfl
       have w3 : IntKind.i64.wrap (3 + nx l a'' % 4) = 3 + nx l a'' % 4 := wrap_id (by omega)
       have wj : IntKind.i64.wrap ((j : Int) + 1) = (j : Int) + 1 := wrap_id (by omega)
       by_cases hgo : (j : Int) < 3 + nx l a'' % 4
       ·rw [if_pos hgo] at hmr
        have gj : decide ((j : Int) < 3 + nx l a'' % 4) = true := decide_eq_true hgo
        rcases rg' with _ | ⟨h0, hr⟩ <;> simp only [hfn, gi, hgc, hC, w1, ml_1, ml_2, ml_3, ml_4, ml_5, ml_6, ml_7, ml_8, zbx, n8, u8R, ptZ, opZ, bstr_size, bstr_data, zaa, zab, zac, push_cast, ↓reduceIte, reduceCtorEq, zB, zE, zA, zS, zL, zD, zM]
        all_goals refine call_mk u0 rfl ⟨rfl, rfl, trivial⟩ ?_
        all_goals simp only [m3, w3, gj, wj, hfn, gi, hgc, hC, w1, ml_1, ml_2, ml_3, ml_4, ml_5, ml_6, ml_7, ml_8, zbx, n8, u8R, ptZ, opZ, bstr_size, bstr_data, zaa, zab, zac, push_cast, ↓reduceIte, reduceCtorEq, zB, zE, zA, zS, zL, zD, zM]
        all_goals refine dcall_mk u1 rfl ⟨rfl, rfl, trivial⟩ ?_
        all_goals simp only [m30, hfn, gi, hgc, hC, w1, ml_1, ml_2, ml_3, ml_4, ml_5, ml_6, ml_7, ml_8, zbx, n8, u8R, ptZ, opZ, bstr_size, bstr_data, zaa, zab, zac, push_cast, ↓reduceIte, reduceCtorEq, zB, zE, zA, zS, zL, zD, zM]
        all_goals refine dcall_mk u2 rfl ⟨rfl, rfl, trivial⟩ ?_
        all_goals simp only [m30, wj, hfn, gi, hgc, hC, w1, ml_1, ml_2, ml_3, ml_4, ml_5, ml_6, ml_7, ml_8, zbx, n8, u8R, ptZ, opZ, bstr_size, bstr_data, zaa, zab, zac, push_cast, ↓reduceIte, reduceCtorEq, zB, zE, zA, zS, zL, zD, zM]
        all_goals repeat refine And.intro (by first | omega | (simp; done) | (simp only [zad, zae, zaf] at hnl hwl hrl hrl' ⊢; omega) | (constructor <;> (simp only [zad, zae, zaf] at hnl hwl hrl hrl' ⊢; omega)) | (constructor <;> omega) | kernel_rfl) ?_
        all_goals refine ⟨⟨f, j + 1, a'' + 3, _, by omega, by omega, by omega, by first | omega | (simp; done) | (simp only [zad, zae, zaf] at hnl hwl hrl hrl' ⊢; omega) | (simp; omega) | (simp at hnl hwl hrl hrl' ⊢; omega), hmr, by simp, ?_⟩, by omega⟩
        all_goals simp [mlos, zbx, n8, u8R, ptZ, opZ, ptR]
        all_goals try omega
       ·rw [if_neg hgo] at hmr
        have gj : decide ((j : Int) < 3 + nx l a'' % 4) = false := decide_eq_false hgo
        subst hmr
        rcases rg' with _ | ⟨h0, hr⟩ <;> simp only [hfn, gi, hgc, hC, w1, ml_1, ml_2, ml_3, ml_4, ml_5, ml_6, ml_7, ml_8, zbx, n8, u8R, ptZ, opZ, bstr_size, bstr_data, zaa, zab, zac, push_cast, ↓reduceIte, reduceCtorEq, zB, zE, zA, zS, zL, zD, zM]
        all_goals refine call_mk u0 rfl ⟨rfl, rfl, trivial⟩ ?_
        all_goals simp only [m3, w3, gj, wj, hfn, gi, hgc, hC, w1, ml_1, ml_2, ml_3, ml_4, ml_5, ml_6, ml_7, ml_8, zbx, n8, u8R, ptZ, opZ, bstr_size, bstr_data, zaa, zab, zac, push_cast, ↓reduceIte, reduceCtorEq, zB, zE, zA, zS, zL, zD, zM]
        all_goals refine ⟨⟨i + 1, a'' + 1, _, _, _, by omega, by omega, by first | omega | (simp; done) | (simp only [zad, zae, zaf] at hnl hwl hrl hrl' ⊢; omega) | (simp; omega) | (simp at hnl hwl hrl hrl' ⊢; omega), by first | omega | (simp; done) | (simp only [zad, zae, zaf] at hnl hwl hrl hrl' ⊢; omega) | (simp; omega) | (simp at hnl hwl hrl hrl' ⊢; omega), by first | omega | (simp; done) | (simp only [zad, zae, zaf] at hnl hwl hrl hrl' ⊢; omega) | (simp; omega) | (simp at hnl hwl hrl hrl' ⊢; omega), hmk, by simp, ?_⟩, by omega⟩
        all_goals simp [mlos, zbx, n8, u8R, ptZ, opZ, ptR])
    ·have h112 : c ≠ 112 := fun e => by
      subst e
      have : C = 112 := by rw [← hC]; rfl
      subst this
      cases h112
     rw [if_neg h112] at hmk
     rcases ns with _ | ⟨n0, nr⟩ <;> rcases ws with _ | ⟨w0, wr'⟩ <;> rcases rg with _ | ⟨g0, gr⟩ <;> simp only [hfn, gi, hgc, hC, w1, ml_1, ml_2, ml_3, ml_4, ml_5, ml_6, ml_7, ml_8, zbx, n8, u8R, ptZ, opZ, bstr_size, bstr_data, zaa, zab, zac, push_cast, ↓reduceIte, reduceCtorEq, zB, zE, zA, zS, zL, zD, zM]
     all_goals refine dcall_mk t0 rfl ⟨rfl, rfl, trivial⟩ ?_
     all_goals simp only [hfn, gi, hgc, hC, w1, ml_1, ml_2, ml_3, ml_4, ml_5, ml_6, ml_7, ml_8, zbx, n8, u8R, ptZ, opZ, bstr_size, bstr_data, zaa, zab, zac, push_cast, ↓reduceIte, reduceCtorEq, zB, zE, zA, zS, zL, zD, zM]
     all_goals repeat refine And.intro (by first | omega | (simp; done) | (simp only [zad, zae, zaf] at hnl hwl hrl ⊢; omega) | (constructor <;> (simp only [zad, zae, zaf] at hnl hwl hrl ⊢; omega)) | (constructor <;> omega) | kernel_rfl) ?_
     all_goals refine ⟨⟨i + 1, at' + 1, _, _, _, by omega, by omega, by first | omega | (simp; done) | (simp only [zad, zae, zaf] at hnl hwl hrl ⊢; omega) | (simp; omega) | (simp at hnl hwl hrl ⊢; omega), by first | omega | (simp; done) | (simp only [zad, zae, zaf] at hnl hwl hrl ⊢; omega) | (simp; omega) | (simp at hnl hwl hrl ⊢; omega), by first | omega | (simp; done) | (simp only [zad, zae, zaf] at hnl hwl hrl ⊢; omega) | (simp; omega) | (simp at hnl hwl hrl ⊢; omega), hmk, by simp, ?_⟩, by omega⟩
     all_goals simp [mlos, zbx, n8, u8R, ptZ, opZ, ptR]
  ·have hi : i = ks.length := by omega
   subst hi
   have gi : decide (((ks.length : Nat) : Int) < ((ks.length : Nat) : Int)) = false := decide_eq_false (by omega)
   rw [List.drop_length, mkS] at hmk
   subst hmk
   simp only at hQ
   simp only [hfn, gi, bstr_size, zaa, zab, zac, push_cast, ↓reduceIte, reduceCtorEq, zB, zE, zA, zS, zL, zD, zM]
   refine cnd_mk (fun h16 => ?_) (fun h16 => ?_)
   ·have h16 : k = 16 := by simpa using h16
    have hK15 : K = 15 := by omega
    subst hK15
    have hk0 : ks = [] := by rw [← hks]; rfl
    subst hk0
    simp only [zae, Nat.le_zero, Nat.mul_zero] at hnl hwl hrl
    obtain rfl : ns = [] := zam.1 hnl
    obtain rfl : ws = [] := zam.1 hwl
    obtain rfl : rg = [] := zam.1 hrl
    subst h16
    rw [if_pos rfl] at hQ
    simp only [hfn, ml_1, zbx, n8, u8R, ptZ, opZ, push_cast, ↓reduceIte, reduceCtorEq, zB, zE, zA, zS, zL, zD, zM]
    refine run_loop [(2, false), (18, false), (6, false), (7, false)] (fun vs pos los => ∃ (j : Nat), j ≤ os.length ∧ j ≤ 60 ∧ vs = [.r (.sl 5 (os.map opR)), int .i64 j, .ptr 2000000 0 0, .ptr 2000001 0 0] ∧ pos = [] ∧ los = olos ((os.take j).filter opB))
     (fun vs _ _ => match vs with | [_, .r (.v (.int _ j)), _, _] => (60 - j).toNat | _ => 0) rfl ?_ ?_
    ·simp only [push_cast, ↓reduceIte, reduceCtorEq, zB, zE, zA, zS, zL, zD, zM]
     exact ⟨0, by omega, by omega, rfl, rfl⟩
    ·rintro vs pos los ⟨j, j0, j60, rfl, rfl, rfl⟩
     have gA : decide (((j : Nat) : Int) < ((os.length : Nat) : Int)) = decide (j < os.length) := by rw [zaj, decide_eq_true_eq, decide_eq_true_eq]; omega
     have gB : decide (((j : Nat) : Int) < 60) = decide (j < 60) := by rw [zaj, decide_eq_true_eq, decide_eq_true_eq]; omega
     by_cases hgo : j < os.length ∧ j < 60
     ·rw [decide_eq_true hgo.1] at gA
      rw [decide_eq_true hgo.2] at gB
      obtain ⟨o, ho⟩ : ∃ o, os[j]'hgo.1 = o := ⟨_, rfl⟩
      have hg : ∀ z, (os.map opR).getD j z = .agg [.v (.int .i64 o.k), .v (.int .i64 o.key), .v (.int .i64 o.x), .v (.int .i64 o.y), .v (.int .i64 o.v)] := fun z => by
       rw [zag]
       simp [hgo.1, ho, opR, n8]
      have wj : IntKind.i64.wrap ((j : Int) + 1) = (j : Int) + 1 := wrap_id (by omega)
      have hot := opok_t o
      have htk : (os.take (j + 1)).filter opB = (os.take j).filter opB ++ (if opB o = true then [o] else []) := by
       rw [List.take_succ_eq_append_getElem hgo.1, List.filter_append, ho]
       congr 1
       simp [List.filter]
       split <;> simp_all
      have hal : ((os.take j).filter opB).length ≤ 60 := by
       refine Nat.le_trans (List.length_filter_le _ _) ?_
       simp
       omega
      generalize (os.take j).filter opB = acc at htk hal ⊢
      cases hob : opB o with
      | true =>
       rw [hob] at hot
       rw [if_pos hob] at htk
       rcases acc with _ | ⟨a0, ar⟩ <;> simp only [olos, zbx, n8, u8R, ptZ, opZ, gA, gB, hg, wj, zaa, zab, zac, push_cast, ↓reduceIte, reduceCtorEq, zB, zE, zA, zS, zL, zD, zM]
       all_goals refine ⟨by have := hgo.1; omega, ?_⟩
       all_goals refine call_as (as' := [.r (opR o)]) rfl ?_
       all_goals refine call_mk hot rfl trivial ?_
       all_goals simp only [olos, zbx, n8, u8R, ptZ, opZ, gA, gB, hg, wj, zaa, zab, zac, push_cast, ↓reduceIte, reduceCtorEq, zB, zE, zA, zS, zL, zD, zM]
       all_goals repeat refine And.intro (by first | omega | (have := hgo.1; omega) | (simp; done) | (simp only [zad] at hal; constructor <;> omega) | (constructor <;> omega) | kernel_rfl) ?_
       all_goals refine ⟨⟨j + 1, by have := hgo.1; omega, by have := hgo.2; omega, by simp, ?_⟩, by omega⟩
       all_goals rw [htk]
       all_goals simp [olos, zbx, n8, u8R, ptZ, opZ, opR]
      | false =>
       rw [hob] at hot
       rw [if_neg (by rw [hob]; decide), List.append_nil] at htk
       rcases acc with _ | ⟨a0, ar⟩ <;> simp only [olos, zbx, n8, u8R, ptZ, opZ, gA, gB, hg, wj, zaa, zab, zac, push_cast, ↓reduceIte, reduceCtorEq, zB, zE, zA, zS, zL, zD, zM]
       all_goals refine ⟨by have := hgo.1; omega, ?_⟩
       all_goals refine call_as (as' := [.r (opR o)]) rfl ?_
       all_goals refine call_mk hot rfl trivial ?_
       all_goals simp only [olos, zbx, n8, u8R, ptZ, opZ, gA, gB, hg, wj, zaa, zab, zac, push_cast, ↓reduceIte, reduceCtorEq, zB, zE, zA, zS, zL, zD, zM]
       all_goals refine ⟨⟨j + 1, by have := hgo.1; omega, by have := hgo.2; omega, by simp, ?_⟩, by omega⟩
       all_goals rw [htk]
       all_goals rfl
     ·have hend : (os.take j).filter opB = (os.take 60).filter opB := by
       by_cases hj : j = 60
       ·rw [hj]
       ·have : j = os.length := by omega
        rw [zan (by omega), zan (show os.length ≤ 60 by omega)]
      rw [hend]
      unfold mkO at hQ
      have hcd : (bif decide (j < os.length) then decide (j < 60) else false) = false := by
       by_cases h1 : j < os.length
       ·rw [decide_eq_true h1, decide_eq_false (by omega)]
        rfl
       ·rw [decide_eq_false h1]
        rfl
      obtain ⟨G1, hG1⟩ : ∃ G, decide (j < os.length) = G := ⟨_, rfl⟩
      obtain ⟨G2, hG2⟩ : ∃ G, decide (j < 60) = G := ⟨_, rfl⟩
      rw [hG1] at gA hcd
      rw [hG2] at gB hcd
      generalize (os.take 60).filter opB = acc at hQ ⊢
      rcases acc with _ | ⟨a0, ar⟩
      ·rw [if_pos rfl] at hQ
       subst hQ
       cases G1 <;> cases G2 <;> first | (cases hcd; done) | skip
       all_goals simp only [olos, zbx, n8, u8R, ptZ, opZ, gA, gB, zaa, zab, zac, push_cast, ↓reduceIte, reduceCtorEq, zB, zE, zA, zS, zL, zD, zM]
       all_goals exact ⟨by simp, rfl⟩
      ·rw [if_neg (by simp)] at hQ
       subst hQ
       have g0 : (((ar.length : Nat) : Int) + 1 == 0) = false := by rw [beq_eq_false_iff_ne]; omega
       cases G1 <;> cases G2 <;> first | (cases hcd; done) | skip
       all_goals simp only [olos, zbx, n8, u8R, ptZ, opZ, gA, gB, g0, zaa, zab, zac, push_cast, ↓reduceIte, reduceCtorEq, zB, zE, zA, zS, zL, zD, zM]
       all_goals rfl
   ·have h16 : k ≠ 16 := by simpa using h16
    rw [if_neg h16] at hQ
    subst hQ
    rcases ns with _ | ⟨n0, nr⟩ <;> rcases ws with _ | ⟨w0, wr'⟩ <;> rcases rg with _ | ⟨g0, gr⟩ <;> simp only [AskD.av, askB, nilOr, hfn, ml_1, ml_2, ml_3, ml_4, ml_5, ml_6, ml_7, ml_8, zbx, n8, u8R, ptZ, opZ, zaa, zab, zac, push_cast, ↓reduceIte, reduceCtorEq, zB, zE, zA, zS, zL, zD, zM]
    all_goals first | rfl | kernel_rfl | exact ⟨rfl, rfl⟩

def small30 (p : Int × Int) : Prop := (0 ≤ p.1 ∧ p.1 < 1073741824) ∧ (0 ≤ p.2 ∧ p.2 < 1073741824)
theorem mkR_len (l : List Int) : ∀ (f k at' : Nat) (rg : List (Int × Int)), f + k = 8 → k ≤ 6 → (∀ p ∈ rg, small30 p) →
  rg.length + (3 - k) ≤ (mkR l f k at' rg).2.length ∧ (mkR l f k at' rg).2.length ≤ rg.length + (6 - k) ∧ ∀ p ∈ (mkR l f k at' rg).2, small30 p
 | 0, k, at', rg, hf, hk, h => by omega
 | f + 1, k, at', rg, hf, hk, h => by
  rw [mkR]
  split
  ·rename_i hlt
   have hk5 : k ≤ 5 := by omega
   have := mkR_len l f (k + 1) (at' + 3) (rg ++ [(nx l (at' + 1) % 1073741824, nx l (at' + 2) % 1073741824)]) (by omega) (by omega) (fun p hp => by
    rcases List.mem_append.1 hp with hp | hp
    ·exact h p hp
    ·rw [List.mem_singleton] at hp
     subst hp
     exact ⟨⟨by simp only; omega, by simp only; omega⟩, ⟨by simp only; omega, by simp only; omega⟩⟩)
   obtain ⟨h1, h2, h3⟩ := this
   simp only [zaf, zad, zae] at h1 h2
   exact ⟨by omega, by omega, h3⟩
  ·rename_i hge
   have : 3 ≤ k := by omega
   exact ⟨by simp only; omega, by simp only; omega, h⟩
def wordOk (w : Nat) : Prop := w < 18446744073709551616 ∧ isWB w = true
theorem some_word (x y r : Int) : wordOk (word (someR r) (someC x y r)) := ⟨word_lt _ _ (someC_okc x y r), isWB_word (someC_okc x y r)⟩
theorem mkS_ok (l : List Int) (hl : ∀ n ∈ l, in64 n) (k : Int) (os : List Op5) : ∀ (ks : Bs) (at' : Nat) (ns : List Int) (ws : List Nat) (rg : List (Int × Int)),
  (∀ n ∈ ns, in64 n) → (∀ w ∈ ws, wordOk w) → (∀ p ∈ rg, small30 p) → ks.count 112 ≤ 1 → (112 ∈ ks → rg = []) → (wordB k 112 = false) →
  ∃ n2 w2 rg', (mkS l k ks at' ns ws rg).2 = (ns ++ n2, ws ++ w2, rg') ∧ (∀ n ∈ ns ++ n2, in64 n) ∧ (∀ w ∈ ws ++ w2, wordOk w) ∧ (∀ p ∈ rg', small30 p) ∧ (112 ∉ ks → rg' = rg) ∧ n2.length ≤ ks.length ∧ w2.length ≤ ks.length ∧ rg'.length ≤ rg.length + 6 ∧
   ∀ (a : AskD), a.k = k → a.ns = ns ++ n2 → a.ws = ws ++ w2 → a.rg = rg' → ∀ (b : Bool) (s : Bs) (r : Nat), (112 ∉ ks → r = rg.length) →
    ∃ s', txS a ks b s ns.length ws.length r = some (s', (ns ++ n2).length, (ws ++ w2).length, rg'.length) ∧ s.length ≤ s'.length ∧ s'.length ≤ s.length + 500 * ks.length
 | [], at', ns, ws, rg, hn, hw, hr, _, _, _ => by
  refine ⟨[], [], rg, by simp [mkS], by simpa using hn, by simpa using hw, hr, fun _ => rfl, by simp, by simp, by omega, ?_⟩
  intro a ha1 ha2 ha3 ha4 b s r hrr
  exact ⟨s, by rw [txS, hrr (by simp)]; simp, by omega, by omega⟩
 | c :: ks, at', ns, ws, rg, hn, hw, hr, hc, hp, hwp => by
  rw [mkS]
  have hc' : ks.count 112 ≤ 1 := Nat.le_trans (List.count_le_count_cons) hc
  by_cases hW : wordB k c = true
  ·rw [if_pos hW]
   have hne : c ≠ 112 := fun e => by rw [e, hwp] at hW; cases hW
   obtain ⟨V, hV⟩ : ∃ V, word (someR (nx l (at' + 2) % 16)) (someC (nx l at') (nx l (at' + 1)) (nx l (at' + 2) % 16)) = V := ⟨_, rfl⟩
   have hVk : wordOk V := by rw [← hV]; exact some_word _ _ _
   rw [hV]
   obtain ⟨n2, w2, rg', h1, h2, h3, h4, h5, h6, h7, h8, h9⟩ := mkS_ok l hl k os ks (at' + 3) ns (ws ++ [V]) rg hn (fun w h => by
    rcases List.mem_append.1 h with h | h
    ·exact hw w h
    ·rw [List.mem_singleton] at h
     rw [h]
     exact hVk) hr hc' (fun h => hp (by simp [h])) hwp
   refine ⟨n2, V :: w2, rg', by rw [h1, zai]; rfl, h2, by rw [zai] at h3; exact h3, h4, fun h => h5 (fun h' => h (by simp [h'])), by simp; omega, by simp; omega, h8, ?_⟩
   intro a ha1 ha2 ha3 ha4 b s r hrr
   rw [txS, ha1, if_pos hW]
   have hget : a.ws.getD ws.length 0 = V := by
    rw [ha3, zag, List.getElem?_append_right (Nat.le_refl _)]
    simp
   have hlt : ws.length < a.ws.length := by rw [ha3]; simp
   rw [hget, if_pos ⟨hlt, hVk.2⟩]
   obtain ⟨s', e1, e2, e3⟩ := h9 a ha1 ha2 (by rw [ha3, zai]; rfl) ha4 false (s ++ ([if b then 63 else 38] ++ ([c, 61] ++ hexN V 16))) r (fun h => hrr (by simp only [List.mem_cons, not_or]; exact ⟨fun e => hne e.symm, h⟩))
   have hl' : (ws ++ [V]).length = ws.length + 1 := by simp
   rw [hl'] at e1
   have hx := hexN_len V 16
   simp only [zaf, zad, zae, hx] at e2 e3
   refine ⟨s', by rw [e1, zai]; rfl, by omega, ?_⟩
   simp only [zad]
   omega
  ·rw [if_neg hW]
   by_cases h112 : c = 112
   ·rw [if_pos h112]
    subst h112
    have hrg : rg = [] := hp (by simp)
    subst hrg
    have hnp : (112 : UInt8) ∉ ks := fun h => by
     rw [List.count_cons_self] at hc
     have := List.count_pos_iff.2 h
     omega
    obtain ⟨m1, m2, m3⟩ := mkR_len l 8 0 at' [] rfl (by omega) (by simp)
    obtain ⟨⟨a2, RG⟩, hRG⟩ : ∃ x, mkR l 8 0 at' [] = x := ⟨_, rfl⟩
    rw [hRG] at m1 m2 m3 ⊢
    simp only [zae] at m1 m2 m3
    obtain ⟨n2, w2, rg', h1, h2, h3, h4, h5, h6, h7, h8, h9⟩ := mkS_ok l hl k os ks a2 ns ws RG hn hw m3 hc' (fun h => absurd h hnp) hwp
    have hrr := h5 hnp
    subst hrr
    refine ⟨n2, w2, rg', h1, h2, h3, h4, fun h => absurd (by simp) h, by simp; omega, by simp; omega, by simp; omega, ?_⟩
    intro a ha1 ha2 ha3 ha4 b s r hrr
    rw [txS, ha1, if_neg hW, if_pos rfl, ha4, if_pos ⟨by omega, by omega⟩]
    obtain ⟨s', e1, e2, e3⟩ := h9 a ha1 ha2 ha3 ha4 false (s ++ ([if b then 63 else 38] ++ ([112, 61] ++ rgT rg'))) rg'.length (fun _ => rfl)
    have hT := rgT_len rg' (fun p hp => by
     obtain ⟨⟨q1, q2⟩, q3, q4⟩ := h4 p hp
     exact ⟨⟨by omega, by omega⟩, ⟨by omega, by omega⟩⟩)
    simp only [zaf, zad, zae] at e2 e3
    refine ⟨s', e1, by omega, ?_⟩
    simp only [zad]
    omega
   ·rw [if_neg h112]
    obtain ⟨V, hV⟩ : ∃ V, nx l at' = V := ⟨_, rfl⟩
    have hVk : in64 V := by rw [← hV]; exact nx_in hl _
    rw [hV]
    obtain ⟨n2, w2, rg', h1, h2, h3, h4, h5, h6, h7, h8, h9⟩ := mkS_ok l hl k os ks (at' + 1) (ns ++ [V]) ws rg (fun n h => by
     rcases List.mem_append.1 h with h | h
     ·exact hn n h
     ·rw [List.mem_singleton] at h
      rw [h]
      exact hVk) hw hr hc' (fun h => hp (by simp [h])) hwp
    refine ⟨V :: n2, w2, rg', by rw [h1, zai]; rfl, by rw [zai] at h2; exact h2, h3, h4, fun h => h5 (fun h' => h (by simp [h'])), by simp; omega, by simp; omega, h8, ?_⟩
    intro a ha1 ha2 ha3 ha4 b s r hrr
    rw [txS, ha1, if_neg hW, if_neg h112]
    have hget : a.ns.getD ns.length 0 = V := by
     rw [ha2, zag, List.getElem?_append_right (Nat.le_refl _)]
     simp
    have hlt : ns.length < a.ns.length := by rw [ha2]; simp
    rw [hget, if_pos hlt]
    obtain ⟨s', e1, e2, e3⟩ := h9 a ha1 (by rw [ha2, zai]; rfl) ha3 ha4 false (s ++ ([if b then 63 else 38] ++ ([c, 61] ++ Lib.itoa V))) r (fun h => hrr (by simp only [List.mem_cons, not_or]; exact ⟨fun e => h112 e.symm, h⟩))
    have hl' : (ns ++ [V]).length = ns.length + 1 := by simp
    rw [hl'] at e1
    have hx := itoa_len V hVk
    simp only [zaf, zad, zae] at e2 e3
    refine ⟨s', by rw [e1, zai]; rfl, by omega, ?_⟩
    simp only [zad]
    omega
theorem mkO_ok (os : List Op5) : mkO os ≠ [] ∧ (mkO os).all opB = true ∧ (mkO os).length ≤ 60 := by
 unfold mkO
 split
 ·exact ⟨by simp, by decide, by decide⟩
 ·rename_i h
  refine ⟨h, ?_, Nat.le_trans (List.length_filter_le _ _) (by simp; omega)⟩
  rw [List.all_eq_true]
  intro o ho
  exact (List.mem_filter.1 ho).2
theorem keys_one : ∀ K : Fin 16, (keysL.getD K.val []).count 112 ≤ 1 ∧ wordB ((K.val : Int) + 1) 112 = false ∧ (keysL.getD K.val []).length ≤ 5 := by decide
theorem names_ok : ∀ K : Fin 16, nmS ((K.val : Int) + 1) ≠ [] ∧ (nmS ((K.val : Int) + 1)).length ≤ 10 := by decide
theorem made_ok (kind : Int) (l : List Int) (os : List Op5) (hl : ∀ n ∈ l, in64 n) : AskOk (makeD kind l os) ∧ (textS (makeD kind l os)).2 = true ∧ (textS (makeD kind l os)).1 ≠ [] ∧ (textS (makeD kind l os)).1.length ≤ 10000 := by
 obtain ⟨K, hK⟩ : ∃ K : Nat, kind % 16 = (K : Int) := ⟨(kind % 16).toNat, by omega⟩
 have hK16 : K < 16 := by omega
 obtain ⟨q1, q2, q3⟩ := keys_one ⟨K, hK16⟩
 obtain ⟨q4, q5⟩ := names_ok ⟨K, hK16⟩
 simp only at q1 q2 q3 q4 q5
 obtain ⟨n2, w2, rg', h1, h2, h3, h4, h5, h6, h7, h8, h9⟩ := mkS_ok l hl ((K : Int) + 1) os (keysL.getD K []) 0 [] [] [] (by simp) (by simp) (by simp) q1 (fun _ => rfl) q2
 have hm : makeD kind l os = ⟨(K : Int) + 1, n2, w2, rg', if (K : Int) + 1 = 16 then mkO os else []⟩ := by
  unfold makeD kindS
  rw [hK, zaa]
  simp only [h1, List.nil_append]
 rw [hm]
 simp only [List.nil_append] at h2 h3 h9
 obtain ⟨o1, o2, o3⟩ := mkO_ok os
 constructor
 ·refine ⟨⟨by simp only; omega, by simp only; omega⟩, h2, fun w h => (h3 w h).1, fun p hp => ?_, ?_, ?_, ?_, ?_⟩
  ·obtain ⟨⟨q1, q2⟩, q3, q4⟩ := h4 p hp
   exact ⟨⟨by omega, by omega⟩, ⟨by omega, by omega⟩⟩
  ·simp only; omega
  ·simp only; omega
  ·simp only [zae] at h8 ⊢; omega
  ·simp only
   split
   ·omega
   ·simp
 ·by_cases h16 : K = 15
  ·subst h16
   have hk0 : keysL.getD 15 [] = [] := rfl
   rw [hk0] at h1
   simp only [mkS] at h1
   simp only [List.nil_append, Prod.mk.injEq] at h1
   obtain ⟨rfl, rfl, rfl⟩ := h1
   have e16 : ((15 : Nat) : Int) + 1 = 16 := rfl
   rw [e16] at q4 ⊢
   rw [if_pos rfl]
   unfold textS
   simp only
   rw [if_neg q4, if_pos trivial]
   have hb : batchE (mkO os) = 0 := by
    unfold batchE
    rw [if_neg (by omega), if_neg (fun h => h.elim o1 (fun h => by rw [o2] at h; cases h))]
   rw [if_neg (fun h => h.elim (fun h => h hb) (fun h => h.elim (fun h => h rfl) (fun h => h.elim (fun h => h rfl) (fun h => h rfl))))]
   have hlen := opsBs_len (mkO os)
   have hn16 : (nmS 16).length ≤ 10 := by decide
   have hle : (47 :: (nmS 16 ++ 10 :: opsBs (mkO os))).length ≤ 10000 := by
    simp only [zad, zaf]
    omega
   exact ⟨decide_eq_true hle, by simp, hle⟩
  ·have hk16 : ¬ ((K : Int) + 1 = 16) := by omega
   rw [if_neg hk16]
   unfold textS
   simp only
   rw [if_neg q4, if_neg hk16, show ((K : Int) + 1 - 1).toNat = K by omega]
   obtain ⟨s', e1, e2, e3⟩ := h9 ⟨(K : Int) + 1, n2, w2, rg', []⟩ rfl rfl rfl rfl true (47 :: nmS ((K : Int) + 1)) 0 (fun _ => rfl)
   simp only [zae] at e1
   rw [e1]
   simp only [zad] at e2 e3
   simp only
   rw [if_neg (fun h => h.elim (fun h => h rfl) (fun h => h.elim (fun h => h rfl) (fun h => h.elim (fun h => h rfl) (fun h => h.elim (fun h => h rfl) (fun h => by omega)))))]
   refine ⟨rfl, fun h => ?_, by simp only; omega⟩
   simp only at h
   rw [h] at e2
   simp at e2

noncomputable def apiarylaw25_AskParses_pc : PC :=
  (.seq (.reg [p_s 14 (.mov (.c (.r (.v (.bool false)))))])
 (.seq (.seq (.reg [p_m 24 0, p_s 25 (.len false (.t 24)), p_s 26 (.bin .gtr (.t 25) (o_i 10010)), p_m 27 26, p_g 28 27 false (.mov (.t 2)), p_g 29 27 false (.len false (.t 28)), p_g 30 27 false (.bin .gtr (.t 29) (o_i 40)),
 p_s 31 (.pick (.t 27) (.c (.r (.v (.bool true)))) (.t 30)), p_m 32 31, p_g 33 32 false (.mov (.t 3)), p_g 34 32 false (.len false (.t 33)), p_g 35 32 false (.bin .gtr (.t 34) (o_i 100)),
 p_s 36 (.pick (.t 32) (.c (.r (.v (.bool true)))) (.t 35))])
 (.cond (.t 36)
 (.seq (.reg [p_c 37 1 9 [], p_m 14 37])
 .ret)
 .skip))
 (.seq (.reg [p_m 39 1, p_m 40 2, p_m 41 3, p_c 42 2 16 [.t 39, .t 40, .t 41], p_c 43 3 15 [.t 42], p_m 38 43, p_s 44 (.ext (.t 38) 0), p_s 45 (.ext (.t 38) 1), p_m 15 44, p_m 16 45])
 (.seq (.seq (.reg [p_m 46 16, p_s 47 (.un .not (.t 46)), p_m 48 47, p_g 49 48 false (.mov (.t 15)), p_g 50 48 false (.len true (.t 49)), p_g 51 48 false (.bin .eql (.t 50) (o_i 0)),
 p_s 52 (.pick (.t 48) (.c (.r (.v (.bool true)))) (.t 51))])
 (.cond (.t 52)
 (.seq (.reg [p_s 14 (.mov (.c (.r (.v (.bool false)))))])
 .ret)
 .skip))
 (.seq (.reg [p_m 53 15, p_a 54 (.toBytes (.v (.int .u8 0)) (.t 53)), p_m 17 54])
 (.seq (.reg [p_m 55 17, p_m 56 4, p_s 57 (.bin .and (.t 56) (o_i 65535)), p_m 58 17, p_s 59 (.len false (.t 58)), p_s 60 (.bin .rem (.t 57) (.t 59)), p_s 61 (.ia 1 (.v (.int .u8 0)) (.t 55) (.t 60)),
 p_s 62 (.ld none (.t 61)), p_m 63 5, p_s 64 (.bin .xor (.t 62) (.t 63)), p_s 65 (.ia 1 (.v (.int .u8 0)) (.t 55) (.t 60)), ⟨none, none, 0, .act (.st 1 (.t 65) (.t 64))⟩])
 (.seq (.reg [p_m 66 17, p_m 67 17, p_s 68 (.len false (.t 67)), p_m 69 6, p_s 70 (.bin .and (.t 69) (o_i 31)), p_m 71 17, p_s 72 (.len false (.t 71)), p_s 73 (.bin .add (.t 72) (o_i 1)),
 p_s 74 (.bin .rem (.t 70) (.t 73)), p_s 75 (.bin .sub (.t 68) (.t 74)), p_s 76 (.sll 1 (.t 66) none (some (.t 75)) none), p_m 17 76])
 (.seq (.seq (.reg [p_s 18 (.mov (o_i 0))])
 (.block 0 (.loop (.seq (.seq (.reg [p_m 77 18, p_s 78 (.bin .lss (.t 77) (o_i 3))])
 (.cond (.t 78)
 .skip
 (.exit 0)))
 (.seq (.block 1 (.seq (.reg [p_m 81 0, p_m 82 17, p_m 83 15, p_a 84 (.toBytes (.v (.int .u8 0)) (.t 83)), p_a 85 (.bsl 1 (.sl 1 []) [(.t 81), (.t 82), (.t 84)]), p_m 86 18, p_s 87 (.ia 1 (.sl 1 []) (.t 85) (.t 86)),
 p_s 88 (.ld none (.t 87)), p_m 19 88])
 (.seq (.reg [p_m 90 19, p_c 91 4 11 [.t 90], p_m 89 91, p_s 92 (.ext (.t 89) 0), p_s 93 (.ext (.t 89) 1), p_a 20 (.new [(.r (.v (.int .i64 0))), (.nils 1 (.v (.int .i64 0))), (.nils 1 (.v (.int .u64 0))), (.nils 2 (.agg [(.v (.int .i64 0)), (.v (.int .i64 0))])), (.nils 5 (.agg [(.v (.int .i64 0)), (.v (.int .i64 0)), (.v (.int .i64 0)), (.v (.int .i64 0)), (.v (.int .i64 0))]))]),
 ⟨none, none, 0, .act (.st 5 (.t 20) (.t 92))⟩, p_m 21 93])
 (.seq (.reg [p_m 95 19, p_s 96 (.toStr (.t 95)), p_c 97 5 17 [.t 96], p_m 94 97, p_s 98 (.ext (.t 94) 0), p_s 99 (.ext (.t 94) 1), p_a 22 (.new [(.r (.v (.int .i64 0))), (.nils 1 (.v (.int .i64 0))), (.nils 1 (.v (.int .u64 0))), (.nils 2 (.agg [(.v (.int .i64 0)), (.v (.int .i64 0))])), (.nils 5 (.agg [(.v (.int .i64 0)), (.v (.int .i64 0)), (.v (.int .i64 0)), (.v (.int .i64 0)), (.v (.int .i64 0))]))]),
 ⟨none, none, 0, .act (.st 5 (.t 22) (.t 98))⟩, p_m 23 99])
 (.seq (.reg [p_m 100 21, p_m 101 23, p_s 102 (.bin .neq (.t 100) (.t 101)), p_m 103 102, p_g 104 103 false (.ld (some 5) (.t 20)), p_g 105 103 false (.ld (some 5) (.t 22)), ⟨(some 106), (some (103, false)), 6, .call 18 [(.t 104), (.t 105)]⟩,
 p_g 107 103 false (.un .not (.t 106)), p_s 108 (.pick (.t 103) (.c (.r (.v (.bool true)))) (.t 107))])
 (.cond (.t 108)
 (.seq (.reg [p_s 14 (.mov (.c (.r (.v (.bool false)))))])
 .ret)
 .skip))))))
 (.reg [p_m 79 18, p_s 80 (.bin .add (.t 79) (o_i 1)), p_m 18 80]))))))
 (.seq (.reg [p_c 109 7 9 [], p_m 14 109])
 .ret)))))))))
theorem apiarylaw25_AskParses_triple : Fun P0 5 7 [(14, false, none)] apiarylaw25_AskParses_pc := fun_mk Go.Proofs.Tryz.func5 rfl (by decide) (by kernel_rfl) (by decide) rfl (by kernel_rfl) (by kernel_rfl) (by decide)
theorem sameB_refl (a : AskD) : sameB a.k a.ns a.ws a.rg a.os a.k a.ns a.ws a.rg a.os = true := by simp [sameB]
theorem cornD_len : ∀ (l : List Bs) (out : List (Int × Int)), (cornD l out).1.length ≤ out.length + l.length
 | [], out => by simp [cornD]
 | [a], out => by simp [cornD]
 | a :: b :: r, out => by
  rw [cornD]
  cases pv a with
  | none => simp
  | some x =>
   cases pv b with
   | none => simp
   | some y =>
    have := cornD_len r (out ++ [(x, y)])
    simp only [zaf, zad, zae] at this ⊢
    omega
theorem qk_lens (k : Int) : ∀ (ks : Bs) (ps : List Bs) (ns : List Int) (ws : List Bs) (rg : List (Int × Int)), (qk k ks ps ns ws rg).1.1.length ≤ ns.length + ks.length ∧ (qk k ks ps ns ws rg).1.2.2.length ≤ rg.length + 200 * ks.length
 | [], ps, ns, ws, rg => by simp [qk]
 | c :: ks, ps, ns, ws, rg => by
  rw [qk]
  split
  ·simp
  ·rename_i v _
   split
   ·have := qk_lens k ks ps.tail ns (ws ++ [v]) rg
    simp only [zad] at this ⊢
    omega
   ·split
    ·split
     ·simp
     ·rename_i hb
      have hc := cornD_len (pieces 44 v) rg
      split
      ·have := qk_lens k ks ps.tail ns ws (cornD (pieces 44 v) rg).1
       simp only [zad] at this ⊢
       omega
      ·simp only [zad]
       omega
    ·split
     ·simp
     ·rename_i n _
      have := qk_lens k ks ps.tail (ns ++ [n]) ws rg
      simp only [zad, zaf, zae] at this ⊢
      omega
theorem wordsP_len : ∀ (ws : List Bs) (acc wl : List Nat), wordsP ws acc = .ok wl → wl.length = acc.length + ws.length
 | [], acc, wl, h => by simp [wordsP] at h; simp [h]
 | s :: r, acc, wl, h => by
  rw [wordsP] at h
  split at h
  ·have := wordsP_len r _ wl h
   simp at this ⊢
   omega
  ·cases h
theorem keys_len (K : Nat) : (keysL.getD K []).length ≤ 5 := by
 by_cases h : K < 16
 ·have : ∀ i : Fin 16, (keysL.getD i.val []).length ≤ 5 := by decide
  exact this ⟨K, h⟩
 ·rw [zag, zak (show keysL.length ≤ K by show 16 ≤ K; omega)]
  simp
def lensOk (a : AskD) : Prop := a.ns.length ≤ 1000000 ∧ a.ws.length ≤ 1000000 ∧ a.rg.length ≤ 1000000 ∧ a.os.length ≤ 1000000
theorem rqS_lens (k : Int) (ks s : Bs) (hk : ks.length ≤ 5) : (rqS k ks s).1.1.length ≤ 5 ∧ (rqS k ks s).1.2.2.length ≤ 1000 := by
 unfold rqS
 split
 ·split <;> simp
 ·split
  ·simp
  ·split
   ·simp
   ·have := qk_lens k ks (pieces 38 s.tail) [] [] []
    simp only [qst, zae] at this ⊢
    omega
theorem body_lens (kd : Nat) (rest : Bs) : lensOk (bodyS kd rest).1.1 := by
 have z : lensOk ask0 := by unfold lensOk ask0; simp
 unfold bodyS
 split
 ·cases ho : ropsR rest.tail with
  | none => exact z
  | some os =>
   refine ⟨by simp [loadD], by simp [loadD], by simp [loadD], ?_⟩
   unfold ropsR at ho
   split at ho
   ·cases ho
   ·split at ho
    ·cases ho
    ·rename_i h
     cases ho
     have h : batchE os = 0 := by simpa using h
     unfold batchE at h
     split at h
     ·cases h
     ·simp only [loadD]
      omega
 ·split
  ·exact z
  ·obtain ⟨h1, h2⟩ := rqS_lens kd (keysL.getD (kd - 1) []) rest (keys_len _)
   have h3 := rqS_ws kd (keysL.getD (kd - 1) []) rest (keys_len _)
   cases hw : wordsP (rqS kd (keysL.getD (kd - 1) []) rest).1.2.1 [] with
   | error e => exact z
   | ok wl =>
    have := wordsP_len _ _ _ hw
    simp only [zae] at this
    refine ⟨?_, ?_, ?_, ?_⟩ <;> simp only [finD, zae] <;> omega
theorem parse_lens (l : Bs) : lensOk (parseD l).1 := by
 have z : lensOk ask0 := by unfold lensOk ask0; simp
 rw [parse_doc]
 unfold askS
 split
 ·exact z
 ·split
  ·exact z
  ·split
   ·exact z
   ·exact body_lens _ _
theorem xor8 (c d : UInt8) : IntKind.u8.wrap ((zah IntKind.u8.bits ((c.toNat : Nat) : Int) ^^^ zah IntKind.u8.bits ((d.toNat : Nat) : Int)).toNat : Int) = (((c ^^^ d).toNat : Nat) : Int) := by
 have hc := c.toNat_lt
 have hd := d.toNat_lt
 have hx := (c ^^^ d).toNat_lt
 rw [show IntKind.u8.bits = 8 from rfl, BitVec.toNat_xor, BitVec.toNat_ofInt, BitVec.toNat_ofInt, UInt8.toNat_xor]
 rw [UInt8.toNat_xor] at hx
 have e1 : (((c.toNat : Nat) : Int) % ((2 ^ 8 : Nat) : Int)).toNat = c.toNat := by
  rw [show ((2 ^ 8 : Nat) : Int) = 256 from rfl]
  omega
 have e2 : (((d.toNat : Nat) : Int) % ((2 ^ 8 : Nat) : Int)).toNat = d.toNat := by
  rw [show ((2 ^ 8 : Nat) : Int) = 256 from rfl]
  omega
 rw [e1, e2, IntKind.wrap_u8]
 omega
theorem make_w (kind : Int) (l : List Int) (os : List Op5) (hk : in64 kind) (hl : ∀ n ∈ l, in64 n) (hol : os.length ≤ 100000) (hll : l.length ≤ 100000) :
  Triple P0 16 [int .i64 kind, .r (.sl 1 (l.map n8)), .r (.sl 5 (os.map opR))] [] (.r (makeD kind l os).rv) [] :=
 (make_t kind l os hk hl hol hll).weak (ask_weak _)
set_option maxHeartbeats 4000000 in
theorem parses_law (b : Bs) (kind : Int) (l : List Int) (os : List Op5) (pos_ : Int) (by_ : UInt8) (cut : Int) (hk : in64 kind) (hl : ∀ n ∈ l, in64 n) (ha : in64 pos_) (hc : in64 cut) :
  Triple P0 5 [sb b, int .i64 kind, .r (.sl 1 (l.map n8)), .r (.sl 5 (os.map opR)), int .i64 pos_, int .u8 by_.toNat, int .i64 cut] [] (bl true) [] := by
 refine apiarylaw25_AskParses_triple rfl (by decide) ?_
 have gA : decide (((b.length : Nat) : Int) > 10010) = decide (b.length > 10010) := by rw [zaj, decide_eq_true_eq, decide_eq_true_eq]; omega
 have gB : decide (((l.length : Nat) : Int) > 40) = decide (l.length > 40) := by rw [zaj, decide_eq_true_eq, decide_eq_true_eq]; omega
 have gC : decide (((os.length : Nat) : Int) > 100) = decide (os.length > 100) := by rw [zaj, decide_eq_true_eq, decide_eq_true_eq]; omega
 by_cases hA : b.length > 10010
 ·rw [decide_eq_true hA] at gA
  simp only [apiarylaw25_AskParses_pc, gA, push_cast, ↓reduceIte, reduceCtorEq, zB, zE, zA, zS, zL, zD, zM]
  refine call_mk askawake_t rfl trivial ?_
  simp only [push_cast, ↓reduceIte, reduceCtorEq, zB, zE, zA, zS, zL, zD, zM]
 ·rw [decide_eq_false hA] at gA
  by_cases hB : l.length > 40
  ·rw [decide_eq_true hB] at gB
   simp only [apiarylaw25_AskParses_pc, gA, gB, push_cast, ↓reduceIte, reduceCtorEq, zB, zE, zA, zS, zL, zD, zM]
   refine call_mk askawake_t rfl trivial ?_
   simp only [push_cast, ↓reduceIte, reduceCtorEq, zB, zE, zA, zS, zL, zD, zM]
  ·rw [decide_eq_false hB] at gB
   by_cases hC : os.length > 100
   ·rw [decide_eq_true hC] at gC
    simp only [apiarylaw25_AskParses_pc, gA, gB, gC, push_cast, ↓reduceIte, reduceCtorEq, zB, zE, zA, zS, zL, zD, zM]
    refine call_mk askawake_t rfl trivial ?_
    simp only [push_cast, ↓reduceIte, reduceCtorEq, zB, zE, zA, zS, zL, zD, zM]
   ·rw [decide_eq_false hC] at gC
    obtain ⟨hok, htx, hne, hle⟩ := made_ok kind l os hl
    have hmk := make_w kind l os hk hl (by omega) (by omega)
    obtain ⟨M, hM⟩ : ∃ M, makeD kind l os = M := ⟨_, rfl⟩
    rw [hM] at hok htx hne hle hmk
    have htt := rtxt_t M hok
    obtain ⟨⟨S, O⟩, hS⟩ : ∃ x, textS M = x := ⟨_, rfl⟩
    rw [hS] at htx hne hle htt
    simp only at htx hne hle htt
    subst htx
    have hrv : M.rv = .agg [.v (.int .i64 M.k), .sl 1 (M.ns.map n8), .sl 1 (M.ws.map u8R), .sl 2 (M.rg.map ptR), .sl 5 (M.os.map opR)] := rfl
    have hSl : 1 ≤ S.length := by
     cases S with
     | nil => exact absurd rfl hne
     | cons c r => simp
    have gS : (((S.length : Nat) : Int) == 0) = false := by rw [beq_eq_false_iff_ne]; omega
    have hmax := maxLen_big
    obtain ⟨I, hI, hIl⟩ : ∃ I : Nat, (IntKind.i64.wrap ((zah IntKind.i64.bits pos_ &&& zah IntKind.i64.bits 65535).toNat)).tmod ((S.length : Nat) : Int) = (I : Int) ∧ I < S.length := by
     have := and_mask pos_ 65535 16 (by decide) (by decide)
     rw [this, show (2 : Int) ^ 16 = 65536 from rfl, zal (by omega)]
     refine ⟨(pos_ % 65536 % (S.length : Int)).toNat, ?_, ?_⟩
     ·have := Int.emod_nonneg (pos_ % 65536) (show ((S.length : Nat) : Int) ≠ 0 by omega)
      omega
     ·have := Int.emod_nonneg (pos_ % 65536) (show ((S.length : Nat) : Int) ≠ 0 by omega)
      have := Int.emod_lt_of_pos (pos_ % 65536) (show (0 : Int) < ((S.length : Nat) : Int) by omega)
      omega
    obtain ⟨N, hN, hNl⟩ : ∃ N : Nat, IntKind.i64.wrap (((S.length : Nat) : Int) - (IntKind.i64.wrap ((zah IntKind.i64.bits cut &&& zah IntKind.i64.bits 31).toNat)).tmod (((S.length : Nat) : Int) + 1)) = (N : Int) ∧ N ≤ S.length := by
     have := and_mask cut 31 5 (by decide) (by decide)
     rw [this, show (2 : Int) ^ 5 = 32 from rfl, zal (by omega)]
     have h1 := Int.emod_nonneg (cut % 32) (show ((S.length : Nat) : Int) + 1 ≠ 0 by omega)
     have h2 := Int.emod_lt_of_pos (cut % 32) (show (0 : Int) < ((S.length : Nat) : Int) + 1 by omega)
     refine ⟨(((S.length : Nat) : Int) - cut % 32 % (((S.length : Nat) : Int) + 1)).toNat, ?_, by omega⟩
     rw [wrap_id (by omega)]
     omega
    have wS : IntKind.i64.wrap (((S.length : Nat) : Int) + 1) = ((S.length : Nat) : Int) + 1 := wrap_id (by omega)
    have hgI : ∀ z, (bys S).getD I z = .v (.int .u8 (S.getD I 0).toNat) := fun z => by
     rw [zag, zag]
     simp [hIl, by8]
    obtain ⟨c0, hc0⟩ : ∃ c, S.getD I 0 = c := ⟨_, rfl⟩
    rw [hc0] at hgI
    have hx8 := xor8 c0 by_
    have hset : (bys S).set I (.v (.int .u8 (((c0 ^^^ by_).toNat : Nat) : Int))) = bys (S.set I (c0 ^^^ by_)) := by
     show (List.map by8 S).set I (by8 (c0 ^^^ by_)) = List.map by8 (S.set I (c0 ^^^ by_))
     rw [List.map_set]
    have hby : ∀ X : Bs, (X.map fun b => RV.v (.int .u8 ((b.toNat : Nat) : Int))) = bys X := fun _ => rfl
    obtain ⟨C, hCd⟩ : ∃ C, S.set I (c0 ^^^ by_) = C := ⟨_, rfl⟩
    have hCl : C.length = S.length := by rw [← hCd]; simp
    rw [hCd] at hset
    simp only [apiarylaw25_AskParses_pc, gA, gB, gC, push_cast, ↓reduceIte, reduceCtorEq, zB, zE, zA, zS, zL, zD, zM]
    refine call_mk hmk rfl trivial ?_
    simp only [hrv, push_cast, ↓reduceIte, reduceCtorEq, zB, zE, zA, zS, zL, zD, zM]
    refine call_as (as' := [.r M.rv]) rfl ?_
    refine call_mk htt rfl trivial ?_
    simp only [gS, hI, wS, hN, hby, hgI, hx8, hset, bstr_size, bstr_data, zaa, zab, zac, push_cast, ↓reduceIte, reduceCtorEq, zB, zE, zA, zS, zL, zD, zM]
    refine ⟨by omega, by omega, by omega, by omega, by omega, by omega, ?_⟩
    have fin : ∀ X : Bs, X.length ≤ 100000 → True := fun _ _ => trivial
    refine run_loop [(0, false), (15, false), (17, false), (18, false)] (fun vs pos los => ∃ (i : Nat) (wr : Bool), i ≤ 3 ∧ vs = [sb b, sV S, .own 2000000 0 0 N, int .i64 i] ∧ pos = [] ∧ los = [.row 1 (.v (.int .u8 0)) false wr (bys C)])
     (fun vs _ _ => match vs with | [_, _, _, .r (.v (.int _ j))] => (3 - j).toNat | _ => 0) rfl ?_ ?_
    ·simp only [push_cast, ↓reduceIte, reduceCtorEq, zB, zE, zA, zS, zL, zD, zM]
     exact ⟨0, true, by omega, by simp <;> omega, rfl⟩
    ·rintro vs pos los ⟨i, wr, i3, rfl, rfl, rfl⟩
     by_cases hi : i < 3
     ·have gi : decide (((i : Nat) : Int) < 3) = true := decide_eq_true (by omega)
      have wi : IntKind.i64.wrap ((i : Int) + 1) = (i : Int) + 1 := wrap_id (by omega)
      have htN : (bys C).take N = bys (C.take N) := by
       show (List.map by8 C).take N = List.map by8 (C.take N)
       rw [List.map_take]
      have htS : (bys S).take S.length = bys S := zan (by simp)
      obtain ⟨X, hXl, hX⟩ : ∃ X : Bs, X.length ≤ 100000 ∧ ∀ z, [RV.sl 1 (bys b), .sl 1 (bys (C.take N)), .sl 1 (bys S)].getD i z = .sl 1 (bys X) := by
       rcases (show i = 0 ∨ i = 1 ∨ i = 2 by omega) with rfl | rfl | rfl
       ·exact ⟨b, by omega, fun _ => rfl⟩
       ·exact ⟨C.take N, by simp; omega, fun _ => rfl⟩
       ·exact ⟨S, by omega, fun _ => rfl⟩
      have hp := parse_any X hXl
      have hd := ask_doc X hXl
      obtain ⟨⟨A, E⟩, hAE⟩ : ∃ x, parseD X = x := ⟨_, rfl⟩
      have hlen := parse_lens X
      rw [hAE] at hp hd hlen
      simp only at hp hd hlen
      obtain ⟨l1, l2, l3, l4⟩ := hlen
      have hsame := sameask_t A.k A.ns A.ws A.rg A.os A.k A.ns A.ws A.rg A.os (by omega) (by omega) (by omega) (by omega)
      rw [sameB_refl] at hsame
      have hAr : A.rv = .agg [.v (.int .i64 A.k), .sl 1 (A.ns.map n8), .sl 1 (A.ws.map u8R), .sl 2 (A.rg.map ptR), .sl 5 (A.os.map opR)] := rfl
      have gE : (E != E) = false := by simp
      cases wr <;> simp only [gi, wi, hby, htN, htS, hX, hCl, bstr_size, bstr_data, Nat.sub_zero, zaa, zab, zac, push_cast, ↓reduceIte, reduceCtorEq, zB, zE, zA, zS, zL, zD, zM]
      all_goals refine ⟨by omega, by simp, by omega, ?_⟩
      all_goals refine call_mk hp rfl trivial ?_
      all_goals simp only [hAr, wi, bys_isByte, bstr_of_bys, zaa, zab, zac, push_cast, ↓reduceIte, reduceCtorEq, zB, zE, zA, zS, zL, zD, zM]
      all_goals refine call_mk hd rfl trivial ?_
      all_goals simp only [hAr, wi, gE, zaa, zab, zac, push_cast, ↓reduceIte, reduceCtorEq, zB, zE, zA, zS, zL, zD, zM]
      all_goals refine call_as (as' := [.r A.rv, .r A.rv]) rfl ?_
      all_goals refine call_mk hsame rfl trivial ?_
      all_goals simp only [hAr, wi, gE, zaa, zab, zac, push_cast, ↓reduceIte, reduceCtorEq, zB, zE, zA, zS, zL, zD, zM]
      all_goals exact ⟨⟨i + 1, false, by omega, by simp, rfl⟩, by omega⟩
     ·have hi : i = 3 := by omega
      subst hi
      have gi : decide ((3 : Int) < 3) = false := rfl
      simp only [gi, push_cast, ↓reduceIte, reduceCtorEq, zB, zE, zA, zS, zL, zD, zM]
      refine call_mk askawake_t rfl trivial ?_
      simp only [push_cast, ↓reduceIte, reduceCtorEq, zB, zE, zA, zS, zL, zD, zM]

end Go.Ev
