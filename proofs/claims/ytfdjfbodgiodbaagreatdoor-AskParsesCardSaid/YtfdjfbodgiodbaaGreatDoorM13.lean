import Derived.Test.YtfdjfbodgiodbaaGreatDoorM12
open Nat renaming reduceBEq → zB, reduceEqDiff → zE, reduceAdd → zA, reduceSub → zS, reduceLT → zL, reduceLeDiff → zD, reduceMul → zM
open Go.Proofs.Tryz renaming prog → P0
open Int renaming toNat_natCast → zaa, toNat_natCast_add_one → zab, toNat → zad
open Nat renaming zero_add → zac
open List renaming getD_eq_getElem?_getD → zae, length_cons → zaf, length_nil → zag, getElem_mem → zai, length_append → zaj, drop_eq_getElem_cons → zak, append_assoc → zam, tail_cons → zan, drop_length → zao, length_take → zaq, take_succ_eq_append_getElem → zas, set_cons_zero → zat, set_cons_succ → zau, getElem?_eq_getElem → zav
open Bool renaming eq_iff_iff → zah, false_eq_true → zar, not_eq_eq_eq_not → zaw
open UInt8 renaming toNat_inj → zal, ofNat → zap
namespace Go.Ev
set_option maxRecDepth 100000
open Go
set_option linter.unusedSectionVars false
set_option linter.unnecessarySimpa false
set_option linter.unusedSimpArgs false
set_option linter.unusedVariables false
noncomputable def apiaryref21_Names_pc : PC :=
  (.seq (.reg [p_s 0 (.mov (.c (.nils 1 (.v (.string ⟨#[]⟩))))), p_s 1 (.mov (.c (.nils 1 (.v (.string ⟨#[]⟩)))))])
 (.seq (.reg [p_a 2 (.bsl 1 (.v (.string ⟨#[]⟩)) [(.c (.r (.v (.string ⟨#[99, 101, 108, 108]⟩)))), (.c (.r (.v (.string ⟨#[112, 97, 114, 101, 110, 116]⟩)))), (.c (.r (.v (.string ⟨#[107, 105, 100, 115]⟩)))), (.c (.r (.v (.string ⟨#[110, 101, 97, 114]⟩)))), (.c (.r (.v (.string ⟨#[114, 105, 110, 103]⟩)))), (.c (.r (.v (.string ⟨#[100, 105, 115, 107]⟩)))), (.c (.r (.v (.string ⟨#[100, 105, 115, 116]⟩)))), (.c (.r (.v (.string ⟨#[98, 111, 120]⟩)))), (.c (.r (.v (.string ⟨#[115, 116, 97, 116]⟩)))), (.c (.r (.v (.string ⟨#[116, 111, 112]⟩)))), (.c (.r (.v (.string ⟨#[116, 105, 108, 101]⟩)))), (.c (.r (.v (.string ⟨#[115, 121, 110, 99]⟩)))), (.c (.r (.v (.string ⟨#[109, 97, 114, 107]⟩)))), (.c (.r (.v (.string ⟨#[105, 110, 102, 111]⟩)))), (.c (.r (.v (.string ⟨#[102, 105, 108, 108]⟩)))), (.c (.r (.v (.string ⟨#[108, 111, 97, 100]⟩))))]),
 p_a 3 (.bsl 1 (.v (.string ⟨#[]⟩)) [(.c (.r (.v (.string ⟨#[120, 121, 114]⟩)))), (.c (.r (.v (.string ⟨#[119]⟩)))), (.c (.r (.v (.string ⟨#[119]⟩)))), (.c (.r (.v (.string ⟨#[119]⟩)))), (.c (.r (.v (.string ⟨#[119, 107]⟩)))), (.c (.r (.v (.string ⟨#[119, 107]⟩)))), (.c (.r (.v (.string ⟨#[119, 118]⟩)))), (.c (.r (.v (.string ⟨#[120, 121, 117, 118, 114]⟩)))), (.c (.r (.v (.string ⟨#[119]⟩)))), (.c (.r (.v (.string ⟨#[114, 107]⟩)))), (.c (.r (.v (.string ⟨#[122, 120, 121, 114]⟩)))), (.c (.r (.v (.string ⟨#[]⟩)))), (.c (.r (.v (.string ⟨#[]⟩)))), (.c (.r (.v (.string ⟨#[]⟩)))), (.c (.r (.v (.string ⟨#[114, 112]⟩)))), (.c (.r (.v (.string ⟨#[]⟩))))]),
 p_m 0 2, p_m 1 3])
 .ret))
theorem apiaryref21_Names_triple : Fun P0 32 0 [(0, false, none), (1, false, none)] apiaryref21_Names_pc := fun_mk Go.Proofs.Tryz.func32 rfl (by decide) (by kernel_rfl) (by decide) rfl (by kernel_rfl) (by kernel_rfl) (by decide)
noncomputable def apiaryref21_query_pc : PC :=
  (.seq (.reg [p_a 4 (.new [(.r (.v (.int .i64 0))), (.nils 1 (.v (.int .i64 0))), (.nils 1 (.v (.int .u64 0))), (.nils 2 (.agg [(.v (.int .i64 0)), (.v (.int .i64 0))])), (.nils 5 (.agg [(.v (.int .i64 0)), (.v (.int .i64 0)), (.v (.int .i64 0)), (.v (.int .i64 0)), (.v (.int .i64 0))]))]),
 p_s 5 (.mov (.c (.nils 1 (.v (.string ⟨#[]⟩))))), p_s 6 (.mov (o_i 0))])
 (.seq (.reg [p_c 24 1 32 [], p_m 23 24, p_s 25 (.ext (.t 23) 0), p_s 26 (.ext (.t 23) 1), p_m 7 25, p_m 8 26])
 (.seq (.reg [p_m 27 8, p_m 28 0, p_s 29 (.bin .sub (.t 28) (o_i 1)), p_s 30 (.ia 1 (.v (.string ⟨#[]⟩)) (.t 27) (.t 29)), p_s 31 (.ld none (.t 30)), p_m 9 31])
 (.seq (.reg [p_m 32 0, p_s 33 (.build [(.r (.v (.int .i64 0))), (.nils 1 (.v (.int .i64 0))), (.nils 1 (.v (.int .u64 0))), (.nils 2 (.agg [(.v (.int .i64 0)), (.v (.int .i64 0))])), (.nils 5 (.agg [(.v (.int .i64 0)), (.v (.int .i64 0)), (.v (.int .i64 0)), (.v (.int .i64 0)), (.v (.int .i64 0))]))] [(0, 1, (.t 32))]),
 p_a 10 (.new [(.r (.v (.int .i64 0))), (.nils 1 (.v (.int .i64 0))), (.nils 1 (.v (.int .u64 0))), (.nils 2 (.agg [(.v (.int .i64 0)), (.v (.int .i64 0))])), (.nils 5 (.agg [(.v (.int .i64 0)), (.v (.int .i64 0)), (.v (.int .i64 0)), (.v (.int .i64 0)), (.v (.int .i64 0))]))]),
 ⟨none, none, 0, .act (.st 5 (.t 10) (.t 33))⟩])
 (.seq (.seq (.reg [p_m 34 9, p_s 35 (.bin .eql (.t 34) (.c (.r (.v (.string ⟨#[]⟩)))))])
 (.cond (.t 35)
 (.seq (.seq (.reg [p_m 36 1, p_s 37 (.bin .neq (.t 36) (.c (.r (.v (.string ⟨#[]⟩)))))])
 (.cond (.t 37)
 (.seq (.reg [p_s 38 (.ld (some 5) (.t 10)), ⟨none, none, 0, .act (.st 5 (.t 4) (.t 38))⟩, p_s 5 (.mov (.c (.nils 1 (.v (.string ⟨#[]⟩))))), p_s 6 (.mov (o_i 16))])
 .ret)
 .skip))
 (.seq (.reg [p_s 39 (.ld (some 5) (.t 10)), ⟨none, none, 0, .act (.st 5 (.t 4) (.t 39))⟩, p_s 5 (.mov (.c (.nils 1 (.v (.string ⟨#[]⟩))))), p_s 6 (.mov (o_i 0))])
 .ret))
 .skip))
 (.seq (.seq (.reg [p_m 40 1, p_s 41 (.bin .eql (.t 40) (.c (.r (.v (.string ⟨#[]⟩))))), p_m 42 41, p_g 43 42 false (.mov (.t 1)), p_g 44 42 false (.ixs (.t 43) (o_i 0)), p_g 45 42 false (.bin .neq (.t 44) (.c (.r (.v (.int .u8 63))))),
 p_s 46 (.pick (.t 42) (.c (.r (.v (.bool true)))) (.t 45))])
 (.cond (.t 46)
 (.seq (.reg [p_s 47 (.ld (some 5) (.t 10)), ⟨none, none, 0, .act (.st 5 (.t 4) (.t 47))⟩, p_s 5 (.mov (.c (.nils 1 (.v (.string ⟨#[]⟩))))), p_s 6 (.mov (o_i 16))])
 .ret)
 .skip))
 (.seq (.reg [p_m 48 1, p_s 49 (.sls (.t 48) (some (o_i 1)) none), p_c 50 2 65 [(.t 49), (.c (.r (.v (.int .u8 38))))], p_m 11 50])
 (.seq (.seq (.reg [p_m 51 11, p_s 52 (.len false (.t 51)), p_m 53 9, p_s 54 (.len true (.t 53)), p_s 55 (.bin .neq (.t 52) (.t 54))])
 (.cond (.t 55)
 (.seq (.reg [p_s 56 (.ld (some 5) (.t 10)), ⟨none, none, 0, .act (.st 5 (.t 4) (.t 56))⟩, p_s 5 (.mov (.c (.nils 1 (.v (.string ⟨#[]⟩))))), p_s 6 (.mov (o_i 16))])
 .ret)
 .skip))
 (.seq (.reg [p_s 12 (.mov (.c (.nils 1 (.v (.string ⟨#[]⟩)))))])
 (.seq (.seq (.reg [p_s 13 (.mov (o_i 0))])
 (.block 0 (.loop (.seq (.seq (.reg [p_m 57 13, p_m 58 9, p_s 59 (.len true (.t 58)), p_s 60 (.bin .lss (.t 57) (.t 59))])
 (.cond (.t 60)
 .skip
 (.exit 0)))
 (.seq (.block 1 (.seq (.seq (.drw [p_m 63 11, p_m 64 13, p_s 65 (.ia 1 (.v (.string ⟨#[]⟩)) (.t 63) (.t 64)), p_s 66 (.ld none (.t 65)), p_s 67 (.len true (.t 66)), p_s 68 (.bin .lss (.t 67) (o_i 2)),
 p_m 69 68, p_g 70 69 false (.mov (.t 11)), p_g 71 69 false (.mov (.t 13)), p_g 72 69 false (.ia 1 (.v (.string ⟨#[]⟩)) (.t 70) (.t 71)), p_g 73 69 false (.ld none (.t 72)),
 p_g 74 69 false (.ixs (.t 73) (o_i 0)), p_g 75 69 false (.mov (.t 9)), p_g 76 69 false (.mov (.t 13)), p_g 77 69 false (.ixs (.t 75) (.t 76)), p_g 78 69 false (.bin .neq (.t 74) (.t 77)),
 p_s 79 (.pick (.t 69) (.c (.r (.v (.bool true)))) (.t 78)), p_m 80 79, p_g 81 80 false (.mov (.t 11)), p_g 82 80 false (.mov (.t 13)), p_g 83 80 false (.ia 1 (.v (.string ⟨#[]⟩)) (.t 81) (.t 82)),
 p_g 84 80 false (.ld none (.t 83)), p_g 85 80 false (.ixs (.t 84) (o_i 1)), p_g 86 80 false (.bin .neq (.t 85) (.c (.r (.v (.int .u8 61))))), p_s 87 (.pick (.t 80) (.c (.r (.v (.bool true)))) (.t 86))]
 [[], [], [0, 1], [0, 1, 2], [0, 1, 2, 3], [0, 1, 2, 3, 4], [0, 1, 2, 3, 4, 5], [0, 1, 2, 3, 4, 5, 6], [0, 1, 2, 3, 4, 5, 6], [0, 1, 2, 3, 4, 5, 6, 7, 8], [0, 1, 2, 3, 4, 5, 6, 7, 8, 9], [0, 1, 2, 3, 4, 5, 6, 7, 8, 9, 10], [0, 1, 2, 3, 4, 5, 6], [0, 1, 2, 3, 4, 5, 6], [0, 1, 2, 3, 4, 5, 6, 12, 13], [0, 1, 2, 3, 4, 5, 6, 7, 8, 9, 10, 11, 12, 13, 14], [0, 1, 2, 3, 4, 5, 6, 7, 8, 9, 10, 11, 12, 13, 14, 15], [0, 1, 2, 3, 4, 5, 6, 7, 8, 9, 10, 11, 12, 13, 14, 15, 16], [0, 1, 2, 3, 4, 5, 6, 7, 8, 9, 10, 11, 12, 13, 14, 15, 16, 17], [0, 1, 2, 3, 4, 5, 6, 7, 8, 9, 10, 11, 12, 13, 14, 15, 16, 17], [0, 1, 2, 3, 4, 5, 6, 7, 8, 9, 10, 11, 12, 13, 14, 15, 16, 17, 18, 19], [0, 1, 2, 3, 4, 5, 6, 7, 8, 9, 10, 11, 12, 13, 14, 15, 16, 17, 18, 19, 20], [0, 1, 2, 3, 4, 5, 6, 7, 8, 9, 10, 11, 12, 13, 14, 15, 16, 17, 18, 19, 20, 21], [0, 1, 2, 3, 4, 5, 6, 7, 8, 9, 10, 11, 12, 13, 14, 15, 16, 17, 18, 19, 20, 21, 22], [0, 1, 2, 3, 4, 5, 6, 7, 8, 9, 10, 11, 12, 13, 14, 15, 16, 17, 18, 19, 20, 21, 22, 23]])
 (.cond (.t 87)
 (.seq (.reg [p_s 88 (.ld (some 5) (.t 10)), ⟨none, none, 0, .act (.st 5 (.t 4) (.t 88))⟩, p_s 5 (.mov (.c (.nils 1 (.v (.string ⟨#[]⟩))))), p_s 6 (.mov (o_i 16))])
 .ret)
 .skip))
 (.seq (.reg [p_m 89 11, p_m 90 13, p_s 91 (.ia 1 (.v (.string ⟨#[]⟩)) (.t 89) (.t 90)), p_s 92 (.ld none (.t 91)), p_s 93 (.sls (.t 92) (some (o_i 2)) none), p_m 14 93])
 (.seq (.seq (.reg [p_m 94 0, p_m 95 9, p_m 96 13, p_s 97 (.ixs (.t 95) (.t 96)), p_c 98 3 33 [.t 94, .t 97]])
 (.cond (.t 98)
 (.seq (.reg [p_m 99 12, p_m 100 14, p_a 101 (.bsl 1 (.v (.string ⟨#[]⟩)) [(.t 100)]), p_a 102 (.app 1 (.v (.string ⟨#[]⟩)) 16 (.t 99) (.t 101)), p_m 12 102])
 (.exit 1))
 .skip))
 (.seq (.seq (.reg [p_m 103 9, p_m 104 13, p_s 105 (.ixs (.t 103) (.t 104)), p_s 106 (.bin .eql (.t 105) (.c (.r (.v (.int .u8 112)))))])
 (.cond (.t 106)
 (.seq (.reg [p_m 107 14, p_c 108 4 65 [(.t 107), (.c (.r (.v (.int .u8 44))))], p_m 15 108])
 (.seq (.seq (.reg [p_m 109 15, p_s 110 (.len false (.t 109)), p_s 111 (.bin .rem (.t 110) (o_i 2)), p_s 112 (.bin .eql (.t 111) (o_i 1)), p_m 113 112, p_g 114 113 false (.mov (.t 15)),
 p_g 115 113 false (.len false (.t 114)), p_g 116 113 false (.bin .gtr (.t 115) (o_i 200)), p_s 117 (.pick (.t 113) (.c (.r (.v (.bool true)))) (.t 116))])
 (.cond (.t 117)
 (.seq (.reg [p_s 118 (.ld (some 5) (.t 10)), ⟨none, none, 0, .act (.st 5 (.t 4) (.t 118))⟩, p_s 5 (.mov (.c (.nils 1 (.v (.string ⟨#[]⟩))))), p_s 6 (.mov (o_i 16))])
 .ret)
 .skip))
 (.seq (.seq (.reg [p_s 16 (.mov (o_i 0))])
 (.block 2 (.loop (.seq (.seq (.reg [p_m 119 16, p_m 120 15, p_s 121 (.len false (.t 120)), p_s 122 (.bin .lss (.t 119) (.t 121))])
 (.cond (.t 122)
 .skip
 (.exit 2)))
 (.seq (.block 3 (.seq (.reg [p_m 126 15, p_m 127 16, p_s 128 (.ia 1 (.v (.string ⟨#[]⟩)) (.t 126) (.t 127)), p_s 129 (.ld none (.t 128)), p_c 130 5 66 [.t 129], p_m 125 130, p_s 131 (.ext (.t 125) 0),
 p_s 132 (.ext (.t 125) 1), p_m 17 131, p_m 18 132])
 (.seq (.reg [p_m 134 15, p_m 135 16, p_s 136 (.bin .add (.t 135) (o_i 1)), p_s 137 (.ia 1 (.v (.string ⟨#[]⟩)) (.t 134) (.t 136)), p_s 138 (.ld none (.t 137)), p_c 139 6 66 [.t 138],
 p_m 133 139, p_s 140 (.ext (.t 133) 0), p_s 141 (.ext (.t 133) 1), p_m 19 140, p_m 20 141])
 (.seq (.seq (.reg [p_m 142 18, p_s 143 (.un .not (.t 142)), p_m 144 143, p_g 145 144 false (.mov (.t 20)), p_g 146 144 false (.un .not (.t 145)), p_s 147 (.pick (.t 144) (.c (.r (.v (.bool true)))) (.t 146))])
 (.cond (.t 147)
 (.seq (.reg [p_s 148 (.ld (some 5) (.t 10)), ⟨none, none, 0, .act (.st 5 (.t 4) (.t 148))⟩, p_s 5 (.mov (.c (.nils 1 (.v (.string ⟨#[]⟩))))), p_s 6 (.mov (o_i 16))])
 .ret)
 .skip))
 (.reg [p_s 149 (.fa 3 (.t 10)), p_s 150 (.ld none (.t 149)), p_m 151 17, p_m 152 19, p_s 153 (.build [(.r (.v (.int .i64 0))), (.r (.v (.int .i64 0)))] [(0, 1, (.t 151)), (1, 1, (.t 152))]),
 p_a 154 (.bsl 2 (.agg [(.v (.int .i64 0)), (.v (.int .i64 0))]) [(.t 153)]), p_a 155 (.app 2 (.agg [(.v (.int .i64 0)), (.v (.int .i64 0))]) 16 (.t 150) (.t 154)),
 p_s 156 (.fa 3 (.t 10)), ⟨none, none, 0, .act (.st 1 (.t 156) (.t 155))⟩])))))
 (.reg [p_m 123 16, p_s 124 (.bin .add (.t 123) (o_i 2)), p_m 16 124]))))))
 (.exit 1))))
 .skip))
 (.seq (.reg [p_m 158 14, p_c 159 7 66 [.t 158], p_m 157 159, p_s 160 (.ext (.t 157) 0), p_s 161 (.ext (.t 157) 1), p_m 21 160, p_m 22 161])
 (.seq (.seq (.reg [p_m 162 22, p_s 163 (.un .not (.t 162))])
 (.cond (.t 163)
 (.seq (.reg [p_s 164 (.ld (some 5) (.t 10)), ⟨none, none, 0, .act (.st 5 (.t 4) (.t 164))⟩, p_s 5 (.mov (.c (.nils 1 (.v (.string ⟨#[]⟩))))), p_s 6 (.mov (o_i 16))])
 .ret)
 .skip))
 (.reg [p_s 165 (.fa 1 (.t 10)), p_s 166 (.ld none (.t 165)), p_m 167 21, p_a 168 (.bsl 1 (.v (.int .i64 0)) [(.t 167)]), p_a 169 (.app 1 (.v (.int .i64 0)) 8 (.t 166) (.t 168)),
 p_s 170 (.fa 1 (.t 10)), ⟨none, none, 0, .act (.st 1 (.t 170) (.t 169))⟩]))))))))
 (.reg [p_m 61 13, p_s 62 (.bin .add (.t 61) (o_i 1)), p_m 13 62]))))))
 (.seq (.reg [p_s 171 (.ld (some 5) (.t 10)), p_m 172 12, ⟨none, none, 0, .act (.st 5 (.t 4) (.t 171))⟩, p_m 5 172, p_s 6 (.mov (o_i 0))])
 .ret)))))))))))
theorem apiaryref21_query_triple : Fun P0 38 2 [(4, false, some (29, (some 5))), (5, false, none), (6, false, none)] apiaryref21_query_pc := fun_mk Go.Proofs.Tryz.func38 rfl (by decide) (by kernel_rfl) (by decide) rfl (by kernel_rfl) (by kernel_rfl) (by decide)
def namesL : List Bs := [[99, 101, 108, 108], [112, 97, 114, 101, 110, 116], [107, 105, 100, 115], [110, 101, 97, 114], [114, 105, 110, 103], [100, 105, 115, 107], [100, 105, 115, 116], [98, 111, 120], [115, 116, 97, 116], [116, 111, 112], [116, 105, 108, 101], [115, 121, 110, 99], [109, 97, 114, 107], [105, 110, 102, 111], [102, 105, 108, 108], [108, 111, 97, 100]]
def keysL : List Bs := [[120, 121, 114], [119], [119], [119], [119, 107], [119, 107], [119, 118], [120, 121, 117, 118, 114], [119], [114, 107], [122, 120, 121, 114], [], [], [], [114, 112], []]
theorem names_t : Triple P0 32 [] [] (.tup [.own 1000000 0 0 16, .own 1000001 0 0 16]) [rowS namesL, rowS keysL] := by
 refine apiaryref21_Names_triple rfl (by decide) ?_
 simp only [apiaryref21_Names_pc, push_cast, ↓reduceIte, reduceCtorEq, zB, zE, zA, zS, zL, zD, zM]
 exact ⟨by simp, by simp, rfl⟩
def cornD : List Bs → List (Int × Int) → List (Int × Int) × Bool
 | a :: b :: r, out => match pv a, pv b with
  | some x, some y => cornD r (out ++ [(x, y)])
  | _, _ => (out, false)
 | _, out => (out, true)
theorem cornD_nil (out : List (Int × Int)) : cornD [] out = (out, true) := by simp [cornD]
def qk (k : Int) : Bs → List Bs → List Int → List Bs → List (Int × Int) → (List Int × List Bs × List (Int × Int)) × Bool
 | [], _, ns, ws, rg => ((ns, ws, rg), true)
 | c :: ks, ps, ns, ws, rg => match valP c (ps.headD []) with
  | none => ((ns, ws, rg), false)
  | some v => if wordB k c = true then qk k ks ps.tail ns (ws ++ [v]) rg
   else if c = 112 then (if (pieces 44 v).length % 2 = 1 ∨ 200 < (pieces 44 v).length then ((ns, ws, rg), false)
    else if (cornD (pieces 44 v) rg).2 = true then qk k ks ps.tail ns ws (cornD (pieces 44 v) rg).1 else ((ns, ws, (cornD (pieces 44 v) rg).1), false))
   else match pv v with
    | none => ((ns, ws, rg), false)
    | some n => qk k ks ps.tail (ns ++ [n]) ws rg
def rqV (k : Int) (x : (List Int × List Bs × List (Int × Int)) × Nat) : AV := match x.2 with
 | 0 => .tup [askA k x.1.1 [] x.1.2.2, .own 1000000 0 0 x.1.2.1.length, int .i64 0]
 | 1 => .tup [askA k x.1.1 [] x.1.2.2, .nils 1 (.v (.string ⟨#[]⟩)), int .i64 0]
 | _ => .tup [askA k x.1.1 [] x.1.2.2, .nils 1 (.v (.string ⟨#[]⟩)), int .i64 16]
def rqO (x : (List Int × List Bs × List (Int × Int)) × Nat) : List Ob := match x.2 with
 | 0 => [rowS x.1.2.1]
 | _ => []
def qst (x : (List Int × List Bs × List (Int × Int)) × Bool) : (List Int × List Bs × List (Int × Int)) × Nat := (x.1, if x.2 = true then 0 else 2)
def rqS (k : Int) (ks s : Bs) : (List Int × List Bs × List (Int × Int)) × Nat :=
 if ks = [] then (if s = [] then (([], [], []), 1) else (([], [], []), 2))
 else if s.headD 0 ≠ 63 then (([], [], []), 2)
 else if (pieces 38 s.tail).length ≠ ks.length then (([], [], []), 2)
 else qst (qk k ks (pieces 38 s.tail) [] [] [])
def zbx : Ob := .box [int .i64 0, .nils 1 (n8 0), .nils 1 (u8R 0), .nils 2 ptZ, .nils 5 opZ]
def rlos (k : Int) (PS : List Bs) (ws : List Bs) : List Int → List (Int × Int) → List Ob
 | [], [] => [rowS PS, rowS ws, zbx, .box [int .i64 k, .nils 1 (n8 0), .nils 1 (u8R 0), .nils 2 ptZ, .nils 5 opZ]]
 | [], g :: gs => [rowS PS, rowS ws, zbx, .box [int .i64 k, .nils 1 (n8 0), .nils 1 (u8R 0), .own 2000004 0 0 (gs.length + 1), .nils 5 opZ], .row 2 ptZ true true ((g :: gs).map ptR)]
 | n :: nr, [] => [rowS PS, rowS ws, zbx, .box [int .i64 k, .own 2000004 0 0 (nr.length + 1), .nils 1 (u8R 0), .nils 2 ptZ, .nils 5 opZ], .row 1 (n8 0) true true ((n :: nr).map n8)]
 | n :: nr, g :: gs => [rowS PS, rowS ws, zbx, .box [int .i64 k, .own 2000004 0 0 (nr.length + 1), .nils 1 (u8R 0), .own 2000005 0 0 (gs.length + 1), .nils 5 opZ], .row 1 (n8 0) true true ((n :: nr).map n8), .row 2 ptZ true true ((g :: gs).map ptR)]
def rlos2 (k : Int) (CS PS : List Bs) (ws : List Bs) : List Int → List (Int × Int) → List Ob
 | [], [] => [rowS CS, rowS PS, rowS ws, zbx, .box [int .i64 k, .nils 1 (n8 0), .nils 1 (u8R 0), .nils 2 ptZ, .nils 5 opZ]]
 | [], g :: gs => [rowS CS, rowS PS, rowS ws, zbx, .box [int .i64 k, .nils 1 (n8 0), .nils 1 (u8R 0), .own 2000005 0 0 (gs.length + 1), .nils 5 opZ], .row 2 ptZ true true ((g :: gs).map ptR)]
 | n :: nr, [] => [rowS CS, rowS PS, rowS ws, zbx, .box [int .i64 k, .own 2000005 0 0 (nr.length + 1), .nils 1 (u8R 0), .nils 2 ptZ, .nils 5 opZ], .row 1 (n8 0) true true ((n :: nr).map n8)]
 | n :: nr, g :: gs => [rowS CS, rowS PS, rowS ws, zbx, .box [int .i64 k, .own 2000005 0 0 (nr.length + 1), .nils 1 (u8R 0), .own 2000006 0 0 (gs.length + 1), .nils 5 opZ], .row 1 (n8 0) true true ((n :: nr).map n8), .row 2 ptZ true true ((g :: gs).map ptR)]
set_option maxHeartbeats 4000000 in
theorem rquery_t (K : Nat) (hK : K < 16) (s : Bs) (hl : s.length ≤ 100000) : Triple P0 38 [int .i64 ((K : Int) + 1), sV s] []
    (rqV ((K : Int) + 1) (rqS ((K : Int) + 1) (keysL.getD K []) s)) (rqO (rqS ((K : Int) + 1) (keysL.getD K []) s)) := by
  obtain ⟨Q, hQ⟩ : ∃ Q, rqS ((K : Int) + 1) (keysL.getD K []) s = Q := ⟨_, rfl⟩
  rw [hQ]
  unfold rqS at hQ
  have hkl : ∀ i : Fin 16, (keysL.getD i.val []).length ≤ 5 := by decide
  have hkl := hkl ⟨K, hK⟩
  simp only at hkl
  have hgk : ∀ z, (strs keysL).getD K z = .v (.string (bstr (keysL.getD K []))) := fun z => by
    rw [zae, zae]
    simp [show K < keysL.length from hK, strR]
  obtain ⟨ks, hks⟩ : ∃ ks, keysL.getD K [] = ks := ⟨_, rfl⟩
  rw [hks] at hQ hkl hgk
  obtain ⟨k, hk⟩ : ∃ k : Int, (K : Int) + 1 = k := ⟨_, rfl⟩
  have wk : IntKind.i64.wrap (k - 1) = (K : Int) := by rw [wrap_id (by omega)]; omega
  rw [hk] at hQ ⊢
  refine apiaryref21_query_triple rfl (by decide) ?_
  simp only [apiaryref21_query_pc, push_cast, ↓reduceIte, reduceCtorEq, zB, zE, zA, zS, zL, zD, zM]
  refine call_mk names_t rfl trivial ?_
  generalize hkL : keysL = KL at hgk
  have hKL : (strs KL).length = 16 := by rw [← hkL]; rfl
  have be : ∀ l : Bs, ((bstr l).toList == ({ data := #[] } : ByteArray).toList) = decide (l = []) := fun l => by
    rw [bstr_list, show (({ data := #[] } : ByteArray).toList) = [] from by rw [ByteArray.toList_eq]]
    cases l <;> rfl
  simp only [wk, hgk, hkL, hKL, be, zaa, zab, zac, push_cast, ↓reduceIte, reduceCtorEq, zB, zE, zA, zS, zL, zD, zM]
  refine ⟨by omega, ?_⟩
  have bn : ∀ l : Bs, ((bstr l).toList != ({ data := #[] } : ByteArray).toList) = !decide (l = []) := fun l => by
    rw [bne, be]
  refine cnd_mk (fun h0 => ?_) (fun h0 => ?_)
  · have h0 := of_decide_eq_true h0
    rw [if_pos h0] at hQ
    simp only [bn, push_cast, ↓reduceIte, reduceCtorEq, zB, zE, zA, zS, zL, zD, zM]
    refine cnd_mk (fun h1 => ?_) (fun h1 => ?_)
    · have h1 : s ≠ [] := by simpa [bstr_list] using h1
      rw [if_neg h1] at hQ
      subst hQ
      simp only [rqV, rqO, askA, nilOr, push_cast, ↓reduceIte, reduceCtorEq, zB, zE, zA, zS, zL, zD, zM]
      first | rfl | exact ⟨rfl, rfl⟩
    · have h1 : s = [] := by simpa [bstr_list] using h1
      rw [if_pos h1] at hQ
      subst hQ
      simp only [rqV, rqO, askA, nilOr, push_cast, ↓reduceIte, reduceCtorEq, zB, zE, zA, zS, zL, zD, zM]
      first | rfl | exact ⟨rfl, rfl⟩
  · have h0 := of_decide_eq_false h0
    rw [if_neg h0] at hQ
    cases s with
    | nil =>
      rw [if_pos (by decide)] at hQ
      subst hQ
      have bt : decide (([] : Bs) = []) = true := rfl
      simp only [be, bt, rqV, rqO, askA, nilOr, push_cast, ↓reduceIte, reduceCtorEq, zB, zE, zA, zS, zL, zD, zM]
      first | rfl | exact ⟨rfl, rfl⟩
    | cons c0 q =>
      have bf : decide (c0 :: q = []) = false := decide_eq_false (by simp)
      have hc0 : (c0 :: q).getD (zad 0) 0 = c0 := rfl
      by_cases h63 : c0 = 63
      · rw [if_neg (by simp [h63])] at hQ
        have g63 : (((c0.toNat : Nat) : Int) != 63) = false := by subst h63; rfl
        simp only [zan] at hQ
        have hql : q.length ≤ 100000 := by simp at hl; omega
        have e1 : (bstr (c0 :: q)).extract (zad 1) (q.length + 1) = bstr q := by
          rw [bstr_sub _ _ _ (by simp)]
          simp
        have hpl := pieces_le 38 q
        have hpc : (pieces 38 q).length ≤ 100001 := by
          rw [pieces_len]
          have : q.count 38 ≤ q.length := List.count_le_length
          omega
        simp only [be, bf, bstr_size, bstr_data, hc0, g63, e1, zaa, zab, zac, push_cast, ↓reduceIte, reduceCtorEq, zB, zE, zA, zS, zL, zD, zM]
        repeat refine And.intro (by first | omega | (simp; done)) ?_
        refine call_as (as' := [sV q, int .u8 (38 : UInt8).toNat]) (by first | rfl | trace_state) ?_
        refine call_mk (rpieces_t q 38 (by omega)) rfl trivial ?_
        obtain ⟨PS, hps⟩ : ∃ ps, pieces 38 q = ps := ⟨_, rfl⟩
        simp only [hps] at hQ hpl hpc ⊢
        simp only [bstr_size, zaa, zab, zac, push_cast, ↓reduceIte, reduceCtorEq, zB, zE, zA, zS, zL, zD, zM]
        refine cnd_mk (fun h1 => ?_) (fun h1 => ?_)
        · have h1 : PS.length ≠ ks.length := fun h => by simp [h] at h1
          rw [if_pos h1] at hQ
          subst hQ
          simp only [rqV, rqO, askA, nilOr, push_cast, ↓reduceIte, reduceCtorEq, zB, zE, zA, zS, zL, zD, zM]
          first | rfl | exact ⟨rfl, rfl⟩
        · have h1 : PS.length = ks.length := by
            have : ((PS.length : Nat) : Int) = ks.length := by simpa using h1
            omega
          rw [if_neg (by omega)] at hQ
          clear bf hc0 e1 hgk wk hks
          simp only [push_cast, ↓reduceIte, reduceCtorEq, zB, zE, zA, zS, zL, zD, zM]
          obtain ⟨R, hR⟩ : ∃ R, qk k ks PS [] [] [] = R := ⟨_, rfl⟩
          rw [hR] at hQ
          have hmax := maxLen_big
          refine run_loop [(0, false), (9, false), (13, false), (11, false), (12, true), (4, false), (10, false)] (fun vs pos los => ∃ (i : Nat) (ns : List Int) (ws : List Bs) (rg : List (Int × Int)), i ≤ ks.length ∧ qk k (ks.drop i) (PS.drop i) ns ws rg = R ∧ ns.length ≤ i ∧ ws.length ≤ i ∧ rg.length ≤ 200 * i ∧
              vs = [int .i64 k, sV ks, int .i64 i, .own 2000000 0 0 PS.length, .own 2000001 0 0 ws.length, .ptr 2000002 0 0, .ptr 2000003 0 0] ∧ pos = [] ∧ los = rlos k PS ws ns rg)
            (fun vs _ _ => match vs with | [_, _, .r (.v (.int _ j)), _, _, _, _] => (ks.length - j).toNat | _ => 0) rfl ?_ ?_
          · simp only [push_cast, ↓reduceIte, reduceCtorEq, zB, zE, zA, zS, zL, zD, zM]
            exact ⟨0, [], [], [], by omega, hR, by simp, by simp, by simp, rfl, rfl⟩
          · rintro vs pos los ⟨i, ns, ws, rg, i0, hfd, hnl, hwl, hrl, rfl, rfl, rfl⟩
            by_cases hi : i < ks.length
            · have gi : decide (((i : Nat) : Int) < ((ks.length : Nat) : Int)) = true := decide_eq_true (by omega)
              have hip : i < PS.length := by omega
              obtain ⟨c, hc⟩ : ∃ c, ks[i] = c := ⟨_, rfl⟩
              obtain ⟨p, hp⟩ : ∃ p, PS[i] = p := ⟨_, rfl⟩
              have hpm : p.length ≤ q.length := hpl p (by rw [← hp]; exact zai hip)
              have hd1 : ks.drop i = c :: ks.drop (i + 1) := by rw [zak hi, hc]
              have hd2 : PS.drop i = p :: PS.drop (i + 1) := by rw [zak hip, hp]
              have hgc : ks.getD i 0 = c := by simp [List.getD, hi, hc]
              have hgp : ∀ z, (strs PS).getD i z = .v (.string (bstr p)) := fun z => by
                rw [zae]
                simp [hip, strR, hp]
              have w1 : IntKind.i64.wrap ((i : Int) + 1) = (i : Int) + 1 := wrap_id (by omega)
              rw [hd1, hd2, qk] at hfd
              simp only [List.headD_cons, zan] at hfd
              have hw := qword_t k c
              obtain ⟨W, hW⟩ : ∃ W, wordB k c = W := ⟨_, rfl⟩
              rw [hW] at hw hfd
              obtain ⟨C, hC⟩ : ∃ C : Int, ((c.toNat : Nat) : Int) = C := ⟨_, rfl⟩
              rw [hC] at hw
              match p, hpm, hgp, hfd with
              | [], hpm, hgp, hfd =>
                have g2 : decide ((0 : Int) < 2) = true := rfl
                simp only [valP] at hfd
                subst hfd
                simp only [qst] at hQ
                subst hQ
                rcases ns with _ | ⟨n0, nr⟩ <;> rcases rg with _ | ⟨g0, gr⟩ <;> simp only [gi, hgp, hgc, hC, w1, g2, rlos, zbx, n8, ptZ, opZ, rqV, rqO, askA, nilOr, bstr_size, bstr_data, zaa, zab, zac, push_cast, ↓reduceIte, reduceCtorEq, zB, zE, zA, zS, zL, zD, zM]
                all_goals repeat refine And.intro (by first | omega | (simp; done) | (simp; omega)) ?_
                all_goals first | kernel_rfl | exact ⟨by kernel_rfl, rfl⟩ | exact ⟨by kernel_rfl, rfl, rfl⟩
              | [x], hpm, hgp, hfd =>
                have g2 : decide (((0 : Int) + 1) < 2) = true := rfl
                have g2' : decide ((1 : Int) < 2) = true := rfl
                simp only [valP] at hfd
                subst hfd
                simp only [qst] at hQ
                subst hQ
                rcases ns with _ | ⟨n0, nr⟩ <;> rcases rg with _ | ⟨g0, gr⟩ <;> simp only [gi, hgp, hgc, hC, w1, g2, g2', rlos, zbx, n8, ptZ, opZ, rqV, rqO, askA, nilOr, bstr_size, bstr_data, zaa, zab, zac, push_cast, ↓reduceIte, reduceCtorEq, zB, zE, zA, zS, zL, zD, zM]
                all_goals repeat refine And.intro (by first | omega | (simp; done) | (simp; omega)) ?_
                all_goals first | kernel_rfl | exact ⟨by kernel_rfl, rfl⟩ | exact ⟨by kernel_rfl, rfl, rfl⟩
              | x :: y :: v, hpm, hgp, hfd =>
                have g2 : decide (((v.length : Nat) : Int) + 1 + 1 < 2) = false := decide_eq_false (by omega)
                have e0 : (x :: y :: v).getD (zad 0) 0 = x := rfl
                have e1 : (x :: y :: v).getD (zad 1) 0 = y := rfl
                have e2 : (bstr (x :: y :: v)).extract (zad 2) (v.length + 1 + 1) = bstr v := by
                  rw [bstr_sub _ _ _ (by simp)]
                  simp [show zad 2 = 2 from rfl]
                have t2 : (((v.length : Nat) : Int) + 1 + 1).toNat = v.length + 1 + 1 := by omega
                have hvl : v.length ≤ 100000 := by simp only [zaf] at hpm; omega
                simp only [valP] at hfd
                by_cases hx : x = c
                · by_cases hy : y = 61
                  · rw [if_pos ⟨hx, hy⟩] at hfd
                    have nx : (((x.toNat : Nat) : Int) != C) = false := by rw [hx, hC]; simp
                    have ny : (((y.toNat : Nat) : Int) != 61) = false := by rw [hy]; rfl
                    cases W with
                    | true =>
                      simp only [↓reduceIte] at hfd
                      rcases ns with _ | ⟨n0, nr⟩ <;> rcases rg with _ | ⟨g0, gr⟩ <;> simp only [gi, hgp, hgc, hC, w1, g2, e0, e1, e2, t2, nx, ny, rlos, zbx, n8, ptZ, opZ, rqV, rqO, askA, nilOr, bstr_size, bstr_data, zaa, zab, zac, push_cast, ↓reduceIte, reduceCtorEq, zB, zE, zA, zS, zL, zD, zM]
                      all_goals repeat refine And.intro (by first | omega | (simp; done) | (simp; omega) | kernel_rfl) ?_
                      all_goals refine call_mk hw rfl trivial ?_
                      all_goals simp only [gi, hgp, hgc, hC, w1, g2, e0, e1, e2, t2, nx, ny, rlos, zbx, n8, ptZ, opZ, rqV, rqO, askA, nilOr, bstr_size, bstr_data, zaa, zab, zac, push_cast, ↓reduceIte, reduceCtorEq, zB, zE, zA, zS, zL, zD, zM]
                      all_goals repeat refine And.intro (by first | omega | (simp; done) | (simp; omega) | kernel_rfl) ?_
                      all_goals refine ⟨⟨i + 1, _, _, _, by omega, hfd, by first | omega | (simp; done) | (simp only [zaf, zag] at hnl hrl ⊢; omega) | (simp; omega) | (simp at hnl hrl ⊢; omega), by first | omega | (simp; done) | (simp only [zaf, zag] at hnl hrl ⊢; omega) | (simp; omega) | (simp at hnl hrl ⊢; omega), by first | omega | (simp; done) | (simp only [zaf, zag] at hnl hrl ⊢; omega) | (simp; omega) | (simp at hnl hrl ⊢; omega), by simp, ?_⟩, by omega⟩
                      all_goals simp [rlos, zbx, strR, n8, ptZ, opZ, ptR]
                    | false =>
                      simp only [zar, ↓reduceIte] at hfd
                      by_cases h112 : c = 112
                      · rw [if_pos h112] at hfd
                        have g112 : (C == 112) = true := by
                          rw [← hC, h112]
                          rfl
                        have hvp := pieces_le 44 v
                        have hvc : (pieces 44 v).length ≤ 100001 := by
                          rw [pieces_len]
                          have : v.count 44 ≤ v.length := List.count_le_length
                          omega
                        have hrp := rpieces_t v 44 (by omega)
                        obtain ⟨CS, hcs⟩ : ∃ x, pieces 44 v = x := ⟨_, rfl⟩
                        simp only [hcs] at hfd hvp hvc hrp
                        have hm : ((((CS.length : Nat) : Int).tmod 2) == 1) = decide (CS.length % 2 = 1) := by
                          rw [Int.tmod_eq_emod_of_nonneg (by omega), zah]
                          simp
                          omega
                        have hgt : decide (((CS.length : Nat) : Int) > 200) = decide (200 < CS.length) := by
                          rw [zah]
                          simp
                          omega
                        obtain ⟨M, hM⟩ : ∃ M, decide (CS.length % 2 = 1) = M := ⟨_, rfl⟩
                        obtain ⟨G, hG⟩ : ∃ G, decide (200 < CS.length) = G := ⟨_, rfl⟩
                        rw [hM] at hm
                        rw [hG] at hgt
                        by_cases hbad : CS.length % 2 = 1 ∨ 200 < CS.length
                        · rw [if_pos hbad] at hfd
                          subst hfd
                          simp only [qst] at hQ
                          subst hQ
                          have hMG : M = true ∨ (M = false ∧ G = true) := by
                            rcases hbad with h | h
                            · exact .inl (by rw [← hM]; exact decide_eq_true h)
                            · cases M
                              · exact .inr ⟨rfl, by rw [← hG]; exact decide_eq_true h⟩
                              · exact .inl rfl
                          rcases ns with _ | ⟨n0, nr⟩ <;> rcases rg with _ | ⟨g0, gr⟩ <;> simp only [gi, hgp, hgc, hC, w1, g2, e0, e1, e2, t2, nx, ny, rlos, zbx, n8, ptZ, opZ, bstr_size, bstr_data, zaa, zab, zac, push_cast, ↓reduceIte, reduceCtorEq, zB, zE, zA, zS, zL, zD, zM]
                          all_goals repeat refine And.intro (by first | omega | (simp; done) | (simp; omega) | kernel_rfl) ?_
                          all_goals refine call_mk hw rfl trivial ?_
                          all_goals simp only [g112, gi, hgp, hgc, hC, w1, g2, e0, e1, e2, t2, nx, ny, rlos, zbx, n8, ptZ, opZ, bstr_size, bstr_data, zaa, zab, zac, push_cast, ↓reduceIte, reduceCtorEq, zB, zE, zA, zS, zL, zD, zM]
                          all_goals repeat refine And.intro (by first | omega | (simp; done) | (simp; omega) | kernel_rfl) ?_
                          all_goals refine call_as (as' := [sV v, int .u8 (44 : UInt8).toNat]) rfl ?_
                          all_goals refine call_mk hrp rfl trivial ?_
                          all_goals (rcases hMG with rfl | ⟨rfl, rfl⟩ <;> simp only [hm, hgt, g112, gi, hgp, hgc, hC, w1, g2, e0, e1, e2, t2, nx, ny, rlos, zbx, n8, ptZ, opZ, rqV, rqO, askA, nilOr, bstr_size, bstr_data, zaa, zab, zac, push_cast, ↓reduceIte, reduceCtorEq, zB, zE, zA, zS, zL, zD, zM])
                          all_goals repeat refine And.intro (by first | omega | (simp; done) | (simp; omega) | kernel_rfl) ?_
                          all_goals try first | decide | kernel_rfl | exact ⟨rfl, rfl⟩
                        · rw [if_neg hbad] at hfd
                          have hM : M = false := by rw [← hM]; exact decide_eq_false fun h => hbad (.inl h)
                          have hG : G = false := by rw [← hG]; exact decide_eq_false fun h => hbad (.inr h)
                          subst hM hG
                          have hC200 : CS.length ≤ 200 := by omega
                          have hC2 : CS.length % 2 = 0 := by omega
                          obtain ⟨NS, hNS⟩ : ∃ x, x = ns := ⟨_, rfl⟩
                          obtain ⟨RG, hRG⟩ : ∃ x, x = rg := ⟨_, rfl⟩
                          rcases ns with _ | ⟨n0, nr⟩ <;> rcases rg with _ | ⟨g0, gr⟩ <;> simp only [gi, hgp, hgc, hC, w1, g2, e0, e1, e2, t2, nx, ny, rlos, zbx, n8, ptZ, opZ, bstr_size, bstr_data, zaa, zab, zac, push_cast, ↓reduceIte, reduceCtorEq, zB, zE, zA, zS, zL, zD, zM]
                          all_goals repeat refine And.intro (by first | omega | (simp; done) | (simp; omega) | kernel_rfl) ?_
                          all_goals refine call_mk hw rfl trivial ?_
                          all_goals simp only [g112, gi, hgp, hgc, hC, w1, g2, e0, e1, e2, t2, nx, ny, rlos, zbx, n8, ptZ, opZ, bstr_size, bstr_data, zaa, zab, zac, push_cast, ↓reduceIte, reduceCtorEq, zB, zE, zA, zS, zL, zD, zM]
                          all_goals repeat refine And.intro (by first | omega | (simp; done) | (simp; omega) | kernel_rfl) ?_
                          all_goals refine call_as (as' := [sV v, int .u8 (44 : UInt8).toNat]) rfl ?_
                          all_goals refine call_mk hrp rfl trivial ?_
                          all_goals simp only [hm, hgt, g112, gi, hgp, hgc, hC, w1, g2, e0, e1, e2, t2, nx, ny, rlos, zbx, n8, ptZ, opZ, bstr_size, bstr_data, zaa, zab, zac, push_cast, ↓reduceIte, reduceCtorEq, zB, zE, zA, zS, zL, zD, zM]
                          all_goals repeat refine And.intro (by first | omega | (simp; done) | (simp; omega) | kernel_rfl) ?_
                          all_goals refine run_loop [(0, false), (9, false), (13, false), (16, false), (15, false), (11, false), (12, false), (4, false), (10, false)] (fun vs pos los => ∃ (j : Nat) (rg' : List (Int × Int)), j ≤ CS.length ∧ j % 2 = 0 ∧ cornD (CS.drop j) rg' = cornD CS RG ∧ rg'.length ≤ RG.length + j ∧ vs = [int .i64 k, sV ks, int .i64 i, int .i64 j, .own 2000000 0 0 CS.length, .own 2000001 0 0 PS.length, .own 2000002 0 0 ws.length, .ptr 2000003 0 0, .ptr 2000004 0 0] ∧ pos = [] ∧ los = rlos2 k CS PS ws NS rg') (fun vs _ _ => match vs with | [_, _, _, .r (.v (.int _ j)), _, _, _, _, _] => (CS.length - j).toNat | _ => 0) rfl ?_ ?_
                          all_goals (subst hNS; subst hRG)
                          all_goals first
                            | (simp only [rlos2, zbx, n8, ptZ, opZ, bstr_size, bstr_data, zaa, zab, zac, push_cast, ↓reduceIte, reduceCtorEq, zB, zE, zA, zS, zL, zD, zM]
                               exact ⟨0, _, by omega, rfl, rfl, by simp, rfl, rfl⟩)
                            | skip
                          all_goals (rintro vs pos los ⟨j, rg', j0, j2, hcd, hrl', rfl, rfl, rfl⟩)
                          all_goals by_cases hj : j < CS.length
                          all_goals first
                            | (have hj1 : j + 1 < CS.length := by omega
                               obtain ⟨a, ha⟩ : ∃ a, CS[j] = a := ⟨_, rfl⟩
                               obtain ⟨b, hb⟩ : ∃ b, CS[j + 1] = b := ⟨_, rfl⟩
                               have hd : CS.drop j = a :: b :: CS.drop (j + 2) := by rw [zak hj, ha, zak hj1, hb]
                               have hga : ∀ z, (strs CS).getD j z = .v (.string (bstr a)) := fun z => by
                                 rw [zae]
                                 simp [hj, strR, ha]
                               have hgb : ∀ z, (strs CS).getD (j + 1) z = .v (.string (bstr b)) := fun z => by
                                 rw [zae]
                                 simp [hj1, strR, hb]
                               have gj : decide (((j : Nat) : Int) < ((CS.length : Nat) : Int)) = true := decide_eq_true (by omega)
                               have wj1 : IntKind.i64.wrap ((j : Int) + 1) = (j : Int) + 1 := wrap_id (by omega)
                               have wj2 : IntKind.i64.wrap ((j : Int) + 2) = (j : Int) + 2 := wrap_id (by omega)
                               have hal : a.length ≤ v.length := hvp a (by rw [← ha]; exact zai hj)
                               have hbl : b.length ≤ v.length := hvp b (by rw [← hb]; exact zai hj1)
                               have ta := rparse_t a (by omega)
                               have tb := rparse_t b (by omega)
                               rw [← pv_rp] at ta tb
                               rw [hd, cornD] at hcd
                               cases hpa : pv a <;> cases hpb : pv b <;> rw [hpa] at ta <;> rw [hpb] at tb <;> simp only [hpa, hpb] at hcd <;> rcases rg' with _ | ⟨h0, hr⟩ <;> simp only [gj, hga, hgb, wj1, rlos2, zbx, n8, ptZ, opZ, bstr_size, bstr_data, zaa, zab, zac, push_cast, ↓reduceIte, reduceCtorEq, zB, zE, zA, zS, zL, zD, zM]
                               all_goals repeat refine And.intro (by first | omega | (simp; done) | (simp; omega) | kernel_rfl) ?_
                               all_goals refine call_mk ta rfl trivial ?_
                               all_goals simp only [opt, gj, hga, hgb, wj1, wj2, rlos2, zbx, n8, ptZ, opZ, bstr_size, bstr_data, zaa, zab, zac, push_cast, ↓reduceIte, reduceCtorEq, zB, zE, zA, zS, zL, zD, zM]
                               all_goals repeat refine And.intro (by first | omega | (simp; done) | (simp; omega) | kernel_rfl) ?_
                               all_goals refine call_mk tb rfl trivial ?_
                               all_goals first
                                 | (rw [← hcd] at hfd
                                    simp only [zar, ↓reduceIte] at hfd
                                    subst hfd
                                    simp only [qst] at hQ
                                    subst hQ
                                    simp only [opt, gj, hga, hgb, wj1, wj2, rlos2, zbx, n8, ptZ, opZ, rqV, rqO, askA, nilOr, bstr_size, bstr_data, zaa, zab, zac, push_cast, ↓reduceIte, reduceCtorEq, zB, zE, zA, zS, zL, zD, zM]
                                    try first | kernel_rfl | exact ⟨rfl, rfl⟩
                                    done)
                                 | (simp only [opt, gj, hga, hgb, wj1, wj2, rlos2, zbx, n8, ptZ, opZ, bstr_size, bstr_data, zaa, zab, zac, push_cast, ↓reduceIte, reduceCtorEq, zB, zE, zA, zS, zL, zD, zM]
                                    refine ⟨by simp, by first | omega | (constructor <;> (simp only [zaf, zag] at hnl hrl hrl' ⊢; omega)) | (simp only [zaf, zag] at hnl hrl hrl' ⊢; omega), ⟨j + 2, _, by omega, by omega, hcd, by first | omega | (simp; done) | (simp only [zaf, zag] at hnl hrl hrl' ⊢; omega) | (simp; omega) | (simp at hnl hrl hrl' ⊢; omega), by simp, ?_⟩, by omega⟩
                                    simp [rlos2, zbx, strR, n8, ptZ, opZ, ptR]
                                    done))
                            | (have hj : j = CS.length := by omega
                               subst hj
                               have gj : decide (((CS.length : Nat) : Int) < ((CS.length : Nat) : Int)) = false := decide_eq_false (by omega)
                               rw [zao, cornD_nil] at hcd
                               rw [← hcd] at hfd
                               simp only [↓reduceIte] at hfd
                               rcases rg' with _ | ⟨h0, hr⟩ <;> simp only [gj, w1, rlos2, zbx, n8, ptZ, opZ, bstr_size, bstr_data, zaa, zab, zac, push_cast, ↓reduceIte, reduceCtorEq, zB, zE, zA, zS, zL, zD, zM]
                               all_goals refine ⟨⟨i + 1, _, _, _, by omega, hfd, by first | omega | (simp; done) | (simp only [zaf, zag] at hnl hrl hrl' ⊢; omega) | (simp; omega) | (simp at hnl hrl hrl' ⊢; omega), by first | omega | (simp; done) | (simp only [zaf, zag] at hnl hrl hrl' ⊢; omega) | (simp; omega) | (simp at hnl hrl hrl' ⊢; omega), by first | omega | (simp; done) | (simp only [zaf, zag] at hnl hrl hrl' ⊢; omega) | (simp; omega) | (simp at hnl hrl hrl' ⊢; omega), by simp, ?_⟩, by omega⟩
                               all_goals simp [rlos, zbx, strR, n8, ptZ, opZ, ptR])
                      · rw [if_neg h112] at hfd
                        have g112 : (C == 112) = false := by
                          rw [beq_eq_false_iff_ne]
                          intro h
                          apply h112
                          apply zal.1
                          have : (112 : UInt8).toNat = 112 := rfl
                          omega
                        have hpt := rparse_t v (by omega)
                        rw [← pv_rp] at hpt
                        rcases ns with _ | ⟨n0, nr⟩ <;> rcases rg with _ | ⟨g0, gr⟩ <;> simp only [gi, hgp, hgc, hC, w1, g2, e0, e1, e2, t2, nx, ny, rlos, zbx, n8, ptZ, opZ, rqV, rqO, askA, nilOr, bstr_size, bstr_data, zaa, zab, zac, push_cast, ↓reduceIte, reduceCtorEq, zB, zE, zA, zS, zL, zD, zM]
                        all_goals repeat refine And.intro (by first | omega | (simp; done) | (simp; omega) | kernel_rfl) ?_
                        all_goals refine call_mk hw rfl trivial ?_
                        all_goals simp only [g112, gi, hgp, hgc, hC, w1, g2, e0, e1, e2, t2, nx, ny, rlos, zbx, n8, ptZ, opZ, rqV, rqO, askA, nilOr, bstr_size, bstr_data, zaa, zab, zac, push_cast, ↓reduceIte, reduceCtorEq, zB, zE, zA, zS, zL, zD, zM]
                        all_goals repeat refine And.intro (by first | omega | (simp; done) | (simp; omega) | kernel_rfl) ?_
                        all_goals refine call_mk hpt rfl trivial ?_
                        all_goals cases hpv : pv v with
                          | none =>
                            simp only [hpv] at hfd
                            subst hfd
                            simp only [qst] at hQ
                            subst hQ
                            simp only [opt, g112, gi, hgp, hgc, hC, w1, g2, e0, e1, e2, t2, nx, ny, rlos, zbx, n8, ptZ, opZ, rqV, rqO, askA, nilOr, bstr_size, bstr_data, zaa, zab, zac, push_cast, ↓reduceIte, reduceCtorEq, zB, zE, zA, zS, zL, zD, zM]
                            try first | kernel_rfl | exact ⟨rfl, rfl⟩
                          | some n =>
                            simp only [hpv] at hfd
                            simp only [opt, g112, gi, hgp, hgc, hC, w1, g2, e0, e1, e2, t2, nx, ny, rlos, zbx, n8, ptZ, opZ, rqV, rqO, askA, nilOr, bstr_size, bstr_data, zaa, zab, zac, push_cast, ↓reduceIte, reduceCtorEq, zB, zE, zA, zS, zL, zD, zM]
                            refine ⟨by simp, by first | omega | (constructor <;> (simp only [zaf, zag] at hnl ⊢; omega)) | (simp only [zaf, zag] at hnl ⊢; omega), ⟨i + 1, _, _, _, by omega, hfd, by first | omega | (simp; done) | (simp only [zaf, zag] at hnl hrl ⊢; omega) | (simp; omega) | (simp at hnl hrl ⊢; omega), by first | omega | (simp; done) | (simp only [zaf, zag] at hnl hrl ⊢; omega) | (simp; omega) | (simp at hnl hrl ⊢; omega), by first | omega | (simp; done) | (simp only [zaf, zag] at hnl hrl ⊢; omega) | (simp; omega) | (simp at hnl hrl ⊢; omega), by simp, ?_⟩, by omega⟩
                            simp [rlos, zbx, strR, n8, ptZ, opZ, ptR]
                  · rw [if_neg (fun h => hy h.2)] at hfd
                    have nx : (((x.toNat : Nat) : Int) != C) = false := by rw [hx, hC]; simp
                    have ny : (((y.toNat : Nat) : Int) != 61) = true := by
                      rw [bne_iff_ne]
                      intro h
                      apply hy
                      apply zal.1
                      have : (61 : UInt8).toNat = 61 := rfl
                      omega
                    subst hfd
                    simp only [qst] at hQ
                    subst hQ
                    rcases ns with _ | ⟨n0, nr⟩ <;> rcases rg with _ | ⟨g0, gr⟩ <;> simp only [gi, hgp, hgc, hC, w1, g2, e0, e1, nx, ny, rlos, zbx, n8, ptZ, opZ, rqV, rqO, askA, nilOr, bstr_size, bstr_data, zaa, zab, zac, push_cast, ↓reduceIte, reduceCtorEq, zB, zE, zA, zS, zL, zD, zM]
                    all_goals repeat refine And.intro (by first | omega | (simp; done) | (simp; omega)) ?_
                    all_goals first | kernel_rfl | exact ⟨by kernel_rfl, rfl⟩ | exact ⟨by kernel_rfl, rfl, rfl⟩
                · rw [if_neg (fun h => hx h.1)] at hfd
                  have nx : (((x.toNat : Nat) : Int) != C) = true := by
                    rw [bne_iff_ne]
                    intro h
                    apply hx
                    apply zal.1
                    omega
                  subst hfd
                  simp only [qst] at hQ
                  subst hQ
                  rcases ns with _ | ⟨n0, nr⟩ <;> rcases rg with _ | ⟨g0, gr⟩ <;> simp only [gi, hgp, hgc, hC, w1, g2, e0, e1, nx, rlos, zbx, n8, ptZ, opZ, rqV, rqO, askA, nilOr, bstr_size, bstr_data, zaa, zab, zac, push_cast, ↓reduceIte, reduceCtorEq, zB, zE, zA, zS, zL, zD, zM]
                  all_goals repeat refine And.intro (by first | omega | (simp; done) | (simp; omega)) ?_
                  all_goals first | kernel_rfl | exact ⟨by kernel_rfl, rfl⟩ | exact ⟨by kernel_rfl, rfl, rfl⟩
            · have hi : i = ks.length := by omega
              subst hi
              have gi : decide (((ks.length : Nat) : Int) < ((ks.length : Nat) : Int)) = false := decide_eq_false (by omega)
              rw [zao, qk] at hfd
              subst hfd
              simp only [qst] at hQ
              subst hQ
              rcases ns with _ | ⟨n0, nr⟩ <;> rcases rg with _ | ⟨g0, gr⟩ <;> simp only [rlos, zbx, rqV, rqO, askA, nilOr, gi, bstr_size, zaa, zab, zac, push_cast, ↓reduceIte, reduceCtorEq, zB, zE, zA, zS, zL, zD, zM]
              all_goals first | rfl | exact ⟨rfl, rfl⟩
      · rw [if_pos (by simpa using h63)] at hQ
        subst hQ
        have g63 : (((c0.toNat : Nat) : Int) != 63) = true := by
          rw [bne_iff_ne]
          intro h
          apply h63
          apply zal.1
          have : (63 : UInt8).toNat = 63 := rfl
          omega
        simp only [be, bf, bstr_size, bstr_data, hc0, g63, rqV, rqO, askA, nilOr, push_cast, ↓reduceIte, reduceCtorEq, zB, zE, zA, zS, zL, zD, zM]
        repeat refine And.intro (by first | omega | (simp; done)) ?_
        first | rfl | exact ⟨rfl, rfl⟩

noncomputable def apiaryref21_Ask_pc : PC :=
  (.seq (.reg [p_a 2 (.new [(.r (.v (.int .i64 0))), (.nils 1 (.v (.int .i64 0))), (.nils 1 (.v (.int .u64 0))), (.nils 2 (.agg [(.v (.int .i64 0)), (.v (.int .i64 0))])), (.nils 5 (.agg [(.v (.int .i64 0)), (.v (.int .i64 0)), (.v (.int .i64 0)), (.v (.int .i64 0)), (.v (.int .i64 0))]))]),
 p_s 3 (.mov (o_i 0))])
 (.seq (.seq (.reg [p_m 18 0, p_s 19 (.len true (.t 18)), p_s 20 (.bin .gtr (.t 19) (o_i 10000))])
 (.cond (.t 20)
 (.seq (.reg [p_s 21 (.build [(.r (.v (.int .i64 0))), (.nils 1 (.v (.int .i64 0))), (.nils 1 (.v (.int .u64 0))), (.nils 2 (.agg [(.v (.int .i64 0)), (.v (.int .i64 0))])), (.nils 5 (.agg [(.v (.int .i64 0)), (.v (.int .i64 0)), (.v (.int .i64 0)), (.v (.int .i64 0)), (.v (.int .i64 0))]))] []),
 ⟨none, none, 0, .act (.st 5 (.t 2) (.t 21))⟩, p_s 3 (.mov (o_i 11))])
 .ret)
 .skip))
 (.seq (.seq (.reg [p_m 22 0, p_s 23 (.bin .eql (.t 22) (.c (.r (.v (.string ⟨#[]⟩))))), p_m 24 23, p_g 25 24 false (.mov (.t 0)), p_g 26 24 false (.ixs (.t 25) (o_i 0)), p_g 27 24 false (.bin .neq (.t 26) (.c (.r (.v (.int .u8 47))))),
 p_s 28 (.pick (.t 24) (.c (.r (.v (.bool true)))) (.t 27))])
 (.cond (.t 28)
 (.seq (.reg [p_s 29 (.build [(.r (.v (.int .i64 0))), (.nils 1 (.v (.int .i64 0))), (.nils 1 (.v (.int .u64 0))), (.nils 2 (.agg [(.v (.int .i64 0)), (.v (.int .i64 0))])), (.nils 5 (.agg [(.v (.int .i64 0)), (.v (.int .i64 0)), (.v (.int .i64 0)), (.v (.int .i64 0)), (.v (.int .i64 0))]))] []),
 ⟨none, none, 0, .act (.st 5 (.t 2) (.t 29))⟩, p_s 3 (.mov (o_i 15))])
 .ret)
 .skip))
 (.seq (.reg [p_s 4 (.mov (o_i 1))])
 (.seq (.block 0 (.loop (.seq (.seq (.reg [p_m 30 4, p_m 31 0, p_s 32 (.len true (.t 31)), p_s 33 (.bin .lss (.t 30) (.t 32)), p_m 34 33, p_g 35 34 true (.mov (.t 0)), p_g 36 34 true (.mov (.t 4)), p_g 37 34 true (.ixs (.t 35) (.t 36)),
 p_g 38 34 true (.bin .neq (.t 37) (.c (.r (.v (.int .u8 63))))), p_s 39 (.pick (.t 34) (.t 38) (.c (.r (.v (.bool false))))), p_m 40 39, p_g 41 40 true (.mov (.t 0)),
 p_g 42 40 true (.mov (.t 4)), p_g 43 40 true (.ixs (.t 41) (.t 42)), p_g 44 40 true (.bin .neq (.t 43) (.c (.r (.v (.int .u8 10))))), p_s 45 (.pick (.t 40) (.t 44) (.c (.r (.v (.bool false)))))])
 (.cond (.t 45)
 .skip
 (.exit 0)))
 (.block 1 (.reg [p_m 46 4, p_s 47 (.bin .add (.t 46) (o_i 1)), p_m 4 47])))))
 (.seq (.reg [p_s 5 (.mov (o_i 0))])
 (.seq (.reg [p_c 49 1 32 [], p_m 48 49, p_s 50 (.ext (.t 48) 0), p_s 51 (.ext (.t 48) 1), p_m 6 50, p_m 7 51])
 (.seq (.seq (.reg [p_s 8 (.mov (o_i 0))])
 (.block 2 (.loop (.seq (.seq (.reg [p_m 52 8, p_m 53 6, p_s 54 (.len false (.t 53)), p_s 55 (.bin .lss (.t 52) (.t 54))])
 (.cond (.t 55)
 .skip
 (.exit 2)))
 (.seq (.block 3 (.seq (.drw [p_m 58 6, p_m 59 8, p_s 60 (.ia 1 (.v (.string ⟨#[]⟩)) (.t 58) (.t 59)), p_s 61 (.ld none (.t 60)), p_m 62 0, p_m 63 4, p_s 64 (.sls (.t 62) (some (o_i 1)) (some (.t 63))),
 p_s 65 (.bin .eql (.t 61) (.t 64))]
 [[], [], [0, 1], [0, 1, 2], [], [], [4, 5], [0, 1, 2, 3, 4, 5, 6]])
 (.cond (.t 65)
 (.reg [p_m 66 8, p_s 67 (.bin .add (.t 66) (o_i 1)), p_m 5 67])
 .skip)))
 (.reg [p_m 56 8, p_s 57 (.bin .add (.t 56) (o_i 1)), p_m 8 57]))))))
 (.seq (.reg [p_m 68 4, p_m 69 0, p_s 70 (.len true (.t 69)), p_s 71 (.bin .lss (.t 68) (.t 70)), p_m 72 71, p_g 73 72 true (.mov (.t 0)), p_g 74 72 true (.mov (.t 4)), p_g 75 72 true (.ixs (.t 73) (.t 74)),
 p_g 76 72 true (.bin .eql (.t 75) (.c (.r (.v (.int .u8 10))))), p_s 77 (.pick (.t 72) (.t 76) (.c (.r (.v (.bool false))))), p_m 9 77])
 (.seq (.seq (.reg [p_m 78 5, p_s 79 (.bin .eql (.t 78) (o_i 0)), p_m 80 79, p_g 81 80 false (.mov (.t 5)), p_g 82 80 false (.bin .eql (.t 81) (o_i 16)), p_g 83 80 false (.mov (.t 82)),
 p_g 84 83 true (.mov (.t 9)), p_g 85 83 true (.un .not (.t 84)), p_g 86 80 false (.pick (.t 83) (.t 85) (.c (.r (.v (.bool false))))), p_s 87 (.pick (.t 80) (.c (.r (.v (.bool true)))) (.t 86)),
 p_m 88 87, p_g 89 88 false (.mov (.t 5)), p_g 90 88 false (.bin .neq (.t 89) (o_i 16)), p_g 91 88 false (.mov (.t 90)), p_g 92 91 true (.mov (.t 9)), p_g 93 88 false (.pick (.t 91) (.t 92) (.c (.r (.v (.bool false))))),
 p_s 94 (.pick (.t 88) (.c (.r (.v (.bool true)))) (.t 93))])
 (.cond (.t 94)
 (.seq (.reg [p_s 95 (.build [(.r (.v (.int .i64 0))), (.nils 1 (.v (.int .i64 0))), (.nils 1 (.v (.int .u64 0))), (.nils 2 (.agg [(.v (.int .i64 0)), (.v (.int .i64 0))])), (.nils 5 (.agg [(.v (.int .i64 0)), (.v (.int .i64 0)), (.v (.int .i64 0)), (.v (.int .i64 0)), (.v (.int .i64 0))]))] []),
 ⟨none, none, 0, .act (.st 5 (.t 2) (.t 95))⟩, p_s 3 (.mov (o_i 15))])
 .ret)
 .skip))
 (.seq (.seq (.reg [p_m 96 5, p_s 97 (.bin .eql (.t 96) (o_i 16))])
 (.cond (.t 97)
 (.seq (.reg [p_m 99 0, p_m 100 4, p_s 101 (.bin .add (.t 100) (o_i 1)), p_s 102 (.sls (.t 99) (some (.t 101)) none), p_c 103 2 37 [.t 102], p_m 98 103, p_s 104 (.ext (.t 98) 0),
 p_s 105 (.ext (.t 98) 1), p_m 10 104, p_m 11 105])
 (.seq (.seq (.reg [p_m 106 11, p_s 107 (.bin .neq (.t 106) (o_i 0))])
 (.cond (.t 107)
 (.seq (.reg [p_s 108 (.build [(.r (.v (.int .i64 0))), (.nils 1 (.v (.int .i64 0))), (.nils 1 (.v (.int .u64 0))), (.nils 2 (.agg [(.v (.int .i64 0)), (.v (.int .i64 0))])), (.nils 5 (.agg [(.v (.int .i64 0)), (.v (.int .i64 0)), (.v (.int .i64 0)), (.v (.int .i64 0)), (.v (.int .i64 0))]))] []),
 p_m 109 11, ⟨none, none, 0, .act (.st 5 (.t 2) (.t 108))⟩, p_m 3 109])
 .ret)
 .skip))
 (.seq (.reg [p_m 110 5, p_m 111 10, p_s 112 (.build [(.r (.v (.int .i64 0))), (.nils 1 (.v (.int .i64 0))), (.nils 1 (.v (.int .u64 0))), (.nils 2 (.agg [(.v (.int .i64 0)), (.v (.int .i64 0))])), (.nils 5 (.agg [(.v (.int .i64 0)), (.v (.int .i64 0)), (.v (.int .i64 0)), (.v (.int .i64 0)), (.v (.int .i64 0))]))] [(0, 1, (.t 110)), (4, 1, (.t 111))]),
 ⟨none, none, 0, .act (.st 5 (.t 2) (.t 112))⟩, p_s 3 (.mov (o_i 0))])
 .ret)))
 .skip))
 (.seq (.reg [p_m 114 5, p_m 115 0, p_m 116 4, p_s 117 (.sls (.t 115) (some (.t 116)) none), p_c 118 3 38 [.t 114, .t 117], p_m 113 118, p_s 119 (.ext (.t 113) 0), p_s 120 (.ext (.t 113) 1),
 p_s 121 (.ext (.t 113) 2), p_a 12 (.new [(.r (.v (.int .i64 0))), (.nils 1 (.v (.int .i64 0))), (.nils 1 (.v (.int .u64 0))), (.nils 2 (.agg [(.v (.int .i64 0)), (.v (.int .i64 0))])), (.nils 5 (.agg [(.v (.int .i64 0)), (.v (.int .i64 0)), (.v (.int .i64 0)), (.v (.int .i64 0)), (.v (.int .i64 0))]))]),
 ⟨none, none, 0, .act (.st 5 (.t 12) (.t 119))⟩, p_m 13 120, p_m 14 121])
 (.seq (.seq (.reg [p_m 122 14, p_s 123 (.bin .neq (.t 122) (o_i 0))])
 (.cond (.t 123)
 (.seq (.reg [p_s 124 (.build [(.r (.v (.int .i64 0))), (.nils 1 (.v (.int .i64 0))), (.nils 1 (.v (.int .u64 0))), (.nils 2 (.agg [(.v (.int .i64 0)), (.v (.int .i64 0))])), (.nils 5 (.agg [(.v (.int .i64 0)), (.v (.int .i64 0)), (.v (.int .i64 0)), (.v (.int .i64 0)), (.v (.int .i64 0))]))] []),
 p_m 125 14, ⟨none, none, 0, .act (.st 5 (.t 2) (.t 124))⟩, p_m 3 125])
 .ret)
 .skip))
 (.seq (.seq (.reg [p_s 15 (.mov (o_i 0))])
 (.block 4 (.loop (.seq (.seq (.reg [p_m 126 15, p_m 127 13, p_s 128 (.len false (.t 127)), p_s 129 (.bin .lss (.t 126) (.t 128))])
 (.cond (.t 129)
 .skip
 (.exit 4)))
 (.seq (.block 5 (.seq (.reg [p_m 133 13, p_m 134 15, p_s 135 (.ia 1 (.v (.string ⟨#[]⟩)) (.t 133) (.t 134)), p_s 136 (.ld none (.t 135)), p_c 137 4 39 [.t 136], p_m 132 137, p_s 138 (.ext (.t 132) 0),
 p_s 139 (.ext (.t 132) 1), p_m 16 138, p_m 17 139])
 (.seq (.seq (.reg [p_m 140 17, p_s 141 (.bin .neq (.t 140) (o_i 0))])
 (.cond (.t 141)
 (.seq (.reg [p_s 142 (.build [(.r (.v (.int .i64 0))), (.nils 1 (.v (.int .i64 0))), (.nils 1 (.v (.int .u64 0))), (.nils 2 (.agg [(.v (.int .i64 0)), (.v (.int .i64 0))])), (.nils 5 (.agg [(.v (.int .i64 0)), (.v (.int .i64 0)), (.v (.int .i64 0)), (.v (.int .i64 0)), (.v (.int .i64 0))]))] []),
 p_m 143 17, ⟨none, none, 0, .act (.st 5 (.t 2) (.t 142))⟩, p_m 3 143])
 .ret)
 .skip))
 (.reg [p_s 144 (.fa 2 (.t 12)), p_s 145 (.ld none (.t 144)), p_m 146 16, p_a 147 (.bsl 1 (.v (.int .u64 0)) [(.t 146)]), p_a 148 (.app 1 (.v (.int .u64 0)) 8 (.t 145) (.t 147)),
 p_s 149 (.fa 2 (.t 12)), ⟨none, none, 0, .act (.st 1 (.t 149) (.t 148))⟩]))))
 (.reg [p_m 130 15, p_s 131 (.bin .add (.t 130) (o_i 1)), p_m 15 131]))))))
 (.seq (.reg [p_s 150 (.ld (some 5) (.t 12)), ⟨none, none, 0, .act (.st 5 (.t 2) (.t 150))⟩, p_s 3 (.mov (o_i 0))])
 .ret)))))))))))))))
theorem apiaryref21_Ask_triple : Fun P0 17 1 [(2, false, some (29, (some 5))), (3, false, none)] apiaryref21_Ask_pc := fun_mk Go.Proofs.Tryz.func17 rfl (by decide) (by kernel_rfl) (by decide) rfl (by kernel_rfl) (by kernel_rfl) (by decide)
def askW (k : Int) (ns : List Int) (rg : List (Int × Int)) : AV := .agg [int .i64 k, .r (.sl 1 (ns.map n8)), .nils 1 (u8R 0), .r (.sl 2 (rg.map ptR)), .nils 5 opZ]
theorem askW_weak (k : Int) (ns : List Int) (rg : List (Int × Int)) (w : World) (R : Nat → Prop) (ob : Obs) (ρ : Pl → Option Nat) (c : Value) (h : RelA w R ob ρ (askA k ns [] rg) c) : RelA w R ob ρ (askW k ns rg) c := by
 unfold askA at h
 cases h with
 | agg xs cs hl h =>
  refine .agg _ _ (by simpa using hl) fun i x c hx hc => ?_
  match i, hx with
  | 0, hx => cases hx; exact h 0 _ c rfl hc
  | 1, hx => cases hx; exact .r (nilOr_rv (h 1 _ c rfl hc))
  | 2, hx => cases hx; exact h 2 _ c rfl hc
  | 3, hx => cases hx; exact .r (nilOr_rv (h 3 _ c rfl hc))
  | 4, hx => cases hx; exact h 4 _ c rfl hc
  | n + 5, hx => cases hx
theorem tup3_weak {a a' b e : AV} (hw : ∀ (w : World) (R : Nat → Prop) (ob : Obs) (ρ : Pl → Option Nat) (c : Value), RelA w R ob ρ a c → RelA w R ob ρ a' c) (w : World) (R : Nat → Prop) (ob : Obs) (ρ : Pl → Option Nat) (c : Value) (h : RelA w R ob ρ (.tup [a, b, e]) c) : RelA w R ob ρ (.tup [a', b, e]) c := by
 cases h with
 | tup xs cs hl h =>
  refine .tup _ _ (by simpa using hl) fun i x c hx hc => ?_
  match i, hx with
  | 0, hx => cases hx; exact hw _ _ _ _ _ (h 0 _ c rfl hc)
  | 1, hx => cases hx; exact h 1 _ c rfl hc
  | 2, hx => cases hx; exact h 2 _ c rfl hc
  | n + 3, hx => cases hx
theorem rqS_st (k : Int) (ks s : Bs) : ∃ ns ws rg, rqS k ks s = ((ns, ws, rg), 0) ∨ (rqS k ks s = (([], [], []), 1)) ∨ rqS k ks s = ((ns, ws, rg), 2) := by
 unfold rqS
 split
 ·split
  ·exact ⟨[], [], [], .inr (.inl rfl)⟩
  ·exact ⟨[], [], [], .inr (.inr rfl)⟩
 ·split
  ·exact ⟨[], [], [], .inr (.inr rfl)⟩
  ·split
   ·exact ⟨[], [], [], .inr (.inr rfl)⟩
   ·obtain ⟨⟨⟨ns, ws, rg⟩, b⟩, hb⟩ : ∃ x, qk k ks (pieces 38 s.tail) [] [] [] = x := ⟨_, rfl⟩
    rw [hb]
    cases b
    ·exact ⟨ns, ws, rg, .inr (.inr rfl)⟩
    ·exact ⟨ns, ws, rg, .inl rfl⟩
theorem qk_ws (k : Int) : ∀ (ks : Bs) (ps : List Bs) (ns : List Int) (ws : List Bs) (rg : List (Int × Int)), (qk k ks ps ns ws rg).1.2.1.length ≤ ws.length + ks.length
 | [], ps, ns, ws, rg => by simp [qk]
 | c :: ks, ps, ns, ws, rg => by
  rw [qk]
  split
  ·simp
  ·rename_i v _
   split
   ·have := qk_ws k ks ps.tail ns (ws ++ [v]) rg
    simp at this ⊢
    omega
   ·split
    ·split
     ·simp
     ·split
      ·have := qk_ws k ks ps.tail ns ws (cornD (pieces 44 v) rg).1
       simp at this ⊢
       omega
      ·simp
    ·split
     ·simp
     ·rename_i n _
      have := qk_ws k ks ps.tail (ns ++ [n]) ws rg
      simp at this ⊢
      omega
theorem rqS_ws (k : Int) (ks s : Bs) (hk : ks.length ≤ 5) : (rqS k ks s).1.2.1.length ≤ 5 := by
 unfold rqS
 split
 ·split <;> simp
 ·split
  ·simp
  ·split
   ·simp
   ·have := qk_ws k ks (pieces 38 s.tail) [] [] []
    simp [qst] at this ⊢
    omega
def kdS (nm : Bs) : List Bs → Nat → Nat → Nat
 | [], _, cur => cur
 | x :: r, i, cur => kdS nm r (i + 1) (if x = nm then i + 1 else cur)
def loadB (rest : Bs) : Bool := decide ((rest.headD 0).toNat = 10)
def bodyS (kd : Nat) (rest : Bs) : (AskD × Int) × Bool :=
 if kd = 16 then (loadD 16 (ropsR rest.tail), false)
 else if (rqS kd (keysL.getD (kd - 1) []) rest).2 = 2 then ((ask0, 16), false)
 else (finD kd (rqS kd (keysL.getD (kd - 1) []) rest).1.1 (rqS kd (keysL.getD (kd - 1) []) rest).1.2.2 (wordsP (rqS kd (keysL.getD (kd - 1) []) rest).1.2.1 []), match wordsP (rqS kd (keysL.getD (kd - 1) []) rest).1.2.1 [] with | .ok _ => true | .error _ => false)
def pathB (kd : Nat) (rest : Bs) : Bool := decide (kd = 0 ∨ (kd = 16 ∧ loadB rest = false) ∨ (kd ≠ 16 ∧ loadB rest = true))
def askS (s : Bs) : (AskD × Int) × Bool :=
 if 10000 < s.length then ((ask0, 11), false)
 else if s.take 1 ≠ [47] then ((ask0, 15), false)
 else if pathB (kdS (upTo stopB s.tail).1 namesL 0 0) (upTo stopB s.tail).2 = true then ((ask0, 15), false)
 else bodyS (kdS (upTo stopB s.tail).1 namesL 0 0) (upTo stopB s.tail).2
def askF (x : (AskD × Int) × Bool) : AV := if x.2 = true then .agg [int .i64 x.1.1.k, .r (.sl 1 (x.1.1.ns.map n8)), nilOr 1 (u8R 0) (x.1.1.ws.map u8R), .r (.sl 2 (x.1.1.rg.map ptR)), .nils 5 opZ] else x.1.1.av
def rqW (k : Int) (x : (List Int × List Bs × List (Int × Int)) × Nat) : AV := match x.2 with
 | 0 => .tup [askW k x.1.1 x.1.2.2, .own 1000000 0 0 x.1.2.1.length, int .i64 0]
 | 1 => .tup [askW k x.1.1 x.1.2.2, .nils 1 (.v (.string ⟨#[]⟩)), int .i64 0]
 | _ => .tup [askW k x.1.1 x.1.2.2, .nils 1 (.v (.string ⟨#[]⟩)), int .i64 16]
theorem rquery_w (K : Nat) (hK : K < 16) (s : Bs) (hl : s.length ≤ 100000) : Triple P0 38 [int .i64 ((K : Int) + 1), sV s] []
  (rqW ((K : Int) + 1) (rqS ((K : Int) + 1) (keysL.getD K []) s)) (rqO (rqS ((K : Int) + 1) (keysL.getD K []) s)) := by
 refine (rquery_t K hK s hl).weak ?_
 unfold rqV rqW
 intro w R ob ρ c h
 split at h <;> rename_i he <;> (try simp only [he]) <;> exact tup3_weak (askW_weak _ _ _) _ _ _ _ _ h
theorem qk_wl (k : Int) (N : Nat) : ∀ (ks : Bs) (ps : List Bs) (ns : List Int) (ws : List Bs) (rg : List (Int × Int)), (∀ p ∈ ps, p.length ≤ N) → (∀ w ∈ ws, w.length ≤ N) → ∀ w ∈ (qk k ks ps ns ws rg).1.2.1, w.length ≤ N
 | [], ps, ns, ws, rg, hp, hw => by simpa [qk] using hw
 | c :: ks, ps, ns, ws, rg, hp, hw => by
  have hpt : ∀ p ∈ ps.tail, p.length ≤ N := fun p h => hp p (List.mem_of_mem_tail h)
  have hph : (ps.headD []).length ≤ N := by
   cases ps with
   | nil => simp
   | cons p ps => exact hp p (by simp)
  rw [qk]
  split
  ·exact hw
  ·rename_i v hv
   have hvl : v.length ≤ N := by
    rw [valP_eq] at hv
    split at hv
    ·cases hv; rw [List.length_drop]; omega
    ·cases hv
   split
   ·refine qk_wl k N ks ps.tail ns (ws ++ [v]) rg hpt fun w h => ?_
    rcases List.mem_append.1 h with h | h
    ·exact hw w h
    ·rw [List.mem_singleton] at h
     rw [h]
     exact hvl
   ·split
    ·split
     ·exact hw
     ·split
      ·exact qk_wl k N ks ps.tail ns ws _ hpt hw
      ·exact hw
    ·split
     ·exact hw
     ·exact qk_wl k N ks ps.tail _ ws rg hpt hw
theorem rqS_wl (k : Int) (ks s : Bs) : ∀ w ∈ (rqS k ks s).1.2.1, w.length ≤ s.length := by
 unfold rqS
 split
 ·split <;> simp
 ·split
  ·simp
  ·split
   ·simp
   ·exact qk_wl k s.length ks _ [] [] [] (fun p h => by have := pieces_le 38 s.tail p h; simp at this; omega) (by simp)
def rwl (k : Int) (ns : List Int) (rg : List (Int × Int)) (ws : List Bs) : List Nat → List Ob
 | [] => [rowS ws, zbx, .box [int .i64 k, .r (.sl 1 (ns.map n8)), .nils 1 (u8R 0), .r (.sl 2 (rg.map ptR)), .nils 5 opZ]]
 | a :: r => [rowS ws, zbx, .box [int .i64 k, .r (.sl 1 (ns.map n8)), .own 2000003 0 0 (r.length + 1), .r (.sl 2 (rg.map ptR)), .nils 5 opZ], .row 1 (u8R 0) true true ((a :: r).map u8R)]
set_option maxHeartbeats 4000000 in
theorem rask_t (s : Bs) (hl : s.length ≤ 100000) : Triple P0 17 [sV s] [] (.tup [askF (askS s), int .i64 (askS s).1.2]) [] := by
  refine apiaryref21_Ask_triple rfl (by decide) ?_
  obtain ⟨Q, hQ⟩ : ∃ Q, askS s = Q := ⟨_, rfl⟩
  rw [hQ]
  unfold askS at hQ
  have be : ∀ l : Bs, ((bstr l).toList == ({ data := #[] } : ByteArray).toList) = decide (l = []) := fun l => by
    rw [bstr_list, show (({ data := #[] } : ByteArray).toList) = [] from by rw [ByteArray.toList_eq]]
    cases l <;> rfl
  simp only [apiaryref21_Ask_pc, bstr_size, push_cast, ↓reduceIte, reduceCtorEq, zB, zE, zA, zS, zL, zD, zM]
  refine cnd_mk (fun hb => ?_) (fun hb => ?_)
  · have hb : 10000 < s.length := by simp at hb; omega
    rw [if_pos hb] at hQ
    subst hQ
    simp only [push_cast, ↓reduceIte, reduceCtorEq, zB, zE, zA, zS, zL, zD, zM]
    first | rfl | exact ⟨rfl, rfl⟩
  · have hb : s.length ≤ 10000 := by simp at hb; omega
    rw [if_neg (by omega)] at hQ
    cases s with
    | nil =>
      rw [if_pos (by decide)] at hQ
      subst hQ
      have bt : decide (([] : Bs) = []) = true := rfl
      simp only [be, bt, push_cast, ↓reduceIte, reduceCtorEq, zB, zE, zA, zS, zL, zD, zM]
      first | rfl | exact ⟨rfl, rfl⟩
    | cons c0 t =>
      have bf : decide (c0 :: t = []) = false := decide_eq_false (by simp)
      have hc0 : (c0 :: t).getD (zad 0) 0 = c0 := rfl
      by_cases h47 : c0 = 47
      · subst h47
        rw [if_neg (by simp)] at hQ
        have g47 : ((((47 : UInt8).toNat : Nat) : Int) != 47) = false := rfl
        have hQ : (if pathB (kdS (upTo stopB t).1 namesL 0 0) (upTo stopB t).2 = true then (((ask0, 15), false) : (AskD × Int) × Bool) else bodyS (kdS (upTo stopB t).1 namesL 0 0) (upTo stopB t).2) = Q := hQ
        have htl : t.length ≤ 10000 := by simp at hb; omega
        simp only [be, bf, bstr_size, bstr_data, hc0, g47, zaa, zab, zac, push_cast, ↓reduceIte, reduceCtorEq, zB, zE, zA, zS, zL, zD, zM]
        repeat refine And.intro (by first | omega | (simp; done) | (simp; omega) | (intro _; omega)) ?_
        refine run_loop [(0, false), (4, false), (2, false)] (fun vs pos los => ∃ j : Nat, j ≤ t.length ∧ (∀ c ∈ t.take j, stopB c = false) ∧ vs = [sV (47 :: t), int .i64 ((j : Int) + 1), .ptr 2000000 0 0] ∧ pos = [] ∧ los = [zbx])
          (fun vs _ _ => match vs with | [_, .r (.v (.int _ j)), _] => (t.length + 1 - j).toNat | _ => 0) rfl ?_ ?_
        · simp only [push_cast, ↓reduceIte, reduceCtorEq, zB, zE, zA, zS, zL, zD, zM]
          exact ⟨0, by omega, by simp, rfl, rfl⟩
        · rintro vs pos los ⟨j, j0, hns, rfl, rfl, rfl⟩
          by_cases hgo : j < t.length ∧ stopB (t.getD j 0) = false
          · obtain ⟨hj, hst⟩ := hgo
            obtain ⟨c, hc⟩ : ∃ c, t[j] = c := ⟨_, rfl⟩
            have hg : t.getD j 0 = c := by simp [List.getD, hj, hc]
            rw [hg] at hst
            have hg1 : (47 :: t).getD (j + 1) 0 = c := by rw [List.getD_cons_succ, hg]
            have gj : decide (((j : Nat) : Int) + 1 < ((t.length : Nat) : Int) + 1) = true := decide_eq_true (by omega)
            have hs2 : ¬ (c.toNat = 63 ∨ c.toNat = 10) := of_decide_eq_false hst
            have g1 : (((c.toNat : Nat) : Int) != 63) = true := by rw [bne_iff_ne]; omega
            have g2 : (((c.toNat : Nat) : Int) != 10) = true := by rw [bne_iff_ne]; omega
            have w1 : IntKind.i64.wrap ((j : Int) + 1 + 1) = (j : Int) + 1 + 1 := wrap_id (by omega)
            simp only [zbx, gj, hg1, g1, g2, w1, bstr_size, bstr_data, zaa, zab, zac, push_cast, ↓reduceIte, reduceCtorEq, zB, zE, zA, zS, zL, zD, zM]
            refine ⟨by omega, by omega, ⟨j + 1, by omega, ?_, by simp⟩, by omega⟩
            rw [zas hj]
            intro x hx
            rcases List.mem_append.1 hx with hx | hx
            · exact hns x hx
            · rw [List.mem_singleton] at hx
              rw [hx, hc]
              exact hst
          · obtain ⟨c, hc⟩ : ∃ c, t.getD j 0 = c := ⟨_, rfl⟩
            have hg1 : (47 :: t).getD (j + 1) 0 = c := by rw [List.getD_cons_succ, hc]
            obtain ⟨L, gj⟩ : ∃ L, decide (((j : Nat) : Int) + 1 < ((t.length : Nat) : Int) + 1) = L := ⟨_, rfl⟩
            obtain ⟨N1, g1⟩ : ∃ N, (((c.toNat : Nat) : Int) != 63) = N := ⟨_, rfl⟩
            obtain ⟨N2, g2⟩ : ∃ N, (((c.toNat : Nat) : Int) != 10) = N := ⟨_, rfl⟩
            obtain ⟨E, g3⟩ : ∃ N, (((c.toNat : Nat) : Int) == 10) = N := ⟨_, rfl⟩
            obtain ⟨nm, hnm⟩ : ∃ x, t.take j = x := ⟨_, rfl⟩
            obtain ⟨rest, hre⟩ : ∃ x, t.drop j = x := ⟨_, rfl⟩
            have hnl : nm.length = j := by rw [← hnm]; simp; omega
            have hrl : rest.length ≤ t.length := by rw [← hre]; simp
            have hap : nm ++ rest = t := by rw [← hnm, ← hre, List.take_append_drop]
            rw [hnm] at hns
            have key : upTo stopB t = (nm, rest) ∧ ((L = false ∧ loadB rest = false) ∨ (L = true ∧ N1 = false ∧ E = false ∧ loadB rest = false) ∨ (L = true ∧ N1 = true ∧ N2 = false ∧ E = true ∧ loadB rest = true)) := by
              by_cases hj : j < t.length
              · have hst : stopB c = true := by
                  cases hs : stopB c with
                  | true => rfl
                  | false => exact absurd ⟨hj, by rw [hc, hs]⟩ hgo
                have hr2 : rest = c :: t.drop (j + 1) := by
                  rw [← hre, zak hj]
                  congr 1
                  rw [← hc]
                  simp [List.getD, hj]
                refine ⟨by rw [← hap, hr2]; exact upTo_cut stopB c _ hst nm hns, ?_⟩
                have hL : L = true := by rw [← gj]; exact decide_eq_true (by omega)
                have hs2 : c.toNat = 63 ∨ c.toNat = 10 := of_decide_eq_true hst
                right
                rcases hs2 with h | h
                · left
                  refine ⟨hL, ?_, ?_, ?_⟩
                  · rw [← g1, h]; rfl
                  · rw [← g3, h]; rfl
                  · rw [hr2]; unfold loadB; simp [h]
                · right
                  refine ⟨hL, ?_, ?_, ?_, ?_⟩
                  · rw [← g1, h]; rfl
                  · rw [← g2, h]; rfl
                  · rw [← g3, h]; rfl
                  · rw [hr2]; unfold loadB; simp [h]
              · have hr2 : rest = [] := by rw [← hre]; exact List.drop_eq_nil_of_le (by omega)
                refine ⟨?_, .inl ⟨by rw [← gj]; exact decide_eq_false (by omega), by rw [hr2]; rfl⟩⟩
                rw [← hap, hr2, List.append_nil]
                exact upTo_free stopB nm hns
            obtain ⟨hup, hcase⟩ := key
            rw [hup] at hQ
            simp only at hQ
            have enm : (bstr (47 :: t)).extract (zad 1) (j + 1) = bstr nm := by
              rw [bstr_sub _ _ _ (by simp; omega), ← hnm]
              simp
            have ere : (bstr (47 :: t)).extract (j + 1) (t.length + 1) = bstr rest := by
              rw [bstr_sub _ _ _ (by simp), ← hre]
              simp
            have tj : (((j : Nat) : Int) + 1).toNat = j + 1 := by omega
            have tt : (((t.length : Nat) : Int) + 1).toNat = t.length + 1 := by omega
            have main : ∀ (lb : Bool) (D : Prop), True := fun _ _ => trivial
            rcases hcase with ⟨rfl, hlb⟩ | ⟨rfl, rfl, rfl, hlb⟩ | ⟨rfl, rfl, rfl, rfl, hlb⟩
            all_goals simp only [zbx, gj, hg1, g1, g2, bstr_size, bstr_data, zaa, zab, zac, push_cast, ↓reduceIte, reduceCtorEq, zB, zE, zA, zS, zL, zD, zM]
            all_goals repeat refine And.intro (by first | omega | (have h := of_decide_eq_true gj; omega) | (simp; done) | (simp; omega) | (intro _; omega)) ?_
            all_goals refine call_mk names_t rfl trivial ?_
            all_goals simp only [zbx, gj, hg1, g1, g2, bstr_size, bstr_data, zaa, zab, zac, push_cast, ↓reduceIte, reduceCtorEq, zB, zE, zA, zS, zL, zD, zM]
            all_goals refine run_loop [(0, false), (4, false), (5, false), (8, false), (2, false), (6, false)] (fun vs pos los => ∃ (i kd : Nat), i ≤ 16 ∧ kd ≤ i ∧ kdS nm (namesL.drop i) i kd = kdS nm namesL 0 0 ∧ vs = [sV (47 :: t), int .i64 ((j : Int) + 1), int .i64 kd, int .i64 i, .ptr 2000000 0 0, .own 2000001 0 0 16] ∧ pos = [] ∧ los = [zbx, rowS namesL]) (fun vs _ _ => match vs with | [_, _, _, .r (.v (.int _ i)), _, _] => (16 - i).toNat | _ => 0) rfl ?_ ?_
            all_goals first
              | (simp only [push_cast, ↓reduceIte, reduceCtorEq, zB, zE, zA, zS, zL, zD, zM]
                 exact ⟨0, 0, by omega, by omega, rfl, rfl, rfl⟩)
              | skip
            all_goals (rintro vs pos los ⟨i, kd, i0, hkd, hks, rfl, rfl, rfl⟩)
            all_goals (
              by_cases hi : i < 16
              · have hil : i < namesL.length := hi
                obtain ⟨x, hx⟩ : ∃ x, namesL[i] = x := ⟨_, rfl⟩
                have hd : namesL.drop i = x :: namesL.drop (i + 1) := by rw [zak hil, hx]
                have hgx : ∀ z, (strs namesL).getD i z = .v (.string (bstr x)) := fun z => by
                  rw [zae]
                  simp [hil, strR, hx]
                have gi : decide (((i : Nat) : Int) < 16) = true := decide_eq_true (by omega)
                have wi : IntKind.i64.wrap ((i : Int) + 1) = (i : Int) + 1 := wrap_id (by omega)
                have hnL : (strs namesL).length = 16 := rfl
                rw [hd, kdS] at hks
                simp only [zbx, gi, hgx, wi, tj, enm, hnL, bstr_list, bstr_size, bstr_data, zaa, zab, zac, push_cast, ↓reduceIte, reduceCtorEq, zB, zE, zA, zS, zL, zD, zM]
                repeat refine And.intro (by first | omega | (simp; done) | (simp; omega) | (intro _; omega) | kernel_rfl) ?_
                refine cnd_mk (fun hq => ?_) (fun hq => ?_)
                · have hq : x = nm := by simpa using hq
                  rw [if_pos hq] at hks
                  simp only [zbx, gi, hgx, wi, zaa, zab, zac, push_cast, ↓reduceIte, reduceCtorEq, zB, zE, zA, zS, zL, zD, zM]
                  exact ⟨⟨i + 1, i + 1, by omega, by omega, hks, by simp⟩, by omega⟩
                · have hq : x ≠ nm := by simpa using hq
                  rw [if_neg hq] at hks
                  simp only [zbx, gi, hgx, wi, zaa, zab, zac, push_cast, ↓reduceIte, reduceCtorEq, zB, zE, zA, zS, zL, zD, zM]
                  exact ⟨⟨i + 1, kd, by omega, by omega, hks, by simp⟩, by omega⟩
              · have hi : i = 16 := by omega
                subst hi
                have hkd2 : kd = kdS nm namesL 0 0 := by rw [← hks]; rfl
                rw [← hkd2] at hQ
                have gi : decide ((16 : Int) < 16) = false := rfl
                have hnL : (strs namesL).length = 16 := rfl
                have kd0 : (((kd : Nat) : Int) == 0) = decide (kd = 0) := by rw [zah]; simp; try omega
                have kd16 : (((kd : Nat) : Int) == 16) = decide (kd = 16) := by rw [zah]; simp; try omega
                have kn16 : (((kd : Nat) : Int) != 16) = !decide (kd = 16) := by rw [bne, kd16]
                obtain ⟨Z, hZ⟩ : ∃ Z, decide (kd = 0) = Z := ⟨_, rfl⟩
                obtain ⟨S, hS⟩ : ∃ S, decide (kd = 16) = S := ⟨_, rfl⟩
                rw [hZ] at kd0
                rw [hS] at kd16 kn16
                simp only [zbx, gi, gj, hg1, g3, hnL, tj, tt, kd0, kd16, kn16, bstr_size, bstr_data, zaa, zab, zac, push_cast, ↓reduceIte, reduceCtorEq, zB, zE, zA, zS, zL, zD, zM]
                repeat refine And.intro (by first | omega | (have h := of_decide_eq_true gj; omega) | (simp; done) | (simp; omega) | (intro _; omega) | kernel_rfl) ?_
                cases Z <;> cases S <;> simp only [Bool.and_false, push_cast, ↓reduceIte, reduceCtorEq, zB, zE, zA, zS, zL, zD, zM]
                all_goals first
                  | (have hp : pathB kd rest = true := by
                       unfold pathB
                       simp only [decide_eq_true_eq, decide_eq_false_iff_not] at hZ hS
                       simp [hZ, hS, hlb]
                     rw [if_pos hp] at hQ
                     subst hQ
                     rfl)
                  | skip
                all_goals (have hp : ¬ pathB kd rest = true := by (unfold pathB; simp only [decide_eq_true_eq, decide_eq_false_iff_not] at hZ hS; simp [hZ, hS, hlb]))
                all_goals rw [if_neg hp] at hQ
                all_goals unfold bodyS at hQ
                all_goals simp only [decide_eq_true_eq, decide_eq_false_iff_not] at hZ hS
                all_goals (
                  by_cases hS16 : kd = 16
                  · first | exact absurd hS16 hS | skip
                    all_goals (
                      rw [if_pos hS16] at hQ
                      obtain ⟨c', r', hrr⟩ : ∃ c' r', rest = c' :: r' := by
                        cases hr : rest with
                        | nil => rw [hr] at hlb; cases hlb
                        | cons c' r' => exact ⟨c', r', rfl⟩
                      have hrt : rest.tail = t.drop (j + 1) := by rw [← hre, List.tail_drop]
                      have ero : (bstr (47 :: t)).extract (j + 1 + 1) (t.length + 1) = bstr rest.tail := by
                        rw [bstr_sub _ _ _ (by simp), hrt]
                        simp
                      have wj : IntKind.i64.wrap ((j : Int) + 1 + 1) = (j : Int) + 1 + 1 := wrap_id (by omega)
                      have tj2 : (((j : Nat) : Int) + 1 + 1).toNat = j + 1 + 1 := by omega
                      have hO := rops_t rest.tail (by rw [hrt]; simp; omega)
                      obtain ⟨O, hO2⟩ : ∃ O, ropsR rest.tail = O := ⟨_, rfl⟩
                      simp only [hO2] at hO hQ
                      cases O with
                      | none =>
                        simp only [kd16, zbx, wj, tj2, tt, ero, bstr_size, bstr_data, zaa, zab, zac, push_cast, ↓reduceIte, reduceCtorEq, zB, zE, zA, zS, zL, zD, zM]
                        refine ⟨by have h := of_decide_eq_true gj; omega, ?_⟩
                        refine call_as (as' := [sV rest.tail]) rfl ?_
                        refine call_mk hO rfl trivial ?_
                        subst hQ
                        have g10 : ((10 : Int) != 0) = true := rfl
                        simp only [opsA, opsO, g10, push_cast, ↓reduceIte, reduceCtorEq, zB, zE, zA, zS, zL, zD, zM]
                        rfl
                      | some os =>
                        simp only [kd16, zbx, wj, tj2, tt, ero, bstr_size, bstr_data, zaa, zab, zac, push_cast, ↓reduceIte, reduceCtorEq, zB, zE, zA, zS, zL, zD, zM]
                        refine ⟨by have h := of_decide_eq_true gj; omega, ?_⟩
                        refine call_as (as' := [sV rest.tail]) rfl ?_
                        refine call_mk hO rfl trivial ?_
                        have hne : os ≠ [] := by
                          intro e
                          subst e
                          unfold ropsR at hO2
                          split at hO2
                          · cases hO2
                          · split at hO2
                            · cases hO2
                            · rename_i h
                              have := Option.some.inj hO2
                              rw [this] at h
                              exact h (by decide)
                        have g00 : ((0 : Int) != 0) = false := rfl
                        have htk : List.take os.length (os.map opR) = os.map opR := List.take_of_length_le (by simp)
                        subst hS16
                        subst hQ
                        simp only [opsA, opsO, g00, htk, askF, loadD, AskD.av, askB, push_cast, ↓reduceIte, reduceCtorEq, zB, zE, zA, zS, zL, zD, zM]
                        obtain ⟨o, os', rfl⟩ : ∃ o os', os = o :: os' := by
                          cases os with
                          | nil => exact absurd rfl hne
                          | cons o os' => exact ⟨o, os', rfl⟩
                        rfl)
                  · rw [if_neg hS16] at hQ
                    first | exact absurd hS hS16 | skip
                    all_goals (
                      obtain ⟨K, rfl⟩ : ∃ K, kd = K + 1 := ⟨kd - 1, by omega⟩
                      have hK : K < 16 := by omega
                      have hks5 : ∀ i : Fin 16, (keysL.getD i.val []).length ≤ 5 := by decide
                      have hks5 := hks5 ⟨K, hK⟩
                      simp only at hks5
                      have hw5 := rqS_ws ((K : Int) + 1) (keysL.getD K []) rest hks5
                      have hwl := rqS_wl ((K : Int) + 1) (keysL.getD K []) rest
                      have hqt := rquery_w K hK rest (by omega)
                      have ec : (((K + 1 : Nat)) : Int) = (K : Int) + 1 := by omega
                      simp only [ec, Nat.add_sub_cancel] at hQ
                      obtain ⟨k, hk⟩ : ∃ k : Int, (K : Int) + 1 = k := ⟨_, rfl⟩
                      obtain ⟨ks, hks'⟩ : ∃ x, keysL.getD K [] = x := ⟨_, rfl⟩
                      simp only [hk, hks'] at hQ hqt hw5 hwl
                      have ec2 : (((K + 1 : Nat)) : Int) = k := by omega
                      have hcs := rqS_st k ks rest
                      generalize rqS k ks rest = X at hcs hQ hqt hw5 hwl
                      simp only [ec2] at kd16 ⊢
                      simp only [kd16, zbx, tj, tt, ere, bstr_size, bstr_data, zaa, zab, zac, push_cast, ↓reduceIte, reduceCtorEq, zB, zE, zA, zS, zL, zD, zM]
                      refine ⟨by omega, ?_⟩
                      refine call_as (as' := [int .i64 k, sV rest]) rfl ?_
                      obtain ⟨ns, ws, rg, rfl | rfl | rfl⟩ := hcs
                      · refine call_mk hqt rfl trivial ?_
                        rw [if_neg (by simp)] at hQ
                        have g00 : ((0 : Int) != 0) = false := rfl
                        simp only [rqW, rqO, askW, g00, push_cast, ↓reduceIte, reduceCtorEq, zB, zE, zA, zS, zL, zD, zM]
                        have hmax := maxLen_big
                        obtain ⟨W, hW⟩ : ∃ W, wordsP ws [] = W := ⟨_, rfl⟩
                        simp only [hW] at hQ
                        refine run_loop [(13, true), (15, false), (2, false), (12, false)] (fun vs pos los => ∃ (i : Nat) (acc : List Nat), i ≤ (ws : List Bs).length ∧ acc.length = i ∧ wordsP ((ws : List Bs).drop i) acc = W ∧ vs = [.own 2000000 0 0 (ws : List Bs).length, int .i64 i, .ptr 2000001 0 0, .ptr 2000002 0 0] ∧ pos = [] ∧ los = rwl k ns rg ws acc)
                          (fun vs _ _ => match vs with | [_, .r (.v (.int _ j)), _, _] => ((ws : List Bs).length - j).toNat | _ => 0) rfl ?_ ?_
                        · simp only [push_cast, ↓reduceIte, reduceCtorEq, zB, zE, zA, zS, zL, zD, zM]
                          exact ⟨0, [], by omega, rfl, hW, rfl, rfl⟩
                        · rintro vs pos los ⟨i, acc, i0, hal, hwd, rfl, rfl, rfl⟩
                          by_cases hi : i < (ws : List Bs).length
                          · obtain ⟨p, hp⟩ : ∃ p, ws[i] = p := ⟨_, rfl⟩
                            have hw5 : ws.length ≤ 5 := hw5
                            have hd : ws.drop i = p :: ws.drop (i + 1) := by rw [zak hi, hp]
                            have hg : ∀ z, (strs ws).getD i z = .v (.string (bstr p)) := fun z => by
                              rw [zae]
                              simp [hi, strR, hp]
                            have gi : decide (((i : Nat) : Int) < ((ws.length : Nat) : Int)) = true := decide_eq_true (by omega)
                            have w1 : IntKind.i64.wrap ((i : Int) + 1) = (i : Int) + 1 := wrap_id (by omega)
                            have hpl : p.length ≤ rest.length := hwl p (by rw [← hp]; exact zai hi)
                            have hut := runword_t p (by omega)
                            obtain ⟨⟨V, F⟩, hVF⟩ : ∃ x, identP p = x := ⟨_, rfl⟩
                            rw [hVF] at hut
                            rw [hd, wordsP, hVF] at hwd
                            simp only at hwd hut
                            by_cases hF : F = 0
                            · rw [if_pos hF] at hwd
                              subst hF
                              rcases acc with _ | ⟨a0, ar⟩ <;> simp only [rwl, zbx, gi, hg, w1, zaa, zab, zac, push_cast, ↓reduceIte, reduceCtorEq, zB, zE, zA, zS, zL, zD, zM]
                              all_goals refine ⟨by omega, ?_⟩
                              all_goals refine call_mk hut rfl trivial ?_
                              all_goals simp only [uw, g00, gi, hg, w1, zaa, zab, zac, push_cast, ↓reduceIte, reduceCtorEq, zB, zE, zA, zS, zL, zD, zM]
                              all_goals refine ⟨by simp, by first | omega | (constructor <;> (simp only [zaf, zag] at hal ⊢; omega)) | (simp only [zaf, zag] at hal ⊢; omega), ⟨i + 1, _, by omega, by simp only [zaj, zaf, zag] at hal ⊢; omega, hwd, by simp, ?_⟩, by omega⟩
                              all_goals simp [rwl, zbx, u8R]
                            · rw [if_neg hF] at hwd
                              have gF : (F != 0) = true := by simpa using hF
                              subst hwd
                              subst hQ
                              rcases acc with _ | ⟨a0, ar⟩ <;> simp only [rwl, zbx, gi, hg, w1, zaa, zab, zac, push_cast, ↓reduceIte, reduceCtorEq, zB, zE, zA, zS, zL, zD, zM]
                              all_goals refine ⟨by omega, ?_⟩
                              all_goals refine call_mk hut rfl trivial ?_
                              all_goals simp only [uw, gF, gi, hg, w1, finD, askF, zaa, zab, zac, push_cast, ↓reduceIte, reduceCtorEq, zB, zE, zA, zS, zL, zD, zM]
                              all_goals first | rfl | kernel_rfl
                          · have hi : i = (ws : List Bs).length := by omega
                            have gi : decide (((i : Nat) : Int) < (((ws : List Bs).length : Nat) : Int)) = false := decide_eq_false (by omega)
                            rw [hi, zao, wordsP] at hwd
                            subst hwd
                            subst hQ
                            rcases acc with _ | ⟨a0, ar⟩ <;> simp only [rwl, zbx, gi, askF, finD, nilOr, zaa, zab, zac, push_cast, ↓reduceIte, reduceCtorEq, zB, zE, zA, zS, zL, zD, zM]
                            all_goals first | rfl | kernel_rfl
                      · refine call_mk hqt rfl trivial ?_
                        rw [if_neg (by simp)] at hQ
                        have g00 : ((0 : Int) != 0) = false := rfl
                        simp only [rqW, rqO, askW, g00, push_cast, ↓reduceIte, reduceCtorEq, zB, zE, zA, zS, zL, zD, zM]
                        have hmax := maxLen_big
                        obtain ⟨W, hW⟩ : ∃ W, wordsP [] [] = W := ⟨_, rfl⟩
                        simp only [hW] at hQ
                        refine run_loop [(13, true), (15, false), (2, false), (12, false)] (fun vs pos los => ∃ (i : Nat) (acc : List Nat), i ≤ ([] : List Bs).length ∧ acc.length = i ∧ wordsP (([] : List Bs).drop i) acc = W ∧ vs = [.own 2000000 0 0 ([] : List Bs).length, int .i64 i, .ptr 2000001 0 0, .ptr 2000002 0 0] ∧ pos = [] ∧ los = rwl k [] [] [] acc)
                          (fun vs _ _ => match vs with | [_, .r (.v (.int _ j)), _, _] => (([] : List Bs).length - j).toNat | _ => 0) rfl ?_ ?_
                        · simp only [push_cast, ↓reduceIte, reduceCtorEq, zB, zE, zA, zS, zL, zD, zM]
                          exact ⟨0, [], by omega, rfl, hW, rfl, rfl⟩
                        · rintro vs pos los ⟨i, acc, i0, hal, hwd, rfl, rfl, rfl⟩
                          by_cases hi : i < ([] : List Bs).length
                          · exact absurd hi (by simp)
                          · have hi : i = ([] : List Bs).length := by omega
                            have gi : decide (((i : Nat) : Int) < ((([] : List Bs).length : Nat) : Int)) = false := decide_eq_false (by omega)
                            have gi' : decide (((i : Nat) : Int) < 0) = false := decide_eq_false (by omega)
                            rw [hi, zao, wordsP] at hwd
                            subst hwd
                            subst hQ
                            rcases acc with _ | ⟨a0, ar⟩ <;> simp only [rwl, zbx, gi, gi', askF, finD, nilOr, zaa, zab, zac, push_cast, ↓reduceIte, reduceCtorEq, zB, zE, zA, zS, zL, zD, zM]
                            all_goals first | rfl | kernel_rfl
                      · refine call_mk hqt rfl trivial ?_
                        rw [if_pos rfl] at hQ
                        subst hQ
                        have g16 : ((16 : Int) != 0) = true := rfl
                        simp only [rqW, rqO, askW, g16, push_cast, ↓reduceIte, reduceCtorEq, zB, zE, zA, zS, zL, zD, zM]
                        rfl)))
      · rw [if_pos (by simpa using h47)] at hQ
        subst hQ
        have g47 : (((c0.toNat : Nat) : Int) != 47) = true := by
          rw [bne_iff_ne]
          intro h
          apply h47
          apply zal.1
          have : (47 : UInt8).toNat = 47 := rfl
          omega
        simp only [be, bf, bstr_size, bstr_data, hc0, g47, push_cast, ↓reduceIte, reduceCtorEq, zB, zE, zA, zS, zL, zD, zM]
        repeat refine And.intro (by first | omega | (simp; done) | (simp; omega) | (intro _; omega)) ?_
        first | rfl | exact ⟨rfl, rfl⟩

theorem opsS_acc : ∀ (n : Nat) (o : Option Bs) (acc : List Op5), ∃ l, (opsS n o acc).2 = acc ++ l
 | 0, o, acc => ⟨[], by simp [opsS]⟩
 | n + 1, o, acc => by
  rw [opsS]
  split
  ·exact ⟨[], by simp⟩
  ·obtain ⟨l, hl⟩ := opsS_acc n (opStep o).2 (acc ++ [(opStep o).1])
   exact ⟨(opStep o).1 :: l, by rw [hl]; simp⟩
theorem batchE_bad {l : List Op5} {o : Op5} (h : o ∈ l) (hb : opB o = false) : batchE l ≠ 0 := by
 unfold batchE
 split
 ·decide
 ·rw [if_pos (.inr (by rw [List.all_eq_false]; exact ⟨o, h, by rw [hb]; decide⟩))]
  decide
theorem batchE_long {l : List Op5} (h : 500 < l.length) : batchE l ≠ 0 := by
 unfold batchE
 rw [if_pos h]
 decide
theorem opsS_none : ∀ (n : Nat) (acc : List Op5), opsS n none acc = (none, acc)
 | 0, _ => rfl
 | n + 1, acc => by rw [opsS, if_pos (show lenO none = 0 from rfl)]
def opsOk (x : Option Bs × List Op5) : Option (List Op5) := if x.1 = none ∨ batchE x.2 ≠ 0 then none else some x.2
def ropsOk : Option (List Op5) → Option (List Op5)
 | none => none
 | some acc => if batchE acc ≠ 0 then none else some acc
theorem ropsP_acc : ∀ (m : Nat) (l : Bs) (acc r : List Op5), ropsP m l acc = some r → ∃ t, r = acc ++ t
 | 0, l, acc, r, h => ⟨[], by simp [ropsP] at h; simp [h]⟩
 | m + 1, [], acc, r, h => ⟨[], by simp [ropsP] at h; simp [h]⟩
 | m + 1, c :: l, acc, r, h => by
  rw [ropsP] at h
  split at h
  ·obtain ⟨t, ht⟩ := ropsP_acc m _ _ r h
   exact ⟨_ :: t, by rw [ht, zam]; rfl⟩
  ·split at h
   ·obtain ⟨t, ht⟩ := ropsP_acc m _ _ r h
    exact ⟨_ :: t, by rw [ht, zam]; rfl⟩
   ·cases h
theorem ropsOk_bad {m : Nat} {l : Bs} {acc : List Op5} (h : batchE acc ≠ 0 ∧ acc ≠ []) : ropsOk (ropsP m l acc) = none := by
 cases hr : ropsP m l acc with
 | none => rfl
 | some r =>
  obtain ⟨t, rfl⟩ := ropsP_acc m l acc r hr
  show (if batchE (acc ++ t) ≠ 0 then none else some (acc ++ t)) = none
  rw [if_pos]
  obtain ⟨h1, h2⟩ := h
  unfold batchE at h1
  split at h1
  ·exact batchE_long (by simp; omega)
  ·split at h1
   ·rename_i h3
    rcases h3 with h3 | h3
    ·exact absurd h3 h2
    ·rw [List.all_eq_false] at h3
     obtain ⟨o, ho, hb⟩ := h3
     exact batchE_bad (o := o) (by simp [ho]) (by simpa using hb)
   ·exact absurd rfl h1
theorem tk_some {k : Nat} {l : Bs} (h : k ≤ l.length) : tkN k (some l) = beN (l.take k) 0 ∧ tkR k (some l) = some (l.drop k) := by
 rw [tkN, tkR, if_pos h, if_pos h]
 exact ⟨rfl, rfl⟩
theorem tk_few {k : Nat} {l : Bs} (h : l.length < k) : tkR k (some l) = none := by
 rw [tkR, if_neg (by omega)]
theorem tk4_few {l : Bs} (h : l.length < 16) : tk4R (some l) = none := by
 unfold tk4R
 by_cases h1 : l.length < 4
 ·rw [tk_few h1]; rfl
 ·rw [(tk_some (show 4 ≤ l.length by omega)).2]
  by_cases h2 : l.length < 8
  ·rw [tk_few (l := l.drop 4) (by simp; omega)]; rfl
  ·rw [(tk_some (l := l.drop 4) (k := 4) (by simp; omega)).2]
   by_cases h3 : l.length < 12
   ·rw [tk_few (l := (l.drop 4).drop 4) (by simp; omega)]; rfl
   ·rw [(tk_some (l := (l.drop 4).drop 4) (k := 4) (by simp; omega)).2]
    exact tk_few (by simp; omega)
theorem tk4_some {l : Bs} (h : 16 ≤ l.length) : tk4N (some l) = (((beN (l.take 4) 0 : Nat) : Int), ((beN ((l.take 8).drop 4) 0 : Nat) : Int), ((beN ((l.take 12).drop 8) 0 : Nat) : Int), s32 (beN ((l.take 16).drop 12) 0)) ∧ tk4R (some l) = some (l.drop 16) := by
 have a1 := tk_some (k := 4) (l := l) (by omega)
 have a2 := tk_some (k := 4) (l := l.drop 4) (by simp; omega)
 have a3 := tk_some (k := 4) (l := (l.drop 4).drop 4) (by simp; omega)
 have a4 := tk_some (k := 4) (l := ((l.drop 4).drop 4).drop 4) (by simp; omega)
 unfold tk4N tk4R
 rw [a1.2, a2.2, a3.2, a4.2, a1.1, a2.1, a3.1, a4.1]
 simp only [List.drop_drop, List.drop_take, Nat.reduceAdd, Nat.reduceSub, and_self]
theorem ops_eq : ∀ (n m : Nat) (l : Bs) (acc : List Op5), n + acc.length = 501 → l.length ≤ m → opsOk (opsS n (some l) acc) = ropsOk (ropsP m l acc)
 | 0, m, l, acc, hn, hm => by
  have hb : batchE acc ≠ 0 := batchE_long (by omega)
  rw [ropsOk_bad ⟨hb, fun e => by subst e; simp at hn⟩]
  unfold opsOk opsS
  rw [if_pos (.inr hb)]
 | n + 1, m, [], acc, hn, hm => by
  rw [opsS, if_pos (show lenO (some []) = 0 from rfl), show ropsP m [] acc = some acc by cases m <;> rfl]
  unfold opsOk ropsOk
  simp
 | n + 1, 0, c :: r, acc, hn, hm => by simp at hm
 | n + 1, m + 1, c :: r, acc, hn, hm => by
  simp only [zaf, Nat.add_le_add_iff_right] at hm
  have h1 : tkN 1 (some (c :: r)) = c.toNat ∧ tkR 1 (some (c :: r)) = some r := by
   have := tk_some (k := 1) (l := c :: r) (by simp)
   rw [this.1, this.2]
   simp [beN]
  rw [opsS, if_neg (show ¬ lenO (some (c :: r)) = 0 by simp [lenO]), ropsP]
  unfold opStep
  rw [h1.1, h1.2]
  by_cases hc1 : c.toNat = 1
  ·rw [if_pos hc1]
   by_cases h16 : 16 ≤ r.length
   ·rw [if_pos ⟨hc1, h16⟩, (tk4_some h16).1, (tk4_some h16).2]
    exact ops_eq n m _ _ (by simp; omega) (by simp; omega)
   ·rw [if_neg (fun h => h16 h.2), if_neg (fun h => by omega), tk4_few (by omega), opsS_none]
    simp [opsOk, ropsOk]
  ·rw [if_neg hc1, if_neg (fun h => hc1 h.1)]
   by_cases hc2 : c.toNat = 2
   ·by_cases h4 : 4 ≤ r.length
    ·rw [if_pos ⟨hc2, h4⟩, (tk_some h4).1, (tk_some h4).2, hc2]
     exact ops_eq n m _ _ (by simp; omega) (by simp; omega)
    ·rw [if_neg (fun h => h4 h.2), tk_few (by omega), opsS_none]
     simp [opsOk, ropsOk]
   ·rw [if_neg (fun h => hc2 h.1)]
    simp only
    obtain ⟨t, ht⟩ := opsS_acc n (tkR 4 (some r)) (acc ++ [⟨c.toNat, tkN 4 (some r), 0, 0, 0⟩])
    unfold opsOk
    rw [if_pos (.inr (by
     rw [ht]
     refine batchE_bad (o := ⟨c.toNat, tkN 4 (some r), 0, 0, 0⟩) (by simp) ?_
     unfold opB
     rw [if_neg (by simp only; omega), if_neg (by simp only; omega)]))]
    rfl
theorem opsR_eq (l : Bs) : opsR l = ropsR l := by
 have := ops_eq 501 l.length l [] rfl (Nat.le_refl _)
 unfold opsOk ropsOk at this
 unfold opsR ropsR
 exact this

theorem fld_qk (k : Int) : ∀ (fs : List (UInt8 × Bool)) (ps : List Bs) (ns : List Int) (ws : List Bs) (rg : List (Int × Int)), (∀ x ∈ fs, wordB k x.1 = x.2 ∧ (x.2 = false → x.1 ≠ 112)) →
  (qk k (fs.map (·.1)) ps ns ws rg).2 = (fldsR fs ps ns ws).2.2 ∧ ((fldsR fs ps ns ws).2.2 = true → (qk k (fs.map (·.1)) ps ns ws rg).1 = ((fldsR fs ps ns ws).1, (fldsR fs ps ns ws).2.1, rg))
 | [], ps, ns, ws, rg, _ => ⟨rfl, fun _ => rfl⟩
 | (c, w) :: fs, ps, ns, ws, rg, h => by
  have hc := h (c, w) (by simp)
  have ht : ∀ x ∈ fs, wordB k x.1 = x.2 ∧ (x.2 = false → x.1 ≠ 112) := fun x hx => h x (by simp [hx])
  simp only at hc
  rw [List.map_cons, qk, fldsR]
  cases valP c (ps.headD []) with
  | none => exact ⟨rfl, fun h => by cases h⟩
  | some v =>
   simp only
   cases w with
   | true =>
    rw [if_pos hc.1]
    exact fld_qk k fs ps.tail ns (ws ++ [v]) rg ht
   | false =>
    rw [if_neg (by rw [hc.1]; decide), if_neg (hc.2 rfl)]
    cases pv v with
    | none => exact ⟨rfl, fun h => by cases h⟩
    | some n => exact fld_qk k fs ps.tail (ns ++ [n]) ws rg ht
theorem gen_body (kd : Nat) (nm : Bs) (fs : List (UInt8 × Bool)) (h15 : kd ≠ 15) (h16 : kd ≠ 16) (hfs : fs ≠ []) (hks : keysL.getD (kd - 1) [] = fs.map (·.1)) (hw : ∀ x ∈ fs, wordB kd x.1 = x.2 ∧ (x.2 = false → x.1 ≠ 112)) (rest : Bs) (hr : rest = [] ∨ ∃ q, rest = 63 :: q) :
  wholeD ((kd : Int), nm, fs) rest = (bodyS kd rest).1 := by
 have hk15 : ¬ ((kd : Int) = 15) := by omega
 have hk16 : ¬ ((kd : Int) = 16) := by omega
 have hmap : ¬ (fs.map (·.1) = []) := by simpa using hfs
 unfold wholeD bodyS
 simp only
 rw [if_neg hk16, if_neg (fun h => hfs h.1), if_neg h16, hks]
 rcases hr with rfl | ⟨q, rfl⟩
 ·rw [if_pos (.inr rfl)]
  have : (rqS kd (fs.map (·.1)) []) = (([], [], []), 2) := by
   unfold rqS
   rw [if_neg hmap, if_pos (by decide)]
  rw [this, if_pos rfl]
 ·rw [if_neg (fun h => h.elim hfs (fun h => by cases h)), zan]
  unfold queryR queryG rqS
  simp only
  rw [if_neg hk15, if_neg hmap, if_neg (show ¬ ((63 :: q : Bs).headD 0 ≠ 63) by simp), zan, List.length_map]
  by_cases hl : (pieces 38 q).length ≠ fs.length
  ·rw [if_pos hl, if_pos hl, if_neg (by decide), if_pos rfl]
  ·rw [if_neg hl, if_neg hl]
   obtain ⟨h1, h2⟩ := fld_qk kd fs (pieces 38 q) [] [] [] hw
   cases hok : (fldsR fs (pieces 38 q) [] []).2.2 with
   | false =>
    rw [if_neg (by decide)]
    have : (qst (qk kd (fs.map (·.1)) (pieces 38 q) [] [] [])).2 = 2 := by
     unfold qst
     rw [h1, hok]
     rfl
    rw [this, if_pos rfl]
   | true =>
    rw [if_pos rfl]
    have e2 : (qst (qk kd (fs.map (·.1)) (pieces 38 q) [] [] [])).2 = 0 := by
     unfold qst
     rw [h1, hok]
     rfl
    have e1 : (qst (qk kd (fs.map (·.1)) (pieces 38 q) [] [] [])).1 = ((fldsR fs (pieces 38 q) [] []).1, (fldsR fs (pieces 38 q) [] []).2.1, []) := h2 hok
    rw [e2, if_neg (by decide), e1]
theorem nul_body (kd : Nat) (nm : Bs) (h16 : kd ≠ 16) (hks : keysL.getD (kd - 1) [] = []) (rest : Bs) : wholeD ((kd : Int), nm, []) rest = (bodyS kd rest).1 := by
 have hk16 : ¬ ((kd : Int) = 16) := by omega
 cases rest with
 | nil =>
  have e1 : wholeD ((kd : Int), nm, []) [] = (⟨kd, [], [], [], []⟩, 0) := by
   unfold wholeD
   rw [if_neg hk16, if_pos ⟨rfl, rfl⟩]
  have e2 : rqS kd [] [] = (([], [], []), 1) := rfl
  rw [e1, bodyS, if_neg h16, hks, e2, if_neg (by decide)]
  rfl
 | cons c r =>
  have e1 : wholeD ((kd : Int), nm, []) (c :: r) = (ask0, 16) := by
   unfold wholeD
   rw [if_neg hk16, if_neg (fun h => by cases h.2), if_pos (.inl rfl)]
  have e2 : rqS kd [] (c :: r) = (([], [], []), 2) := rfl
  rw [e1, bodyS, if_neg h16, hks, e2, if_pos rfl]
theorem corn_eq : ∀ (l : List Bs) (out : List (Int × Int)), cornP l out = if (cornD l out).2 = true then some (cornD l out).1 else none
 | [], out => by simp [cornP, cornD]
 | [a], out => by simp [cornP, cornD]
 | a :: b :: r, out => by
  rw [cornP, cornD]
  cases pv a with
  | none => rfl
  | some x =>
   cases pv b with
   | none => rfl
   | some y => exact corn_eq r _
def fillF : Form := (15, [102, 105, 108, 108], [(114, false)])
theorem fill_body (rest : Bs) (hr : rest = [] ∨ ∃ q, rest = 63 :: q) : wholeD fillF rest = (bodyS 15 rest).1 := by
 rcases hr with rfl | ⟨q, rfl⟩
 ·rfl
 ·have eL : wholeD fillF (63 :: q) = if (queryR fillF q).1.2.2 = true then finD 15 (queryR fillF q).1.1 (queryR fillF q).2 (wordsP (queryR fillF q).1.2.1 []) else (ask0, 16) := rfl
  have eR : (bodyS 15 (63 :: q)).1 = if (rqS (15 : Nat) [114, 112] (63 :: q)).2 = 2 then (ask0, 16) else finD 15 (rqS (15 : Nat) [114, 112] (63 :: q)).1.1 (rqS (15 : Nat) [114, 112] (63 :: q)).1.2.2 (wordsP (rqS (15 : Nat) [114, 112] (63 :: q)).1.2.1 []) := by
   unfold bodyS
   rw [if_neg (by decide)]
   show (if (rqS (15 : Nat) [114, 112] (63 :: q)).2 = 2 then _ else _ : (AskD × Int) × Bool).1 = _
   split <;> rfl
  have eQ : rqS (15 : Nat) [114, 112] (63 :: q) = if (pieces 38 q).length ≠ 2 then (([], [], []), 2) else qst (qk (15 : Nat) [114, 112] (pieces 38 q) [] [] []) := rfl
  have eP : queryR fillF q = match valP 112 ((pieces 38 q).getLastD []) with
    | none => (([], [], false), (ringP ((pieces 38 q).getLastD [])).getD [])
    | some p => match ringP p with
     | none => (([], [], false), [])
     | some rg => if (pieces 38 q).dropLast.length ≠ 1 then (([], [], false), rg) else (fldsR [(114, false)] (pieces 38 q).dropLast [] [], rg) := rfl
  rw [eL, eR, eQ, eP]
  clear eL eR eQ eP
  generalize hPS : pieces 38 q = PS
  have hne : PS ≠ [] := by rw [← hPS]; exact pieces_ne 38 q
  have w1 : wordB ((15 : Nat) : Int) 114 = false := by decide
  have w2 : wordB ((15 : Nat) : Int) 112 = false := by decide
  have bad : ∀ (x : (List Int × List Bs × List (Int × Int)) × Nat), x.2 = 2 → (if x.2 = 2 then (ask0, 16) else finD 15 x.1.1 x.1.2.2 (wordsP x.1.2.1 [])) = (ask0, 16) := fun x h => if_pos h
  by_cases h2 : PS.length = 2
  ·obtain ⟨a, b, rfl⟩ : ∃ a b, PS = [a, b] := by
    match PS, h2 with
    | [a, b], _ => exact ⟨a, b, rfl⟩
   rw [if_neg (show ¬ ([a, b] : List Bs).length ≠ 2 by simp)]
   show _ = (if (qst (qk ((15 : Nat) : Int) [114, 112] [a, b] [] [] [])).2 = 2 then _ else _)
   have eL : ([a, b] : List Bs).getLastD [] = b := rfl
   have eD : ([a, b] : List Bs).dropLast = [a] := rfl
   rw [eL, eD]
   simp only [List.length_singleton, ne_eq, not_true_eq_false, ↓reduceIte]
   have hqk : qk ((15 : Nat) : Int) [114, 112] [a, b] [] [] [] = match valP 114 a with
     | none => (([], [], []), false)
     | some v => match pv v with
      | none => (([], [], []), false)
      | some n => match valP 112 b with
       | none => (([n], [], []), false)
       | some p => if (pieces 44 p).length % 2 = 1 ∨ 200 < (pieces 44 p).length then (([n], [], []), false)
        else if (cornD (pieces 44 p) []).2 = true then (([n], [], (cornD (pieces 44 p) []).1), true) else (([n], [], (cornD (pieces 44 p) []).1), false) := by
    rw [qk]
    show (match valP 114 a with | none => _ | some v => _) = _
    cases valP 114 a with
    | none => rfl
    | some v =>
     simp only
     rw [if_neg (by rw [w1]; decide), if_neg (by decide)]
     cases pv v with
     | none => rfl
     | some n =>
      simp only
      rw [qk]
      show (match valP 112 b with | none => _ | some v => _) = _
      cases valP 112 b with
      | none => rfl
      | some p =>
       simp only
       rw [if_neg (by rw [w2]; decide), if_pos trivial]
       rfl
   rw [hqk]
   have hfl : fldsR [(114, false)] [a] [] [] = match valP 114 a with
     | none => ([], [], false)
     | some v => match pv v with
      | none => ([], [], false)
      | some n => ([n], [], true) := by
    rw [fldsR]
    show (match valP 114 a with | none => _ | some v => _) = _
    cases valP 114 a with
    | none => rfl
    | some v =>
     simp only
     cases pv v <;> rfl
   rw [hfl]
   have hrg : ∀ p, ringP p = if (pieces 44 p).length % 2 = 1 ∨ 200 < (pieces 44 p).length then none else if (cornD (pieces 44 p) []).2 = true then some (cornD (pieces 44 p) []).1 else none := fun p => by
    unfold ringP
    simp only
    by_cases h : (pieces 44 p).length % 2 = 1 ∨ 200 < (pieces 44 p).length
    ·rw [if_pos h, if_pos (by omega)]
    ·rw [if_neg h, if_neg (by omega), corn_eq]
   cases hb : valP 112 b with
   | none =>
    simp only
    cases valP 114 a with
    | none => rfl
    | some v => cases hn : pv v <;> simp only [hn] <;> rfl
   | some p =>
    simp only [hrg]
    generalize cornD (pieces 44 p) [] = C
    obtain ⟨rg, ok⟩ := C
    by_cases h : (pieces 44 p).length % 2 = 1 ∨ 200 < (pieces 44 p).length
    ·rw [if_pos h]
     simp only
     cases valP 114 a with
     | none => rfl
     | some v =>
      cases hn : pv v with
      | none => simp only [hn]; rfl
      | some n => simp only [hn, if_pos h]; rfl
    ·rw [if_neg h]
     cases ok with
     | false =>
      simp only [zar, ↓reduceIte]
      cases valP 114 a with
      | none => rfl
      | some v =>
       cases hn : pv v with
       | none => simp only [hn]; rfl
       | some n => simp only [hn, if_neg h]; rfl
     | true =>
      simp only [↓reduceIte]
      cases valP 114 a with
      | none => rfl
      | some v =>
       cases hn : pv v with
       | none => simp only [hn]; rfl
       | some n => simp only [hn, if_neg h]; rfl
  ·rw [if_pos h2, bad _ rfl]
   have hd : PS.dropLast.length ≠ 1 := by simp; omega
   cases valP 112 (PS.getLastD []) with
   | none => rfl
   | some p =>
    simp only
    cases ringP p with
    | none => rfl
    | some rg =>
     simp only
     rw [if_pos hd]
     rfl
theorem load_body (rest : Bs) : wholeD (16, [108, 111, 97, 100], []) rest = (bodyS 16 rest).1 := by
 unfold wholeD bodyS
 rw [if_pos rfl, if_pos rfl, opsR_eq]
theorem form_body (f : Form) (hf : f ∈ formsL) (rest : Bs) (hr : f.1 ≠ 16 → rest = [] ∨ ∃ q, rest = 63 :: q) : wholeD f rest = (bodyS f.1.toNat rest).1 := by
 have hg : ∀ (kd : Nat) (nm : Bs) (fs : List (UInt8 × Bool)), kd ≠ 15 → kd ≠ 16 → fs ≠ [] → keysL.getD (kd - 1) [] = fs.map (·.1) → (∀ x ∈ fs, wordB kd x.1 = x.2 ∧ (x.2 = false → x.1 ≠ 112)) → f = ((kd : Int), nm, fs) → wholeD f rest = (bodyS f.1.toNat rest).1 := fun kd nm fs h1 h2 h3 h4 h5 h6 => by
  subst h6
  exact gen_body kd nm fs h1 h2 h3 h4 h5 rest (hr (by simp only; omega))
 have hn : ∀ (kd : Nat) (nm : Bs), kd ≠ 16 → keysL.getD (kd - 1) [] = [] → f = ((kd : Int), nm, []) → wholeD f rest = (bodyS f.1.toNat rest).1 := fun kd nm h2 h4 h6 => by
  subst h6
  exact nul_body kd nm h2 h4 rest
 simp only [formsL, List.mem_cons, List.not_mem_nil, or_false] at hf
 rcases hf with rfl | rfl | rfl | rfl | rfl | rfl | rfl | rfl | rfl | rfl | rfl | rfl | rfl | rfl | rfl | rfl
 ·exact hg 1 _ _ (by decide) (by decide) (by decide) rfl (by decide) rfl
 ·exact hg 2 _ _ (by decide) (by decide) (by decide) rfl (by decide) rfl
 ·exact hg 3 _ _ (by decide) (by decide) (by decide) rfl (by decide) rfl
 ·exact hg 4 _ _ (by decide) (by decide) (by decide) rfl (by decide) rfl
 ·exact hg 5 _ _ (by decide) (by decide) (by decide) rfl (by decide) rfl
 ·exact hg 6 _ _ (by decide) (by decide) (by decide) rfl (by decide) rfl
 ·exact hg 7 _ _ (by decide) (by decide) (by decide) rfl (by decide) rfl
 ·exact hg 8 _ _ (by decide) (by decide) (by decide) rfl (by decide) rfl
 ·exact hg 9 _ _ (by decide) (by decide) (by decide) rfl (by decide) rfl
 ·exact hg 10 _ _ (by decide) (by decide) (by decide) rfl (by decide) rfl
 ·exact hg 11 _ _ (by decide) (by decide) (by decide) rfl (by decide) rfl
 ·exact hn 12 _ (by decide) rfl rfl
 ·exact hn 13 _ (by decide) rfl rfl
 ·exact hn 14 _ (by decide) rfl rfl
 ·exact fill_body rest (hr (by decide))
 ·exact load_body rest
theorem kd_none (nm : Bs) : ∀ (l : List Bs) (i cur : Nat), nm ∉ l → kdS nm l i cur = cur
 | [], i, cur, _ => rfl
 | x :: r, i, cur, h => by
  simp only [List.mem_cons, not_or] at h
  rw [kdS, if_neg (fun e => h.1 e.symm)]
  exact kd_none nm r (i + 1) cur h.2
theorem form_kd : ∀ f ∈ formsL, kdS f.2.1 namesL 0 0 = f.1.toNat ∧ f.2.1 ∈ namesL := by decide
theorem names_forms : ∀ nm ∈ namesL, ∃ f ∈ formsL, f.2.1 = nm := by decide
theorem upTo_stop (q : UInt8 → Bool) : ∀ l : Bs, (upTo q l).2 = [] ∨ ∃ c r, (upTo q l).2 = c :: r ∧ q c = true
 | [] => .inl rfl
 | x :: l => by
  rw [upTo]
  split
  ·exact .inr ⟨x, l, rfl, by assumption⟩
  ·exact upTo_stop q l
theorem parse_doc (l : Bs) : parseD l = (askS l).1 := by
 unfold parseD askS
 by_cases h0 : 10000 < l.length
 ·rw [if_pos h0, if_pos h0]
 ·rw [if_neg h0, if_neg h0]
  by_cases h1 : l.take 1 = [47]
  ·obtain ⟨t, rfl⟩ : ∃ t, l = 47 :: t := by
    cases l with
    | nil => cases h1
    | cons c t => simp at h1; exact ⟨t, by rw [h1]⟩
   rw [if_neg (show ¬ ((47 :: t : Bs).take 1 ≠ [47]) by simp), zan]
   have hb : bhd (47 :: t) = t := rfl
   rw [hb]
   obtain ⟨⟨nm, rest⟩, hu⟩ : ∃ x, upTo stopB t = x := ⟨_, rfl⟩
   have hst := upTo_stop stopB t
   rw [hu] at hst ⊢
   simp only at hst ⊢
   have hslash : ((47 :: t : Bs).take 1 == [47]) = true := rfl
   rw [hslash]
   cases hf : formsL.find? (nmF nm) with
   | none =>
    have hn : nm ∉ namesL := fun h => by
     obtain ⟨f, hfm, he⟩ := names_forms nm h
     rw [List.find?_eq_none] at hf
     exact hf f hfm (by simp [nmF, he])
    have hk : kdS nm namesL 0 0 = 0 := kd_none nm namesL 0 0 hn
    rw [hk, if_pos (by unfold pathB; simp)]
   | some f =>
    have hfm := List.mem_of_find?_eq_some hf
    have hn : (nmF nm f) = true := List.find?_some hf
    have hs : f.2.1 = nm := by simpa [nmF] using hn
    obtain ⟨hk, _⟩ := form_kd f hfm
    rw [hs] at hk
    have hrng : 1 ≤ f.1 ∧ f.1 ≤ 16 := by
     have : ∀ g ∈ formsL, 1 ≤ g.1 ∧ g.1 ≤ 16 := by decide
     exact this f hfm
    rw [hk]
    simp only
    have hlb : decide ((rest.headD 0).toNat = 10) = loadB rest := rfl
    rw [hlb]
    by_cases hbad : loadB rest ≠ decide (f.1 = 16)
    ·rw [if_pos (.inr hbad), if_pos]
     unfold pathB
     rw [decide_eq_true_eq]
     right
     by_cases h16 : f.1 = 16
     ·left
      rw [decide_eq_true h16] at hbad
      refine ⟨by omega, ?_⟩
      cases hl : loadB rest
      ·rfl
      ·rw [hl] at hbad; exact absurd rfl hbad
     ·right
      rw [decide_eq_false h16] at hbad
      refine ⟨by omega, ?_⟩
      cases hl : loadB rest
      ·rw [hl] at hbad; exact absurd rfl hbad
      ·rfl
    ·have hgood : loadB rest = decide (f.1 = 16) := by
      cases h : loadB rest <;> cases h' : decide (f.1 = 16) <;> simp [h, h'] at hbad ⊢
     rw [if_neg (fun h => h.elim (fun h => by cases h) (fun h => hbad h)), if_neg]
     ·refine form_body f hfm rest fun h16 => ?_
      rcases hst with h | ⟨c, r, h, hc⟩
      ·exact .inl h
      ·right
       refine ⟨r, ?_⟩
       rw [h]
       rw [h, decide_eq_false h16] at hgood
       have h10 : ¬ c.toNat = 10 := by
        unfold loadB at hgood
        exact of_decide_eq_false hgood
       have : c.toNat = 63 ∨ c.toNat = 10 := of_decide_eq_true hc
       have : c = 63 := by
        apply zal.1
        have : (63 : UInt8).toNat = 63 := rfl
        omega
       rw [this]
     ·unfold pathB
      rw [decide_eq_true_eq]
      rintro (h | ⟨h, h'⟩ | ⟨h, h'⟩)
      ·omega
      ·rw [h', decide_eq_true (by omega)] at hgood
       cases hgood
      ·rw [h', decide_eq_false (by omega)] at hgood
       cases hgood
  ·have hb : (l.take 1 == [47]) = false := by rw [beq_eq_false_iff_ne]; exact h1
   rw [if_pos h1, hb]
   cases formsL.find? (nmF (upTo stopB (bhd l)).1) with
   | none => rfl
   | some f =>
    simp only
    rw [if_pos (.inl trivial)]

noncomputable def apiaryref13_Number_pc : PC :=
  (.seq (.reg [p_s 4 (.mov (.c (.r (.v (.string ⟨#[]⟩)))))])
 (.seq (.reg [p_m 7 1, p_a 8 (.mks 1 (.v (.int .u8 0)) 1 (.t 7) (.t 7)), p_m 5 8])
 (.seq (.seq (.reg [p_s 6 (.mov (o_i 0))])
 (.block 0 (.loop (.seq (.seq (.reg [p_m 9 6, p_m 10 1, p_s 11 (.bin .lss (.t 9) (.t 10))])
 (.cond (.t 11)
 .skip
 (.exit 0)))
 (.seq (.block 1 (.reg [p_m 14 5, p_m 15 6, p_m 16 0, p_m 17 1, p_s 18 (.bin .sub (.t 17) (o_i 1)), p_m 19 6, p_s 20 (.bin .sub (.t 18) (.t 19)), p_s 21 (.bin .mul (o_i 8) (.t 20)), p_s 22 (.bin .shr (.t 16) (.t 21)),
 p_s 23 (.conv .u8 (.t 22)), p_s 24 (.ia 1 (.v (.int .u8 0)) (.t 14) (.t 15)), ⟨none, none, 0, .act (.st 1 (.t 24) (.t 23))⟩]))
 (.reg [p_m 12 6, p_s 13 (.bin .add (.t 12) (o_i 1)), p_m 6 13]))))))
 (.seq (.reg [p_m 25 5, p_s 26 (.toStr (.t 25)), p_m 4 26])
 .ret))))
theorem apiaryref13_Number_triple : Fun P0 60 2 [(4, false, none)] apiaryref13_Number_pc := fun_mk Go.Proofs.Tryz.func60 rfl (by decide) (by kernel_rfl) (by decide) rfl (by kernel_rfl) (by kernel_rfl) (by decide)
noncomputable def apiaryref13_point_pc : PC :=
  (.seq (.reg [p_a 1 (.box (.t 0)), p_s 2 (.mov (.c (.r (.v (.string ⟨#[]⟩)))))])
 (.seq (.drw [p_s 3 (.fa 0 (.t 1)), p_s 4 (.ld none (.t 3)), p_s 5 (.conv .u64 (.t 4)), p_c 6 1 60 [(.t 5), (o_i 4)], p_s 7 (.fa 1 (.t 1)), p_s 8 (.ld none (.t 7)), p_s 9 (.conv .u64 (.t 8)),
 p_c 10 2 60 [(.t 9), (o_i 4)], p_s 11 (.bin .add (.t 6) (.t 10)), p_s 12 (.fa 2 (.t 1)), p_s 13 (.ld none (.t 12)), p_s 14 (.conv .u64 (.t 13)), p_c 15 3 60 [(.t 14), (o_i 4)],
 p_s 16 (.bin .add (.t 11) (.t 15)), p_s 17 (.fa 3 (.t 1)), p_s 18 (.ld none (.t 17)), p_s 19 (.conv .u64 (.t 18)), p_c 20 4 60 [(.t 19), (o_i 4)], p_s 21 (.bin .add (.t 16) (.t 20)),
 p_m 2 21]
 [[], [0], [0, 1], [0, 1, 2], [], [4], [4, 5], [0, 1, 2, 3, 4, 5, 6], [0, 1, 2, 3, 4, 5, 6, 7], [], [9], [9, 10], [0, 1, 2, 3, 4, 5, 6, 7, 9, 10, 11], [0, 1, 2, 3, 4, 5, 6, 7, 8, 9, 10, 11, 12], [], [14], [14, 15], [0, 1, 2, 3, 4, 5, 6, 7, 9, 10, 11, 12, 14, 15, 16], [0, 1, 2, 3, 4, 5, 6, 7, 8, 9, 10, 11, 12, 13, 14, 15, 16, 17], [0, 1, 2, 3, 4, 5, 6, 7, 8, 9, 10, 11, 12, 13, 14, 15, 16, 17, 18]])
 .ret))
theorem apiaryref13_point_triple : Fun P0 59 1 [(2, false, none)] apiaryref13_point_pc := fun_mk Go.Proofs.Tryz.func59 rfl (by decide) (by kernel_rfl) (by decide) rfl (by kernel_rfl) (by kernel_rfl) (by decide)
noncomputable def apiaryref13_Batch_pc : PC :=
  (.seq (.reg [p_s 2 (.mov (.c (.r (.v (.string ⟨#[]⟩)))))])
 (.seq (.reg [p_s 3 (.mov (.c (.r (.v (.string ⟨#[]⟩)))))])
 (.seq (.seq (.reg [p_s 4 (.mov (o_i 0))])
 (.block 0 (.loop (.seq (.seq (.reg [p_m 5 4, p_m 6 0, p_s 7 (.len false (.t 6)), p_s 8 (.bin .lss (.t 5) (.t 7))])
 (.cond (.t 8)
 .skip
 (.exit 0)))
 (.seq (.block 1 (.seq (.reg [p_m 11 0, p_m 12 4, p_s 13 (.ia 5 (.agg [(.v (.int .i64 0)), (.v (.int .i64 0)), (.v (.int .i64 0)), (.v (.int .i64 0)), (.v (.int .i64 0))]) (.t 11) (.t 12)), p_s 14 (.fa 0 (.t 13)),
 p_s 15 (.ld none (.t 14)), p_s 16 (.bin .eql (.t 15) (o_i 1))])
 (.cond (.t 16)
 (.reg [p_m 17 3, p_s 18 (.bin .add (.t 17) (.c (.r (.v (.string ⟨#[1]⟩))))), p_m 19 0, p_m 20 4, p_s 21 (.ia 5 (.agg [(.v (.int .i64 0)), (.v (.int .i64 0)), (.v (.int .i64 0)), (.v (.int .i64 0)), (.v (.int .i64 0))]) (.t 19) (.t 20)),
 p_s 22 (.fa 1 (.t 21)), p_s 23 (.ld (some 4) (.t 22)), p_c 24 1 59 [.t 23], p_s 25 (.bin .add (.t 18) (.t 24)), p_m 3 25])
 (.reg [p_m 26 3, p_s 27 (.bin .add (.t 26) (.c (.r (.v (.string ⟨#[2]⟩))))), p_m 28 0, p_m 29 4, p_s 30 (.ia 5 (.agg [(.v (.int .i64 0)), (.v (.int .i64 0)), (.v (.int .i64 0)), (.v (.int .i64 0)), (.v (.int .i64 0))]) (.t 28) (.t 29)),
 p_s 31 (.fa 1 (.t 30)), p_s 32 (.fa 0 (.t 31)), p_s 33 (.ld none (.t 32)), p_s 34 (.conv .u64 (.t 33)), p_c 35 2 60 [(.t 34), (o_i 4)], p_s 36 (.bin .add (.t 27) (.t 35)),
 p_m 3 36]))))
 (.reg [p_m 9 4, p_s 10 (.bin .add (.t 9) (o_i 1)), p_m 4 10]))))))
 (.seq (.reg [p_m 37 3, p_m 2 37])
 .ret))))
theorem apiaryref13_Batch_triple : Fun P0 31 1 [(2, false, none)] apiaryref13_Batch_pc := fun_mk Go.Proofs.Tryz.func31 rfl (by decide) (by kernel_rfl) (by decide) rfl (by kernel_rfl) (by kernel_rfl) (by decide)
noncomputable def apiaryref21_Name_pc : PC :=
  (.seq (.reg [p_s 2 (.mov (.c (.r (.v (.string ⟨#[]⟩)))))])
 (.seq (.reg [p_c 6 1 32 [], p_m 5 6, p_s 7 (.ext (.t 5) 0), p_s 8 (.ext (.t 5) 1), p_m 3 7, p_m 4 8])
 (.seq (.seq (.reg [p_m 9 0, p_s 10 (.bin .lss (.t 9) (o_i 1)), p_m 11 10, p_g 12 11 false (.mov (.t 0)), p_g 13 11 false (.mov (.t 3)), p_g 14 11 false (.len false (.t 13)), p_g 15 11 false (.bin .gtr (.t 12) (.t 14)),
 p_s 16 (.pick (.t 11) (.c (.r (.v (.bool true)))) (.t 15))])
 (.cond (.t 16)
 (.seq (.reg [p_s 2 (.mov (.c (.r (.v (.string ⟨#[]⟩)))))])
 .ret)
 .skip))
 (.seq (.reg [p_m 17 3, p_m 18 0, p_s 19 (.bin .sub (.t 18) (o_i 1)), p_s 20 (.ia 1 (.v (.string ⟨#[]⟩)) (.t 17) (.t 19)), p_s 21 (.ld none (.t 20)), p_m 2 21])
 .ret))))
theorem apiaryref21_Name_triple : Fun P0 20 1 [(2, false, none)] apiaryref21_Name_pc := fun_mk Go.Proofs.Tryz.func20 rfl (by decide) (by kernel_rfl) (by decide) rfl (by kernel_rfl) (by kernel_rfl) (by decide)
theorem tup2_weak {a a' e : AV} (hw : ∀ (w : World) (R : Nat → Prop) (ob : Obs) (ρ : Pl → Option Nat) (c : Value), RelA w R ob ρ a c → RelA w R ob ρ a' c) (w : World) (R : Nat → Prop) (ob : Obs) (ρ : Pl → Option Nat) (c : Value) (h : RelA w R ob ρ (.tup [a, e]) c) : RelA w R ob ρ (.tup [a', e]) c := by
 cases h with
 | tup xs cs hl h =>
  refine .tup _ _ (by simpa using hl) fun i x c hx hc => ?_
  match i, hx with
  | 0, hx => cases hx; exact hw _ _ _ _ _ (h 0 _ c rfl hc)
  | 1, hx => cases hx; exact h 1 _ c rfl hc
  | n + 2, hx => cases hx
theorem bodyS_os (kd : Nat) (rest : Bs) (h : (bodyS kd rest).2 = true) : (bodyS kd rest).1.1.os = [] := by
 unfold bodyS at h ⊢
 split at h
 ·cases h
 ·rename_i h16
  split at h
  ·cases h
  ·rename_i h2
   rw [if_neg h16, if_neg h2]
   exact finD_os _ _ _ _
theorem askS_os (s : Bs) (h : (askS s).2 = true) : (askS s).1.1.os = [] := by
 unfold askS at h ⊢
 split at h
 ·cases h
 ·rename_i h1
  split at h
  ·cases h
  ·rename_i h2
   split at h
   ·cases h
   ·rename_i h3
    rw [if_neg h1, if_neg h2, if_neg h3]
    exact bodyS_os _ _ h
theorem askF_weak (x : (AskD × Int) × Bool) (hx : x.2 = true → x.1.1.os = []) (w : World) (R : Nat → Prop) (ob : Obs) (ρ : Pl → Option Nat) (c : Value) (h : RelA w R ob ρ (askF x) c) : RelA w R ob ρ (.r x.1.1.rv) c := by
 unfold askF at h
 split at h
 ·rename_i ht
  have ho := hx ht
  cases h with
  | agg xs cs hl h =>
   refine .r (.agg _ _ (by simpa using hl) fun i x c hx hc => ?_)
   match i, hx with
   | 0, hx => cases hx; cases h 0 _ c rfl hc with | r h => exact h
   | 1, hx => cases hx; cases h 1 _ c rfl hc with | r h => exact h
   | 2, hx => cases hx; exact nilOr_rv (h 2 _ c rfl hc)
   | 3, hx => cases hx; cases h 3 _ c rfl hc with | r h => exact h
   | 4, hx =>
    cases hx
    rw [ho]
    exact nilOr_rv (z := opZ) (xs := []) (h 4 _ c rfl hc)
   | n + 5, hx => cases hx
 ·exact ask_weak _ _ _ _ _ _ h
theorem ask_doc (s : Bs) (hl : s.length ≤ 100000) : Triple P0 17 [sV s] [] (.tup [.r (parseD s).1.rv, int .i64 (parseD s).2]) [] := by
 rw [parse_doc]
 exact (rask_t s hl).weak (tup2_weak (askF_weak _ (askS_os s)))
theorem rnum4_t (n : Nat) (hn : n < 18446744073709551616) : Triple P0 60 [uw n, int .i64 4] [] (sV (num4 n)) [] := by
 refine apiaryref13_Number_triple rfl (by decide) ?_
 have hz : zerosAt (4 : Int) (.v (.int .u8 0)) = [.v (.int .u8 0), .v (.int .u8 0), .v (.int .u8 0), .v (.int .u8 0)] := rfl
 simp only [apiaryref13_Number_pc, uw, hz, push_cast, ↓reduceIte, reduceCtorEq, zB, zE, zA, zS, zL, zD, zM]
 refine ⟨by have := maxLen_big; omega, ?_⟩
 have hb : ∀ m : Nat, (IntKind.u8.wrap ((m : Nat) : Int)) = (((zap m).toNat : Nat) : Int) := fun m => by
  rw [IntKind.wrap_u8, UInt8.toNat_ofNat']
  omega
 have s3 : ((n : Int).fdiv (2 ^ min (zad 24) IntKind.u64.bits)) = ((n / 16777216 : Nat) : Int) := shr_u n 24 (by decide)
 have s2 : ((n : Int).fdiv (2 ^ min (zad 16) IntKind.u64.bits)) = ((n / 65536 : Nat) : Int) := shr_u n 16 (by decide)
 have s1 : ((n : Int).fdiv (2 ^ min (zad 8) IntKind.u64.bits)) = ((n / 256 : Nat) : Int) := shr_u n 8 (by decide)
 have s0 : ((n : Int).fdiv (2 ^ min (zad 0) IntKind.u64.bits)) = ((n : Nat) : Int) := by rw [show zad 0 = 0 from rfl, shr_u n 0 (by decide)]; simp
 have b3 := hb (n / 16777216)
 have b2 := hb (n / 65536)
 have b1 := hb (n / 256)
 have b0 := hb n
 have z4 : zad 4 = 4 := rfl
 have c3 : ((n : Int) / 16777216) = ((n / 16777216 : Nat) : Int) := by omega
 have c2 : ((n : Int) / 65536) = ((n / 65536 : Nat) : Int) := by omega
 have c1 : ((n : Int) / 256) = ((n / 256 : Nat) : Int) := by omega
 rw [← c3] at b3 s3
 rw [← c2] at b2 s2
 rw [← c1] at b1 s1
 obtain ⟨x3, hx3⟩ : ∃ x : Int, (((zap (n / 16777216)).toNat : Nat) : Int) = x := ⟨_, rfl⟩
 obtain ⟨x2, hx2⟩ : ∃ x : Int, (((zap (n / 65536)).toNat : Nat) : Int) = x := ⟨_, rfl⟩
 obtain ⟨x1, hx1⟩ : ∃ x : Int, (((zap (n / 256)).toNat : Nat) : Int) = x := ⟨_, rfl⟩
 obtain ⟨x0, hx0⟩ : ∃ x : Int, (((zap n).toNat : Nat) : Int) = x := ⟨_, rfl⟩
 rw [hx3] at b3
 rw [hx2] at b2
 rw [hx1] at b1
 rw [hx0] at b0
 have hbys : [RV.v (.int .u8 x3), .v (.int .u8 x2), .v (.int .u8 x1), .v (.int .u8 x0)] = bys (num4 n) := by
  rw [← hx3, ← hx2, ← hx1, ← hx0]
  rfl
 refine run_loop [(0, false), (1, false), (5, false), (6, false)] (fun vs pos los => ∃ (I : Int) (r : List RV), ((I = 0 ∧ r = [.v (.int .u8 0), .v (.int .u8 0), .v (.int .u8 0), .v (.int .u8 0)]) ∨ (I = 1 ∧ r = [.v (.int .u8 x3), .v (.int .u8 0), .v (.int .u8 0), .v (.int .u8 0)]) ∨ (I = 2 ∧ r = [.v (.int .u8 x3), .v (.int .u8 x2), .v (.int .u8 0), .v (.int .u8 0)]) ∨ (I = 3 ∧ r = [.v (.int .u8 x3), .v (.int .u8 x2), .v (.int .u8 x1), .v (.int .u8 0)]) ∨ (I = 4 ∧ r = [.v (.int .u8 x3), .v (.int .u8 x2), .v (.int .u8 x1), .v (.int .u8 x0)])) ∧ vs = [uw n, int .i64 4, .own 2000000 0 0 4, int .i64 I] ∧ pos = [] ∧ los = [.row 1 (.v (.int .u8 0)) true true r])
  (fun vs _ _ => match vs with | [_, _, _, .r (.v (.int _ j))] => (4 - j).toNat | _ => 0) rfl ?_ ?_
 ·simp only [z4, push_cast, ↓reduceIte, reduceCtorEq, zB, zE, zA, zS, zL, zD, zM]
  exact ⟨0, _, .inl ⟨rfl, rfl⟩, rfl, rfl⟩
 ·rintro vs pos los ⟨I, r, hj, rfl, rfl, rfl⟩
  rcases hj with ⟨rfl, rfl⟩ | ⟨rfl, rfl⟩ | ⟨rfl, rfl⟩ | ⟨rfl, rfl⟩ | ⟨rfl, rfl⟩
  ·simp only [uw, push_cast, ↓reduceIte, reduceCtorEq, zB, zE, zA, zS, zL, zD, zM]
   refine cnd_mk (fun hc => ?_) (fun hc => ?_)
   ·have w1 : IntKind.i64.wrap (8 * IntKind.i64.wrap (IntKind.i64.wrap (4 - 1) - 0)) = 24 := rfl
    have w1' : IntKind.i64.wrap (8 * IntKind.i64.wrap (3 - 0)) = 24 := rfl
    have w1'' : IntKind.i64.wrap (4 - 1) = 3 := rfl
    have w2 : IntKind.i64.wrap (0 + 1) = 1 := rfl
    have zz : (0 : Nat) + zad 0 = 0 := rfl
    have zj : zad 0 = 0 := rfl
    simp only [uw, w1, w1', w1'', w2, zz, zj, s3, s2, s1, s0, b3, b2, b1, b0, zat, zau, push_cast, ↓reduceIte, reduceCtorEq, zB, zE, zA, zS, zL, zD, zM]
    refine ⟨by decide, by omega, ⟨1, _, .inr (.inl ⟨rfl, rfl⟩), rfl, rfl⟩, by decide⟩
   ·simp at hc
  ·simp only [uw, push_cast, ↓reduceIte, reduceCtorEq, zB, zE, zA, zS, zL, zD, zM]
   refine cnd_mk (fun hc => ?_) (fun hc => ?_)
   ·have w1 : IntKind.i64.wrap (8 * IntKind.i64.wrap (IntKind.i64.wrap (4 - 1) - 1)) = 16 := rfl
    have w1' : IntKind.i64.wrap (8 * IntKind.i64.wrap (3 - 1)) = 16 := rfl
    have w1'' : IntKind.i64.wrap (4 - 1) = 3 := rfl
    have w2 : IntKind.i64.wrap (1 + 1) = 2 := rfl
    have zz : (0 : Nat) + zad 1 = 1 := rfl
    have zj : zad 1 = 1 := rfl
    simp only [uw, w1, w1', w1'', w2, zz, zj, s3, s2, s1, s0, b3, b2, b1, b0, zat, zau, push_cast, ↓reduceIte, reduceCtorEq, zB, zE, zA, zS, zL, zD, zM]
    refine ⟨by decide, by omega, ⟨2, _, .inr (.inr (.inl ⟨rfl, rfl⟩)), rfl, rfl⟩, by decide⟩
   ·simp at hc
  ·simp only [uw, push_cast, ↓reduceIte, reduceCtorEq, zB, zE, zA, zS, zL, zD, zM]
   refine cnd_mk (fun hc => ?_) (fun hc => ?_)
   ·have w1 : IntKind.i64.wrap (8 * IntKind.i64.wrap (IntKind.i64.wrap (4 - 1) - 2)) = 8 := rfl
    have w1' : IntKind.i64.wrap (8 * IntKind.i64.wrap (3 - 2)) = 8 := rfl
    have w1'' : IntKind.i64.wrap (4 - 1) = 3 := rfl
    have w2 : IntKind.i64.wrap (2 + 1) = 3 := rfl
    have zz : (0 : Nat) + zad 2 = 2 := rfl
    have zj : zad 2 = 2 := rfl
    simp only [uw, w1, w1', w1'', w2, zz, zj, s3, s2, s1, s0, b3, b2, b1, b0, zat, zau, push_cast, ↓reduceIte, reduceCtorEq, zB, zE, zA, zS, zL, zD, zM]
    refine ⟨by decide, by omega, ⟨3, _, .inr (.inr (.inr (.inl ⟨rfl, rfl⟩))), rfl, rfl⟩, by decide⟩
   ·simp at hc
  ·simp only [uw, push_cast, ↓reduceIte, reduceCtorEq, zB, zE, zA, zS, zL, zD, zM]
   refine cnd_mk (fun hc => ?_) (fun hc => ?_)
   ·have w1 : IntKind.i64.wrap (8 * IntKind.i64.wrap (IntKind.i64.wrap (4 - 1) - 3)) = 0 := rfl
    have w1' : IntKind.i64.wrap (8 * IntKind.i64.wrap (3 - 3)) = 0 := rfl
    have w1'' : IntKind.i64.wrap (4 - 1) = 3 := rfl
    have w2 : IntKind.i64.wrap (3 + 1) = 4 := rfl
    have zz : (0 : Nat) + zad 3 = 3 := rfl
    have zj : zad 3 = 3 := rfl
    simp only [uw, w1, w1', w1'', w2, zz, zj, s3, s2, s1, s0, b3, b2, b1, b0, zat, zau, push_cast, ↓reduceIte, reduceCtorEq, zB, zE, zA, zS, zL, zD, zM]
    refine ⟨by decide, by omega, ⟨4, _, .inr (.inr (.inr (.inr ⟨rfl, rfl⟩))), rfl, rfl⟩, by decide⟩
   ·simp at hc
  ·simp only [uw, push_cast, ↓reduceIte, reduceCtorEq, zB, zE, zA, zS, zL, zD, zM]
   refine cnd_mk (fun hc => ?_) (fun hc => ?_)
   ·simp at hc
   ·have htk : List.take 4 (bys (num4 n)) = bys (num4 n) := rfl
    simp only [hbys, htk, bys_isByte, bstr_of_bys, z4, push_cast, ↓reduceIte, reduceCtorEq, zB, zE, zA, zS, zL, zD, zM]
theorem u64_nat (x : Int) : ∃ m : Nat, m < 18446744073709551616 ∧ IntKind.u64.wrap x = (m : Int) ∧ (IntKind.u64.wrap x).toNat = m := by
 refine ⟨(IntKind.u64.wrap x).toNat, ?_, ?_, rfl⟩ <;> rw [IntKind.wrap_u64] <;> omega
theorem rpoint_t (key x y v : Int) : Triple P0 59 [.r (ptR4 key x y v)] [] (sV (put4 key x y v)) [] := by
 obtain ⟨a, a0, a1, a2⟩ := u64_nat key
 obtain ⟨b, b0, b1, b2⟩ := u64_nat x
 obtain ⟨c, c0, c1, c2⟩ := u64_nat y
 obtain ⟨d, d0, d1, d2⟩ := u64_nat v
 refine apiaryref13_point_triple rfl (by decide) ?_
 unfold put4
 rw [a2, b2, c2, d2]
 have n4 : ∀ n, (num4 n).length = 4 := fun _ => rfl
 have hmax := maxLen_big
 simp only [apiaryref13_point_pc, ptR4, n8, a1, b1, c1, d1, push_cast, ↓reduceIte, reduceCtorEq, zB, zE, zA, zS, zL, zD, zM]
 refine dcall_mk (rnum4_t a a0) rfl trivial ?_
 simp only [uw, a1, b1, c1, d1, push_cast, ↓reduceIte, reduceCtorEq, zB, zE, zA, zS, zL, zD, zM]
 refine dcall_mk (rnum4_t b b0) rfl trivial ?_
 simp only [uw, a1, b1, c1, d1, n4, bstr_app, bstr_size, push_cast, ↓reduceIte, reduceCtorEq, zB, zE, zA, zS, zL, zD, zM]
 repeat refine And.intro (by first | omega | kernel_rfl) ?_
 refine dcall_mk (rnum4_t c c0) rfl trivial ?_
 simp only [uw, a1, b1, c1, d1, n4, bstr_app, bstr_size, push_cast, ↓reduceIte, reduceCtorEq, zB, zE, zA, zS, zL, zD, zM]
 repeat refine And.intro (by first | omega | kernel_rfl) ?_
 refine dcall_mk (rnum4_t d d0) rfl trivial ?_
 simp only [uw, a1, b1, c1, d1, n4, bstr_app, bstr_size, zam, push_cast, ↓reduceIte, reduceCtorEq, zB, zE, zA, zS, zL, zD, zM]
 repeat refine And.intro (by first | omega | kernel_rfl) ?_
 first | kernel_rfl | exact ⟨by kernel_rfl, rfl⟩
theorem rbatch_t (l : List Op5) (hl : l.length ≤ 1000000) (hk : ∀ o ∈ l, o.k = 1 ∨ o.k = 2) : Triple P0 31 [.r (.sl 5 (l.map opR))] [] (sV (opsBs l)) [] := by
 refine apiaryref13_Batch_triple rfl (by decide) ?_
 have hmax := maxLen_big
 simp only [apiaryref13_Batch_pc, push_cast, ↓reduceIte, reduceCtorEq, zB, zE, zA, zS, zL, zD, zM]
 refine run_loop [(0, false), (3, false), (4, false)] (fun vs pos los => ∃ i : Nat, i ≤ l.length ∧ vs = [.r (.sl 5 (l.map opR)), sV (opsBs (l.take i)), int .i64 i] ∧ pos = [] ∧ los = [])
  (fun vs _ _ => match vs with | [_, _, .r (.v (.int _ j))] => (l.length - j).toNat | _ => 0) rfl ?_ ?_
 ·simp only [push_cast, ↓reduceIte, reduceCtorEq, zB, zE, zA, zS, zL, zD, zM]
  exact ⟨0, by omega, by simp [opsBs]; rfl⟩
 ·rintro vs pos los ⟨i, i0, rfl, rfl, rfl⟩
  have hbl := opsBs_len (l.take i)
  rw [zaq] at hbl
  simp only [push_cast, ↓reduceIte, reduceCtorEq, zB, zE, zA, zS, zL, zD, zM]
  refine cnd_mk (fun hi => ?_) (fun hi => ?_)
  ·have hi : i < l.length := by simpa using hi
   obtain ⟨⟨k, key, x, y, v⟩, ho⟩ : ∃ o, l[i] = o := ⟨_, rfl⟩
   have hop := hk _ (zai hi)
   rw [ho] at hop
   simp only at hop
   have hnx : opsBs (l.take (i + 1)) = opsBs (l.take i) ++ opBs ⟨k, key, x, y, v⟩ := by
    rw [zas hi, ho]
    simp [opsBs]
   have hg : ∀ z, (l.map opR).getD i z = .agg [.v (.int .i64 k), .v (.int .i64 key), .v (.int .i64 x), .v (.int .i64 y), .v (.int .i64 v)] := fun z => by
    rw [zae]
    simp [hi, ho, opR, n8]
   have w1 : IntKind.i64.wrap ((i : Int) + 1) = (i : Int) + 1 := wrap_id (by omega)
   obtain ⟨B, hB⟩ : ∃ B, opsBs (l.take i) = B := ⟨_, rfl⟩
   rw [hB] at hbl hnx ⊢
   simp only [hg, w1, zaa, zab, zac, push_cast, ↓reduceIte, reduceCtorEq, zB, zE, zA, zS, zL, zD, zM]
   refine ⟨by omega, ?_⟩
   have l1 : ({ data := #[1] } : ByteArray) = bstr [1] := rfl
   have l2 : ({ data := #[2] } : ByteArray) = bstr [2] := rfl
   have e1 : ∀ X : Bs, (B ++ [1]) ++ X = B ++ (1 :: X) := fun X => by simp
   have e2 : ∀ X : Bs, (B ++ [2]) ++ X = B ++ (2 :: X) := fun X => by simp
   have p16 : (put4 key x y v).length = 16 := rfl
   have n4 : ∀ n, (num4 n).length = 4 := fun _ => rfl
   refine cnd_mk (fun hk => ?_) (fun hk => ?_)
   ·have hk : k = 1 := by simpa using hk
    subst hk
    have hob : opBs ⟨1, key, x, y, v⟩ = 1 :: put4 key x y v := rfl
    rw [hob] at hnx
    simp only [hg, w1, l1, l2, bstr_app, bstr_size, p16, zaa, zab, zac, push_cast, ↓reduceIte, reduceCtorEq, zB, zE, zA, zS, zL, zD, zM]
    repeat refine And.intro (by first | omega | (simp; omega) | kernel_rfl) ?_
    refine call_as (as' := [.r (ptR4 key x y v)]) rfl ?_
    refine call_mk (rpoint_t key x y v) rfl trivial ?_
    simp only [hg, w1, l1, l2, bstr_app, bstr_size, e1, p16, zaa, zab, zac, push_cast, ↓reduceIte, reduceCtorEq, zB, zE, zA, zS, zL, zD, zM]
    repeat refine And.intro (by first | omega | (simp; omega) | kernel_rfl) ?_
    exact ⟨⟨i + 1, by omega, by rw [hnx]; simp⟩, by omega⟩
   ·have hk : k = 2 := by
     have : k ≠ 1 := by simpa using hk
     omega
    subst hk
    have hob : opBs ⟨2, key, x, y, v⟩ = 2 :: num4 (IntKind.u64.wrap key).toNat := rfl
    obtain ⟨m, m0, m1, m2⟩ := u64_nat key
    rw [hob, m2] at hnx
    simp only [hg, w1, m1, l1, l2, bstr_app, bstr_size, n4, zaa, zab, zac, push_cast, ↓reduceIte, reduceCtorEq, zB, zE, zA, zS, zL, zD, zM]
    repeat refine And.intro (by first | omega | (simp; omega) | kernel_rfl) ?_
    refine call_as (as' := [uw m, int .i64 4]) rfl ?_
    refine call_mk (rnum4_t m m0) rfl trivial ?_
    simp only [hg, w1, m1, l1, l2, bstr_app, bstr_size, e2, n4, zaa, zab, zac, push_cast, ↓reduceIte, reduceCtorEq, zB, zE, zA, zS, zL, zD, zM]
    repeat refine And.intro (by first | omega | (simp; omega) | kernel_rfl) ?_
    exact ⟨⟨i + 1, by omega, by rw [hnx]; simp⟩, by omega⟩
  ·have hi : i = l.length := Nat.le_antisymm i0 (by simpa using hi)
   subst hi
   rw [List.take_length]
   simp only [push_cast, ↓reduceIte, reduceCtorEq, zB, zE, zA, zS, zL, zD, zM]
def nmS (k : Int) : Bs := if 1 ≤ k ∧ k ≤ 16 then namesL.getD (k - 1).toNat [] else []
theorem rname_t (k : Int) (hk : in64 k) : Triple P0 20 [int .i64 k] [] (sV (nmS k)) [] := by
 refine apiaryref21_Name_triple rfl (by decide) ?_
 simp only [apiaryref21_Name_pc, push_cast, ↓reduceIte, reduceCtorEq, zB, zE, zA, zS, zL, zD, zM]
 refine call_mk names_t rfl trivial ?_
 have hN : (strs namesL).length = 16 := rfl
 unfold nmS
 by_cases h1 : k < 1
 ·have g1 : decide (k < 1) = true := decide_eq_true h1
  rw [if_neg (by omega)]
  simp only [g1, hN, push_cast, ↓reduceIte, reduceCtorEq, zB, zE, zA, zS, zL, zD, zM]
  rfl
 ·have g1 : decide (k < 1) = false := decide_eq_false h1
  by_cases h2 : k > 16
  ·have g2 : decide (k > 16) = true := decide_eq_true h2
   rw [if_neg (by omega)]
   simp only [g1, g2, hN, push_cast, ↓reduceIte, reduceCtorEq, zB, zE, zA, zS, zL, zD, zM]
   rfl
  ·have g2 : decide (k > 16) = false := decide_eq_false h2
   rw [if_pos (by omega)]
   obtain ⟨K, rfl⟩ : ∃ K : Nat, k = (K : Int) + 1 := ⟨(k - 1).toNat, by omega⟩
   have w1 : IntKind.i64.wrap ((K : Int) + 1 - 1) = (K : Int) := by rw [wrap_id (by omega)]; omega
   have hg : ∀ z, (strs namesL).getD K z = .v (.string (bstr (namesL.getD K []))) := fun z => by
    have hK : K < namesL.length := by show K < 16; omega
    rw [zae, zae]
    simp [hK, strR]
   have e : ((K : Int) + 1 - 1).toNat = K := by omega
   rw [e]
   simp only [g1, g2, w1, hg, hN, zaa, zab, zac, push_cast, ↓reduceIte, reduceCtorEq, zB, zE, zA, zS, zL, zD, zM]
   first | exact ⟨by omega, rfl⟩ | omega

noncomputable def apiaryref21_Text_pc : PC :=
  (.seq (.reg [p_a 1 (.box (.t 0)), p_s 2 (.mov (.c (.r (.v (.string ⟨#[]⟩))))), p_s 3 (.mov (.c (.r (.v (.bool false)))))])
 (.seq (.seq (.reg [p_s 13 (.fa 0 (.t 1)), p_s 14 (.ld none (.t 13)), p_c 15 1 20 [.t 14], p_s 16 (.bin .eql (.t 15) (.c (.r (.v (.string ⟨#[]⟩)))))])
 (.cond (.t 16)
 (.seq (.reg [p_s 2 (.mov (.c (.r (.v (.string ⟨#[]⟩))))), p_s 3 (.mov (.c (.r (.v (.bool false)))))])
 .ret)
 .skip))
 (.seq (.reg [p_s 17 (.fa 0 (.t 1)), p_s 18 (.ld none (.t 17)), p_c 19 2 20 [.t 18], p_s 20 (.bin .add (.c (.r (.v (.string ⟨#[47]⟩)))) (.t 19)), p_m 4 20])
 (.seq (.seq (.reg [p_s 21 (.fa 0 (.t 1)), p_s 22 (.ld none (.t 21)), p_s 23 (.bin .eql (.t 22) (o_i 16))])
 (.cond (.t 23)
 (.seq (.seq (.reg [p_s 24 (.fa 4 (.t 1)), p_s 25 (.ld none (.t 24)), p_c 26 3 30 [.t 25], p_s 27 (.bin .neq (.t 26) (o_i 0)), p_m 28 27, p_g 29 28 false (.fa 1 (.t 1)), p_g 30 28 false (.ld none (.t 29)),
 p_g 31 28 false (.len false (.t 30)), p_g 32 28 false (.bin .gtr (.t 31) (o_i 0)), p_s 33 (.pick (.t 28) (.c (.r (.v (.bool true)))) (.t 32)), p_m 34 33, p_g 35 34 false (.fa 2 (.t 1)),
 p_g 36 34 false (.ld none (.t 35)), p_g 37 34 false (.len false (.t 36)), p_g 38 34 false (.bin .gtr (.t 37) (o_i 0)), p_s 39 (.pick (.t 34) (.c (.r (.v (.bool true)))) (.t 38)),
 p_m 40 39, p_g 41 40 false (.fa 3 (.t 1)), p_g 42 40 false (.ld none (.t 41)), p_g 43 40 false (.len false (.t 42)), p_g 44 40 false (.bin .gtr (.t 43) (o_i 0)),
 p_s 45 (.pick (.t 40) (.c (.r (.v (.bool true)))) (.t 44))])
 (.cond (.t 45)
 (.seq (.reg [p_s 2 (.mov (.c (.r (.v (.string ⟨#[]⟩))))), p_s 3 (.mov (.c (.r (.v (.bool false)))))])
 .ret)
 .skip))
 (.seq (.reg [p_m 46 4, p_s 47 (.bin .add (.t 46) (.c (.r (.v (.string ⟨#[10]⟩))))), p_s 48 (.fa 4 (.t 1)), p_s 49 (.ld none (.t 48)), p_c 50 4 31 [.t 49], p_s 51 (.bin .add (.t 47) (.t 50)),
 p_m 4 51])
 (.seq (.reg [p_m 52 4, p_m 53 4, p_s 54 (.len true (.t 53)), p_s 55 (.bin .leq (.t 54) (o_i 10000)), p_m 2 52, p_m 3 55])
 .ret)))
 .skip))
 (.seq (.reg [p_c 57 5 32 [], p_m 56 57, p_s 58 (.ext (.t 56) 0), p_s 59 (.ext (.t 56) 1), p_m 5 58, p_m 6 59])
 (.seq (.reg [p_m 60 6, p_s 61 (.fa 0 (.t 1)), p_s 62 (.ld none (.t 61)), p_s 63 (.bin .sub (.t 62) (o_i 1)), p_s 64 (.ia 1 (.v (.string ⟨#[]⟩)) (.t 60) (.t 63)), p_s 65 (.ld none (.t 64)),
 p_m 7 65])
 (.seq (.reg [p_s 8 (.mov (o_i 0)), p_s 9 (.mov (o_i 0)), p_s 10 (.mov (o_i 0))])
 (.seq (.seq (.reg [p_s 11 (.mov (o_i 0))])
 (.block 0 (.loop (.seq (.seq (.reg [p_m 66 11, p_m 67 7, p_s 68 (.len true (.t 67)), p_s 69 (.bin .lss (.t 66) (.t 68))])
 (.cond (.t 69)
 .skip
 (.exit 0)))
 (.seq (.block 1 (.seq (.seq (.reg [p_m 72 11, p_s 73 (.bin .eql (.t 72) (o_i 0))])
 (.cond (.t 73)
 (.reg [p_m 74 4, p_s 75 (.bin .add (.t 74) (.c (.r (.v (.string ⟨#[63]⟩))))), p_m 4 75])
 (.reg [p_m 76 4, p_s 77 (.bin .add (.t 76) (.c (.r (.v (.string ⟨#[38]⟩))))), p_m 4 77])))
 (.seq (.reg [p_m 78 4, p_m 79 7, p_m 80 11, p_m 81 11, p_s 82 (.bin .add (.t 81) (o_i 1)), p_s 83 (.sls (.t 79) (some (.t 80)) (some (.t 82))), p_s 84 (.bin .add (.t 78) (.t 83)),
 p_s 85 (.bin .add (.t 84) (.c (.r (.v (.string ⟨#[61]⟩))))), p_m 4 85])
 (.block 2 (.seq (.drw [p_s 102 (.fa 0 (.t 1)), p_s 103 (.ld none (.t 102)), p_m 104 7, p_m 105 11, p_s 106 (.ixs (.t 104) (.t 105)), p_c 107 6 33 [.t 103, .t 106], p_m 101 107]
 [[], [0], [], [], [2, 3], [0, 1, 2, 3, 4], [0, 1, 2, 3, 4, 5]])
 (.cond (.t 101)
 (.seq (.seq (.reg [p_m 108 9, p_s 109 (.fa 2 (.t 1)), p_s 110 (.ld none (.t 109)), p_s 111 (.len false (.t 110)), p_s 112 (.bin .geq (.t 108) (.t 111)), p_m 113 112, p_g 114 113 false (.fa 2 (.t 1)),
 p_g 115 113 false (.ld none (.t 114)), p_g 116 113 false (.mov (.t 9)), p_g 117 113 false (.ia 1 (.v (.int .u64 0)) (.t 115) (.t 116)), p_g 118 113 false (.ld none (.t 117)),
 ⟨(some 119), (some (113, false)), 7, .call 34 [(.t 118)]⟩, p_g 120 113 false (.un .not (.t 119)), p_s 121 (.pick (.t 113) (.c (.r (.v (.bool true)))) (.t 120))])
 (.cond (.t 121)
 (.seq (.reg [p_s 2 (.mov (.c (.r (.v (.string ⟨#[]⟩))))), p_s 3 (.mov (.c (.r (.v (.bool false)))))])
 .ret)
 .skip))
 (.seq (.reg [p_m 122 4, p_s 123 (.fa 2 (.t 1)), p_s 124 (.ld none (.t 123)), p_m 125 9, p_s 126 (.ia 1 (.v (.int .u64 0)) (.t 124) (.t 125)), p_s 127 (.ld none (.t 126)), p_c 128 8 14 [.t 127],
 p_s 129 (.bin .add (.t 122) (.t 128)), p_m 4 129])
 (.reg [p_m 130 9, p_s 131 (.bin .add (.t 130) (o_i 1)), p_m 9 131])))
 (.seq (.reg [p_m 133 7, p_m 134 11, p_s 135 (.ixs (.t 133) (.t 134)), p_s 136 (.bin .eql (.t 135) (.c (.r (.v (.int .u8 112))))), p_m 132 136])
 (.cond (.t 132)
 (.seq (.reg [p_s 137 (.fa 3 (.t 1)), p_s 138 (.ld none (.t 137)), p_s 139 (.len false (.t 138)), p_m 10 139])
 (.seq (.seq (.reg [p_m 140 10, p_s 141 (.bin .lss (.t 140) (o_i 1)), p_m 142 141, p_g 143 142 false (.mov (.t 10)), p_g 144 142 false (.bin .gtr (.t 143) (o_i 100)), p_s 145 (.pick (.t 142) (.c (.r (.v (.bool true)))) (.t 144))])
 (.cond (.t 145)
 (.seq (.reg [p_s 2 (.mov (.c (.r (.v (.string ⟨#[]⟩))))), p_s 3 (.mov (.c (.r (.v (.bool false)))))])
 .ret)
 .skip))
 (.seq (.reg [p_s 12 (.mov (o_i 0))])
 (.block 3 (.loop (.seq (.seq (.reg [p_m 146 12, p_m 147 10, p_s 148 (.bin .lss (.t 146) (.t 147))])
 (.cond (.t 148)
 .skip
 (.exit 3)))
 (.seq (.block 4 (.seq (.seq (.reg [p_m 151 12, p_s 152 (.bin .gtr (.t 151) (o_i 0))])
 (.cond (.t 152)
 (.reg [p_m 153 4, p_s 154 (.bin .add (.t 153) (.c (.r (.v (.string ⟨#[44]⟩))))), p_m 4 154])
 .skip))
 (.drw [p_m 155 4, p_s 156 (.fa 3 (.t 1)), p_s 157 (.ld none (.t 156)), p_m 158 12, p_s 159 (.ia 2 (.agg [(.v (.int .i64 0)), (.v (.int .i64 0))]) (.t 157) (.t 158)), p_s 160 (.iaa 2 1 (.t 159) (o_i 0)),
 p_s 161 (.ld none (.t 160)), p_c 162 9 12 [.t 161], p_s 163 (.bin .add (.t 155) (.t 162)), p_s 164 (.bin .add (.t 163) (.c (.r (.v (.string ⟨#[44]⟩))))), p_s 165 (.fa 3 (.t 1)),
 p_s 166 (.ld none (.t 165)), p_m 167 12, p_s 168 (.ia 2 (.agg [(.v (.int .i64 0)), (.v (.int .i64 0))]) (.t 166) (.t 167)), p_s 169 (.iaa 2 1 (.t 168) (o_i 1)),
 p_s 170 (.ld none (.t 169)), p_c 171 10 12 [.t 170], p_s 172 (.bin .add (.t 164) (.t 171)), p_m 4 172]
 [[], [], [1], [], [1, 2, 3], [1, 2, 3, 4], [1, 2, 3, 4, 5], [1, 2, 3, 4, 5, 6], [0, 1, 2, 3, 4, 5, 6, 7], [0, 1, 2, 3, 4, 5, 6, 7, 8], [], [10], [], [10, 11, 12], [10, 11, 12, 13], [10, 11, 12, 13, 14], [1, 2, 3, 4, 5, 6, 7, 10, 11, 12, 13, 14, 15], [0, 1, 2, 3, 4, 5, 6, 7, 8, 9, 10, 11, 12, 13, 14, 15, 16], [0, 1, 2, 3, 4, 5, 6, 7, 8, 9, 10, 11, 12, 13, 14, 15, 16, 17]])))
 (.reg [p_m 149 12, p_s 150 (.bin .add (.t 149) (o_i 1)), p_m 12 150]))))))))
 (.seq (.seq (.reg [p_m 86 8, p_s 87 (.fa 1 (.t 1)), p_s 88 (.ld none (.t 87)), p_s 89 (.len false (.t 88)), p_s 90 (.bin .geq (.t 86) (.t 89))])
 (.cond (.t 90)
 (.seq (.reg [p_s 2 (.mov (.c (.r (.v (.string ⟨#[]⟩))))), p_s 3 (.mov (.c (.r (.v (.bool false)))))])
 .ret)
 .skip))
 (.seq (.reg [p_m 91 4, p_s 92 (.fa 1 (.t 1)), p_s 93 (.ld none (.t 92)), p_m 94 8, p_s 95 (.ia 1 (.v (.int .i64 0)) (.t 93) (.t 94)), p_s 96 (.ld none (.t 95)), p_c 97 11 12 [.t 96],
 p_s 98 (.bin .add (.t 91) (.t 97)), p_m 4 98])
 (.reg [p_m 99 8, p_s 100 (.bin .add (.t 99) (o_i 1)), p_m 8 100])))))))))))
 (.reg [p_m 70 11, p_s 71 (.bin .add (.t 70) (o_i 1)), p_m 11 71]))))))
 (.seq (.seq (.reg [p_m 173 8, p_s 174 (.fa 1 (.t 1)), p_s 175 (.ld none (.t 174)), p_s 176 (.len false (.t 175)), p_s 177 (.bin .neq (.t 173) (.t 176)), p_m 178 177, p_g 179 178 false (.mov (.t 9)),
 p_g 180 178 false (.fa 2 (.t 1)), p_g 181 178 false (.ld none (.t 180)), p_g 182 178 false (.len false (.t 181)), p_g 183 178 false (.bin .neq (.t 179) (.t 182)),
 p_s 184 (.pick (.t 178) (.c (.r (.v (.bool true)))) (.t 183)), p_m 185 184, p_g 186 185 false (.mov (.t 10)), p_g 187 185 false (.fa 3 (.t 1)), p_g 188 185 false (.ld none (.t 187)),
 p_g 189 185 false (.len false (.t 188)), p_g 190 185 false (.bin .neq (.t 186) (.t 189)), p_s 191 (.pick (.t 185) (.c (.r (.v (.bool true)))) (.t 190)), p_m 192 191,
 p_g 193 192 false (.fa 4 (.t 1)), p_g 194 192 false (.ld none (.t 193)), p_g 195 192 false (.len false (.t 194)), p_g 196 192 false (.bin .gtr (.t 195) (o_i 0)),
 p_s 197 (.pick (.t 192) (.c (.r (.v (.bool true)))) (.t 196)), p_m 198 197, p_g 199 198 false (.mov (.t 4)), p_g 200 198 false (.len true (.t 199)), p_g 201 198 false (.bin .gtr (.t 200) (o_i 10000)),
 p_s 202 (.pick (.t 198) (.c (.r (.v (.bool true)))) (.t 201))])
 (.cond (.t 202)
 (.seq (.reg [p_s 2 (.mov (.c (.r (.v (.string ⟨#[]⟩))))), p_s 3 (.mov (.c (.r (.v (.bool false)))))])
 .ret)
 .skip))
 (.seq (.reg [p_m 203 4, p_m 2 203, p_s 3 (.mov (.c (.r (.v (.bool true)))))])
 .ret))))))))))
theorem apiaryref21_Text_triple : Fun P0 15 1 [(2, false, none), (3, false, none)] apiaryref21_Text_pc := fun_mk Go.Proofs.Tryz.func15 rfl (by decide) (by kernel_rfl) (by decide) rfl (by kernel_rfl) (by kernel_rfl) (by decide)
def rgT : List (Int × Int) → Bs
 | [] => []
 | p :: r => Lib.itoa p.1 ++ (44 :: Lib.itoa p.2) ++ r.flatMap fun q => 44 :: (Lib.itoa q.1 ++ 44 :: Lib.itoa q.2)
theorem rgT_app (l : List (Int × Int)) (p : Int × Int) : rgT (l ++ [p]) = rgT l ++ ((if l = [] then [] else [44]) ++ (Lib.itoa p.1 ++ (44 :: Lib.itoa p.2))) := by
 cases l with
 | nil => simp [rgT]
 | cons q r => simp [rgT, List.flatMap_append]
theorem rgT_len (l : List (Int × Int)) (h : ∀ p ∈ l, in64 p.1 ∧ in64 p.2) : (rgT l).length ≤ 44 * l.length := by
 have h2 : ∀ r : List (Int × Int), (∀ p ∈ r, in64 p.1 ∧ in64 p.2) → (r.flatMap fun q => (44 : UInt8) :: (Lib.itoa q.1 ++ 44 :: Lib.itoa q.2)).length ≤ 44 * r.length := fun r => by
  induction r with
  | nil => intro _; simp
  | cons p r ih =>
   intro h
   have hp := h p (by simp)
   have a := itoa_len p.1 hp.1
   have b := itoa_len p.2 hp.2
   have := ih fun q hq => h q (by simp [hq])
   simp only [List.flatMap_cons, zaj, zaf] at this ⊢
   omega
 cases l with
 | nil => simp [rgT]
 | cons p r =>
  have hp := h p (by simp)
  have a := itoa_len p.1 hp.1
  have b := itoa_len p.2 hp.2
  have := h2 r fun q hq => h q (by simp [hq])
  simp only [rgT, zaj, zaf] at this ⊢
  omega
def txS (a : AskD) : Bs → Bool → Bs → Nat → Nat → Nat → Option (Bs × Nat × Nat × Nat)
 | [], _, s, n, w, r => some (s, n, w, r)
 | c :: ks, b, s, n, w, r =>
  if wordB a.k c = true then
   if w < a.ws.length ∧ isWB (a.ws.getD w 0) = true then txS a ks false (s ++ ([if b then 63 else 38] ++ ([c, 61] ++ hexN (a.ws.getD w 0) 16))) n (w + 1) r else none
  else if c = 112 then
   if 1 ≤ a.rg.length ∧ a.rg.length ≤ 100 then txS a ks false (s ++ ([if b then 63 else 38] ++ ([c, 61] ++ rgT a.rg))) n w a.rg.length else none
  else if n < a.ns.length then txS a ks false (s ++ ([if b then 63 else 38] ++ ([c, 61] ++ Lib.itoa (a.ns.getD n 0)))) (n + 1) w r else none
def textS (a : AskD) : Bs × Bool :=
 if nmS a.k = [] then ([], false)
 else if a.k = 16 then (if batchE a.os ≠ 0 ∨ a.ns ≠ [] ∨ a.ws ≠ [] ∨ a.rg ≠ [] then ([], false) else (47 :: (nmS 16 ++ 10 :: opsBs a.os), decide ((47 :: (nmS 16 ++ 10 :: opsBs a.os)).length ≤ 10000)))
 else match txS a (keysL.getD (a.k - 1).toNat []) true (47 :: nmS a.k) 0 0 0 with
  | none => ([], false)
  | some (s, n, w, r) => if n ≠ a.ns.length ∨ w ≠ a.ws.length ∨ r ≠ a.rg.length ∨ a.os ≠ [] ∨ 10000 < s.length then ([], false) else (s, true)
structure AskOk (a : AskD) : Prop where
 k : in64 a.k
 ns : ∀ n ∈ a.ns, in64 n
 ws : ∀ w ∈ a.ws, w < 18446744073709551616
 rg : ∀ p ∈ a.rg, in64 p.1 ∧ in64 p.2
 nl : a.ns.length ≤ 1000000
 wl : a.ws.length ≤ 1000000
 rl : a.rg.length ≤ 1000000
 ol : a.os.length ≤ 1000000
set_option maxHeartbeats 4000000 in
theorem rtxt_t (a : AskD) (ha : AskOk a) : Triple P0 15 [.r a.rv] [] (.tup [sV (textS a).1, bl (textS a).2]) [] := by
 obtain ⟨hk, hns, hws, hrg, hnl, hwl, hrl, hol⟩ := ha
 obtain ⟨k, ns, ws, rg, os⟩ := a
 simp only at hk hns hws hrg hnl hwl hrl hol
 obtain ⟨Q, hQ⟩ : ∃ Q, textS ⟨k, ns, ws, rg, os⟩ = Q := ⟨_, rfl⟩
 rw [hQ]
 unfold textS at hQ
 simp only at hQ
 have hrv : AskD.rv ⟨k, ns, ws, rg, os⟩ = .agg [.v (.int .i64 k), .sl 1 (ns.map n8), .sl 1 (ws.map u8R), .sl 2 (rg.map ptR), .sl 5 (os.map opR)] := rfl
 rw [hrv]
 have hmax := maxLen_big
 have be : ∀ l : Bs, ((bstr l).toList == ({ data := #[] } : ByteArray).toList) = decide (l = []) := fun l => by
  rw [bstr_list, show (({ data := #[] } : ByteArray).toList) = [] from by rw [ByteArray.toList_eq]]
  cases l <;> rfl
 have hnmt := rname_t k hk
 have hnml : (nmS k).length ≤ 10 := by
  unfold nmS
  split
  ·have : ∀ i : Fin 16, (namesL.getD i.val []).length ≤ 10 := by decide
   have := this ⟨(k - 1).toNat, by omega⟩
   exact this
  ·simp
 refine apiaryref21_Text_triple rfl (by decide) ?_
 simp only [apiaryref21_Text_pc, push_cast, ↓reduceIte, reduceCtorEq, zB, zE, zA, zS, zL, zD, zM]
 refine call_mk hnmt rfl trivial ?_
 simp only [be, push_cast, ↓reduceIte, reduceCtorEq, zB, zE, zA, zS, zL, zD, zM]
 refine cnd_mk (fun h0 => ?_) (fun h0 => ?_)
 ·have h0 := of_decide_eq_true h0
  rw [if_pos h0] at hQ
  subst hQ
  simp only [push_cast, ↓reduceIte, reduceCtorEq, zB, zE, zA, zS, zL, zD, zM]
  rfl
 ·have h0 := of_decide_eq_false h0
  rw [if_neg h0] at hQ
  have hk1 : 1 ≤ k ∧ k ≤ 16 := by
   unfold nmS at h0
   split at h0
   ·assumption
   ·exact absurd rfl h0
  have l47 : ({ data := #[47] } : ByteArray) = bstr [47] := rfl
  simp only [push_cast, ↓reduceIte, reduceCtorEq, zB, zE, zA, zS, zL, zD, zM]
  refine call_mk hnmt rfl trivial ?_
  obtain ⟨NM, hNM⟩ : ∃ x, nmS k = x := ⟨_, rfl⟩
  simp only [hNM] at hnml hQ h0 ⊢
  simp only [l47, bstr_app, bstr_size, push_cast, ↓reduceIte, reduceCtorEq, zB, zE, zA, zS, zL, zD, zM]
  repeat refine And.intro (by first | omega | (simp; omega)) ?_
  refine cnd_mk (fun h16 => ?_) (fun h16 => ?_)
  ·have h16 : k = 16 := by simpa using h16
   subst h16
   rw [if_pos rfl] at hQ
   have hN16 : nmS 16 = NM := hNM
   rw [hN16] at hQ
   have hmt := may_t os (by omega)
   have ne : ∀ {α : Type} (l : List α), decide (((l.length : Nat) : Int) > 0) = !decide (l = []) := fun l => by
    cases l with
    | nil => rfl
    | cons x l => simp
   have en := ne ns
   have ew := ne ws
   have er := ne rg
   have e0 : (batchE os != 0) = !decide (batchE os = 0) := by rw [bne]; rfl
   obtain ⟨B0, hB0⟩ : ∃ B, decide (batchE os = 0) = B := ⟨_, rfl⟩
   obtain ⟨B1, hB1⟩ : ∃ B, decide (ns = []) = B := ⟨_, rfl⟩
   obtain ⟨B2, hB2⟩ : ∃ B, decide (ws = []) = B := ⟨_, rfl⟩
   obtain ⟨B3, hB3⟩ : ∃ B, decide (rg = []) = B := ⟨_, rfl⟩
   rw [hB0] at e0
   rw [hB1] at en
   rw [hB2] at ew
   rw [hB3] at er
   have fail : (B0 && (B1 && (B2 && B3))) = false → Q = ([], false) := fun h => by
    rw [← hQ, if_pos]
    cases B0
    ·exact .inl (of_decide_eq_false hB0)
    ·cases B1
     ·exact .inr (.inl (of_decide_eq_false hB1))
     ·cases B2
      ·exact .inr (.inr (.inl (of_decide_eq_false hB2)))
      ·cases B3
       ·exact .inr (.inr (.inr (of_decide_eq_false hB3)))
       ·cases h
   simp only [push_cast, ↓reduceIte, reduceCtorEq, zB, zE, zA, zS, zL, zD, zM]
   refine call_as (as' := [.r (.sl 5 (os.map opR))]) rfl ?_
   refine call_mk hmt rfl trivial ?_
   cases B0 with
   | false =>
    rw [fail rfl]
    simp only [e0, push_cast, ↓reduceIte, reduceCtorEq, zB, zE, zA, zS, zL, zD, zM]
    rfl
   | true =>
    cases B1 with
    | false =>
     rw [fail rfl]
     simp only [e0, en, push_cast, ↓reduceIte, reduceCtorEq, zB, zE, zA, zS, zL, zD, zM]
     rfl
    | true =>
     cases B2 with
     | false =>
      rw [fail rfl]
      simp only [e0, en, ew, push_cast, ↓reduceIte, reduceCtorEq, zB, zE, zA, zS, zL, zD, zM]
      rfl
     | true =>
      cases B3 with
      | false =>
       rw [fail rfl]
       simp only [e0, en, ew, er, push_cast, ↓reduceIte, reduceCtorEq, zB, zE, zA, zS, zL, zD, zM]
       rfl
      | true =>
       have hgood : ¬ (batchE os ≠ 0 ∨ ns ≠ [] ∨ ws ≠ [] ∨ rg ≠ []) := by
        rintro (h | h | h | h)
        ·exact h (of_decide_eq_true hB0)
        ·exact h (of_decide_eq_true hB1)
        ·exact h (of_decide_eq_true hB2)
        ·exact h (of_decide_eq_true hB3)
       rw [if_neg hgood] at hQ
       subst hQ
       have hall : ∀ o ∈ os, o.k = 1 ∨ o.k = 2 := fun o ho => by
        have h := of_decide_eq_true hB0
        unfold batchE at h
        split at h
        ·cases h
        ·split at h
         ·cases h
         ·rename_i h2
          have : opB o = true := by
           cases hb : opB o with
           | true => rfl
           | false => exact absurd (Or.inr (by rw [List.all_eq_false]; exact ⟨o, ho, by rw [hb]; decide⟩)) h2
          unfold opB at this
          split at this
          ·exact .inl (by assumption)
          ·split at this
           ·exact .inr (by assumption)
           ·cases this
       have hob := opsBs_len os
       have l10 : ({ data := #[10] } : ByteArray) = bstr [10] := rfl
       simp only [e0, en, ew, er, l10, bstr_app, bstr_size, push_cast, ↓reduceIte, reduceCtorEq, zB, zE, zA, zS, zL, zD, zM]
       repeat refine And.intro (by first | omega | (simp; omega)) ?_
       refine call_as (as' := [.r (.sl 5 (os.map opR))]) rfl ?_
       refine call_mk (rbatch_t os (by omega) hall) rfl trivial ?_
       simp only [e0, en, ew, er, l10, bstr_app, bstr_size, zam, push_cast, ↓reduceIte, reduceCtorEq, zB, zE, zA, zS, zL, zD, zM]
       repeat refine And.intro (by first | omega | (simp; omega)) ?_
       rw [show decide (((NM.length : Nat) : Int) + (((opsBs os).length : Nat) + 1) + 1 ≤ 10000) = decide (NM.length + ((opsBs os).length + 1) ≤ 9999) from by rw [zah, decide_eq_true_eq, decide_eq_true_eq]; omega]
  ·have h16 : k ≠ 16 := by simpa using h16
   rw [if_neg h16] at hQ
   obtain ⟨K, hK⟩ : ∃ K : Nat, k = (K : Int) + 1 := ⟨(k - 1).toNat, by omega⟩
   have hK15 : K < 15 := by omega
   have wk : IntKind.i64.wrap (k - 1) = (K : Int) := by rw [wrap_id (by omega)]; omega
   have hks5 : ∀ i : Fin 16, (keysL.getD i.val []).length ≤ 5 := by decide
   have hks5 := hks5 ⟨K, by omega⟩
   simp only at hks5
   have hgk : ∀ z, (strs keysL).getD K z = .v (.string (bstr (keysL.getD K []))) := fun z => by
    have hK : K < keysL.length := by show K < 16; omega
    rw [zae, zae]
    simp [hK, strR]
   rw [show (k - 1).toNat = K by omega] at hQ
   obtain ⟨ks, hks⟩ : ∃ ks, keysL.getD K [] = ks := ⟨_, rfl⟩
   simp only [hks] at hQ hks5 hgk
   obtain ⟨R, hR⟩ : ∃ R, txS ⟨k, ns, ws, rg, os⟩ ks true (47 :: NM) 0 0 0 = R := ⟨_, rfl⟩
   simp only [hR] at hQ
   have hKL : (strs keysL).length = 16 := rfl
   simp only [push_cast, ↓reduceIte, reduceCtorEq, zB, zE, zA, zS, zL, zD, zM]
   refine call_mk names_t rfl trivial ?_
   simp only [wk, hgk, hKL, zaa, zab, zac, push_cast, ↓reduceIte, reduceCtorEq, zB, zE, zA, zS, zL, zD, zM]
   refine ⟨by omega, ?_⟩
   refine run_loop [(1, false), (4, false), (7, false), (8, false), (9, false), (10, false), (11, false)] (fun vs pos los => ∃ (i n w r : Nat) (s : Bs), i ≤ ks.length ∧ n ≤ i ∧ w ≤ i ∧ r ≤ 1000000 ∧ s.length ≤ 11 + 5000 * i ∧ txS ⟨k, ns, ws, rg, os⟩ (ks.drop i) (decide (i = 0)) s n w r = R ∧
     vs = [.ptr 2000000 0 0, sV s, sV ks, int .i64 n, int .i64 w, int .i64 r, int .i64 i] ∧ pos = [] ∧ los = [.box [int .i64 k, .r (.sl 1 (ns.map n8)), .r (.sl 1 (ws.map u8R)), .r (.sl 2 (rg.map ptR)), .r (.sl 5 (os.map opR))]])
    (fun vs _ _ => match vs with | [_, _, _, _, _, _, .r (.v (.int _ j))] => (ks.length - j).toNat | _ => 0) rfl ?_ ?_
   ·simp only [push_cast, ↓reduceIte, reduceCtorEq, zB, zE, zA, zS, zL, zD, zM]
    exact ⟨0, 0, 0, 0, 47 :: NM, by omega, by omega, by omega, by omega, by simp; omega, hR, rfl⟩
   ·rintro vs pos los ⟨i, n, w, r, s, i0, hni, hwi, hr, hsl, htx, rfl, rfl, rfl⟩
    by_cases hi : i < ks.length
    ·obtain ⟨c, hc⟩ : ∃ c, ks[i] = c := ⟨_, rfl⟩
     have hd : ks.drop i = c :: ks.drop (i + 1) := by rw [zak hi, hc]
     have hgc : ks.getD i 0 = c := by simp [List.getD, hi, hc]
     have gi : decide (((i : Nat) : Int) < ((ks.length : Nat) : Int)) = true := decide_eq_true (by omega)
     have w1 : IntKind.i64.wrap ((i : Int) + 1) = (i : Int) + 1 := wrap_id (by omega)
     have ti : (((i : Nat) : Int) + 1).toNat = i + 1 := by omega
     have ec : (bstr ks).extract i (i + 1) = bstr [c] := by
      rw [bstr_sub _ _ _ (by omega), List.drop_take, zak hi, hc, show i + 1 - i = 1 by omega]
      rfl
     have l63 : ({ data := #[63] } : ByteArray) = bstr [63] := rfl
     have l38 : ({ data := #[38] } : ByteArray) = bstr [38] := rfl
     have l61 : ({ data := #[61] } : ByteArray) = bstr [61] := rfl
     rw [hd, txS] at htx
     have hnx : decide (i + 1 = 0) = false := decide_eq_false (by omega)
     have hw := qword_t k c
     obtain ⟨W, hW⟩ : ∃ W, wordB k c = W := ⟨_, rfl⟩
     simp only [hW] at hw htx
     obtain ⟨C, hC⟩ : ∃ C : Int, ((c.toNat : Nat) : Int) = C := ⟨_, rfl⟩
     rw [hC] at hw
     obtain ⟨S, hS⟩ : ∃ S : Bs, s ++ ([if decide (i = 0) = true then 63 else 38] ++ [c, 61]) = S := ⟨_, rfl⟩
     have hSl : S.length = s.length + 3 := by rw [← hS]; simp
     have hSa : ∀ X : Bs, s ++ ([if decide (i = 0) = true then 63 else 38] ++ ([c, 61] ++ X)) = S ++ X := fun X => by rw [← hS]; simp
     simp only [hSa] at htx
     obtain ⟨sg, b0, eS, hsg⟩ : ∃ sg : Bool, ((((i : Nat) : Int) == 0) = sg) ∧ (((s ++ [if sg = true then (63 : UInt8) else 38]) ++ [c]) ++ [61] = S) ∧ True := by
      refine ⟨decide (i = 0), ?_, ?_, trivial⟩
      ·rw [zah]
       simp
      ·rw [← hS]
       simp
     have eS63 : sg = true → ((s ++ [63]) ++ [c]) ++ [61] = S := fun h => by rw [← eS, h]; rfl
     have eS38 : sg = false → ((s ++ [38]) ++ [c]) ++ [61] = S := fun h => by rw [← eS, h]; rfl
     clear eS
     have cont : ∀ eS : True, True := fun _ => trivial
     cases W with
     | true =>
      simp only [↓reduceIte] at htx
      have isw : w < ws.length → Triple P0 34 [uw (ws.getD w 0)] [] (bl (isWB (ws.getD w 0))) [] := fun h => risword_t _ (hws _ (by rw [zae, zav h]; exact zai h))
      have hgw : ∀ z, w < ws.length → (ws.map u8R).getD w z = .v (.int .u64 (ws.getD w 0)) := fun z h => by
       rw [zae, zae]
       simp [h, u8R]
      have hhx : w < ws.length → Triple P0 14 [uw (ws.getD w 0)] [] (sV (hexN (ws.getD w 0) 16)) [] := fun h => hex16_t _ (hws _ (by rw [zae, zav h]; exact zai h))
      cases sg with
      | true =>
       have eS := eS63 rfl
       simp only [gi, hgc, w1, ti, ec, eS, b0, l63, l38, l61, hC, bstr_app, bstr_size, bstr_data, zaa, zab, zac, push_cast, ↓reduceIte, reduceCtorEq, zB, zE, zA, zS, zL, zD, zM]
       repeat refine And.intro (by first | omega | (simp; done) | (simp; omega) | kernel_rfl) ?_
       refine dcall_mk hw rfl trivial ?_
       simp only [gi, hgc, w1, ti, ec, eS, b0, l63, l38, l61, hC, bstr_app, bstr_size, bstr_data, zaa, zab, zac, push_cast, ↓reduceIte, reduceCtorEq, zB, zE, zA, zS, zL, zD, zM]
       repeat refine And.intro (by first | omega | (simp; done) | (simp; omega) | kernel_rfl) ?_
       by_cases hwn : w < ws.length
       ·have gw : decide (((w : Nat) : Int) ≥ ((ws.length : Nat) : Int)) = false := decide_eq_false (by omega)
        have isw := isw hwn
        have hhx := hhx hwn
        have hgw := fun z => hgw z hwn
        obtain ⟨V, hV⟩ : ∃ V, ws.getD w 0 = V := ⟨_, rfl⟩
        simp only [hV] at isw hhx hgw htx
        simp only [gw, hgw, gi, hgc, w1, ti, ec, eS, b0, l63, l38, l61, hC, bstr_app, bstr_size, bstr_data, zaa, zab, zac, push_cast, ↓reduceIte, reduceCtorEq, zB, zE, zA, zS, zL, zD, zM]
        repeat refine And.intro (by first | omega | (simp; done) | (simp; omega) | kernel_rfl) ?_
        refine call_mk isw rfl trivial ?_
        cases hb : isWB V with
        | false =>
         rw [if_neg (fun h => by rw [hb] at h; cases h.2)] at htx
         subst htx
         simp only at hQ
         subst hQ
         simp only [push_cast, ↓reduceIte, reduceCtorEq, zB, zE, zA, zS, zL, zD, zM]
         rfl
        | true =>
         rw [if_pos ⟨hwn, hb⟩] at htx
         have hxl : (hexN V 16).length = 16 := hexN_len V 16
         have wn : IntKind.i64.wrap ((w : Int) + 1) = (w : Int) + 1 := wrap_id (by omega)
         simp only [gw, hgw, gi, hgc, w1, ti, ec, eS, b0, l63, l38, l61, hC, bstr_app, bstr_size, bstr_data, zaa, zab, zac, push_cast, ↓reduceIte, reduceCtorEq, zB, zE, zA, zS, zL, zD, zM]
         repeat refine And.intro (by first | omega | (simp; done) | (simp; omega) | kernel_rfl) ?_
         refine call_mk hhx rfl trivial ?_
         simp only [gw, hgw, wn, hxl, gi, hgc, w1, ti, ec, eS, b0, l63, l38, l61, hC, bstr_app, bstr_size, bstr_data, zaa, zab, zac, push_cast, ↓reduceIte, reduceCtorEq, zB, zE, zA, zS, zL, zD, zM]
         repeat refine And.intro (by first | omega | (simp; done) | (simp; omega) | kernel_rfl) ?_
         refine ⟨⟨i + 1, n, w + 1, r, _, by omega, by omega, by omega, by omega, ?_, by rw [hnx]; exact htx, by simp⟩, by omega⟩
         simp only [zaj, hxl]
         omega
       ·have gw : decide (((w : Nat) : Int) ≥ ((ws.length : Nat) : Int)) = true := decide_eq_true (by omega)
        rw [if_neg (fun h => hwn h.1)] at htx
        subst htx
        simp only at hQ
        subst hQ
        simp only [gw, gi, hgc, w1, ti, ec, eS, b0, l63, l38, l61, hC, bstr_app, bstr_size, bstr_data, zaa, zab, zac, push_cast, ↓reduceIte, reduceCtorEq, zB, zE, zA, zS, zL, zD, zM]
        rfl
      | false =>
       have eS := eS38 rfl
       simp only [gi, hgc, w1, ti, ec, eS, b0, l63, l38, l61, hC, bstr_app, bstr_size, bstr_data, zaa, zab, zac, push_cast, ↓reduceIte, reduceCtorEq, zB, zE, zA, zS, zL, zD, zM]
       repeat refine And.intro (by first | omega | (simp; done) | (simp; omega) | kernel_rfl) ?_
       refine dcall_mk hw rfl trivial ?_
       simp only [gi, hgc, w1, ti, ec, eS, b0, l63, l38, l61, hC, bstr_app, bstr_size, bstr_data, zaa, zab, zac, push_cast, ↓reduceIte, reduceCtorEq, zB, zE, zA, zS, zL, zD, zM]
       repeat refine And.intro (by first | omega | (simp; done) | (simp; omega) | kernel_rfl) ?_
       by_cases hwn : w < ws.length
       ·have gw : decide (((w : Nat) : Int) ≥ ((ws.length : Nat) : Int)) = false := decide_eq_false (by omega)
        have isw := isw hwn
        have hhx := hhx hwn
        have hgw := fun z => hgw z hwn
        obtain ⟨V, hV⟩ : ∃ V, ws.getD w 0 = V := ⟨_, rfl⟩
        simp only [hV] at isw hhx hgw htx
        simp only [gw, hgw, gi, hgc, w1, ti, ec, eS, b0, l63, l38, l61, hC, bstr_app, bstr_size, bstr_data, zaa, zab, zac, push_cast, ↓reduceIte, reduceCtorEq, zB, zE, zA, zS, zL, zD, zM]
        repeat refine And.intro (by first | omega | (simp; done) | (simp; omega) | kernel_rfl) ?_
        refine call_mk isw rfl trivial ?_
        cases hb : isWB V with
        | false =>
         rw [if_neg (fun h => by rw [hb] at h; cases h.2)] at htx
         subst htx
         simp only at hQ
         subst hQ
         simp only [push_cast, ↓reduceIte, reduceCtorEq, zB, zE, zA, zS, zL, zD, zM]
         rfl
        | true =>
         rw [if_pos ⟨hwn, hb⟩] at htx
         have hxl : (hexN V 16).length = 16 := hexN_len V 16
         have wn : IntKind.i64.wrap ((w : Int) + 1) = (w : Int) + 1 := wrap_id (by omega)
         simp only [gw, hgw, gi, hgc, w1, ti, ec, eS, b0, l63, l38, l61, hC, bstr_app, bstr_size, bstr_data, zaa, zab, zac, push_cast, ↓reduceIte, reduceCtorEq, zB, zE, zA, zS, zL, zD, zM]
         repeat refine And.intro (by first | omega | (simp; done) | (simp; omega) | kernel_rfl) ?_
         refine call_mk hhx rfl trivial ?_
         simp only [gw, hgw, wn, hxl, gi, hgc, w1, ti, ec, eS, b0, l63, l38, l61, hC, bstr_app, bstr_size, bstr_data, zaa, zab, zac, push_cast, ↓reduceIte, reduceCtorEq, zB, zE, zA, zS, zL, zD, zM]
         repeat refine And.intro (by first | omega | (simp; done) | (simp; omega) | kernel_rfl) ?_
         refine ⟨⟨i + 1, n, w + 1, r, _, by omega, by omega, by omega, by omega, ?_, by rw [hnx]; exact htx, by simp⟩, by omega⟩
         simp only [zaj, hxl]
         omega
       ·have gw : decide (((w : Nat) : Int) ≥ ((ws.length : Nat) : Int)) = true := decide_eq_true (by omega)
        rw [if_neg (fun h => hwn h.1)] at htx
        subst htx
        simp only at hQ
        subst hQ
        simp only [gw, gi, hgc, w1, ti, ec, eS, b0, l63, l38, l61, hC, bstr_app, bstr_size, bstr_data, zaa, zab, zac, push_cast, ↓reduceIte, reduceCtorEq, zB, zE, zA, zS, zL, zD, zM]
        rfl
     | false =>
      simp only [zar, ↓reduceIte] at htx
      cases sg with
      | true =>
       have eS := eS63 rfl
       simp only [gi, hgc, w1, ti, ec, eS, b0, l63, l38, l61, hC, bstr_app, bstr_size, bstr_data, zaa, zab, zac, push_cast, ↓reduceIte, reduceCtorEq, zB, zE, zA, zS, zL, zD, zM]
       repeat refine And.intro (by first | omega | (simp; done) | (simp; omega) | kernel_rfl) ?_
       refine dcall_mk hw rfl trivial ?_
       simp only [gi, hgc, w1, ti, ec, eS, b0, l63, l38, l61, hC, bstr_app, bstr_size, bstr_data, zaa, zab, zac, push_cast, ↓reduceIte, reduceCtorEq, zB, zE, zA, zS, zL, zD, zM]
       repeat refine And.intro (by first | omega | (simp; done) | (simp; omega) | kernel_rfl) ?_
       by_cases h112 : c = 112
       ·have g112 : (C == 112) = true := by
         rw [← hC, h112]
         rfl
        rw [if_pos h112] at htx
        have g1 : decide (((rg.length : Nat) : Int) < 1) = decide (rg.length < 1) := by rw [zah, decide_eq_true_eq, decide_eq_true_eq]; omega
        have g2 : decide (((rg.length : Nat) : Int) > 100) = decide (rg.length > 100) := by rw [zah, decide_eq_true_eq, decide_eq_true_eq]; omega
        by_cases hok : 1 ≤ rg.length ∧ rg.length ≤ 100
        ·rw [if_pos hok] at htx
         have g1' : decide (rg.length < 1) = false := decide_eq_false (by omega)
         have g2' : decide (rg.length > 100) = false := decide_eq_false (by omega)
         simp only [g112, g1, g2, g1', g2', gi, hgc, w1, ti, ec, eS, b0, l63, l38, l61, hC, bstr_app, bstr_size, bstr_data, zaa, zab, zac, push_cast, ↓reduceIte, reduceCtorEq, zB, zE, zA, zS, zL, zD, zM]
         repeat refine And.intro (by first | omega | (simp; done) | (simp; omega) | kernel_rfl) ?_
         refine run_loop [(1, false), (4, false), (7, false), (8, false), (9, false), (10, false), (11, false), (12, false)] (fun vs pos los => ∃ j : Nat, j ≤ rg.length ∧
           vs = [.ptr 2000000 0 0, sV (S ++ rgT (rg.take j)), sV ks, int .i64 n, int .i64 w, int .i64 rg.length, int .i64 i, int .i64 j] ∧ pos = [] ∧ los = [.box [int .i64 k, .r (.sl 1 (ns.map n8)), .r (.sl 1 (ws.map u8R)), .r (.sl 2 (rg.map ptR)), .r (.sl 5 (os.map opR))]])
          (fun vs _ _ => match vs with | [_, _, _, _, _, _, _, .r (.v (.int _ j))] => (rg.length - j).toNat | _ => 0) rfl ?_ ?_
         ·simp only [push_cast, ↓reduceIte, reduceCtorEq, zB, zE, zA, zS, zL, zD, zM]
          exact ⟨0, by omega, by simp [rgT]⟩
         ·rintro vs pos los ⟨j, j0, rfl, rfl, rfl⟩
          by_cases hj : j < rg.length
          ·obtain ⟨⟨x, y⟩, hxy⟩ : ∃ p, rg[j] = p := ⟨_, rfl⟩
           have h64 := hrg _ (zai hj)
           rw [hxy] at h64
           simp only at h64
           have gj : decide (((j : Nat) : Int) < ((rg.length : Nat) : Int)) = true := decide_eq_true (by omega)
           have wj : IntKind.i64.wrap ((j : Int) + 1) = (j : Int) + 1 := wrap_id (by omega)
           have hgr : ∀ z, (rg.map ptR).getD j z = .agg [.v (.int .i64 x), .v (.int .i64 y)] := fun z => by
            rw [zae]
            simp [hj, hxy, ptR]
           have hxt := rtext_t x h64.1
           have hyt := rtext_t y h64.2
           rw [txt_eq] at hxt hyt
           have hxl := itoa_len x h64.1
           have hyl := itoa_len y h64.2
           have hTl := rgT_len (rg.take j) (fun p hp => hrg p (List.mem_of_mem_take hp))
           rw [zaq] at hTl
           have hnxt : S ++ rgT (rg.take (j + 1)) = S ++ rgT (rg.take j) ++ ((if rg.take j = [] then [] else [44]) ++ (Lib.itoa x ++ (44 :: Lib.itoa y))) := by
            rw [zas hj, hxy, rgT_app, zam]
           obtain ⟨T, hT⟩ : ∃ T, S ++ rgT (rg.take j) = T := ⟨_, rfl⟩
           have hTl2 : T.length ≤ 30000 := by rw [← hT, zaj]; omega
           rw [hT] at hnxt ⊢
           have l44 : ({ data := #[44] } : ByteArray) = bstr [44] := rfl
           have z1 : zad 1 = 1 := rfl
           have z0 : zad 0 = 0 := rfl
           by_cases hj0 : j = 0
           ·have gj0 : decide (((j : Nat) : Int) > 0) = false := decide_eq_false (by omega)
            rw [if_pos (by rw [hj0]; rfl), List.nil_append] at hnxt
            have eT : ((T ++ Lib.itoa x) ++ [44]) ++ Lib.itoa y = S ++ rgT (rg.take (j + 1)) := by rw [hnxt]; simp
            simp only [gj, gj0, hgr, wj, l44, z0, z1, gi, hgc, w1, ti, ec, eS, b0, l63, l38, l61, hC, bstr_app, bstr_size, bstr_data, zaa, zab, zac, push_cast, ↓reduceIte, reduceCtorEq, zB, zE, zA, zS, zL, zD, zM]
            repeat refine And.intro (by first | omega | (simp; done) | (simp; omega) | kernel_rfl) ?_
            refine dcall_mk hxt rfl trivial ?_
            simp only [gj, gj0, hgr, wj, l44, z0, z1, gi, hgc, w1, ti, ec, eS, b0, l63, l38, l61, hC, bstr_app, bstr_size, bstr_data, zaa, zab, zac, push_cast, ↓reduceIte, reduceCtorEq, zB, zE, zA, zS, zL, zD, zM]
            repeat refine And.intro (by first | omega | (simp; done) | (simp; omega) | kernel_rfl) ?_
            refine dcall_mk hyt rfl trivial ?_
            simp only [gj, gj0, hgr, wj, l44, z0, z1, eT, gi, hgc, w1, ti, ec, eS, b0, l63, l38, l61, hC, bstr_app, bstr_size, bstr_data, zaa, zab, zac, push_cast, ↓reduceIte, reduceCtorEq, zB, zE, zA, zS, zL, zD, zM]
            repeat refine And.intro (by first | omega | (simp; done) | (simp; omega) | kernel_rfl) ?_
            exact ⟨⟨j + 1, by omega, by simp⟩, by omega⟩
           ·have gj0 : decide (((j : Nat) : Int) > 0) = true := decide_eq_true (by omega)
            rw [if_neg (by
             intro h
             have := congrArg List.length h
             rw [zaq, zag] at this
             omega)] at hnxt
            have eT : (((T ++ [44]) ++ Lib.itoa x) ++ [44]) ++ Lib.itoa y = S ++ rgT (rg.take (j + 1)) := by rw [hnxt]; simp
            simp only [gj, gj0, hgr, wj, l44, z0, z1, gi, hgc, w1, ti, ec, eS, b0, l63, l38, l61, hC, bstr_app, bstr_size, bstr_data, zaa, zab, zac, push_cast, ↓reduceIte, reduceCtorEq, zB, zE, zA, zS, zL, zD, zM]
            repeat refine And.intro (by first | omega | (simp; done) | (simp; omega) | kernel_rfl) ?_
            refine dcall_mk hxt rfl trivial ?_
            simp only [gj, gj0, hgr, wj, l44, z0, z1, gi, hgc, w1, ti, ec, eS, b0, l63, l38, l61, hC, bstr_app, bstr_size, bstr_data, zaa, zab, zac, push_cast, ↓reduceIte, reduceCtorEq, zB, zE, zA, zS, zL, zD, zM]
            repeat refine And.intro (by first | omega | (simp; done) | (simp; omega) | kernel_rfl) ?_
            refine dcall_mk hyt rfl trivial ?_
            simp only [gj, gj0, hgr, wj, l44, z0, z1, eT, gi, hgc, w1, ti, ec, eS, b0, l63, l38, l61, hC, bstr_app, bstr_size, bstr_data, zaa, zab, zac, push_cast, ↓reduceIte, reduceCtorEq, zB, zE, zA, zS, zL, zD, zM]
            repeat refine And.intro (by first | omega | (simp; done) | (simp; omega) | kernel_rfl) ?_
            exact ⟨⟨j + 1, by omega, by simp⟩, by omega⟩
          ·have hj : j = rg.length := by omega
           subst hj
           have gj : decide (((rg.length : Nat) : Int) < ((rg.length : Nat) : Int)) = false := decide_eq_false (by omega)
           rw [List.take_length]
           have hTl := rgT_len rg hrg
           simp only [gj, w1, bstr_app, bstr_size, bstr_data, zaa, zab, zac, push_cast, ↓reduceIte, reduceCtorEq, zB, zE, zA, zS, zL, zD, zM]
           refine ⟨⟨i + 1, n, w, rg.length, _, by omega, by omega, by omega, by omega, ?_, by rw [hnx]; exact htx, by simp⟩, by omega⟩
           simp only [zaj]
           omega
        ·rw [if_neg hok] at htx
         subst htx
         simp only at hQ
         subst hQ
         by_cases h1 : rg.length < 1
         ·have g1' : decide (rg.length < 1) = true := decide_eq_true h1
          simp only [g112, g1, g2, g1', gi, hgc, w1, ti, ec, eS, b0, l63, l38, l61, hC, bstr_app, bstr_size, bstr_data, zaa, zab, zac, push_cast, ↓reduceIte, reduceCtorEq, zB, zE, zA, zS, zL, zD, zM]
          rfl
         ·have g1' : decide (rg.length < 1) = false := decide_eq_false h1
          have g2' : decide (rg.length > 100) = true := decide_eq_true (by omega)
          simp only [g112, g1, g2, g1', g2', gi, hgc, w1, ti, ec, eS, b0, l63, l38, l61, hC, bstr_app, bstr_size, bstr_data, zaa, zab, zac, push_cast, ↓reduceIte, reduceCtorEq, zB, zE, zA, zS, zL, zD, zM]
          rfl
       ·rw [if_neg h112] at htx
        have g112 : (C == 112) = false := by
         rw [beq_eq_false_iff_ne]
         intro h
         apply h112
         apply zal.1
         have : (112 : UInt8).toNat = 112 := rfl
         omega
        by_cases hnn : n < ns.length
        ·have gn : decide (((n : Nat) : Int) ≥ ((ns.length : Nat) : Int)) = false := decide_eq_false (by omega)
         rw [if_pos hnn] at htx
         have hgn : ∀ z, (ns.map n8).getD n z = .v (.int .i64 (ns.getD n 0)) := fun z => by
          rw [zae, zae]
          simp [hnn, n8]
         have hN64 : in64 (ns.getD n 0) := by
          rw [zae, zav hnn]
          exact hns _ (zai hnn)
         obtain ⟨V, hV⟩ : ∃ V, ns.getD n 0 = V := ⟨_, rfl⟩
         simp only [hV] at hN64 hgn htx
         have hrt := rtext_t V hN64
         rw [txt_eq] at hrt
         have hil := itoa_len V hN64
         have wn : IntKind.i64.wrap ((n : Int) + 1) = (n : Int) + 1 := wrap_id (by omega)
         simp only [g112, gn, hgn, gi, hgc, w1, ti, ec, eS, b0, l63, l38, l61, hC, bstr_app, bstr_size, bstr_data, zaa, zab, zac, push_cast, ↓reduceIte, reduceCtorEq, zB, zE, zA, zS, zL, zD, zM]
         repeat refine And.intro (by first | omega | (simp; done) | (simp; omega) | kernel_rfl) ?_
         refine call_mk hrt rfl trivial ?_
         simp only [g112, gn, hgn, wn, gi, hgc, w1, ti, ec, eS, b0, l63, l38, l61, hC, bstr_app, bstr_size, bstr_data, zaa, zab, zac, push_cast, ↓reduceIte, reduceCtorEq, zB, zE, zA, zS, zL, zD, zM]
         repeat refine And.intro (by first | omega | (simp; done) | (simp; omega) | kernel_rfl) ?_
         refine ⟨⟨i + 1, n + 1, w, r, _, by omega, by omega, by omega, by omega, ?_, by rw [hnx]; exact htx, by simp⟩, by omega⟩
         simp only [zaj]
         omega
        ·have gn : decide (((n : Nat) : Int) ≥ ((ns.length : Nat) : Int)) = true := decide_eq_true (by omega)
         rw [if_neg hnn] at htx
         subst htx
         simp only at hQ
         subst hQ
         simp only [g112, gn, gi, hgc, w1, ti, ec, eS, b0, l63, l38, l61, hC, bstr_app, bstr_size, bstr_data, zaa, zab, zac, push_cast, ↓reduceIte, reduceCtorEq, zB, zE, zA, zS, zL, zD, zM]
         rfl
      | false =>
       have eS := eS38 rfl
       simp only [gi, hgc, w1, ti, ec, eS, b0, l63, l38, l61, hC, bstr_app, bstr_size, bstr_data, zaa, zab, zac, push_cast, ↓reduceIte, reduceCtorEq, zB, zE, zA, zS, zL, zD, zM]
       repeat refine And.intro (by first | omega | (simp; done) | (simp; omega) | kernel_rfl) ?_
       refine dcall_mk hw rfl trivial ?_
       simp only [gi, hgc, w1, ti, ec, eS, b0, l63, l38, l61, hC, bstr_app, bstr_size, bstr_data, zaa, zab, zac, push_cast, ↓reduceIte, reduceCtorEq, zB, zE, zA, zS, zL, zD, zM]
       repeat refine And.intro (by first | omega | (simp; done) | (simp; omega) | kernel_rfl) ?_
       by_cases h112 : c = 112
       ·have g112 : (C == 112) = true := by
         rw [← hC, h112]
         rfl
        rw [if_pos h112] at htx
        have g1 : decide (((rg.length : Nat) : Int) < 1) = decide (rg.length < 1) := by rw [zah, decide_eq_true_eq, decide_eq_true_eq]; omega
        have g2 : decide (((rg.length : Nat) : Int) > 100) = decide (rg.length > 100) := by rw [zah, decide_eq_true_eq, decide_eq_true_eq]; omega
        by_cases hok : 1 ≤ rg.length ∧ rg.length ≤ 100
        ·rw [if_pos hok] at htx
         have g1' : decide (rg.length < 1) = false := decide_eq_false (by omega)
         have g2' : decide (rg.length > 100) = false := decide_eq_false (by omega)
         simp only [g112, g1, g2, g1', g2', gi, hgc, w1, ti, ec, eS, b0, l63, l38, l61, hC, bstr_app, bstr_size, bstr_data, zaa, zab, zac, push_cast, ↓reduceIte, reduceCtorEq, zB, zE, zA, zS, zL, zD, zM]
         repeat refine And.intro (by first | omega | (simp; done) | (simp; omega) | kernel_rfl) ?_
         refine run_loop [(1, false), (4, false), (7, false), (8, false), (9, false), (10, false), (11, false), (12, false)] (fun vs pos los => ∃ j : Nat, j ≤ rg.length ∧
           vs = [.ptr 2000000 0 0, sV (S ++ rgT (rg.take j)), sV ks, int .i64 n, int .i64 w, int .i64 rg.length, int .i64 i, int .i64 j] ∧ pos = [] ∧ los = [.box [int .i64 k, .r (.sl 1 (ns.map n8)), .r (.sl 1 (ws.map u8R)), .r (.sl 2 (rg.map ptR)), .r (.sl 5 (os.map opR))]])
          (fun vs _ _ => match vs with | [_, _, _, _, _, _, _, .r (.v (.int _ j))] => (rg.length - j).toNat | _ => 0) rfl ?_ ?_
         ·simp only [push_cast, ↓reduceIte, reduceCtorEq, zB, zE, zA, zS, zL, zD, zM]
          exact ⟨0, by omega, by simp [rgT]⟩
         ·rintro vs pos los ⟨j, j0, rfl, rfl, rfl⟩
          by_cases hj : j < rg.length
          ·obtain ⟨⟨x, y⟩, hxy⟩ : ∃ p, rg[j] = p := ⟨_, rfl⟩
           have h64 := hrg _ (zai hj)
           rw [hxy] at h64
           simp only at h64
           have gj : decide (((j : Nat) : Int) < ((rg.length : Nat) : Int)) = true := decide_eq_true (by omega)
           have wj : IntKind.i64.wrap ((j : Int) + 1) = (j : Int) + 1 := wrap_id (by omega)
           have hgr : ∀ z, (rg.map ptR).getD j z = .agg [.v (.int .i64 x), .v (.int .i64 y)] := fun z => by
            rw [zae]
            simp [hj, hxy, ptR]
           have hxt := rtext_t x h64.1
           have hyt := rtext_t y h64.2
           rw [txt_eq] at hxt hyt
           have hxl := itoa_len x h64.1
           have hyl := itoa_len y h64.2
           have hTl := rgT_len (rg.take j) (fun p hp => hrg p (List.mem_of_mem_take hp))
           rw [zaq] at hTl
           have hnxt : S ++ rgT (rg.take (j + 1)) = S ++ rgT (rg.take j) ++ ((if rg.take j = [] then [] else [44]) ++ (Lib.itoa x ++ (44 :: Lib.itoa y))) := by
            rw [zas hj, hxy, rgT_app, zam]
           obtain ⟨T, hT⟩ : ∃ T, S ++ rgT (rg.take j) = T := ⟨_, rfl⟩
           have hTl2 : T.length ≤ 30000 := by rw [← hT, zaj]; omega
           rw [hT] at hnxt ⊢
           have l44 : ({ data := #[44] } : ByteArray) = bstr [44] := rfl
           have z1 : zad 1 = 1 := rfl
           have z0 : zad 0 = 0 := rfl
           by_cases hj0 : j = 0
           ·have gj0 : decide (((j : Nat) : Int) > 0) = false := decide_eq_false (by omega)
            rw [if_pos (by rw [hj0]; rfl), List.nil_append] at hnxt
            have eT : ((T ++ Lib.itoa x) ++ [44]) ++ Lib.itoa y = S ++ rgT (rg.take (j + 1)) := by rw [hnxt]; simp
            simp only [gj, gj0, hgr, wj, l44, z0, z1, gi, hgc, w1, ti, ec, eS, b0, l63, l38, l61, hC, bstr_app, bstr_size, bstr_data, zaa, zab, zac, push_cast, ↓reduceIte, reduceCtorEq, zB, zE, zA, zS, zL, zD, zM]
            repeat refine And.intro (by first | omega | (simp; done) | (simp; omega) | kernel_rfl) ?_
            refine dcall_mk hxt rfl trivial ?_
            simp only [gj, gj0, hgr, wj, l44, z0, z1, gi, hgc, w1, ti, ec, eS, b0, l63, l38, l61, hC, bstr_app, bstr_size, bstr_data, zaa, zab, zac, push_cast, ↓reduceIte, reduceCtorEq, zB, zE, zA, zS, zL, zD, zM]
            repeat refine And.intro (by first | omega | (simp; done) | (simp; omega) | kernel_rfl) ?_
            refine dcall_mk hyt rfl trivial ?_
            simp only [gj, gj0, hgr, wj, l44, z0, z1, eT, gi, hgc, w1, ti, ec, eS, b0, l63, l38, l61, hC, bstr_app, bstr_size, bstr_data, zaa, zab, zac, push_cast, ↓reduceIte, reduceCtorEq, zB, zE, zA, zS, zL, zD, zM]
            repeat refine And.intro (by first | omega | (simp; done) | (simp; omega) | kernel_rfl) ?_
            exact ⟨⟨j + 1, by omega, by simp⟩, by omega⟩
           ·have gj0 : decide (((j : Nat) : Int) > 0) = true := decide_eq_true (by omega)
            rw [if_neg (by
             intro h
             have := congrArg List.length h
             rw [zaq, zag] at this
             omega)] at hnxt
            have eT : (((T ++ [44]) ++ Lib.itoa x) ++ [44]) ++ Lib.itoa y = S ++ rgT (rg.take (j + 1)) := by rw [hnxt]; simp
            simp only [gj, gj0, hgr, wj, l44, z0, z1, gi, hgc, w1, ti, ec, eS, b0, l63, l38, l61, hC, bstr_app, bstr_size, bstr_data, zaa, zab, zac, push_cast, ↓reduceIte, reduceCtorEq, zB, zE, zA, zS, zL, zD, zM]
            repeat refine And.intro (by first | omega | (simp; done) | (simp; omega) | kernel_rfl) ?_
            refine dcall_mk hxt rfl trivial ?_
            simp only [gj, gj0, hgr, wj, l44, z0, z1, gi, hgc, w1, ti, ec, eS, b0, l63, l38, l61, hC, bstr_app, bstr_size, bstr_data, zaa, zab, zac, push_cast, ↓reduceIte, reduceCtorEq, zB, zE, zA, zS, zL, zD, zM]
            repeat refine And.intro (by first | omega | (simp; done) | (simp; omega) | kernel_rfl) ?_
            refine dcall_mk hyt rfl trivial ?_
            simp only [gj, gj0, hgr, wj, l44, z0, z1, eT, gi, hgc, w1, ti, ec, eS, b0, l63, l38, l61, hC, bstr_app, bstr_size, bstr_data, zaa, zab, zac, push_cast, ↓reduceIte, reduceCtorEq, zB, zE, zA, zS, zL, zD, zM]
            repeat refine And.intro (by first | omega | (simp; done) | (simp; omega) | kernel_rfl) ?_
            exact ⟨⟨j + 1, by omega, by simp⟩, by omega⟩
          ·have hj : j = rg.length := by omega
           subst hj
           have gj : decide (((rg.length : Nat) : Int) < ((rg.length : Nat) : Int)) = false := decide_eq_false (by omega)
           rw [List.take_length]
           have hTl := rgT_len rg hrg
           simp only [gj, w1, bstr_app, bstr_size, bstr_data, zaa, zab, zac, push_cast, ↓reduceIte, reduceCtorEq, zB, zE, zA, zS, zL, zD, zM]
           refine ⟨⟨i + 1, n, w, rg.length, _, by omega, by omega, by omega, by omega, ?_, by rw [hnx]; exact htx, by simp⟩, by omega⟩
           simp only [zaj]
           omega
        ·rw [if_neg hok] at htx
         subst htx
         simp only at hQ
         subst hQ
         by_cases h1 : rg.length < 1
         ·have g1' : decide (rg.length < 1) = true := decide_eq_true h1
          simp only [g112, g1, g2, g1', gi, hgc, w1, ti, ec, eS, b0, l63, l38, l61, hC, bstr_app, bstr_size, bstr_data, zaa, zab, zac, push_cast, ↓reduceIte, reduceCtorEq, zB, zE, zA, zS, zL, zD, zM]
          rfl
         ·have g1' : decide (rg.length < 1) = false := decide_eq_false h1
          have g2' : decide (rg.length > 100) = true := decide_eq_true (by omega)
          simp only [g112, g1, g2, g1', g2', gi, hgc, w1, ti, ec, eS, b0, l63, l38, l61, hC, bstr_app, bstr_size, bstr_data, zaa, zab, zac, push_cast, ↓reduceIte, reduceCtorEq, zB, zE, zA, zS, zL, zD, zM]
          rfl
       ·rw [if_neg h112] at htx
        have g112 : (C == 112) = false := by
         rw [beq_eq_false_iff_ne]
         intro h
         apply h112
         apply zal.1
         have : (112 : UInt8).toNat = 112 := rfl
         omega
        by_cases hnn : n < ns.length
        ·have gn : decide (((n : Nat) : Int) ≥ ((ns.length : Nat) : Int)) = false := decide_eq_false (by omega)
         rw [if_pos hnn] at htx
         have hgn : ∀ z, (ns.map n8).getD n z = .v (.int .i64 (ns.getD n 0)) := fun z => by
          rw [zae, zae]
          simp [hnn, n8]
         have hN64 : in64 (ns.getD n 0) := by
          rw [zae, zav hnn]
          exact hns _ (zai hnn)
         obtain ⟨V, hV⟩ : ∃ V, ns.getD n 0 = V := ⟨_, rfl⟩
         simp only [hV] at hN64 hgn htx
         have hrt := rtext_t V hN64
         rw [txt_eq] at hrt
         have hil := itoa_len V hN64
         have wn : IntKind.i64.wrap ((n : Int) + 1) = (n : Int) + 1 := wrap_id (by omega)
         simp only [g112, gn, hgn, gi, hgc, w1, ti, ec, eS, b0, l63, l38, l61, hC, bstr_app, bstr_size, bstr_data, zaa, zab, zac, push_cast, ↓reduceIte, reduceCtorEq, zB, zE, zA, zS, zL, zD, zM]
         repeat refine And.intro (by first | omega | (simp; done) | (simp; omega) | kernel_rfl) ?_
         refine call_mk hrt rfl trivial ?_
         simp only [g112, gn, hgn, wn, gi, hgc, w1, ti, ec, eS, b0, l63, l38, l61, hC, bstr_app, bstr_size, bstr_data, zaa, zab, zac, push_cast, ↓reduceIte, reduceCtorEq, zB, zE, zA, zS, zL, zD, zM]
         repeat refine And.intro (by first | omega | (simp; done) | (simp; omega) | kernel_rfl) ?_
         refine ⟨⟨i + 1, n + 1, w, r, _, by omega, by omega, by omega, by omega, ?_, by rw [hnx]; exact htx, by simp⟩, by omega⟩
         simp only [zaj]
         omega
        ·have gn : decide (((n : Nat) : Int) ≥ ((ns.length : Nat) : Int)) = true := decide_eq_true (by omega)
         rw [if_neg hnn] at htx
         subst htx
         simp only at hQ
         subst hQ
         simp only [g112, gn, gi, hgc, w1, ti, ec, eS, b0, l63, l38, l61, hC, bstr_app, bstr_size, bstr_data, zaa, zab, zac, push_cast, ↓reduceIte, reduceCtorEq, zB, zE, zA, zS, zL, zD, zM]
         rfl
    ·have hi : i = ks.length := by omega
     subst hi
     have gi : decide (((ks.length : Nat) : Int) < ((ks.length : Nat) : Int)) = false := decide_eq_false (by omega)
     rw [zao, txS] at htx
     subst htx
     simp only at hQ
     have en : (((n : Nat) : Int) != ((ns.length : Nat) : Int)) = !decide (n = ns.length) := by rw [bne, zaw, Bool.not_not, zah, beq_iff_eq, decide_eq_true_eq]; omega
     have ew : (((w : Nat) : Int) != ((ws.length : Nat) : Int)) = !decide (w = ws.length) := by rw [bne, zaw, Bool.not_not, zah, beq_iff_eq, decide_eq_true_eq]; omega
     have er : (((r : Nat) : Int) != ((rg.length : Nat) : Int)) = !decide (r = rg.length) := by rw [bne, zaw, Bool.not_not, zah, beq_iff_eq, decide_eq_true_eq]; omega
     have eo : decide (((os.length : Nat) : Int) > 0) = !decide (os = []) := by
      cases os with
      | nil => rfl
      | cons x l => simp
     have el : decide (((s.length : Nat) : Int) > 10000) = decide (10000 < s.length) := by rw [zah, decide_eq_true_eq, decide_eq_true_eq]; omega
     obtain ⟨B0, hB0⟩ : ∃ B, decide (n = ns.length) = B := ⟨_, rfl⟩
     obtain ⟨B1, hB1⟩ : ∃ B, decide (w = ws.length) = B := ⟨_, rfl⟩
     obtain ⟨B2, hB2⟩ : ∃ B, decide (r = rg.length) = B := ⟨_, rfl⟩
     obtain ⟨B3, hB3⟩ : ∃ B, decide (os = []) = B := ⟨_, rfl⟩
     obtain ⟨B4, hB4⟩ : ∃ B, decide (10000 < s.length) = B := ⟨_, rfl⟩
     rw [hB0] at en
     rw [hB1] at ew
     rw [hB2] at er
     rw [hB3] at eo
     rw [hB4] at el
     have val : Q = if (B0 && (B1 && (B2 && (B3 && !B4)))) = true then (s, true) else ([], false) := by
      rw [← hQ]
      have hiff : (n ≠ ns.length ∨ w ≠ ws.length ∨ r ≠ rg.length ∨ os ≠ [] ∨ 10000 < s.length) ↔ ¬ (B0 && (B1 && (B2 && (B3 && !B4)))) = true := by
       rw [← hB0, ← hB1, ← hB2, ← hB3, ← hB4]
       simp only [Bool.and_eq_true, Bool.not_eq_true', decide_eq_true_eq, decide_eq_false_iff_not]
       constructor
       ·rintro (h | h | h | h | h) ⟨h0, h1, h2, h3, h4⟩
        ·exact h h0
        ·exact h h1
        ·exact h h2
        ·exact h h3
        ·exact h4 h
       ·intro h
        by_cases h0 : n = ns.length
        ·by_cases h1 : w = ws.length
         ·by_cases h2 : r = rg.length
          ·by_cases h3 : os = []
           ·by_cases h4 : 10000 < s.length
            ·exact .inr (.inr (.inr (.inr h4)))
            ·exact absurd ⟨h0, h1, h2, h3, h4⟩ h
           ·exact .inr (.inr (.inr (.inl h3)))
          ·exact .inr (.inr (.inl h2))
         ·exact .inr (.inl h1)
        ·exact .inl h0
      by_cases hb : (B0 && (B1 && (B2 && (B3 && !B4)))) = true
      ·rw [if_neg (fun h => (hiff.1 h) hb), if_pos hb]
      ·rw [if_pos (hiff.2 hb), if_neg hb]
     subst val
     cases B0 with
     | false =>
      simp only [gi, en, bstr_size, push_cast, ↓reduceIte, reduceCtorEq, zB, zE, zA, zS, zL, zD, zM]
      rfl
     | true =>
      cases B1 with
      | false =>
       simp only [gi, en, ew, bstr_size, push_cast, ↓reduceIte, reduceCtorEq, zB, zE, zA, zS, zL, zD, zM]
       rfl
      | true =>
       cases B2 with
       | false =>
        simp only [gi, en, ew, er, bstr_size, push_cast, ↓reduceIte, reduceCtorEq, zB, zE, zA, zS, zL, zD, zM]
        rfl
       | true =>
        cases B3 with
        | false =>
         simp only [gi, en, ew, er, eo, bstr_size, push_cast, ↓reduceIte, reduceCtorEq, zB, zE, zA, zS, zL, zD, zM]
         rfl
        | true =>
         cases B4 with
         | false =>
          simp only [gi, en, ew, er, eo, el, bstr_size, push_cast, ↓reduceIte, reduceCtorEq, zB, zE, zA, zS, zL, zD, zM]
          try rfl
         | true =>
          simp only [gi, en, ew, er, eo, el, bstr_size, push_cast, ↓reduceIte, reduceCtorEq, zB, zE, zA, zS, zL, zD, zM]
          try rfl

end Go.Ev
