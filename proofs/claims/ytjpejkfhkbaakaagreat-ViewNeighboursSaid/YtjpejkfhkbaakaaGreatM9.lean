import Derived.Test.YtjpejkfhkbaakaaGreatM8
open Nat renaming reduceBEq → zB, reduceEqDiff → zE, reduceAdd → zA, reduceSub → zS, reduceLT → zL, reduceLeDiff → zD, reduceMul → zM
open Go.Proofs.Tryz renaming prog → P0
open Nat renaming zero_add → zaa, zero_mul → zae
open List renaming getElem?_map → zab, getD_eq_getElem?_getD → zah
open Int renaming toNat_zero → zac, reduceToNat → zad, toNat_natCast → zaf, toNat_natCast_add_one → zag
namespace Go.Ev
set_option maxRecDepth 100000
open Go
set_option linter.unusedSectionVars false
set_option linter.unnecessarySimpa false
set_option linter.unusedSimpArgs false
set_option linter.unusedVariables false
noncomputable def apiarylaw22_ViewNeighbours_pc : PC :=
  (.seq (.reg [p_s 8 (.mov (.c (.r (.v (.bool false)))))])
 (.seq (.reg [p_m 18 0, p_m 19 1, p_m 20 2, p_m 21 3, p_c 22 1 6 [.t 18, .t 19, .t 20, .t 21], p_a 9 (.new [(.r (.v (.int .i64 0))), (.r (.v (.int .i64 0))), (.r (.v (.int .i64 0))), (.r (.v (.int .i64 0)))]),
 ⟨none, none, 0, .act (.st 4 (.t 9) (.t 22))⟩])
 (.seq (.reg [p_s 23 (.ld (some 4) (.t 9)), p_a 10 (.new [(.r (.v (.int .i64 0))), (.r (.v (.int .i64 0))), (.r (.v (.int .i64 0))), (.r (.v (.int .i64 0)))]), ⟨none, none, 0, .act (.st 4 (.t 10) (.t 23))⟩])
 (.seq (.reg [p_s 24 (.fa 1 (.t 10)), p_s 25 (.ld none (.t 24)), p_s 26 (.bin .add (.t 25) (o_i 1)), p_s 27 (.fa 1 (.t 10)), ⟨none, none, 0, .act (.st 1 (.t 27) (.t 26))⟩])
 (.seq (.reg [p_m 28 0, p_s 29 (.bin .and (.t 28) (o_i 1073741823)), p_m 30 1, p_s 31 (.bin .and (.t 30) (o_i 1073741823)), p_m 0 29, p_m 1 31])
 (.seq (.reg [p_m 32 0, p_m 33 1, p_s 34 (.fa 3 (.t 9)), p_s 35 (.ld none (.t 34)), p_c 36 2 7 [.t 32, .t 33, .t 35], p_m 11 36])
 (.seq (.seq (.reg [p_s 37 (.ld (some 4) (.t 9)), p_c 38 3 8 [.t 37], p_s 39 (.bin .neq (.t 38) (o_i 0)), p_m 40 39, p_g 41 40 false (.ld (some 4) (.t 10)), ⟨(some 42), (some (40, false)), 4, .call 8 [(.t 41)]⟩,
 p_g 43 40 false (.bin .neq (.t 42) (o_i 0)), p_s 44 (.pick (.t 40) (.c (.r (.v (.bool true)))) (.t 43))])
 (.cond (.t 44)
 (.seq (.reg [p_c 45 5 9 [], p_m 8 45])
 .ret)
 .skip))
 (.seq (.drw [p_s 46 (.ld (some 4) (.t 9)), p_m 47 11, p_c 48 6 10 [.t 46, .t 47], p_s 49 (.ld (some 4) (.t 10)), p_m 50 11, p_c 51 7 10 [.t 49, .t 50], p_m 12 48, p_m 13 51]
 [[], [], [0, 1], [], [], [0, 1, 2, 3, 4], [0, 1, 2, 3, 4, 5], [0, 1, 2, 3, 4, 5, 6]])
 (.seq (.reg [p_m 52 12, p_s 53 (.len false (.t 52)), p_s 54 (.bin .gtr (.t 53) (o_i 0)), p_m 55 54, p_g 56 55 true (.mov (.t 13)), p_g 57 55 true (.len false (.t 56)), p_g 58 55 true (.bin .gtr (.t 57) (o_i 0)),
 p_s 59 (.pick (.t 55) (.t 58) (.c (.r (.v (.bool false))))), p_m 14 59])
 (.seq (.seq (.reg [p_s 15 (.mov (o_i 0))])
 (.block 0 (.loop (.seq (.seq (.reg [p_m 60 15, p_m 61 12, p_s 62 (.len false (.t 61)), p_s 63 (.bin .lss (.t 60) (.t 62))])
 (.cond (.t 63)
 .skip
 (.exit 0)))
 (.seq (.block 1 (.reg [p_m 66 14, p_m 67 66, p_g 68 67 true (.mov (.t 12)), p_g 69 67 true (.mov (.t 15)), p_g 70 67 true (.ia 2 (.agg [(.v (.int .i64 0)), (.v (.int .i64 0))]) (.t 68) (.t 69)),
 p_g 71 67 true (.iaa 2 1 (.t 70) (o_i 0)), p_g 72 67 true (.ld none (.t 71)), p_g 73 67 true (.bin .gtr (.t 72) (o_i (-64))), p_s 74 (.pick (.t 67) (.t 73) (.c (.r (.v (.bool false))))),
 p_m 75 74, p_g 76 75 true (.mov (.t 12)), p_g 77 75 true (.mov (.t 15)), p_g 78 75 true (.ia 2 (.agg [(.v (.int .i64 0)), (.v (.int .i64 0))]) (.t 76) (.t 77)),
 p_g 79 75 true (.iaa 2 1 (.t 78) (o_i 0)), p_g 80 75 true (.ld none (.t 79)), p_g 81 75 true (.bin .lss (.t 80) (o_i 4160)), p_s 82 (.pick (.t 75) (.t 81) (.c (.r (.v (.bool false))))),
 p_m 83 82, p_g 84 83 true (.mov (.t 12)), p_g 85 83 true (.mov (.t 15)), p_g 86 83 true (.ia 2 (.agg [(.v (.int .i64 0)), (.v (.int .i64 0))]) (.t 84) (.t 85)),
 p_g 87 83 true (.iaa 2 1 (.t 86) (o_i 1)), p_g 88 83 true (.ld none (.t 87)), p_g 89 83 true (.bin .gtr (.t 88) (o_i (-64))), p_s 90 (.pick (.t 83) (.t 89) (.c (.r (.v (.bool false))))),
 p_m 91 90, p_g 92 91 true (.mov (.t 12)), p_g 93 91 true (.mov (.t 15)), p_g 94 91 true (.ia 2 (.agg [(.v (.int .i64 0)), (.v (.int .i64 0))]) (.t 92) (.t 93)),
 p_g 95 91 true (.iaa 2 1 (.t 94) (o_i 1)), p_g 96 91 true (.ld none (.t 95)), p_g 97 91 true (.bin .lss (.t 96) (o_i 4160)), p_s 98 (.pick (.t 91) (.t 97) (.c (.r (.v (.bool false))))),
 p_m 14 98]))
 (.reg [p_m 64 15, p_s 65 (.bin .add (.t 64) (o_i 1)), p_m 15 65]))))))
 (.seq (.seq (.reg [p_s 16 (.mov (o_i 0))])
 (.block 2 (.loop (.seq (.seq (.reg [p_m 99 16, p_m 100 13, p_s 101 (.len false (.t 100)), p_s 102 (.bin .lss (.t 99) (.t 101))])
 (.cond (.t 102)
 .skip
 (.exit 2)))
 (.seq (.block 3 (.reg [p_m 105 14, p_m 106 105, p_g 107 106 true (.mov (.t 13)), p_g 108 106 true (.mov (.t 16)), p_g 109 106 true (.ia 2 (.agg [(.v (.int .i64 0)), (.v (.int .i64 0))]) (.t 107) (.t 108)),
 p_g 110 106 true (.iaa 2 1 (.t 109) (o_i 0)), p_g 111 106 true (.ld none (.t 110)), p_g 112 106 true (.bin .gtr (.t 111) (o_i (-64))), p_s 113 (.pick (.t 106) (.t 112) (.c (.r (.v (.bool false))))),
 p_m 114 113, p_g 115 114 true (.mov (.t 13)), p_g 116 114 true (.mov (.t 16)), p_g 117 114 true (.ia 2 (.agg [(.v (.int .i64 0)), (.v (.int .i64 0))]) (.t 115) (.t 116)),
 p_g 118 114 true (.iaa 2 1 (.t 117) (o_i 0)), p_g 119 114 true (.ld none (.t 118)), p_g 120 114 true (.bin .lss (.t 119) (o_i 4160)), p_s 121 (.pick (.t 114) (.t 120) (.c (.r (.v (.bool false))))),
 p_m 122 121, p_g 123 122 true (.mov (.t 13)), p_g 124 122 true (.mov (.t 16)), p_g 125 122 true (.ia 2 (.agg [(.v (.int .i64 0)), (.v (.int .i64 0))]) (.t 123) (.t 124)),
 p_g 126 122 true (.iaa 2 1 (.t 125) (o_i 1)), p_g 127 122 true (.ld none (.t 126)), p_g 128 122 true (.bin .gtr (.t 127) (o_i (-64))), p_s 129 (.pick (.t 122) (.t 128) (.c (.r (.v (.bool false))))),
 p_m 130 129, p_g 131 130 true (.mov (.t 13)), p_g 132 130 true (.mov (.t 16)), p_g 133 130 true (.ia 2 (.agg [(.v (.int .i64 0)), (.v (.int .i64 0))]) (.t 131) (.t 132)),
 p_g 134 130 true (.iaa 2 1 (.t 133) (o_i 1)), p_g 135 130 true (.ld none (.t 134)), p_g 136 130 true (.bin .lss (.t 135) (o_i 4160)), p_s 137 (.pick (.t 130) (.t 136) (.c (.r (.v (.bool false))))),
 p_m 14 137]))
 (.reg [p_m 103 16, p_s 104 (.bin .add (.t 103) (o_i 1)), p_m 16 104]))))))
 (.seq (.seq (.reg [p_m 138 14, p_s 139 (.un .not (.t 138))])
 (.cond (.t 139)
 (.seq (.reg [p_c 140 8 9 [], p_m 8 140])
 .ret)
 .skip))
 (.seq (.seq (.reg [p_m 141 12, p_s 142 (.len false (.t 141)), p_m 143 13, p_s 144 (.len false (.t 143)), p_s 145 (.bin .neq (.t 142) (.t 144))])
 (.cond (.t 145)
 (.seq (.reg [p_s 8 (.mov (.c (.r (.v (.bool false)))))])
 .ret)
 .skip))
 (.seq (.seq (.reg [p_s 17 (.mov (o_i 0))])
 (.block 4 (.loop (.seq (.seq (.reg [p_m 146 17, p_m 147 12, p_s 148 (.len false (.t 147)), p_s 149 (.bin .lss (.t 146) (.t 148))])
 (.cond (.t 149)
 .skip
 (.exit 4)))
 (.seq (.block 5 (.seq (.drw [p_m 152 12, p_m 153 17, p_s 154 (.ia 2 (.agg [(.v (.int .i64 0)), (.v (.int .i64 0))]) (.t 152) (.t 153)), p_s 155 (.ld (some 2) (.t 154)), p_m 156 13, p_m 157 17,
 p_s 158 (.ia 2 (.agg [(.v (.int .i64 0)), (.v (.int .i64 0))]) (.t 156) (.t 157)), p_s 159 (.iaa 2 1 (.t 158) (o_i 0)), p_s 160 (.ld none (.t 159)), p_s 161 (.bin .add (.t 160) (o_i 4096)),
 p_m 162 13, p_m 163 17, p_s 164 (.ia 2 (.agg [(.v (.int .i64 0)), (.v (.int .i64 0))]) (.t 162) (.t 163)), p_s 165 (.iaa 2 1 (.t 164) (o_i 1)), p_s 166 (.ld none (.t 165)),
 p_s 167 (.build [(.r (.v (.int .i64 0))), (.r (.v (.int .i64 0)))] [(0, 1, (.t 161)), (1, 1, (.t 166))]), p_s 168 (.eqa true [0, 0] (.t 155) (.t 167))]
 [[], [], [0, 1], [0, 1, 2], [], [], [4, 5], [4, 5, 6], [4, 5, 6, 7], [4, 5, 6, 7, 8], [], [], [10, 11], [10, 11, 12], [10, 11, 12, 13], [4, 5, 6, 7, 8, 9, 10, 11, 12, 13, 14], [0, 1, 2, 3, 4, 5, 6, 7, 8, 9, 10, 11, 12, 13, 14, 15]])
 (.cond (.t 168)
 (.seq (.reg [p_s 8 (.mov (.c (.r (.v (.bool false)))))])
 .ret)
 .skip)))
 (.reg [p_m 150 17, p_s 151 (.bin .add (.t 150) (o_i 1)), p_m 17 151]))))))
 (.seq (.reg [p_c 169 9 9 [], p_m 8 169])
 .ret)))))))))))))))
theorem apiarylaw22_ViewNeighbours_triple : Fun P0 3 4 [(8, false, none)] apiarylaw22_ViewNeighbours_pc := fun_mk Go.Proofs.Tryz.func3 rfl (by decide) (by kernel_rfl) (by decide) rfl (by kernel_rfl) (by kernel_rfl) (by decide)
def within (l : List P2) : Prop := ∀ p ∈ l, (-64 < p.1 ∧ p.1 < 4160) ∧ (-64 < p.2 ∧ p.2 < 4160)
theorem unit_in (t : Til) (h : 0 ≤ t.z ∧ t.z ≤ 18) : (1 ≤ unitP t ∧ unitP t ≤ 262144) ∧ sideP t = 4096 * unitP t := by
 have h1 : 2 ^ (18 - t.z).toNat ≤ 2 ^ 18 := Nat.pow_le_pow_right (by decide) (by omega)
 have h3 : ((2 ^ (18 - t.z).toNat : Nat) : Int) = (2 : Int) ^ (18 - t.z).toNat := by simp
 have h4 : 0 < 2 ^ (18 - t.z).toNat := Nat.pow_pos (by decide)
 have h5 : (2 : Int) ^ (30 - t.z).toNat = 4096 * 2 ^ (18 - t.z).toNat := by
  rw [show (30 - t.z).toNat = 12 + (18 - t.z).toNat by omega, Int.pow_add]
  rfl
 unfold unitP sideP
 exact ⟨by omega, h5⟩
theorem shape_whole (t : Til) (h : 0 ≤ t.z ∧ t.z ≤ 18) (z : Ei) (h0 : shapeP t z ≠ []) (h1 : within (shapeP t z)) : shapeP t z = hullP (flrP (3 * unitP t) (ringP t z)) := by
 obtain ⟨hu, _⟩ := unit_in t h
 unfold shapeP at h0 h1 ⊢
 split at h0
 ·rename_i hT
  rw [if_pos hT] at h1 ⊢
  have hw : winP t z = ringP t z := by
   refine box_whole _ _ _ ?_ ?_
   ·intro he
    refine h0 ?_
    have : winP t z = [] := he
    rw [this]
    rfl
   ·intro p hp
    have hq : (p.1 / (3 * unitP t), p.2 / (3 * unitP t)) ∈ flrP (3 * unitP t) (winP t z) := List.mem_map.2 ⟨p, hp, rfl⟩
    obtain ⟨⟨a, a1, a2⟩, ⟨b, b1, b2⟩, ⟨c, c1, c2⟩, ⟨d, d1, d2⟩⟩ := hullP_dom _ h0 _ hq
    have wa := h1 a a1
    have wb := h1 b b1
    have wc := h1 c c1
    have wd := h1 d d1
    simp only at a2 b2 c2 d2
    have e1 : -63 ≤ p.1 / (3 * unitP t) := by omega
    have e2 : p.1 / (3 * unitP t) < 4160 := by omega
    have e3 : -63 ≤ p.2 / (3 * unitP t) := by omega
    have e4 : p.2 / (3 * unitP t) < 4160 := by omega
    have f1 := (Int.le_ediv_iff_mul_le (show 0 < 3 * unitP t by omega)).1 e1
    have f2 := (Int.ediv_lt_iff_lt_mul (show 0 < 3 * unitP t by omega)).1 e2
    have f3 := (Int.le_ediv_iff_mul_le (show 0 < 3 * unitP t by omega)).1 e3
    have f4 := (Int.ediv_lt_iff_lt_mul (show 0 < 3 * unitP t by omega)).1 e4
    simp only
    omega
  rw [hw]
 ·exact absurd rfl h0
theorem shape_next (t u : Til) (hu : u = ⟨t.z, t.x + 1, t.y, t.r⟩) (h : 0 ≤ t.z ∧ t.z ≤ 18) (z : Ei) (a0 : shapeP t z ≠ []) (a1 : within (shapeP t z)) (b0 : shapeP u z ≠ []) (b1 : within (shapeP u z)) :
  shapeP t z = (shapeP u z).map (shP (4096, 0)) := by
 have eU : unitP u = unitP t := by rw [hu]; rfl
 have eS : sideP u = sideP t := by rw [hu]; rfl
 obtain ⟨hu1, hs⟩ := unit_in t h
 rw [shape_whole t h z a0 a1, shape_whole u (by rw [hu]; exact h) z b0 b1, eU, ← hullP_sh]
 congr 1
 have er : ringP t z = (ringP u z).map (shP (3 * sideP t, 0)) := by
  unfold ringP
  rw [eS, List.map_map, hu]
  refine List.map_congr_left fun p _ => ?_
  simp only [Function.comp, shP, Int.add_mul, Int.one_mul]
  exact Prod.ext (by simp only; omega) (by simp only; omega)
 rw [er]
 unfold flrP
 rw [List.map_map, List.map_map]
 refine List.map_congr_left fun p _ => ?_
 simp only [Function.comp, shP]
 refine Prod.ext ?_ (by simp)
 simp only
 rw [hs, show p.1 + 3 * (4096 * unitP t) = p.1 + 4096 * (3 * unitP t) by omega, Int.add_mul_ediv_right _ _ (by omega)]
theorem hull_len (rg : List P2) : (hullP rg).length ≤ 2 * rg.length := by
 have h1 := compP_len (sortP rg)
 rw [sortP_len] at h1
 have h2 := stkC_len (compP (sortP rg))
 have h3 := stkC_len (compP (sortP rg)).reverse
 rw [List.length_reverse] at h3
 have h4 := chainP_len (compP (sortP rg))
 have h5 := chainP_len (compP (sortP rg)).reverse
 unfold hullP
 split
 ·simp
 ·split
  ·simp
  ·rw [List.length_append]; omega
theorem shape_len (t : Til) (hr : t.r ≤ 12) (z : Ei) : (shapeP t z).length ≤ 20 := by
 unfold shapeP
 split
 ·refine Nat.le_trans (hull_len _) ?_
  have h1 : (winP t z).length ≤ 10 := by
   have := (box_ten (lo := (-192 * unitP t, -192 * unitP t)) (hi := (12480 * unitP t, 12480 * unitP t)) (hump_hex z t.r.toNat (by omega) (-(3 * (t.x * sideP t)), -(3 * (t.y * sideP t)))) 4 (Nat.le_refl _)).2
   rw [List.length_map, hexR_len] at this
   exact this
  have : (flrP (3 * unitP t) (winP t z)).length = (winP t z).length := by simp [flrP]
  omega
 ·simp
def inB (p : P2) : Bool := decide (p.1 > -64) && (decide (p.1 < 4160) && (decide (p.2 > -64) && decide (p.2 < 4160)))
theorem inB_succ {l : List P2} {i : Nat} {p : P2} (h : l[i]? = some p) : (l.take (i + 1)).all inB = ((l.take i).all inB && inB p) := by
 rw [List.take_add_one, h, List.all_append]
 simp
theorem all_within {l : List P2} (h : l.all inB = true) : within l := fun p hp => by
 have := List.all_eq_true.1 h p hp
 simp [inB] at this
 omega
set_option maxHeartbeats 1000000 in
theorem neigh_t (x y z r : Int) (hx : in64 x) (hy : in64 y) (hz : in64 z) (hr : in64 r) : Triple P0 3 [int .i64 x, int .i64 y, int .i64 z, int .i64 r] [] (bl true) [] := by
 refine apiarylaw22_ViewNeighbours_triple rfl (by decide) ?_
 simp only [apiarylaw22_ViewNeighbours_pc, push_cast, ↓reduceIte, reduceCtorEq, zB, zE, zA, zS, zL, zD, zM]
 refine call_mk (tile_t x y z r hx hy hz hr) rfl trivial ?_
 have hti := tis_of x y z r
 have hfi := fine_of x y z r
 have hZe : near (x % 1073741824) (y % 1073741824) (tileOf x y z r).r.toNat = near (x % 1073741824) (y % 1073741824) (tileOf x y z r).r.toNat := rfl
 obtain ⟨t, ht⟩ : ∃ t, tileOf x y z r = t := ⟨_, rfl⟩
 rw [ht] at hti hfi ⊢
 have ho := til_ok hti
 have hb : 0 ≤ t.z ∧ t.z ≤ 18 ∧ 0 ≤ t.r ∧ t.r ≤ 12 ∧ 0 ≤ t.x ∧ t.x < 2 ^ t.z.toNat ∧ 0 ≤ t.y ∧ t.y < 2 ^ t.z.toNat := by simpa [tis] using hti
 have hp := p2 t.z.toNat (by omega)
 have wx : IntKind.i64.wrap (t.x + 1) = t.x + 1 := wrap_id (by omega)
 have ax := and30 x hx
 have ay := and30 y hy
 have hF := tilF x y z r _ rfl
 rw [ht] at hF
 obtain ⟨X, hX⟩ : ∃ X, x % 1073741824 = X := ⟨_, rfl⟩
 obtain ⟨Y, hY⟩ : ∃ Y, y % 1073741824 = Y := ⟨_, rfl⟩
 rw [hX, hY] at hF
 rw [hX] at ax
 rw [hY] at ay
 obtain ⟨Z, hZ⟩ : ∃ Z, near X Y t.r.toNat = Z := ⟨_, rfl⟩
 rw [hZ] at hF
 have hwd := rwordOf_t X Y t.r hF.w ⟨hb.2.2.1, hb.2.2.2.1⟩
 rw [wordOf, hZ] at hwd
 obtain ⟨u, hu⟩ : ∃ u : Til, u = ⟨t.z, t.x + 1, t.y, t.r⟩ := ⟨_, rfl⟩
 have hou : u.ok := by rw [hu]; unfold Til.ok in64 at ho ⊢; simp only; omega
 have hOk := ok_t t ho
 rw [hti, hfi] at hOk
 have hOu := ok_t u hou
 have n0 : ((0 : Int) != 0) = false := rfl
 have n1 : ((1 : Int) != 0) = true := rfl
 simp only [Til.v, wx, ax, ay, push_cast, ↓reduceIte, reduceCtorEq, zB, zE, zA, zS, zL, zD, zM]
 refine call_mk hwd rfl trivial ?_
 simp only [uw, push_cast, ↓reduceIte, reduceCtorEq, zB, zE, zA, zS, zL, zD, zM]
 refine call_as (as' := [t.v]) rfl ?_
 refine call_mk hOk rfl trivial ?_
 simp only [n0, push_cast, ↓reduceIte, reduceCtorEq, zB, zE, zA, zS, zL, zD, zM]
 refine call_as (as' := [u.v]) (by rw [hu]; rfl) ?_
 refine call_mk hOu rfl trivial ?_
 cases htu : tis u with
 | false =>
  simp only [n0, n1, push_cast, ↓reduceIte, reduceCtorEq, zB, zE, zA, zS, zL, zD, zM]
  refine call_mk awake22_t rfl trivial ?_
  simp only [push_cast, ↓reduceIte, reduceCtorEq, zB, zE, zA, zS, zL, zD, zM]
 | true =>
  have hfu : fine u = false := by
   have : ¬ (169 * 7 ^ (12 - t.r).toNat < 16 * 2 ^ (18 - t.z).toNat * (2 : Int) ^ (18 - t.z).toNat) := by
    unfold fine at hfi
    rw [hti] at hfi
    simpa using hfi
   unfold fine
   rw [htu, hu]
   simpa using this
  rw [hfu]
  have hs1 := vshape_o t hti hfi Z hF.k hF.h
  have hs2 := vshape_o u htu hfu Z (by rw [hu]; exact hF.k) (by rw [hu]; exact hF.h)
  rw [show u.r.toNat = t.r.toNat by rw [hu]] at hs2
  have hnx := shape_next t u hu ⟨hb.1, hb.2.1⟩ Z
  obtain ⟨A, hA⟩ : ∃ A, shapeP t Z = A := ⟨_, rfl⟩
  obtain ⟨B, hB⟩ : ∃ B, shapeP u Z = B := ⟨_, rfl⟩
  have hAl := shape_len t hb.2.2.2.1 Z
  have hBl := shape_len u (by rw [hu]; exact hb.2.2.2.1) Z
  rw [hA] at hAl
  rw [hB] at hBl
  rw [hA] at hs1 hnx
  rw [hB] at hs2 hnx
  simp only [n0, push_cast, ↓reduceIte, reduceCtorEq, zB, zE, zA, zS, zL, zD, zM]
  refine dcall_as (as' := [t.v, uw (word t.r.toNat Z)]) rfl ?_
  refine dcall_mk hs1 rfl trivial ?_
  simp only [rowP, pnt, push_cast, ↓reduceIte, reduceCtorEq, zB, zE, zA, zS, zL, zD, zM]
  refine dcall_as (as' := [u.v, uw (word t.r.toNat Z)]) (by rw [hu]; rfl) ?_
  refine dcall_mk hs2 rfl trivial ?_
  simp only [rowP, pnt, push_cast, ↓reduceIte, reduceCtorEq, zB, zE, zA, zS, zL, zD, zM]
  refine And.intro (by kernel_rfl) ?_
  obtain ⟨W, hW⟩ : ∃ W : Bool, (bif decide ((A.length : Int) > 0) then decide ((B.length : Int) > 0) else false) = W := ⟨_, rfl⟩
  refine run_loop [(15, false), (14, false), (12, false), (13, false)] (fun vs pos los => ∃ i : Nat, i ≤ A.length ∧ vs = [int .i64 i, bl (W && (A.take i).all inB), .own 2000000 0 0 A.length, .own 2000001 0 0 B.length] ∧ pos = [] ∧ los = [rowP A, rowP B])
   (fun vs _ _ => match vs with | .r (.v (.int _ a)) :: _ => (A.length - a).toNat | _ => 0) rfl ?_ ?_
  ·simp only [rowP, pnt, push_cast, ↓reduceIte, reduceCtorEq, zB, zE, zA, zS, zL, zD, zM]
   exact ⟨0, by omega, by rw [hW]; simp⟩
  ·rintro vs pos los ⟨i, hi, rfl, rfl, rfl⟩
   obtain ⟨b, hbb⟩ : ∃ b, (W && (A.take i).all inB) = b := ⟨_, rfl⟩
   rw [hbb]
   simp only [rowP, pnt, push_cast, ↓reduceIte, reduceCtorEq, zB, zE, zA, zS, zL, zD, zM]
   refine cnd_mk (fun hd => ?_) (fun hd => ?_)
   ·have hi2 : i < A.length := by have := of_decide_eq_true hd; omega
    obtain ⟨p, hp⟩ : ∃ p, A[i]? = some p := ⟨A[i], by simp [hi2]⟩
    have wi : IntKind.i64.wrap ((i : Int) + 1) = (i : Int) + 1 := wrap_id (by omega)
    have hsu : (W && (A.take (i + 1)).all inB) = (b && inB p) := by rw [inB_succ hp, ← hbb, Bool.and_assoc]
    have hg : ∀ z, (A.map ptR).getD i z = .agg [.v (.int .i64 p.1), .v (.int .i64 p.2)] := fun z => by
     rw [zah, zab, hp]
     rfl
    have fin : ∀ v : Bool, (b && inB p) = v → (∃ i_1 : Nat, i_1 ≤ A.length ∧ [AV.r (.v (.int .i64 ((i : Int) + 1))), bl v, .own 2000000 0 0 A.length, .own 2000001 0 0 B.length] = [int .i64 i_1, bl (W && (A.take i_1).all inB), .own 2000000 0 0 A.length, .own 2000001 0 0 B.length]) ∧ ((A.length : Int) - ((i : Int) + 1)).toNat < ((A.length : Int) - (i : Int)).toNat := fun v hv => by
     refine ⟨⟨i + 1, by omega, ?_⟩, by omega⟩
     rw [hsu, hv]
     simp
    cases b with
    | false =>
     simp only [rowP, pnt, hg, wi, zac, zad, zaa, zae, Nat.mul_one, zaf, zag, zaa, push_cast, ↓reduceIte, reduceCtorEq, zB, zE, zA, zS, zL, zD, zM]
     repeat refine And.intro (by first | exact ⟨by omega, by omega⟩ | decide) ?_
     exact fin false rfl
    | true =>
     unfold inB at fin
     cases d1 : decide (p.1 > -64) <;> cases d2 : decide (p.1 < 4160) <;> cases d3 : decide (p.2 > -64) <;> cases d4 : decide (p.2 < 4160)
     all_goals
      simp only [rowP, pnt, hg, wi, d1, d2, d3, d4, zac, zad, zaa, zae, Nat.mul_one, zaf, zag, zaa, push_cast, ↓reduceIte, reduceCtorEq, zB, zE, zA, zS, zL, zD, zM]
      repeat refine And.intro (by first | exact ⟨by omega, by omega⟩ | decide) ?_
      exact fin _ (by rw [d1, d2, d3, d4]; rfl)
   ·have hi2 : i = A.length := by have := of_decide_eq_false hd; omega
    subst hi2
    simp only [rowP, pnt, push_cast, ↓reduceIte, reduceCtorEq, zB, zE, zA, zS, zL, zD, zM]
    rw [List.take_length] at hbb
    obtain ⟨W2, hW2⟩ : ∃ W2, b = W2 := ⟨_, rfl⟩
    rw [hW2]
    rw [hW2] at hbb
    have hW2 := hbb
    refine run_loop [(16, false), (14, false), (12, false), (13, false)] (fun vs pos los => ∃ i : Nat, i ≤ B.length ∧ vs = [int .i64 i, bl (W2 && (B.take i).all inB), .own 2000000 0 0 A.length, .own 2000001 0 0 B.length] ∧ pos = [] ∧ los = [rowP A, rowP B])
     (fun vs _ _ => match vs with | .r (.v (.int _ a)) :: _ => (B.length - a).toNat | _ => 0) rfl ?_ ?_
    ·simp only [rowP, pnt, push_cast, ↓reduceIte, reduceCtorEq, zB, zE, zA, zS, zL, zD, zM]
     exact ⟨0, by omega, by simp⟩
    ·rintro vs pos los ⟨i, hi, rfl, rfl, rfl⟩
     obtain ⟨b, hbb⟩ : ∃ b, (W2 && (B.take i).all inB) = b := ⟨_, rfl⟩
     rw [hbb]
     simp only [rowP, pnt, push_cast, ↓reduceIte, reduceCtorEq, zB, zE, zA, zS, zL, zD, zM]
     refine cnd_mk (fun hd => ?_) (fun hd => ?_)
     ·have hi2 : i < B.length := by have := of_decide_eq_true hd; omega
      obtain ⟨p, hp⟩ : ∃ p, B[i]? = some p := ⟨B[i], by simp [hi2]⟩
      have wi : IntKind.i64.wrap ((i : Int) + 1) = (i : Int) + 1 := wrap_id (by omega)
      have hsu : (W2 && (B.take (i + 1)).all inB) = (b && inB p) := by rw [inB_succ hp, ← hbb, Bool.and_assoc]
      have hg : ∀ z, (B.map ptR).getD i z = .agg [.v (.int .i64 p.1), .v (.int .i64 p.2)] := fun z => by
       rw [zah, zab, hp]
       rfl
      have fin : ∀ v : Bool, (b && inB p) = v → (∃ i_1 : Nat, i_1 ≤ B.length ∧ [AV.r (.v (.int .i64 ((i : Int) + 1))), bl v, .own 2000000 0 0 A.length, .own 2000001 0 0 B.length] = [int .i64 i_1, bl (W2 && (B.take i_1).all inB), .own 2000000 0 0 A.length, .own 2000001 0 0 B.length]) ∧ ((B.length : Int) - ((i : Int) + 1)).toNat < ((B.length : Int) - (i : Int)).toNat := fun v hv => by
       refine ⟨⟨i + 1, by omega, ?_⟩, by omega⟩
       rw [hsu, hv]
       simp
      cases b with
      | false =>
       simp only [rowP, pnt, hg, wi, zac, zad, zaa, zae, Nat.mul_one, zaf, zag, zaa, push_cast, ↓reduceIte, reduceCtorEq, zB, zE, zA, zS, zL, zD, zM]
       repeat refine And.intro (by first | exact ⟨by omega, by omega⟩ | decide) ?_
       exact fin false rfl
      | true =>
       unfold inB at fin
       cases d1 : decide (p.1 > -64) <;> cases d2 : decide (p.1 < 4160) <;> cases d3 : decide (p.2 > -64) <;> cases d4 : decide (p.2 < 4160)
       all_goals
        simp only [rowP, pnt, hg, wi, d1, d2, d3, d4, zac, zad, zaa, zae, Nat.mul_one, zaf, zag, zaa, push_cast, ↓reduceIte, reduceCtorEq, zB, zE, zA, zS, zL, zD, zM]
        repeat refine And.intro (by first | exact ⟨by omega, by omega⟩ | decide) ?_
        exact fin _ (by rw [d1, d2, d3, d4]; rfl)
     ·have hi2 : i = B.length := by have := of_decide_eq_false hd; omega
      subst hi2
      rw [List.take_length] at hbb
      have hb3 := hbb
      cases b with
      | false =>
       simp only [rowP, pnt, push_cast, ↓reduceIte, reduceCtorEq, zB, zE, zA, zS, zL, zD, zM]
       refine call_mk awake22_t rfl trivial ?_
       simp only [push_cast, ↓reduceIte, reduceCtorEq, zB, zE, zA, zS, zL, zD, zM]
      | true =>
       obtain ⟨h1, h2⟩ := Bool.and_eq_true_iff.1 hb3
       rw [← hW2] at h1
       obtain ⟨h3, h4⟩ := Bool.and_eq_true_iff.1 h1
       have hAB : A ≠ [] ∧ B ≠ [] := by
        rw [← hW] at h3
        constructor
        ·rintro rfl
         simp at h3
        ·rintro rfl
         simp at h3
       have hE := hnx hAB.1 (all_within h4) hAB.2 (all_within h2)
       have hlE : A.length = B.length := by rw [hE]; simp
       have hne : ((A.length : Int) != (B.length : Int)) = false := by rw [hlE]; simp
       simp only [rowP, pnt, hne, push_cast, ↓reduceIte, reduceCtorEq, zB, zE, zA, zS, zL, zD, zM]
       refine run_loop [(17, false), (12, false), (13, false)] (fun vs pos los => ∃ i : Nat, i ≤ A.length ∧ vs = [int .i64 i, .own 2000000 0 0 A.length, .own 2000001 0 0 B.length] ∧ pos = [] ∧ los = [rowP A, rowP B])
        (fun vs _ _ => match vs with | .r (.v (.int _ a)) :: _ => (A.length - a).toNat | _ => 0) rfl ?_ ?_
       ·simp only [rowP, pnt, push_cast, ↓reduceIte, reduceCtorEq, zB, zE, zA, zS, zL, zD, zM]
        exact ⟨0, by omega, by simp⟩
       ·rintro vs pos los ⟨i, hi, rfl, rfl, rfl⟩
        simp only [rowP, pnt, push_cast, ↓reduceIte, reduceCtorEq, zB, zE, zA, zS, zL, zD, zM]
        refine cnd_mk (fun hd => ?_) (fun hd => ?_)
        ·have hi2 : i < A.length := by have := of_decide_eq_true hd; omega
         obtain ⟨q, hq⟩ : ∃ q, B[i]? = some q := ⟨B[i]'(by omega), by simp [hlE ▸ hi2]⟩
         have hp : A[i]? = some (shP (4096, 0) q) := by rw [hE, zab, hq]; rfl
         have hqw := all_within h4 _ (List.mem_of_getElem? hp)
         have hqv := all_within h2 _ (List.mem_of_getElem? hq)
         have wi : IntKind.i64.wrap ((i : Int) + 1) = (i : Int) + 1 := wrap_id (by omega)
         have wq : IntKind.i64.wrap (q.1 + 4096) = q.1 + 4096 := wrap_id (by omega)
         have hgA : ∀ z, (A.map ptR).getD i z = .agg [.v (.int .i64 (q.1 + 4096)), .v (.int .i64 q.2)] := fun z => by
          rw [zah, zab, hp]
          simp [shP, ptR, pnt]
         have hgB : ∀ z, (B.map ptR).getD i z = .agg [.v (.int .i64 q.1), .v (.int .i64 q.2)] := fun z => by
          rw [zah, zab, hq]
          rfl
         have hbq : (q.1 + 4096 == q.1 + 4096 && q.2 == q.2) = true := by simp
         simp only [rowP, pnt, hgA, hgB, wi, wq, hbq, zac, zad, zaa, zae, Nat.mul_one, Nat.one_mul, zaf, zag, zaa, push_cast, ↓reduceIte, reduceCtorEq, zB, zE, zA, zS, zL, zD, zM]
         repeat refine And.intro (by first | exact ⟨by omega, by omega⟩ | kernel_rfl) ?_
         exact ⟨⟨i + 1, by omega, by simp⟩, by omega⟩
        ·simp only [rowP, pnt, push_cast, ↓reduceIte, reduceCtorEq, zB, zE, zA, zS, zL, zD, zM]
         refine call_mk awake22_t rfl trivial ?_
         simp only [push_cast, ↓reduceIte, reduceCtorEq, zB, zE, zA, zS, zL, zD, zM]

end Go.Ev
