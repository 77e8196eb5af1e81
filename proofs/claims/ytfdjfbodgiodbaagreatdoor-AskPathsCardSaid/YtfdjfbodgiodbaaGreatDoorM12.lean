import Derived.Test.YtfdjfbodgiodbaaGreatDoorM11
namespace Go.Ev
set_option maxRecDepth 100000
open Go
set_option linter.unusedSectionVars false
set_option linter.unnecessarySimpa false
open Nat (reduceEqDiff reduceAdd reduceSub reduceLT reduceLeDiff reduceMul)
set_option linter.unusedSimpArgs false
set_option linter.unusedVariables false
noncomputable def apiarylaw25_AskOrder_pc : PC :=
  (.seq (.reg [p_s 10 (.mov (.c (.r (.v (.bool false)))))])
 (.seq (.reg [p_m 34 2, p_m 35 3, p_m 36 4, p_c 37 1 13 [.t 34, .t 35, .t 36], p_c 38 2 14 [.t 37], p_m 11 38])
 (.seq (.reg [p_m 39 1, p_s 40 (.bin .andNot (.t 39) (.c (.r (.v (.int .u64 17293822569102704640))))), p_c 41 3 14 [.t 40], p_m 12 41])
 (.seq (.reg [p_m 42 0, p_c 43 4 12 [.t 42], p_m 13 43])
 (.seq (.reg [p_a 45 (.bsl 1 (.v (.int .u8 0)) [(.c (.r (.v (.int .u8 47)))), (.c (.r (.v (.int .u8 114)))), (.c (.r (.v (.int .u8 105)))), (.c (.r (.v (.int .u8 110)))), (.c (.r (.v (.int .u8 103)))), (.c (.r (.v (.int .u8 63)))), (.c (.r (.v (.int .u8 119)))), (.c (.r (.v (.int .u8 61)))), (.c (.r (.v (.int .u8 122)))), (.c (.r (.v (.int .u8 122)))), (.c (.r (.v (.int .u8 38)))), (.c (.r (.v (.int .u8 107)))), (.c (.r (.v (.int .u8 61)))), (.c (.r (.v (.int .u8 120))))]),
 p_a 46 (.mrk (.t 45)), p_c 47 5 11 [.t 46], p_m 44 47, p_s 48 (.ext (.t 44) 0), p_s 49 (.ext (.t 44) 1), p_a 14 (.new [(.r (.v (.int .i64 0))), (.nils 1 (.v (.int .i64 0))), (.nils 1 (.v (.int .u64 0))), (.nils 2 (.agg [(.v (.int .i64 0)), (.v (.int .i64 0))])), (.nils 5 (.agg [(.v (.int .i64 0)), (.v (.int .i64 0)), (.v (.int .i64 0)), (.v (.int .i64 0)), (.v (.int .i64 0))]))]),
 ⟨none, none, 0, .act (.st 5 (.t 14) (.t 48))⟩, p_m 15 49])
 (.seq (.reg [p_m 51 13, p_s 52 (.bin .add (.c (.r (.v (.string ⟨#[47, 114, 105, 110, 103, 63, 119, 61, 122, 122, 38, 107, 61]⟩)))) (.t 51)), p_a 53 (.toBytes (.v (.int .u8 0)) (.t 52)),
 p_c 54 6 11 [.t 53], p_m 50 54, p_s 55 (.ext (.t 50) 0), p_s 56 (.ext (.t 50) 1), p_a 16 (.new [(.r (.v (.int .i64 0))), (.nils 1 (.v (.int .i64 0))), (.nils 1 (.v (.int .u64 0))), (.nils 2 (.agg [(.v (.int .i64 0)), (.v (.int .i64 0))])), (.nils 5 (.agg [(.v (.int .i64 0)), (.v (.int .i64 0)), (.v (.int .i64 0)), (.v (.int .i64 0)), (.v (.int .i64 0))]))]),
 ⟨none, none, 0, .act (.st 5 (.t 16) (.t 55))⟩, p_m 17 56])
 (.seq (.reg [p_m 58 12, p_s 59 (.bin .add (.c (.r (.v (.string ⟨#[47, 114, 105, 110, 103, 63, 119, 61]⟩)))) (.t 58)), p_s 60 (.bin .add (.t 59) (.c (.r (.v (.string ⟨#[38, 107, 61]⟩))))),
 p_m 61 13, p_s 62 (.bin .add (.t 60) (.t 61)), p_a 63 (.toBytes (.v (.int .u8 0)) (.t 62)), p_c 64 7 11 [.t 63], p_m 57 64, p_s 65 (.ext (.t 57) 0), p_s 66 (.ext (.t 57) 1),
 p_a 18 (.new [(.r (.v (.int .i64 0))), (.nils 1 (.v (.int .i64 0))), (.nils 1 (.v (.int .u64 0))), (.nils 2 (.agg [(.v (.int .i64 0)), (.v (.int .i64 0))])), (.nils 5 (.agg [(.v (.int .i64 0)), (.v (.int .i64 0)), (.v (.int .i64 0)), (.v (.int .i64 0)), (.v (.int .i64 0))]))]),
 ⟨none, none, 0, .act (.st 5 (.t 18) (.t 65))⟩, p_m 19 66])
 (.seq (.reg [p_m 68 11, p_s 69 (.bin .add (.c (.r (.v (.string ⟨#[47, 114, 105, 110, 103, 63, 119, 61]⟩)))) (.t 68)), p_s 70 (.bin .add (.t 69) (.c (.r (.v (.string ⟨#[38, 107, 61]⟩))))),
 p_m 71 13, p_s 72 (.bin .add (.t 70) (.t 71)), p_a 73 (.toBytes (.v (.int .u8 0)) (.t 72)), p_c 74 8 11 [.t 73], p_m 67 74, p_s 75 (.ext (.t 67) 0), p_s 76 (.ext (.t 67) 1),
 p_a 20 (.new [(.r (.v (.int .i64 0))), (.nils 1 (.v (.int .i64 0))), (.nils 1 (.v (.int .u64 0))), (.nils 2 (.agg [(.v (.int .i64 0)), (.v (.int .i64 0))])), (.nils 5 (.agg [(.v (.int .i64 0)), (.v (.int .i64 0)), (.v (.int .i64 0)), (.v (.int .i64 0)), (.v (.int .i64 0))]))]),
 ⟨none, none, 0, .act (.st 5 (.t 20) (.t 75))⟩, p_m 21 76])
 (.seq (.reg [p_m 78 12, p_s 79 (.bin .add (.c (.r (.v (.string ⟨#[47, 100, 105, 115, 116, 63, 119, 61]⟩)))) (.t 78)), p_s 80 (.bin .add (.t 79) (.c (.r (.v (.string ⟨#[38, 118, 61, 113]⟩))))),
 p_a 81 (.toBytes (.v (.int .u8 0)) (.t 80)), p_c 82 9 11 [.t 81], p_m 77 82, p_s 83 (.ext (.t 77) 0), p_s 84 (.ext (.t 77) 1), p_a 22 (.new [(.r (.v (.int .i64 0))), (.nils 1 (.v (.int .i64 0))), (.nils 1 (.v (.int .u64 0))), (.nils 2 (.agg [(.v (.int .i64 0)), (.v (.int .i64 0))])), (.nils 5 (.agg [(.v (.int .i64 0)), (.v (.int .i64 0)), (.v (.int .i64 0)), (.v (.int .i64 0)), (.v (.int .i64 0))]))]),
 ⟨none, none, 0, .act (.st 5 (.t 22) (.t 83))⟩, p_m 23 84])
 (.seq (.reg [p_m 86 11, p_s 87 (.bin .add (.c (.r (.v (.string ⟨#[47, 100, 105, 115, 116, 63, 119, 61]⟩)))) (.t 86)), p_s 88 (.bin .add (.t 87) (.c (.r (.v (.string ⟨#[38, 118, 61, 113]⟩))))),
 p_a 89 (.toBytes (.v (.int .u8 0)) (.t 88)), p_c 90 10 11 [.t 89], p_m 85 90, p_s 91 (.ext (.t 85) 0), p_s 92 (.ext (.t 85) 1), p_a 24 (.new [(.r (.v (.int .i64 0))), (.nils 1 (.v (.int .i64 0))), (.nils 1 (.v (.int .u64 0))), (.nils 2 (.agg [(.v (.int .i64 0)), (.v (.int .i64 0))])), (.nils 5 (.agg [(.v (.int .i64 0)), (.v (.int .i64 0)), (.v (.int .i64 0)), (.v (.int .i64 0)), (.v (.int .i64 0))]))]),
 ⟨none, none, 0, .act (.st 5 (.t 24) (.t 91))⟩, p_m 25 92])
 (.seq (.reg [p_m 94 13, p_s 95 (.bin .add (.c (.r (.v (.string ⟨#[47, 114, 105, 110, 103, 63, 107, 61]⟩)))) (.t 94)), p_s 96 (.bin .add (.t 95) (.c (.r (.v (.string ⟨#[38, 119, 61]⟩))))),
 p_m 97 11, p_s 98 (.bin .add (.t 96) (.t 97)), p_a 99 (.toBytes (.v (.int .u8 0)) (.t 98)), p_c 100 11 11 [.t 99], p_m 93 100, p_s 101 (.ext (.t 93) 0), p_s 102 (.ext (.t 93) 1),
 p_a 26 (.new [(.r (.v (.int .i64 0))), (.nils 1 (.v (.int .i64 0))), (.nils 1 (.v (.int .u64 0))), (.nils 2 (.agg [(.v (.int .i64 0)), (.v (.int .i64 0))])), (.nils 5 (.agg [(.v (.int .i64 0)), (.v (.int .i64 0)), (.v (.int .i64 0)), (.v (.int .i64 0)), (.v (.int .i64 0))]))]),
 ⟨none, none, 0, .act (.st 5 (.t 26) (.t 101))⟩, p_m 27 102])
 (.seq (.reg [p_m 104 11, p_s 105 (.bin .add (.c (.r (.v (.string ⟨#[47, 114, 105, 110, 103, 63, 119, 61]⟩)))) (.t 104)), p_s 106 (.bin .add (.t 105) (.c (.r (.v (.string ⟨#[38, 107, 61]⟩))))),
 p_m 107 13, p_s 108 (.bin .add (.t 106) (.t 107)), p_s 109 (.bin .add (.t 108) (.c (.r (.v (.string ⟨#[38, 107, 61]⟩))))), p_m 110 13, p_s 111 (.bin .add (.t 109) (.t 110)),
 p_a 112 (.toBytes (.v (.int .u8 0)) (.t 111)), p_c 113 12 11 [.t 112], p_m 103 113, p_s 114 (.ext (.t 103) 0), p_s 115 (.ext (.t 103) 1), p_a 28 (.new [(.r (.v (.int .i64 0))), (.nils 1 (.v (.int .i64 0))), (.nils 1 (.v (.int .u64 0))), (.nils 2 (.agg [(.v (.int .i64 0)), (.v (.int .i64 0))])), (.nils 5 (.agg [(.v (.int .i64 0)), (.v (.int .i64 0)), (.v (.int .i64 0)), (.v (.int .i64 0)), (.v (.int .i64 0))]))]),
 ⟨none, none, 0, .act (.st 5 (.t 28) (.t 114))⟩, p_m 29 115])
 (.seq (.reg [p_a 117 (.bsl 1 (.v (.int .u8 0)) [(.c (.r (.v (.int .u8 47)))), (.c (.r (.v (.int .u8 114)))), (.c (.r (.v (.int .u8 105)))), (.c (.r (.v (.int .u8 110)))), (.c (.r (.v (.int .u8 103))))]),
 p_a 118 (.mrk (.t 117)), p_c 119 13 11 [.t 118], p_m 116 119, p_s 120 (.ext (.t 116) 0), p_s 121 (.ext (.t 116) 1), p_a 30 (.new [(.r (.v (.int .i64 0))), (.nils 1 (.v (.int .i64 0))), (.nils 1 (.v (.int .u64 0))), (.nils 2 (.agg [(.v (.int .i64 0)), (.v (.int .i64 0))])), (.nils 5 (.agg [(.v (.int .i64 0)), (.v (.int .i64 0)), (.v (.int .i64 0)), (.v (.int .i64 0)), (.v (.int .i64 0))]))]),
 ⟨none, none, 0, .act (.st 5 (.t 30) (.t 120))⟩, p_m 31 121])
 (.seq (.reg [p_a 123 (.bsl 1 (.v (.int .u8 0)) [(.c (.r (.v (.int .u8 47)))), (.c (.r (.v (.int .u8 105)))), (.c (.r (.v (.int .u8 110)))), (.c (.r (.v (.int .u8 102)))), (.c (.r (.v (.int .u8 111)))), (.c (.r (.v (.int .u8 63))))]),
 p_a 124 (.mrk (.t 123)), p_c 125 14 11 [.t 124], p_m 122 125, p_s 126 (.ext (.t 122) 0), p_s 127 (.ext (.t 122) 1), p_a 32 (.new [(.r (.v (.int .i64 0))), (.nils 1 (.v (.int .i64 0))), (.nils 1 (.v (.int .u64 0))), (.nils 2 (.agg [(.v (.int .i64 0)), (.v (.int .i64 0))])), (.nils 5 (.agg [(.v (.int .i64 0)), (.v (.int .i64 0)), (.v (.int .i64 0)), (.v (.int .i64 0)), (.v (.int .i64 0))]))]),
 ⟨none, none, 0, .act (.st 5 (.t 32) (.t 126))⟩, p_m 33 127])
 (.seq (.reg [p_m 128 15, p_s 129 (.bin .eql (.t 128) (o_i 16)), p_m 130 129, p_g 131 130 true (.mov (.t 17)), p_g 132 130 true (.bin .eql (.t 131) (o_i 6)), p_s 133 (.pick (.t 130) (.t 132) (.c (.r (.v (.bool false))))),
 p_m 134 133, p_g 135 134 true (.mov (.t 19)), p_g 136 134 true (.bin .eql (.t 135) (o_i 5)), p_s 137 (.pick (.t 134) (.t 136) (.c (.r (.v (.bool false))))), p_m 138 137,
 p_g 139 138 true (.mov (.t 21)), p_g 140 138 true (.bin .eql (.t 139) (o_i 0)), p_s 141 (.pick (.t 138) (.t 140) (.c (.r (.v (.bool false))))), p_m 142 141, p_g 143 142 true (.fa 1 (.t 20)),
 p_g 144 142 true (.ld none (.t 143)), p_g 145 142 true (.ia 1 (.v (.int .i64 0)) (.t 144) (o_i 0)), p_g 146 142 true (.ld none (.t 145)), p_g 147 142 true (.mov (.t 0)),
 p_g 148 142 true (.bin .eql (.t 146) (.t 147)), p_s 149 (.pick (.t 142) (.t 148) (.c (.r (.v (.bool false))))), p_m 150 149, p_g 151 150 true (.mov (.t 23)), p_g 152 150 true (.bin .eql (.t 151) (o_i 5)),
 p_s 153 (.pick (.t 150) (.t 152) (.c (.r (.v (.bool false))))), p_m 154 153, p_g 155 154 true (.mov (.t 25)), p_g 156 154 true (.bin .eql (.t 155) (o_i 6)), p_s 157 (.pick (.t 154) (.t 156) (.c (.r (.v (.bool false))))),
 p_m 158 157, p_g 159 158 true (.mov (.t 27)), p_g 160 158 true (.bin .eql (.t 159) (o_i 16)), p_s 161 (.pick (.t 158) (.t 160) (.c (.r (.v (.bool false))))), p_m 162 161,
 p_g 163 162 true (.mov (.t 29)), p_g 164 162 true (.bin .eql (.t 163) (o_i 16)), p_s 165 (.pick (.t 162) (.t 164) (.c (.r (.v (.bool false))))), p_m 166 165, p_g 167 166 true (.mov (.t 31)),
 p_g 168 166 true (.bin .eql (.t 167) (o_i 16)), p_s 169 (.pick (.t 166) (.t 168) (.c (.r (.v (.bool false))))), p_m 170 169, p_g 171 170 true (.mov (.t 33)), p_g 172 170 true (.bin .eql (.t 171) (o_i 16)),
 p_s 173 (.pick (.t 170) (.t 172) (.c (.r (.v (.bool false))))), p_m 174 173, ⟨(some 175), (some (174, true)), 15, .call 9 []⟩, p_s 176 (.pick (.t 174) (.t 175) (.c (.r (.v (.bool false))))),
 p_m 10 176])
 .ret)))))))))))))))
theorem apiarylaw25_AskOrder_triple : Fun Go.Proofs.Tryz.prog 6 5 [(10, false, none)] apiarylaw25_AskOrder_pc := fun_mk Go.Proofs.Tryz.func6 rfl (by decide) (by kernel_rfl) (by decide) rfl (by kernel_rfl) (by kernel_rfl) (by decide)
theorem ring_p (V N : Bs) (hV : 38 ∉ V) (hN : 38 ∉ N) (hl : V.length + N.length ≤ 8000) : parseR (47 :: ([114, 105, 110, 103] ++ 63 :: (kv 119 V ++ 38 :: kv 107 N))) = match pv N with
  | none => (askA 0 [] [] [], 16)
  | some n => finP 5 [n] [] (wordsP [V] []) := by
 rw [parse_path _ _ (5, [114, 105, 110, 103], [(119, true), (107, false)]) (by decide) rfl (by decide) (by simp [kv]; omega), wholeR_q _ _ (by decide), ring_q 5 _ V N (by decide) hV hN]
 cases pv N <;> rfl
theorem dist_p (V N : Bs) (hV : 38 ∉ V) (hN : 38 ∉ N) (hl : V.length + N.length ≤ 8000) : parseR (47 :: ([100, 105, 115, 116] ++ 63 :: (kv 119 V ++ 38 :: kv 118 N))) = finP 7 [] [] (wordsP [V, N] []) := by
 rw [parse_path _ _ (7, [100, 105, 115, 116], [(119, true), (118, true)]) (by decide) rfl (by decide) (by simp [kv]; omega), wholeR_q _ _ (by decide), dist_q _ V N hV hN]
 rfl
theorem ring_bad (q : Bs) (hq : (queryR (5, [114, 105, 110, 103], [(119, true), (107, false)]) q).1.2.2 = false) (hl : q.length ≤ 8000) : parseR (47 :: ([114, 105, 110, 103] ++ 63 :: q)) = (askA 0 [] [] [], 16) := by
 rw [parse_path _ _ (5, [114, 105, 110, 103], [(119, true), (107, false)]) (by decide) rfl (by decide) (by simp <;> omega), wholeR_q _ _ (by decide), if_neg (by rw [hq]; simp)]
theorem ring_3 (V N M : Bs) (hV : 38 ∉ V) (hN : 38 ∉ N) (hM : 38 ∉ M) : (queryR (5, [114, 105, 110, 103], [(119, true), (107, false)]) (kv 119 V ++ 38 :: (kv 107 N ++ 38 :: kv 107 M))).1.2.2 = false := by
 unfold queryR
 rw [if_neg (by decide), pieces_cut 38 _ _ (kv_free (by decide) (by decide) hV), pieces_cut 38 _ _ (kv_free (by decide) (by decide) hN), pieces_free 38 _ (kv_free (by decide) (by decide) hM)]
 unfold queryG
 rw [if_pos (by simp)]
theorem ring_turned (V N : Bs) (hV : 38 ∉ V) (hN : 38 ∉ N) : (queryR (5, [114, 105, 110, 103], [(119, true), (107, false)]) (kv 107 N ++ 38 :: kv 119 V)).1.2.2 = false := by
 unfold queryR
 rw [if_neg (by decide), pieces_cut 38 _ _ (kv_free (by decide) (by decide) hN), pieces_free 38 _ (kv_free (by decide) (by decide) hV)]
 unfold queryG
 rw [if_neg (by simp)]
 simp only [fldsR, List.headD_cons, valP_ne _ (show (107 : UInt8) ≠ 119 by decide)]
theorem identP_bad {B : Nat} (h : B < 1152921504606846976) : identP (hexN B 16) = (0, 5) := by
 unfold identP
 rw [digitsP_hexN B (by omega)]
 simp only
 rw [if_neg]
 intro hB
 have := ((isWB_iff B).1 hB).1
 omega
theorem identP_good {W : Nat} (h : W < 18446744073709551616) (hB : isWB W = true) : identP (hexN W 16) = (W, 0) := by
 unfold identP
 rw [digitsP_hexN W h]
 simp only
 rw [if_pos hB]
theorem plain_free {l : Bs} (h : ∀ c ∈ l, plainC c) : (38 : UInt8) ∉ l := fun hm => plain_ne (h _ hm) (by decide) rfl
theorem itoa_len (n : Int) (hn : in64 n) : (Lib.itoa n).length ≤ 21 := by
 unfold in64 at hn
 unfold Lib.itoa
 split
 ·have := dec_len (u := n.natAbs) (k := 19) (by omega) (by decide)
  simp; omega
 ·have := dec_len (u := n.toNat) (k := 19) (by omega) (by decide)
  omega
theorem bstr_lit (l : Bs) : ByteArray.mk l.toArray = bstr l := rfl
theorem tame_of (l : Bs) (h : (l.all fun c => decide (c.toNat < 128 ∧ c.toNat ≠ 10)) = true) : Tame l := fun c hc => by
 have := List.all_eq_true.1 h c hc
 exact of_decide_eq_true this
set_option maxHeartbeats 2000000 in
theorem order_t (k : Int) (w : Nat) (x y r : Int) (hk : in64 k) (hw : w < 18446744073709551616) (hx : in64 x) (hy : in64 y) (hr : in64 r) :
  Triple Go.Proofs.Tryz.prog 6 [int .i64 k, uw w, int .i64 x, int .i64 y, int .i64 r] [] (bl true) [] := by
 refine apiarylaw25_AskOrder_triple rfl (by decide) ?_
 simp only [apiarylaw25_AskOrder_pc, uw, List.length_nil, push_cast, ↓reduceIte, reduceCtorEq, Nat.reduceBEq, reduceEqDiff, reduceAdd, reduceSub, reduceLT, reduceLeDiff, reduceMul]
 refine call_mk (aword_t x y r hx hy hr) rfl trivial ?_
 have hok := someC_okc x y r
 have hWl := word_lt _ _ hok
 have hWB := isWB_word hok
 obtain ⟨W, hW⟩ : ∃ W, word (someR r) (someC x y r) = W := ⟨_, rfl⟩
 rw [hW] at hWl hWB ⊢
 simp only [uw, push_cast, ↓reduceIte, reduceCtorEq, Nat.reduceBEq, reduceEqDiff, reduceAdd, reduceSub, reduceLT, reduceLeDiff, reduceMul]
 refine call_as (as' := [uw W]) rfl ?_
 refine call_mk (hex16_t W hWl) rfl trivial ?_
 obtain ⟨B, hB, hB60⟩ : ∃ B : Nat, IntKind.u64.wrap ((BitVec.ofInt IntKind.u64.bits (w : Int) &&& ~~~BitVec.ofInt IntKind.u64.bits 17293822569102704640).toNat : Int) = (B : Int) ∧ B < 1152921504606846976 := by
  refine ⟨w % 1152921504606846976, ?_, Nat.mod_lt _ (by decide)⟩
  rw [show ~~~BitVec.ofInt IntKind.u64.bits 17293822569102704640 = BitVec.ofInt IntKind.u64.bits 1152921504606846975 by decide]
  have := and_mask_u (w : Int) 1152921504606846975 60 (by decide) (by decide) (by omega) (by omega)
  rw [this]
  rfl
 simp only [uw, hB, push_cast, ↓reduceIte, reduceCtorEq, Nat.reduceBEq, reduceEqDiff, reduceAdd, reduceSub, reduceLT, reduceLeDiff, reduceMul]
 refine call_as (as' := [uw B]) rfl ?_
 refine call_mk (hex16_t B (by omega)) rfl trivial ?_
 simp only [uw, push_cast, ↓reduceIte, reduceCtorEq, Nat.reduceBEq, reduceEqDiff, reduceAdd, reduceSub, reduceLT, reduceLeDiff, reduceMul]
 refine call_mk (rtext_t k hk) rfl trivial ?_
 obtain ⟨V, hV⟩ : ∃ V, hexN W 16 = V := ⟨_, rfl⟩
 obtain ⟨D, hD⟩ : ∃ D, hexN B 16 = D := ⟨_, rfl⟩
 obtain ⟨N, hN⟩ : ∃ N, Lib.itoa k = N := ⟨_, rfl⟩
 have Vp : ∀ c ∈ V, plainC c := by rw [← hV]; exact hexN_plain W 16
 have Dp : ∀ c ∈ D, plainC c := by rw [← hD]; exact hexN_plain B 16
 have Np : ∀ c ∈ N, plainC c := by rw [← hN]; exact itoa_plain k
 have Vl : V.length = 16 := by rw [← hV]; exact hexN_len W 16
 have Dl : D.length = 16 := by rw [← hD]; exact hexN_len B 16
 have Nl : N.length ≤ 21 := by rw [← hN]; exact itoa_len k hk
 have Vi : identP V = (W, 0) := by rw [← hV]; exact identP_good hWl hWB
 have Di : identP D = (0, 5) := by rw [← hD]; exact identP_bad hB60
 have Nv : pv N = some k := (pv_iff _ _).2 ⟨hk, hN⟩
 have Vt := plain_tame Vp
 have Dt := plain_tame Dp
 have Nt := plain_tame Np
 have Vf := plain_free Vp
 have Df := plain_free Dp
 have Nf := plain_free Np
 rw [txt_eq, hN, hV, hD]
 clear hN hV hD
 simp only [push_cast, ↓reduceIte, reduceCtorEq, Nat.reduceBEq, reduceEqDiff, reduceAdd, reduceSub, reduceLT, reduceLeDiff, reduceMul]
 refine ⟨by simp, callA_give ?_⟩
 simp only [push_cast, ↓reduceIte, reduceCtorEq, Nat.reduceBEq, reduceEqDiff, reduceAdd, reduceSub, reduceLT, reduceLeDiff, reduceMul]
 refine call_as (as' := [sb (47 :: ([114, 105, 110, 103] ++ 63 :: (kv 119 [122, 122] ++ 38 :: kv 107 [120])))]) rfl ?_
 refine call_mk (pars _ (askA 0 [] [] []) 16 (by decide) (tame_of _ (by decide)) (by rw [ring_p _ _ (by decide) (by decide) (by decide), pv_no [120] (by decide)])) rfl trivial ?_
 simp only [askA, nilOr, bstr_lit, List.map_cons, List.map_nil, bstr_app, bstr_size, bstr_data, push_cast, ↓reduceIte, reduceCtorEq, Nat.reduceBEq, reduceEqDiff, reduceAdd, reduceSub, reduceLT, reduceLeDiff, reduceMul]
 repeat refine And.intro (by first | omega | (have := maxLen_big; omega) | (simp; done) | (simp; have := maxLen_big; omega)) ?_
 refine callA_give ?_
 simp only [List.map_append, List.length_append, push_cast, ↓reduceIte, reduceCtorEq, Nat.reduceBEq, reduceEqDiff, reduceAdd, reduceSub, reduceLT, reduceLeDiff, reduceMul]
 refine call_as (as' := [sb (47 :: ([114, 105, 110, 103] ++ 63 :: (kv 119 [122, 122] ++ 38 :: (kv 107 N))))]) (by first | (simp [kv, by8]; done) | (simp [kv, by8]; rw [List.take_of_length_le (by simp <;> omega)]; rfl)) ?_
 refine call_mk (pars _ (askA 0 [] [] []) 6 (by simp [kv]; try omega) (by unfold Tame; simp only [kv, List.cons_append, List.nil_append, List.forall_mem_cons, List.forall_mem_append]; repeat (first | exact Nt | exact Vt | exact Dt | decide | (refine And.intro (by first | decide | exact Dt | exact Vt | exact Nt) ?_)); try (simp; done)) (by rw [ring_p _ _ (by decide) Nf (by simp; omega), Nv]; rfl)) rfl trivial ?_
 simp only [askA, nilOr, finP, bstr_lit, List.map_cons, List.map_nil, List.map_append, List.length_append, bstr_app, bstr_size, bstr_data, push_cast, ↓reduceIte, reduceCtorEq, Nat.reduceBEq, reduceEqDiff, reduceAdd, reduceSub, reduceLT, reduceLeDiff, reduceMul]
 repeat refine And.intro (by first | omega | (have := maxLen_big; omega) | (simp; done) | (simp; have := maxLen_big; omega)) ?_
 refine callA_give ?_
 simp only [List.map_append, List.length_append, push_cast, ↓reduceIte, reduceCtorEq, Nat.reduceBEq, reduceEqDiff, reduceAdd, reduceSub, reduceLT, reduceLeDiff, reduceMul]
 refine call_as (as' := [sb (47 :: ([114, 105, 110, 103] ++ 63 :: (kv 119 D ++ 38 :: (kv 107 N))))]) (by first | (simp [kv, by8]; done) | (simp [kv, by8]; rw [List.take_of_length_le (by simp <;> omega)]; rfl)) ?_
 refine call_mk (pars _ (askA 0 [] [] []) 5 (by simp [kv]; try omega) (by unfold Tame; simp only [kv, List.cons_append, List.nil_append, List.forall_mem_cons, List.forall_mem_append]; repeat (first | exact Nt | exact Vt | exact Dt | decide | (refine And.intro (by first | decide | exact Dt | exact Vt | exact Nt) ?_)); try (simp; done)) (by rw [ring_p _ _ Df Nf (by omega), Nv, words_1, Di]; rfl)) rfl trivial ?_
 simp only [askA, nilOr, finP, bstr_lit, List.map_cons, List.map_nil, List.map_append, List.length_append, bstr_app, bstr_size, bstr_data, push_cast, ↓reduceIte, reduceCtorEq, Nat.reduceBEq, reduceEqDiff, reduceAdd, reduceSub, reduceLT, reduceLeDiff, reduceMul]
 repeat refine And.intro (by first | omega | (have := maxLen_big; omega) | (simp; done) | (simp; have := maxLen_big; omega)) ?_
 refine callA_give ?_
 simp only [List.map_append, List.length_append, push_cast, ↓reduceIte, reduceCtorEq, Nat.reduceBEq, reduceEqDiff, reduceAdd, reduceSub, reduceLT, reduceLeDiff, reduceMul]
 refine call_as (as' := [sb (47 :: ([114, 105, 110, 103] ++ 63 :: (kv 119 V ++ 38 :: (kv 107 N))))]) (by first | (simp [kv, by8]; done) | (simp [kv, by8]; rw [List.take_of_length_le (by simp <;> omega)]; rfl)) ?_
 refine call_mk (pars _ (askA 5 [k] [W] []) 0 (by simp [kv]; try omega) (by unfold Tame; simp only [kv, List.cons_append, List.nil_append, List.forall_mem_cons, List.forall_mem_append]; repeat (first | exact Nt | exact Vt | exact Dt | decide | (refine And.intro (by first | decide | exact Dt | exact Vt | exact Nt) ?_)); try (simp; done)) (by rw [ring_p _ _ Vf Nf (by omega), Nv, words_1, Vi]; rfl)) rfl trivial ?_
 simp only [askA, nilOr, finP, bstr_lit, List.map_cons, List.map_nil, List.map_append, List.length_append, bstr_app, bstr_size, bstr_data, push_cast, ↓reduceIte, reduceCtorEq, Nat.reduceBEq, reduceEqDiff, reduceAdd, reduceSub, reduceLT, reduceLeDiff, reduceMul]
 repeat refine And.intro (by first | omega | (have := maxLen_big; omega) | (simp; done) | (simp; have := maxLen_big; omega)) ?_
 refine callA_give ?_
 simp only [List.map_append, List.length_append, push_cast, ↓reduceIte, reduceCtorEq, Nat.reduceBEq, reduceEqDiff, reduceAdd, reduceSub, reduceLT, reduceLeDiff, reduceMul]
 refine call_as (as' := [sb (47 :: ([100, 105, 115, 116] ++ 63 :: (kv 119 D ++ 38 :: (kv 118 [113]))))]) (by first | (simp [kv, by8]; done) | (simp [kv, by8]; rw [List.take_of_length_le (by simp <;> omega)]; rfl)) ?_
 refine call_mk (pars _ (askA 0 [] [] []) 5 (by simp [kv]; try omega) (by unfold Tame; simp only [kv, List.cons_append, List.nil_append, List.forall_mem_cons, List.forall_mem_append]; repeat (first | exact Nt | exact Vt | exact Dt | decide | (refine And.intro (by first | decide | exact Dt | exact Vt | exact Nt) ?_)); try (simp; done)) (by rw [dist_p _ _ Df (by decide) (by simp [Dl]), wordsP, Di]; rfl)) rfl trivial ?_
 simp only [askA, nilOr, finP, bstr_lit, List.map_cons, List.map_nil, List.map_append, List.length_append, bstr_app, bstr_size, bstr_data, push_cast, ↓reduceIte, reduceCtorEq, Nat.reduceBEq, reduceEqDiff, reduceAdd, reduceSub, reduceLT, reduceLeDiff, reduceMul]
 repeat refine And.intro (by first | omega | (have := maxLen_big; omega) | (simp; done) | (simp; have := maxLen_big; omega)) ?_
 refine callA_give ?_
 simp only [List.map_append, List.length_append, push_cast, ↓reduceIte, reduceCtorEq, Nat.reduceBEq, reduceEqDiff, reduceAdd, reduceSub, reduceLT, reduceLeDiff, reduceMul]
 refine call_as (as' := [sb (47 :: ([100, 105, 115, 116] ++ 63 :: (kv 119 V ++ 38 :: (kv 118 [113]))))]) (by first | (simp [kv, by8]; done) | (simp [kv, by8]; rw [List.take_of_length_le (by simp <;> omega)]; rfl)) ?_
 refine call_mk (pars _ (askA 0 [] [] []) 6 (by simp [kv]; try omega) (by unfold Tame; simp only [kv, List.cons_append, List.nil_append, List.forall_mem_cons, List.forall_mem_append]; repeat (first | exact Nt | exact Vt | exact Dt | decide | (refine And.intro (by first | decide | exact Dt | exact Vt | exact Nt) ?_)); try (simp; done)) (by rw [dist_p _ _ Vf (by decide) (by simp [Vl]), wordsP, Vi]; rfl)) rfl trivial ?_
 simp only [askA, nilOr, finP, bstr_lit, List.map_cons, List.map_nil, List.map_append, List.length_append, bstr_app, bstr_size, bstr_data, push_cast, ↓reduceIte, reduceCtorEq, Nat.reduceBEq, reduceEqDiff, reduceAdd, reduceSub, reduceLT, reduceLeDiff, reduceMul]
 repeat refine And.intro (by first | omega | (have := maxLen_big; omega) | (simp; done) | (simp; have := maxLen_big; omega)) ?_
 refine callA_give ?_
 simp only [List.map_append, List.length_append, push_cast, ↓reduceIte, reduceCtorEq, Nat.reduceBEq, reduceEqDiff, reduceAdd, reduceSub, reduceLT, reduceLeDiff, reduceMul]
 refine call_as (as' := [sb (47 :: ([114, 105, 110, 103] ++ 63 :: (kv 107 N ++ 38 :: (kv 119 V))))]) (by first | (simp [kv, by8]; done) | (simp [kv, by8]; rw [List.take_of_length_le (by simp <;> omega)]; rfl)) ?_
 refine call_mk (pars _ (askA 0 [] [] []) 16 (by simp [kv]; try omega) (by unfold Tame; simp only [kv, List.cons_append, List.nil_append, List.forall_mem_cons, List.forall_mem_append]; repeat (first | exact Nt | exact Vt | exact Dt | decide | (refine And.intro (by first | decide | exact Dt | exact Vt | exact Nt) ?_)); try (simp; done)) (ring_bad _ (ring_turned V N Vf Nf) (by simp [kv]; omega))) rfl trivial ?_
 simp only [askA, nilOr, finP, bstr_lit, List.map_cons, List.map_nil, List.map_append, List.length_append, bstr_app, bstr_size, bstr_data, push_cast, ↓reduceIte, reduceCtorEq, Nat.reduceBEq, reduceEqDiff, reduceAdd, reduceSub, reduceLT, reduceLeDiff, reduceMul]
 repeat refine And.intro (by first | omega | (have := maxLen_big; omega) | (simp; done) | (simp; have := maxLen_big; omega)) ?_
 refine callA_give ?_
 simp only [List.map_append, List.length_append, push_cast, ↓reduceIte, reduceCtorEq, Nat.reduceBEq, reduceEqDiff, reduceAdd, reduceSub, reduceLT, reduceLeDiff, reduceMul]
 refine call_as (as' := [sb (47 :: ([114, 105, 110, 103] ++ 63 :: (kv 119 V ++ 38 :: (kv 107 N ++ 38 :: (kv 107 N)))))]) (by first | (simp [kv, by8]; done) | (simp [kv, by8]; rw [List.take_of_length_le (by simp <;> omega)]; rfl)) ?_
 refine call_mk (pars _ (askA 0 [] [] []) 16 (by simp [kv]; try omega) (by unfold Tame; simp only [kv, List.cons_append, List.nil_append, List.forall_mem_cons, List.forall_mem_append]; repeat (first | exact Nt | exact Vt | exact Dt | decide | (refine And.intro (by first | decide | exact Dt | exact Vt | exact Nt) ?_)); try (simp; done)) (ring_bad _ (ring_3 V N N Vf Nf Nf) (by simp [kv]; omega))) rfl trivial ?_
 simp only [askA, nilOr, finP, bstr_lit, List.map_cons, List.map_nil, List.map_append, List.length_append, bstr_app, bstr_size, bstr_data, push_cast, ↓reduceIte, reduceCtorEq, Nat.reduceBEq, reduceEqDiff, reduceAdd, reduceSub, reduceLT, reduceLeDiff, reduceMul]
 repeat refine And.intro (by first | omega | (have := maxLen_big; omega) | (simp; done) | (simp; have := maxLen_big; omega)) ?_
 refine callA_give ?_
 simp only [List.map_append, List.length_append, push_cast, ↓reduceIte, reduceCtorEq, Nat.reduceBEq, reduceEqDiff, reduceAdd, reduceSub, reduceLT, reduceLeDiff, reduceMul]
 refine call_as (as' := [sb (47 :: [114, 105, 110, 103])]) (by first | (simp [kv, by8]; done) | (simp [kv, by8]; rw [List.take_of_length_le (by simp <;> omega)]; rfl)) ?_
 refine call_mk (pars _ (askA 0 [] [] []) 16 (by simp [kv]; try omega) (by unfold Tame; simp only [kv, List.cons_append, List.nil_append, List.forall_mem_cons, List.forall_mem_append]; repeat (first | exact Nt | exact Vt | exact Dt | decide | (refine And.intro (by first | decide | exact Dt | exact Vt | exact Nt) ?_)); try (simp; done)) (by rw [parse_bare _ (5, [114, 105, 110, 103], [(119, true), (107, false)]) (by decide) rfl (by decide) (by decide)]; rfl)) rfl trivial ?_
 simp only [askA, nilOr, finP, bstr_lit, List.map_cons, List.map_nil, List.map_append, List.length_append, bstr_app, bstr_size, bstr_data, push_cast, ↓reduceIte, reduceCtorEq, Nat.reduceBEq, reduceEqDiff, reduceAdd, reduceSub, reduceLT, reduceLeDiff, reduceMul]
 repeat refine And.intro (by first | omega | (have := maxLen_big; omega) | (simp; done) | (simp; have := maxLen_big; omega)) ?_
 refine callA_give ?_
 simp only [List.map_append, List.length_append, push_cast, ↓reduceIte, reduceCtorEq, Nat.reduceBEq, reduceEqDiff, reduceAdd, reduceSub, reduceLT, reduceLeDiff, reduceMul]
 refine call_as (as' := [sb (47 :: ([105, 110, 102, 111] ++ 63 :: []))]) (by first | (simp [kv, by8]; done) | (simp [kv, by8]; rw [List.take_of_length_le (by simp <;> omega)]; rfl)) ?_
 refine call_mk (pars _ (askA 0 [] [] []) 16 (by simp [kv]; try omega) (by unfold Tame; simp only [kv, List.cons_append, List.nil_append, List.forall_mem_cons, List.forall_mem_append]; repeat (first | exact Nt | exact Vt | exact Dt | decide | (refine And.intro (by first | decide | exact Dt | exact Vt | exact Nt) ?_)); try (simp; done)) (by rw [parse_path _ _ (14, [105, 110, 102, 111], []) (by decide) rfl (by decide) (by decide)]; rfl)) rfl trivial ?_
 have hg : ∀ z, [n8 k].getD (Int.toNat 0) z = .v (.int .i64 k) := fun _ => rfl
 have hkk : (k == k) = true := by simp
 simp only [hg, hkk, askA, nilOr, finP, bstr_lit, List.map_cons, List.map_nil, List.map_append, List.length_append, bstr_app, bstr_size, bstr_data, push_cast, ↓reduceIte, reduceCtorEq, Nat.reduceBEq, reduceEqDiff, reduceAdd, reduceSub, reduceLT, reduceLeDiff, reduceMul]
 refine ⟨by decide, ?_⟩
 refine call_mk askawake_t rfl trivial ?_
 simp only [push_cast, ↓reduceIte, reduceCtorEq, Nat.reduceBEq, reduceEqDiff, reduceAdd, reduceSub, reduceLT, reduceLeDiff, reduceMul]

noncomputable def apiarylaw25_AskNumbers_pc : PC :=
  (.seq (.reg [p_s 12 (.mov (.c (.r (.v (.bool false)))))])
 (.seq (.reg [p_m 25 0, p_c 26 1 12 [.t 25], p_s 27 (.bin .add (.c (.r (.v (.string ⟨#[47, 99, 101, 108, 108, 63, 120, 61]⟩)))) (.t 26)), p_s 28 (.bin .add (.t 27) (.c (.r (.v (.string ⟨#[38, 121, 61]⟩))))),
 p_m 29 1, p_c 30 2 12 [.t 29], p_s 31 (.bin .add (.t 28) (.t 30)), p_s 32 (.bin .add (.t 31) (.c (.r (.v (.string ⟨#[38, 114, 61]⟩))))), p_m 33 2, p_c 34 3 12 [.t 33],
 p_s 35 (.bin .add (.t 32) (.t 34)), p_a 36 (.toBytes (.v (.int .u8 0)) (.t 35)), p_c 37 4 11 [.t 36], p_m 24 37, p_s 38 (.ext (.t 24) 0), p_s 39 (.ext (.t 24) 1),
 p_a 13 (.new [(.r (.v (.int .i64 0))), (.nils 1 (.v (.int .i64 0))), (.nils 1 (.v (.int .u64 0))), (.nils 2 (.agg [(.v (.int .i64 0)), (.v (.int .i64 0))])), (.nils 5 (.agg [(.v (.int .i64 0)), (.v (.int .i64 0)), (.v (.int .i64 0)), (.v (.int .i64 0)), (.v (.int .i64 0))]))]),
 ⟨none, none, 0, .act (.st 5 (.t 13) (.t 38))⟩, p_m 14 39])
 (.seq (.reg [p_m 40 3, p_m 41 4, p_m 42 5, p_c 43 5 13 [.t 40, .t 41, .t 42], p_m 15 43])
 (.seq (.reg [p_m 45 15, p_c 46 6 14 [.t 45], p_s 47 (.bin .add (.c (.r (.v (.string ⟨#[47, 110, 101, 97, 114, 63, 119, 61]⟩)))) (.t 46)), p_a 48 (.toBytes (.v (.int .u8 0)) (.t 47)),
 p_c 49 7 11 [.t 48], p_m 44 49, p_s 50 (.ext (.t 44) 0), p_s 51 (.ext (.t 44) 1), p_a 16 (.new [(.r (.v (.int .i64 0))), (.nils 1 (.v (.int .i64 0))), (.nils 1 (.v (.int .u64 0))), (.nils 2 (.agg [(.v (.int .i64 0)), (.v (.int .i64 0))])), (.nils 5 (.agg [(.v (.int .i64 0)), (.v (.int .i64 0)), (.v (.int .i64 0)), (.v (.int .i64 0)), (.v (.int .i64 0))]))]),
 ⟨none, none, 0, .act (.st 5 (.t 16) (.t 50))⟩, p_m 17 51])
 (.seq (.reg [p_m 53 2, p_c 54 8 12 [.t 53], p_s 55 (.bin .add (.c (.r (.v (.string ⟨#[47, 116, 111, 112, 63, 114, 61, 48]⟩)))) (.t 54)), p_s 56 (.bin .add (.t 55) (.c (.r (.v (.string ⟨#[38, 107, 61, 49]⟩))))),
 p_a 57 (.toBytes (.v (.int .u8 0)) (.t 56)), p_c 58 9 11 [.t 57], p_m 52 58, p_s 59 (.ext (.t 52) 0), p_s 60 (.ext (.t 52) 1), p_a 18 (.new [(.r (.v (.int .i64 0))), (.nils 1 (.v (.int .i64 0))), (.nils 1 (.v (.int .u64 0))), (.nils 2 (.agg [(.v (.int .i64 0)), (.v (.int .i64 0))])), (.nils 5 (.agg [(.v (.int .i64 0)), (.v (.int .i64 0)), (.v (.int .i64 0)), (.v (.int .i64 0)), (.v (.int .i64 0))]))]),
 ⟨none, none, 0, .act (.st 5 (.t 18) (.t 59))⟩, p_m 19 60])
 (.seq (.reg [p_a 62 (.bsl 1 (.v (.int .u8 0)) [(.c (.r (.v (.int .u8 47)))), (.c (.r (.v (.int .u8 116)))), (.c (.r (.v (.int .u8 111)))), (.c (.r (.v (.int .u8 112)))), (.c (.r (.v (.int .u8 63)))), (.c (.r (.v (.int .u8 114)))), (.c (.r (.v (.int .u8 61)))), (.c (.r (.v (.int .u8 43)))), (.c (.r (.v (.int .u8 49)))), (.c (.r (.v (.int .u8 38)))), (.c (.r (.v (.int .u8 107)))), (.c (.r (.v (.int .u8 61)))), (.c (.r (.v (.int .u8 49))))]),
 p_a 63 (.mrk (.t 62)), p_c 64 10 11 [.t 63], p_m 61 64, p_s 65 (.ext (.t 61) 0), p_s 66 (.ext (.t 61) 1), p_a 20 (.new [(.r (.v (.int .i64 0))), (.nils 1 (.v (.int .i64 0))), (.nils 1 (.v (.int .u64 0))), (.nils 2 (.agg [(.v (.int .i64 0)), (.v (.int .i64 0))])), (.nils 5 (.agg [(.v (.int .i64 0)), (.v (.int .i64 0)), (.v (.int .i64 0)), (.v (.int .i64 0)), (.v (.int .i64 0))]))]),
 ⟨none, none, 0, .act (.st 5 (.t 20) (.t 65))⟩, p_m 21 66])
 (.seq (.reg [p_a 68 (.bsl 1 (.v (.int .u8 0)) [(.c (.r (.v (.int .u8 47)))), (.c (.r (.v (.int .u8 116)))), (.c (.r (.v (.int .u8 111)))), (.c (.r (.v (.int .u8 112)))), (.c (.r (.v (.int .u8 63)))), (.c (.r (.v (.int .u8 114)))), (.c (.r (.v (.int .u8 61)))), (.c (.r (.v (.int .u8 57)))), (.c (.r (.v (.int .u8 50)))), (.c (.r (.v (.int .u8 50)))), (.c (.r (.v (.int .u8 51)))), (.c (.r (.v (.int .u8 51)))), (.c (.r (.v (.int .u8 55)))), (.c (.r (.v (.int .u8 50)))), (.c (.r (.v (.int .u8 48)))), (.c (.r (.v (.int .u8 51)))), (.c (.r (.v (.int .u8 54)))), (.c (.r (.v (.int .u8 56)))), (.c (.r (.v (.int .u8 53)))), (.c (.r (.v (.int .u8 52)))), (.c (.r (.v (.int .u8 55)))), (.c (.r (.v (.int .u8 55)))), (.c (.r (.v (.int .u8 53)))), (.c (.r (.v (.int .u8 56)))), (.c (.r (.v (.int .u8 48)))), (.c (.r (.v (.int .u8 56)))), (.c (.r (.v (.int .u8 38)))), (.c (.r (.v (.int .u8 107)))), (.c (.r (.v (.int .u8 61)))), (.c (.r (.v (.int .u8 49))))]),
 p_a 69 (.mrk (.t 68)), p_c 70 11 11 [.t 69], p_m 67 70, p_s 71 (.ext (.t 67) 0), p_s 72 (.ext (.t 67) 1), p_a 22 (.new [(.r (.v (.int .i64 0))), (.nils 1 (.v (.int .i64 0))), (.nils 1 (.v (.int .u64 0))), (.nils 2 (.agg [(.v (.int .i64 0)), (.v (.int .i64 0))])), (.nils 5 (.agg [(.v (.int .i64 0)), (.v (.int .i64 0)), (.v (.int .i64 0)), (.v (.int .i64 0)), (.v (.int .i64 0))]))]),
 ⟨none, none, 0, .act (.st 5 (.t 22) (.t 71))⟩, p_m 23 72])
 (.seq (.seq (.reg [p_m 73 14, p_s 74 (.bin .neq (.t 73) (o_i 0)), p_m 75 74, p_g 76 75 false (.fa 1 (.t 13)), p_g 77 75 false (.ld none (.t 76)), p_g 78 75 false (.len false (.t 77)),
 p_g 79 75 false (.bin .neq (.t 78) (o_i 3)), p_s 80 (.pick (.t 75) (.c (.r (.v (.bool true)))) (.t 79)), p_m 81 80, p_g 82 81 false (.fa 1 (.t 13)), p_g 83 81 false (.ld none (.t 82)),
 p_g 84 81 false (.ia 1 (.v (.int .i64 0)) (.t 83) (o_i 0)), p_g 85 81 false (.ld none (.t 84)), p_g 86 81 false (.mov (.t 0)), p_g 87 81 false (.bin .neq (.t 85) (.t 86)),
 p_s 88 (.pick (.t 81) (.c (.r (.v (.bool true)))) (.t 87)), p_m 89 88, p_g 90 89 false (.fa 1 (.t 13)), p_g 91 89 false (.ld none (.t 90)), p_g 92 89 false (.ia 1 (.v (.int .i64 0)) (.t 91) (o_i 1)),
 p_g 93 89 false (.ld none (.t 92)), p_g 94 89 false (.mov (.t 1)), p_g 95 89 false (.bin .neq (.t 93) (.t 94)), p_s 96 (.pick (.t 89) (.c (.r (.v (.bool true)))) (.t 95)),
 p_m 97 96, p_g 98 97 false (.fa 1 (.t 13)), p_g 99 97 false (.ld none (.t 98)), p_g 100 97 false (.ia 1 (.v (.int .i64 0)) (.t 99) (o_i 2)), p_g 101 97 false (.ld none (.t 100)),
 p_g 102 97 false (.mov (.t 2)), p_g 103 97 false (.bin .neq (.t 101) (.t 102)), p_s 104 (.pick (.t 97) (.c (.r (.v (.bool true)))) (.t 103))])
 (.cond (.t 104)
 (.seq (.reg [p_s 12 (.mov (.c (.r (.v (.bool false)))))])
 .ret)
 .skip))
 (.seq (.reg [p_m 105 17, p_s 106 (.bin .eql (.t 105) (o_i 0)), p_m 107 106, p_g 108 107 true (.fa 2 (.t 16)), p_g 109 107 true (.ld none (.t 108)), p_g 110 107 true (.len false (.t 109)),
 p_g 111 107 true (.bin .eql (.t 110) (o_i 1)), p_s 112 (.pick (.t 107) (.t 111) (.c (.r (.v (.bool false))))), p_m 113 112, p_g 114 113 true (.fa 2 (.t 16)), p_g 115 113 true (.ld none (.t 114)),
 p_g 116 113 true (.ia 1 (.v (.int .u64 0)) (.t 115) (o_i 0)), p_g 117 113 true (.ld none (.t 116)), p_g 118 113 true (.mov (.t 15)), p_g 119 113 true (.bin .eql (.t 117) (.t 118)),
 p_s 120 (.pick (.t 113) (.t 119) (.c (.r (.v (.bool false))))), p_m 121 120, p_g 122 121 true (.mov (.t 19)), p_g 123 121 true (.bin .eql (.t 122) (o_i 16)), p_s 124 (.pick (.t 121) (.t 123) (.c (.r (.v (.bool false))))),
 p_m 125 124, p_g 126 125 true (.mov (.t 21)), p_g 127 125 true (.bin .eql (.t 126) (o_i 16)), p_s 128 (.pick (.t 125) (.t 127) (.c (.r (.v (.bool false))))), p_m 129 128,
 p_g 130 129 true (.mov (.t 23)), p_g 131 129 true (.bin .eql (.t 130) (o_i 16)), p_s 132 (.pick (.t 129) (.t 131) (.c (.r (.v (.bool false))))), p_m 133 132, ⟨(some 134), (some (133, true)), 12, .call 9 []⟩,
 p_s 135 (.pick (.t 133) (.t 134) (.c (.r (.v (.bool false))))), p_m 12 135])
 .ret)))))))))
theorem apiarylaw25_AskNumbers_triple : Fun Go.Proofs.Tryz.prog 4 6 [(12, false, none)] apiarylaw25_AskNumbers_pc := fun_mk Go.Proofs.Tryz.func4 rfl (by decide) (by kernel_rfl) (by decide) rfl (by kernel_rfl) (by kernel_rfl) (by decide)
theorem near_p (V : Bs) (hV : 38 ∉ V) (hl : V.length ≤ 8000) : parseR (47 :: ([110, 101, 97, 114] ++ 63 :: kv 119 V)) = finP 4 [] [] (wordsP [V] []) := by
 rw [parse_path _ _ (4, [110, 101, 97, 114], [(119, true)]) (by decide) rfl (by decide) (by simp [kv]; omega), wholeR_q _ _ (by decide)]
 have hq : queryR (4, [110, 101, 97, 114], [(119, true)]) (kv 119 V) = (([], [V], true), []) := by
  unfold queryR
  rw [if_neg (by decide), pieces_free 38 _ (kv_free (by decide) (by decide) hV)]
  unfold queryG
  rw [if_neg (by simp)]
  simp only [fldsR, List.headD_cons, List.tail_cons, valP_kv, List.nil_append]
 rw [hq]
 rfl
theorem top_no (R K : Bs) (hR : 38 ∉ R) (hK : 38 ∉ K) (hp : pv R = none) (hl : R.length + K.length ≤ 8000) : parseR (47 :: ([116, 111, 112] ++ 63 :: (kv 114 R ++ 38 :: kv 107 K))) = (askA 0 [] [] [], 16) := by
 rw [parse_path _ _ (10, [116, 111, 112], nF [114, 107]) (by decide) rfl (by decide) (by simp [kv]; omega), wholeR_q _ _ (by decide)]
 have hq : (queryR (10, [116, 111, 112], nF [114, 107]) (kv 114 R ++ 38 :: kv 107 K)).1.2.2 = false := by
  unfold queryR
  rw [if_neg (by decide), pieces_cut 38 _ _ (kv_free (by decide) (by decide) hR), pieces_free 38 _ (kv_free (by decide) (by decide) hK)]
  unfold queryG
  rw [if_neg (by simp [nF])]
  simp only [nF, List.map_cons, List.map_nil, fldsR, List.headD_cons, List.tail_cons, valP_kv, List.nil_append, hp]
 rw [if_neg (by rw [hq]; simp)]
theorem decd_ne (n : Nat) : Lib.decDigits n ≠ [] := by
 rw [Lib.decDigits.eq_1]
 split <;> simp
theorem itoa_ne (n : Int) : Lib.itoa n ≠ [] := by
 unfold Lib.itoa
 split
 ·simp
 ·exact decd_ne _
theorem pv_nought (R : Bs) (h : R ≠ []) : pv (48 :: R) = none := by
 refine pv_no _ ?_
 have hl : 1 ≤ R.length := by
  cases R with
  | nil => exact absurd rfl h
  | cons a b => simp
 unfold rp
 exact rpd_no (.inr (.inr ⟨rfl, .inl (by simp; omega)⟩))
set_option maxHeartbeats 2000000 in
theorem numbers_t (x y r : Int) (u v s : Int) (hx : in64 x) (hy : in64 y) (hr : in64 r) (hu : in64 u) (hv : in64 v) (hs : in64 s) :
  Triple Go.Proofs.Tryz.prog 4 [int .i64 x, int .i64 y, int .i64 r, int .i64 u, int .i64 v, int .i64 s] [] (bl true) [] := by
 refine apiarylaw25_AskNumbers_triple rfl (by decide) ?_
 simp only [apiarylaw25_AskNumbers_pc, List.length_nil, push_cast, ↓reduceIte, reduceCtorEq, Nat.reduceBEq, reduceEqDiff, reduceAdd, reduceSub, reduceLT, reduceLeDiff, reduceMul]
 obtain ⟨X, hX⟩ : ∃ N, Lib.itoa x = N := ⟨_, rfl⟩
 obtain ⟨Y, hY⟩ : ∃ N, Lib.itoa y = N := ⟨_, rfl⟩
 obtain ⟨R, hR⟩ : ∃ N, Lib.itoa r = N := ⟨_, rfl⟩
 have hxt := rtext_t x hx
 have hyt := rtext_t y hy
 have hrt := rtext_t r hr
 rw [txt_eq, hX] at hxt
 rw [txt_eq, hY] at hyt
 rw [txt_eq, hR] at hrt
 have Xp : ∀ c ∈ X, plainC c := by rw [← hX]; exact itoa_plain x
 have Yp : ∀ c ∈ Y, plainC c := by rw [← hY]; exact itoa_plain y
 have Rp : ∀ c ∈ R, plainC c := by rw [← hR]; exact itoa_plain r
 have Xl : X.length ≤ 21 := by rw [← hX]; exact itoa_len x hx
 have Yl : Y.length ≤ 21 := by rw [← hY]; exact itoa_len y hy
 have Rl : R.length ≤ 21 := by rw [← hR]; exact itoa_len r hr
 have Rn : R ≠ [] := by rw [← hR]; exact itoa_ne r
 have Xv : pv X = some x := (pv_iff _ _).2 ⟨hx, hX⟩
 have Yv : pv Y = some y := (pv_iff _ _).2 ⟨hy, hY⟩
 have Rv : pv R = some r := (pv_iff _ _).2 ⟨hr, hR⟩
 have Xt := plain_tame Xp
 have Yt := plain_tame Yp
 have Rt := plain_tame Rp
 have Xf := plain_free Xp
 have Yf := plain_free Yp
 have Rf := plain_free Rp
 have hok := someC_okc u v s
 have hWl := word_lt _ _ hok
 have hWB := isWB_word hok
 obtain ⟨W, hW⟩ : ∃ W, word (someR s) (someC u v s) = W := ⟨_, rfl⟩
 have hwt := aword_t u v s hu hv hs
 rw [hW] at hWl hWB hwt
 obtain ⟨V, hV⟩ : ∃ V, hexN W 16 = V := ⟨_, rfl⟩
 have hht := hex16_t W hWl
 rw [hV] at hht
 have Vp : ∀ c ∈ V, plainC c := by rw [← hV]; exact hexN_plain W 16
 have Vl : V.length = 16 := by rw [← hV]; exact hexN_len W 16
 have Vi : identP V = (W, 0) := by rw [← hV]; exact identP_good hWl hWB
 have Vt := plain_tame Vp
 have Vf := plain_free Vp
 clear hX hY hR hV
 refine call_mk hxt rfl trivial ?_
 simp only [askA, nilOr, finP, bstr_lit, List.map_cons, List.map_nil, List.map_append, List.length_append, bstr_app, bstr_size, bstr_data, push_cast, ↓reduceIte, reduceCtorEq, Nat.reduceBEq, reduceEqDiff, reduceAdd, reduceSub, reduceLT, reduceLeDiff, reduceMul]
 repeat refine And.intro (by first | omega | (have := maxLen_big; omega) | (simp; done) | (simp; have := maxLen_big; omega)) ?_
 refine call_mk hyt rfl trivial ?_
 simp only [askA, nilOr, finP, bstr_lit, List.map_cons, List.map_nil, List.map_append, List.length_append, bstr_app, bstr_size, bstr_data, push_cast, ↓reduceIte, reduceCtorEq, Nat.reduceBEq, reduceEqDiff, reduceAdd, reduceSub, reduceLT, reduceLeDiff, reduceMul]
 repeat refine And.intro (by first | omega | (have := maxLen_big; omega) | (simp; done) | (simp; have := maxLen_big; omega)) ?_
 refine call_mk hrt rfl trivial ?_
 simp only [askA, nilOr, finP, bstr_lit, List.map_cons, List.map_nil, List.map_append, List.length_append, bstr_app, bstr_size, bstr_data, push_cast, ↓reduceIte, reduceCtorEq, Nat.reduceBEq, reduceEqDiff, reduceAdd, reduceSub, reduceLT, reduceLeDiff, reduceMul]
 repeat refine And.intro (by first | omega | (have := maxLen_big; omega) | (simp; done) | (simp; have := maxLen_big; omega)) ?_
 refine callA_give ?_
 simp only [List.map_append, List.length_append, push_cast, ↓reduceIte, reduceCtorEq, Nat.reduceBEq, reduceEqDiff, reduceAdd, reduceSub, reduceLT, reduceLeDiff, reduceMul]
 refine call_as (as' := [sb (47 :: ([99, 101, 108, 108] ++ 63 :: (kv 120 X ++ 38 :: (kv 121 Y ++ 38 :: (kv 114 R)))))]) (by first | (simp [kv, by8]; done) | (simp [kv, by8]; rw [List.take_of_length_le (by simp <;> omega)]; rfl)) ?_
 refine call_mk (pars _ (askA 1 [x, y, r] [] []) 0 (by simp [kv]; try omega) (by unfold Tame; simp only [kv, List.cons_append, List.nil_append, List.forall_mem_cons, List.forall_mem_append]; repeat (first | exact Xt | exact Yt | exact Rt | exact Vt | decide | (refine And.intro (by first | decide | exact Xt | exact Yt | exact Rt | exact Vt) ?_)); try (simp; done)) (cell_q X Y R x y r Xv Yv Rv Xf Yf Rf (by omega))) rfl trivial ?_
 simp only [askA, nilOr, finP, bstr_lit, List.map_cons, List.map_nil, List.map_append, List.length_append, bstr_app, bstr_size, bstr_data, push_cast, ↓reduceIte, reduceCtorEq, Nat.reduceBEq, reduceEqDiff, reduceAdd, reduceSub, reduceLT, reduceLeDiff, reduceMul]
 refine call_mk hwt rfl trivial ?_
 simp only [uw, push_cast, ↓reduceIte, reduceCtorEq, Nat.reduceBEq, reduceEqDiff, reduceAdd, reduceSub, reduceLT, reduceLeDiff, reduceMul]
 refine call_as (as' := [uw W]) rfl ?_
 refine call_mk hht rfl trivial ?_
 simp only [askA, nilOr, finP, bstr_lit, List.map_cons, List.map_nil, List.map_append, List.length_append, bstr_app, bstr_size, bstr_data, push_cast, ↓reduceIte, reduceCtorEq, Nat.reduceBEq, reduceEqDiff, reduceAdd, reduceSub, reduceLT, reduceLeDiff, reduceMul]
 repeat refine And.intro (by first | omega | (have := maxLen_big; omega) | (simp; done) | (simp; have := maxLen_big; omega)) ?_
 refine callA_give ?_
 simp only [List.map_append, List.length_append, push_cast, ↓reduceIte, reduceCtorEq, Nat.reduceBEq, reduceEqDiff, reduceAdd, reduceSub, reduceLT, reduceLeDiff, reduceMul]
 refine call_as (as' := [sb (47 :: ([110, 101, 97, 114] ++ 63 :: (kv 119 V)))]) (by first | (simp [kv, by8]; done) | (simp [kv, by8]; rw [List.take_of_length_le (by simp <;> omega)]; rfl)) ?_
 refine call_mk (pars _ (askA 4 [] [W] []) 0 (by simp [kv]; try omega) (by unfold Tame; simp only [kv, List.cons_append, List.nil_append, List.forall_mem_cons, List.forall_mem_append]; repeat (first | exact Xt | exact Yt | exact Rt | exact Vt | decide | (refine And.intro (by first | decide | exact Xt | exact Yt | exact Rt | exact Vt) ?_)); try (simp; done)) (by rw [near_p V Vf (by omega), words_1, Vi]; rfl)) rfl trivial ?_
 simp only [askA, nilOr, finP, bstr_lit, List.map_cons, List.map_nil, List.map_append, List.length_append, bstr_app, bstr_size, bstr_data, push_cast, ↓reduceIte, reduceCtorEq, Nat.reduceBEq, reduceEqDiff, reduceAdd, reduceSub, reduceLT, reduceLeDiff, reduceMul]
 refine call_mk hrt rfl trivial ?_
 simp only [askA, nilOr, finP, bstr_lit, List.map_cons, List.map_nil, List.map_append, List.length_append, bstr_app, bstr_size, bstr_data, push_cast, ↓reduceIte, reduceCtorEq, Nat.reduceBEq, reduceEqDiff, reduceAdd, reduceSub, reduceLT, reduceLeDiff, reduceMul]
 repeat refine And.intro (by first | omega | (have := maxLen_big; omega) | (simp; done) | (simp; have := maxLen_big; omega)) ?_
 refine callA_give ?_
 simp only [List.map_append, List.length_append, push_cast, ↓reduceIte, reduceCtorEq, Nat.reduceBEq, reduceEqDiff, reduceAdd, reduceSub, reduceLT, reduceLeDiff, reduceMul]
 refine call_as (as' := [sb (47 :: ([116, 111, 112] ++ 63 :: (kv 114 (48 :: R) ++ 38 :: (kv 107 [49]))))]) (by first | (simp [kv, by8]; done) | (simp [kv, by8]; rw [List.take_of_length_le (by simp <;> omega)]; rfl)) ?_
 refine call_mk (pars _ (askA 0 [] [] []) 16 (by simp [kv]; try omega) (by unfold Tame; simp only [kv, List.cons_append, List.nil_append, List.forall_mem_cons, List.forall_mem_append]; repeat (first | exact Xt | exact Yt | exact Rt | exact Vt | decide | (refine And.intro (by first | decide | exact Xt | exact Yt | exact Rt | exact Vt) ?_)); try (simp; done)) (top_no _ _ (by simp [Rf]) (by decide) (pv_nought R Rn) (by simp; omega))) rfl trivial ?_
 simp only [askA, nilOr, finP, bstr_lit, List.map_cons, List.map_nil, List.map_append, List.length_append, bstr_app, bstr_size, bstr_data, push_cast, ↓reduceIte, reduceCtorEq, Nat.reduceBEq, reduceEqDiff, reduceAdd, reduceSub, reduceLT, reduceLeDiff, reduceMul]
 repeat refine And.intro (by first | omega | (have := maxLen_big; omega) | (simp; done) | (simp; have := maxLen_big; omega)) ?_
 refine callA_give ?_
 simp only [List.map_append, List.length_append, push_cast, ↓reduceIte, reduceCtorEq, Nat.reduceBEq, reduceEqDiff, reduceAdd, reduceSub, reduceLT, reduceLeDiff, reduceMul]
 refine call_as (as' := [sb (47 :: ([116, 111, 112] ++ 63 :: (kv 114 [43, 49] ++ 38 :: (kv 107 [49]))))]) (by first | (simp [kv, by8]; done) | (simp [kv, by8]; rw [List.take_of_length_le (by simp <;> omega)]; rfl)) ?_
 refine call_mk (pars _ (askA 0 [] [] []) 16 (by simp [kv]; try omega) (by unfold Tame; simp only [kv, List.cons_append, List.nil_append, List.forall_mem_cons, List.forall_mem_append]; repeat (first | exact Xt | exact Yt | exact Rt | exact Vt | decide | (refine And.intro (by first | decide | exact Xt | exact Yt | exact Rt | exact Vt) ?_)); try (simp; done)) (top_no _ _ (by decide) (by decide) (pv_no _ (by decide)) (by decide))) rfl trivial ?_
 simp only [askA, nilOr, finP, bstr_lit, List.map_cons, List.map_nil, List.map_append, List.length_append, bstr_app, bstr_size, bstr_data, push_cast, ↓reduceIte, reduceCtorEq, Nat.reduceBEq, reduceEqDiff, reduceAdd, reduceSub, reduceLT, reduceLeDiff, reduceMul]
 repeat refine And.intro (by first | omega | (have := maxLen_big; omega) | (simp; done) | (simp; have := maxLen_big; omega)) ?_
 refine callA_give ?_
 simp only [List.map_append, List.length_append, push_cast, ↓reduceIte, reduceCtorEq, Nat.reduceBEq, reduceEqDiff, reduceAdd, reduceSub, reduceLT, reduceLeDiff, reduceMul]
 refine call_as (as' := [sb (47 :: ([116, 111, 112] ++ 63 :: (kv 114 [57, 50, 50, 51, 51, 55, 50, 48, 51, 54, 56, 53, 52, 55, 55, 53, 56, 48, 56] ++ 38 :: (kv 107 [49]))))]) (by first | (simp [kv, by8]; done) | (simp [kv, by8]; rw [List.take_of_length_le (by simp <;> omega)]; rfl)) ?_
 refine call_mk (pars _ (askA 0 [] [] []) 16 (by simp [kv]; try omega) (by unfold Tame; simp only [kv, List.cons_append, List.nil_append, List.forall_mem_cons, List.forall_mem_append]; repeat (first | exact Xt | exact Yt | exact Rt | exact Vt | decide | (refine And.intro (by first | decide | exact Xt | exact Yt | exact Rt | exact Vt) ?_)); try (simp; done)) (top_no _ _ (by decide) (by decide) (pv_no _ (by decide)) (by decide))) rfl trivial ?_
 have g1 : ((0 : Int) != 0) = false := rfl
 have g2 : ((2 : Int) + 1 != 3) = false := rfl
 have g3 : ((0 : Int) + 1 == 1) = true := rfl
 have gx : ∀ z, [n8 x, n8 y, n8 r].getD (Int.toNat 0) z = .v (.int .i64 x) := fun _ => rfl
 have gy : ∀ z, [n8 x, n8 y, n8 r].getD (Int.toNat 1) z = .v (.int .i64 y) := fun _ => rfl
 have gr : ∀ z, [n8 x, n8 y, n8 r].getD (Int.toNat 2) z = .v (.int .i64 r) := fun _ => rfl
 have gw : ∀ z, [u8R W].getD (Int.toNat 0) z = .v (.int .u64 W) := fun _ => rfl
 simp only [g1, g2, g3, gx, gy, gr, gw, bne_self_eq_false, askA, nilOr, finP, bstr_lit, List.map_cons, List.map_nil, List.map_append, List.length_append, bstr_app, bstr_size, bstr_data, push_cast, ↓reduceIte, reduceCtorEq, Nat.reduceBEq, reduceEqDiff, reduceAdd, reduceSub, reduceLT, reduceLeDiff, reduceMul]
 refine ⟨by decide, by decide, by decide, by decide, ?_⟩
 refine call_mk askawake_t rfl trivial ?_
 simp only [push_cast, ↓reduceIte, reduceCtorEq, Nat.reduceBEq, reduceEqDiff, reduceAdd, reduceSub, reduceLT, reduceLeDiff, reduceMul]

end Go.Ev
