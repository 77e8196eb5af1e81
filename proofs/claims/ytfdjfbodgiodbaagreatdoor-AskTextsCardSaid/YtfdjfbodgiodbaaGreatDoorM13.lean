import Derived.Test.YtfdjfbodgiodbaaGreatDoorM12
open Nat renaming reduceBEq → zB, reduceEqDiff → zE, reduceAdd → zA, reduceSub → zS, reduceLT → zL, reduceLeDiff → zD, reduceMul → zM
open Go.Proofs.Tryz renaming prog → P0
open Int renaming toNat_natCast → zaa, toNat_natCast_add_one → zab
open Nat renaming zero_add → zac, le_antisymm → zaq
open List renaming length_append → zad, getD_eq_getElem?_getD → zae, length_cons → zaf, length_nil → zag, append_assoc → zai, drop_of_length_le → zak, getElem_mem → zal, getElem?_eq_getElem → zan, nil_append → zao, length_take → zap, drop_eq_getElem_cons → zar, take_succ_eq_append_getElem → zas, length_eq_zero_iff → zau
open Bool renaming eq_iff_iff → zah, false_and → zaj, not_eq_eq_eq_not → zat
open BitVec renaming ofInt → zam
namespace Go.Ev
set_option maxRecDepth 100000
open Go
set_option linter.unusedSectionVars false
set_option linter.unnecessarySimpa false
set_option linter.unusedSimpArgs false
set_option linter.unusedVariables false
noncomputable def apiaryref21_Text_pc : PC :=
  (.seq (.reg [p_a 1 (.box (.t 0)), p_s 2 (.mov (.c (.r (.v (.string ⟨#[]⟩))))), p_s 3 (.mov (.c (.r (.v (.bool false)))))])
 (.seq (.seq (.reg [p_s 13 (.fa 0 (.t 1)), p_s 14 (.ld none (.t 13)), p_c 15 1 20 [.t 14], p_s 16 (.bin .eql (.t 15) (.c (.r (.v (.string ⟨#[]⟩)))))])
 (.cond (.t 16)
 (.seq (.reg [p_s 2 (.mov (.c (.r (.v (.string ⟨#[]⟩))))), p_s 3 (.mov (.c (.r (.v (.bool false)))))])
 .ret)
 .skip))
 (.seq (.reg [p_s 17 (.fa 0 (.t 1)), p_s 18 (.ld none (.t 17)), p_c 19 2 20 [.t 18], p_s 20 (.bin .add (.c (.r (.v (.string ⟨#[47]⟩)))) (.t 19)), p_m 4 20])
 (.seq (.seq (.reg [p_s 21 (.fa 0 (.t 1)), p_s 22 (.ld none (.t 21)), p_s 23 (.bin .eql (.t 22) (o_i 16))])
 (.cond (.t 23)
 (.seq (.seq (.reg [p_s 24 (.fa 4 (.t 1)), p_s 25 (.ld none (.t 24)), p_c 26 3 30 [.t 25], p_s 27 (.bin .neq (.t 26) (o_i 0)), p_m 28 27, p_g 29 28 false (.fa 1 (.t 1)), p_g 30 28 false (.ld none (.t 29)),
 p_g 31 28 false (.len false (.t 30)), p_g 32 28 false (.bin .gtr (.t 31) (o_i 0)), p_s 33 (.pick (.t 28) (.c (.r (.v (.bool true)))) (.t 32)), p_m 34 33, p_g 35 34 false (.fa 2 (.t 1)),
 p_g 36 34 false (.ld none (.t 35)), p_g 37 34 false (.len false (.t 36)), p_g 38 34 false (.bin .gtr (.t 37) (o_i 0)), p_s 39 (.pick (.t 34) (.c (.r (.v (.bool true)))) (.t 38)),
 p_m 40 39, p_g 41 40 false (.fa 3 (.t 1)), p_g 42 40 false (.ld none (.t 41)), p_g 43 40 false (.len false (.t 42)), p_g 44 40 false (.bin .gtr (.t 43) (o_i 0)),
 p_s 45 (.pick (.t 40) (.c (.r (.v (.bool true)))) (.t 44))])
 (.cond (.t 45)
 (.seq (.reg [p_s 2 (.mov (.c (.r (.v (.string ⟨#[]⟩))))), p_s 3 (.mov (.c (.r (.v (.bool false)))))])
 .ret)
 .skip))
 (.seq (.reg [p_m 46 4, p_s 47 (.bin .add (.t 46) (.c (.r (.v (.string ⟨#[10]⟩))))), p_s 48 (.fa 4 (.t 1)), p_s 49 (.ld none (.t 48)), p_c 50 4 31 [.t 49], p_s 51 (.bin .add (.t 47) (.t 50)),
 p_m 4 51])
 (.seq (.reg [p_m 52 4, p_m 53 4, p_s 54 (.len true (.t 53)), p_s 55 (.bin .leq (.t 54) (o_i 10000)), p_m 2 52, p_m 3 55])
 .ret)))
 .skip))
 (.seq (.reg [p_c 57 5 32 [], p_m 56 57, p_s 58 (.ext (.t 56) 0), p_s 59 (.ext (.t 56) 1), p_m 5 58, p_m 6 59])
 (.seq (.reg [p_m 60 6, p_s 61 (.fa 0 (.t 1)), p_s 62 (.ld none (.t 61)), p_s 63 (.bin .sub (.t 62) (o_i 1)), p_s 64 (.ia 1 (.v (.string ⟨#[]⟩)) (.t 60) (.t 63)), p_s 65 (.ld none (.t 64)),
 p_m 7 65])
 (.seq (.reg [p_s 8 (.mov (o_i 0)), p_s 9 (.mov (o_i 0)), p_s 10 (.mov (o_i 0))])
 (.seq (.seq (.reg [p_s 11 (.mov (o_i 0))])
 (.block 0 (.loop (.seq (.seq (.reg [p_m 66 11, p_m 67 7, p_s 68 (.len true (.t 67)), p_s 69 (.bin .lss (.t 66) (.t 68))])
 (.cond (.t 69)
 .skip
 (.exit 0)))
 (.seq (.block 1 (.seq (.seq (.reg [p_m 72 11, p_s 73 (.bin .eql (.t 72) (o_i 0))])
 (.cond (.t 73)
 (.reg [p_m 74 4, p_s 75 (.bin .add (.t 74) (.c (.r (.v (.string ⟨#[63]⟩))))), p_m 4 75])
 (.reg [p_m 76 4, p_s 77 (.bin .add (.t 76) (.c (.r (.v (.string ⟨#[38]⟩))))), p_m 4 77])))
 (.seq (.reg [p_m 78 4, p_m 79 7, p_m 80 11, p_m 81 11, p_s 82 (.bin .add (.t 81) (o_i 1)), p_s 83 (.sls (.t 79) (some (.t 80)) (some (.t 82))), p_s 84 (.bin .add (.t 78) (.t 83)),
 p_s 85 (.bin .add (.t 84) (.c (.r (.v (.string ⟨#[61]⟩))))), p_m 4 85])
 (.block 2 (.seq (.drw [p_s 102 (.fa 0 (.t 1)), p_s 103 (.ld none (.t 102)), p_m 104 7, p_m 105 11, p_s 106 (.ixs (.t 104) (.t 105)), p_c 107 6 33 [.t 103, .t 106], p_m 101 107]
 [[], [0], [], [], [2, 3], [0, 1, 2, 3, 4], [0, 1, 2, 3, 4, 5]])
 (.cond (.t 101)
 (.seq (.seq (.reg [p_m 108 9, p_s 109 (.fa 2 (.t 1)), p_s 110 (.ld none (.t 109)), p_s 111 (.len false (.t 110)), p_s 112 (.bin .geq (.t 108) (.t 111)), p_m 113 112, p_g 114 113 false (.fa 2 (.t 1)),
 p_g 115 113 false (.ld none (.t 114)), p_g 116 113 false (.mov (.t 9)), p_g 117 113 false (.ia 1 (.v (.int .u64 0)) (.t 115) (.t 116)), p_g 118 113 false (.ld none (.t 117)),
 ⟨(some 119), (some (113, false)), 7, .call 34 [(.t 118)]⟩, p_g 120 113 false (.un .not (.t 119)), p_s 121 (.pick (.t 113) (.c (.r (.v (.bool true)))) (.t 120))])
 (.cond (.t 121)
 (.seq (.reg [p_s 2 (.mov (.c (.r (.v (.string ⟨#[]⟩))))), p_s 3 (.mov (.c (.r (.v (.bool false)))))])
 .ret)
 .skip))
 (.seq (.reg [p_m 122 4, p_s 123 (.fa 2 (.t 1)), p_s 124 (.ld none (.t 123)), p_m 125 9, p_s 126 (.ia 1 (.v (.int .u64 0)) (.t 124) (.t 125)), p_s 127 (.ld none (.t 126)), p_c 128 8 14 [.t 127],
 p_s 129 (.bin .add (.t 122) (.t 128)), p_m 4 129])
 (.reg [p_m 130 9, p_s 131 (.bin .add (.t 130) (o_i 1)), p_m 9 131])))
 (.seq (.reg [p_m 133 7, p_m 134 11, p_s 135 (.ixs (.t 133) (.t 134)), p_s 136 (.bin .eql (.t 135) (.c (.r (.v (.int .u8 112))))), p_m 132 136])
 (.cond (.t 132)
 (.seq (.reg [p_s 137 (.fa 3 (.t 1)), p_s 138 (.ld none (.t 137)), p_s 139 (.len false (.t 138)), p_m 10 139])
 (.seq (.seq (.reg [p_m 140 10, p_s 141 (.bin .lss (.t 140) (o_i 1)), p_m 142 141, p_g 143 142 false (.mov (.t 10)), p_g 144 142 false (.bin .gtr (.t 143) (o_i 100)), p_s 145 (.pick (.t 142) (.c (.r (.v (.bool true)))) (.t 144))])
 (.cond (.t 145)
 (.seq (.reg [p_s 2 (.mov (.c (.r (.v (.string ⟨#[]⟩))))), p_s 3 (.mov (.c (.r (.v (.bool false)))))])
 .ret)
 .skip))
 (.seq (.reg [p_s 12 (.mov (o_i 0))])
 (.block 3 (.loop (.seq (.seq (.reg [p_m 146 12, p_m 147 10, p_s 148 (.bin .lss (.t 146) (.t 147))])
 (.cond (.t 148)
 .skip
 (.exit 3)))
 (.seq (.block 4 (.seq (.seq (.reg [p_m 151 12, p_s 152 (.bin .gtr (.t 151) (o_i 0))])
 (.cond (.t 152)
 (.reg [p_m 153 4, p_s 154 (.bin .add (.t 153) (.c (.r (.v (.string ⟨#[44]⟩))))), p_m 4 154])
 .skip))
 (.drw [p_m 155 4, p_s 156 (.fa 3 (.t 1)), p_s 157 (.ld none (.t 156)), p_m 158 12, p_s 159 (.ia 2 (.agg [(.v (.int .i64 0)), (.v (.int .i64 0))]) (.t 157) (.t 158)), p_s 160 (.iaa 2 1 (.t 159) (o_i 0)),
 p_s 161 (.ld none (.t 160)), p_c 162 9 12 [.t 161], p_s 163 (.bin .add (.t 155) (.t 162)), p_s 164 (.bin .add (.t 163) (.c (.r (.v (.string ⟨#[44]⟩))))), p_s 165 (.fa 3 (.t 1)),
 p_s 166 (.ld none (.t 165)), p_m 167 12, p_s 168 (.ia 2 (.agg [(.v (.int .i64 0)), (.v (.int .i64 0))]) (.t 166) (.t 167)), p_s 169 (.iaa 2 1 (.t 168) (o_i 1)),
 p_s 170 (.ld none (.t 169)), p_c 171 10 12 [.t 170], p_s 172 (.bin .add (.t 164) (.t 171)), p_m 4 172]
 [[], [], [1], [], [1, 2, 3], [1, 2, 3, 4], [1, 2, 3, 4, 5], [1, 2, 3, 4, 5, 6], [0, 1, 2, 3, 4, 5, 6, 7], [0, 1, 2, 3, 4, 5, 6, 7, 8], [], [10], [], [10, 11, 12], [10, 11, 12, 13], [10, 11, 12, 13, 14], [1, 2, 3, 4, 5, 6, 7, 10, 11, 12, 13, 14, 15], [0, 1, 2, 3, 4, 5, 6, 7, 8, 9, 10, 11, 12, 13, 14, 15, 16], [0, 1, 2, 3, 4, 5, 6, 7, 8, 9, 10, 11, 12, 13, 14, 15, 16, 17]])))
 (.reg [p_m 149 12, p_s 150 (.bin .add (.t 149) (o_i 1)), p_m 12 150]))))))))
 (.seq (.seq (.reg [p_m 86 8, p_s 87 (.fa 1 (.t 1)), p_s 88 (.ld none (.t 87)), p_s 89 (.len false (.t 88)), p_s 90 (.bin .geq (.t 86) (.t 89))])
 (.cond (.t 90)
 (.seq (.reg [p_s 2 (.mov (.c (.r (.v (.string ⟨#[]⟩))))), p_s 3 (.mov (.c (.r (.v (.bool false)))))])
 .ret)
 .skip))
 (.seq (.reg [p_m 91 4, p_s 92 (.fa 1 (.t 1)), p_s 93 (.ld none (.t 92)), p_m 94 8, p_s 95 (.ia 1 (.v (.int .i64 0)) (.t 93) (.t 94)), p_s 96 (.ld none (.t 95)), p_c 97 11 12 [.t 96],
 p_s 98 (.bin .add (.t 91) (.t 97)), p_m 4 98])
 (.reg [p_m 99 8, p_s 100 (.bin .add (.t 99) (o_i 1)), p_m 8 100])))))))))))
 (.reg [p_m 70 11, p_s 71 (.bin .add (.t 70) (o_i 1)), p_m 11 71]))))))
 (.seq (.seq (.reg [p_m 173 8, p_s 174 (.fa 1 (.t 1)), p_s 175 (.ld none (.t 174)), p_s 176 (.len false (.t 175)), p_s 177 (.bin .neq (.t 173) (.t 176)), p_m 178 177, p_g 179 178 false (.mov (.t 9)),
 p_g 180 178 false (.fa 2 (.t 1)), p_g 181 178 false (.ld none (.t 180)), p_g 182 178 false (.len false (.t 181)), p_g 183 178 false (.bin .neq (.t 179) (.t 182)),
 p_s 184 (.pick (.t 178) (.c (.r (.v (.bool true)))) (.t 183)), p_m 185 184, p_g 186 185 false (.mov (.t 10)), p_g 187 185 false (.fa 3 (.t 1)), p_g 188 185 false (.ld none (.t 187)),
 p_g 189 185 false (.len false (.t 188)), p_g 190 185 false (.bin .neq (.t 186) (.t 189)), p_s 191 (.pick (.t 185) (.c (.r (.v (.bool true)))) (.t 190)), p_m 192 191,
 p_g 193 192 false (.fa 4 (.t 1)), p_g 194 192 false (.ld none (.t 193)), p_g 195 192 false (.len false (.t 194)), p_g 196 192 false (.bin .gtr (.t 195) (o_i 0)),
 p_s 197 (.pick (.t 192) (.c (.r (.v (.bool true)))) (.t 196)), p_m 198 197, p_g 199 198 false (.mov (.t 4)), p_g 200 198 false (.len true (.t 199)), p_g 201 198 false (.bin .gtr (.t 200) (o_i 10000)),
 p_s 202 (.pick (.t 198) (.c (.r (.v (.bool true)))) (.t 201))])
 (.cond (.t 202)
 (.seq (.reg [p_s 2 (.mov (.c (.r (.v (.string ⟨#[]⟩))))), p_s 3 (.mov (.c (.r (.v (.bool false)))))])
 .ret)
 .skip))
 (.seq (.reg [p_m 203 4, p_m 2 203, p_s 3 (.mov (.c (.r (.v (.bool true)))))])
 .ret))))))))))
theorem apiaryref21_Text_triple : Fun P0 15 1 [(2, false, none), (3, false, none)] apiaryref21_Text_pc := fun_mk Go.Proofs.Tryz.func15 rfl (by decide) (by kernel_rfl) (by decide) rfl (by kernel_rfl) (by kernel_rfl) (by decide)
def rgT : List (Int × Int) → Bs
 | [] => []
 | p :: r => Lib.itoa p.1 ++ (44 :: Lib.itoa p.2) ++ r.flatMap fun q => 44 :: (Lib.itoa q.1 ++ 44 :: Lib.itoa q.2)
theorem rgT_app (l : List (Int × Int)) (p : Int × Int) : rgT (l ++ [p]) = rgT l ++ ((if l = [] then [] else [44]) ++ (Lib.itoa p.1 ++ (44 :: Lib.itoa p.2))) := by
 cases l with
 | nil => simp [rgT]
 | cons q r => simp [rgT, List.flatMap_append]
theorem rgT_len (l : List (Int × Int)) (h : ∀ p ∈ l, in64 p.1 ∧ in64 p.2) : (rgT l).length ≤ 44 * l.length := by
 have h2 : ∀ r : List (Int × Int), (∀ p ∈ r, in64 p.1 ∧ in64 p.2) → (r.flatMap fun q => (44 : UInt8) :: (Lib.itoa q.1 ++ 44 :: Lib.itoa q.2)).length ≤ 44 * r.length := fun r => by
  induction r with
  | nil => intro _; simp
  | cons p r ih =>
   intro h
   have hp := h p (by simp)
   have a := itoa_len p.1 hp.1
   have b := itoa_len p.2 hp.2
   have := ih fun q hq => h q (by simp [hq])
   simp only [List.flatMap_cons, zad, zaf] at this ⊢
   omega
 cases l with
 | nil => simp [rgT]
 | cons p r =>
  have hp := h p (by simp)
  have a := itoa_len p.1 hp.1
  have b := itoa_len p.2 hp.2
  have := h2 r fun q hq => h q (by simp [hq])
  simp only [rgT, zad, zaf] at this ⊢
  omega
def txS (a : AskD) : Bs → Bool → Bs → Nat → Nat → Nat → Option (Bs × Nat × Nat × Nat)
 | [], _, s, n, w, r => some (s, n, w, r)
 | c :: ks, b, s, n, w, r =>
  if wordB a.k c = true then
   if w < a.ws.length ∧ isWB (a.ws.getD w 0) = true then txS a ks false (s ++ ([if b then 63 else 38] ++ ([c, 61] ++ hexN (a.ws.getD w 0) 16))) n (w + 1) r else none
  else if c = 112 then
   if 1 ≤ a.rg.length ∧ a.rg.length ≤ 100 then txS a ks false (s ++ ([if b then 63 else 38] ++ ([c, 61] ++ rgT a.rg))) n w a.rg.length else none
  else if n < a.ns.length then txS a ks false (s ++ ([if b then 63 else 38] ++ ([c, 61] ++ Lib.itoa (a.ns.getD n 0)))) (n + 1) w r else none
def textS (a : AskD) : Bs × Bool :=
 if nmS a.k = [] then ([], false)
 else if a.k = 16 then (if batchE a.os ≠ 0 ∨ a.ns ≠ [] ∨ a.ws ≠ [] ∨ a.rg ≠ [] then ([], false) else (47 :: (nmS 16 ++ 10 :: opsBs a.os), decide ((47 :: (nmS 16 ++ 10 :: opsBs a.os)).length ≤ 10000)))
 else match txS a (keysL.getD (a.k - 1).toNat []) true (47 :: nmS a.k) 0 0 0 with
  | none => ([], false)
  | some (s, n, w, r) => if n ≠ a.ns.length ∨ w ≠ a.ws.length ∨ r ≠ a.rg.length ∨ a.os ≠ [] ∨ 10000 < s.length then ([], false) else (s, true)
structure AskOk (a : AskD) : Prop where
 k : in64 a.k
 ns : ∀ n ∈ a.ns, in64 n
 ws : ∀ w ∈ a.ws, w < 18446744073709551616
 rg : ∀ p ∈ a.rg, in64 p.1 ∧ in64 p.2
 nl : a.ns.length ≤ 1000000
 wl : a.ws.length ≤ 1000000
 rl : a.rg.length ≤ 1000000
 ol : a.os.length ≤ 1000000
set_option maxHeartbeats 4000000 in
theorem rtxt_t (a : AskD) (ha : AskOk a) : Triple P0 15 [.r a.rv] [] (.tup [sV (textS a).1, bl (textS a).2]) [] := by
 obtain ⟨hk, hns, hws, hrg, hnl, hwl, hrl, hol⟩ := ha
 obtain ⟨k, ns, ws, rg, os⟩ := a
 simp only at hk hns hws hrg hnl hwl hrl hol
 obtain ⟨Q, hQ⟩ : ∃ Q, textS ⟨k, ns, ws, rg, os⟩ = Q := ⟨_, rfl⟩
 rw [hQ]
 unfold textS at hQ
 simp only at hQ
 have hrv : AskD.rv ⟨k, ns, ws, rg, os⟩ = .agg [.v (.int .i64 k), .sl 1 (ns.map n8), .sl 1 (ws.map u8R), .sl 2 (rg.map ptR), .sl 5 (os.map opR)] := rfl
 rw [hrv]
 have hmax := maxLen_big
 have be : ∀ l : Bs, ((bstr l).toList == ({ data := #[] } : ByteArray).toList) = decide (l = []) := fun l => by
  rw [bstr_list, show (({ data := #[] } : ByteArray).toList) = [] from by rw [ByteArray.toList_eq]]
  cases l <;> rfl
 have hnmt := rname_t k hk
 have hnml : (nmS k).length ≤ 10 := by
  unfold nmS
  split
  ·have : ∀ i : Fin 16, (namesL.getD i.val []).length ≤ 10 := by decide
   have := this ⟨(k - 1).toNat, by omega⟩
   exact this
  ·simp
 refine apiaryref21_Text_triple rfl (by decide) ?_
 simp only [apiaryref21_Text_pc, push_cast, ↓reduceIte, reduceCtorEq, zB, zE, zA, zS, zL, zD, zM]
 refine call_mk hnmt rfl trivial ?_
 simp only [be, push_cast, ↓reduceIte, reduceCtorEq, zB, zE, zA, zS, zL, zD, zM]
 refine cnd_mk (fun h0 => ?_) (fun h0 => ?_)
 ·have h0 := of_decide_eq_true h0
  rw [if_pos h0] at hQ
  subst hQ
  simp only [push_cast, ↓reduceIte, reduceCtorEq, zB, zE, zA, zS, zL, zD, zM]
  rfl
 ·have h0 := of_decide_eq_false h0
  rw [if_neg h0] at hQ
  have hk1 : 1 ≤ k ∧ k ≤ 16 := by
   unfold nmS at h0
   split at h0
   ·assumption
   ·exact absurd rfl h0
  have l47 : ({ data := #[47] } : ByteArray) = bstr [47] := rfl
  simp only [push_cast, ↓reduceIte, reduceCtorEq, zB, zE, zA, zS, zL, zD, zM]
  refine call_mk hnmt rfl trivial ?_
  obtain ⟨NM, hNM⟩ : ∃ x, nmS k = x := ⟨_, rfl⟩
  simp only [hNM] at hnml hQ h0 ⊢
  simp only [l47, bstr_app, bstr_size, push_cast, ↓reduceIte, reduceCtorEq, zB, zE, zA, zS, zL, zD, zM]
  repeat refine And.intro (by first | omega | (simp; omega)) ?_
  refine cnd_mk (fun h16 => ?_) (fun h16 => ?_)
  ·have h16 : k = 16 := by simpa using h16
   subst h16
   rw [if_pos rfl] at hQ
   have hN16 : nmS 16 = NM := hNM
   rw [hN16] at hQ
   have hmt := may_t os (by omega)
   have ne : ∀ {α : Type} (l : List α), decide (((l.length : Nat) : Int) > 0) = !decide (l = []) := fun l => by
    cases l with
    | nil => rfl
    | cons x l => simp
   have en := ne ns
   have ew := ne ws
   have er := ne rg
   have e0 : (batchE os != 0) = !decide (batchE os = 0) := by rw [bne]; rfl
   obtain ⟨B0, hB0⟩ : ∃ B, decide (batchE os = 0) = B := ⟨_, rfl⟩
   obtain ⟨B1, hB1⟩ : ∃ B, decide (ns = []) = B := ⟨_, rfl⟩
   obtain ⟨B2, hB2⟩ : ∃ B, decide (ws = []) = B := ⟨_, rfl⟩
   obtain ⟨B3, hB3⟩ : ∃ B, decide (rg = []) = B := ⟨_, rfl⟩
   rw [hB0] at e0
   rw [hB1] at en
   rw [hB2] at ew
   rw [hB3] at er
   have fail : (B0 && (B1 && (B2 && B3))) = false → Q = ([], false) := fun h => by
    rw [← hQ, if_pos]
    cases B0
    ·exact .inl (of_decide_eq_false hB0)
    ·cases B1
     ·exact .inr (.inl (of_decide_eq_false hB1))
     ·cases B2
      ·exact .inr (.inr (.inl (of_decide_eq_false hB2)))
      ·cases B3
       ·exact .inr (.inr (.inr (of_decide_eq_false hB3)))
       ·cases h
   simp only [push_cast, ↓reduceIte, reduceCtorEq, zB, zE, zA, zS, zL, zD, zM]
   refine call_as (as' := [.r (.sl 5 (os.map opR))]) rfl ?_
   refine call_mk hmt rfl trivial ?_
   cases B0 with
   | false =>
    rw [fail rfl]
    simp only [e0, push_cast, ↓reduceIte, reduceCtorEq, zB, zE, zA, zS, zL, zD, zM]
    rfl
   | true =>
    cases B1 with
    | false =>
     rw [fail rfl]
     simp only [e0, en, push_cast, ↓reduceIte, reduceCtorEq, zB, zE, zA, zS, zL, zD, zM]
     rfl
    | true =>
     cases B2 with
     | false =>
      rw [fail rfl]
      simp only [e0, en, ew, push_cast, ↓reduceIte, reduceCtorEq, zB, zE, zA, zS, zL, zD, zM]
      rfl
     | true =>
      cases B3 with
      | false =>
       rw [fail rfl]
       simp only [e0, en, ew, er, push_cast, ↓reduceIte, reduceCtorEq, zB, zE, zA, zS, zL, zD, zM]
       rfl
      | true =>
       have hgood : ¬ (batchE os ≠ 0 ∨ ns ≠ [] ∨ ws ≠ [] ∨ rg ≠ []) := by
        rintro (h | h | h | h)
        ·exact h (of_decide_eq_true hB0)
        ·exact h (of_decide_eq_true hB1)
        ·exact h (of_decide_eq_true hB2)
        ·exact h (of_decide_eq_true hB3)
       rw [if_neg hgood] at hQ
       subst hQ
       have hall : ∀ o ∈ os, o.k = 1 ∨ o.k = 2 := fun o ho => by
        have h := of_decide_eq_true hB0
        unfold batchE at h
        split at h
        ·cases h
        ·split at h
         ·cases h
         ·rename_i h2
          have : opB o = true := by
           cases hb : opB o with
           | true => rfl
           | false => exact absurd (Or.inr (by rw [List.all_eq_false]; exact ⟨o, ho, by rw [hb]; decide⟩)) h2
          unfold opB at this
          split at this
          ·exact .inl (by assumption)
          ·split at this
           ·exact .inr (by assumption)
           ·cases this
       have hob := opsBs_len os
       have l10 : ({ data := #[10] } : ByteArray) = bstr [10] := rfl
       simp only [e0, en, ew, er, l10, bstr_app, bstr_size, push_cast, ↓reduceIte, reduceCtorEq, zB, zE, zA, zS, zL, zD, zM]
       repeat refine And.intro (by first | omega | (simp; omega)) ?_
       refine call_as (as' := [.r (.sl 5 (os.map opR))]) rfl ?_
       refine call_mk (rbatch_t os (by omega) hall) rfl trivial ?_
       simp only [e0, en, ew, er, l10, bstr_app, bstr_size, zai, push_cast, ↓reduceIte, reduceCtorEq, zB, zE, zA, zS, zL, zD, zM]
       repeat refine And.intro (by first | omega | (simp; omega)) ?_
       rw [show decide (((NM.length : Nat) : Int) + (((opsBs os).length : Nat) + 1) + 1 ≤ 10000) = decide (NM.length + ((opsBs os).length + 1) ≤ 9999) from by rw [zah, decide_eq_true_eq, decide_eq_true_eq]; omega]
  ·have h16 : k ≠ 16 := by simpa using h16
   rw [if_neg h16] at hQ
   obtain ⟨K, hK⟩ : ∃ K : Nat, k = (K : Int) + 1 := ⟨(k - 1).toNat, by omega⟩
   have hK15 : K < 15 := by omega
   have wk : IntKind.i64.wrap (k - 1) = (K : Int) := by rw [wrap_id (by omega)]; omega
   have hks5 : ∀ i : Fin 16, (keysL.getD i.val []).length ≤ 5 := by decide
   have hks5 := hks5 ⟨K, by omega⟩
   simp only at hks5
   have hgk : ∀ z, (strs keysL).getD K z = .v (.string (bstr (keysL.getD K []))) := fun z => by
    have hK : K < keysL.length := by show K < 16; omega
    rw [zae, zae]
    simp [hK, strR]
   rw [show (k - 1).toNat = K by omega] at hQ
   obtain ⟨ks, hks⟩ : ∃ ks, keysL.getD K [] = ks := ⟨_, rfl⟩
   simp only [hks] at hQ hks5 hgk
   obtain ⟨R, hR⟩ : ∃ R, txS ⟨k, ns, ws, rg, os⟩ ks true (47 :: NM) 0 0 0 = R := ⟨_, rfl⟩
   simp only [hR] at hQ
   have hKL : (strs keysL).length = 16 := rfl
   simp only [push_cast, ↓reduceIte, reduceCtorEq, zB, zE, zA, zS, zL, zD, zM]
   refine call_mk names_t rfl trivial ?_
   simp only [wk, hgk, hKL, zaa, zab, zac, push_cast, ↓reduceIte, reduceCtorEq, zB, zE, zA, zS, zL, zD, zM]
   refine ⟨by omega, ?_⟩
   refine run_loop [(1, false), (4, false), (7, false), (8, false), (9, false), (10, false), (11, false)] (fun vs pos los => ∃ (i n w r : Nat) (s : Bs), i ≤ ks.length ∧ n ≤ i ∧ w ≤ i ∧ r ≤ 1000000 ∧ s.length ≤ 11 + 5000 * i ∧ txS ⟨k, ns, ws, rg, os⟩ (ks.drop i) (decide (i = 0)) s n w r = R ∧
     vs = [.ptr 2000000 0 0, sV s, sV ks, int .i64 n, int .i64 w, int .i64 r, int .i64 i] ∧ pos = [] ∧ los = [.box [int .i64 k, .r (.sl 1 (ns.map n8)), .r (.sl 1 (ws.map u8R)), .r (.sl 2 (rg.map ptR)), .r (.sl 5 (os.map opR))]])
    (fun vs _ _ => match vs with | [_, _, _, _, _, _, .r (.v (.int _ j))] => (ks.length - j).toNat | _ => 0) rfl ?_ ?_
   ·simp only [push_cast, ↓reduceIte, reduceCtorEq, zB, zE, zA, zS, zL, zD, zM]
    exact ⟨0, 0, 0, 0, 47 :: NM, by omega, by omega, by omega, by omega, by simp; omega, hR, rfl⟩
   ·rintro vs pos los ⟨i, n, w, r, s, i0, hni, hwi, hr, hsl, htx, rfl, rfl, rfl⟩
    by_cases hi : i < ks.length
    ·obtain ⟨c, hc⟩ : ∃ c, ks[i] = c := ⟨_, rfl⟩
     have hd : ks.drop i = c :: ks.drop (i + 1) := by rw [zar hi, hc]
     have hgc : ks.getD i 0 = c := by simp [List.getD, hi, hc]
     have gi : decide (((i : Nat) : Int) < ((ks.length : Nat) : Int)) = true := decide_eq_true (by omega)
     have w1 : IntKind.i64.wrap ((i : Int) + 1) = (i : Int) + 1 := wrap_id (by omega)
     have ti : (((i : Nat) : Int) + 1).toNat = i + 1 := by omega
     have ec : (bstr ks).extract i (i + 1) = bstr [c] := by
      rw [bstr_sub _ _ _ (by omega), List.drop_take, zar hi, hc, show i + 1 - i = 1 by omega]
      rfl
     have l63 : ({ data := #[63] } : ByteArray) = bstr [63] := rfl
     have l38 : ({ data := #[38] } : ByteArray) = bstr [38] := rfl
     have l61 : ({ data := #[61] } : ByteArray) = bstr [61] := rfl
     rw [hd, txS] at htx
     have hnx : decide (i + 1 = 0) = false := decide_eq_false (by omega)
     have hw := qword_t k c
     obtain ⟨W, hW⟩ : ∃ W, wordB k c = W := ⟨_, rfl⟩
     simp only [hW] at hw htx
     obtain ⟨C, hC⟩ : ∃ C : Int, ((c.toNat : Nat) : Int) = C := ⟨_, rfl⟩
     rw [hC] at hw
     obtain ⟨S, hS⟩ : ∃ S : Bs, s ++ ([if decide (i = 0) = true then 63 else 38] ++ [c, 61]) = S := ⟨_, rfl⟩
     have hSl : S.length = s.length + 3 := by rw [← hS]; simp
     have hSa : ∀ X : Bs, s ++ ([if decide (i = 0) = true then 63 else 38] ++ ([c, 61] ++ X)) = S ++ X := fun X => by rw [← hS]; simp
     simp only [hSa] at htx
     obtain ⟨sg, b0, eS, hsg⟩ : ∃ sg : Bool, ((((i : Nat) : Int) == 0) = sg) ∧ (((s ++ [if sg = true then (63 : UInt8) else 38]) ++ [c]) ++ [61] = S) ∧ True := by
      refine ⟨decide (i = 0), ?_, ?_, trivial⟩
      ·rw [zah]
       simp
      ·rw [← hS]
       simp
     have eS63 : sg = true → ((s ++ [63]) ++ [c]) ++ [61] = S := fun h => by rw [← eS, h]; rfl
     have eS38 : sg = false → ((s ++ [38]) ++ [c]) ++ [61] = S := fun h => by rw [← eS, h]; rfl
     clear eS
     have cont : ∀ eS : True, True := fun _ => trivial
     cases W with
     | true =>
      simp only [↓reduceIte] at htx
      have isw : w < ws.length → Triple P0 34 [uw (ws.getD w 0)] [] (bl (isWB (ws.getD w 0))) [] := fun h => risword_t _ (hws _ (by rw [zae, zan h]; exact zal h))
      have hgw : ∀ z, w < ws.length → (ws.map u8R).getD w z = .v (.int .u64 (ws.getD w 0)) := fun z h => by
       rw [zae, zae]
       simp [h, u8R]
      have hhx : w < ws.length → Triple P0 14 [uw (ws.getD w 0)] [] (sV (hexN (ws.getD w 0) 16)) [] := fun h => hex16_t _ (hws _ (by rw [zae, zan h]; exact zal h))
      cases sg with
      | true =>
       have eS := eS63 rfl
       simp only [gi, hgc, w1, ti, ec, eS, b0, l63, l38, l61, hC, bstr_app, bstr_size, bstr_data, zaa, zab, zac, push_cast, ↓reduceIte, reduceCtorEq, zB, zE, zA, zS, zL, zD, zM]
       repeat refine And.intro (by first | omega | (simp; done) | (simp; omega) | kernel_rfl) ?_
       refine dcall_mk hw rfl trivial ?_
       simp only [gi, hgc, w1, ti, ec, eS, b0, l63, l38, l61, hC, bstr_app, bstr_size, bstr_data, zaa, zab, zac, push_cast, ↓reduceIte, reduceCtorEq, zB, zE, zA, zS, zL, zD, zM]
       repeat refine And.intro (by first | omega | (simp; done) | (simp; omega) | kernel_rfl) ?_
       by_cases hwn : w < ws.length
       ·have gw : decide (((w : Nat) : Int) ≥ ((ws.length : Nat) : Int)) = false := decide_eq_false (by omega)
        have isw := isw hwn
        have hhx := hhx hwn
        have hgw := fun z => hgw z hwn
        obtain ⟨V, hV⟩ : ∃ V, ws.getD w 0 = V := ⟨_, rfl⟩
        simp only [hV] at isw hhx hgw htx
        simp only [gw, hgw, gi, hgc, w1, ti, ec, eS, b0, l63, l38, l61, hC, bstr_app, bstr_size, bstr_data, zaa, zab, zac, push_cast, ↓reduceIte, reduceCtorEq, zB, zE, zA, zS, zL, zD, zM]
        repeat refine And.intro (by first | omega | (simp; done) | (simp; omega) | kernel_rfl) ?_
        refine call_mk isw rfl trivial ?_
        cases hb : isWB V with
        | false =>
         rw [if_neg (fun h => by rw [hb] at h; cases h.2)] at htx
         subst htx
         simp only at hQ
         subst hQ
         simp only [push_cast, ↓reduceIte, reduceCtorEq, zB, zE, zA, zS, zL, zD, zM]
         rfl
        | true =>
         rw [if_pos ⟨hwn, hb⟩] at htx
         have hxl : (hexN V 16).length = 16 := hexN_len V 16
         have wn : IntKind.i64.wrap ((w : Int) + 1) = (w : Int) + 1 := wrap_id (by omega)
         simp only [gw, hgw, gi, hgc, w1, ti, ec, eS, b0, l63, l38, l61, hC, bstr_app, bstr_size, bstr_data, zaa, zab, zac, push_cast, ↓reduceIte, reduceCtorEq, zB, zE, zA, zS, zL, zD, zM]
         repeat refine And.intro (by first | omega | (simp; done) | (simp; omega) | kernel_rfl) ?_
         refine call_mk hhx rfl trivial ?_
         simp only [gw, hgw, wn, hxl, gi, hgc, w1, ti, ec, eS, b0, l63, l38, l61, hC, bstr_app, bstr_size, bstr_data, zaa, zab, zac, push_cast, ↓reduceIte, reduceCtorEq, zB, zE, zA, zS, zL, zD, zM]
         repeat refine And.intro (by first | omega | (simp; done) | (simp; omega) | kernel_rfl) ?_
         refine ⟨⟨i + 1, n, w + 1, r, _, by omega, by omega, by omega, by omega, ?_, by rw [hnx]; exact htx, by simp⟩, by omega⟩
         simp only [zad, hxl]
         omega
       ·have gw : decide (((w : Nat) : Int) ≥ ((ws.length : Nat) : Int)) = true := decide_eq_true (by omega)
        rw [if_neg (fun h => hwn h.1)] at htx
        subst htx
        simp only at hQ
        subst hQ
        simp only [gw, gi, hgc, w1, ti, ec, eS, b0, l63, l38, l61, hC, bstr_app, bstr_size, bstr_data, zaa, zab, zac, push_cast, ↓reduceIte, reduceCtorEq, zB, zE, zA, zS, zL, zD, zM]
        rfl
      | false =>
       have eS := eS38 rfl
       simp only [gi, hgc, w1, ti, ec, eS, b0, l63, l38, l61, hC, bstr_app, bstr_size, bstr_data, zaa, zab, zac, push_cast, ↓reduceIte, reduceCtorEq, zB, zE, zA, zS, zL, zD, zM]
       repeat refine And.intro (by first | omega | (simp; done) | (simp; omega) | kernel_rfl) ?_
       refine dcall_mk hw rfl trivial ?_
       simp only [gi, hgc, w1, ti, ec, eS, b0, l63, l38, l61, hC, bstr_app, bstr_size, bstr_data, zaa, zab, zac, push_cast, ↓reduceIte, reduceCtorEq, zB, zE, zA, zS, zL, zD, zM]
       repeat refine And.intro (by first | omega | (simp; done) | (simp; omega) | kernel_rfl) ?_
       by_cases hwn : w < ws.length
       ·have gw : decide (((w : Nat) : Int) ≥ ((ws.length : Nat) : Int)) = false := decide_eq_false (by omega)
        have isw := isw hwn
        have hhx := hhx hwn
        have hgw := fun z => hgw z hwn
        obtain ⟨V, hV⟩ : ∃ V, ws.getD w 0 = V := ⟨_, rfl⟩
        simp only [hV] at isw hhx hgw htx
        simp only [gw, hgw, gi, hgc, w1, ti, ec, eS, b0, l63, l38, l61, hC, bstr_app, bstr_size, bstr_data, zaa, zab, zac, push_cast, ↓reduceIte, reduceCtorEq, zB, zE, zA, zS, zL, zD, zM]
        repeat refine And.intro (by first | omega | (simp; done) | (simp; omega) | kernel_rfl) ?_
        refine call_mk isw rfl trivial ?_
        cases hb : isWB V with
        | false =>
         rw [if_neg (fun h => by rw [hb] at h; cases h.2)] at htx
         subst htx
         simp only at hQ
         subst hQ
         simp only [push_cast, ↓reduceIte, reduceCtorEq, zB, zE, zA, zS, zL, zD, zM]
         rfl
        | true =>
         rw [if_pos ⟨hwn, hb⟩] at htx
         have hxl : (hexN V 16).length = 16 := hexN_len V 16
         have wn : IntKind.i64.wrap ((w : Int) + 1) = (w : Int) + 1 := wrap_id (by omega)
         simp only [gw, hgw, gi, hgc, w1, ti, ec, eS, b0, l63, l38, l61, hC, bstr_app, bstr_size, bstr_data, zaa, zab, zac, push_cast, ↓reduceIte, reduceCtorEq, zB, zE, zA, zS, zL, zD, zM]
         repeat refine And.intro (by first | omega | (simp; done) | (simp; omega) | kernel_rfl) ?_
         refine call_mk hhx rfl trivial ?_
         simp only [gw, hgw, wn, hxl, gi, hgc, w1, ti, ec, eS, b0, l63, l38, l61, hC, bstr_app, bstr_size, bstr_data, zaa, zab, zac, push_cast, ↓reduceIte, reduceCtorEq, zB, zE, zA, zS, zL, zD, zM]
         repeat refine And.intro (by first | omega | (simp; done) | (simp; omega) | kernel_rfl) ?_
         refine ⟨⟨i + 1, n, w + 1, r, _, by omega, by omega, by omega, by omega, ?_, by rw [hnx]; exact htx, by simp⟩, by omega⟩
         simp only [zad, hxl]
         omega
       ·have gw : decide (((w : Nat) : Int) ≥ ((ws.length : Nat) : Int)) = true := decide_eq_true (by omega)
        rw [if_neg (fun h => hwn h.1)] at htx
        subst htx
        simp only at hQ
        subst hQ
        simp only [gw, gi, hgc, w1, ti, ec, eS, b0, l63, l38, l61, hC, bstr_app, bstr_size, bstr_data, zaa, zab, zac, push_cast, ↓reduceIte, reduceCtorEq, zB, zE, zA, zS, zL, zD, zM]
        rfl
     | false =>
      simp only [Bool.false_eq_true, ↓reduceIte] at htx
      cases sg with
      | true =>
       have eS := eS63 rfl
       simp only [gi, hgc, w1, ti, ec, eS, b0, l63, l38, l61, hC, bstr_app, bstr_size, bstr_data, zaa, zab, zac, push_cast, ↓reduceIte, reduceCtorEq, zB, zE, zA, zS, zL, zD, zM]
       repeat refine And.intro (by first | omega | (simp; done) | (simp; omega) | kernel_rfl) ?_
       refine dcall_mk hw rfl trivial ?_
       simp only [gi, hgc, w1, ti, ec, eS, b0, l63, l38, l61, hC, bstr_app, bstr_size, bstr_data, zaa, zab, zac, push_cast, ↓reduceIte, reduceCtorEq, zB, zE, zA, zS, zL, zD, zM]
       repeat refine And.intro (by first | omega | (simp; done) | (simp; omega) | kernel_rfl) ?_
       by_cases h112 : c = 112
       ·have g112 : (C == 112) = true := by
         rw [← hC, h112]
         rfl
        rw [if_pos h112] at htx
        have g1 : decide (((rg.length : Nat) : Int) < 1) = decide (rg.length < 1) := by rw [zah, decide_eq_true_eq, decide_eq_true_eq]; omega
        have g2 : decide (((rg.length : Nat) : Int) > 100) = decide (rg.length > 100) := by rw [zah, decide_eq_true_eq, decide_eq_true_eq]; omega
        by_cases hok : 1 ≤ rg.length ∧ rg.length ≤ 100
        ·rw [if_pos hok] at htx
         have g1' : decide (rg.length < 1) = false := decide_eq_false (by omega)
         have g2' : decide (rg.length > 100) = false := decide_eq_false (by omega)
         simp only [g112, g1, g2, g1', g2', gi, hgc, w1, ti, ec, eS, b0, l63, l38, l61, hC, bstr_app, bstr_size, bstr_data, zaa, zab, zac, push_cast, ↓reduceIte, reduceCtorEq, zB, zE, zA, zS, zL, zD, zM]
         repeat refine And.intro (by first | omega | (simp; done) | (simp; omega) | kernel_rfl) ?_
         refine run_loop [(1, false), (4, false), (7, false), (8, false), (9, false), (10, false), (11, false), (12, false)] (fun vs pos los => ∃ j : Nat, j ≤ rg.length ∧
           vs = [.ptr 2000000 0 0, sV (S ++ rgT (rg.take j)), sV ks, int .i64 n, int .i64 w, int .i64 rg.length, int .i64 i, int .i64 j] ∧ pos = [] ∧ los = [.box [int .i64 k, .r (.sl 1 (ns.map n8)), .r (.sl 1 (ws.map u8R)), .r (.sl 2 (rg.map ptR)), .r (.sl 5 (os.map opR))]])
          (fun vs _ _ => match vs with | [_, _, _, _, _, _, _, .r (.v (.int _ j))] => (rg.length - j).toNat | _ => 0) rfl ?_ ?_
         ·simp only [push_cast, ↓reduceIte, reduceCtorEq, zB, zE, zA, zS, zL, zD, zM]
          exact ⟨0, by omega, by simp [rgT]⟩
         ·rintro vs pos los ⟨j, j0, rfl, rfl, rfl⟩
          by_cases hj : j < rg.length
          ·obtain ⟨⟨x, y⟩, hxy⟩ : ∃ p, rg[j] = p := ⟨_, rfl⟩
           have h64 := hrg _ (zal hj)
           rw [hxy] at h64
           simp only at h64
           have gj : decide (((j : Nat) : Int) < ((rg.length : Nat) : Int)) = true := decide_eq_true (by omega)
           have wj : IntKind.i64.wrap ((j : Int) + 1) = (j : Int) + 1 := wrap_id (by omega)
           have hgr : ∀ z, (rg.map ptR).getD j z = .agg [.v (.int .i64 x), .v (.int .i64 y)] := fun z => by
            rw [zae]
            simp [hj, hxy, ptR]
           have hxt := rtext_t x h64.1
           have hyt := rtext_t y h64.2
           rw [txt_eq] at hxt hyt
           have hxl := itoa_len x h64.1
           have hyl := itoa_len y h64.2
           have hTl := rgT_len (rg.take j) (fun p hp => hrg p (List.mem_of_mem_take hp))
           rw [zap] at hTl
           have hnxt : S ++ rgT (rg.take (j + 1)) = S ++ rgT (rg.take j) ++ ((if rg.take j = [] then [] else [44]) ++ (Lib.itoa x ++ (44 :: Lib.itoa y))) := by
            rw [zas hj, hxy, rgT_app, zai]
           obtain ⟨T, hT⟩ : ∃ T, S ++ rgT (rg.take j) = T := ⟨_, rfl⟩
           have hTl2 : T.length ≤ 30000 := by rw [← hT, zad]; omega
           rw [hT] at hnxt ⊢
           have l44 : ({ data := #[44] } : ByteArray) = bstr [44] := rfl
           have z1 : Int.toNat 1 = 1 := rfl
           have z0 : Int.toNat 0 = 0 := rfl
           by_cases hj0 : j = 0
           ·have gj0 : decide (((j : Nat) : Int) > 0) = false := decide_eq_false (by omega)
            rw [if_pos (by rw [hj0]; rfl), zao] at hnxt
            have eT : ((T ++ Lib.itoa x) ++ [44]) ++ Lib.itoa y = S ++ rgT (rg.take (j + 1)) := by rw [hnxt]; simp
            simp only [gj, gj0, hgr, wj, l44, z0, z1, gi, hgc, w1, ti, ec, eS, b0, l63, l38, l61, hC, bstr_app, bstr_size, bstr_data, zaa, zab, zac, push_cast, ↓reduceIte, reduceCtorEq, zB, zE, zA, zS, zL, zD, zM]
            repeat refine And.intro (by first | omega | (simp; done) | (simp; omega) | kernel_rfl) ?_
            refine dcall_mk hxt rfl trivial ?_
            simp only [gj, gj0, hgr, wj, l44, z0, z1, gi, hgc, w1, ti, ec, eS, b0, l63, l38, l61, hC, bstr_app, bstr_size, bstr_data, zaa, zab, zac, push_cast, ↓reduceIte, reduceCtorEq, zB, zE, zA, zS, zL, zD, zM]
            repeat refine And.intro (by first | omega | (simp; done) | (simp; omega) | kernel_rfl) ?_
            refine dcall_mk hyt rfl trivial ?_
            simp only [gj, gj0, hgr, wj, l44, z0, z1, eT, gi, hgc, w1, ti, ec, eS, b0, l63, l38, l61, hC, bstr_app, bstr_size, bstr_data, zaa, zab, zac, push_cast, ↓reduceIte, reduceCtorEq, zB, zE, zA, zS, zL, zD, zM]
            repeat refine And.intro (by first | omega | (simp; done) | (simp; omega) | kernel_rfl) ?_
            exact ⟨⟨j + 1, by omega, by simp⟩, by omega⟩
           ·have gj0 : decide (((j : Nat) : Int) > 0) = true := decide_eq_true (by omega)
            rw [if_neg (by
             intro h
             have := congrArg List.length h
             rw [zap, zag] at this
             omega)] at hnxt
            have eT : (((T ++ [44]) ++ Lib.itoa x) ++ [44]) ++ Lib.itoa y = S ++ rgT (rg.take (j + 1)) := by rw [hnxt]; simp
            simp only [gj, gj0, hgr, wj, l44, z0, z1, gi, hgc, w1, ti, ec, eS, b0, l63, l38, l61, hC, bstr_app, bstr_size, bstr_data, zaa, zab, zac, push_cast, ↓reduceIte, reduceCtorEq, zB, zE, zA, zS, zL, zD, zM]
            repeat refine And.intro (by first | omega | (simp; done) | (simp; omega) | kernel_rfl) ?_
            refine dcall_mk hxt rfl trivial ?_
            simp only [gj, gj0, hgr, wj, l44, z0, z1, gi, hgc, w1, ti, ec, eS, b0, l63, l38, l61, hC, bstr_app, bstr_size, bstr_data, zaa, zab, zac, push_cast, ↓reduceIte, reduceCtorEq, zB, zE, zA, zS, zL, zD, zM]
            repeat refine And.intro (by first | omega | (simp; done) | (simp; omega) | kernel_rfl) ?_
            refine dcall_mk hyt rfl trivial ?_
            simp only [gj, gj0, hgr, wj, l44, z0, z1, eT, gi, hgc, w1, ti, ec, eS, b0, l63, l38, l61, hC, bstr_app, bstr_size, bstr_data, zaa, zab, zac, push_cast, ↓reduceIte, reduceCtorEq, zB, zE, zA, zS, zL, zD, zM]
            repeat refine And.intro (by first | omega | (simp; done) | (simp; omega) | kernel_rfl) ?_
            exact ⟨⟨j + 1, by omega, by simp⟩, by omega⟩
          ·have hj : j = rg.length := by omega
           subst hj
           have gj : decide (((rg.length : Nat) : Int) < ((rg.length : Nat) : Int)) = false := decide_eq_false (by omega)
           rw [List.take_length]
           have hTl := rgT_len rg hrg
           simp only [gj, w1, bstr_app, bstr_size, bstr_data, zaa, zab, zac, push_cast, ↓reduceIte, reduceCtorEq, zB, zE, zA, zS, zL, zD, zM]
           refine ⟨⟨i + 1, n, w, rg.length, _, by omega, by omega, by omega, by omega, ?_, by rw [hnx]; exact htx, by simp⟩, by omega⟩
           simp only [zad]
           omega
        ·rw [if_neg hok] at htx
         subst htx
         simp only at hQ
         subst hQ
         by_cases h1 : rg.length < 1
         ·have g1' : decide (rg.length < 1) = true := decide_eq_true h1
          simp only [g112, g1, g2, g1', gi, hgc, w1, ti, ec, eS, b0, l63, l38, l61, hC, bstr_app, bstr_size, bstr_data, zaa, zab, zac, push_cast, ↓reduceIte, reduceCtorEq, zB, zE, zA, zS, zL, zD, zM]
          rfl
         ·have g1' : decide (rg.length < 1) = false := decide_eq_false h1
          have g2' : decide (rg.length > 100) = true := decide_eq_true (by omega)
          simp only [g112, g1, g2, g1', g2', gi, hgc, w1, ti, ec, eS, b0, l63, l38, l61, hC, bstr_app, bstr_size, bstr_data, zaa, zab, zac, push_cast, ↓reduceIte, reduceCtorEq, zB, zE, zA, zS, zL, zD, zM]
          rfl
       ·rw [if_neg h112] at htx
        have g112 : (C == 112) = false := by
         rw [beq_eq_false_iff_ne]
         intro h
         apply h112
         apply UInt8.toNat_inj.1
         have : (112 : UInt8).toNat = 112 := rfl
         omega
        by_cases hnn : n < ns.length
        ·have gn : decide (((n : Nat) : Int) ≥ ((ns.length : Nat) : Int)) = false := decide_eq_false (by omega)
         rw [if_pos hnn] at htx
         have hgn : ∀ z, (ns.map n8).getD n z = .v (.int .i64 (ns.getD n 0)) := fun z => by
          rw [zae, zae]
          simp [hnn, n8]
         have hN64 : in64 (ns.getD n 0) := by
          rw [zae, zan hnn]
          exact hns _ (zal hnn)
         obtain ⟨V, hV⟩ : ∃ V, ns.getD n 0 = V := ⟨_, rfl⟩
         simp only [hV] at hN64 hgn htx
         have hrt := rtext_t V hN64
         rw [txt_eq] at hrt
         have hil := itoa_len V hN64
         have wn : IntKind.i64.wrap ((n : Int) + 1) = (n : Int) + 1 := wrap_id (by omega)
         simp only [g112, gn, hgn, gi, hgc, w1, ti, ec, eS, b0, l63, l38, l61, hC, bstr_app, bstr_size, bstr_data, zaa, zab, zac, push_cast, ↓reduceIte, reduceCtorEq, zB, zE, zA, zS, zL, zD, zM]
         repeat refine And.intro (by first | omega | (simp; done) | (simp; omega) | kernel_rfl) ?_
         refine call_mk hrt rfl trivial ?_
         simp only [g112, gn, hgn, wn, gi, hgc, w1, ti, ec, eS, b0, l63, l38, l61, hC, bstr_app, bstr_size, bstr_data, zaa, zab, zac, push_cast, ↓reduceIte, reduceCtorEq, zB, zE, zA, zS, zL, zD, zM]
         repeat refine And.intro (by first | omega | (simp; done) | (simp; omega) | kernel_rfl) ?_
         refine ⟨⟨i + 1, n + 1, w, r, _, by omega, by omega, by omega, by omega, ?_, by rw [hnx]; exact htx, by simp⟩, by omega⟩
         simp only [zad]
         omega
        ·have gn : decide (((n : Nat) : Int) ≥ ((ns.length : Nat) : Int)) = true := decide_eq_true (by omega)
         rw [if_neg hnn] at htx
         subst htx
         simp only at hQ
         subst hQ
         simp only [g112, gn, gi, hgc, w1, ti, ec, eS, b0, l63, l38, l61, hC, bstr_app, bstr_size, bstr_data, zaa, zab, zac, push_cast, ↓reduceIte, reduceCtorEq, zB, zE, zA, zS, zL, zD, zM]
         rfl
      | false =>
       have eS := eS38 rfl
       simp only [gi, hgc, w1, ti, ec, eS, b0, l63, l38, l61, hC, bstr_app, bstr_size, bstr_data, zaa, zab, zac, push_cast, ↓reduceIte, reduceCtorEq, zB, zE, zA, zS, zL, zD, zM]
       repeat refine And.intro (by first | omega | (simp; done) | (simp; omega) | kernel_rfl) ?_
       refine dcall_mk hw rfl trivial ?_
       simp only [gi, hgc, w1, ti, ec, eS, b0, l63, l38, l61, hC, bstr_app, bstr_size, bstr_data, zaa, zab, zac, push_cast, ↓reduceIte, reduceCtorEq, zB, zE, zA, zS, zL, zD, zM]
       repeat refine And.intro (by first | omega | (simp; done) | (simp; omega) | kernel_rfl) ?_
       by_cases h112 : c = 112
       ·have g112 : (C == 112) = true := by
         rw [← hC, h112]
         rfl
        rw [if_pos h112] at htx
        have g1 : decide (((rg.length : Nat) : Int) < 1) = decide (rg.length < 1) := by rw [zah, decide_eq_true_eq, decide_eq_true_eq]; omega
        have g2 : decide (((rg.length : Nat) : Int) > 100) = decide (rg.length > 100) := by rw [zah, decide_eq_true_eq, decide_eq_true_eq]; omega
        by_cases hok : 1 ≤ rg.length ∧ rg.length ≤ 100
        ·rw [if_pos hok] at htx
         have g1' : decide (rg.length < 1) = false := decide_eq_false (by omega)
         have g2' : decide (rg.length > 100) = false := decide_eq_false (by omega)
         simp only [g112, g1, g2, g1', g2', gi, hgc, w1, ti, ec, eS, b0, l63, l38, l61, hC, bstr_app, bstr_size, bstr_data, zaa, zab, zac, push_cast, ↓reduceIte, reduceCtorEq, zB, zE, zA, zS, zL, zD, zM]
         repeat refine And.intro (by first | omega | (simp; done) | (simp; omega) | kernel_rfl) ?_
         refine run_loop [(1, false), (4, false), (7, false), (8, false), (9, false), (10, false), (11, false), (12, false)] (fun vs pos los => ∃ j : Nat, j ≤ rg.length ∧
           vs = [.ptr 2000000 0 0, sV (S ++ rgT (rg.take j)), sV ks, int .i64 n, int .i64 w, int .i64 rg.length, int .i64 i, int .i64 j] ∧ pos = [] ∧ los = [.box [int .i64 k, .r (.sl 1 (ns.map n8)), .r (.sl 1 (ws.map u8R)), .r (.sl 2 (rg.map ptR)), .r (.sl 5 (os.map opR))]])
          (fun vs _ _ => match vs with | [_, _, _, _, _, _, _, .r (.v (.int _ j))] => (rg.length - j).toNat | _ => 0) rfl ?_ ?_
         ·simp only [push_cast, ↓reduceIte, reduceCtorEq, zB, zE, zA, zS, zL, zD, zM]
          exact ⟨0, by omega, by simp [rgT]⟩
         ·rintro vs pos los ⟨j, j0, rfl, rfl, rfl⟩
          by_cases hj : j < rg.length
          ·obtain ⟨⟨x, y⟩, hxy⟩ : ∃ p, rg[j] = p := ⟨_, rfl⟩
           have h64 := hrg _ (zal hj)
           rw [hxy] at h64
           simp only at h64
           have gj : decide (((j : Nat) : Int) < ((rg.length : Nat) : Int)) = true := decide_eq_true (by omega)
           have wj : IntKind.i64.wrap ((j : Int) + 1) = (j : Int) + 1 := wrap_id (by omega)
           have hgr : ∀ z, (rg.map ptR).getD j z = .agg [.v (.int .i64 x), .v (.int .i64 y)] := fun z => by
            rw [zae]
            simp [hj, hxy, ptR]
           have hxt := rtext_t x h64.1
           have hyt := rtext_t y h64.2
           rw [txt_eq] at hxt hyt
           have hxl := itoa_len x h64.1
           have hyl := itoa_len y h64.2
           have hTl := rgT_len (rg.take j) (fun p hp => hrg p (List.mem_of_mem_take hp))
           rw [zap] at hTl
           have hnxt : S ++ rgT (rg.take (j + 1)) = S ++ rgT (rg.take j) ++ ((if rg.take j = [] then [] else [44]) ++ (Lib.itoa x ++ (44 :: Lib.itoa y))) := by
            rw [zas hj, hxy, rgT_app, zai]
           obtain ⟨T, hT⟩ : ∃ T, S ++ rgT (rg.take j) = T := ⟨_, rfl⟩
           have hTl2 : T.length ≤ 30000 := by rw [← hT, zad]; omega
           rw [hT] at hnxt ⊢
           have l44 : ({ data := #[44] } : ByteArray) = bstr [44] := rfl
           have z1 : Int.toNat 1 = 1 := rfl
           have z0 : Int.toNat 0 = 0 := rfl
           by_cases hj0 : j = 0
           ·have gj0 : decide (((j : Nat) : Int) > 0) = false := decide_eq_false (by omega)
            rw [if_pos (by rw [hj0]; rfl), zao] at hnxt
            have eT : ((T ++ Lib.itoa x) ++ [44]) ++ Lib.itoa y = S ++ rgT (rg.take (j + 1)) := by rw [hnxt]; simp
            simp only [gj, gj0, hgr, wj, l44, z0, z1, gi, hgc, w1, ti, ec, eS, b0, l63, l38, l61, hC, bstr_app, bstr_size, bstr_data, zaa, zab, zac, push_cast, ↓reduceIte, reduceCtorEq, zB, zE, zA, zS, zL, zD, zM]
            repeat refine And.intro (by first | omega | (simp; done) | (simp; omega) | kernel_rfl) ?_
            refine dcall_mk hxt rfl trivial ?_
            simp only [gj, gj0, hgr, wj, l44, z0, z1, gi, hgc, w1, ti, ec, eS, b0, l63, l38, l61, hC, bstr_app, bstr_size, bstr_data, zaa, zab, zac, push_cast, ↓reduceIte, reduceCtorEq, zB, zE, zA, zS, zL, zD, zM]
            repeat refine And.intro (by first | omega | (simp; done) | (simp; omega) | kernel_rfl) ?_
            refine dcall_mk hyt rfl trivial ?_
            simp only [gj, gj0, hgr, wj, l44, z0, z1, eT, gi, hgc, w1, ti, ec, eS, b0, l63, l38, l61, hC, bstr_app, bstr_size, bstr_data, zaa, zab, zac, push_cast, ↓reduceIte, reduceCtorEq, zB, zE, zA, zS, zL, zD, zM]
            repeat refine And.intro (by first | omega | (simp; done) | (simp; omega) | kernel_rfl) ?_
            exact ⟨⟨j + 1, by omega, by simp⟩, by omega⟩
           ·have gj0 : decide (((j : Nat) : Int) > 0) = true := decide_eq_true (by omega)
            rw [if_neg (by
             intro h
             have := congrArg List.length h
             rw [zap, zag] at this
             omega)] at hnxt
            have eT : (((T ++ [44]) ++ Lib.itoa x) ++ [44]) ++ Lib.itoa y = S ++ rgT (rg.take (j + 1)) := by rw [hnxt]; simp
            simp only [gj, gj0, hgr, wj, l44, z0, z1, gi, hgc, w1, ti, ec, eS, b0, l63, l38, l61, hC, bstr_app, bstr_size, bstr_data, zaa, zab, zac, push_cast, ↓reduceIte, reduceCtorEq, zB, zE, zA, zS, zL, zD, zM]
            repeat refine And.intro (by first | omega | (simp; done) | (simp; omega) | kernel_rfl) ?_
            refine dcall_mk hxt rfl trivial ?_
            simp only [gj, gj0, hgr, wj, l44, z0, z1, gi, hgc, w1, ti, ec, eS, b0, l63, l38, l61, hC, bstr_app, bstr_size, bstr_data, zaa, zab, zac, push_cast, ↓reduceIte, reduceCtorEq, zB, zE, zA, zS, zL, zD, zM]
            repeat refine And.intro (by first | omega | (simp; done) | (simp; omega) | kernel_rfl) ?_
            refine dcall_mk hyt rfl trivial ?_
            simp only [gj, gj0, hgr, wj, l44, z0, z1, eT, gi, hgc, w1, ti, ec, eS, b0, l63, l38, l61, hC, bstr_app, bstr_size, bstr_data, zaa, zab, zac, push_cast, ↓reduceIte, reduceCtorEq, zB, zE, zA, zS, zL, zD, zM]
            repeat refine And.intro (by first | omega | (simp; done) | (simp; omega) | kernel_rfl) ?_
            exact ⟨⟨j + 1, by omega, by simp⟩, by omega⟩
          ·have hj : j = rg.length := by omega
           subst hj
           have gj : decide (((rg.length : Nat) : Int) < ((rg.length : Nat) : Int)) = false := decide_eq_false (by omega)
           rw [List.take_length]
           have hTl := rgT_len rg hrg
           simp only [gj, w1, bstr_app, bstr_size, bstr_data, zaa, zab, zac, push_cast, ↓reduceIte, reduceCtorEq, zB, zE, zA, zS, zL, zD, zM]
           refine ⟨⟨i + 1, n, w, rg.length, _, by omega, by omega, by omega, by omega, ?_, by rw [hnx]; exact htx, by simp⟩, by omega⟩
           simp only [zad]
           omega
        ·rw [if_neg hok] at htx
         subst htx
         simp only at hQ
         subst hQ
         by_cases h1 : rg.length < 1
         ·have g1' : decide (rg.length < 1) = true := decide_eq_true h1
          simp only [g112, g1, g2, g1', gi, hgc, w1, ti, ec, eS, b0, l63, l38, l61, hC, bstr_app, bstr_size, bstr_data, zaa, zab, zac, push_cast, ↓reduceIte, reduceCtorEq, zB, zE, zA, zS, zL, zD, zM]
          rfl
         ·have g1' : decide (rg.length < 1) = false := decide_eq_false h1
          have g2' : decide (rg.length > 100) = true := decide_eq_true (by omega)
          simp only [g112, g1, g2, g1', g2', gi, hgc, w1, ti, ec, eS, b0, l63, l38, l61, hC, bstr_app, bstr_size, bstr_data, zaa, zab, zac, push_cast, ↓reduceIte, reduceCtorEq, zB, zE, zA, zS, zL, zD, zM]
          rfl
       ·rw [if_neg h112] at htx
        have g112 : (C == 112) = false := by
         rw [beq_eq_false_iff_ne]
         intro h
         apply h112
         apply UInt8.toNat_inj.1
         have : (112 : UInt8).toNat = 112 := rfl
         omega
        by_cases hnn : n < ns.length
        ·have gn : decide (((n : Nat) : Int) ≥ ((ns.length : Nat) : Int)) = false := decide_eq_false (by omega)
         rw [if_pos hnn] at htx
         have hgn : ∀ z, (ns.map n8).getD n z = .v (.int .i64 (ns.getD n 0)) := fun z => by
          rw [zae, zae]
          simp [hnn, n8]
         have hN64 : in64 (ns.getD n 0) := by
          rw [zae, zan hnn]
          exact hns _ (zal hnn)
         obtain ⟨V, hV⟩ : ∃ V, ns.getD n 0 = V := ⟨_, rfl⟩
         simp only [hV] at hN64 hgn htx
         have hrt := rtext_t V hN64
         rw [txt_eq] at hrt
         have hil := itoa_len V hN64
         have wn : IntKind.i64.wrap ((n : Int) + 1) = (n : Int) + 1 := wrap_id (by omega)
         simp only [g112, gn, hgn, gi, hgc, w1, ti, ec, eS, b0, l63, l38, l61, hC, bstr_app, bstr_size, bstr_data, zaa, zab, zac, push_cast, ↓reduceIte, reduceCtorEq, zB, zE, zA, zS, zL, zD, zM]
         repeat refine And.intro (by first | omega | (simp; done) | (simp; omega) | kernel_rfl) ?_
         refine call_mk hrt rfl trivial ?_
         simp only [g112, gn, hgn, wn, gi, hgc, w1, ti, ec, eS, b0, l63, l38, l61, hC, bstr_app, bstr_size, bstr_data, zaa, zab, zac, push_cast, ↓reduceIte, reduceCtorEq, zB, zE, zA, zS, zL, zD, zM]
         repeat refine And.intro (by first | omega | (simp; done) | (simp; omega) | kernel_rfl) ?_
         refine ⟨⟨i + 1, n + 1, w, r, _, by omega, by omega, by omega, by omega, ?_, by rw [hnx]; exact htx, by simp⟩, by omega⟩
         simp only [zad]
         omega
        ·have gn : decide (((n : Nat) : Int) ≥ ((ns.length : Nat) : Int)) = true := decide_eq_true (by omega)
         rw [if_neg hnn] at htx
         subst htx
         simp only at hQ
         subst hQ
         simp only [g112, gn, gi, hgc, w1, ti, ec, eS, b0, l63, l38, l61, hC, bstr_app, bstr_size, bstr_data, zaa, zab, zac, push_cast, ↓reduceIte, reduceCtorEq, zB, zE, zA, zS, zL, zD, zM]
         rfl
    ·have hi : i = ks.length := by omega
     subst hi
     have gi : decide (((ks.length : Nat) : Int) < ((ks.length : Nat) : Int)) = false := decide_eq_false (by omega)
     rw [List.drop_length, txS] at htx
     subst htx
     simp only at hQ
     have en : (((n : Nat) : Int) != ((ns.length : Nat) : Int)) = !decide (n = ns.length) := by rw [bne, zat, Bool.not_not, zah, beq_iff_eq, decide_eq_true_eq]; omega
     have ew : (((w : Nat) : Int) != ((ws.length : Nat) : Int)) = !decide (w = ws.length) := by rw [bne, zat, Bool.not_not, zah, beq_iff_eq, decide_eq_true_eq]; omega
     have er : (((r : Nat) : Int) != ((rg.length : Nat) : Int)) = !decide (r = rg.length) := by rw [bne, zat, Bool.not_not, zah, beq_iff_eq, decide_eq_true_eq]; omega
     have eo : decide (((os.length : Nat) : Int) > 0) = !decide (os = []) := by
      cases os with
      | nil => rfl
      | cons x l => simp
     have el : decide (((s.length : Nat) : Int) > 10000) = decide (10000 < s.length) := by rw [zah, decide_eq_true_eq, decide_eq_true_eq]; omega
     obtain ⟨B0, hB0⟩ : ∃ B, decide (n = ns.length) = B := ⟨_, rfl⟩
     obtain ⟨B1, hB1⟩ : ∃ B, decide (w = ws.length) = B := ⟨_, rfl⟩
     obtain ⟨B2, hB2⟩ : ∃ B, decide (r = rg.length) = B := ⟨_, rfl⟩
     obtain ⟨B3, hB3⟩ : ∃ B, decide (os = []) = B := ⟨_, rfl⟩
     obtain ⟨B4, hB4⟩ : ∃ B, decide (10000 < s.length) = B := ⟨_, rfl⟩
     rw [hB0] at en
     rw [hB1] at ew
     rw [hB2] at er
     rw [hB3] at eo
     rw [hB4] at el
     have val : Q = if (B0 && (B1 && (B2 && (B3 && !B4)))) = true then (s, true) else ([], false) := by
      rw [← hQ]
      have hiff : (n ≠ ns.length ∨ w ≠ ws.length ∨ r ≠ rg.length ∨ os ≠ [] ∨ 10000 < s.length) ↔ ¬ (B0 && (B1 && (B2 && (B3 && !B4)))) = true := by
       rw [← hB0, ← hB1, ← hB2, ← hB3, ← hB4]
       simp only [Bool.and_eq_true, Bool.not_eq_true', decide_eq_true_eq, decide_eq_false_iff_not]
       constructor
       ·rintro (h | h | h | h | h) ⟨h0, h1, h2, h3, h4⟩
        ·exact h h0
        ·exact h h1
        ·exact h h2
        ·exact h h3
        ·exact h4 h
       ·intro h
        by_cases h0 : n = ns.length
        ·by_cases h1 : w = ws.length
         ·by_cases h2 : r = rg.length
          ·by_cases h3 : os = []
           ·by_cases h4 : 10000 < s.length
            ·exact .inr (.inr (.inr (.inr h4)))
            ·exact absurd ⟨h0, h1, h2, h3, h4⟩ h
           ·exact .inr (.inr (.inr (.inl h3)))
          ·exact .inr (.inr (.inl h2))
         ·exact .inr (.inl h1)
        ·exact .inl h0
      by_cases hb : (B0 && (B1 && (B2 && (B3 && !B4)))) = true
      ·rw [if_neg (fun h => (hiff.1 h) hb), if_pos hb]
      ·rw [if_pos (hiff.2 hb), if_neg hb]
     subst val
     cases B0 with
     | false =>
      simp only [gi, en, bstr_size, push_cast, ↓reduceIte, reduceCtorEq, zB, zE, zA, zS, zL, zD, zM]
      rfl
     | true =>
      cases B1 with
      | false =>
       simp only [gi, en, ew, bstr_size, push_cast, ↓reduceIte, reduceCtorEq, zB, zE, zA, zS, zL, zD, zM]
       rfl
      | true =>
       cases B2 with
       | false =>
        simp only [gi, en, ew, er, bstr_size, push_cast, ↓reduceIte, reduceCtorEq, zB, zE, zA, zS, zL, zD, zM]
        rfl
       | true =>
        cases B3 with
        | false =>
         simp only [gi, en, ew, er, eo, bstr_size, push_cast, ↓reduceIte, reduceCtorEq, zB, zE, zA, zS, zL, zD, zM]
         rfl
        | true =>
         cases B4 with
         | false =>
          simp only [gi, en, ew, er, eo, el, bstr_size, push_cast, ↓reduceIte, reduceCtorEq, zB, zE, zA, zS, zL, zD, zM]
          try rfl
         | true =>
          simp only [gi, en, ew, er, eo, el, bstr_size, push_cast, ↓reduceIte, reduceCtorEq, zB, zE, zA, zS, zL, zD, zM]
          try rfl

noncomputable def apiarylaw25_Make_1_pc : PC :=
  (.seq (.reg [p_s 2 (.mov (o_i 0))])
 (.seq (.reg [p_s 3 (.ld none (.t 0)), p_s 4 (.bin .add (.t 3) (o_i 1)), ⟨none, none, 0, .act (.st 1 (.t 0) (.t 4))⟩])
 (.seq (.seq (.reg [p_s 5 (.ld none (.t 0)), p_s 6 (.ld none (.t 1)), p_s 7 (.len false (.t 6)), p_s 8 (.bin .gtr (.t 5) (.t 7))])
 (.cond (.t 8)
 (.seq (.reg [p_s 2 (.mov (o_i 0))])
 .ret)
 .skip))
 (.seq (.reg [p_s 9 (.ld none (.t 1)), p_s 10 (.ld none (.t 0)), p_s 11 (.bin .sub (.t 10) (o_i 1)), p_s 12 (.ia 1 (.v (.int .i64 0)) (.t 9) (.t 11)), p_s 13 (.ld none (.t 12)),
 p_m 2 13])
 .ret))))
theorem apiarylaw25_Make_1_triple : Fun P0 35 2 [(2, false, none)] apiarylaw25_Make_1_pc := fun_mk Go.Proofs.Tryz.func35 rfl (by decide) (by kernel_rfl) (by decide) rfl (by kernel_rfl) (by kernel_rfl) (by decide)
noncomputable def apiarylaw25_Make_pc : PC :=
  (.seq (.reg [p_a 4 (.box (.t 1)), p_a 6 (.new [(.r (.v (.int .i64 0))), (.nils 1 (.v (.int .i64 0))), (.nils 1 (.v (.int .u64 0))), (.nils 2 (.agg [(.v (.int .i64 0)), (.v (.int .i64 0))])), (.nils 5 (.agg [(.v (.int .i64 0)), (.v (.int .i64 0)), (.v (.int .i64 0)), (.v (.int .i64 0)), (.v (.int .i64 0))]))])])
 (.seq (.reg [p_m 19 0, p_s 20 (.bin .rem (.t 19) (o_i 16)), p_s 21 (.bin .add (.t 20) (o_i 16)), p_s 22 (.bin .rem (.t 21) (o_i 16)), p_s 23 (.bin .add (.t 22) (o_i 1)), p_m 0 23])
 (.seq (.reg [p_m 24 0, p_s 25 (.build [(.r (.v (.int .i64 0))), (.nils 1 (.v (.int .i64 0))), (.nils 1 (.v (.int .u64 0))), (.nils 2 (.agg [(.v (.int .i64 0)), (.v (.int .i64 0))])), (.nils 5 (.agg [(.v (.int .i64 0)), (.v (.int .i64 0)), (.v (.int .i64 0)), (.v (.int .i64 0)), (.v (.int .i64 0))]))] [(0, 1, (.t 24))]),
 p_a 7 (.new [(.r (.v (.int .i64 0))), (.nils 1 (.v (.int .i64 0))), (.nils 1 (.v (.int .u64 0))), (.nils 2 (.agg [(.v (.int .i64 0)), (.v (.int .i64 0))])), (.nils 5 (.agg [(.v (.int .i64 0)), (.v (.int .i64 0)), (.v (.int .i64 0)), (.v (.int .i64 0)), (.v (.int .i64 0))]))]),
 ⟨none, none, 0, .act (.st 5 (.t 7) (.t 25))⟩])
 (.seq (.reg [p_a 8 (.new [(.r (.v (.int .i64 0)))]), ⟨none, none, 0, .act (.st 1 (.t 8) (o_i 0))⟩])
 (.seq (.reg [p_s 26 (.mkf (.func 35) [(.t 8), (.t 4)]), p_m 9 26])
 (.seq (.reg [p_c 28 1 32 [], p_m 27 28, p_s 29 (.ext (.t 27) 0), p_s 30 (.ext (.t 27) 1), p_m 10 29, p_m 11 30])
 (.seq (.reg [p_m 31 11, p_m 32 0, p_s 33 (.bin .sub (.t 32) (o_i 1)), p_s 34 (.ia 1 (.v (.string ⟨#[]⟩)) (.t 31) (.t 33)), p_s 35 (.ld none (.t 34)), p_m 12 35])
 (.seq (.seq (.reg [p_s 13 (.mov (o_i 0))])
 (.block 0 (.loop (.seq (.seq (.reg [p_m 36 13, p_m 37 12, p_s 38 (.len true (.t 37)), p_s 39 (.bin .lss (.t 36) (.t 38))])
 (.cond (.t 39)
 .skip
 (.exit 0)))
 (.seq (.block 1 (.seq (.reg [p_m 42 12, p_m 43 13, p_s 44 (.ixs (.t 42) (.t 43)), p_m 14 44])
 (.block 2 (.seq (.reg [p_m 53 14, p_s 54 (.bin .eql (.t 53) (.c (.r (.v (.int .u8 119))))), p_m 55 54, p_g 56 55 false (.mov (.t 0)), p_g 57 55 false (.bin .eql (.t 56) (o_i 7)), p_g 58 55 false (.mov (.t 57)),
 p_g 59 58 true (.mov (.t 14)), p_g 60 58 true (.bin .eql (.t 59) (.c (.r (.v (.int .u8 118))))), p_g 61 55 false (.pick (.t 58) (.t 60) (.c (.r (.v (.bool false))))),
 p_s 62 (.pick (.t 55) (.c (.r (.v (.bool true)))) (.t 61)), p_m 52 62])
 (.cond (.t 52)
 (.seq (.reg [p_m 63 9, ⟨(some 64), none, 2, .callv (.t 63) []⟩, p_m 65 9, ⟨(some 66), none, 3, .callv (.t 65) []⟩, p_m 15 64, p_m 16 66])
 (.drw [p_s 67 (.fa 2 (.t 7)), p_s 68 (.ld none (.t 67)), p_m 69 15, p_m 70 16, p_m 71 9, ⟨(some 72), none, 4, .callv (.t 71) []⟩, p_s 73 (.bin .and (.t 72) (o_i 15)), p_c 74 5 13 [.t 69, .t 70, .t 73],
 p_a 75 (.bsl 1 (.v (.int .u64 0)) [(.t 74)]), p_a 76 (.app 1 (.v (.int .u64 0)) 8 (.t 68) (.t 75)), p_s 77 (.fa 2 (.t 7)), ⟨none, none, 0, .act (.st 1 (.t 77) (.t 76))⟩]
 [[], [0], [], [], [], [4], [4, 5], [2, 3, 4, 5, 6], [2, 3, 4, 5, 6, 7], [0, 1, 2, 3, 4, 5, 6, 7, 8], [0, 1, 2, 3, 4, 5, 6, 7, 8, 9], [0, 1, 2, 3, 4, 5, 6, 7, 8, 9, 10]]))
 (.seq (.reg [p_m 79 14, p_s 80 (.bin .eql (.t 79) (.c (.r (.v (.int .u8 112))))), p_m 78 80])
 (.cond (.t 78)
 (.seq (.reg [p_s 17 (.mov (o_i 0))])
 (.block 3 (.loop (.seq (.seq (.reg [p_m 81 17, p_m 82 9, ⟨(some 83), none, 6, .callv (.t 82) []⟩, p_s 84 (.bin .and (.t 83) (o_i 3)), p_s 85 (.bin .add (o_i 3) (.t 84)), p_s 86 (.bin .lss (.t 81) (.t 85))])
 (.cond (.t 86)
 .skip
 (.exit 3)))
 (.seq (.block 4 (.drw [p_s 89 (.fa 3 (.t 7)), p_s 90 (.ld none (.t 89)), p_m 91 9, ⟨(some 92), none, 7, .callv (.t 91) []⟩, p_s 93 (.bin .and (.t 92) (o_i 1073741823)), p_m 94 9, ⟨(some 95), none, 8, .callv (.t 94) []⟩,
 p_s 96 (.bin .and (.t 95) (o_i 1073741823)), p_s 97 (.build [(.r (.v (.int .i64 0))), (.r (.v (.int .i64 0)))] [(0, 1, (.t 93)), (1, 1, (.t 96))]), p_a 98 (.bsl 2 (.agg [(.v (.int .i64 0)), (.v (.int .i64 0))]) [(.t 97)]),
 p_a 99 (.app 2 (.agg [(.v (.int .i64 0)), (.v (.int .i64 0))]) 16 (.t 90) (.t 98)), p_s 100 (.fa 3 (.t 7)), ⟨none, none, 0, .act (.st 1 (.t 100) (.t 99))⟩]
 [[], [0], [], [2], [2, 3], [], [2, 3, 5], [2, 3, 5, 6], [2, 3, 4, 5, 6, 7], [2, 3, 4, 5, 6, 7, 8], [0, 1, 2, 3, 4, 5, 6, 7, 8, 9], [0, 1, 2, 3, 4, 5, 6, 7, 8, 9, 10], [0, 1, 2, 3, 4, 5, 6, 7, 8, 9, 10, 11]]))
 (.reg [p_m 87 17, p_s 88 (.bin .add (.t 87) (o_i 1)), p_m 17 88]))))))
 (.drw [p_s 45 (.fa 1 (.t 7)), p_s 46 (.ld none (.t 45)), p_m 47 9, ⟨(some 48), none, 9, .callv (.t 47) []⟩, p_a 49 (.bsl 1 (.v (.int .i64 0)) [(.t 48)]), p_a 50 (.app 1 (.v (.int .i64 0)) 8 (.t 46) (.t 49)),
 p_s 51 (.fa 1 (.t 7)), ⟨none, none, 0, .act (.st 1 (.t 51) (.t 50))⟩]
 [[], [0], [], [2], [2, 3], [0, 1, 2, 3, 4], [0, 1, 2, 3, 4, 5], [0, 1, 2, 3, 4, 5, 6]]))))))))
 (.reg [p_m 40 13, p_s 41 (.bin .add (.t 40) (o_i 1)), p_m 13 41]))))))
 (.seq (.seq (.reg [p_m 101 0, p_s 102 (.bin .eql (.t 101) (o_i 16))])
 (.cond (.t 102)
 (.seq (.seq (.reg [p_s 18 (.mov (o_i 0))])
 (.block 5 (.loop (.seq (.seq (.reg [p_m 103 18, p_m 104 2, p_s 105 (.len false (.t 104)), p_s 106 (.bin .lss (.t 103) (.t 105)), p_m 107 106, p_g 108 107 true (.mov (.t 18)), p_g 109 107 true (.bin .lss (.t 108) (o_i 60)),
 p_s 110 (.pick (.t 107) (.t 109) (.c (.r (.v (.bool false)))))])
 (.cond (.t 110)
 .skip
 (.exit 5)))
 (.seq (.block 6 (.seq (.reg [p_m 113 2, p_m 114 18, p_s 115 (.ia 5 (.agg [(.v (.int .i64 0)), (.v (.int .i64 0)), (.v (.int .i64 0)), (.v (.int .i64 0)), (.v (.int .i64 0))]) (.t 113) (.t 114)),
 p_s 116 (.ld (some 5) (.t 115)), p_c 117 10 36 [.t 116]])
 (.cond (.t 117)
 (.drw [p_s 118 (.fa 4 (.t 7)), p_s 119 (.ld none (.t 118)), p_m 120 2, p_m 121 18, p_s 122 (.ia 5 (.agg [(.v (.int .i64 0)), (.v (.int .i64 0)), (.v (.int .i64 0)), (.v (.int .i64 0)), (.v (.int .i64 0))]) (.t 120) (.t 121)),
 p_s 123 (.ld (some 5) (.t 122)), p_a 124 (.bsl 5 (.agg [(.v (.int .i64 0)), (.v (.int .i64 0)), (.v (.int .i64 0)), (.v (.int .i64 0)), (.v (.int .i64 0))]) [(.t 123)]),
 p_a 125 (.app 5 (.agg [(.v (.int .i64 0)), (.v (.int .i64 0)), (.v (.int .i64 0)), (.v (.int .i64 0)), (.v (.int .i64 0))]) 40 (.t 119) (.t 124)), p_s 126 (.fa 4 (.t 7)),
 ⟨none, none, 0, .act (.st 1 (.t 126) (.t 125))⟩]
 [[], [0], [], [], [2, 3], [2, 3, 4], [2, 3, 4, 5], [0, 1, 2, 3, 4, 5, 6], [0, 1, 2, 3, 4, 5, 6, 7], [0, 1, 2, 3, 4, 5, 6, 7, 8]])
 .skip)))
 (.reg [p_m 111 18, p_s 112 (.bin .add (.t 111) (o_i 1)), p_m 18 112]))))))
 (.seq (.reg [p_s 127 (.fa 4 (.t 7)), p_s 128 (.ld none (.t 127)), p_s 129 (.len false (.t 128)), p_s 130 (.bin .eql (.t 129) (o_i 0))])
 (.cond (.t 130)
 (.reg [p_s 131 (.build [(.r (.v (.int .i64 0))), (.r (.v (.int .i64 0))), (.r (.v (.int .i64 0))), (.r (.v (.int .i64 0)))] [(0, 1, (o_i 1))]), p_s 132 (.build [(.r (.v (.int .i64 0))), (.r (.v (.int .i64 0))), (.r (.v (.int .i64 0))), (.r (.v (.int .i64 0))), (.r (.v (.int .i64 0)))] [(0, 1, (o_i 2)), (1, 4, (.t 131))]),
 p_a 133 (.bsl 5 (.agg [(.v (.int .i64 0)), (.v (.int .i64 0)), (.v (.int .i64 0)), (.v (.int .i64 0)), (.v (.int .i64 0))]) [(.t 132)]), p_s 134 (.fa 4 (.t 7)),
 ⟨none, none, 0, .act (.st 1 (.t 134) (.t 133))⟩])
 .skip)))
 .skip))
 (.seq (.reg [p_s 135 (.ld (some 5) (.t 7)), ⟨none, none, 0, .act (.st 5 (.t 6) (.t 135))⟩])
 .ret))))))))))
theorem apiarylaw25_Make_triple : Fun P0 16 3 [(6, false, some (29, (some 5)))] apiarylaw25_Make_pc := fun_mk Go.Proofs.Tryz.func16 rfl (by decide) (by kernel_rfl) (by decide) rfl (by kernel_rfl) (by kernel_rfl) (by decide)
def nx (l : List Int) (i : Nat) : Int := l.getD i 0
theorem nx_in {l : List Int} (h : ∀ n ∈ l, in64 n) (i : Nat) : in64 (nx l i) := by
 unfold nx
 by_cases hi : i < l.length
 ·rw [zae, zan hi]
  exact h _ (zal hi)
 ·rw [zae, List.getElem?_eq_none (by omega)]
  unfold in64
  decide
theorem next_t (l : List Int) (i : Nat) (hi : i ≤ 1000000) : Triple P0 35 [.ptr 1000000 0 0, .ptr 1000001 0 0] [.box [int .i64 i], .box [.r (.sl 1 (l.map n8))]] (int .i64 (nx l i)) [.box [int .i64 ((i : Int) + 1)], .box [.r (.sl 1 (l.map n8))]] := by
 refine apiarylaw25_Make_1_triple rfl (by simp) ?_
 have w1 : IntKind.i64.wrap ((i : Int) + 1) = (i : Int) + 1 := wrap_id (by omega)
 have w2 : IntKind.i64.wrap ((i : Int) + 1 - 1) = (i : Int) := by rw [wrap_id (by omega)]; omega
 unfold nx
 by_cases h : i < l.length
 ·have g : decide (((i : Nat) : Int) + 1 > ((l.length : Nat) : Int)) = false := decide_eq_false (by omega)
  have hg : ∀ z, (l.map n8).getD i z = .v (.int .i64 (l.getD i 0)) := fun z => by
   rw [zae, zae]
   simp [h, n8]
  simp only [apiarylaw25_Make_1_pc, w1, w2, g, hg, zaa, zab, zac, push_cast, ↓reduceIte, reduceCtorEq, zB, zE, zA, zS, zL, zD, zM]
  omega
 ·have g : decide (((i : Nat) : Int) + 1 > ((l.length : Nat) : Int)) = true := decide_eq_true (by omega)
  have e : l.getD i 0 = 0 := by rw [zae, List.getElem?_eq_none (by omega)]; rfl
  rw [e]
  simp only [apiarylaw25_Make_1_pc, w1, w2, g, zaa, zab, zac, push_cast, ↓reduceIte, reduceCtorEq, zB, zE, zA, zS, zL, zD, zM]
def mkR (l : List Int) : Nat → Nat → Nat → List (Int × Int) → Nat × List (Int × Int)
 | 0, _, at', rg => (at', rg)
 | f + 1, k, at', rg => if (k : Int) < 3 + nx l at' % 4 then mkR l f (k + 1) (at' + 3) (rg ++ [(nx l (at' + 1) % 1073741824, nx l (at' + 2) % 1073741824)]) else (at' + 1, rg)
def mkS (l : List Int) (k : Int) : Bs → Nat → List Int → List Nat → List (Int × Int) → Nat × List Int × List Nat × List (Int × Int)
 | [], at', ns, ws, rg => (at', ns, ws, rg)
 | c :: ks, at', ns, ws, rg =>
  if wordB k c = true then mkS l k ks (at' + 3) ns (ws ++ [word (someR (nx l (at' + 2) % 16)) (someC (nx l at') (nx l (at' + 1)) (nx l (at' + 2) % 16))]) rg
  else if c = 112 then mkS l k ks (mkR l 8 0 at' rg).1 ns ws (mkR l 8 0 at' rg).2
  else mkS l k ks (at' + 1) (ns ++ [nx l at']) ws rg
def mkO (os : List Op5) : List Op5 := if (os.take 60).filter opB = [] then [⟨2, 1, 0, 0, 0⟩] else (os.take 60).filter opB
def kindS (kind : Int) : Int := kind % 16 + 1
def makeD (kind : Int) (l : List Int) (os : List Op5) : AskD :=
 let x := mkS l (kindS kind) (keysL.getD (kind % 16).toNat []) 0 [] [] []
 ⟨kindS kind, x.2.1, x.2.2.1, x.2.2.2, if kindS kind = 16 then mkO os else []⟩
def mlos (k : Int) (i : Nat) (l : List Int) : List Int → List Nat → List (Int × Int) → List Ob
 | [], [], [] => [zbx, .box [int .i64 i], .box [.r (.sl 1 (l.map n8))], .box [int .i64 k, .nils 1 (n8 0), .nils 1 (u8R 0), .nils 2 ptZ, .nils 5 opZ]]
 | n :: nr, [], [] => [zbx, .box [int .i64 i], .box [.r (.sl 1 (l.map n8))], .box [int .i64 k, .own 2000004 0 0 (nr.length + 1), .nils 1 (u8R 0), .nils 2 ptZ, .nils 5 opZ], .row 1 (n8 0) true true ((n :: nr).map n8)]
 | [], w :: wr, [] => [zbx, .box [int .i64 i], .box [.r (.sl 1 (l.map n8))], .box [int .i64 k, .nils 1 (n8 0), .own 2000004 0 0 (wr.length + 1), .nils 2 ptZ, .nils 5 opZ], .row 1 (u8R 0) true true ((w :: wr).map u8R)]
 | [], [], g :: gr => [zbx, .box [int .i64 i], .box [.r (.sl 1 (l.map n8))], .box [int .i64 k, .nils 1 (n8 0), .nils 1 (u8R 0), .own 2000004 0 0 (gr.length + 1), .nils 5 opZ], .row 2 ptZ true true ((g :: gr).map ptR)]
 | n :: nr, w :: wr, [] => [zbx, .box [int .i64 i], .box [.r (.sl 1 (l.map n8))], .box [int .i64 k, .own 2000004 0 0 (nr.length + 1), .own 2000005 0 0 (wr.length + 1), .nils 2 ptZ, .nils 5 opZ], .row 1 (n8 0) true true ((n :: nr).map n8), .row 1 (u8R 0) true true ((w :: wr).map u8R)]
 | n :: nr, [], g :: gr => [zbx, .box [int .i64 i], .box [.r (.sl 1 (l.map n8))], .box [int .i64 k, .own 2000004 0 0 (nr.length + 1), .nils 1 (u8R 0), .own 2000005 0 0 (gr.length + 1), .nils 5 opZ], .row 1 (n8 0) true true ((n :: nr).map n8), .row 2 ptZ true true ((g :: gr).map ptR)]
 | [], w :: wr, g :: gr => [zbx, .box [int .i64 i], .box [.r (.sl 1 (l.map n8))], .box [int .i64 k, .nils 1 (n8 0), .own 2000004 0 0 (wr.length + 1), .own 2000005 0 0 (gr.length + 1), .nils 5 opZ], .row 1 (u8R 0) true true ((w :: wr).map u8R), .row 2 ptZ true true ((g :: gr).map ptR)]
 | n :: nr, w :: wr, g :: gr => [zbx, .box [int .i64 i], .box [.r (.sl 1 (l.map n8))], .box [int .i64 k, .own 2000004 0 0 (nr.length + 1), .own 2000005 0 0 (wr.length + 1), .own 2000006 0 0 (gr.length + 1), .nils 5 opZ], .row 1 (n8 0) true true ((n :: nr).map n8), .row 1 (u8R 0) true true ((w :: wr).map u8R), .row 2 ptZ true true ((g :: gr).map ptR)]
theorem ml_1 (k : Int) (i : Nat) (l : List Int) : mlos k i l [] [] [] = [zbx, .box [int .i64 i], .box [.r (.sl 1 (l.map n8))], .box [int .i64 k, .nils 1 (n8 0), .nils 1 (u8R 0), .nils 2 ptZ, .nils 5 opZ]] := (rfl)
theorem ml_2 (k : Int) (i : Nat) (l : List Int) (n : Int) (nr : List Int) : mlos k i l (n :: nr) [] [] = [zbx, .box [int .i64 i], .box [.r (.sl 1 (l.map n8))], .box [int .i64 k, .own 2000004 0 0 (nr.length + 1), .nils 1 (u8R 0), .nils 2 ptZ, .nils 5 opZ], .row 1 (n8 0) true true ((n :: nr).map n8)] := (rfl)
theorem ml_3 (k : Int) (i : Nat) (l : List Int) (w : Nat) (wr : List Nat) : mlos k i l [] (w :: wr) [] = [zbx, .box [int .i64 i], .box [.r (.sl 1 (l.map n8))], .box [int .i64 k, .nils 1 (n8 0), .own 2000004 0 0 (wr.length + 1), .nils 2 ptZ, .nils 5 opZ], .row 1 (u8R 0) true true ((w :: wr).map u8R)] := (rfl)
theorem ml_4 (k : Int) (i : Nat) (l : List Int) (g : Int × Int) (gr : List (Int × Int)) : mlos k i l [] [] (g :: gr) = [zbx, .box [int .i64 i], .box [.r (.sl 1 (l.map n8))], .box [int .i64 k, .nils 1 (n8 0), .nils 1 (u8R 0), .own 2000004 0 0 (gr.length + 1), .nils 5 opZ], .row 2 ptZ true true ((g :: gr).map ptR)] := (rfl)
theorem ml_5 (k : Int) (i : Nat) (l : List Int) (n : Int) (nr : List Int) (w : Nat) (wr : List Nat) : mlos k i l (n :: nr) (w :: wr) [] = [zbx, .box [int .i64 i], .box [.r (.sl 1 (l.map n8))], .box [int .i64 k, .own 2000004 0 0 (nr.length + 1), .own 2000005 0 0 (wr.length + 1), .nils 2 ptZ, .nils 5 opZ], .row 1 (n8 0) true true ((n :: nr).map n8), .row 1 (u8R 0) true true ((w :: wr).map u8R)] := (rfl)
theorem ml_6 (k : Int) (i : Nat) (l : List Int) (n : Int) (nr : List Int) (g : Int × Int) (gr : List (Int × Int)) : mlos k i l (n :: nr) [] (g :: gr) = [zbx, .box [int .i64 i], .box [.r (.sl 1 (l.map n8))], .box [int .i64 k, .own 2000004 0 0 (nr.length + 1), .nils 1 (u8R 0), .own 2000005 0 0 (gr.length + 1), .nils 5 opZ], .row 1 (n8 0) true true ((n :: nr).map n8), .row 2 ptZ true true ((g :: gr).map ptR)] := (rfl)
theorem ml_7 (k : Int) (i : Nat) (l : List Int) (w : Nat) (wr : List Nat) (g : Int × Int) (gr : List (Int × Int)) : mlos k i l [] (w :: wr) (g :: gr) = [zbx, .box [int .i64 i], .box [.r (.sl 1 (l.map n8))], .box [int .i64 k, .nils 1 (n8 0), .own 2000004 0 0 (wr.length + 1), .own 2000005 0 0 (gr.length + 1), .nils 5 opZ], .row 1 (u8R 0) true true ((w :: wr).map u8R), .row 2 ptZ true true ((g :: gr).map ptR)] := (rfl)
theorem ml_8 (k : Int) (i : Nat) (l : List Int) (n : Int) (nr : List Int) (w : Nat) (wr : List Nat) (g : Int × Int) (gr : List (Int × Int)) : mlos k i l (n :: nr) (w :: wr) (g :: gr) = [zbx, .box [int .i64 i], .box [.r (.sl 1 (l.map n8))], .box [int .i64 k, .own 2000004 0 0 (nr.length + 1), .own 2000005 0 0 (wr.length + 1), .own 2000006 0 0 (gr.length + 1), .nils 5 opZ], .row 1 (n8 0) true true ((n :: nr).map n8), .row 1 (u8R 0) true true ((w :: wr).map u8R), .row 2 ptZ true true ((g :: gr).map ptR)] := (rfl)
def olos : List Op5 → List Ob
 | [] => [zbx, .box [int .i64 16, .nils 1 (n8 0), .nils 1 (u8R 0), .nils 2 ptZ, .nils 5 opZ]]
 | o :: r => [zbx, .box [int .i64 16, .nils 1 (n8 0), .nils 1 (u8R 0), .nils 2 ptZ, .own 2000002 0 0 (r.length + 1)], .row 5 opZ true true ((o :: r).map opR)]
set_option maxHeartbeats 4000000 in
theorem make_t (kind : Int) (l : List Int) (os : List Op5) (hk : in64 kind) (hl : ∀ n ∈ l, in64 n) (hol : os.length ≤ 100000) (hll : l.length ≤ 100000) :
  Triple P0 16 [int .i64 kind, .r (.sl 1 (l.map n8)), .r (.sl 5 (os.map opR))] [] (makeD kind l os).av [] := by
 refine apiarylaw25_Make_triple rfl (by decide) ?_
 obtain ⟨Q, hQ⟩ : ∃ Q, makeD kind l os = Q := ⟨_, rfl⟩
 rw [hQ]
 unfold makeD at hQ
 have hfn : isFn P0 35 = true := rfl
 obtain ⟨K, hK⟩ : ∃ K : Nat, kind % 16 = (K : Int) := ⟨(kind % 16).toNat, by omega⟩
 have hK16 : K < 16 := by omega
 have hkt : IntKind.i64.wrap ((IntKind.i64.wrap (kind.tmod 16 + 16)).tmod 16 + 1) = (K : Int) + 1 := by
  have h1 := Int.tmod_lt_of_pos kind (show (0 : Int) < 16 by decide)
  have h2 := Int.lt_tmod_of_pos kind (show (0 : Int) < 16 by decide)
  have h3 : (kind.tmod 16 + 16).tmod 16 = (K : Int) := by
   rw [Int.tmod_eq_emod_of_nonneg (by omega)]
   have := Int.mul_tdiv_add_tmod kind 16
   omega
  rw [wrap_id (x := kind.tmod 16 + 16) (by omega), h3, wrap_id (by omega)]
 have hgk : ∀ z, (strs keysL).getD K z = .v (.string (bstr (keysL.getD K []))) := fun z => by
  have hK : K < keysL.length := hK16
  rw [zae, zae]
  simp [hK, strR]
 have hks5 : ∀ i : Fin 16, (keysL.getD i.val []).length ≤ 5 := by decide
 have hks5 := hks5 ⟨K, hK16⟩
 simp only at hks5
 unfold kindS at hQ
 rw [hK] at hQ
 simp only [zaa] at hQ
 obtain ⟨ks, hks⟩ : ∃ ks, keysL.getD K [] = ks := ⟨_, rfl⟩
 obtain ⟨k, hk⟩ : ∃ k : Int, (K : Int) + 1 = k := ⟨_, rfl⟩
 have wk : IntKind.i64.wrap (k - 1) = (K : Int) := by rw [wrap_id (by omega)]; omega
 simp only [hks, hk] at hQ hks5 hgk hkt
 obtain ⟨R, hR⟩ : ∃ R, mkS l k ks 0 [] [] [] = R := ⟨_, rfl⟩
 rw [hR] at hQ
 have hKL : (strs keysL).length = 16 := rfl
 have hmax := maxLen_big
 simp only [apiarylaw25_Make_pc, hfn, hkt, push_cast, ↓reduceIte, reduceCtorEq, zB, zE, zA, zS, zL, zD, zM]
 refine ⟨by decide, by decide, ?_⟩
 refine call_mk names_t rfl trivial ?_
 simp only [wk, hgk, hKL, hfn, zaa, zab, zac, push_cast, ↓reduceIte, reduceCtorEq, zB, zE, zA, zS, zL, zD, zM]
 refine ⟨by omega, ?_⟩
 refine run_loop [(0, false), (2, false), (12, false), (13, false), (6, false), (9, false), (7, false)] (fun vs pos los => ∃ (i at' : Nat) (ns : List Int) (ws : List Nat) (rg : List (Int × Int)), i ≤ ks.length ∧ at' ≤ 100 * i ∧ ns.length ≤ i ∧ ws.length ≤ i ∧ rg.length ≤ 10 * i ∧ mkS l k (ks.drop i) at' ns ws rg = R ∧
   vs = [int .i64 k, .r (.sl 5 (os.map opR)), sV ks, int .i64 i, .ptr 2000000 0 0, .fn (.func 35) [.ptr 2000001 0 0, .ptr 2000002 0 0] 0, .ptr 2000003 0 0] ∧ pos = [] ∧ los = mlos k at' l ns ws rg)
  (fun vs _ _ => match vs with | [_, _, _, .r (.v (.int _ j)), _, _, _] => (ks.length - j).toNat | _ => 0) rfl ?_ ?_
 ·simp only [hfn, push_cast, ↓reduceIte, reduceCtorEq, zB, zE, zA, zS, zL, zD, zM]
  exact ⟨0, 0, [], [], [], by omega, by omega, by simp, by simp, by simp, hR, rfl, rfl⟩
 ·rintro vs pos los ⟨i, at', ns, ws, rg, i0, hat, hnl, hwl, hrl, hmk, rfl, rfl, rfl⟩
  by_cases hi : i < ks.length
  ·obtain ⟨c, hc⟩ : ∃ c, ks[i] = c := ⟨_, rfl⟩
   have hd : ks.drop i = c :: ks.drop (i + 1) := by rw [zar hi, hc]
   have hgc : ks.getD i 0 = c := by simp [List.getD, hi, hc]
   have gi : decide (((i : Nat) : Int) < ((ks.length : Nat) : Int)) = true := decide_eq_true (by omega)
   have w1 : IntKind.i64.wrap ((i : Int) + 1) = (i : Int) + 1 := wrap_id (by omega)
   rw [hd, mkS] at hmk
   obtain ⟨C, hC⟩ : ∃ C : Int, ((c.toNat : Nat) : Int) = C := ⟨_, rfl⟩
   have hwd : (bif C == 119 then true else bif k == 7 then C == 118 else false) = wordB k c := by
    unfold wordB
    by_cases h1 : c.toNat = 119
    ·have : (C == 119) = true := by rw [beq_iff_eq]; omega
     simp [this, h1]
    ·have e1 : (C == 119) = false := by rw [beq_eq_false_iff_ne]; omega
     by_cases h2 : k = 7
     ·have e2 : (k == 7) = true := by rw [beq_iff_eq]; exact h2
      by_cases h3 : c.toNat = 118
      ·have e3 : (C == 118) = true := by rw [beq_iff_eq]; omega
       simp [e1, e2, e3, h1, h2, h3]
      ·have e3 : (C == 118) = false := by rw [beq_eq_false_iff_ne]; omega
       simp [e1, e2, e3, h1, h2, h3]
     ·have e2 : (k == 7) = false := by rw [beq_eq_false_iff_ne]; exact h2
      simp [e1, e2, h1, h2]
   obtain ⟨A1, hA1⟩ : ∃ A, (C == 119) = A := ⟨_, rfl⟩
   obtain ⟨A2, hA2⟩ : ∃ A, (k == 7) = A := ⟨_, rfl⟩
   obtain ⟨A3, hA3⟩ : ∃ A, (C == 118) = A := ⟨_, rfl⟩
   rw [hA1, hA2, hA3] at hwd
   have hwcase : (A1 = true ∧ wordB k c = true) ∨ (A1 = false ∧ A2 = true ∧ A3 = true ∧ wordB k c = true) ∨ (A1 = false ∧ A2 = true ∧ A3 = false ∧ wordB k c = false) ∨ (A1 = false ∧ A2 = false ∧ wordB k c = false) := by
    rw [← hwd]
    cases A1 <;> cases A2 <;> cases A3 <;> simp
   have t0 := next_t l at' (by omega)
   have t1 := next_t l (at' + 1) (by omega)
   have t2 := next_t l (at' + 2) (by omega)
   have hx := nx_in hl at'
   have hy := nx_in hl (at' + 1)
   have hz := nx_in hl (at' + 2)
   simp only [hfn, gi, hgc, hC, w1, hA1, hA2, hA3, hwd, bstr_size, bstr_data, zaa, zab, zac, push_cast, ↓reduceIte, reduceCtorEq, zB, zE, zA, zS, zL, zD, zM]
   repeat refine And.intro (by first | omega | (cases A1 <;> cases A2 <;> cases A3 <;> simp; done) | (simp; done)) ?_
   refine cnd_mk (fun hW => ?_) (fun hW => ?_)
   ·rw [if_pos hW] at hmk
    have wr : IntKind.i64.wrap ((zam IntKind.i64.bits (nx l (at' + 2)) &&& zam IntKind.i64.bits 15).toNat) = nx l (at' + 2) % 16 := by
     have := and_mask (nx l (at' + 2)) 15 4 (by decide) (by decide)
     rw [this]
     rfl
    have haw := aword_t (nx l at') (nx l (at' + 1)) (nx l (at' + 2) % 16) hx hy ⟨by omega, by omega⟩
    have ea1 : (((at' + 1 : Nat)) : Int) = (at' : Int) + 1 := by omega
    have ea2 : (((at' + 2 : Nat)) : Int) = (at' : Int) + 1 + 1 := by omega
    simp only [ea1] at t1
    simp only [ea2] at t2
    rcases ns with _ | ⟨n0, nr⟩ <;> rcases ws with _ | ⟨w0, wr'⟩ <;> rcases rg with _ | ⟨g0, gr⟩ <;> simp only [hfn, gi, hgc, hC, w1, ml_1, ml_2, ml_3, ml_4, ml_5, ml_6, ml_7, ml_8, zbx, n8, u8R, ptZ, opZ, bstr_size, bstr_data, zaa, zab, zac, push_cast, ↓reduceIte, reduceCtorEq, zB, zE, zA, zS, zL, zD, zM]
    all_goals refine call_mk t0 rfl ⟨rfl, rfl, trivial⟩ ?_
    all_goals simp only [hfn, gi, hgc, hC, w1, ml_1, ml_2, ml_3, ml_4, ml_5, ml_6, ml_7, ml_8, zbx, n8, u8R, ptZ, opZ, bstr_size, bstr_data, zaa, zab, zac, push_cast, ↓reduceIte, reduceCtorEq, zB, zE, zA, zS, zL, zD, zM]
    all_goals refine call_mk t1 rfl ⟨rfl, rfl, trivial⟩ ?_
    all_goals simp only [hfn, gi, hgc, hC, w1, ml_1, ml_2, ml_3, ml_4, ml_5, ml_6, ml_7, ml_8, zbx, n8, u8R, ptZ, opZ, bstr_size, bstr_data, zaa, zab, zac, push_cast, ↓reduceIte, reduceCtorEq, zB, zE, zA, zS, zL, zD, zM]
    all_goals refine dcall_mk t2 rfl ⟨rfl, rfl, trivial⟩ ?_
    all_goals simp only [wr, hfn, gi, hgc, hC, w1, ml_1, ml_2, ml_3, ml_4, ml_5, ml_6, ml_7, ml_8, zbx, n8, u8R, ptZ, opZ, bstr_size, bstr_data, zaa, zab, zac, push_cast, ↓reduceIte, reduceCtorEq, zB, zE, zA, zS, zL, zD, zM]
    all_goals refine dcall_mk haw rfl trivial ?_
    all_goals simp only [uw, wr, hfn, gi, hgc, hC, w1, ml_1, ml_2, ml_3, ml_4, ml_5, ml_6, ml_7, ml_8, zbx, n8, u8R, ptZ, opZ, bstr_size, bstr_data, zaa, zab, zac, push_cast, ↓reduceIte, reduceCtorEq, zB, zE, zA, zS, zL, zD, zM]
    all_goals repeat refine And.intro (by first | omega | (simp; done) | (simp only [zaf, zag, zad] at hnl hwl hrl ⊢; omega) | (constructor <;> (simp only [zaf, zag, zad] at hnl hwl hrl ⊢; omega)) | (constructor <;> omega) | kernel_rfl) ?_
    all_goals refine ⟨⟨i + 1, at' + 3, _, _, _, by omega, by omega, by first | omega | (simp; done) | (simp only [zaf, zag, zad] at hnl hwl hrl ⊢; omega) | (simp; omega) | (simp at hnl hwl hrl ⊢; omega), by first | omega | (simp; done) | (simp only [zaf, zag, zad] at hnl hwl hrl ⊢; omega) | (simp; omega) | (simp at hnl hwl hrl ⊢; omega), by first | omega | (simp; done) | (simp only [zaf, zag, zad] at hnl hwl hrl ⊢; omega) | (simp; omega) | (simp at hnl hwl hrl ⊢; omega), hmk, by simp, ?_⟩, by omega⟩
    all_goals simp [mlos, zbx, n8, u8R, ptZ, opZ, ptR]
    all_goals try omega
   ·rw [if_neg (by rw [hW]; decide)] at hmk
    simp only [hfn, gi, hgc, hC, w1, bstr_size, bstr_data, zaa, zab, zac, push_cast, ↓reduceIte, reduceCtorEq, zB, zE, zA, zS, zL, zD, zM]
    refine cnd_mk (fun h112 => ?_) (fun h112 => ?_)
    ·have h112 : c = 112 := by
      apply UInt8.toNat_inj.1
      have : (112 : UInt8).toNat = 112 := rfl
      have : C = 112 := by simpa using h112
      omega
     rw [if_pos h112] at hmk
     obtain ⟨RR, hRR⟩ : ∃ x, mkR l 8 0 at' rg = x := ⟨_, rfl⟩
     rw [hRR] at hmk
     obtain ⟨NS, hNS⟩ : ∃ x, x = ns := ⟨_, rfl⟩
     obtain ⟨WS, hWS⟩ : ∃ x, x = ws := ⟨_, rfl⟩
     rcases ns with _ | ⟨n0, nr⟩ <;> rcases ws with _ | ⟨w0, wr'⟩ <;> rcases rg with _ | ⟨g0, gr⟩ <;> simp only [hfn, gi, hgc, hC, w1, ml_1, ml_2, ml_3, ml_4, ml_5, ml_6, ml_7, ml_8, zbx, n8, u8R, ptZ, opZ, bstr_size, bstr_data, zaa, zab, zac, push_cast, ↓reduceIte, reduceCtorEq, zB, zE, zA, zS, zL, zD, zM]
     all_goals (
      refine run_loop [(0, false), (2, false), (12, false), (13, false), (17, false), (6, false), (9, false), (7, false)] (fun vs pos los => ∃ (f j a'' : Nat) (rg' : List (Int × Int)), j + f = 8 ∧ j ≤ 6 ∧ a'' ≤ at' + 3 * j ∧ rg'.length ≤ 10 * i + j ∧ mkR l f j a'' rg' = RR ∧
        vs = [int .i64 k, .r (.sl 5 (os.map opR)), sV ks, int .i64 i, int .i64 j, .ptr 2000000 0 0, .fn (.func 35) [.ptr 2000001 0 0, .ptr 2000002 0 0] 0, .ptr 2000003 0 0] ∧ pos = [] ∧ los = mlos k a'' l NS WS rg')
       (fun vs _ _ => match vs with | [_, _, _, _, .r (.v (.int _ j)), _, _, _] => (7 - j).toNat | _ => 0) rfl ?_ ?_
      ·subst hNS hWS
       simp only [hfn, push_cast, ↓reduceIte, reduceCtorEq, zB, zE, zA, zS, zL, zD, zM]
       exact ⟨8, 0, at', _, by omega, by omega, by omega, by first | omega | (simp; done) | (simp only [zaf, zag, zad] at hnl hwl hrl ⊢; omega) | (simp; omega) | (simp at hnl hwl hrl ⊢; omega), hRR, rfl, rfl⟩
      ·subst hNS hWS
       rintro vs pos los ⟨f, j, a'', rg', hf, hj6, ha'', hrl', hmr, rfl, rfl, rfl⟩
       obtain ⟨f, rfl⟩ : ∃ g, f = g + 1 := ⟨f - 1, by omega⟩
       rw [mkR] at hmr
       have u0 := next_t l a'' (by omega)
       have u1 := next_t l (a'' + 1) (by omega)
       have u2 := next_t l (a'' + 2) (by omega)
       have ea1 : (((a'' + 1 : Nat)) : Int) = (a'' : Int) + 1 := by omega
       have ea2 : (((a'' + 2 : Nat)) : Int) = (a'' : Int) + 1 + 1 := by omega
       simp only [ea1] at u1
       simp only [ea2] at u2
       have m3 : IntKind.i64.wrap ((zam IntKind.i64.bits (nx l a'') &&& zam IntKind.i64.bits 3).toNat) = nx l a'' % 4 := by
        have := and_mask (nx l a'') 3 2 (by decide) (by decide)
        rw [this]
        rfl
       have m30 : ∀ x : Int, IntKind.i64.wrap ((zam IntKind.i64.bits x &&& zam IntKind.i64.bits 1073741823).toNat) = x % 1073741824 := fun x => by
        have := and_mask x 1073741823 30 (by decide) (by decide)
        rw [this]
        rfl
       have w3 : IntKind.i64.wrap (3 + nx l a'' % 4) = 3 + nx l a'' % 4 := wrap_id (by omega)
       have wj : IntKind.i64.wrap ((j : Int) + 1) = (j : Int) + 1 := wrap_id (by omega)
       by_cases hgo : (j : Int) < 3 + nx l a'' % 4
       ·rw [if_pos hgo] at hmr
        have gj : decide ((j : Int) < 3 + nx l a'' % 4) = true := decide_eq_true hgo
        rcases rg' with _ | ⟨h0, hr⟩ <;> simp only [hfn, gi, hgc, hC, w1, ml_1, ml_2, ml_3, ml_4, ml_5, ml_6, ml_7, ml_8, zbx, n8, u8R, ptZ, opZ, bstr_size, bstr_data, zaa, zab, zac, push_cast, ↓reduceIte, reduceCtorEq, zB, zE, zA, zS, zL, zD, zM]
        all_goals refine call_mk u0 rfl ⟨rfl, rfl, trivial⟩ ?_
        all_goals simp only [m3, w3, gj, wj, hfn, gi, hgc, hC, w1, ml_1, ml_2, ml_3, ml_4, ml_5, ml_6, ml_7, ml_8, zbx, n8, u8R, ptZ, opZ, bstr_size, bstr_data, zaa, zab, zac, push_cast, ↓reduceIte, reduceCtorEq, zB, zE, zA, zS, zL, zD, zM]
        all_goals refine dcall_mk u1 rfl ⟨rfl, rfl, trivial⟩ ?_
        all_goals simp only [m30, hfn, gi, hgc, hC, w1, ml_1, ml_2, ml_3, ml_4, ml_5, ml_6, ml_7, ml_8, zbx, n8, u8R, ptZ, opZ, bstr_size, bstr_data, zaa, zab, zac, push_cast, ↓reduceIte, reduceCtorEq, zB, zE, zA, zS, zL, zD, zM]
        all_goals refine dcall_mk u2 rfl ⟨rfl, rfl, trivial⟩ ?_
        all_goals simp only [m30, wj, hfn, gi, hgc, hC, w1, ml_1, ml_2, ml_3, ml_4, ml_5, ml_6, ml_7, ml_8, zbx, n8, u8R, ptZ, opZ, bstr_size, bstr_data, zaa, zab, zac, push_cast, ↓reduceIte, reduceCtorEq, zB, zE, zA, zS, zL, zD, zM]
        all_goals repeat refine And.intro (by first | omega | (simp; done) | (simp only [zaf, zag, zad] at hnl hwl hrl hrl' ⊢; omega) | (constructor <;> (simp only [zaf, zag, zad] at hnl hwl hrl hrl' ⊢; omega)) | (constructor <;> omega) | kernel_rfl) ?_
        all_goals refine ⟨⟨f, j + 1, a'' + 3, _, by omega, by omega, by omega, by first | omega | (simp; done) | (simp only [zaf, zag, zad] at hnl hwl hrl hrl' ⊢; omega) | (simp; omega) | (simp at hnl hwl hrl hrl' ⊢; omega), hmr, by simp, ?_⟩, by omega⟩
        all_goals simp [mlos, zbx, n8, u8R, ptZ, opZ, ptR]
        all_goals try omega
       ·rw [if_neg hgo] at hmr
        have gj : decide ((j : Int) < 3 + nx l a'' % 4) = false := decide_eq_false hgo
        subst hmr
        rcases rg' with _ | ⟨h0, hr⟩ <;> simp only [hfn, gi, hgc, hC, w1, ml_1, ml_2, ml_3, ml_4, ml_5, ml_6, ml_7, ml_8, zbx, n8, u8R, ptZ, opZ, bstr_size, bstr_data, zaa, zab, zac, push_cast, ↓reduceIte, reduceCtorEq, zB, zE, zA, zS, zL, zD, zM]
        all_goals refine call_mk u0 rfl ⟨rfl, rfl, trivial⟩ ?_
        all_goals simp only [m3, w3, gj, wj, hfn, gi, hgc, hC, w1, ml_1, ml_2, ml_3, ml_4, ml_5, ml_6, ml_7, ml_8, zbx, n8, u8R, ptZ, opZ, bstr_size, bstr_data, zaa, zab, zac, push_cast, ↓reduceIte, reduceCtorEq, zB, zE, zA, zS, zL, zD, zM]
        all_goals refine ⟨⟨i + 1, a'' + 1, _, _, _, by omega, by omega, by first | omega | (simp; done) | (simp only [zaf, zag, zad] at hnl hwl hrl hrl' ⊢; omega) | (simp; omega) | (simp at hnl hwl hrl hrl' ⊢; omega), by first | omega | (simp; done) | (simp only [zaf, zag, zad] at hnl hwl hrl hrl' ⊢; omega) | (simp; omega) | (simp at hnl hwl hrl hrl' ⊢; omega), by first | omega | (simp; done) | (simp only [zaf, zag, zad] at hnl hwl hrl hrl' ⊢; omega) | (simp; omega) | (simp at hnl hwl hrl hrl' ⊢; omega), hmk, by simp, ?_⟩, by omega⟩
        all_goals simp [mlos, zbx, n8, u8R, ptZ, opZ, ptR])
    ·have h112 : c ≠ 112 := fun e => by
      subst e
      have : C = 112 := by rw [← hC]; rfl
      subst this
      cases h112
     rw [if_neg h112] at hmk
     rcases ns with _ | ⟨n0, nr⟩ <;> rcases ws with _ | ⟨w0, wr'⟩ <;> rcases rg with _ | ⟨g0, gr⟩ <;> simp only [hfn, gi, hgc, hC, w1, ml_1, ml_2, ml_3, ml_4, ml_5, ml_6, ml_7, ml_8, zbx, n8, u8R, ptZ, opZ, bstr_size, bstr_data, zaa, zab, zac, push_cast, ↓reduceIte, reduceCtorEq, zB, zE, zA, zS, zL, zD, zM]
     all_goals refine dcall_mk t0 rfl ⟨rfl, rfl, trivial⟩ ?_
     all_goals simp only [hfn, gi, hgc, hC, w1, ml_1, ml_2, ml_3, ml_4, ml_5, ml_6, ml_7, ml_8, zbx, n8, u8R, ptZ, opZ, bstr_size, bstr_data, zaa, zab, zac, push_cast, ↓reduceIte, reduceCtorEq, zB, zE, zA, zS, zL, zD, zM]
     all_goals repeat refine And.intro (by first | omega | (simp; done) | (simp only [zaf, zag, zad] at hnl hwl hrl ⊢; omega) | (constructor <;> (simp only [zaf, zag, zad] at hnl hwl hrl ⊢; omega)) | (constructor <;> omega) | kernel_rfl) ?_
     all_goals refine ⟨⟨i + 1, at' + 1, _, _, _, by omega, by omega, by first | omega | (simp; done) | (simp only [zaf, zag, zad] at hnl hwl hrl ⊢; omega) | (simp; omega) | (simp at hnl hwl hrl ⊢; omega), by first | omega | (simp; done) | (simp only [zaf, zag, zad] at hnl hwl hrl ⊢; omega) | (simp; omega) | (simp at hnl hwl hrl ⊢; omega), by first | omega | (simp; done) | (simp only [zaf, zag, zad] at hnl hwl hrl ⊢; omega) | (simp; omega) | (simp at hnl hwl hrl ⊢; omega), hmk, by simp, ?_⟩, by omega⟩
     all_goals simp [mlos, zbx, n8, u8R, ptZ, opZ, ptR]
  ·have hi : i = ks.length := by omega
   subst hi
   have gi : decide (((ks.length : Nat) : Int) < ((ks.length : Nat) : Int)) = false := decide_eq_false (by omega)
   rw [List.drop_length, mkS] at hmk
   subst hmk
   simp only at hQ
   simp only [hfn, gi, bstr_size, zaa, zab, zac, push_cast, ↓reduceIte, reduceCtorEq, zB, zE, zA, zS, zL, zD, zM]
   refine cnd_mk (fun h16 => ?_) (fun h16 => ?_)
   ·have h16 : k = 16 := by simpa using h16
    have hK15 : K = 15 := by omega
    subst hK15
    have hk0 : ks = [] := by rw [← hks]; rfl
    subst hk0
    simp only [zag, Nat.le_zero, Nat.mul_zero] at hnl hwl hrl
    obtain rfl : ns = [] := zau.1 hnl
    obtain rfl : ws = [] := zau.1 hwl
    obtain rfl : rg = [] := zau.1 hrl
    subst h16
    rw [if_pos rfl] at hQ
    simp only [hfn, ml_1, zbx, n8, u8R, ptZ, opZ, push_cast, ↓reduceIte, reduceCtorEq, zB, zE, zA, zS, zL, zD, zM]
    refine run_loop [(2, false), (18, false), (6, false), (7, false)] (fun vs pos los => ∃ (j : Nat), j ≤ os.length ∧ j ≤ 60 ∧ vs = [.r (.sl 5 (os.map opR)), int .i64 j, .ptr 2000000 0 0, .ptr 2000001 0 0] ∧ pos = [] ∧ los = olos ((os.take j).filter opB))
     (fun vs _ _ => match vs with | [_, .r (.v (.int _ j)), _, _] => (60 - j).toNat | _ => 0) rfl ?_ ?_
    ·simp only [push_cast, ↓reduceIte, reduceCtorEq, zB, zE, zA, zS, zL, zD, zM]
     exact ⟨0, by omega, by omega, rfl, rfl⟩
    ·rintro vs pos los ⟨j, j0, j60, rfl, rfl, rfl⟩
     have gA : decide (((j : Nat) : Int) < ((os.length : Nat) : Int)) = decide (j < os.length) := by rw [zah, decide_eq_true_eq, decide_eq_true_eq]; omega
     have gB : decide (((j : Nat) : Int) < 60) = decide (j < 60) := by rw [zah, decide_eq_true_eq, decide_eq_true_eq]; omega
     by_cases hgo : j < os.length ∧ j < 60
     ·rw [decide_eq_true hgo.1] at gA
      rw [decide_eq_true hgo.2] at gB
      obtain ⟨o, ho⟩ : ∃ o, os[j]'hgo.1 = o := ⟨_, rfl⟩
      have hg : ∀ z, (os.map opR).getD j z = .agg [.v (.int .i64 o.k), .v (.int .i64 o.key), .v (.int .i64 o.x), .v (.int .i64 o.y), .v (.int .i64 o.v)] := fun z => by
       rw [zae]
       simp [hgo.1, ho, opR, n8]
      have wj : IntKind.i64.wrap ((j : Int) + 1) = (j : Int) + 1 := wrap_id (by omega)
      have hot := opok_t o
      have htk : (os.take (j + 1)).filter opB = (os.take j).filter opB ++ (if opB o = true then [o] else []) := by
       rw [zas hgo.1, List.filter_append, ho]
       congr 1
       simp [List.filter]
       split <;> simp_all
      have hal : ((os.take j).filter opB).length ≤ 60 := by
       refine Nat.le_trans (List.length_filter_le _ _) ?_
       simp
       omega
      generalize (os.take j).filter opB = acc at htk hal ⊢
      cases hob : opB o with
      | true =>
       rw [hob] at hot
       rw [if_pos hob] at htk
       rcases acc with _ | ⟨a0, ar⟩ <;> simp only [olos, zbx, n8, u8R, ptZ, opZ, gA, gB, hg, wj, zaa, zab, zac, push_cast, ↓reduceIte, reduceCtorEq, zB, zE, zA, zS, zL, zD, zM]
       all_goals refine ⟨by have := hgo.1; omega, ?_⟩
       all_goals refine call_as (as' := [.r (opR o)]) rfl ?_
       all_goals refine call_mk hot rfl trivial ?_
       all_goals simp only [olos, zbx, n8, u8R, ptZ, opZ, gA, gB, hg, wj, zaa, zab, zac, push_cast, ↓reduceIte, reduceCtorEq, zB, zE, zA, zS, zL, zD, zM]
       all_goals repeat refine And.intro (by first | omega | (have := hgo.1; omega) | (simp; done) | (simp only [zaf] at hal; constructor <;> omega) | (constructor <;> omega) | kernel_rfl) ?_
       all_goals refine ⟨⟨j + 1, by have := hgo.1; omega, by have := hgo.2; omega, by simp, ?_⟩, by omega⟩
       all_goals rw [htk]
       all_goals simp [olos, zbx, n8, u8R, ptZ, opZ, opR]
      | false =>
       rw [hob] at hot
       rw [if_neg (by rw [hob]; decide), List.append_nil] at htk
       rcases acc with _ | ⟨a0, ar⟩ <;> simp only [olos, zbx, n8, u8R, ptZ, opZ, gA, gB, hg, wj, zaa, zab, zac, push_cast, ↓reduceIte, reduceCtorEq, zB, zE, zA, zS, zL, zD, zM]
       all_goals refine ⟨by have := hgo.1; omega, ?_⟩
       all_goals refine call_as (as' := [.r (opR o)]) rfl ?_
       all_goals refine call_mk hot rfl trivial ?_
       all_goals simp only [olos, zbx, n8, u8R, ptZ, opZ, gA, gB, hg, wj, zaa, zab, zac, push_cast, ↓reduceIte, reduceCtorEq, zB, zE, zA, zS, zL, zD, zM]
       all_goals refine ⟨⟨j + 1, by have := hgo.1; omega, by have := hgo.2; omega, by simp, ?_⟩, by omega⟩
       all_goals rw [htk]
       all_goals rfl
     ·have hend : (os.take j).filter opB = (os.take 60).filter opB := by
       by_cases hj : j = 60
       ·rw [hj]
       ·have : j = os.length := by omega
        rw [List.take_of_length_le (by omega), List.take_of_length_le (show os.length ≤ 60 by omega)]
      rw [hend]
      unfold mkO at hQ
      have hcd : (bif decide (j < os.length) then decide (j < 60) else false) = false := by
       by_cases h1 : j < os.length
       ·rw [decide_eq_true h1, decide_eq_false (by omega)]
        rfl
       ·rw [decide_eq_false h1]
        rfl
      obtain ⟨G1, hG1⟩ : ∃ G, decide (j < os.length) = G := ⟨_, rfl⟩
      obtain ⟨G2, hG2⟩ : ∃ G, decide (j < 60) = G := ⟨_, rfl⟩
      rw [hG1] at gA hcd
      rw [hG2] at gB hcd
      generalize (os.take 60).filter opB = acc at hQ ⊢
      rcases acc with _ | ⟨a0, ar⟩
      ·rw [if_pos rfl] at hQ
       subst hQ
       cases G1 <;> cases G2 <;> first | (cases hcd; done) | skip
       all_goals simp only [olos, zbx, n8, u8R, ptZ, opZ, gA, gB, zaa, zab, zac, push_cast, ↓reduceIte, reduceCtorEq, zB, zE, zA, zS, zL, zD, zM]
       all_goals exact ⟨by simp, rfl⟩
      ·rw [if_neg (by simp)] at hQ
       subst hQ
       have g0 : (((ar.length : Nat) : Int) + 1 == 0) = false := by rw [beq_eq_false_iff_ne]; omega
       cases G1 <;> cases G2 <;> first | (cases hcd; done) | skip
       all_goals simp only [olos, zbx, n8, u8R, ptZ, opZ, gA, gB, g0, zaa, zab, zac, push_cast, ↓reduceIte, reduceCtorEq, zB, zE, zA, zS, zL, zD, zM]
       all_goals rfl
   ·have h16 : k ≠ 16 := by simpa using h16
    rw [if_neg h16] at hQ
    subst hQ
    rcases ns with _ | ⟨n0, nr⟩ <;> rcases ws with _ | ⟨w0, wr'⟩ <;> rcases rg with _ | ⟨g0, gr⟩ <;> simp only [AskD.av, askB, nilOr, hfn, ml_1, ml_2, ml_3, ml_4, ml_5, ml_6, ml_7, ml_8, zbx, n8, u8R, ptZ, opZ, zaa, zab, zac, push_cast, ↓reduceIte, reduceCtorEq, zB, zE, zA, zS, zL, zD, zM]
    all_goals first | rfl | kernel_rfl | exact ⟨rfl, rfl⟩

def small30 (p : Int × Int) : Prop := (0 ≤ p.1 ∧ p.1 < 1073741824) ∧ (0 ≤ p.2 ∧ p.2 < 1073741824)
theorem mkR_len (l : List Int) : ∀ (f k at' : Nat) (rg : List (Int × Int)), f + k = 8 → k ≤ 6 → (∀ p ∈ rg, small30 p) →
  rg.length + (3 - k) ≤ (mkR l f k at' rg).2.length ∧ (mkR l f k at' rg).2.length ≤ rg.length + (6 - k) ∧ ∀ p ∈ (mkR l f k at' rg).2, small30 p
 | 0, k, at', rg, hf, hk, h => by omega
 | f + 1, k, at', rg, hf, hk, h => by
  rw [mkR]
  split
  ·rename_i hlt
   have hk5 : k ≤ 5 := by omega
   have := mkR_len l f (k + 1) (at' + 3) (rg ++ [(nx l (at' + 1) % 1073741824, nx l (at' + 2) % 1073741824)]) (by omega) (by omega) (fun p hp => by
    rcases List.mem_append.1 hp with hp | hp
    ·exact h p hp
    ·rw [List.mem_singleton] at hp
     subst hp
     exact ⟨⟨by simp only; omega, by simp only; omega⟩, ⟨by simp only; omega, by simp only; omega⟩⟩)
   obtain ⟨h1, h2, h3⟩ := this
   simp only [zad, zaf, zag] at h1 h2
   exact ⟨by omega, by omega, h3⟩
  ·rename_i hge
   have : 3 ≤ k := by omega
   exact ⟨by simp only; omega, by simp only; omega, h⟩
def wordOk (w : Nat) : Prop := w < 18446744073709551616 ∧ isWB w = true
theorem some_word (x y r : Int) : wordOk (word (someR r) (someC x y r)) := ⟨word_lt _ _ (someC_okc x y r), isWB_word (someC_okc x y r)⟩
theorem mkS_ok (l : List Int) (hl : ∀ n ∈ l, in64 n) (k : Int) (os : List Op5) : ∀ (ks : Bs) (at' : Nat) (ns : List Int) (ws : List Nat) (rg : List (Int × Int)),
  (∀ n ∈ ns, in64 n) → (∀ w ∈ ws, wordOk w) → (∀ p ∈ rg, small30 p) → ks.count 112 ≤ 1 → (112 ∈ ks → rg = []) → (wordB k 112 = false) →
  ∃ n2 w2 rg', (mkS l k ks at' ns ws rg).2 = (ns ++ n2, ws ++ w2, rg') ∧ (∀ n ∈ ns ++ n2, in64 n) ∧ (∀ w ∈ ws ++ w2, wordOk w) ∧ (∀ p ∈ rg', small30 p) ∧ (112 ∉ ks → rg' = rg) ∧ n2.length ≤ ks.length ∧ w2.length ≤ ks.length ∧ rg'.length ≤ rg.length + 6 ∧
   ∀ (a : AskD), a.k = k → a.ns = ns ++ n2 → a.ws = ws ++ w2 → a.rg = rg' → ∀ (b : Bool) (s : Bs) (r : Nat), (112 ∉ ks → r = rg.length) →
    ∃ s', txS a ks b s ns.length ws.length r = some (s', (ns ++ n2).length, (ws ++ w2).length, rg'.length) ∧ s.length ≤ s'.length ∧ s'.length ≤ s.length + 500 * ks.length
 | [], at', ns, ws, rg, hn, hw, hr, _, _, _ => by
  refine ⟨[], [], rg, by simp [mkS], by simpa using hn, by simpa using hw, hr, fun _ => rfl, by simp, by simp, by omega, ?_⟩
  intro a ha1 ha2 ha3 ha4 b s r hrr
  exact ⟨s, by rw [txS, hrr (by simp)]; simp, by omega, by omega⟩
 | c :: ks, at', ns, ws, rg, hn, hw, hr, hc, hp, hwp => by
  rw [mkS]
  have hc' : ks.count 112 ≤ 1 := Nat.le_trans (List.count_le_count_cons) hc
  by_cases hW : wordB k c = true
  ·rw [if_pos hW]
   have hne : c ≠ 112 := fun e => by rw [e, hwp] at hW; cases hW
   obtain ⟨V, hV⟩ : ∃ V, word (someR (nx l (at' + 2) % 16)) (someC (nx l at') (nx l (at' + 1)) (nx l (at' + 2) % 16)) = V := ⟨_, rfl⟩
   have hVk : wordOk V := by rw [← hV]; exact some_word _ _ _
   rw [hV]
   obtain ⟨n2, w2, rg', h1, h2, h3, h4, h5, h6, h7, h8, h9⟩ := mkS_ok l hl k os ks (at' + 3) ns (ws ++ [V]) rg hn (fun w h => by
    rcases List.mem_append.1 h with h | h
    ·exact hw w h
    ·rw [List.mem_singleton] at h
     rw [h]
     exact hVk) hr hc' (fun h => hp (by simp [h])) hwp
   refine ⟨n2, V :: w2, rg', by rw [h1, zai]; rfl, h2, by rw [zai] at h3; exact h3, h4, fun h => h5 (fun h' => h (by simp [h'])), by simp; omega, by simp; omega, h8, ?_⟩
   intro a ha1 ha2 ha3 ha4 b s r hrr
   rw [txS, ha1, if_pos hW]
   have hget : a.ws.getD ws.length 0 = V := by
    rw [ha3, zae, List.getElem?_append_right (Nat.le_refl _)]
    simp
   have hlt : ws.length < a.ws.length := by rw [ha3]; simp
   rw [hget, if_pos ⟨hlt, hVk.2⟩]
   obtain ⟨s', e1, e2, e3⟩ := h9 a ha1 ha2 (by rw [ha3, zai]; rfl) ha4 false (s ++ ([if b then 63 else 38] ++ ([c, 61] ++ hexN V 16))) r (fun h => hrr (by simp only [List.mem_cons, not_or]; exact ⟨fun e => hne e.symm, h⟩))
   have hl' : (ws ++ [V]).length = ws.length + 1 := by simp
   rw [hl'] at e1
   have hx := hexN_len V 16
   simp only [zad, zaf, zag, hx] at e2 e3
   refine ⟨s', by rw [e1, zai]; rfl, by omega, ?_⟩
   simp only [zaf]
   omega
  ·rw [if_neg hW]
   by_cases h112 : c = 112
   ·rw [if_pos h112]
    subst h112
    have hrg : rg = [] := hp (by simp)
    subst hrg
    have hnp : (112 : UInt8) ∉ ks := fun h => by
     rw [List.count_cons_self] at hc
     have := List.count_pos_iff.2 h
     omega
    obtain ⟨m1, m2, m3⟩ := mkR_len l 8 0 at' [] rfl (by omega) (by simp)
    obtain ⟨⟨a2, RG⟩, hRG⟩ : ∃ x, mkR l 8 0 at' [] = x := ⟨_, rfl⟩
    rw [hRG] at m1 m2 m3 ⊢
    simp only [zag] at m1 m2 m3
    obtain ⟨n2, w2, rg', h1, h2, h3, h4, h5, h6, h7, h8, h9⟩ := mkS_ok l hl k os ks a2 ns ws RG hn hw m3 hc' (fun h => absurd h hnp) hwp
    have hrr := h5 hnp
    subst hrr
    refine ⟨n2, w2, rg', h1, h2, h3, h4, fun h => absurd (by simp) h, by simp; omega, by simp; omega, by simp; omega, ?_⟩
    intro a ha1 ha2 ha3 ha4 b s r hrr
    rw [txS, ha1, if_neg hW, if_pos rfl, ha4, if_pos ⟨by omega, by omega⟩]
    obtain ⟨s', e1, e2, e3⟩ := h9 a ha1 ha2 ha3 ha4 false (s ++ ([if b then 63 else 38] ++ ([112, 61] ++ rgT rg'))) rg'.length (fun _ => rfl)
    have hT := rgT_len rg' (fun p hp => by
     obtain ⟨⟨q1, q2⟩, q3, q4⟩ := h4 p hp
     exact ⟨⟨by omega, by omega⟩, ⟨by omega, by omega⟩⟩)
    simp only [zad, zaf, zag] at e2 e3
    refine ⟨s', e1, by omega, ?_⟩
    simp only [zaf]
    omega
   ·rw [if_neg h112]
    obtain ⟨V, hV⟩ : ∃ V, nx l at' = V := ⟨_, rfl⟩
    have hVk : in64 V := by rw [← hV]; exact nx_in hl _
    rw [hV]
    obtain ⟨n2, w2, rg', h1, h2, h3, h4, h5, h6, h7, h8, h9⟩ := mkS_ok l hl k os ks (at' + 1) (ns ++ [V]) ws rg (fun n h => by
     rcases List.mem_append.1 h with h | h
     ·exact hn n h
     ·rw [List.mem_singleton] at h
      rw [h]
      exact hVk) hw hr hc' (fun h => hp (by simp [h])) hwp
    refine ⟨V :: n2, w2, rg', by rw [h1, zai]; rfl, by rw [zai] at h2; exact h2, h3, h4, fun h => h5 (fun h' => h (by simp [h'])), by simp; omega, by simp; omega, h8, ?_⟩
    intro a ha1 ha2 ha3 ha4 b s r hrr
    rw [txS, ha1, if_neg hW, if_neg h112]
    have hget : a.ns.getD ns.length 0 = V := by
     rw [ha2, zae, List.getElem?_append_right (Nat.le_refl _)]
     simp
    have hlt : ns.length < a.ns.length := by rw [ha2]; simp
    rw [hget, if_pos hlt]
    obtain ⟨s', e1, e2, e3⟩ := h9 a ha1 (by rw [ha2, zai]; rfl) ha3 ha4 false (s ++ ([if b then 63 else 38] ++ ([c, 61] ++ Lib.itoa V))) r (fun h => hrr (by simp only [List.mem_cons, not_or]; exact ⟨fun e => h112 e.symm, h⟩))
    have hl' : (ns ++ [V]).length = ns.length + 1 := by simp
    rw [hl'] at e1
    have hx := itoa_len V hVk
    simp only [zad, zaf, zag] at e2 e3
    refine ⟨s', by rw [e1, zai]; rfl, by omega, ?_⟩
    simp only [zaf]
    omega
theorem mkO_ok (os : List Op5) : mkO os ≠ [] ∧ (mkO os).all opB = true ∧ (mkO os).length ≤ 60 := by
 unfold mkO
 split
 ·exact ⟨by simp, by decide, by decide⟩
 ·rename_i h
  refine ⟨h, ?_, Nat.le_trans (List.length_filter_le _ _) (by simp; omega)⟩
  rw [List.all_eq_true]
  intro o ho
  exact (List.mem_filter.1 ho).2
theorem keys_one : ∀ K : Fin 16, (keysL.getD K.val []).count 112 ≤ 1 ∧ wordB ((K.val : Int) + 1) 112 = false ∧ (keysL.getD K.val []).length ≤ 5 := by decide
theorem names_ok : ∀ K : Fin 16, nmS ((K.val : Int) + 1) ≠ [] ∧ (nmS ((K.val : Int) + 1)).length ≤ 10 := by decide
theorem made_ok (kind : Int) (l : List Int) (os : List Op5) (hl : ∀ n ∈ l, in64 n) : AskOk (makeD kind l os) ∧ (textS (makeD kind l os)).2 = true ∧ (textS (makeD kind l os)).1 ≠ [] ∧ (textS (makeD kind l os)).1.length ≤ 10000 := by
 obtain ⟨K, hK⟩ : ∃ K : Nat, kind % 16 = (K : Int) := ⟨(kind % 16).toNat, by omega⟩
 have hK16 : K < 16 := by omega
 obtain ⟨q1, q2, q3⟩ := keys_one ⟨K, hK16⟩
 obtain ⟨q4, q5⟩ := names_ok ⟨K, hK16⟩
 simp only at q1 q2 q3 q4 q5
 obtain ⟨n2, w2, rg', h1, h2, h3, h4, h5, h6, h7, h8, h9⟩ := mkS_ok l hl ((K : Int) + 1) os (keysL.getD K []) 0 [] [] [] (by simp) (by simp) (by simp) q1 (fun _ => rfl) q2
 have hm : makeD kind l os = ⟨(K : Int) + 1, n2, w2, rg', if (K : Int) + 1 = 16 then mkO os else []⟩ := by
  unfold makeD kindS
  rw [hK, zaa]
  simp only [h1, zao]
 rw [hm]
 simp only [zao] at h2 h3 h9
 obtain ⟨o1, o2, o3⟩ := mkO_ok os
 constructor
 ·refine ⟨⟨by simp only; omega, by simp only; omega⟩, h2, fun w h => (h3 w h).1, fun p hp => ?_, ?_, ?_, ?_, ?_⟩
  ·obtain ⟨⟨q1, q2⟩, q3, q4⟩ := h4 p hp
   exact ⟨⟨by omega, by omega⟩, ⟨by omega, by omega⟩⟩
  ·simp only; omega
  ·simp only; omega
  ·simp only [zag] at h8 ⊢; omega
  ·simp only
   split
   ·omega
   ·simp
 ·by_cases h16 : K = 15
  ·subst h16
   have hk0 : keysL.getD 15 [] = [] := rfl
   rw [hk0] at h1
   simp only [mkS] at h1
   simp only [zao, Prod.mk.injEq] at h1
   obtain ⟨rfl, rfl, rfl⟩ := h1
   have e16 : ((15 : Nat) : Int) + 1 = 16 := rfl
   rw [e16] at q4 ⊢
   rw [if_pos rfl]
   unfold textS
   simp only
   rw [if_neg q4, if_pos trivial]
   have hb : batchE (mkO os) = 0 := by
    unfold batchE
    rw [if_neg (by omega), if_neg (fun h => h.elim o1 (fun h => by rw [o2] at h; cases h))]
   rw [if_neg (fun h => h.elim (fun h => h hb) (fun h => h.elim (fun h => h rfl) (fun h => h.elim (fun h => h rfl) (fun h => h rfl))))]
   have hlen := opsBs_len (mkO os)
   have hn16 : (nmS 16).length ≤ 10 := by decide
   have hle : (47 :: (nmS 16 ++ 10 :: opsBs (mkO os))).length ≤ 10000 := by
    simp only [zaf, zad]
    omega
   exact ⟨decide_eq_true hle, by simp, hle⟩
  ·have hk16 : ¬ ((K : Int) + 1 = 16) := by omega
   rw [if_neg hk16]
   unfold textS
   simp only
   rw [if_neg q4, if_neg hk16, show ((K : Int) + 1 - 1).toNat = K by omega]
   obtain ⟨s', e1, e2, e3⟩ := h9 ⟨(K : Int) + 1, n2, w2, rg', []⟩ rfl rfl rfl rfl true (47 :: nmS ((K : Int) + 1)) 0 (fun _ => rfl)
   simp only [zag] at e1
   rw [e1]
   simp only [zaf] at e2 e3
   simp only
   rw [if_neg (fun h => h.elim (fun h => h rfl) (fun h => h.elim (fun h => h rfl) (fun h => h.elim (fun h => h rfl) (fun h => h.elim (fun h => h rfl) (fun h => by omega)))))]
   refine ⟨rfl, fun h => ?_, by simp only; omega⟩
   simp only at h
   rw [h] at e2
   simp at e2

theorem sameB_refl (a : AskD) : sameB a.k a.ns a.ws a.rg a.os a.k a.ns a.ws a.rg a.os = true := by simp [sameB]
def lensOk (a : AskD) : Prop := a.ns.length ≤ 1000000 ∧ a.ws.length ≤ 1000000 ∧ a.rg.length ≤ 1000000 ∧ a.os.length ≤ 1000000
theorem make_w (kind : Int) (l : List Int) (os : List Op5) (hk : in64 kind) (hl : ∀ n ∈ l, in64 n) (hol : os.length ≤ 100000) (hll : l.length ≤ 100000) :
  Triple P0 16 [int .i64 kind, .r (.sl 1 (l.map n8)), .r (.sl 5 (os.map opR))] [] (.r (makeD kind l os).rv) [] :=
 (make_t kind l os hk hl hol hll).weak (ask_weak _)

noncomputable def slices_Equal_int64_int64_pc : PC :=
  (.seq (.reg [p_s 4 (.mov (.c (.r (.v (.bool false)))))])
 (.seq (.seq (.reg [p_m 6 0, p_s 7 (.len false (.t 6)), p_m 8 1, p_s 9 (.len false (.t 8)), p_s 10 (.bin .neq (.t 7) (.t 9))])
 (.cond (.t 10)
 (.seq (.reg [p_s 4 (.mov (.c (.r (.v (.bool false)))))])
 .ret)
 .skip))
 (.seq (.seq (.reg [p_m 11 0, p_s 12 (.len false (.t 11)), p_s 13 (.mov (o_i 0))])
 (.block 0 (.loop (.seq (.reg [p_s 14 (.bin .lss (.t 13) (.t 12))])
 (.seq (.cond (.t 14)
 .skip
 (.exit 0))
 (.seq (.block 1 (.seq (.reg [p_m 15 13, p_m 5 15])
 (.seq (.drw [p_m 16 0, p_m 17 5, p_s 18 (.ia 1 (.v (.int .i64 0)) (.t 16) (.t 17)), p_s 19 (.ld none (.t 18)), p_m 20 1, p_m 21 5, p_s 22 (.ia 1 (.v (.int .i64 0)) (.t 20) (.t 21)),
 p_s 23 (.ld none (.t 22)), p_s 24 (.bin .neq (.t 19) (.t 23))]
 [[], [], [0, 1], [0, 1, 2], [], [], [4, 5], [4, 5, 6], [0, 1, 2, 3, 4, 5, 6, 7]])
 (.cond (.t 24)
 (.seq (.reg [p_s 4 (.mov (.c (.r (.v (.bool false)))))])
 .ret)
 .skip))))
 (.reg [p_s 25 (.bin .add (.t 13) (o_i 1)), p_m 13 25])))))))
 (.seq (.reg [p_s 4 (.mov (.c (.r (.v (.bool true)))))])
 .ret))))
theorem slices_Equal_int64_int64_triple : Fun P0 76 2 [(4, false, none)] slices_Equal_int64_int64_pc := fun_mk Go.Proofs.Tryz.func76 rfl (by decide) (by kernel_rfl) (by decide) rfl (by kernel_rfl) (by kernel_rfl) (by decide)
noncomputable def slices_Equal_uint64_uint64_pc : PC :=
  (.seq (.reg [p_s 4 (.mov (.c (.r (.v (.bool false)))))])
 (.seq (.seq (.reg [p_m 6 0, p_s 7 (.len false (.t 6)), p_m 8 1, p_s 9 (.len false (.t 8)), p_s 10 (.bin .neq (.t 7) (.t 9))])
 (.cond (.t 10)
 (.seq (.reg [p_s 4 (.mov (.c (.r (.v (.bool false)))))])
 .ret)
 .skip))
 (.seq (.seq (.reg [p_m 11 0, p_s 12 (.len false (.t 11)), p_s 13 (.mov (o_i 0))])
 (.block 0 (.loop (.seq (.reg [p_s 14 (.bin .lss (.t 13) (.t 12))])
 (.seq (.cond (.t 14)
 .skip
 (.exit 0))
 (.seq (.block 1 (.seq (.reg [p_m 15 13, p_m 5 15])
 (.seq (.drw [p_m 16 0, p_m 17 5, p_s 18 (.ia 1 (.v (.int .u64 0)) (.t 16) (.t 17)), p_s 19 (.ld none (.t 18)), p_m 20 1, p_m 21 5, p_s 22 (.ia 1 (.v (.int .u64 0)) (.t 20) (.t 21)),
 p_s 23 (.ld none (.t 22)), p_s 24 (.bin .neq (.t 19) (.t 23))]
 [[], [], [0, 1], [0, 1, 2], [], [], [4, 5], [4, 5, 6], [0, 1, 2, 3, 4, 5, 6, 7]])
 (.cond (.t 24)
 (.seq (.reg [p_s 4 (.mov (.c (.r (.v (.bool false)))))])
 .ret)
 .skip))))
 (.reg [p_s 25 (.bin .add (.t 13) (o_i 1)), p_m 13 25])))))))
 (.seq (.reg [p_s 4 (.mov (.c (.r (.v (.bool true)))))])
 .ret))))
theorem slices_Equal_uint64_uint64_triple : Fun P0 77 2 [(4, false, none)] slices_Equal_uint64_uint64_pc := fun_mk Go.Proofs.Tryz.func77 rfl (by decide) (by kernel_rfl) (by decide) rfl (by kernel_rfl) (by kernel_rfl) (by decide)
noncomputable def slices_Equal_2_int64_2_int64_pc : PC :=
  (.seq (.reg [p_s 4 (.mov (.c (.r (.v (.bool false)))))])
 (.seq (.seq (.reg [p_m 6 0, p_s 7 (.len false (.t 6)), p_m 8 1, p_s 9 (.len false (.t 8)), p_s 10 (.bin .neq (.t 7) (.t 9))])
 (.cond (.t 10)
 (.seq (.reg [p_s 4 (.mov (.c (.r (.v (.bool false)))))])
 .ret)
 .skip))
 (.seq (.seq (.reg [p_m 11 0, p_s 12 (.len false (.t 11)), p_s 13 (.mov (o_i 0))])
 (.block 0 (.loop (.seq (.reg [p_s 14 (.bin .lss (.t 13) (.t 12))])
 (.seq (.cond (.t 14)
 .skip
 (.exit 0))
 (.seq (.block 1 (.seq (.reg [p_m 15 13, p_m 5 15])
 (.seq (.drw [p_m 16 0, p_m 17 5, p_s 18 (.ia 2 (.agg [(.v (.int .i64 0)), (.v (.int .i64 0))]) (.t 16) (.t 17)), p_s 19 (.ld (some 2) (.t 18)), p_m 20 1, p_m 21 5, p_s 22 (.ia 2 (.agg [(.v (.int .i64 0)), (.v (.int .i64 0))]) (.t 20) (.t 21)),
 p_s 23 (.ld (some 2) (.t 22)), p_s 24 (.eqa true [0, 0] (.t 19) (.t 23))]
 [[], [], [0, 1], [0, 1, 2], [], [], [4, 5], [4, 5, 6], [0, 1, 2, 3, 4, 5, 6, 7]])
 (.cond (.t 24)
 (.seq (.reg [p_s 4 (.mov (.c (.r (.v (.bool false)))))])
 .ret)
 .skip))))
 (.reg [p_s 25 (.bin .add (.t 13) (o_i 1)), p_m 13 25])))))))
 (.seq (.reg [p_s 4 (.mov (.c (.r (.v (.bool true)))))])
 .ret))))
theorem slices_Equal_2_int64_2_int64_triple : Fun P0 78 2 [(4, false, none)] slices_Equal_2_int64_2_int64_pc := fun_mk Go.Proofs.Tryz.func78 rfl (by decide) (by kernel_rfl) (by decide) rfl (by kernel_rfl) (by kernel_rfl) (by decide)
noncomputable def eqs_api_Op_pc : PC :=
  (.seq (.reg [p_s 4 (.mov (.c (.r (.v (.bool false)))))])
 (.seq (.seq (.reg [p_m 6 0, p_s 7 (.len false (.t 6)), p_m 8 1, p_s 9 (.len false (.t 8)), p_s 10 (.bin .neq (.t 7) (.t 9))])
 (.cond (.t 10)
 (.seq (.reg [p_s 4 (.mov (.c (.r (.v (.bool false)))))])
 .ret)
 .skip))
 (.seq (.seq (.reg [p_m 11 0, p_s 12 (.len false (.t 11)), p_s 13 (.mov (o_i 0))])
 (.block 0 (.loop (.seq (.reg [p_s 14 (.bin .lss (.t 13) (.t 12))])
 (.seq (.cond (.t 14)
 .skip
 (.exit 0))
 (.seq (.block 1 (.seq (.reg [p_m 15 13, p_m 5 15])
 (.seq (.drw [p_m 16 0, p_m 17 5, p_s 18 (.ia 5 (.agg [(.v (.int .i64 0)), (.v (.int .i64 0)), (.v (.int .i64 0)), (.v (.int .i64 0)), (.v (.int .i64 0))]) (.t 16) (.t 17)), p_s 19 (.ld (some 5) (.t 18)),
 p_m 20 1, p_m 21 5, p_s 22 (.ia 5 (.agg [(.v (.int .i64 0)), (.v (.int .i64 0)), (.v (.int .i64 0)), (.v (.int .i64 0)), (.v (.int .i64 0))]) (.t 20) (.t 21)), p_s 23 (.ld (some 5) (.t 22)),
 p_s 24 (.eqa true [0, 0, 0, 0, 0] (.t 19) (.t 23))]
 [[], [], [0, 1], [0, 1, 2], [], [], [4, 5], [4, 5, 6], [0, 1, 2, 3, 4, 5, 6, 7]])
 (.cond (.t 24)
 (.seq (.reg [p_s 4 (.mov (.c (.r (.v (.bool false)))))])
 .ret)
 .skip))))
 (.reg [p_s 25 (.bin .add (.t 13) (o_i 1)), p_m 13 25])))))))
 (.seq (.reg [p_s 4 (.mov (.c (.r (.v (.bool true)))))])
 .ret))))
theorem eqs_api_Op_triple : Fun P0 79 2 [(4, false, none)] eqs_api_Op_pc := fun_mk Go.Proofs.Tryz.func79 rfl (by decide) (by kernel_rfl) (by decide) rfl (by kernel_rfl) (by kernel_rfl) (by decide)
noncomputable def ask_same_pc : PC :=
  (.seq (.reg [p_a 2 (.box (.t 0)), p_a 3 (.box (.t 1)), p_s 4 (.mov (.c (.r (.v (.bool false)))))])
 (.seq (.reg [p_s 5 (.fa 0 (.t 2)), p_s 6 (.ld none (.t 5)), p_s 7 (.fa 0 (.t 3)), p_s 8 (.ld none (.t 7)), p_s 9 (.bin .eql (.t 6) (.t 8)), p_m 10 9, p_g 11 10 true (.fa 1 (.t 2)),
 p_g 12 10 true (.ld none (.t 11)), p_g 13 10 true (.fa 1 (.t 3)), p_g 14 10 true (.ld none (.t 13)), ⟨(some 15), (some (10, true)), 1, .call 76 [(.t 12), (.t 14)]⟩,
 p_s 16 (.pick (.t 10) (.t 15) (.c (.r (.v (.bool false))))), p_m 17 16, p_g 18 17 true (.fa 2 (.t 2)), p_g 19 17 true (.ld none (.t 18)), p_g 20 17 true (.fa 2 (.t 3)),
 p_g 21 17 true (.ld none (.t 20)), ⟨(some 22), (some (17, true)), 2, .call 77 [(.t 19), (.t 21)]⟩, p_s 23 (.pick (.t 17) (.t 22) (.c (.r (.v (.bool false))))), p_m 24 23,
 p_g 25 24 true (.fa 3 (.t 2)), p_g 26 24 true (.ld none (.t 25)), p_g 27 24 true (.fa 3 (.t 3)), p_g 28 24 true (.ld none (.t 27)), ⟨(some 29), (some (24, true)), 3, .call 78 [(.t 26), (.t 28)]⟩,
 p_s 30 (.pick (.t 24) (.t 29) (.c (.r (.v (.bool false))))), p_m 31 30, p_g 32 31 true (.fa 4 (.t 2)), p_g 33 31 true (.ld none (.t 32)), p_g 34 31 true (.fa 4 (.t 3)),
 p_g 35 31 true (.ld none (.t 34)), ⟨(some 36), (some (31, true)), 4, .call 79 [(.t 33), (.t 35)]⟩, p_s 37 (.pick (.t 31) (.t 36) (.c (.r (.v (.bool false))))), p_m 4 37])
 .ret))
theorem ask_same_triple : Fun P0 46 2 [(4, false, none)] ask_same_pc := fun_mk Go.Proofs.Tryz.func46 rfl (by decide) (by kernel_rfl) (by decide) rfl (by kernel_rfl) (by kernel_rfl) (by decide)
theorem eqn_t (a b : List (Int)) (ha : a.length ≤ 140737488355328) : Triple P0 76 [.r (.sl 1 (a.map n8)), .r (.sl 1 (b.map n8))] [] (bl (decide (a = b))) [] := by
 refine slices_Equal_int64_int64_triple rfl (by decide) ?_
 simp only [slices_Equal_int64_int64_pc, push_cast, ↓reduceIte, reduceCtorEq, zB, zE, zA, zS, zL, zD, zM]
 refine cnd_mk (fun hb => ?_) (fun hb => ?_)
 ·have hn : a.length ≠ b.length := fun h => by simp [h] at hb
  have : decide (a = b) = false := decide_eq_false fun h => hn (by rw [h])
  rw [this]
  simp only [push_cast, ↓reduceIte, reduceCtorEq, zB, zE, zA, zS, zL, zD, zM]
 ·have hl : a.length = b.length := by
   have : ((a.length : Nat) : Int) = b.length := by simpa using hb
   omega
  simp only [push_cast, ↓reduceIte, reduceCtorEq, zB, zE, zA, zS, zL, zD, zM]
  refine run_loop [(0, false), (1, false), (12, false), (13, false)] (fun vs pos los => ∃ i : Nat, i ≤ a.length ∧ decide (a.drop i = b.drop i) = decide (a = b) ∧ vs = [.r (.sl 1 (a.map n8)), .r (.sl 1 (b.map n8)), int .i64 a.length, int .i64 i] ∧ pos = [] ∧ los = [])
   (fun vs _ _ => match vs with | [_, _, _, .r (.v (.int _ j))] => (a.length - j).toNat | _ => 0) rfl ?_ ?_
  ·simp only [push_cast, ↓reduceIte, reduceCtorEq, zB, zE, zA, zS, zL, zD, zM]
   exact ⟨0, by omega, rfl, rfl⟩
  ·rintro vs pos los ⟨i, i0, hh, rfl, rfl, rfl⟩
   simp only [push_cast, ↓reduceIte, reduceCtorEq, zB, zE, zA, zS, zL, zD, zM]
   refine cnd_mk (fun hi => ?_) (fun hi => ?_)
   ·have hi : i < a.length := by simpa using hi
    have hj : i < b.length := by omega
    rw [same_step a b i hi hj] at hh
    obtain ⟨x, hx⟩ : ∃ x, a[i] = x := ⟨_, rfl⟩
    obtain ⟨y, hy⟩ : ∃ y, b[i] = y := ⟨_, rfl⟩
    have g1 : ∀ z, (a.map n8).getD i z = .v (.int .i64 x) := fun z => by rw [zae]; simp [hi, hx, n8]
    have g2 : ∀ z, (b.map n8).getD i z = .v (.int .i64 y) := fun z => by rw [zae]; simp [hj, hy, n8]
    have w1 : IntKind.i64.wrap ((i : Int) + 1) = (i : Int) + 1 := wrap_id (by omega)
    rw [hx, hy] at hh
    simp only [g1, g2, w1, zaa, zab, zac, push_cast, ↓reduceIte, reduceCtorEq, zB, zE, zA, zS, zL, zD, zM]
    refine ⟨by omega, by omega, ?_⟩
    repeat refine And.intro (by kernel_rfl) ?_
    refine cnd_mk (fun hc => ?_) (fun hc => ?_)
    ·have hne : decide (x = y) = false := by
      refine decide_eq_false fun e => ?_
      subst e
      simp at hc
     rw [hne] at hh
     rw [← hh]
     simp only [zaj, push_cast, ↓reduceIte, reduceCtorEq, zB, zE, zA, zS, zL, zD, zM]
    ·have heq : decide (x = y) = true := by
      simp at hc
      simp [hc]
     rw [heq, Bool.true_and] at hh
     simp only [w1, push_cast, ↓reduceIte, reduceCtorEq, zB, zE, zA, zS, zL, zD, zM]
     exact ⟨⟨i + 1, by omega, hh, by simp⟩, by omega⟩
   ·have hi : i = a.length := zaq i0 (by simpa using hi)
    subst hi
    have : decide (a = b) = true := by
     rw [← hh]
     rw [zak (by omega), zak (by omega)]
     rfl
    rw [this]
    simp only [push_cast, ↓reduceIte, reduceCtorEq, zB, zE, zA, zS, zL, zD, zM]
theorem eqw_t (a b : List (Nat)) (ha : a.length ≤ 140737488355328) : Triple P0 77 [.r (.sl 1 (a.map u8R)), .r (.sl 1 (b.map u8R))] [] (bl (decide (a = b))) [] := by
 refine slices_Equal_uint64_uint64_triple rfl (by decide) ?_
 simp only [slices_Equal_uint64_uint64_pc, push_cast, ↓reduceIte, reduceCtorEq, zB, zE, zA, zS, zL, zD, zM]
 refine cnd_mk (fun hb => ?_) (fun hb => ?_)
 ·have hn : a.length ≠ b.length := fun h => by simp [h] at hb
  have : decide (a = b) = false := decide_eq_false fun h => hn (by rw [h])
  rw [this]
  simp only [push_cast, ↓reduceIte, reduceCtorEq, zB, zE, zA, zS, zL, zD, zM]
 ·have hl : a.length = b.length := by
   have : ((a.length : Nat) : Int) = b.length := by simpa using hb
   omega
  simp only [push_cast, ↓reduceIte, reduceCtorEq, zB, zE, zA, zS, zL, zD, zM]
  refine run_loop [(0, false), (1, false), (12, false), (13, false)] (fun vs pos los => ∃ i : Nat, i ≤ a.length ∧ decide (a.drop i = b.drop i) = decide (a = b) ∧ vs = [.r (.sl 1 (a.map u8R)), .r (.sl 1 (b.map u8R)), int .i64 a.length, int .i64 i] ∧ pos = [] ∧ los = [])
   (fun vs _ _ => match vs with | [_, _, _, .r (.v (.int _ j))] => (a.length - j).toNat | _ => 0) rfl ?_ ?_
  ·simp only [push_cast, ↓reduceIte, reduceCtorEq, zB, zE, zA, zS, zL, zD, zM]
   exact ⟨0, by omega, rfl, rfl⟩
  ·rintro vs pos los ⟨i, i0, hh, rfl, rfl, rfl⟩
   simp only [push_cast, ↓reduceIte, reduceCtorEq, zB, zE, zA, zS, zL, zD, zM]
   refine cnd_mk (fun hi => ?_) (fun hi => ?_)
   ·have hi : i < a.length := by simpa using hi
    have hj : i < b.length := by omega
    rw [same_step a b i hi hj] at hh
    obtain ⟨x, hx⟩ : ∃ x, a[i] = x := ⟨_, rfl⟩
    obtain ⟨y, hy⟩ : ∃ y, b[i] = y := ⟨_, rfl⟩
    have g1 : ∀ z, (a.map u8R).getD i z = .v (.int .u64 x) := fun z => by rw [zae]; simp [hi, hx, u8R]
    have g2 : ∀ z, (b.map u8R).getD i z = .v (.int .u64 y) := fun z => by rw [zae]; simp [hj, hy, u8R]
    have w1 : IntKind.i64.wrap ((i : Int) + 1) = (i : Int) + 1 := wrap_id (by omega)
    rw [hx, hy] at hh
    simp only [g1, g2, w1, zaa, zab, zac, push_cast, ↓reduceIte, reduceCtorEq, zB, zE, zA, zS, zL, zD, zM]
    refine ⟨by omega, by omega, ?_⟩
    repeat refine And.intro (by kernel_rfl) ?_
    refine cnd_mk (fun hc => ?_) (fun hc => ?_)
    ·have hne : decide (x = y) = false := by
      refine decide_eq_false fun e => ?_
      subst e
      simp at hc
     rw [hne] at hh
     rw [← hh]
     simp only [zaj, push_cast, ↓reduceIte, reduceCtorEq, zB, zE, zA, zS, zL, zD, zM]
    ·have heq : decide (x = y) = true := by
      simp at hc
      simp; omega
     rw [heq, Bool.true_and] at hh
     simp only [w1, push_cast, ↓reduceIte, reduceCtorEq, zB, zE, zA, zS, zL, zD, zM]
     exact ⟨⟨i + 1, by omega, hh, by simp⟩, by omega⟩
   ·have hi : i = a.length := zaq i0 (by simpa using hi)
    subst hi
    have : decide (a = b) = true := by
     rw [← hh]
     rw [zak (by omega), zak (by omega)]
     rfl
    rw [this]
    simp only [push_cast, ↓reduceIte, reduceCtorEq, zB, zE, zA, zS, zL, zD, zM]
theorem eqr_t (a b : List (Int × Int)) (ha : a.length ≤ 140737488355328) : Triple P0 78 [.r (.sl 2 (a.map ptR)), .r (.sl 2 (b.map ptR))] [] (bl (decide (a = b))) [] := by
 refine slices_Equal_2_int64_2_int64_triple rfl (by decide) ?_
 simp only [slices_Equal_2_int64_2_int64_pc, push_cast, ↓reduceIte, reduceCtorEq, zB, zE, zA, zS, zL, zD, zM]
 refine cnd_mk (fun hb => ?_) (fun hb => ?_)
 ·have hn : a.length ≠ b.length := fun h => by simp [h] at hb
  have : decide (a = b) = false := decide_eq_false fun h => hn (by rw [h])
  rw [this]
  simp only [push_cast, ↓reduceIte, reduceCtorEq, zB, zE, zA, zS, zL, zD, zM]
 ·have hl : a.length = b.length := by
   have : ((a.length : Nat) : Int) = b.length := by simpa using hb
   omega
  simp only [push_cast, ↓reduceIte, reduceCtorEq, zB, zE, zA, zS, zL, zD, zM]
  refine run_loop [(0, false), (1, false), (12, false), (13, false)] (fun vs pos los => ∃ i : Nat, i ≤ a.length ∧ decide (a.drop i = b.drop i) = decide (a = b) ∧ vs = [.r (.sl 2 (a.map ptR)), .r (.sl 2 (b.map ptR)), int .i64 a.length, int .i64 i] ∧ pos = [] ∧ los = [])
   (fun vs _ _ => match vs with | [_, _, _, .r (.v (.int _ j))] => (a.length - j).toNat | _ => 0) rfl ?_ ?_
  ·simp only [push_cast, ↓reduceIte, reduceCtorEq, zB, zE, zA, zS, zL, zD, zM]
   exact ⟨0, by omega, rfl, rfl⟩
  ·rintro vs pos los ⟨i, i0, hh, rfl, rfl, rfl⟩
   simp only [push_cast, ↓reduceIte, reduceCtorEq, zB, zE, zA, zS, zL, zD, zM]
   refine cnd_mk (fun hi => ?_) (fun hi => ?_)
   ·have hi : i < a.length := by simpa using hi
    have hj : i < b.length := by omega
    rw [same_step a b i hi hj] at hh
    obtain ⟨⟨x1, x2⟩, hx⟩ : ∃ x, a[i] = x := ⟨_, rfl⟩
    obtain ⟨⟨y1, y2⟩, hy⟩ : ∃ y, b[i] = y := ⟨_, rfl⟩
    have g1 : ∀ z, (a.map ptR).getD i z = .agg [.v (.int .i64 x1), .v (.int .i64 x2)] := fun z => by rw [zae]; simp [hi, hx, ptR]
    have g2 : ∀ z, (b.map ptR).getD i z = .agg [.v (.int .i64 y1), .v (.int .i64 y2)] := fun z => by rw [zae]; simp [hj, hy, ptR]
    have w1 : IntKind.i64.wrap ((i : Int) + 1) = (i : Int) + 1 := wrap_id (by omega)
    rw [hx, hy] at hh
    simp only [g1, g2, w1, zaa, zab, zac, push_cast, ↓reduceIte, reduceCtorEq, zB, zE, zA, zS, zL, zD, zM]
    refine ⟨by omega, by omega, ?_⟩
    repeat refine And.intro (by kernel_rfl) ?_
    refine cnd_mk (fun hc => ?_) (fun hc => ?_)
    ·have hne : decide (((x1, x2) : Int × Int) = (y1, y2)) = false := by
      refine decide_eq_false fun e => ?_
      cases e
      simp at hc
     rw [hne] at hh
     rw [← hh]
     simp only [zaj, push_cast, ↓reduceIte, reduceCtorEq, zB, zE, zA, zS, zL, zD, zM]
    ·have heq : decide (((x1, x2) : Int × Int) = (y1, y2)) = true := by
      simp at hc
      simp [hc]
     rw [heq, Bool.true_and] at hh
     simp only [w1, push_cast, ↓reduceIte, reduceCtorEq, zB, zE, zA, zS, zL, zD, zM]
     exact ⟨⟨i + 1, by omega, hh, by simp⟩, by omega⟩
   ·have hi : i = a.length := zaq i0 (by simpa using hi)
    subst hi
    have : decide (a = b) = true := by
     rw [← hh]
     rw [zak (by omega), zak (by omega)]
     rfl
    rw [this]
    simp only [push_cast, ↓reduceIte, reduceCtorEq, zB, zE, zA, zS, zL, zD, zM]
theorem eqo_t (a b : List (Op5)) (ha : a.length ≤ 140737488355328) : Triple P0 79 [.r (.sl 5 (a.map opR)), .r (.sl 5 (b.map opR))] [] (bl (decide (a = b))) [] := by
 refine eqs_api_Op_triple rfl (by decide) ?_
 simp only [eqs_api_Op_pc, push_cast, ↓reduceIte, reduceCtorEq, zB, zE, zA, zS, zL, zD, zM]
 refine cnd_mk (fun hb => ?_) (fun hb => ?_)
 ·have hn : a.length ≠ b.length := fun h => by simp [h] at hb
  have : decide (a = b) = false := decide_eq_false fun h => hn (by rw [h])
  rw [this]
  simp only [push_cast, ↓reduceIte, reduceCtorEq, zB, zE, zA, zS, zL, zD, zM]
 ·have hl : a.length = b.length := by
   have : ((a.length : Nat) : Int) = b.length := by simpa using hb
   omega
  simp only [push_cast, ↓reduceIte, reduceCtorEq, zB, zE, zA, zS, zL, zD, zM]
  refine run_loop [(0, false), (1, false), (12, false), (13, false)] (fun vs pos los => ∃ i : Nat, i ≤ a.length ∧ decide (a.drop i = b.drop i) = decide (a = b) ∧ vs = [.r (.sl 5 (a.map opR)), .r (.sl 5 (b.map opR)), int .i64 a.length, int .i64 i] ∧ pos = [] ∧ los = [])
   (fun vs _ _ => match vs with | [_, _, _, .r (.v (.int _ j))] => (a.length - j).toNat | _ => 0) rfl ?_ ?_
  ·simp only [push_cast, ↓reduceIte, reduceCtorEq, zB, zE, zA, zS, zL, zD, zM]
   exact ⟨0, by omega, rfl, rfl⟩
  ·rintro vs pos los ⟨i, i0, hh, rfl, rfl, rfl⟩
   simp only [push_cast, ↓reduceIte, reduceCtorEq, zB, zE, zA, zS, zL, zD, zM]
   refine cnd_mk (fun hi => ?_) (fun hi => ?_)
   ·have hi : i < a.length := by simpa using hi
    have hj : i < b.length := by omega
    rw [same_step a b i hi hj] at hh
    obtain ⟨⟨x1, x2, x3, x4, x5⟩, hx⟩ : ∃ x, a[i] = x := ⟨_, rfl⟩
    obtain ⟨⟨y1, y2, y3, y4, y5⟩, hy⟩ : ∃ y, b[i] = y := ⟨_, rfl⟩
    have g1 : ∀ z, (a.map opR).getD i z = .agg [.v (.int .i64 x1), .v (.int .i64 x2), .v (.int .i64 x3), .v (.int .i64 x4), .v (.int .i64 x5)] := fun z => by rw [zae]; simp [hi, hx, opR, n8]
    have g2 : ∀ z, (b.map opR).getD i z = .agg [.v (.int .i64 y1), .v (.int .i64 y2), .v (.int .i64 y3), .v (.int .i64 y4), .v (.int .i64 y5)] := fun z => by rw [zae]; simp [hj, hy, opR, n8]
    have w1 : IntKind.i64.wrap ((i : Int) + 1) = (i : Int) + 1 := wrap_id (by omega)
    rw [hx, hy] at hh
    simp only [g1, g2, w1, zaa, zab, zac, push_cast, ↓reduceIte, reduceCtorEq, zB, zE, zA, zS, zL, zD, zM]
    refine ⟨by omega, by omega, ?_⟩
    repeat refine And.intro (by kernel_rfl) ?_
    refine cnd_mk (fun hc => ?_) (fun hc => ?_)
    ·have hne : decide ((⟨x1, x2, x3, x4, x5⟩ : Op5) = ⟨y1, y2, y3, y4, y5⟩) = false := by
      refine decide_eq_false fun e => ?_
      cases e
      simp at hc
     rw [hne] at hh
     rw [← hh]
     simp only [zaj, push_cast, ↓reduceIte, reduceCtorEq, zB, zE, zA, zS, zL, zD, zM]
    ·have heq : decide ((⟨x1, x2, x3, x4, x5⟩ : Op5) = ⟨y1, y2, y3, y4, y5⟩) = true := by
      simp at hc
      simp [hc]
     rw [heq, Bool.true_and] at hh
     simp only [w1, push_cast, ↓reduceIte, reduceCtorEq, zB, zE, zA, zS, zL, zD, zM]
     exact ⟨⟨i + 1, by omega, hh, by simp⟩, by omega⟩
   ·have hi : i = a.length := zaq i0 (by simpa using hi)
    subst hi
    have : decide (a = b) = true := by
     rw [← hh]
     rw [zak (by omega), zak (by omega)]
     rfl
    rw [this]
    simp only [push_cast, ↓reduceIte, reduceCtorEq, zB, zE, zA, zS, zL, zD, zM]
theorem same_t (a b : AskD) (h1 : a.ns.length ≤ 1000000000) (h2 : a.ws.length ≤ 1000000000) (h3 : a.rg.length ≤ 1000000000) (h4 : a.os.length ≤ 1000000000) :
  Triple P0 46 [.r a.rv, .r b.rv] [] (bl (decide (a = b))) [] := by
 obtain ⟨k, ns, ws, rg, os⟩ := a
 obtain ⟨k', ns', ws', rg', os'⟩ := b
 simp only at h1 h2 h3 h4
 have hd : decide ((⟨k, ns, ws, rg, os⟩ : AskD) = ⟨k', ns', ws', rg', os'⟩) = (decide (k = k') && (decide (ns = ns') && (decide (ws = ws') && (decide (rg = rg') && decide (os = os'))))) := by
  rw [zah]; simp
 rw [hd]
 have e1 : (k == k') = decide (k = k') := rfl
 have r1 : AskD.rv ⟨k, ns, ws, rg, os⟩ = .agg [n8 k, .sl 1 (ns.map n8), .sl 1 (ws.map u8R), .sl 2 (rg.map ptR), .sl 5 (os.map opR)] := rfl
 have r2 : AskD.rv ⟨k', ns', ws', rg', os'⟩ = .agg [n8 k', .sl 1 (ns'.map n8), .sl 1 (ws'.map u8R), .sl 2 (rg'.map ptR), .sl 5 (os'.map opR)] := rfl
 rw [r1, r2]
 refine ask_same_triple rfl (by decide) ?_
 have q1 := eqn_t ns ns' (by omega)
 have q2 := eqw_t ws ws' (by omega)
 have q3 := eqr_t rg rg' (by omega)
 have q4 := eqo_t os os' (by omega)
 obtain ⟨B1, b1⟩ : ∃ B, decide (k = k') = B := ⟨_, rfl⟩
 obtain ⟨B2, b2⟩ : ∃ B, decide (ns = ns') = B := ⟨_, rfl⟩
 obtain ⟨B3, b3⟩ : ∃ B, decide (ws = ws') = B := ⟨_, rfl⟩
 obtain ⟨B4, b4⟩ : ∃ B, decide (rg = rg') = B := ⟨_, rfl⟩
 obtain ⟨B5, b5⟩ : ∃ B, decide (os = os') = B := ⟨_, rfl⟩
 rw [b2] at q1; rw [b3] at q2; rw [b4] at q3; rw [b5] at q4
 rw [b1, b2, b3, b4, b5]
 rw [b1] at e1
 cases B1 with
 | false => simp only [ask_same_pc, n8, e1, zaj, push_cast, ↓reduceIte, reduceCtorEq, zB, zE, zA, zS, zL, zD, zM]
 | true =>
  simp only [ask_same_pc, n8, e1, push_cast, ↓reduceIte, reduceCtorEq, zB, zE, zA, zS, zL, zD, zM]
  refine call_as (as' := [.r (.sl 1 (ns.map n8)), .r (.sl 1 (ns'.map n8))]) rfl ?_
  refine call_mk q1 rfl trivial ?_
  cases B2 with
  | false => simp only [zaj, push_cast, ↓reduceIte, reduceCtorEq, zB, zE, zA, zS, zL, zD, zM]
  | true =>
   simp only [push_cast, ↓reduceIte, reduceCtorEq, zB, zE, zA, zS, zL, zD, zM]
   refine call_as (as' := [.r (.sl 1 (ws.map u8R)), .r (.sl 1 (ws'.map u8R))]) rfl ?_
   refine call_mk q2 rfl trivial ?_
   cases B3 with
   | false => simp only [zaj, push_cast, ↓reduceIte, reduceCtorEq, zB, zE, zA, zS, zL, zD, zM]
   | true =>
    simp only [push_cast, ↓reduceIte, reduceCtorEq, zB, zE, zA, zS, zL, zD, zM]
    refine call_as (as' := [.r (.sl 2 (rg.map ptR)), .r (.sl 2 (rg'.map ptR))]) rfl ?_
    refine call_mk q3 rfl trivial ?_
    cases B4 with
    | false => simp only [zaj, push_cast, ↓reduceIte, reduceCtorEq, zB, zE, zA, zS, zL, zD, zM]
    | true =>
     simp only [push_cast, ↓reduceIte, reduceCtorEq, zB, zE, zA, zS, zL, zD, zM]
     refine call_as (as' := [.r (.sl 5 (os.map opR)), .r (.sl 5 (os'.map opR))]) rfl ?_
     refine call_mk q4 rfl trivial ?_
     cases B5 <;> simp only [push_cast, ↓reduceIte, reduceCtorEq, zB, zE, zA, zS, zL, zD, zM]

end Go.Ev
