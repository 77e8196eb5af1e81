import Derived.Lib.Bytealg
import Derived.Test.YtfdjfbodgiodbaaGreatDoorShelf
import Derived.Test.YtfdjfbodgiodbaaGreatDoorM10
open Nat renaming reduceBEq → zB, reduceEqDiff → zE, reduceAdd → zA, reduceSub → zS, reduceLT → zL, reduceLeDiff → zD, reduceMul → zM
open Go.Proofs.Tryz renaming prog → P0
open Int renaming toNat_natCast → zaa, toNat_natCast_add_one → zab, toNat → zad
open Nat renaming zero_add → zac, le_antisymm → zak
open BitVec renaming ofInt → zae
open List renaming getD_eq_getElem?_getD → zaf, drop_eq_getElem_cons → zag, length_cons → zah, getElem_mem → zaj, length_append → zal, length_nil → zam, length → zan, drop_length → zao, replicate → zap, map_append → zaq, drop_zero → zar, take_length → zas, count_le_length → zat, getElem?_append_right → zau, replicate_succ → zav, length_take → zaw, headD_cons → zax, tail_cons → zay, nil_append → zaz, set_append_right → zba, getElem?_eq_none → zbb
open Bool renaming eq_iff_iff → zai
namespace Go.Ev
set_option maxRecDepth 100000
open Go
set_option linter.unusedSectionVars false
set_option linter.unnecessarySimpa false
set_option linter.unusedSimpArgs false
set_option linter.unusedVariables false
noncomputable def stringslite_HasPrefix_pc : PC :=
  (.seq (.reg [p_s 4 (.mov (.c (.r (.v (.bool false)))))])
 (.seq (.reg [p_m 5 0, p_s 6 (.len true (.t 5)), p_m 7 1, p_s 8 (.len true (.t 7)), p_s 9 (.bin .geq (.t 6) (.t 8)), p_m 10 9, p_g 11 10 true (.mov (.t 0)), p_g 12 10 true (.mov (.t 1)),
 p_g 13 10 true (.len true (.t 12)), p_g 14 10 true (.sls (.t 11) none (some (.t 13))), p_g 15 10 true (.mov (.t 1)), p_g 16 10 true (.bin .eql (.t 14) (.t 15)),
 p_s 17 (.pick (.t 10) (.t 16) (.c (.r (.v (.bool false))))), p_m 4 17])
 .ret))
theorem stringslite_HasPrefix_triple : Fun P0 146 2 [(4, false, none)] stringslite_HasPrefix_pc := fun_mk Go.Proofs.Tryz.func146 rfl (by decide) (by kernel_rfl) (by decide) rfl (by kernel_rfl) (by kernel_rfl) (by decide)
noncomputable def stringslite_CutPrefix_pc : PC :=
  (.seq (.reg [p_s 4 (.mov (.c (.r (.v (.string ⟨#[]⟩))))), p_s 5 (.mov (.c (.r (.v (.bool false)))))])
 (.seq (.seq (.reg [p_m 6 0, p_m 7 1, p_c 8 1 146 [.t 6, .t 7], p_s 9 (.un .not (.t 8))])
 (.cond (.t 9)
 (.seq (.reg [p_m 10 0, p_m 4 10, p_s 5 (.mov (.c (.r (.v (.bool false)))))])
 .ret)
 .skip))
 (.seq (.reg [p_m 11 0, p_m 12 1, p_s 13 (.len true (.t 12)), p_s 14 (.sls (.t 11) (some (.t 13)) none), p_m 4 14, p_s 5 (.mov (.c (.r (.v (.bool true)))))])
 .ret)))
theorem stringslite_CutPrefix_triple : Fun P0 125 2 [(4, false, none), (5, false, none)] stringslite_CutPrefix_pc := fun_mk Go.Proofs.Tryz.func125 rfl (by decide) (by kernel_rfl) (by decide) rfl (by kernel_rfl) (by kernel_rfl) (by decide)
noncomputable def strings_CutPrefix_pc : PC :=
  (.seq (.reg [p_s 4 (.mov (.c (.r (.v (.string ⟨#[]⟩))))), p_s 5 (.mov (.c (.r (.v (.bool false)))))])
 (.seq (.reg [p_m 6 0, p_m 7 1, p_c 8 1 125 [.t 6, .t 7], p_s 9 (.ext (.t 8) 0), p_s 10 (.ext (.t 8) 1), p_m 4 9, p_m 5 10])
 .ret))
theorem strings_CutPrefix_triple : Fun P0 107 2 [(4, false, none), (5, false, none)] strings_CutPrefix_pc := fun_mk Go.Proofs.Tryz.func107 rfl (by decide) (by kernel_rfl) (by decide) rfl (by kernel_rfl) (by kernel_rfl) (by decide)
noncomputable def ask_field_value_pc : PC :=
  (.seq (.reg [p_a 2 (.box (.t 0)), p_s 4 (.mov (.c (.r (.v (.string ⟨#[]⟩))))), p_s 5 (.mov (.c (.r (.v (.bool false)))))])
 (.seq (.reg [p_m 6 1, p_s 7 (.fa 0 (.t 2)), p_s 8 (.ld none (.t 7)), p_s 9 (.bin .add (.t 8) (.c (.r (.v (.string ⟨#[61]⟩))))), p_c 10 1 107 [.t 6, .t 9], p_s 11 (.ext (.t 10) 0),
 p_s 12 (.ext (.t 10) 1), p_m 4 11, p_m 5 12])
 .ret))
theorem ask_field_value_triple : Fun P0 87 2 [(4, false, none), (5, false, none)] ask_field_value_pc := fun_mk Go.Proofs.Tryz.func87 rfl (by decide) (by kernel_rfl) (by decide) rfl (by kernel_rfl) (by kernel_rfl) (by decide)
abbrev sV (l : Bs) : AV := strv (bstr l)
theorem valP_eq (c : UInt8) (s : Bs) : valP c s = if (s.take 2 == [c, 61]) = true then some (s.drop 2) else none := by
 match s with
 | [] => rfl
 | [a] => simp [valP]
 | a :: b :: r =>
  simp only [valP, List.take_succ_cons, List.take_zero, List.drop_succ_cons, zar, beq_iff_eq, List.cons.injEq, and_true]
theorem hp_t (s : Bs) (c : UInt8) : Triple P0 146 [sV s, sV [c, 61]] [] (bl (s.take 2 == [c, 61])) [] := by
 obtain ⟨k, hk⟩ : ∃ k : Bs, k = [c, 61] := ⟨_, rfl⟩
 have hl : (k.length : Int) = 2 := by rw [hk]; rfl
 rw [← hk]
 refine stringslite_HasPrefix_triple rfl (by decide) ?_
 simp only [stringslite_HasPrefix_pc, hl, bstr_size, push_cast, ↓reduceIte, reduceCtorEq, zB, zE, zA, zS, zL, zD, zM]
 by_cases h : 2 ≤ s.length
 ·have g : decide ((s.length : Int) ≥ 2) = true := by simp; omega
  simp only [hl, g, bstr_size, bstr_list, push_cast, ↓reduceIte, reduceCtorEq, zB, zE, zA, zS, zL, zD, zM]
  refine ⟨by omega, ?_⟩
  rw [show (zad 2) = 2 from rfl, show (zad 0) = 0 from rfl, bstr_sub _ _ _ h, zar, bstr_list, hk]
 ·have g : decide ((s.length : Int) ≥ 2) = false := by simp; omega
  have e : (s.take 2 == k) = false := by
   rw [beq_eq_false_iff_ne, hk]
   intro e
   have := congrArg zan e
   simp at this
   omega
  simp only [hl, g, e, bstr_size, bstr_list, push_cast, ↓reduceIte, reduceCtorEq, zB, zE, zA, zS, zL, zD, zM]
def valV (c : UInt8) (s : Bs) : AV := match valP c s with
 | some v => .tup [sV v, bl true]
 | none => .tup [sV s, bl false]
theorem cutp1_t (s : Bs) (c : UInt8) : Triple P0 125 [sV s, sV [c, 61]] [] (valV c s) [] := by
 have hpt := hp_t s c
 obtain ⟨k, hk⟩ : ∃ k : Bs, k = [c, 61] := ⟨_, rfl⟩
 have hl : (k.length : Int) = 2 := by rw [hk]; rfl
 rw [← hk] at hpt ⊢
 refine stringslite_CutPrefix_triple rfl (by decide) ?_
 simp only [stringslite_CutPrefix_pc, hl, bstr_size, push_cast, ↓reduceIte, reduceCtorEq, zB, zE, zA, zS, zL, zD, zM]
 refine call_mk hpt rfl trivial ?_
 unfold valV
 rw [valP_eq]
 rw [← hk]
 cases h : s.take 2 == k with
 | true =>
  have h2 : 2 ≤ s.length := by
   have := congrArg zan (beq_iff_eq.1 h)
   rw [hk] at this
   simp at this
   omega
  simp only [hl, bstr_size, push_cast, ↓reduceIte, reduceCtorEq, zB, zE, zA, zS, zL, zD, zM]
  refine ⟨by omega, ?_⟩
  rw [show (zad 2) = 2 from rfl, zaa, bstr_sub _ _ _ (Nat.le_refl _), zas]
 | false =>
  simp only [push_cast, ↓reduceIte, reduceCtorEq, zB, zE, zA, zS, zL, zD, zM]
theorem cutp_t (s : Bs) (c : UInt8) : Triple P0 107 [sV s, sV [c, 61]] [] (valV c s) [] := by
 refine strings_CutPrefix_triple rfl (by decide) ?_
 simp only [strings_CutPrefix_pc, bstr_size, push_cast, ↓reduceIte, reduceCtorEq, zB, zE, zA, zS, zL, zD, zM]
 refine call_mk (cutp1_t s c) rfl trivial ?_
 unfold valV
 cases valP c s <;> simp only [push_cast, ↓reduceIte, reduceCtorEq, zB, zE, zA, zS, zL, zD, zM]
theorem value_t (c : UInt8) (b : Bool) (s : Bs) : Triple P0 87 [.r (.agg [.v (.string (bstr [c])), .v (.bool b)]), sV s] [] (valV c s) [] := by
 refine ask_field_value_triple rfl (by decide) ?_
 simp only [ask_field_value_pc, bstr_size, push_cast, ↓reduceIte, reduceCtorEq, zB, zE, zA, zS, zL, zD, zM]
 refine ⟨by decide, ?_⟩
 refine call_as (as' := [sV s, sV [c, 61]]) (by rw [show (⟨#[61]⟩ : ByteArray) = bstr [61] from rfl, bstr_app]; rfl) ?_
 refine call_mk (cutp_t s c) rfl trivial ?_
 unfold valV
 cases valP c s <;> simp only [push_cast, ↓reduceIte, reduceCtorEq, zB, zE, zA, zS, zL, zD, zM]

noncomputable def bytes_Equal_pc : PC :=
  (.seq (.reg [p_s 4 (.mov (.c (.r (.v (.bool false)))))])
 (.seq (.reg [p_m 5 0, p_s 6 (.toStr (.t 5)), p_m 7 1, p_s 8 (.toStr (.t 7)), p_s 9 (.bin .eql (.t 6) (.t 8)), p_m 4 9])
 .ret))
theorem bytes_Equal_triple : Fun P0 82 2 [(4, false, none)] bytes_Equal_pc := fun_mk Go.Proofs.Tryz.func82 rfl (by decide) (by kernel_rfl) (by decide) rfl (by kernel_rfl) (by kernel_rfl) (by decide)
noncomputable def bytes_HasPrefix_pc : PC :=
  (.seq (.reg [p_s 4 (.mov (.c (.r (.v (.bool false)))))])
 (.seq (.reg [p_m 5 0, p_s 6 (.len false (.t 5)), p_m 7 1, p_s 8 (.len false (.t 7)), p_s 9 (.bin .geq (.t 6) (.t 8)), p_m 10 9, p_g 11 10 true (.mov (.t 0)), p_g 12 10 true (.mov (.t 1)),
 p_g 13 10 true (.len false (.t 12)), p_g 14 10 true (.sll 1 (.t 11) none (some (.t 13)) none), p_g 15 10 true (.mov (.t 1)), ⟨(some 16), (some (10, true)), 1, .call 82 [(.t 14), (.t 15)]⟩,
 p_s 17 (.pick (.t 10) (.t 16) (.c (.r (.v (.bool false))))), p_m 4 17])
 .ret))
theorem bytes_HasPrefix_triple : Fun P0 49 2 [(4, false, none)] bytes_HasPrefix_pc := fun_mk Go.Proofs.Tryz.func49 rfl (by decide) (by kernel_rfl) (by decide) rfl (by kernel_rfl) (by kernel_rfl) (by decide)
noncomputable def bytes_CutPrefix_pc : PC :=
  (.seq (.reg [p_s 4 (.mov (.c (.nils 1 (.v (.int .u8 0))))), p_s 5 (.mov (.c (.r (.v (.bool false)))))])
 (.seq (.seq (.reg [p_m 6 0, p_m 7 1, p_c 8 1 49 [.t 6, .t 7], p_s 9 (.un .not (.t 8))])
 (.cond (.t 9)
 (.seq (.reg [p_m 10 0, p_m 4 10, p_s 5 (.mov (.c (.r (.v (.bool false)))))])
 .ret)
 .skip))
 (.seq (.reg [p_m 11 0, p_m 12 1, p_s 13 (.len false (.t 12)), p_s 14 (.sll 1 (.t 11) (some (.t 13)) none none), p_m 4 14, p_s 5 (.mov (.c (.r (.v (.bool true)))))])
 .ret)))
theorem bytes_CutPrefix_triple : Fun P0 23 2 [(4, false, none), (5, false, none)] bytes_CutPrefix_pc := fun_mk Go.Proofs.Tryz.func23 rfl (by decide) (by kernel_rfl) (by decide) rfl (by kernel_rfl) (by kernel_rfl) (by decide)
noncomputable def ask_Parse_1_pc : PC :=
  (.seq (.reg [p_s 2 (.mov (.c (.r (.v (.bool false)))))])
 (.seq (.reg [p_m 3 0, p_s 4 (.bin .eql (.t 3) (.c (.r (.v (.int .i32 63))))), p_m 5 4, p_g 6 5 false (.mov (.t 0)), p_g 7 5 false (.bin .eql (.t 6) (.c (.r (.v (.int .i32 10))))),
 p_s 8 (.pick (.t 5) (.c (.r (.v (.bool true)))) (.t 7)), p_m 2 8])
 .ret))
theorem ask_Parse_1_triple : Fun P0 25 1 [(2, false, none)] ask_Parse_1_pc := fun_mk Go.Proofs.Tryz.func25 rfl (by decide) (by kernel_rfl) (by decide) rfl (by kernel_rfl) (by kernel_rfl) (by decide)
noncomputable def bytes_indexFunc_pc : PC :=
  (.seq (.reg [p_s 6 (.mov (o_i 0))])
 (.seq (.reg [p_s 7 (.mov (o_i 0))])
 (.seq (.block 0 (.loop (.seq (.seq (.reg [p_m 10 7, p_m 11 0, p_s 12 (.len false (.t 11)), p_s 13 (.bin .lss (.t 10) (.t 12))])
 (.cond (.t 13)
 .skip
 (.exit 0)))
 (.block 1 (.seq (.reg [p_m 15 0, p_m 16 7, p_s 17 (.sll 1 (.t 15) (some (.t 16)) none none), p_c 18 1 83 [.t 17], p_m 14 18, p_s 19 (.ext (.t 14) 0), p_s 20 (.ext (.t 14) 1), p_m 8 19,
 p_m 9 20])
 (.seq (.seq (.reg [p_m 21 1, p_m 22 8, ⟨(some 23), none, 2, .callv (.t 21) [(.t 22)]⟩, p_m 24 2, p_s 25 (.beq false (.t 23) (.t 24))])
 (.cond (.t 25)
 (.seq (.reg [p_m 26 7, p_m 6 26])
 .ret)
 .skip))
 (.reg [p_m 27 7, p_m 28 9, p_s 29 (.bin .add (.t 27) (.t 28)), p_m 7 29])))))))
 (.seq (.reg [p_s 6 (.mov (o_i (-1)))])
 .ret))))
theorem bytes_indexFunc_triple : Fun P0 50 3 [(6, false, none)] bytes_indexFunc_pc := fun_mk Go.Proofs.Tryz.func50 rfl (by decide) (by kernel_rfl) (by decide) rfl (by kernel_rfl) (by kernel_rfl) (by decide)
noncomputable def bytes_IndexFunc_pc : PC :=
  (.seq (.reg [p_s 4 (.mov (o_i 0))])
 (.seq (.reg [p_m 5 0, p_m 6 1, p_c 7 1 50 [(.t 5), (.t 6), (.c (.r (.v (.bool true))))], p_m 4 7])
 .ret))
theorem bytes_IndexFunc_triple : Fun P0 24 2 [(4, false, none)] bytes_IndexFunc_pc := fun_mk Go.Proofs.Tryz.func24 rfl (by decide) (by kernel_rfl) (by decide) rfl (by kernel_rfl) (by kernel_rfl) (by decide)
noncomputable def utf8_DecodeRune_pc : PC :=
  (.seq (.reg [p_s 2 (.mov (.c (.r (.v (.int .i32 0))))), p_s 3 (.mov (o_i 0))])
 (.seq (.seq (.reg [p_m 6 0, p_s 7 (.len false (.t 6)), p_s 8 (.mov (o_i 0))])
 (.block 0 (.loop (.seq (.reg [p_s 9 (.bin .lss (.t 8) (.t 7))])
 (.seq (.cond (.t 9)
 .skip
 (.exit 0))
 (.seq (.block 1 (.seq (.reg [p_s 10 (.ia 1 (.v (.int .u8 0)) (.t 6) (.t 8)), p_s 11 (.ld none (.t 10)), p_m 5 11])
 (.seq (.seq (.reg [p_m 12 5, p_s 13 (.bin .lss (.t 12) (.c (.r (.v (.int .u8 128)))))])
 (.cond (.t 13)
 (.seq (.reg [p_m 14 5, p_s 15 (.conv .i32 (.t 14)), p_m 2 15, p_s 3 (.mov (o_i 1))])
 .ret)
 .skip))
 (.exit 0))))
 (.reg [p_s 16 (.bin .add (.t 8) (o_i 1)), p_m 8 16])))))))
 (.seq (.reg [p_m 18 0, p_c 19 1 105 [.t 18], p_m 17 19, p_s 20 (.ext (.t 17) 0), p_s 21 (.ext (.t 17) 1), p_m 2 20, p_m 3 21])
 .ret)))
theorem utf8_DecodeRune_triple : Fun P0 83 1 [(2, false, none), (3, false, none)] utf8_DecodeRune_pc := fun_mk Go.Proofs.Tryz.func83 rfl (by decide) (by kernel_rfl) (by decide) rfl (by kernel_rfl) (by kernel_rfl) (by decide)
theorem beq_t (a b : Bs) : Triple P0 82 [sb a, sb b] [] (bl (a == b)) [] := by
 refine bytes_Equal_triple rfl (by decide) ?_
 simp only [bytes_Equal_pc, bys_isByte, bstr_of_bys, bstr_list, bstr_size, push_cast, ↓reduceIte, reduceCtorEq, zB, zE, zA, zS, zL, zD, zM]
theorem bhp_t (s k : Bs) (hk : k.length = 1) : Triple P0 49 [sb s, sb k] [] (bl (s.take 1 == k)) [] := by
 refine bytes_HasPrefix_triple rfl (by decide) ?_
 have hl : (k.length : Int) = 1 := by omega
 simp only [bytes_HasPrefix_pc, hl, bstr_size, push_cast, ↓reduceIte, reduceCtorEq, zB, zE, zA, zS, zL, zD, zM]
 by_cases h : 1 ≤ s.length
 ·have g : decide ((s.length : Int) ≥ 1) = true := by simp; omega
  simp only [hl, g, bstr_size, bstr_list, push_cast, ↓reduceIte, reduceCtorEq, zB, zE, zA, zS, zL, zD, zM]
  refine ⟨by omega, ?_⟩
  refine call_as (as' := [sb (s.take 1), sb k]) (by rw [show (zad 0) = 0 from rfl, show (zad 1) = 1 from rfl, zar, ← List.map_take]) ?_
  refine call_mk (beq_t (s.take 1) k) rfl trivial ?_
  simp only [push_cast, ↓reduceIte, reduceCtorEq, zB, zE, zA, zS, zL, zD, zM]
 ·have g : decide ((s.length : Int) ≥ 1) = false := by simp; omega
  have e : (s.take 1 == k) = false := by
   rw [beq_eq_false_iff_ne]
   intro e
   have := congrArg zan e
   simp at this
   omega
  simp only [hl, g, e, bstr_size, bstr_list, push_cast, ↓reduceIte, reduceCtorEq, zB, zE, zA, zS, zL, zD, zM]
theorem bcut_t (s k : Bs) (hk : k.length = 1) : Triple P0 23 [sb s, sb k] [] (if (s.take 1 == k) = true then .tup [sb (s.drop 1), bl true] else .tup [sb s, bl false]) [] := by
 refine bytes_CutPrefix_triple rfl (by decide) ?_
 have hl : (k.length : Int) = 1 := by omega
 simp only [bytes_CutPrefix_pc, hl, bstr_size, push_cast, ↓reduceIte, reduceCtorEq, zB, zE, zA, zS, zL, zD, zM]
 refine call_mk (bhp_t s k hk) rfl trivial ?_
 cases h : s.take 1 == k with
 | true =>
  have h2 : 1 ≤ s.length := by
   have := congrArg zan (beq_iff_eq.1 h)
   simp at this
   omega
  simp only [hl, push_cast, ↓reduceIte, reduceCtorEq, zB, zE, zA, zS, zL, zD, zM]
  refine ⟨by omega, ?_⟩
  rw [show (zad 1) = 1 from rfl, zaa, take_map_len, ← List.map_drop]
 | false =>
  simp only [hl, push_cast, ↓reduceIte, reduceCtorEq, zB, zE, zA, zS, zL, zD, zM]
def stopB (c : UInt8) : Bool := decide (c.toNat = 63 ∨ c.toNat = 10)
theorem parse1_t (c : Int) : Triple P0 25 [int .i32 c] [] (bl (decide (c = 63 ∨ c = 10))) [] := by
 refine ask_Parse_1_triple rfl (by decide) ?_
 simp only [ask_Parse_1_pc, push_cast, ↓reduceIte, reduceCtorEq, zB, zE, zA, zS, zL, zD, zM]
 refine ⟨fun h => by rw [h]; rfl, ?_⟩
 refine bl_iff ?_
 by_cases h : c = 63
 ·simp [h]
 ·simp [h]
def Dec (l : Bs) : Prop := ∃ (r : Int) (n : Nat), Triple P0 83 [sb l] [] (.tup [int .i32 r, int .i64 n]) [] ∧ 1 ≤ n ∧ n ≤ l.length ∧
 ((∃ c t, l = c :: t ∧ n = 1 ∧ r = (c.toNat : Int)) ∨ (r ≠ 63 ∧ r ≠ 10 ∧ ∀ c ∈ l.take n, stopB c = false))
theorem dec_ascii (c : UInt8) (t : Bs) (hc : c.toNat < 128) (ht : (c :: t).length ≤ 140737488355328) : Triple P0 83 [sb (c :: t)] [] (.tup [int .i32 (c.toNat : Int), int .i64 1]) [] := by
 refine utf8_DecodeRune_triple rfl (by decide) ?_
 simp only [utf8_DecodeRune_pc, push_cast, ↓reduceIte, reduceCtorEq, zB, zE, zA, zS, zL, zD, zM]
 refine run_loop [(0, false), (6, false), (7, false), (8, false)] (fun vs pos los => vs = [sb (c :: t), sb (c :: t), int .i64 ((t.length : Int) + 1), int .i64 0] ∧ pos = [] ∧ los = []) (fun _ _ _ => 0) rfl ?_ ?_
 ·simp only [push_cast, ↓reduceIte, reduceCtorEq, zB, zE, zA, zS, zL, zD, zM]
  rfl
 ·rintro vs pos los ⟨rfl, rfl, rfl⟩
  simp only [push_cast, ↓reduceIte, reduceCtorEq, zB, zE, zA, zS, zL, zD, zM]
  refine cnd_mk (fun h => ?_) (fun h => ?_)
  ·have g : decide ((c.toNat : Int) < 128) = true := by simp; omega
   have w : IntKind.i32.wrap (c.toNat : Int) = (c.toNat : Int) := by rw [IntKind.wrap_i32]; omega
   have hg : (by8 c :: bys t).getD (zad 0) (.v (.int .u8 0)) = .v (.int .u8 c.toNat) := rfl
   simp only [hg, g, w, push_cast, ↓reduceIte, reduceCtorEq, zB, zE, zA, zS, zL, zD, zM]
   omega
  ·exact absurd h (by simp)
theorem upTo_skip (q : UInt8 → Bool) : ∀ (n : Nat) (l : Bs), (∀ c ∈ l.take n, q c = false) → upTo q l = (l.take n ++ (upTo q (l.drop n)).1, (upTo q (l.drop n)).2)
 | 0, l, _ => by simp
 | n + 1, [], _ => by simp [upTo]
 | n + 1, c :: l, h => by
  have h1 : q c = false := h c (by simp)
  have h2 := upTo_skip q n l fun x hx => h x (by simp [hx])
  rw [upTo, if_neg (by rw [h1]; simp), h2]
  simp
theorem idxF_t (l : Bs) (hl : l.length ≤ 140737488355328) (hD : ∀ i, i < l.length → Dec (l.drop i)) : Triple P0 50 [sb l, .fn (.func 25) [] 0, bl true] []
  (int .i64 (if (upTo stopB l).2 = [] then -1 else ((upTo stopB l).1.length : Int))) [] := by
 refine bytes_indexFunc_triple rfl (by decide) ?_
 simp only [bytes_indexFunc_pc, push_cast, ↓reduceIte, reduceCtorEq, zB, zE, zA, zS, zL, zD, zM]
 refine run_loop [(0, false), (1, false), (2, false), (7, false)] (fun vs pos los => ∃ i : Nat, i ≤ l.length ∧ upTo stopB l = (l.take i ++ (upTo stopB (l.drop i)).1, (upTo stopB (l.drop i)).2) ∧ vs = [sb l, .fn (.func 25) [] 0, bl true, int .i64 i] ∧ pos = [] ∧ los = [])
  (fun vs _ _ => match vs with | [_, _, _, .r (.v (.int _ j))] => (l.length - j).toNat | _ => 0) rfl ?_ ?_
 ·simp only [push_cast, ↓reduceIte, reduceCtorEq, zB, zE, zA, zS, zL, zD, zM]
  exact ⟨0, by omega, by simp, rfl⟩
 ·rintro vs pos los ⟨i, i0, hu, rfl, rfl, rfl⟩
  simp only [push_cast, ↓reduceIte, reduceCtorEq, zB, zE, zA, zS, zL, zD, zM]
  refine cnd_mk (fun hi => ?_) (fun hi => ?_)
  ·have hi : i < l.length := by simp at hi; omega
   obtain ⟨r, n, hT, n1, n2, hr⟩ := hD i hi
   have hdl : (l.drop i).length = l.length - i := List.length_drop
   simp only [push_cast, ↓reduceIte, reduceCtorEq, zB, zE, zA, zS, zL, zD, zM]
   refine ⟨by omega, ?_⟩
   refine call_as (as' := [sb (l.drop i)]) (by simp only [← List.map_take, ← List.map_drop, zaa, zas]) ?_
   refine call_mk hT rfl trivial ?_
   have hfn : isFn P0 25 = true := rfl
   simp only [hfn, push_cast, ↓reduceIte, reduceCtorEq, zB, zE, zA, zS, zL, zD, zM]
   refine call_mk (parse1_t r) rfl trivial ?_
   simp only [push_cast, ↓reduceIte, reduceCtorEq, zB, zE, zA, zS, zL, zD, zM]
   have hD' : (l.drop i).drop n = l.drop (i + n) := by rw [List.drop_drop]
   refine cnd_mk (fun hc => ?_) (fun hc => ?_)
   ·simp only [push_cast, ↓reduceIte, reduceCtorEq, zB, zE, zA, zS, zL, zD, zM]
    have hc : r = 63 ∨ r = 10 := by simpa using hc
    rcases hr with ⟨c, t, e1, e2, e3⟩ | ⟨e1, e2, _⟩
    ·have hs : stopB c = true := by unfold stopB; simp; omega
     rw [e1, upTo, if_pos hs] at hu
     rw [hu, if_neg (by simp)]
     simp
     omega
    ·omega
   ·have hc : r ≠ 63 ∧ r ≠ 10 := by simpa using hc
    have hall : ∀ c ∈ (l.drop i).take n, stopB c = false := by
     rcases hr with ⟨c, t, e1, e2, e3⟩ | ⟨_, _, h⟩
     ·rw [e1, e2]
      intro x hx
      simp at hx
      subst hx
      unfold stopB
      simp
      omega
     ·exact h
    have hs := upTo_skip stopB n (l.drop i) hall
    rw [hD'] at hs
    have w1 : IntKind.i64.wrap ((i : Int) + n) = (i : Int) + n := wrap_id (by omega)
    simp only [w1, push_cast, ↓reduceIte, reduceCtorEq, zB, zE, zA, zS, zL, zD, zM]
    refine ⟨⟨i + n, by omega, ?_, by simp⟩, by omega⟩
    rw [hu, hs, ← List.append_assoc]
    congr 1
    rw [List.take_add]
  ·have hi : i = l.length := by simp at hi; omega
   subst hi
   simp only [push_cast, ↓reduceIte, reduceCtorEq, zB, zE, zA, zS, zL, zD, zM]
   have : upTo stopB (l.drop l.length) = ([], []) := by rw [zao]; rfl
   rw [this] at hu
   rw [hu]
   rfl
theorem idx_t (l : Bs) (hl : l.length ≤ 140737488355328) (hD : ∀ i, i < l.length → Dec (l.drop i)) : Triple P0 24 [sb l, .fn (.func 25) [] 0] []
  (int .i64 (if (upTo stopB l).2 = [] then -1 else ((upTo stopB l).1.length : Int))) [] := by
 refine bytes_IndexFunc_triple rfl (by decide) ?_
 simp only [bytes_IndexFunc_pc, push_cast, ↓reduceIte, reduceCtorEq, zB, zE, zA, zS, zL, zD, zM]
 refine call_mk (idxF_t l hl hD) rfl trivial ?_
 simp only [push_cast, ↓reduceIte, reduceCtorEq, zB, zE, zA, zS, zL, zD, zM]
theorem asc_dec (l : Bs) (hl : l.length ≤ 140737488355328) (h : ∀ c ∈ l, c.toNat < 128) : ∀ i, i < l.length → Dec (l.drop i) := fun i hi => by
 have hd : l.drop i = l[i] :: l.drop (i + 1) := zag hi
 rw [hd]
 refine ⟨_, 1, dec_ascii l[i] _ (h _ (zaj hi)) ?_, by omega, by simp; omega, .inl ⟨_, _, rfl, rfl, rfl⟩⟩
 rw [← hd, List.length_drop]
 omega

noncomputable def strings_genSplit_pc : PC :=
  (.seq (.reg [p_s 8 (.mov (.c (.nils 1 (.v (.string ⟨#[]⟩)))))])
 (.seq (.seq (.reg [p_m 12 3, p_s 13 (.bin .eql (.t 12) (o_i 0))])
 (.cond (.t 13)
 (.seq (.reg [p_s 8 (.mov (.c (.nils 1 (.v (.string ⟨#[]⟩)))))])
 .ret)
 .skip))
 (.seq (.seq (.reg [p_m 14 1, p_s 15 (.bin .eql (.t 14) (.c (.r (.v (.string ⟨#[]⟩)))))])
 (.cond (.t 15)
 (.seq (.reg [p_m 16 0, p_m 17 3, p_c 18 1 122 [.t 16, .t 17], p_m 8 18])
 .ret)
 .skip))
 (.seq (.seq (.reg [p_m 19 3, p_s 20 (.bin .lss (.t 19) (o_i 0))])
 (.cond (.t 20)
 (.reg [p_m 21 0, p_m 22 1, p_c 23 2 123 [.t 21, .t 22], p_s 24 (.bin .add (.t 23) (o_i 1)), p_m 3 24])
 .skip))
 (.seq (.reg [p_m 25 3, p_m 26 0, p_s 27 (.len true (.t 26)), p_s 28 (.bin .add (.t 27) (o_i 1)), p_s 29 (.mm false (.t 25) [(.t 28)]), p_m 3 29])
 (.seq (.reg [p_m 30 3, p_a 31 (.mks 1 (.v (.string ⟨#[]⟩)) 16 (.t 30) (.t 30)), p_m 9 31])
 (.seq (.reg [p_m 32 3, p_s 33 (.bin .sub (.t 32) (o_i 1)), p_m 3 33])
 (.seq (.reg [p_s 10 (.mov (o_i 0))])
 (.seq (.block 0 (.loop (.seq (.seq (.reg [p_m 34 10, p_m 35 3, p_s 36 (.bin .lss (.t 34) (.t 35))])
 (.cond (.t 36)
 .skip
 (.exit 0)))
 (.block 1 (.seq (.reg [p_m 37 0, p_m 38 1, p_c 39 3 124 [.t 37, .t 38], p_m 11 39])
 (.seq (.seq (.reg [p_m 40 11, p_s 41 (.bin .lss (.t 40) (o_i 0))])
 (.cond (.t 41)
 (.exit 0)
 .skip))
 (.seq (.reg [p_m 42 9, p_m 43 10, p_m 44 0, p_m 45 11, p_m 46 2, p_s 47 (.bin .add (.t 45) (.t 46)), p_s 48 (.sls (.t 44) none (some (.t 47))), p_s 49 (.ia 1 (.v (.string ⟨#[]⟩)) (.t 42) (.t 43)),
 ⟨none, none, 0, .act (.st 1 (.t 49) (.t 48))⟩])
 (.seq (.reg [p_m 50 0, p_m 51 11, p_m 52 1, p_s 53 (.len true (.t 52)), p_s 54 (.bin .add (.t 51) (.t 53)), p_s 55 (.sls (.t 50) (some (.t 54)) none), p_m 0 55])
 (.reg [p_m 56 10, p_s 57 (.bin .add (.t 56) (o_i 1)), p_m 10 57])))))))))
 (.seq (.reg [p_m 58 9, p_m 59 10, p_m 60 0, p_s 61 (.ia 1 (.v (.string ⟨#[]⟩)) (.t 58) (.t 59)), ⟨none, none, 0, .act (.st 1 (.t 61) (.t 60))⟩])
 (.seq (.reg [p_m 62 9, p_m 63 10, p_s 64 (.bin .add (.t 63) (o_i 1)), p_s 65 (.sll 1 (.t 62) none (some (.t 64)) none), p_m 8 65])
 .ret)))))))))))
theorem strings_genSplit_triple : Fun P0 106 4 [(8, false, none)] strings_genSplit_pc := fun_mk Go.Proofs.Tryz.func106 rfl (by decide) (by kernel_rfl) (by decide) rfl (by kernel_rfl) (by kernel_rfl) (by decide)
noncomputable def strings_Split_pc : PC :=
  (.seq (.reg [p_s 4 (.mov (.c (.nils 1 (.v (.string ⟨#[]⟩)))))])
 (.seq (.reg [p_m 5 0, p_m 6 1, p_c 7 1 106 [(.t 5), (.t 6), (o_i 0), (o_i (-1))], p_m 4 7])
 .ret))
theorem strings_Split_triple : Fun P0 86 2 [(4, false, none)] strings_Split_pc := fun_mk Go.Proofs.Tryz.func86 rfl (by decide) (by kernel_rfl) (by decide) rfl (by kernel_rfl) (by kernel_rfl) (by decide)
theorem count_t (s : Bs) (c : UInt8) : Triple P0 123 [sV s, sV [c]] [] (int .i64 (s.count c : Nat)) [] := by
 refine triple_of_calls (vs := [.string (bstr s), .string (bstr [c])]) fun w _ => ?_
 refine (Go.Proofs.Any.strings_Count_one Go.Proofs.Tryz.lays138 (bstr s) c w).mono ?_
 rintro e w' ⟨rfl, rfl⟩
 refine ⟨_, rfl, Go.RowKit.Below.refl _ _, fun R => ?_⟩
 rw [bstr_data]
 exact .v _
theorem index_t (s : Bs) (c : UInt8) : Triple P0 124 [sV s, sV [c]] [] (int .i64 (Lib.indexByte s c)) [] := by
 refine triple_of_calls (vs := [.string (bstr s), .string (bstr [c])]) fun w _ => ?_
 refine (Go.Proofs.Any.strings_Index_one Go.Proofs.Tryz.lays143 (bstr s) c w).mono ?_
 rintro e w' ⟨rfl, rfl⟩
 refine ⟨_, rfl, Go.RowKit.Below.refl _ _, fun R => ?_⟩
 rw [bstr_data]
 exact .v _
theorem ibx_some {c : UInt8} : ∀ {s : Bs}, c ∈ s → ∃ p r, s = p ++ c :: r ∧ c ∉ p ∧ Lib.indexByte s c = p.length
 | x :: r, h => by
  by_cases hx : x = c
  ·subst hx
   exact ⟨[], r, rfl, by simp, by rw [Lib.indexByte, if_pos (by simp)]; rfl⟩
  ·have hx' : ¬ c = x := fun e => hx e.symm
   have hr : c ∈ r := by simpa [hx'] using h
   obtain ⟨p, q, rfl, h2, h3⟩ := ibx_some hr
   refine ⟨x :: p, q, rfl, by simp [h2, hx'], ?_⟩
   rw [Lib.indexByte, if_neg (by simpa using hx), h3, if_neg (by simp)]
   simp
def strR (l : Bs) : RV := .v (.string (bstr l))
abbrev strs (ps : List Bs) : List RV := ps.map strR
abbrev rowS (ps : List Bs) : Ob := .row 1 (.v (.string ⟨#[]⟩)) true true (strs ps)
theorem gsplit_t (s : Bs) (c : UInt8) (hl : s.length ≤ 1000000000) : Triple P0 106 [sV s, sV [c], int .i64 0, int .i64 (-1)] [] (.own 1000000 0 0 (pieces c s).length) [rowS (pieces c s)] := by
  obtain ⟨k, hk⟩ : ∃ k : Bs, k = [c] := ⟨_, rfl⟩
  have hkl : (k.length : Int) = 1 := by rw [hk]; rfl
  have hct : ∀ s, Triple P0 123 [sV s, sV k] [] (int .i64 (s.count c : Nat)) [] := fun s => by rw [hk]; exact count_t s c
  have hit : ∀ s, Triple P0 124 [sV s, sV k] [] (int .i64 (Lib.indexByte s c)) [] := fun s => by rw [hk]; exact index_t s c
  have hke : (k == ({ data := #[] } : ByteArray).toList) = false := by rw [hk, ByteArray.toList_eq]; rfl
  rw [← hk]
  have g1 : ((-1 : Int) == 0) = false := rfl
  have g2 : decide ((-1 : Int) < 0) = true := rfl
  refine strings_genSplit_triple rfl (by decide) ?_
  obtain ⟨T, hT⟩ : ∃ T, s.count c = T := ⟨_, rfl⟩
  have hTl : T ≤ s.length := by rw [← hT]; exact zat
  simp only [strings_genSplit_pc, g1, g2, hkl, bstr_size, bstr_list, hke, push_cast, ↓reduceIte, reduceCtorEq, zB, zE, zA, zS, zL, zD, zM]
  refine call_mk (hct s) rfl trivial ?_
  rw [hT]
  have w1 : IntKind.i64.wrap ((T : Int) + 1) = (T : Int) + 1 := wrap_id (by omega)
  have w2 : IntKind.i64.wrap ((s.length : Int) + 1) = (s.length : Int) + 1 := wrap_id (by omega)
  have m1 : min ((T : Int) + 1) ((s.length : Int) + 1) = (T : Int) + 1 := by omega
  have w3 : IntKind.i64.wrap ((T : Int) + 1 - 1) = (T : Int) := by rw [wrap_id (by omega)]; omega
  have hz : zerosAt ((T : Int) + 1) (.v (.string ⟨#[]⟩)) = zap (T + 1) (strR []) := by
    unfold zerosAt
    rw [show ((T : Int) + 1).toNat = T + 1 by omega]
    rfl
  simp only [w1, w2, w3, m1, hz, hkl, bstr_size, bstr_list, hke, push_cast, ↓reduceIte, reduceCtorEq, zB, zE, zA, zS, zL, zD, zM]
  refine ⟨by have := maxLen_big; omega, ?_⟩
  refine run_loop [(0, false), (1, false), (2, false), (3, false), (9, false), (10, false)] (fun vs pos los => ∃ (P : List Bs) (r : Bs), pieces c s = P ++ pieces c r ∧ r.length ≤ s.length ∧ vs = [sV r, sV k, int .i64 0, int .i64 T, .own 2000000 0 0 (T + 1), int .i64 P.length] ∧ pos = [] ∧ los = [.row 1 (.v (.string ⟨#[]⟩)) true true (strs P ++ zap (T + 1 - P.length) (strR []))])
    (fun vs _ _ => match vs with | [_, _, _, _, _, .r (.v (.int _ j))] => (T - j).toNat | _ => 0) rfl ?_ ?_
  · simp only [push_cast, ↓reduceIte, reduceCtorEq, zB, zE, zA, zS, zL, zD, zM]
    exact ⟨[], s, rfl, by omega, rfl, rfl⟩
  · rintro vs pos los ⟨P, r, hP, hr, rfl, rfl, rfl⟩
    have hlen : P.length + r.count c = T := by
      have := congrArg zan hP
      rw [zal, pieces_len, pieces_len, hT] at this
      omega
    simp only [push_cast, ↓reduceIte, reduceCtorEq, zB, zE, zA, zS, zL, zD, zM]
    refine cnd_mk (fun hi => ?_) (fun hi => ?_)
    · have hi : P.length < T := by simpa using hi
      have hc : c ∈ r := List.count_pos_iff.1 (by omega)
      obtain ⟨p, q, rfl, hp, hix⟩ := ibx_some hc
      simp only [push_cast, ↓reduceIte, reduceCtorEq, zB, zE, zA, zS, zL, zD, zM]
      refine call_mk (hit _) rfl trivial ?_
      rw [hix]
      have hql : (p ++ c :: q).length = p.length + (q.length + 1) := by simp
      obtain ⟨r, hrd⟩ : ∃ r, p ++ c :: q = r := ⟨_, rfl⟩
      rw [hrd] at hql hr
      have g3 : decide ((p.length : Int) < 0) = false := by simp
      have w4 : IntKind.i64.wrap ((p.length : Int) + 0) = (p.length : Int) := by rw [wrap_id (by omega)]; omega
      have w4' : IntKind.i64.wrap (p.length : Int) = (p.length : Int) := by rw [wrap_id (by omega)]
      have w5 : IntKind.i64.wrap ((p.length : Int) + 1) = (p.length : Int) + 1 := wrap_id (by omega)
      have w6 : IntKind.i64.wrap ((P.length : Int) + 1) = (P.length : Int) + 1 := wrap_id (by omega)
      have e1 : (bstr r).extract (zad 0) p.length = bstr p := by
        rw [bstr_sub _ _ _ (by omega), ← hrd]
        simp
      have e2 : (bstr r).extract (p.length + 1) r.length = bstr q := by
        rw [bstr_sub _ _ _ (Nat.le_refl _), zas, ← hrd]
        simp
      obtain ⟨X, hX⟩ : ∃ X, strs P ++ zap (T + 1 - P.length) (strR []) = X := ⟨_, rfl⟩
      have hXl : X.length = T + 1 := by rw [← hX]; simp; omega
      have hXg : ∀ z, X.getD P.length z = .v (.string (bstr [])) := fun z => by
        rw [← hX, zaf, zau (by simp), show T + 1 - P.length = (T - P.length) + 1 by omega]
        simp [zav, strR]
      have hXs : X.set P.length (.v (.string (bstr p))) = strs (P ++ [p]) ++ zap (T + 1 - (P ++ [p]).length) (strR []) := by
        rw [← hX, zba _ _ (by simp), show T + 1 - P.length = (T - P.length) + 1 by omega]
        simp [zav, strR]
      rw [hX, hrd]
      simp only [g3, w4, w4', w5, w6, e1, e2, hXl, hXg, hkl, bstr_size, zaa, zab, zac, push_cast, ↓reduceIte, reduceCtorEq, zB, zE, zA, zS, zL, zD, zM]
      refine ⟨by omega, by omega, by omega, ⟨P ++ [p], q, ?_, by omega, by simp, by rw [hXs]⟩, by omega⟩
      rw [hP, pieces_cut c p q hp, List.append_assoc]
      rfl
    · have hi : P.length = T := by have : ¬ P.length < T := by simpa using hi
                                   omega
      have hc : c ∉ r := fun h => by
        have := List.count_pos_iff.2 h
        omega
      rw [pieces_free c r hc] at hP
      have w6 : IntKind.i64.wrap ((T : Int) + 1) = (T : Int) + 1 := wrap_id (by omega)
      obtain ⟨X, hX⟩ : ∃ X, strs P ++ zap (T + 1 - P.length) (strR []) = X := ⟨_, rfl⟩
      have hXl : X.length = T + 1 := by rw [← hX]; simp; omega
      have hXg : ∀ z, X.getD T z = .v (.string (bstr [])) := fun z => by
        rw [← hX, zaf, zau (by simp; omega), hi, show T + 1 - T = 1 by omega]
        simp [zav, strR, hi]
      have hXs : X.set T (.v (.string (bstr r))) = strs (P ++ [r]) := by
        rw [← hX, zba _ _ (by simp; omega), hi, show T + 1 - T = 1 by omega]
        simp [zav, strR, hi]
      rw [hX, hP, hi]
      simp only [w6, hXl, hXg, hkl, bstr_size, zaa, zab, zac, push_cast, ↓reduceIte, reduceCtorEq, zB, zE, zA, zS, zL, zD, zM]
      refine ⟨by omega, by omega, ?_, by rw [hXs]⟩
      rw [hi, show (((T : Int) + 1 - 0)).toNat = T + 1 by omega]
      rfl
theorem asplit_t (s : Bs) (c : UInt8) (hl : s.length ≤ 1000000000) : Triple P0 86 [sV s, sV [c]] [] (.own 1000000 0 0 (pieces c s).length) [rowS (pieces c s)] := by
 have hg := gsplit_t s c hl
 obtain ⟨k, hk⟩ : ∃ k : Bs, k = [c] := ⟨_, rfl⟩
 rw [← hk] at hg ⊢
 refine strings_Split_triple rfl (by decide) ?_
 simp only [strings_Split_pc, push_cast, ↓reduceIte, reduceCtorEq, zB, zE, zA, zS, zL, zD, zM]
 refine call_mk hg rfl trivial ?_
 simp only [push_cast, ↓reduceIte, reduceCtorEq, zB, zE, zA, zS, zL, zD, zM]

noncomputable def ask_n_pc : PC :=
  (.seq (.reg [p_s 2 (.mov (.c (.nils 2 (.agg [(.v (.string ⟨#[]⟩)), (.v (.bool false))]))))])
 (.seq (.reg [p_s 3 (.mov (.c (.nils 2 (.agg [(.v (.string ⟨#[]⟩)), (.v (.bool false))]))))])
 (.seq (.seq (.reg [p_m 6 0, p_c 7 1 86 [(.t 6), (.c (.r (.v (.string ⟨#[32]⟩))))], p_s 8 (.len false (.t 7)), p_s 9 (.mov (o_i 0))])
 (.block 0 (.loop (.seq (.reg [p_s 10 (.bin .lss (.t 9) (.t 8))])
 (.seq (.cond (.t 10)
 .skip
 (.exit 0))
 (.seq (.block 1 (.seq (.reg [p_s 11 (.ia 1 (.v (.string ⟨#[]⟩)) (.t 7) (.t 9)), p_s 12 (.ld none (.t 11)), p_m 5 12])
 (.reg [p_m 13 3, p_m 14 5, p_s 15 (.build [(.r (.v (.string ⟨#[]⟩))), (.r (.v (.bool false)))] [(0, 1, (.t 14))]), p_a 16 (.bsl 2 (.agg [(.v (.string ⟨#[]⟩)), (.v (.bool false))]) [(.t 15)]),
 p_a 17 (.app 2 (.agg [(.v (.string ⟨#[]⟩)), (.v (.bool false))]) 24 (.t 13) (.t 16)), p_m 3 17])))
 (.reg [p_s 18 (.bin .add (.t 9) (o_i 1)), p_m 9 18])))))))
 (.seq (.reg [p_m 19 3, p_m 2 19])
 .ret))))
theorem ask_n_triple : Fun P0 80 1 [(2, false, none)] ask_n_pc := fun_mk Go.Proofs.Tryz.func80 rfl (by decide) (by kernel_rfl) (by decide) rfl (by kernel_rfl) (by kernel_rfl) (by decide)
noncomputable def ask_w_pc : PC :=
  (.seq (.reg [p_s 2 (.mov (.c (.nils 2 (.agg [(.v (.string ⟨#[]⟩)), (.v (.bool false))]))))])
 (.seq (.reg [p_m 6 0, p_c 7 1 80 [.t 6], p_m 3 7])
 (.seq (.seq (.reg [p_m 8 3, p_s 9 (.len false (.t 8)), p_s 10 (.mov (o_i 0))])
 (.block 0 (.loop (.seq (.reg [p_s 11 (.bin .lss (.t 10) (.t 9))])
 (.seq (.cond (.t 11)
 .skip
 (.exit 0))
 (.seq (.block 1 (.seq (.reg [p_m 12 10, p_s 13 (.ia 2 (.agg [(.v (.string ⟨#[]⟩)), (.v (.bool false))]) (.t 8) (.t 10)), p_s 14 (.ld (some 2) (.t 13)), p_a 5 (.new [(.r (.v (.string ⟨#[]⟩))), (.r (.v (.bool false)))]),
 p_m 4 12, ⟨none, none, 0, .act (.st 2 (.t 5) (.t 14))⟩])
 (.reg [p_m 15 3, p_m 16 4, p_s 17 (.fa 0 (.t 5)), p_s 18 (.ld none (.t 17)), p_s 19 (.bin .eql (.t 18) (.c (.r (.v (.string ⟨#[119]⟩))))), p_m 20 19, p_g 21 20 false (.mov (.t 3)),
 p_g 22 20 false (.len false (.t 21)), p_g 23 20 false (.bin .eql (.t 22) (o_i 2)), p_g 24 20 false (.mov (.t 23)), p_g 25 24 true (.fa 0 (.t 5)), p_g 26 24 true (.ld none (.t 25)),
 p_g 27 24 true (.bin .eql (.t 26) (.c (.r (.v (.string ⟨#[118]⟩))))), p_g 28 20 false (.pick (.t 24) (.t 27) (.c (.r (.v (.bool false))))), p_s 29 (.pick (.t 20) (.c (.r (.v (.bool true)))) (.t 28)),
 p_s 30 (.ia 2 (.agg [(.v (.string ⟨#[]⟩)), (.v (.bool false))]) (.t 15) (.t 16)), p_s 31 (.fa 1 (.t 30)), ⟨none, none, 0, .act (.st 1 (.t 31) (.t 29))⟩])))
 (.reg [p_s 32 (.bin .add (.t 10) (o_i 1)), p_m 10 32])))))))
 (.seq (.reg [p_m 33 3, p_m 2 33])
 .ret))))
theorem ask_w_triple : Fun P0 81 1 [(2, false, none)] ask_w_pc := fun_mk Go.Proofs.Tryz.func81 rfl (by decide) (by kernel_rfl) (by decide) rfl (by kernel_rfl) (by kernel_rfl) (by decide)
noncomputable def ask_forms_pc : PC :=
  (.seq (.reg [p_s 0 (.mov (.c (.nils 3 (.agg [(.v (.int .i64 0)), (.v (.string ⟨#[]⟩)), (.sl 2 [])]))))])
 (.seq (.reg [p_c 1 1 80 [(.c (.r (.v (.string ⟨#[120, 32, 121, 32, 114]⟩))))], p_s 2 (.build [(.r (.v (.int .i64 0))), (.r (.v (.string ⟨#[]⟩))), (.nils 2 (.agg [(.v (.string ⟨#[]⟩)), (.v (.bool false))]))] [(0, 1, (o_i 1)), (1, 1, (.c (.r (.v (.string ⟨#[99, 101, 108, 108]⟩))))), (2, 1, (.t 1))]),
 p_c 3 2 81 [(.c (.r (.v (.string ⟨#[119]⟩))))], p_s 4 (.build [(.r (.v (.int .i64 0))), (.r (.v (.string ⟨#[]⟩))), (.nils 2 (.agg [(.v (.string ⟨#[]⟩)), (.v (.bool false))]))] [(0, 1, (o_i 2)), (1, 1, (.c (.r (.v (.string ⟨#[112, 97, 114, 101, 110, 116]⟩))))), (2, 1, (.t 3))]),
 p_c 5 3 81 [(.c (.r (.v (.string ⟨#[119]⟩))))], p_s 6 (.build [(.r (.v (.int .i64 0))), (.r (.v (.string ⟨#[]⟩))), (.nils 2 (.agg [(.v (.string ⟨#[]⟩)), (.v (.bool false))]))] [(0, 1, (o_i 3)), (1, 1, (.c (.r (.v (.string ⟨#[107, 105, 100, 115]⟩))))), (2, 1, (.t 5))]),
 p_c 7 4 81 [(.c (.r (.v (.string ⟨#[119]⟩))))], p_s 8 (.build [(.r (.v (.int .i64 0))), (.r (.v (.string ⟨#[]⟩))), (.nils 2 (.agg [(.v (.string ⟨#[]⟩)), (.v (.bool false))]))] [(0, 1, (o_i 4)), (1, 1, (.c (.r (.v (.string ⟨#[110, 101, 97, 114]⟩))))), (2, 1, (.t 7))]),
 p_c 9 5 81 [(.c (.r (.v (.string ⟨#[119, 32, 107]⟩))))], p_s 10 (.build [(.r (.v (.int .i64 0))), (.r (.v (.string ⟨#[]⟩))), (.nils 2 (.agg [(.v (.string ⟨#[]⟩)), (.v (.bool false))]))] [(0, 1, (o_i 5)), (1, 1, (.c (.r (.v (.string ⟨#[114, 105, 110, 103]⟩))))), (2, 1, (.t 9))]),
 p_c 11 6 81 [(.c (.r (.v (.string ⟨#[119, 32, 107]⟩))))], p_s 12 (.build [(.r (.v (.int .i64 0))), (.r (.v (.string ⟨#[]⟩))), (.nils 2 (.agg [(.v (.string ⟨#[]⟩)), (.v (.bool false))]))] [(0, 1, (o_i 6)), (1, 1, (.c (.r (.v (.string ⟨#[100, 105, 115, 107]⟩))))), (2, 1, (.t 11))]),
 p_c 13 7 81 [(.c (.r (.v (.string ⟨#[119, 32, 118]⟩))))], p_s 14 (.build [(.r (.v (.int .i64 0))), (.r (.v (.string ⟨#[]⟩))), (.nils 2 (.agg [(.v (.string ⟨#[]⟩)), (.v (.bool false))]))] [(0, 1, (o_i 7)), (1, 1, (.c (.r (.v (.string ⟨#[100, 105, 115, 116]⟩))))), (2, 1, (.t 13))]),
 p_c 15 8 80 [(.c (.r (.v (.string ⟨#[120, 32, 121, 32, 117, 32, 118, 32, 114]⟩))))], p_s 16 (.build [(.r (.v (.int .i64 0))), (.r (.v (.string ⟨#[]⟩))), (.nils 2 (.agg [(.v (.string ⟨#[]⟩)), (.v (.bool false))]))] [(0, 1, (o_i 8)), (1, 1, (.c (.r (.v (.string ⟨#[98, 111, 120]⟩))))), (2, 1, (.t 15))]),
 p_c 17 9 81 [(.c (.r (.v (.string ⟨#[119]⟩))))], p_s 18 (.build [(.r (.v (.int .i64 0))), (.r (.v (.string ⟨#[]⟩))), (.nils 2 (.agg [(.v (.string ⟨#[]⟩)), (.v (.bool false))]))] [(0, 1, (o_i 9)), (1, 1, (.c (.r (.v (.string ⟨#[115, 116, 97, 116]⟩))))), (2, 1, (.t 17))]),
 p_c 19 10 80 [(.c (.r (.v (.string ⟨#[114, 32, 107]⟩))))], p_s 20 (.build [(.r (.v (.int .i64 0))), (.r (.v (.string ⟨#[]⟩))), (.nils 2 (.agg [(.v (.string ⟨#[]⟩)), (.v (.bool false))]))] [(0, 1, (o_i 10)), (1, 1, (.c (.r (.v (.string ⟨#[116, 111, 112]⟩))))), (2, 1, (.t 19))]),
 p_c 21 11 80 [(.c (.r (.v (.string ⟨#[122, 32, 120, 32, 121, 32, 114]⟩))))], p_s 22 (.build [(.r (.v (.int .i64 0))), (.r (.v (.string ⟨#[]⟩))), (.nils 2 (.agg [(.v (.string ⟨#[]⟩)), (.v (.bool false))]))] [(0, 1, (o_i 11)), (1, 1, (.c (.r (.v (.string ⟨#[116, 105, 108, 101]⟩))))), (2, 1, (.t 21))]),
 p_s 23 (.build [(.r (.v (.int .i64 0))), (.r (.v (.string ⟨#[]⟩))), (.nils 2 (.agg [(.v (.string ⟨#[]⟩)), (.v (.bool false))]))] [(0, 1, (o_i 12)), (1, 1, (.c (.r (.v (.string ⟨#[115, 121, 110, 99]⟩))))), (2, 1, (.c (.nils 2 (.agg [(.v (.string ⟨#[]⟩)), (.v (.bool false))]))))]),
 p_s 24 (.build [(.r (.v (.int .i64 0))), (.r (.v (.string ⟨#[]⟩))), (.nils 2 (.agg [(.v (.string ⟨#[]⟩)), (.v (.bool false))]))] [(0, 1, (o_i 13)), (1, 1, (.c (.r (.v (.string ⟨#[109, 97, 114, 107]⟩))))), (2, 1, (.c (.nils 2 (.agg [(.v (.string ⟨#[]⟩)), (.v (.bool false))]))))]),
 p_s 25 (.build [(.r (.v (.int .i64 0))), (.r (.v (.string ⟨#[]⟩))), (.nils 2 (.agg [(.v (.string ⟨#[]⟩)), (.v (.bool false))]))] [(0, 1, (o_i 14)), (1, 1, (.c (.r (.v (.string ⟨#[105, 110, 102, 111]⟩))))), (2, 1, (.c (.nils 2 (.agg [(.v (.string ⟨#[]⟩)), (.v (.bool false))]))))]),
 p_c 26 12 80 [(.c (.r (.v (.string ⟨#[114]⟩))))], p_s 27 (.build [(.r (.v (.int .i64 0))), (.r (.v (.string ⟨#[]⟩))), (.nils 2 (.agg [(.v (.string ⟨#[]⟩)), (.v (.bool false))]))] [(0, 1, (o_i 15)), (1, 1, (.c (.r (.v (.string ⟨#[102, 105, 108, 108]⟩))))), (2, 1, (.t 26))]),
 p_s 28 (.build [(.r (.v (.int .i64 0))), (.r (.v (.string ⟨#[]⟩))), (.nils 2 (.agg [(.v (.string ⟨#[]⟩)), (.v (.bool false))]))] [(0, 1, (o_i 16)), (1, 1, (.c (.r (.v (.string ⟨#[108, 111, 97, 100]⟩))))), (2, 1, (.c (.nils 2 (.agg [(.v (.string ⟨#[]⟩)), (.v (.bool false))]))))]),
 p_a 29 (.bsl 3 (.agg [(.v (.int .i64 0)), (.v (.string ⟨#[]⟩)), (.sl 2 [])]) [(.t 2), (.t 4), (.t 6), (.t 8), (.t 10), (.t 12), (.t 14), (.t 16), (.t 18), (.t 20), (.t 22), (.t 23), (.t 24), (.t 25), (.t 27), (.t 28)]),
 p_m 0 29])
 .ret))
theorem ask_forms_triple : Fun P0 47 0 [(0, false, none)] ask_forms_pc := fun_mk Go.Proofs.Tryz.func47 rfl (by decide) (by kernel_rfl) (by decide) rfl (by kernel_rfl) (by kernel_rfl) (by decide)
noncomputable def ask_form_pc : PC :=
  (.seq (.reg [p_s 4 (.mov (o_i 0))])
 (.seq (.seq (.reg [p_m 6 0, p_s 7 (.len false (.t 6)), p_s 8 (.mov (o_i 0))])
 (.block 0 (.loop (.seq (.reg [p_s 9 (.bin .lss (.t 8) (.t 7))])
 (.seq (.cond (.t 9)
 .skip
 (.exit 0))
 (.seq (.block 1 (.seq (.reg [p_m 10 8, p_m 5 10])
 (.seq (.reg [p_m 11 1, p_m 12 0, p_m 13 5, p_s 14 (.ia 3 (.agg [(.v (.int .i64 0)), (.v (.string ⟨#[]⟩)), (.sl 2 [])]) (.t 12) (.t 13)), p_s 15 (.ld (some 3) (.t 14)), ⟨(some 16), none, 1, .callv (.t 11) [(.t 15)]⟩])
 (.cond (.t 16)
 (.seq (.reg [p_m 17 5, p_m 4 17])
 .ret)
 .skip))))
 (.reg [p_s 18 (.bin .add (.t 8) (o_i 1)), p_m 8 18])))))))
 (.seq (.reg [p_s 4 (.mov (o_i (-1)))])
 .ret)))
theorem ask_form_triple : Fun P0 48 2 [(4, false, none)] ask_form_pc := fun_mk Go.Proofs.Tryz.func48 rfl (by decide) (by kernel_rfl) (by decide) rfl (by kernel_rfl) (by kernel_rfl) (by decide)
noncomputable def ask_find_pc : PC :=
  (.seq (.reg [p_a 2 (.new [(.r (.v (.int .i64 0))), (.r (.v (.string ⟨#[]⟩))), (.nils 2 (.agg [(.v (.string ⟨#[]⟩)), (.v (.bool false))]))]), p_s 3 (.mov (.c (.r (.v (.bool false)))))])
 (.seq (.reg [p_c 6 1 47 [], p_m 4 6])
 (.seq (.reg [p_m 7 4, p_m 8 0, p_c 9 2 48 [.t 7, .t 8], p_m 5 9])
 (.seq (.seq (.reg [p_m 10 5, p_s 11 (.bin .lss (.t 10) (o_i 0))])
 (.cond (.t 11)
 (.seq (.reg [p_s 12 (.build [(.r (.v (.int .i64 0))), (.r (.v (.string ⟨#[]⟩))), (.nils 2 (.agg [(.v (.string ⟨#[]⟩)), (.v (.bool false))]))] []), ⟨none, none, 0, .act (.st 3 (.t 2) (.t 12))⟩,
 p_s 3 (.mov (.c (.r (.v (.bool false)))))])
 .ret)
 .skip))
 (.seq (.reg [p_m 13 4, p_m 14 5, p_s 15 (.ia 3 (.agg [(.v (.int .i64 0)), (.v (.string ⟨#[]⟩)), (.sl 2 [])]) (.t 13) (.t 14)), p_s 16 (.ld (some 3) (.t 15)), ⟨none, none, 0, .act (.st 3 (.t 2) (.t 16))⟩,
 p_s 3 (.mov (.c (.r (.v (.bool true)))))])
 .ret)))))
theorem ask_find_triple : Fun P0 21 1 [(2, false, some (55, (some 3))), (3, false, none)] ask_find_pc := fun_mk Go.Proofs.Tryz.func21 rfl (by decide) (by kernel_rfl) (by decide) rfl (by kernel_rfl) (by kernel_rfl) (by decide)
noncomputable def ask_Name_pc : PC :=
  (.seq (.reg [p_a 1 (.box (.t 0)), p_s 2 (.mov (.c (.r (.v (.string ⟨#[]⟩)))))])
 (.seq (.reg [p_s 6 (.mkf (.func 22) [(.t 1)]), p_c 7 1 21 [.t 6], p_m 5 7, p_s 8 (.ext (.t 5) 0), p_s 9 (.ext (.t 5) 1), p_a 3 (.new [(.r (.v (.int .i64 0))), (.r (.v (.string ⟨#[]⟩))), (.nils 2 (.agg [(.v (.string ⟨#[]⟩)), (.v (.bool false))]))]),
 ⟨none, none, 0, .act (.st 3 (.t 3) (.t 8))⟩, p_m 4 9])
 (.seq (.reg [p_s 10 (.fa 1 (.t 3)), p_s 11 (.ld none (.t 10)), p_m 2 11])
 .ret)))
theorem ask_Name_triple : Fun P0 10 1 [(2, false, none)] ask_Name_pc := fun_mk Go.Proofs.Tryz.func10 rfl (by decide) (by kernel_rfl) (by decide) rfl (by kernel_rfl) (by kernel_rfl) (by decide)
noncomputable def ask_Name_1_pc : PC :=
  (.seq (.reg [p_a 2 (.box (.t 0)), p_s 3 (.mov (.c (.r (.v (.bool false)))))])
 (.seq (.reg [p_s 4 (.fa 0 (.t 2)), p_s 5 (.ld none (.t 4)), p_s 6 (.ld none (.t 1)), p_s 7 (.bin .eql (.t 5) (.t 6)), p_m 3 7])
 .ret))
theorem ask_Name_1_triple : Fun P0 22 2 [(3, false, none)] ask_Name_1_pc := fun_mk Go.Proofs.Tryz.func22 rfl (by decide) (by kernel_rfl) (by decide) rfl (by kernel_rfl) (by kernel_rfl) (by decide)
def fldK (p : Bs) (b : Bool) : RV := .agg [strR p, .v (.bool b)]
def fldZ : RV := .agg [.v (.string ⟨#[]⟩), .v (.bool false)]
theorem askn_t (s : Bs) (hl : s.length ≤ 1000) : Triple P0 80 [sV s] [] (.own 1000000 0 0 (pieces 32 s).length) [.row 2 fldZ true true ((pieces 32 s).map fun p => fldK p false)] := by
 have hsp := asplit_t s 32 (by omega)
 have hpl : (pieces 32 s).length ≤ 1001 := by
  rw [pieces_len]
  have : s.count 32 ≤ s.length := zat
  omega
 refine ask_n_triple rfl (by decide) ?_
 simp only [ask_n_pc, push_cast, ↓reduceIte, reduceCtorEq, zB, zE, zA, zS, zL, zD, zM]
 refine call_as (as' := [sV s, sV [32]]) rfl ?_
 refine call_mk hsp rfl trivial ?_
 obtain ⟨ps, hps⟩ : ∃ ps, pieces 32 s = ps := ⟨_, rfl⟩
 rw [hps] at hpl ⊢
 simp only [push_cast, ↓reduceIte, reduceCtorEq, zB, zE, zA, zS, zL, zD, zM]
 refine run_loop [(7, false), (8, false), (9, false), (3, true)] (fun vs pos los => ∃ i : Nat, i ≤ ps.length ∧ vs = [.own 2000000 0 0 ps.length, int .i64 ps.length, int .i64 i, .own 2000001 0 0 i] ∧ pos = [] ∧ los = [rowS ps, .row 2 fldZ true true ((ps.take i).map fun p => fldK p false)])
  (fun vs _ _ => match vs with | [_, _, .r (.v (.int _ j)), _] => (ps.length - j).toNat | _ => 0) rfl ?_ ?_
 ·simp only [push_cast, ↓reduceIte, reduceCtorEq, zB, zE, zA, zS, zL, zD, zM]
  exact ⟨0, by omega, rfl, rfl⟩
 ·rintro vs pos los ⟨i, i0, rfl, rfl, rfl⟩
  simp only [zaw, push_cast, ↓reduceIte, reduceCtorEq, zB, zE, zA, zS, zL, zD, zM]
  refine cnd_mk (fun hi => ?_) (fun hi => ?_)
  ·have hi : i < ps.length := by simpa using hi
   have w1 : IntKind.i64.wrap ((i : Int) + 1) = (i : Int) + 1 := wrap_id (by omega)
   have hg : ∀ z, (strs ps).getD i z = .v (.string (bstr ps[i])) := fun z => by
    rw [zaf]
    simp [hi, strR]
   have hmin : min i ps.length = i := by omega
   simp only [hg, w1, hmin, zaw, zaa, zab, zac, push_cast, ↓reduceIte, reduceCtorEq, zB, zE, zA, zS, zL, zD, zM]
   refine ⟨by omega, by simp, by have := maxLen_big; omega, ⟨i + 1, by omega, rfl, ?_⟩, by omega⟩
   rw [List.take_of_length_le (by simp; omega), List.take_succ_eq_append_getElem hi, zaq]
   rfl
  ·have hi : i = ps.length := zak i0 (by simpa using hi)
   subst hi
   simp only [zas, push_cast, ↓reduceIte, reduceCtorEq, zB, zE, zA, zS, zL, zD, zM]
def isWk (m : Nat) (p : Bs) : Bool := p == [119] || (m == 2 && p == [118])
theorem askw_t (s : Bs) (hl : s.length ≤ 1000) : Triple P0 81 [sV s] [] (.own 1000000 0 0 (pieces 32 s).length) [.row 2 fldZ true true ((pieces 32 s).map fun p => fldK p (isWk (pieces 32 s).length p))] := by
 have hsp := askn_t s hl
 have hpl : (pieces 32 s).length ≤ 1001 := by
  rw [pieces_len]
  have : s.count 32 ≤ s.length := zat
  omega
 refine ask_w_triple rfl (by decide) ?_
 simp only [ask_w_pc, push_cast, ↓reduceIte, reduceCtorEq, zB, zE, zA, zS, zL, zD, zM]
 refine call_mk hsp rfl trivial ?_
 obtain ⟨ps, hps⟩ : ∃ ps, pieces 32 s = ps := ⟨_, rfl⟩
 rw [hps] at hpl ⊢
 simp only [push_cast, ↓reduceIte, reduceCtorEq, zB, zE, zA, zS, zL, zD, zM]
 refine run_loop [(8, false), (9, false), (10, false), (3, false)] (fun vs pos los => ∃ i : Nat, i ≤ ps.length ∧ vs = [.own 2000000 0 0 ps.length, int .i64 ps.length, int .i64 i, .own 2000000 0 0 ps.length] ∧ pos = [] ∧ los = [.row 2 fldZ true true ((ps.take i).map (fun p => fldK p (isWk ps.length p)) ++ (ps.drop i).map fun p => fldK p false)])
  (fun vs _ _ => match vs with | [_, _, .r (.v (.int _ j)), _] => (ps.length - j).toNat | _ => 0) rfl ?_ ?_
 ·simp only [push_cast, ↓reduceIte, reduceCtorEq, zB, zE, zA, zS, zL, zD, zM]
  exact ⟨0, by omega, rfl, rfl⟩
 ·rintro vs pos los ⟨i, i0, rfl, rfl, rfl⟩
  obtain ⟨X, hX⟩ : ∃ X, (ps.take i).map (fun p => fldK p (isWk ps.length p)) ++ (ps.drop i).map (fun p => fldK p false) = X := ⟨_, rfl⟩
  have hXl : X.length = ps.length := by rw [← hX]; simp; omega
  rw [hX]
  simp only [hXl, zaw, push_cast, ↓reduceIte, reduceCtorEq, zB, zE, zA, zS, zL, zD, zM]
  refine cnd_mk (fun hi => ?_) (fun hi => ?_)
  ·have hi : i < ps.length := by simpa using hi
   have w1 : IntKind.i64.wrap ((i : Int) + 1) = (i : Int) + 1 := wrap_id (by omega)
   have hg : ∀ z, X.getD i z = .agg [.v (.string (bstr ps[i])), .v (.bool false)] := fun z => by
    rw [← hX, zaf, zau (by simp; omega)]
    simp [hi, strR, fldK, show min i ps.length = i by omega]
   have hs : ∀ b, b = isWk ps.length ps[i] → X.set i (.agg [.v (.string (bstr ps[i])), .v (.bool b)]) = (ps.take (i + 1)).map (fun p => fldK p (isWk ps.length p)) ++ (ps.drop (i + 1)).map fun p => fldK p false := fun b hb => by
    rw [← hX, zba _ _ (by simp; omega), zag hi, List.map_cons, show i - ((ps.take i).map fun p => fldK p (isWk ps.length p)).length = 0 by simp; omega, List.set_cons_zero, List.take_succ_eq_append_getElem hi, zaq, List.append_assoc]
    rw [hb]
    rfl
   simp only [hg, hXl, w1, zaw, zaa, zab, zac, push_cast, ↓reduceIte, reduceCtorEq, zB, zE, zA, zS, zL, zD, zM]
   refine ⟨by omega, by simp +contextual, by simp +contextual, by omega, ⟨i + 1, by omega, rfl, ?_⟩, by omega⟩
   have h19 : ∀ p : Bs, ((bstr p).toList == ({ data := #[119] } : ByteArray).toList) = (p == [119]) := fun p => by rw [bstr_list, ByteArray.toList_eq]
   have h18 : ∀ p : Bs, ((bstr p).toList == ({ data := #[118] } : ByteArray).toList) = (p == [118]) := fun p => by rw [bstr_list, ByteArray.toList_eq]
   have h2 : (((ps.length : Nat) : Int) == 2) = (ps.length == 2) := by
    rw [zai]
    simp
    omega
   rw [h19, h18, h2, hs]
   unfold isWk
   cases ps[i] == [119] <;> cases ps.length == 2 <;> rfl
  ·have hi : i = ps.length := zak i0 (by simpa using hi)
   subst hi
   simp only [hXl, push_cast, ↓reduceIte, reduceCtorEq, zB, zE, zA, zS, zL, zD, zM]
   rw [← hX]
   simp
def fldR (f : UInt8 × Bool) : RV := .agg [.v (.string (bstr [f.1])), .v (.bool f.2)]
def formR (f : Form) : RV := .agg [.v (.int .i64 f.1), .v (.string (bstr f.2.1)), .sl 2 (f.2.2.map fldR)]
def formZ : RV := .agg [.v (.int .i64 0), .v (.string ⟨#[]⟩), .sl 2 []]
theorem forms_t : Triple P0 47 [] [] (.own 1000000 0 0 16) [.row 3 formZ true true (formsL.map formR)] := by
 have N : ∀ (s : Bs) (fs : List (UInt8 × Bool)), s.length ≤ 1000 → ((pieces 32 s).map fun p => fldK p false) = fs.map fldR → (pieces 32 s).length = fs.length → Triple P0 80 [sV s] [] (.own 1000000 0 0 fs.length) [.row 2 fldZ true true (fs.map fldR)] := fun s fs h1 h2 h3 => by
  rw [← h2, ← h3]; exact askn_t s h1
 have W : ∀ (s : Bs) (fs : List (UInt8 × Bool)), s.length ≤ 1000 → ((pieces 32 s).map fun p => fldK p (isWk (pieces 32 s).length p)) = fs.map fldR → (pieces 32 s).length = fs.length → Triple P0 81 [sV s] [] (.own 1000000 0 0 fs.length) [.row 2 fldZ true true (fs.map fldR)] := fun s fs h1 h2 h3 => by
  rw [← h2, ← h3]; exact askw_t s h1
 refine ask_forms_triple rfl (by decide) ?_
 simp only [ask_forms_pc, push_cast, ↓reduceIte, reduceCtorEq, zB, zE, zA, zS, zL, zD, zM]
 refine call_as (as' := [sV [120, 32, 121, 32, 114]]) rfl ?_
 refine call_mk (N [120, 32, 121, 32, 114] (nF [120, 121, 114]) (by decide) rfl rfl) rfl trivial ?_
 simp only [nF, push_cast, ↓reduceIte, reduceCtorEq, zB, zE, zA, zS, zL, zD, zM]
 refine call_as (as' := [sV [119]]) rfl ?_
 refine call_mk (W [119] [(119, true)] (by decide) rfl rfl) rfl trivial ?_
 simp only [nF, push_cast, ↓reduceIte, reduceCtorEq, zB, zE, zA, zS, zL, zD, zM]
 refine call_as (as' := [sV [119]]) rfl ?_
 refine call_mk (W [119] [(119, true)] (by decide) rfl rfl) rfl trivial ?_
 simp only [nF, push_cast, ↓reduceIte, reduceCtorEq, zB, zE, zA, zS, zL, zD, zM]
 refine call_as (as' := [sV [119]]) rfl ?_
 refine call_mk (W [119] [(119, true)] (by decide) rfl rfl) rfl trivial ?_
 simp only [nF, push_cast, ↓reduceIte, reduceCtorEq, zB, zE, zA, zS, zL, zD, zM]
 refine call_as (as' := [sV [119, 32, 107]]) rfl ?_
 refine call_mk (W [119, 32, 107] [(119, true), (107, false)] (by decide) rfl rfl) rfl trivial ?_
 simp only [nF, push_cast, ↓reduceIte, reduceCtorEq, zB, zE, zA, zS, zL, zD, zM]
 refine call_as (as' := [sV [119, 32, 107]]) rfl ?_
 refine call_mk (W [119, 32, 107] [(119, true), (107, false)] (by decide) rfl rfl) rfl trivial ?_
 simp only [nF, push_cast, ↓reduceIte, reduceCtorEq, zB, zE, zA, zS, zL, zD, zM]
 refine call_as (as' := [sV [119, 32, 118]]) rfl ?_
 refine call_mk (W [119, 32, 118] [(119, true), (118, true)] (by decide) rfl rfl) rfl trivial ?_
 simp only [nF, push_cast, ↓reduceIte, reduceCtorEq, zB, zE, zA, zS, zL, zD, zM]
 refine call_as (as' := [sV [120, 32, 121, 32, 117, 32, 118, 32, 114]]) rfl ?_
 refine call_mk (N [120, 32, 121, 32, 117, 32, 118, 32, 114] (nF [120, 121, 117, 118, 114]) (by decide) rfl rfl) rfl trivial ?_
 simp only [nF, push_cast, ↓reduceIte, reduceCtorEq, zB, zE, zA, zS, zL, zD, zM]
 refine call_as (as' := [sV [119]]) rfl ?_
 refine call_mk (W [119] [(119, true)] (by decide) rfl rfl) rfl trivial ?_
 simp only [nF, push_cast, ↓reduceIte, reduceCtorEq, zB, zE, zA, zS, zL, zD, zM]
 refine call_as (as' := [sV [114, 32, 107]]) rfl ?_
 refine call_mk (N [114, 32, 107] (nF [114, 107]) (by decide) rfl rfl) rfl trivial ?_
 simp only [nF, push_cast, ↓reduceIte, reduceCtorEq, zB, zE, zA, zS, zL, zD, zM]
 refine call_as (as' := [sV [122, 32, 120, 32, 121, 32, 114]]) rfl ?_
 refine call_mk (N [122, 32, 120, 32, 121, 32, 114] (nF [122, 120, 121, 114]) (by decide) rfl rfl) rfl trivial ?_
 simp only [nF, push_cast, ↓reduceIte, reduceCtorEq, zB, zE, zA, zS, zL, zD, zM]
 refine call_as (as' := [sV [114]]) rfl ?_
 refine call_mk (N [114] (nF [114]) (by decide) rfl rfl) rfl trivial ?_
 simp only [nF, push_cast, ↓reduceIte, reduceCtorEq, zB, zE, zA, zS, zL, zD, zM]
 exact ⟨by decide, rfl⟩
def findV : Option Form → AV
 | some f => .tup [.r (formR f), bl true]
 | none => .tup [.agg [int .i64 0, sV [], .nils 2 fldZ], bl false]
theorem ixf1_t (F : FuncId) (A : List AV) (hA : hidL A = []) (hfn : isFn P0 F = true) (q : Form → Bool) (fs : List Form) (hl : fs.length ≤ 1000) (k : Nat) (hk : k ≤ fs.length) (h0 : ∀ i (h : i < fs.length), i < k → q fs[i] = false) (h1 : ∀ h : k < fs.length, q fs[k] = true)
  (hF : ∀ f ∈ fs, Triple P0 F [.r (formR f), .ptr 1000000 0 0] [.box A] (bl (q f)) [.box A]) :
  Triple P0 48 [.r (.sl 3 (fs.map formR)), .fn (.func F) [.ptr 1000000 0 0] 0] [.box A] (int .i64 (if k < fs.length then (k : Int) else -1)) [.box A] := by
 refine ask_form_triple rfl (by simp) ?_
 simp only [ask_form_pc, push_cast, ↓reduceIte, reduceCtorEq, zB, zE, zA, zS, zL, zD, zM]
 have iA : ∀ F, imL F A = A := fun F => imL_free F A hA
 refine run_loop [(0, false), (1, false), (7, false), (8, false)] (fun vs pos los => ∃ i : Nat, i ≤ k ∧
  vs = [.r (.sl 3 (fs.map formR)), .fn (.func F) [.ptr 1000000 0 0] 0, int .i64 fs.length, int .i64 i] ∧ pos = [.box A] ∧ los = [])
  (fun vs _ _ => match vs with | [_, _, _, .r (.v (.int _ j))] => (k + 1 - j).toNat | _ => 0) rfl ?_ ?_
 ·simp only [hA, iA, hfn, push_cast, ↓reduceIte, reduceCtorEq, zB, zE, zA, zS, zL, zD, zM]
  exact ⟨0, by omega, rfl⟩
 ·rintro vs pos los ⟨i, i0, rfl, rfl, rfl⟩
  simp only [hA, iA, hfn, push_cast, ↓reduceIte, reduceCtorEq, zB, zE, zA, zS, zL, zD, zM]
  refine cnd_mk (fun hi => ?_) (fun hi => ?_)
  ·have hi : i < fs.length := by simpa using hi
   have hg : ∀ z, (fs.map formR).getD i z = formR fs[i] := fun z => by
    rw [zaf]
    simp [hi]
   have w1 : IntKind.i64.wrap ((i : Int) + 1) = (i : Int) + 1 := wrap_id (by omega)
   have hfr : formR fs[i] = .agg [.v (.int .i64 fs[i].1), .v (.string (bstr fs[i].2.1)), .sl 2 (fs[i].2.2.map fldR)] := rfl
   simp only [hA, iA, hfn, hg, hfr, w1, zaa, zab, zac, push_cast, ↓reduceIte, reduceCtorEq, zB, zE, zA, zS, zL, zD, zM]
   refine ⟨by omega, ?_⟩
   refine call_mk (hF fs[i] (zaj hi)) rfl ⟨rfl, trivial⟩ ?_
   simp only [hA, iA, hfn, hg, hfr, w1, zaa, zab, zac, push_cast, ↓reduceIte, reduceCtorEq, zB, zE, zA, zS, zL, zD, zM]
   refine cnd_mk (fun hq => ?_) (fun hq => ?_)
   ·have : i = k := by
     rcases Nat.lt_or_ge i k with h | h
     ·rw [h0 i hi h] at hq; cases hq
     ·omega
    subst this
    simp only [hA, iA, hfn, hg, hfr, w1, zaa, zab, zac, push_cast, ↓reduceIte, reduceCtorEq, zB, zE, zA, zS, zL, zD, zM]
    rw [if_pos hi]
   ·have : i < k := by
     rcases Nat.lt_or_ge i k with h | h
     ·exact h
     ·have : i = k := by omega
      subst this
      rw [h1 hi] at hq; cases hq
    simp only [hA, iA, hfn, hg, hfr, w1, zaa, zab, zac, push_cast, ↓reduceIte, reduceCtorEq, zB, zE, zA, zS, zL, zD, zM]
    exact ⟨⟨i + 1, by omega, rfl⟩, by omega⟩
  ·have hi : fs.length ≤ i := by simpa using hi
   simp only [hA, iA, hfn, zaa, zab, zac, push_cast, ↓reduceIte, reduceCtorEq, zB, zE, zA, zS, zL, zD, zM]
   rw [if_neg (by omega)]
theorem find1_t (F : FuncId) (A : List AV) (hA : hidL A = []) (hfn : isFn P0 F = true) (q : Form → Bool)
  (hF : ∀ f ∈ formsL, Triple P0 F [.r (formR f), .ptr 1000000 0 0] [.box A] (bl (q f)) [.box A]) :
  Triple P0 21 [.fn (.func F) [.ptr 1000000 0 0] 0] [.box A] (findV (formsL.find? q)) [.box A] := by
 have iA : ∀ F, imL F A = A := fun F => imL_free F A hA
 have h3 := ixf1_t F A hA hfn q formsL (by decide) (formsL.findIdx q) List.findIdx_le_length (fun i h hi => by simpa using List.not_of_lt_findIdx hi) (fun h => List.findIdx_getElem) hF
 rw [List.find?_eq_getElem?_findIdx]
 have hlen : formsL.length = 16 := rfl
 generalize formsL.findIdx q = k at h3 ⊢
 refine ask_find_triple rfl (by simp) ?_
 simp only [ask_find_pc, hA, iA, hfn, push_cast, ↓reduceIte, reduceCtorEq, zB, zE, zA, zS, zL, zD, zM]
 refine call_mk forms_t rfl trivial ?_
 simp only [hA, iA, hfn, push_cast, ↓reduceIte, reduceCtorEq, zB, zE, zA, zS, zL, zD, zM]
 refine callA_give ?_
 have htk : List.take 16 (formsL.map formR) = formsL.map formR := rfl
 simp only [htk, hA, iA, hfn, push_cast, ↓reduceIte, reduceCtorEq, zB, zE, zA, zS, zL, zD, zM]
 refine call_mk h3 rfl ⟨rfl, trivial⟩ ?_
 simp only [hA, iA, hfn, push_cast, ↓reduceIte, reduceCtorEq, zB, zE, zA, zS, zL, zD, zM]
 by_cases hk : k < formsL.length
 ·rw [if_pos hk]
  have g1 : decide ((k : Int) < 0) = false := by simp
  have hg : ∀ z, (formsL.map formR).getD k z = .agg [.v (.int .i64 formsL[k].1), .v (.string (bstr formsL[k].2.1)), .sl 2 (formsL[k].2.2.map fldR)] := fun z => by
   rw [zaf]
   simp [hk, formR]
  simp only [g1, hg, hA, iA, hfn, zaa, zab, zac, push_cast, ↓reduceIte, reduceCtorEq, zB, zE, zA, zS, zL, zD, zM]
  refine ⟨by omega, ?_⟩
  rw [List.getElem?_eq_getElem hk]
  rfl
 ·rw [if_neg hk]
  have g1 : decide ((-1 : Int) < 0) = true := rfl
  simp only [g1, hA, iA, hfn, push_cast, ↓reduceIte, reduceCtorEq, zB, zE, zA, zS, zL, zD, zM]
  rw [zbb (by omega)]
  rfl
theorem ixf2_t (F : FuncId) (A B : List AV) (hA : hidL A = []) (hB : hidL B = []) (hfn : isFn P0 F = true) (q : Form → Bool) (fs : List Form) (hl : fs.length ≤ 1000) (k : Nat) (hk : k ≤ fs.length) (h0 : ∀ i (h : i < fs.length), i < k → q fs[i] = false) (h1 : ∀ h : k < fs.length, q fs[k] = true)
  (hF : ∀ f ∈ fs, Triple P0 F [.r (formR f), .ptr 1000000 0 0, .ptr 1000001 0 0] [.box A, .box B] (bl (q f)) [.box A, .box B]) :
  Triple P0 48 [.r (.sl 3 (fs.map formR)), .fn (.func F) [.ptr 1000000 0 0, .ptr 1000001 0 0] 0] [.box A, .box B] (int .i64 (if k < fs.length then (k : Int) else -1)) [.box A, .box B] := by
 refine ask_form_triple rfl (by simp) ?_
 simp only [ask_form_pc, push_cast, ↓reduceIte, reduceCtorEq, zB, zE, zA, zS, zL, zD, zM]
 have iA : ∀ F, imL F A = A := fun F => imL_free F A hA
 have iB : ∀ F, imL F B = B := fun F => imL_free F B hB
 refine run_loop [(0, false), (1, false), (7, false), (8, false)] (fun vs pos los => ∃ i : Nat, i ≤ k ∧
  vs = [.r (.sl 3 (fs.map formR)), .fn (.func F) [.ptr 1000000 0 0, .ptr 1000001 0 0] 0, int .i64 fs.length, int .i64 i] ∧ pos = [.box A, .box B] ∧ los = [])
  (fun vs _ _ => match vs with | [_, _, _, .r (.v (.int _ j))] => (k + 1 - j).toNat | _ => 0) rfl ?_ ?_
 ·simp only [hA, iA, hB, iB, hfn, push_cast, ↓reduceIte, reduceCtorEq, zB, zE, zA, zS, zL, zD, zM]
  exact ⟨0, by omega, rfl⟩
 ·rintro vs pos los ⟨i, i0, rfl, rfl, rfl⟩
  simp only [hA, iA, hB, iB, hfn, push_cast, ↓reduceIte, reduceCtorEq, zB, zE, zA, zS, zL, zD, zM]
  refine cnd_mk (fun hi => ?_) (fun hi => ?_)
  ·have hi : i < fs.length := by simpa using hi
   have hg : ∀ z, (fs.map formR).getD i z = formR fs[i] := fun z => by
    rw [zaf]
    simp [hi]
   have w1 : IntKind.i64.wrap ((i : Int) + 1) = (i : Int) + 1 := wrap_id (by omega)
   have hfr : formR fs[i] = .agg [.v (.int .i64 fs[i].1), .v (.string (bstr fs[i].2.1)), .sl 2 (fs[i].2.2.map fldR)] := rfl
   simp only [hA, iA, hB, iB, hfn, hg, hfr, w1, zaa, zab, zac, push_cast, ↓reduceIte, reduceCtorEq, zB, zE, zA, zS, zL, zD, zM]
   refine ⟨by omega, ?_⟩
   refine call_mk (hF fs[i] (zaj hi)) rfl ⟨rfl, rfl, trivial⟩ ?_
   simp only [hA, iA, hB, iB, hfn, hg, hfr, w1, zaa, zab, zac, push_cast, ↓reduceIte, reduceCtorEq, zB, zE, zA, zS, zL, zD, zM]
   refine cnd_mk (fun hq => ?_) (fun hq => ?_)
   ·have : i = k := by
     rcases Nat.lt_or_ge i k with h | h
     ·rw [h0 i hi h] at hq; cases hq
     ·omega
    subst this
    simp only [hA, iA, hB, iB, hfn, hg, hfr, w1, zaa, zab, zac, push_cast, ↓reduceIte, reduceCtorEq, zB, zE, zA, zS, zL, zD, zM]
    rw [if_pos hi]
   ·have : i < k := by
     rcases Nat.lt_or_ge i k with h | h
     ·exact h
     ·have : i = k := by omega
      subst this
      rw [h1 hi] at hq; cases hq
    simp only [hA, iA, hB, iB, hfn, hg, hfr, w1, zaa, zab, zac, push_cast, ↓reduceIte, reduceCtorEq, zB, zE, zA, zS, zL, zD, zM]
    exact ⟨⟨i + 1, by omega, rfl⟩, by omega⟩
  ·have hi : fs.length ≤ i := by simpa using hi
   simp only [hA, iA, hB, iB, hfn, zaa, zab, zac, push_cast, ↓reduceIte, reduceCtorEq, zB, zE, zA, zS, zL, zD, zM]
   rw [if_neg (by omega)]
theorem find2_t (F : FuncId) (A B : List AV) (hA : hidL A = []) (hB : hidL B = []) (hfn : isFn P0 F = true) (q : Form → Bool)
  (hF : ∀ f ∈ formsL, Triple P0 F [.r (formR f), .ptr 1000000 0 0, .ptr 1000001 0 0] [.box A, .box B] (bl (q f)) [.box A, .box B]) :
  Triple P0 21 [.fn (.func F) [.ptr 1000000 0 0, .ptr 1000001 0 0] 0] [.box A, .box B] (findV (formsL.find? q)) [.box A, .box B] := by
 have iA : ∀ F, imL F A = A := fun F => imL_free F A hA
 have iB : ∀ F, imL F B = B := fun F => imL_free F B hB
 have h3 := ixf2_t F A B hA hB hfn q formsL (by decide) (formsL.findIdx q) List.findIdx_le_length (fun i h hi => by simpa using List.not_of_lt_findIdx hi) (fun h => List.findIdx_getElem) hF
 rw [List.find?_eq_getElem?_findIdx]
 have hlen : formsL.length = 16 := rfl
 generalize formsL.findIdx q = k at h3 ⊢
 refine ask_find_triple rfl (by simp) ?_
 simp only [ask_find_pc, hA, iA, hB, iB, hfn, push_cast, ↓reduceIte, reduceCtorEq, zB, zE, zA, zS, zL, zD, zM]
 refine call_mk forms_t rfl trivial ?_
 simp only [hA, iA, hB, iB, hfn, push_cast, ↓reduceIte, reduceCtorEq, zB, zE, zA, zS, zL, zD, zM]
 refine callA_give ?_
 have htk : List.take 16 (formsL.map formR) = formsL.map formR := rfl
 simp only [htk, hA, iA, hB, iB, hfn, push_cast, ↓reduceIte, reduceCtorEq, zB, zE, zA, zS, zL, zD, zM]
 refine call_mk h3 rfl ⟨rfl, rfl, trivial⟩ ?_
 simp only [hA, iA, hB, iB, hfn, push_cast, ↓reduceIte, reduceCtorEq, zB, zE, zA, zS, zL, zD, zM]
 by_cases hk : k < formsL.length
 ·rw [if_pos hk]
  have g1 : decide ((k : Int) < 0) = false := by simp
  have hg : ∀ z, (formsL.map formR).getD k z = .agg [.v (.int .i64 formsL[k].1), .v (.string (bstr formsL[k].2.1)), .sl 2 (formsL[k].2.2.map fldR)] := fun z => by
   rw [zaf]
   simp [hk, formR]
  simp only [g1, hg, hA, iA, hB, iB, hfn, zaa, zab, zac, push_cast, ↓reduceIte, reduceCtorEq, zB, zE, zA, zS, zL, zD, zM]
  refine ⟨by omega, ?_⟩
  rw [List.getElem?_eq_getElem hk]
  rfl
 ·rw [if_neg hk]
  have g1 : decide ((-1 : Int) < 0) = true := rfl
  simp only [g1, hA, iA, hB, iB, hfn, push_cast, ↓reduceIte, reduceCtorEq, zB, zE, zA, zS, zL, zD, zM]
  rw [zbb (by omega)]
  rfl
theorem name1_t (f : Form) (k : Int) : Triple P0 22 [.r (formR f), .ptr 1000000 0 0] [.box [int .i64 k]] (bl (f.1 == k)) [.box [int .i64 k]] := by
 refine ask_Name_1_triple rfl (by simp) ?_
 have hfr : formR f = .agg [.v (.int .i64 f.1), .v (.string (bstr f.2.1)), .sl 2 (f.2.2.map fldR)] := rfl
 simp only [ask_Name_1_pc, hfr, push_cast, ↓reduceIte, reduceCtorEq, zB, zE, zA, zS, zL, zD, zM]
def nameL (k : Int) : Bs := match formsL.find? (fun f => f.1 == k) with
 | some f => f.2.1
 | none => []
theorem askname_t (k : Int) : Triple P0 10 [int .i64 k] [] (sV (nameL k)) [] := by
 refine ask_Name_triple rfl (by decide) ?_
 have hfn : isFn P0 22 = true := rfl
 simp only [ask_Name_pc, hfn, push_cast, ↓reduceIte, reduceCtorEq, zB, zE, zA, zS, zL, zD, zM]
 refine call_mk (find1_t 22 [int .i64 k] rfl hfn (fun f => f.1 == k) fun f _ => name1_t f k) rfl ⟨rfl, trivial⟩ ?_
 unfold nameL
 generalize formsL.find? (fun f => f.1 == k) = o
 cases o with
 | some f =>
  have hfr : formR f = .agg [.v (.int .i64 f.1), .v (.string (bstr f.2.1)), .sl 2 (f.2.2.map fldR)] := rfl
  simp only [findV, hfr, hfn, push_cast, ↓reduceIte, reduceCtorEq, zB, zE, zA, zS, zL, zD, zM]
 | none =>
  simp only [findV, hfn, push_cast, ↓reduceIte, reduceCtorEq, zB, zE, zA, zS, zL, zD, zM]

noncomputable def ask_Parse_2_pc : PC :=
  (.seq (.reg [p_a 3 (.box (.t 0)), p_s 4 (.mov (.c (.r (.v (.bool false)))))])
 (.seq (.drw [p_s 5 (.fa 1 (.t 3)), p_s 6 (.ld none (.t 5)), p_s 7 (.ld none (.t 1)), p_s 8 (.ld none (.t 2)), p_s 9 (.sll 1 (.t 7) none (some (.t 8)) none), p_s 10 (.toStr (.t 9)),
 p_s 11 (.bin .eql (.t 6) (.t 10)), p_m 4 11]
 [[], [0], [], [], [2, 3], [2, 3, 4], [0, 1, 2, 3, 4, 5], [0, 1, 2, 3, 4, 5, 6]])
 .ret))
theorem ask_Parse_2_triple : Fun P0 26 3 [(4, false, none)] ask_Parse_2_pc := fun_mk Go.Proofs.Tryz.func26 rfl (by decide) (by kernel_rfl) (by decide) rfl (by kernel_rfl) (by kernel_rfl) (by decide)
noncomputable def ask_ring_pc : PC :=
  (.seq (.reg [p_s 2 (.mov (.c (.nils 2 (.agg [(.v (.int .i64 0)), (.v (.int .i64 0))])))), p_s 3 (.mov (.c (.r (.v (.bool false)))))])
 (.seq (.reg [p_m 11 0, p_c 12 1 86 [(.t 11), (.c (.r (.v (.string ⟨#[44]⟩))))], p_m 4 12])
 (.seq (.seq (.reg [p_m 13 4, p_s 14 (.len false (.t 13)), p_s 15 (.bin .gtr (.t 14) (o_i 200)), p_m 16 15, p_g 17 16 false (.mov (.t 4)), p_g 18 16 false (.len false (.t 17)), p_g 19 16 false (.bin .rem (.t 18) (o_i 2)),
 p_g 20 16 false (.bin .neq (.t 19) (o_i 0)), p_s 21 (.pick (.t 16) (.c (.r (.v (.bool true)))) (.t 20))])
 (.cond (.t 21)
 (.seq (.reg [p_s 2 (.mov (.c (.nils 2 (.agg [(.v (.int .i64 0)), (.v (.int .i64 0))])))), p_s 3 (.mov (.c (.r (.v (.bool false)))))])
 .ret)
 .skip))
 (.seq (.reg [p_s 5 (.mov (.c (.nils 2 (.agg [(.v (.int .i64 0)), (.v (.int .i64 0))]))))])
 (.seq (.seq (.reg [p_s 6 (.mov (o_i 0))])
 (.block 0 (.loop (.seq (.seq (.reg [p_m 22 6, p_m 23 4, p_s 24 (.len false (.t 23)), p_s 25 (.bin .lss (.t 22) (.t 24))])
 (.cond (.t 25)
 .skip
 (.exit 0)))
 (.seq (.block 1 (.seq (.reg [p_m 29 4, p_m 30 6, p_s 31 (.ia 1 (.v (.string ⟨#[]⟩)) (.t 29) (.t 30)), p_s 32 (.ld none (.t 31)), p_c 33 2 89 [.t 32], p_m 28 33, p_s 34 (.ext (.t 28) 0), p_s 35 (.ext (.t 28) 1),
 p_m 7 34, p_m 8 35])
 (.seq (.reg [p_m 37 4, p_m 38 6, p_s 39 (.bin .add (.t 38) (o_i 1)), p_s 40 (.ia 1 (.v (.string ⟨#[]⟩)) (.t 37) (.t 39)), p_s 41 (.ld none (.t 40)), p_c 42 3 89 [.t 41], p_m 36 42,
 p_s 43 (.ext (.t 36) 0), p_s 44 (.ext (.t 36) 1), p_m 9 43, p_m 10 44])
 (.seq (.seq (.reg [p_m 45 8, p_s 46 (.un .not (.t 45)), p_m 47 46, p_g 48 47 false (.mov (.t 10)), p_g 49 47 false (.un .not (.t 48)), p_s 50 (.pick (.t 47) (.c (.r (.v (.bool true)))) (.t 49))])
 (.cond (.t 50)
 (.seq (.reg [p_s 2 (.mov (.c (.nils 2 (.agg [(.v (.int .i64 0)), (.v (.int .i64 0))])))), p_s 3 (.mov (.c (.r (.v (.bool false)))))])
 .ret)
 .skip))
 (.reg [p_m 51 5, p_m 52 7, p_m 53 9, p_s 54 (.build [(.r (.v (.int .i64 0))), (.r (.v (.int .i64 0)))] [(0, 1, (.t 52)), (1, 1, (.t 53))]), p_a 55 (.bsl 2 (.agg [(.v (.int .i64 0)), (.v (.int .i64 0))]) [(.t 54)]),
 p_a 56 (.app 2 (.agg [(.v (.int .i64 0)), (.v (.int .i64 0))]) 16 (.t 51) (.t 55)), p_m 5 56])))))
 (.reg [p_m 26 6, p_s 27 (.bin .add (.t 26) (o_i 2)), p_m 6 27]))))))
 (.seq (.reg [p_m 57 5, p_m 2 57, p_s 3 (.mov (.c (.r (.v (.bool true)))))])
 .ret))))))
theorem ask_ring_triple : Fun P0 88 1 [(2, false, none), (3, false, none)] ask_ring_pc := fun_mk Go.Proofs.Tryz.func88 rfl (by decide) (by kernel_rfl) (by decide) rfl (by kernel_rfl) (by kernel_rfl) (by decide)
theorem parse2_t (f : Form) (l : Bs) (n : Nat) (hn : n ≤ l.length) : Triple P0 26 [.r (formR f), .ptr 1000000 0 0, .ptr 1000001 0 0] [.box [sb l], .box [int .i64 n]] (bl (f.2.1 == l.take n)) [.box [sb l], .box [int .i64 n]] := by
 refine ask_Parse_2_triple rfl (by simp) ?_
 have hfr : formR f = .agg [.v (.int .i64 f.1), .v (.string (bstr f.2.1)), .sl 2 (f.2.2.map fldR)] := rfl
 simp only [ask_Parse_2_pc, hfr, zaa, zab, zac, push_cast, ↓reduceIte, reduceCtorEq, zB, zE, zA, zS, zL, zD, zM]
 have e1 : List.drop (zad 0) (List.take n (bys l)) = bys (l.take n) := by
  rw [show zad 0 = 0 from rfl, zar, ← List.map_take]
 refine ⟨by omega, by rw [e1]; exact bys_isByte _, (by kernel_rfl), ?_⟩
 rw [e1, bstr_of_bys, bstr_list, bstr_list]
def ptR (p : Int × Int) : RV := .agg [.v (.int .i64 p.1), .v (.int .i64 p.2)]
def ptZ : RV := .agg [.v (.int .i64 0), .v (.int .i64 0)]
def ringA : Option (List (Int × Int)) → AV
 | none => .tup [.nils 2 ptZ, bl false]
 | some rg => .tup [.own 1000000 0 0 rg.length, bl true]
def ringO : Option (List (Int × Int)) → List Ob
 | none => []
 | some rg => [.row 2 ptZ true true (rg.map ptR)]
theorem pieces_le (c : UInt8) : ∀ (l p : Bs), p ∈ pieces c l → p.length ≤ l.length
 | [], p, h => by simp [pieces] at h; simp [h]
 | x :: r, p, h => by
  have ih := pieces_le c r
  rw [pieces] at h
  split at h
  ·rcases List.mem_cons.1 h with rfl | h
   ·simp
   ·have := ih p h; simp; omega
  ·split at h
   ·simp at h; simp [h]
   ·rename_i q qs hq
    rw [hq] at ih
    rcases List.mem_cons.1 h with rfl | h
    ·have := ih q (by simp); simp; omega
    ·have := ih p (by simp [h]); simp; omega
set_option maxHeartbeats 1000000 in
theorem aring_t (s : Bs) (hl : s.length ≤ 1000000) : Triple P0 88 [sV s] [] (ringA (ringP s)) (ringO (ringP s)) := by
 have hpl := pieces_le 44 s
 refine ask_ring_triple rfl (by decide) ?_
 simp only [ask_ring_pc, push_cast, ↓reduceIte, reduceCtorEq, zB, zE, zA, zS, zL, zD, zM]
 refine call_as (as' := [sV s, sV [44]]) rfl ?_
 refine call_mk (asplit_t s 44 (by omega)) rfl trivial ?_
 unfold ringP
 obtain ⟨ps, hps⟩ : ∃ ps, pieces 44 s = ps := ⟨_, rfl⟩
 simp only [hps] at hpl ⊢
 simp only [push_cast, ↓reduceIte, reduceCtorEq, zB, zE, zA, zS, zL, zD, zM]
 refine ⟨by simp, by simp +contextual, ?_⟩
 have ht : (ps.length : Int).tmod 2 = ((ps.length % 2 : Nat) : Int) := by
  rw [Int.tmod_eq_emod_of_nonneg (by omega)]
  omega
 rw [ht]
 refine cnd_mk (fun hb => ?_) (fun hb => ?_)
 ·simp only [push_cast, ↓reduceIte, reduceCtorEq, zB, zE, zA, zS, zL, zD, zM]
  have : 200 < ps.length ∨ ps.length % 2 ≠ 0 := by
   by_cases h : ((ps.length : Int) > 200)
   ·left; omega
   ·rw [decide_eq_false h] at hb
    simp only [cond_false, bne_iff_ne, ne_eq] at hb
    right; omega
  rw [if_pos this]
  exact ⟨rfl, rfl⟩
 ·have hc : ps.length ≤ 200 ∧ ps.length % 2 = 0 := by
   by_cases h : ((ps.length : Int) > 200)
   ·rw [decide_eq_true h] at hb
    cases hb
   ·rw [decide_eq_false h] at hb
    simp only [cond_false, bne_eq_false_iff_eq] at hb
    omega
  rw [if_neg (by omega)]
  simp only [push_cast, ↓reduceIte, reduceCtorEq, zB, zE, zA, zS, zL, zD, zM]
  refine run_loop [(4, false), (6, false), (5, true)] (fun vs pos los => ∃ (i : Nat) (acc : List (Int × Int)), 2 * acc.length = i ∧ i ≤ ps.length ∧ cornP (ps.drop i) acc = cornP ps [] ∧ vs = [.own 2000000 0 0 ps.length, int .i64 i, .own 2000001 0 0 acc.length] ∧ pos = [] ∧ los = [rowS ps, .row 2 ptZ true true (acc.map ptR)])
   (fun vs _ _ => match vs with | [_, .r (.v (.int _ j)), _] => (ps.length - j).toNat | _ => 0) rfl ?_ ?_
  ·simp only [push_cast, ↓reduceIte, reduceCtorEq, zB, zE, zA, zS, zL, zD, zM]
   exact ⟨0, [], by simp, by omega, rfl, rfl, rfl⟩
  ·rintro vs pos los ⟨i, acc, i1, i0, hacc, rfl, rfl, rfl⟩
   simp only [push_cast, ↓reduceIte, reduceCtorEq, zB, zE, zA, zS, zL, zD, zM]
   refine cnd_mk (fun hi => ?_) (fun hi => ?_)
   ·have hi : i < ps.length := by simpa using hi
    have hi1 : i + 1 < ps.length := by omega
    have hd : ps.drop i = ps[i] :: ps[i + 1] :: ps.drop (i + 2) := by
     rw [zag hi, zag hi1]
    have hg : ∀ z, (strs ps).getD i z = .v (.string (bstr ps[i])) := fun z => by
     rw [zaf]
     simp [hi, strR]
    have hg1 : ∀ z, (strs ps).getD (i + 1) z = .v (.string (bstr ps[i + 1])) := fun z => by
     rw [zaf]
     simp [hi1, strR]
    have w1 : IntKind.i64.wrap ((i : Int) + 1) = (i : Int) + 1 := wrap_id (by omega)
    have w2 : IntKind.i64.wrap ((i : Int) + 2) = (i : Int) + 2 := wrap_id (by omega)
    have l0 := hpl ps[i] (zaj hi)
    have l1 := hpl ps[i + 1] (zaj hi1)
    simp only [hg, zaa, zab, zac, push_cast, ↓reduceIte, reduceCtorEq, zB, zE, zA, zS, zL, zD, zM]
    refine ⟨by omega, ?_⟩
    refine call_mk (parse_t ps[i] (by omega)) rfl trivial ?_
    rw [hd, cornP] at hacc
    have two : ∀ (o : Option Int), ∃ (x : Int) (b : Bool), opt o = .tup [int .i64 x, bl b] := fun o => by cases o <;> exact ⟨_, _, rfl⟩
    cases h0 : pv ps[i] with
    | none =>
     rw [h0] at hacc
     simp only [opt, hg, hg1, w1, zaa, zab, zac, push_cast, ↓reduceIte, reduceCtorEq, zB, zE, zA, zS, zL, zD, zM]
     refine ⟨by omega, ?_⟩
     refine call_mk (parse_t ps[i + 1] (by omega)) rfl trivial ?_
     obtain ⟨x, b, hxb⟩ := two (pv ps[i + 1])
     rw [hxb]
     simp only [hg, hg1, w1, zaa, zab, zac, push_cast, ↓reduceIte, reduceCtorEq, zB, zE, zA, zS, zL, zD, zM]
     have hn : cornP ps [] = none := by
      rw [← hacc]
     rw [hn]
     exact ⟨rfl, rfl⟩
    | some x =>
     simp only [opt, hg, hg1, w1, zaa, zab, zac, push_cast, ↓reduceIte, reduceCtorEq, zB, zE, zA, zS, zL, zD, zM]
     refine ⟨by omega, ?_⟩
     refine call_mk (parse_t ps[i + 1] (by omega)) rfl trivial ?_
     cases h1 : pv ps[i + 1] with
     | none =>
      simp only [opt, hg, hg1, w1, zaa, zab, zac, push_cast, ↓reduceIte, reduceCtorEq, zB, zE, zA, zS, zL, zD, zM]
      have hn : cornP ps [] = none := by
       rw [← hacc, h0, h1]
      rw [hn]
      exact ⟨rfl, rfl⟩
     | some y =>
      rw [h0, h1] at hacc
      simp only [opt, hg, hg1, w1, w2, zaa, zab, zac, push_cast, ↓reduceIte, reduceCtorEq, zB, zE, zA, zS, zL, zD, zM]
      refine ⟨by simp, by have := maxLen_big; omega, ⟨i + 2, acc ++ [(x, y)], by simp; omega, by omega, hacc, by simp, by simp [ptR]⟩, by omega⟩
   ·have hi : i = ps.length := zak i0 (by simpa using hi)
    have hn : cornP ps [] = some acc := by
     rw [← hacc, hi, zao]
     rfl
    rw [hn]
    simp only [zaa, zab, zac, push_cast, ↓reduceIte, reduceCtorEq, zB, zE, zA, zS, zL, zD, zM]
    exact ⟨rfl, rfl⟩

noncomputable def ask_form_query_pc : PC :=
  (.seq (.reg [p_a 2 (.box (.t 0)), p_a 4 (.new [(.r (.v (.int .i64 0))), (.nils 1 (.v (.int .i64 0))), (.nils 1 (.v (.int .u64 0))), (.nils 2 (.agg [(.v (.int .i64 0)), (.v (.int .i64 0))])), (.nils 5 (.agg [(.v (.int .i64 0)), (.v (.int .i64 0)), (.v (.int .i64 0)), (.v (.int .i64 0)), (.v (.int .i64 0))]))]),
 p_s 5 (.mov (.c (.nils 1 (.v (.string ⟨#[]⟩))))), p_s 6 (.mov (.c (.r (.v (.bool false)))))])
 (.seq (.reg [p_s 15 (.fa 0 (.t 2)), p_s 16 (.ld none (.t 15)), p_s 17 (.fa 0 (.t 4)), ⟨none, none, 0, .act (.st 1 (.t 17) (.t 16))⟩])
 (.seq (.reg [p_m 18 1, p_c 19 1 86 [(.t 18), (.c (.r (.v (.string ⟨#[38]⟩))))], p_m 7 19])
 (.seq (.seq (.reg [p_s 20 (.fa 0 (.t 2)), p_s 21 (.ld none (.t 20)), p_s 22 (.bin .eql (.t 21) (o_i 15))])
 (.cond (.t 22)
 (.seq (.reg [p_s 24 (.build [(.r (.v (.string ⟨#[]⟩))), (.r (.v (.bool false)))] [(0, 1, (.c (.r (.v (.string ⟨#[112]⟩)))))]), p_m 25 7, p_m 26 7, p_s 27 (.len false (.t 26)),
 p_s 28 (.bin .sub (.t 27) (o_i 1)), p_s 29 (.ia 1 (.v (.string ⟨#[]⟩)) (.t 25) (.t 28)), p_s 30 (.ld none (.t 29)), p_c 31 2 87 [.t 24, .t 30], p_m 23 31, p_s 32 (.ext (.t 23) 0),
 p_s 33 (.ext (.t 23) 1), p_m 8 32, p_m 9 33])
 (.seq (.reg [p_m 34 7, p_m 35 7, p_s 36 (.len false (.t 35)), p_s 37 (.bin .sub (.t 36) (o_i 1)), p_s 38 (.sll 1 (.t 34) none (some (.t 37)) none), p_m 7 38])
 (.seq (.reg [p_m 40 8, p_c 41 3 88 [.t 40], p_m 39 41, p_s 42 (.ext (.t 39) 0), p_s 43 (.ext (.t 39) 1), p_s 44 (.fa 3 (.t 4)), ⟨none, none, 0, .act (.st 1 (.t 44) (.t 42))⟩,
 p_m 6 43])
 (.seq (.reg [p_m 45 9, p_s 46 (.un .not (.t 45)), p_m 47 46, p_g 48 47 false (.mov (.t 6)), p_g 49 47 false (.un .not (.t 48)), p_s 50 (.pick (.t 47) (.c (.r (.v (.bool true)))) (.t 49))])
 (.cond (.t 50)
 (.seq (.reg [p_s 51 (.ld (some 5) (.t 4)), ⟨none, none, 0, .act (.st 5 (.t 4) (.t 51))⟩, p_s 5 (.mov (.c (.nils 1 (.v (.string ⟨#[]⟩))))), p_s 6 (.mov (.c (.r (.v (.bool false)))))])
 .ret)
 .skip)))))
 .skip))
 (.seq (.seq (.reg [p_m 52 7, p_s 53 (.len false (.t 52)), p_s 54 (.fa 2 (.t 2)), p_s 55 (.ld none (.t 54)), p_s 56 (.len false (.t 55)), p_s 57 (.bin .neq (.t 53) (.t 56))])
 (.cond (.t 57)
 (.seq (.reg [p_s 58 (.ld (some 5) (.t 4)), ⟨none, none, 0, .act (.st 5 (.t 4) (.t 58))⟩, p_s 5 (.mov (.c (.nils 1 (.v (.string ⟨#[]⟩))))), p_s 6 (.mov (.c (.r (.v (.bool false)))))])
 .ret)
 .skip))
 (.seq (.seq (.reg [p_s 59 (.fa 2 (.t 2)), p_s 60 (.ld none (.t 59)), p_s 61 (.len false (.t 60)), p_s 62 (.mov (o_i 0))])
 (.block 0 (.loop (.seq (.reg [p_s 63 (.bin .lss (.t 62) (.t 61))])
 (.seq (.cond (.t 63)
 .skip
 (.exit 0))
 (.seq (.block 1 (.seq (.reg [p_m 64 62, p_s 65 (.ia 2 (.agg [(.v (.string ⟨#[]⟩)), (.v (.bool false))]) (.t 60) (.t 62)), p_s 66 (.ld (some 2) (.t 65)), p_a 11 (.new [(.r (.v (.string ⟨#[]⟩))), (.r (.v (.bool false)))]),
 p_m 10 64, ⟨none, none, 0, .act (.st 2 (.t 11) (.t 66))⟩])
 (.seq (.drw [p_s 68 (.ld (some 2) (.t 11)), p_m 69 7, p_m 70 10, p_s 71 (.ia 1 (.v (.string ⟨#[]⟩)) (.t 69) (.t 70)), p_s 72 (.ld none (.t 71)), p_c 73 4 87 [.t 68, .t 72], p_m 67 73,
 p_s 74 (.ext (.t 67) 0), p_s 75 (.ext (.t 67) 1), p_m 12 74, p_m 13 75]
 [[], [], [], [1, 2], [1, 2, 3], [0, 1, 2, 3, 4], [0, 1, 2, 3, 4, 5], [0, 1, 2, 3, 4, 5, 6], [0, 1, 2, 3, 4, 5, 6], [0, 1, 2, 3, 4, 5, 6, 7], [0, 1, 2, 3, 4, 5, 6, 7, 8, 9]])
 (.seq (.seq (.reg [p_m 76 13, p_s 77 (.un .not (.t 76))])
 (.cond (.t 77)
 (.seq (.reg [p_s 78 (.ld (some 5) (.t 4)), ⟨none, none, 0, .act (.st 5 (.t 4) (.t 78))⟩, p_s 5 (.mov (.c (.nils 1 (.v (.string ⟨#[]⟩))))), p_s 6 (.mov (.c (.r (.v (.bool false)))))])
 .ret)
 .skip))
 (.seq (.seq (.reg [p_s 79 (.fa 1 (.t 11)), p_s 80 (.ld none (.t 79))])
 (.cond (.t 80)
 (.seq (.reg [p_m 81 5, p_m 82 12, p_a 83 (.bsl 1 (.v (.string ⟨#[]⟩)) [(.t 82)]), p_a 84 (.app 1 (.v (.string ⟨#[]⟩)) 16 (.t 81) (.t 83)), p_m 5 84])
 (.exit 1))
 .skip))
 (.seq (.reg [p_m 86 12, p_c 87 5 89 [.t 86], p_m 85 87, p_s 88 (.ext (.t 85) 0), p_s 89 (.ext (.t 85) 1), p_m 14 88, p_m 13 89])
 (.seq (.seq (.reg [p_m 90 13, p_s 91 (.un .not (.t 90))])
 (.cond (.t 91)
 (.seq (.reg [p_s 92 (.ld (some 5) (.t 4)), ⟨none, none, 0, .act (.st 5 (.t 4) (.t 92))⟩, p_s 5 (.mov (.c (.nils 1 (.v (.string ⟨#[]⟩))))), p_s 6 (.mov (.c (.r (.v (.bool false)))))])
 .ret)
 .skip))
 (.reg [p_s 93 (.fa 1 (.t 4)), p_s 94 (.ld none (.t 93)), p_m 95 14, p_a 96 (.bsl 1 (.v (.int .i64 0)) [(.t 95)]), p_a 97 (.app 1 (.v (.int .i64 0)) 8 (.t 94) (.t 96)),
 p_s 98 (.fa 1 (.t 4)), ⟨none, none, 0, .act (.st 1 (.t 98) (.t 97))⟩]))))))))
 (.reg [p_s 99 (.bin .add (.t 62) (o_i 1)), p_m 62 99])))))))
 (.seq (.reg [p_s 100 (.ld (some 5) (.t 4)), p_m 101 5, ⟨none, none, 0, .act (.st 5 (.t 4) (.t 100))⟩, p_m 5 101, p_s 6 (.mov (.c (.r (.v (.bool true)))))])
 .ret)))))))
theorem ask_form_query_triple : Fun P0 52 2 [(4, false, some (29, (some 5))), (5, false, none), (6, false, none)] ask_form_query_pc := fun_mk Go.Proofs.Tryz.func52 rfl (by decide) (by kernel_rfl) (by decide) rfl (by kernel_rfl) (by kernel_rfl) (by decide)
def fldsR : List (UInt8 × Bool) → List Bs → List Int → List Bs → List Int × List Bs × Bool
 | [], _, ns, ws => (ns, ws, true)
 | (c, w) :: fs, ps, ns, ws => match valP c (ps.headD []) with
  | none => (ns, [], false)
  | some v => match w with
   | true => fldsR fs ps.tail ns (ws ++ [v])
   | false => match pv v with
    | none => (ns, [], false)
    | some n => fldsR fs ps.tail (ns ++ [n]) ws
def queryG (f : Form) (ps : List Bs) (rg : List (Int × Int)) : (List Int × List Bs × Bool) × List (Int × Int) :=
 if ps.length ≠ f.2.2.length then (([], [], false), rg) else (fldsR f.2.2 ps [] [], rg)
def queryR (f : Form) (s : Bs) : (List Int × List Bs × Bool) × List (Int × Int) :=
 if f.1 = 15 then match valP 112 ((pieces 38 s).getLastD []) with
  | none => (([], [], false), (ringP ((pieces 38 s).getLastD [])).getD [])
  | some p => match ringP p with
   | none => (([], [], false), [])
   | some rg => queryG f (pieces 38 s).dropLast rg
 else queryG f (pieces 38 s) []
def n8 (n : Int) : RV := .v (.int .i64 n)
def u8R (n : Nat) : RV := .v (.int .u64 n)
def nilOr (sz : Nat) (z : RV) : List RV → AV
 | [] => .nils sz z
 | x :: xs => .r (.sl sz (x :: xs))
def opZ : RV := .agg [n8 0, n8 0, n8 0, n8 0, n8 0]
def askA (k : Int) (ns : List Int) (ws : List Nat) (rg : List (Int × Int)) : AV :=
 .agg [int .i64 k, nilOr 1 (n8 0) (ns.map n8), nilOr 1 (u8R 0) (ws.map u8R), nilOr 2 ptZ (rg.map ptR), .nils 5 opZ]
def wrdsA (ws : List Bs) : Bool → AV
 | true => .own 1000000 0 0 ws.length
 | false => .nils 1 (.v (.string ⟨#[]⟩))
def wrdsO (ws : List Bs) : Bool → List Ob
 | true => [rowS ws]
 | false => []
theorem cornP_len : ∀ (l : List Bs) (out rg : List (Int × Int)), cornP l out = some rg → rg.length = out.length + l.length / 2
 | a :: b :: r, out, rg, h => by
  rw [cornP] at h
  split at h
  ·have := cornP_len r _ rg h
   simp at this ⊢
   omega
  ·cases h
 | [], out, rg, h => by
  cases h
  simp
 | [a], out, rg, h => by
  cases h
  simp
theorem ringP_ne {s : Bs} {rg : List (Int × Int)} (h : ringP s = some rg) : rg ≠ [] := by
 unfold ringP at h
 have h0 := pieces_ne 44 s
 simp only at h
 split at h
 ·cases h
 ·have := cornP_len _ _ _ h
  intro e
  rw [e] at this
  have h1 : (pieces 44 s).length ≠ 0 := fun e => h0 (List.length_eq_zero_iff.1 e)
  simp at this
  omega
def qlos (k : Int) (PS : List Bs) (ws : List Bs) : List Int → List (Int × Int) → List Ob
 | [], [] => [rowS PS, rowS ws, .box [int .i64 k, .nils 1 (n8 0), .nils 1 (u8R 0), .nils 2 ptZ, .nils 5 opZ]]
 | [], g :: gs => [rowS PS, rowS ws, .box [int .i64 k, .nils 1 (n8 0), .nils 1 (u8R 0), .own 2000003 0 0 (gs.length + 1), .nils 5 opZ], .row 2 ptZ true true ((g :: gs).map ptR)]
 | n :: nr, [] => [rowS PS, rowS ws, .box [int .i64 k, .own 2000003 0 0 (nr.length + 1), .nils 1 (u8R 0), .nils 2 ptZ, .nils 5 opZ], .row 1 (n8 0) true true ((n :: nr).map n8)]
 | n :: nr, g :: gs => [rowS PS, rowS ws, .box [int .i64 k, .own 2000003 0 0 (nr.length + 1), .nils 1 (u8R 0), .own 2000004 0 0 (gs.length + 1), .nils 5 opZ], .row 1 (n8 0) true true ((n :: nr).map n8), .row 2 ptZ true true ((g :: gs).map ptR)]
set_option maxHeartbeats 4000000 in
theorem aquery_t (f : Form) (s : Bs) (hl : s.length ≤ 1000000) (hfl : f.2.2.length ≤ 1000) : Triple P0 52 [.r (formR f), sV s] []
    (.tup [askA f.1 (queryR f s).1.1 [] (queryR f s).2, wrdsA (queryR f s).1.2.1 (queryR f s).1.2.2, bl (queryR f s).1.2.2]) (wrdsO (queryR f s).1.2.1 (queryR f s).1.2.2) := by
  obtain ⟨k, nm, fs⟩ := f
  obtain ⟨Q, hQ⟩ : ∃ Q, queryR (k, nm, fs) s = Q := ⟨_, rfl⟩
  rw [hQ]
  have hfr : formR (k, nm, fs) = .agg [.v (.int .i64 k), .v (.string (bstr nm)), .sl 2 (fs.map fldR)] := rfl
  refine ask_form_query_triple rfl (by decide) ?_
  have hpl := pieces_le 38 s
  have hpn := pieces_ne 38 s
  simp only [ask_form_query_pc, hfr, push_cast, ↓reduceIte, reduceCtorEq, zB, zE, zA, zS, zL, zD, zM]
  refine call_as (as' := [sV s, sV [38]]) rfl ?_
  refine call_mk (asplit_t s 38 (by omega)) rfl trivial ?_
  unfold queryR at hQ
  have hpc : (pieces 38 s).length ≤ 1000001 := by
    rw [pieces_len]
    have : s.count 38 ≤ s.length := zat
    omega
  obtain ⟨PS, hps⟩ : ∃ ps, pieces 38 s = ps := ⟨_, rfl⟩
  simp only [hps] at hpl hpn hpc hQ ⊢
  by_cases hk : k = 15
  · have g1 : (k == 15) = true := by simp [hk]
    rw [if_pos hk] at hQ
    obtain ⟨n, hn⟩ : ∃ n, PS.length = n + 1 := by
      cases PS with
      | nil => exact absurd rfl hpn
      | cons a l => exact ⟨l.length, rfl⟩
    have gL : ∀ z, (strs PS).getD n z = .v (.string (bstr (PS.getLastD []))) := fun z => by
      rw [zaf, List.getLastD_eq_getLast?, List.getLast?_eq_getElem?, hn]
      simp [show n < PS.length by omega, strR]
    obtain ⟨last, hla⟩ : ∃ x, PS.getLastD [] = x := ⟨_, rfl⟩
    rw [hla] at gL hQ
    have hll : last.length ≤ s.length := by
      refine hpl last ?_
      rw [← hla, List.getLastD_eq_getLast?, List.getLast?_eq_getElem?, hn]
      simp [show n < PS.length by omega]
    have w0 : IntKind.i64.wrap (((n : Int) + 1) - 1) = (n : Int) := by rw [wrap_id (by omega)]; omega
    have hn' : ((PS.length : Nat) : Int) = (n : Int) + 1 := by omega
    simp only [g1, hn, gL, w0, zaa, zab, zac, push_cast, ↓reduceIte, reduceCtorEq, zB, zE, zA, zS, zL, zD, zM]
    refine ⟨by omega, ?_⟩
    refine call_as (as' := [.r (.agg [.v (.string (bstr [112])), .v (.bool false)]), sV last]) rfl ?_
    refine call_mk (value_t 112 false last) rfl trivial ?_
    unfold valV
    cases hv : valP 112 last with
    | none =>
      simp only [hv] at hQ
      simp only [g1, hn, gL, w0, zaa, zab, zac, push_cast, ↓reduceIte, reduceCtorEq, zB, zE, zA, zS, zL, zD, zM]
      refine ⟨by omega, ?_⟩
      have hrt := aring_t last (by omega)
      cases hr : ringP last with
      | none =>
        rw [hr] at hQ hrt
        refine call_mk hrt rfl trivial ?_
        subst hQ
        simp only [ringA, ringO, g1, hn, gL, w0, zaa, zab, zac, push_cast, ↓reduceIte, reduceCtorEq, zB, zE, zA, zS, zL, zD, zM]
        exact ⟨rfl, rfl⟩
      | some rg =>
        obtain ⟨g0, gs, rfl⟩ : ∃ g0 gs, rg = g0 :: gs := by
          cases rg with
          | nil => exact absurd rfl (ringP_ne hr)
          | cons g0 gs => exact ⟨g0, gs, rfl⟩
        rw [hr] at hQ hrt
        refine call_mk hrt rfl trivial ?_
        subst hQ
        simp only [ringA, ringO, g1, hn, gL, w0, zaa, zab, zac, push_cast, ↓reduceIte, reduceCtorEq, zB, zE, zA, zS, zL, zD, zM]
        exact ⟨rfl, rfl⟩
    | some p =>
      simp only [hv] at hQ
      have hvl : p.length ≤ last.length := by
        rw [valP_eq] at hv
        split at hv
        · cases hv; simp
        · cases hv
      simp only [g1, hn, gL, w0, zaa, zab, zac, push_cast, ↓reduceIte, reduceCtorEq, zB, zE, zA, zS, zL, zD, zM]
      refine ⟨by omega, ?_⟩
      have hrt := aring_t p (by omega)
      cases hr : ringP p with
      | none =>
        rw [hr] at hrt
        refine call_mk hrt rfl trivial ?_
        simp only [hr] at hQ
        subst hQ
        simp only [ringA, ringO, g1, hn, gL, w0, zaa, zab, zac, push_cast, ↓reduceIte, reduceCtorEq, zB, zE, zA, zS, zL, zD, zM]
        exact ⟨rfl, rfl⟩
      | some rg =>
        obtain ⟨g0, gs, rfl⟩ : ∃ g0 gs, rg = g0 :: gs := by
          cases rg with
          | nil => exact absurd rfl (ringP_ne hr)
          | cons g0 gs => exact ⟨g0, gs, rfl⟩
        rw [hr] at hrt
        refine call_mk hrt rfl trivial ?_
        simp only [hr] at hQ
        simp only [ringA, ringO, g1, hn, gL, w0, zaa, zab, zac, push_cast, ↓reduceIte, reduceCtorEq, zB, zE, zA, zS, zL, zD, zM]
        have hdl : PS.dropLast.length = n := by simp [hn]
        have hs0 : ((n : Int) - 0).toNat = n := by omega
        simp only [hs0]
        have hne : ∀ (b : Bool), ((((n : Nat) : Int) != ((fs.length : Nat) : Int)) = b) → decide (PS.dropLast.length ≠ fs.length) = b := fun b h => by
          rw [← h, zai]
          simp
          omega
        have hlps : PS.dropLast.length ≤ 1000001 := by first | omega | (simp; omega)
        refine cnd_mk (fun hb => ?_) (fun hb => ?_)
        · have hne := of_decide_eq_true (hne _ hb)
          unfold queryG at hQ
          rw [if_pos hne] at hQ
          subst hQ
          simp only [hn, w0, zaa, zab, zac, push_cast, ↓reduceIte, reduceCtorEq, zB, zE, zA, zS, zL, zD, zM]
          exact ⟨rfl, rfl⟩
        · have hne := of_decide_eq_false (hne _ hb)
          unfold queryG at hQ
          rw [if_neg hne] at hQ
          subst hQ
          simp only [hn, w0, zaa, zab, zac, push_cast, ↓reduceIte, reduceCtorEq, zB, zE, zA, zS, zL, zD, zM]
          refine run_loop [(60, false), (61, false), (62, false), (7, false), (5, true), (4, false)] (fun vs pos los => ∃ (i : Nat) (ns : List Int) (ws : List Bs), i ≤ fs.length ∧ fldsR (fs.drop i) (PS.dropLast.drop i) ns ws = fldsR fs PS.dropLast [] [] ∧ ns.length ≤ i ∧ ws.length ≤ i ∧
              vs = [.r (.sl 2 (fs.map fldR)), int .i64 fs.length, int .i64 i, .own 2000000 0 0 n, .own 2000001 0 0 ws.length, .ptr 2000002 0 0] ∧ pos = [] ∧ los = qlos k PS ws ns (g0 :: gs))
            (fun vs _ _ => match vs with | [_, _, .r (.v (.int _ j)), _, _, _] => (fs.length - j).toNat | _ => 0) rfl ?_ ?_
          · simp only [hn, w0, zaa, zab, zac, push_cast, ↓reduceIte, reduceCtorEq, zB, zE, zA, zS, zL, zD, zM]
            exact ⟨0, [], [], by omega, rfl, by simp, by simp, rfl, rfl⟩
          · rintro vs pos los ⟨i, ns, ws, i0, hfd, hnl, hwl, rfl, rfl, rfl⟩
            rcases ns with _ | ⟨n0, nr⟩ <;> simp only [qlos, hn, w0, zaa, zab, zac, push_cast, ↓reduceIte, reduceCtorEq, zB, zE, zA, zS, zL, zD, zM]
            all_goals refine cnd_mk (fun hi => ?_) (fun hi => ?_)
            all_goals first
              | (have hi : i = fs.length := zak i0 (by simpa using hi)
                 rw [hi, zao, fldsR] at hfd
                 rw [← hfd]
                 simp only [hn, w0, zaa, zab, zac, push_cast, ↓reduceIte, reduceCtorEq, zB, zE, zA, zS, zL, zD, zM]
                 exact ⟨rfl, rfl⟩)
              | (have hi : i < fs.length := by simpa using hi
                 have hip : i < PS.dropLast.length := by omega
                 obtain ⟨c, w, hcw⟩ : ∃ c w, fs[i] = (c, w) := ⟨_, _, rfl⟩
                 obtain ⟨p, hp⟩ : ∃ p, PS.dropLast[i] = p := ⟨_, rfl⟩
                 have hpm : p.length ≤ s.length := hpl p (by rw [← hp]; exact (List.dropLast_sublist PS).subset (zaj hip))
                 have hd1 : fs.drop i = (c, w) :: fs.drop (i + 1) := by rw [zag hi, hcw]
                 have hd2 : PS.dropLast.drop i = p :: PS.dropLast.drop (i + 1) := by rw [zag hip, hp]
                 have hgf : ∀ z, (fs.map fldR).getD i z = .agg [.v (.string (bstr [c])), .v (.bool w)] := fun z => by
                   rw [zaf]
                   simp [hi, hcw, fldR]
                 have hgp : ∀ z, (strs PS).getD i z = .v (.string (bstr p)) := fun z => by
                   rw [zaf]
                   simp [show i < PS.length by omega, strR, ← hp]
                 have w1 : IntKind.i64.wrap ((i : Int) + 1) = (i : Int) + 1 := wrap_id (by omega)
                 rw [hd1, hd2] at hfd
                 simp only [fldsR, zax, zay] at hfd
                 simp only [hgf, hgp, w1, hn, w0, zaa, zab, zac, push_cast, ↓reduceIte, reduceCtorEq, zB, zE, zA, zS, zL, zD, zM]
                 refine ⟨by omega, by omega, ?_⟩
                 refine dcall_mk (value_t c w p) rfl trivial ?_
                 unfold valV
                 cases hv : valP c p with
                 | none =>
                   rw [hv] at hfd
                   rw [← hfd]
                   simp only [hgf, hgp, w1, hn, w0, zaa, zab, zac, push_cast, ↓reduceIte, reduceCtorEq, zB, zE, zA, zS, zL, zD, zM]
                   exact ⟨by kernel_rfl, rfl, rfl⟩
                 | some v =>
                   rw [hv] at hfd
                   have hvl : v.length ≤ p.length := by
                     rw [valP_eq] at hv
                     split at hv
                     · cases hv; simp
                     · cases hv
                   cases w with
                   | true =>
                     simp only at hfd
                     simp only [hgf, hgp, w1, hn, w0, zaa, zab, zac, push_cast, ↓reduceIte, reduceCtorEq, zB, zE, zA, zS, zL, zD, zM]
                     refine ⟨by kernel_rfl, by simp, by have := maxLen_big; omega, ⟨i + 1, _, _, by omega, hfd, by simp only [zal, zah, zam] at hnl ⊢; omega, by simp; omega, by simp, by simp [qlos, strR]⟩, by omega⟩
                   | false =>
                     simp only [hgf, hgp, w1, hn, w0, zaa, zab, zac, push_cast, ↓reduceIte, reduceCtorEq, zB, zE, zA, zS, zL, zD, zM]
                     refine ⟨by kernel_rfl, ?_⟩
                     refine call_mk (parse_t v (by omega)) rfl trivial ?_
                     cases hn : pv v with
                     | none =>
                       simp only [hn] at hfd
                       rw [← hfd]
                       simp only [opt, hgf, hgp, w1, hn, w0, zaa, zab, zac, push_cast, ↓reduceIte, reduceCtorEq, zB, zE, zA, zS, zL, zD, zM]
                       exact ⟨rfl, rfl⟩
                     | some n =>
                       simp only [hn] at hfd
                       simp only [opt, hgf, hgp, w1, hn, w0, zaa, zab, zac, push_cast, ↓reduceIte, reduceCtorEq, zB, zE, zA, zS, zL, zD, zM]
                       refine ⟨by simp, by simp at hnl; have := maxLen_big; omega, ⟨i + 1, _, _, by omega, hfd, by simp only [zal, zah, zam] at hnl ⊢; omega, by omega, by simp, by simp [qlos, n8]⟩, by omega⟩)
  · have g1 : (k == 15) = false := by simp [hk]
    rw [if_neg hk] at hQ
    have w0 : True := trivial
    simp only [g1, push_cast, ↓reduceIte, reduceCtorEq, zB, zE, zA, zS, zL, zD, zM]
    have hne : ∀ (b : Bool), ((((PS.length : Nat) : Int) != ((fs.length : Nat) : Int)) = b) → decide (PS.length ≠ fs.length) = b := fun b h => by
      rw [← h, zai]
      simp
      omega
    have hlps : PS.length ≤ 1000001 := by first | omega | (simp; omega)
    refine cnd_mk (fun hb => ?_) (fun hb => ?_)
    · have hne := of_decide_eq_true (hne _ hb)
      unfold queryG at hQ
      rw [if_pos hne] at hQ
      subst hQ
      simp only [w0, zaa, zab, zac, push_cast, ↓reduceIte, reduceCtorEq, zB, zE, zA, zS, zL, zD, zM]
      exact ⟨rfl, rfl⟩
    · have hne := of_decide_eq_false (hne _ hb)
      unfold queryG at hQ
      rw [if_neg hne] at hQ
      subst hQ
      simp only [w0, zaa, zab, zac, push_cast, ↓reduceIte, reduceCtorEq, zB, zE, zA, zS, zL, zD, zM]
      refine run_loop [(60, false), (61, false), (62, false), (7, false), (5, true), (4, false)] (fun vs pos los => ∃ (i : Nat) (ns : List Int) (ws : List Bs), i ≤ fs.length ∧ fldsR (fs.drop i) (PS.drop i) ns ws = fldsR fs PS [] [] ∧ ns.length ≤ i ∧ ws.length ≤ i ∧
          vs = [.r (.sl 2 (fs.map fldR)), int .i64 fs.length, int .i64 i, .own 2000000 0 0 PS.length, .own 2000001 0 0 ws.length, .ptr 2000002 0 0] ∧ pos = [] ∧ los = qlos k PS ws ns [])
        (fun vs _ _ => match vs with | [_, _, .r (.v (.int _ j)), _, _, _] => (fs.length - j).toNat | _ => 0) rfl ?_ ?_
      · simp only [w0, zaa, zab, zac, push_cast, ↓reduceIte, reduceCtorEq, zB, zE, zA, zS, zL, zD, zM]
        exact ⟨0, [], [], by omega, rfl, by simp, by simp, rfl, rfl⟩
      · rintro vs pos los ⟨i, ns, ws, i0, hfd, hnl, hwl, rfl, rfl, rfl⟩
        rcases ns with _ | ⟨n0, nr⟩ <;> simp only [qlos, w0, zaa, zab, zac, push_cast, ↓reduceIte, reduceCtorEq, zB, zE, zA, zS, zL, zD, zM]
        all_goals refine cnd_mk (fun hi => ?_) (fun hi => ?_)
        all_goals first
          | (have hi : i = fs.length := zak i0 (by simpa using hi)
             rw [hi, zao, fldsR] at hfd
             rw [← hfd]
             simp only [w0, zaa, zab, zac, push_cast, ↓reduceIte, reduceCtorEq, zB, zE, zA, zS, zL, zD, zM]
             exact ⟨rfl, rfl⟩)
          | (have hi : i < fs.length := by simpa using hi
             have hip : i < PS.length := by omega
             obtain ⟨c, w, hcw⟩ : ∃ c w, fs[i] = (c, w) := ⟨_, _, rfl⟩
             obtain ⟨p, hp⟩ : ∃ p, PS[i] = p := ⟨_, rfl⟩
             have hpm : p.length ≤ s.length := hpl p (by rw [← hp]; exact zaj hip)
             have hd1 : fs.drop i = (c, w) :: fs.drop (i + 1) := by rw [zag hi, hcw]
             have hd2 : PS.drop i = p :: PS.drop (i + 1) := by rw [zag hip, hp]
             have hgf : ∀ z, (fs.map fldR).getD i z = .agg [.v (.string (bstr [c])), .v (.bool w)] := fun z => by
               rw [zaf]
               simp [hi, hcw, fldR]
             have hgp : ∀ z, (strs PS).getD i z = .v (.string (bstr p)) := fun z => by
               rw [zaf]
               simp [hip, hp, strR]
             have w1 : IntKind.i64.wrap ((i : Int) + 1) = (i : Int) + 1 := wrap_id (by omega)
             rw [hd1, hd2] at hfd
             simp only [fldsR, zax, zay] at hfd
             simp only [hgf, hgp, w1, w0, zaa, zab, zac, push_cast, ↓reduceIte, reduceCtorEq, zB, zE, zA, zS, zL, zD, zM]
             refine ⟨by omega, by omega, ?_⟩
             refine dcall_mk (value_t c w p) rfl trivial ?_
             unfold valV
             cases hv : valP c p with
             | none =>
               rw [hv] at hfd
               rw [← hfd]
               simp only [hgf, hgp, w1, w0, zaa, zab, zac, push_cast, ↓reduceIte, reduceCtorEq, zB, zE, zA, zS, zL, zD, zM]
               exact ⟨by kernel_rfl, rfl, rfl⟩
             | some v =>
               rw [hv] at hfd
               have hvl : v.length ≤ p.length := by
                 rw [valP_eq] at hv
                 split at hv
                 · cases hv; simp
                 · cases hv
               cases w with
               | true =>
                 simp only at hfd
                 simp only [hgf, hgp, w1, w0, zaa, zab, zac, push_cast, ↓reduceIte, reduceCtorEq, zB, zE, zA, zS, zL, zD, zM]
                 refine ⟨by kernel_rfl, by simp, by have := maxLen_big; omega, ⟨i + 1, _, _, by omega, hfd, by simp only [zal, zah, zam] at hnl ⊢; omega, by simp; omega, by simp, by simp [qlos, strR]⟩, by omega⟩
               | false =>
                 simp only [hgf, hgp, w1, w0, zaa, zab, zac, push_cast, ↓reduceIte, reduceCtorEq, zB, zE, zA, zS, zL, zD, zM]
                 refine ⟨by kernel_rfl, ?_⟩
                 refine call_mk (parse_t v (by omega)) rfl trivial ?_
                 cases hn : pv v with
                 | none =>
                   simp only [hn] at hfd
                   rw [← hfd]
                   simp only [opt, hgf, hgp, w1, w0, zaa, zab, zac, push_cast, ↓reduceIte, reduceCtorEq, zB, zE, zA, zS, zL, zD, zM]
                   exact ⟨rfl, rfl⟩
                 | some n =>
                   simp only [hn] at hfd
                   simp only [opt, hgf, hgp, w1, w0, zaa, zab, zac, push_cast, ↓reduceIte, reduceCtorEq, zB, zE, zA, zS, zL, zD, zM]
                   refine ⟨by simp, by simp at hnl; have := maxLen_big; omega, ⟨i + 1, _, _, by omega, hfd, by simp only [zal, zah, zam] at hnl ⊢; omega, by omega, by simp, by simp [qlos, n8]⟩, by omega⟩)

noncomputable def ident_digitOf_pc : PC :=
  (.seq (.reg [p_s 4 (.mov (.c (.r (.v (.int .u64 0)))))])
 (.seq (.reg [p_m 5 0, p_m 6 1, p_s 7 (.bin .sub (.t 6) (o_i 1)), p_s 8 (.bin .mul (o_i 3) (.t 7)), p_s 9 (.bin .sub (o_i 33) (.t 8)), p_s 10 (.conv .u64 (.t 9)), p_s 11 (.bin .shr (.t 5) (.t 10)),
 p_s 12 (.bin .and (.t 11) (.c (.r (.v (.int .u64 7))))), p_m 4 12])
 .ret))
theorem ident_digitOf_triple : Fun P0 128 2 [(4, false, none)] ident_digitOf_pc := fun_mk Go.Proofs.Tryz.func128 rfl (by decide) (by kernel_rfl) (by decide) rfl (by kernel_rfl) (by kernel_rfl) (by decide)
noncomputable def ident_Cell_pc : PC :=
  (.seq (.reg [p_a 2 (.new [(.r (.v (.int .i64 0))), (.r (.v (.int .i64 0))), (.r (.v (.int .i64 0)))]), p_s 3 (.mov (o_i 0))])
 (.seq (.reg [p_m 10 0, p_s 11 (.bin .shr (.t 10) (.c (.r (.v (.int .u64 56))))), p_s 12 (.bin .and (.t 11) (.c (.r (.v (.int .u64 15))))), p_s 13 (.conv .i64 (.t 12)), p_m 4 13])
 (.seq (.seq (.reg [p_m 14 0, p_s 15 (.bin .shr (.t 14) (.c (.r (.v (.int .u64 60))))), p_s 16 (.bin .neq (.t 15) (.c (.r (.v (.int .u64 1))))), p_m 17 16, p_g 18 17 false (.mov (.t 4)),
 p_g 19 17 false (.bin .gtr (.t 18) (o_i 12)), p_s 20 (.pick (.t 17) (.c (.r (.v (.bool true)))) (.t 19))])
 (.cond (.t 20)
 (.seq (.reg [p_s 21 (.build [(.r (.v (.int .i64 0))), (.r (.v (.int .i64 0))), (.r (.v (.int .i64 0)))] []), ⟨none, none, 0, .act (.st 3 (.t 2) (.t 21))⟩, p_s 3 (.mov (o_i 5))])
 .ret)
 .skip))
 (.seq (.reg [p_m 22 0, p_s 23 (.bin .shr (.t 22) (.c (.r (.v (.int .u64 46))))), p_s 24 (.bin .and (.t 23) (.c (.r (.v (.int .u64 1023))))), p_s 25 (.conv .i64 (.t 24)), p_s 26 (.bin .sub (.t 25) (o_i 512)),
 p_m 27 0, p_s 28 (.bin .shr (.t 27) (.c (.r (.v (.int .u64 36))))), p_s 29 (.bin .and (.t 28) (.c (.r (.v (.int .u64 1023))))), p_s 30 (.conv .i64 (.t 29)), p_s 31 (.bin .sub (.t 30) (o_i 512)),
 p_s 32 (.build [(.r (.v (.int .i64 0))), (.r (.v (.int .i64 0)))] [(0, 1, (.t 26)), (1, 1, (.t 31))]), p_s 33 (.build [(.r (.v (.int .i64 0))), (.r (.v (.int .i64 0))), (.r (.v (.int .i64 0)))] [(1, 2, (.t 32))]),
 p_a 5 (.new [(.r (.v (.int .i64 0))), (.r (.v (.int .i64 0))), (.r (.v (.int .i64 0)))]), ⟨none, none, 0, .act (.st 3 (.t 5) (.t 33))⟩])
 (.seq (.seq (.reg [p_s 6 (.mov (o_i 1))])
 (.block 0 (.loop (.seq (.seq (.reg [p_m 34 6, p_s 35 (.bin .leq (.t 34) (o_i 12))])
 (.cond (.t 35)
 .skip
 (.exit 0)))
 (.seq (.block 1 (.seq (.reg [p_m 38 0, p_m 39 6, p_c 40 1 128 [.t 38, .t 39], p_m 7 40])
 (.seq (.seq (.reg [p_m 41 7, p_s 42 (.bin .eql (.t 41) (.c (.r (.v (.int .u64 7))))), p_m 43 6, p_m 44 4, p_s 45 (.bin .gtr (.t 43) (.t 44)), p_s 46 (.beq true (.t 42) (.t 45))])
 (.cond (.t 46)
 (.seq (.reg [p_s 47 (.build [(.r (.v (.int .i64 0))), (.r (.v (.int .i64 0))), (.r (.v (.int .i64 0)))] []), ⟨none, none, 0, .act (.st 3 (.t 2) (.t 47))⟩, p_s 3 (.mov (o_i 5))])
 .ret)
 .skip))
 (.seq (.seq (.reg [p_m 48 7, p_s 49 (.bin .eql (.t 48) (.c (.r (.v (.int .u64 7)))))])
 (.cond (.t 49)
 (.exit 1)
 .skip))
 (.seq (.reg [p_s 51 (.fa 1 (.t 5)), p_s 52 (.ld (some 2) (.t 51)), p_s 53 (.build [(.r (.v (.int .i64 0))), (.r (.v (.int .i64 0)))] [(0, 1, (o_i 2)), (1, 1, (o_i 1))]), p_c 54 2 129 [.t 52, .t 53],
 p_m 50 54, p_s 55 (.ext (.t 50) 0), p_s 56 (.ext (.t 50) 1), p_a 8 (.new [(.r (.v (.int .i64 0))), (.r (.v (.int .i64 0)))]), ⟨none, none, 0, .act (.st 2 (.t 8) (.t 55))⟩,
 p_m 9 56])
 (.seq (.seq (.reg [p_m 57 7, p_s 58 (.bin .gtr (.t 57) (.c (.r (.v (.int .u64 0)))))])
 (.cond (.t 58)
 (.drw [p_s 60 (.ld (some 2) (.t 8)), p_m 61 7, p_s 62 (.conv .i64 (.t 61)), p_s 63 (.bin .sub (.t 62) (o_i 1)), p_c 64 3 131 [.t 63], p_c 65 4 130 [.t 60, .t 64], p_m 59 65,
 p_s 66 (.ext (.t 59) 0), p_s 67 (.ext (.t 59) 1), ⟨none, none, 0, .act (.st 2 (.t 8) (.t 66))⟩]
 [[], [], [1], [1, 2], [1, 2, 3], [0, 1, 2, 3, 4], [0, 1, 2, 3, 4, 5], [0, 1, 2, 3, 4, 5, 6], [0, 1, 2, 3, 4, 5, 6], [0, 1, 2, 3, 4, 5, 6, 7]])
 .skip))
 (.reg [p_m 68 6, p_s 69 (.ld (some 2) (.t 8)), p_s 70 (.build [(.r (.v (.int .i64 0))), (.r (.v (.int .i64 0))), (.r (.v (.int .i64 0)))] [(0, 1, (.t 68)), (1, 2, (.t 69))]),
 ⟨none, none, 0, .act (.st 3 (.t 5) (.t 70))⟩])))))))
 (.reg [p_m 36 6, p_s 37 (.bin .add (.t 36) (o_i 1)), p_m 6 37]))))))
 (.seq (.reg [p_s 71 (.ld (some 3) (.t 5)), ⟨none, none, 0, .act (.st 3 (.t 2) (.t 71))⟩, p_s 3 (.mov (o_i 0))])
 .ret))))))
theorem ident_Cell_triple : Fun P0 109 1 [(2, false, some (67, (some 3))), (3, false, none)] ident_Cell_pc := fun_mk Go.Proofs.Tryz.func109 rfl (by decide) (by kernel_rfl) (by decide) rfl (by kernel_rfl) (by kernel_rfl) (by decide)
noncomputable def ident_Digits_pc : PC :=
  (.seq (.reg [p_s 2 (.mov (.c (.r (.v (.int .u64 0))))), p_s 3 (.mov (.c (.r (.v (.bool false)))))])
 (.seq (.seq (.reg [p_m 7 0, p_s 8 (.len true (.t 7)), p_s 9 (.bin .neq (.t 8) (o_i 16))])
 (.cond (.t 9)
 (.seq (.reg [p_s 2 (.mov (.c (.r (.v (.int .u64 0))))), p_s 3 (.mov (.c (.r (.v (.bool false)))))])
 .ret)
 .skip))
 (.seq (.reg [p_s 4 (.mov (.c (.r (.v (.int .u64 0)))))])
 (.seq (.seq (.reg [p_m 10 0, p_s 11 (.len true (.t 10)), p_s 12 (.mov (o_i 0))])
 (.block 0 (.loop (.seq (.reg [p_s 13 (.bin .lss (.t 12) (.t 11))])
 (.seq (.cond (.t 13)
 .skip
 (.exit 0))
 (.seq (.block 1 (.seq (.reg [p_m 14 12, p_m 5 14])
 (.seq (.reg [p_m 15 0, p_m 16 5, p_s 17 (.ixs (.t 15) (.t 16)), p_m 6 17])
 (.seq (.block 2 (.seq (.reg [p_m 19 6, p_s 20 (.bin .geq (.t 19) (.c (.r (.v (.int .u8 48))))), p_m 21 20, p_g 22 21 true (.mov (.t 6)), p_g 23 21 true (.bin .leq (.t 22) (.c (.r (.v (.int .u8 57))))),
 p_s 24 (.pick (.t 21) (.t 23) (.c (.r (.v (.bool false))))), p_m 18 24])
 (.cond (.t 18)
 (.reg [p_m 25 6, p_s 26 (.bin .sub (.t 25) (.c (.r (.v (.int .u8 48))))), p_m 6 26])
 (.seq (.reg [p_m 28 6, p_s 29 (.bin .geq (.t 28) (.c (.r (.v (.int .u8 97))))), p_m 30 29, p_g 31 30 true (.mov (.t 6)), p_g 32 30 true (.bin .leq (.t 31) (.c (.r (.v (.int .u8 102))))),
 p_s 33 (.pick (.t 30) (.t 32) (.c (.r (.v (.bool false))))), p_m 27 33])
 (.cond (.t 27)
 (.reg [p_m 34 6, p_s 35 (.bin .sub (.t 34) (.c (.r (.v (.int .u8 87))))), p_m 6 35])
 (.seq (.reg [p_s 2 (.mov (.c (.r (.v (.int .u64 0))))), p_s 3 (.mov (.c (.r (.v (.bool false)))))])
 .ret))))))
 (.reg [p_m 36 4, p_s 37 (.bin .shl (.t 36) (.c (.r (.v (.int .u64 4))))), p_m 38 6, p_s 39 (.conv .u64 (.t 38)), p_s 40 (.bin .or (.t 37) (.t 39)), p_m 4 40])))))
 (.reg [p_s 41 (.bin .add (.t 12) (o_i 1)), p_m 12 41])))))))
 (.seq (.reg [p_m 42 4, p_m 2 42, p_s 3 (.mov (.c (.r (.v (.bool true)))))])
 .ret)))))
theorem ident_Digits_triple : Fun P0 90 1 [(2, false, none), (3, false, none)] ident_Digits_pc := fun_mk Go.Proofs.Tryz.func90 rfl (by decide) (by kernel_rfl) (by decide) rfl (by kernel_rfl) (by kernel_rfl) (by decide)
noncomputable def ident_Ok_pc : PC :=
  (.seq (.reg [p_s 2 (.mov (.c (.r (.v (.bool false)))))])
 (.seq (.reg [p_m 6 0, p_c 7 1 109 [.t 6], p_m 5 7, p_s 8 (.ext (.t 5) 0), p_s 9 (.ext (.t 5) 1), p_a 3 (.new [(.r (.v (.int .i64 0))), (.r (.v (.int .i64 0))), (.r (.v (.int .i64 0)))]),
 ⟨none, none, 0, .act (.st 3 (.t 3) (.t 8))⟩, p_m 4 9])
 (.seq (.reg [p_m 10 4, p_s 11 (.bin .eql (.t 10) (o_i 0)), p_m 2 11])
 .ret)))
theorem ident_Ok_triple : Fun P0 91 1 [(2, false, none)] ident_Ok_pc := fun_mk Go.Proofs.Tryz.func91 rfl (by decide) (by kernel_rfl) (by decide) rfl (by kernel_rfl) (by kernel_rfl) (by decide)
noncomputable def ident_Parse_pc : PC :=
  (.seq (.reg [p_s 2 (.mov (.c (.r (.v (.int .u64 0))))), p_s 3 (.mov (o_i 0))])
 (.seq (.reg [p_m 7 0, p_c 8 1 90 [.t 7], p_m 6 8, p_s 9 (.ext (.t 6) 0), p_s 10 (.ext (.t 6) 1), p_m 4 9, p_m 5 10])
 (.seq (.block 0 (.seq (.reg [p_m 12 5, p_s 13 (.un .not (.t 12)), p_m 11 13])
 (.cond (.t 11)
 (.seq (.reg [p_s 2 (.mov (.c (.r (.v (.int .u64 0))))), p_s 3 (.mov (o_i 6))])
 .ret)
 (.seq (.reg [p_m 15 4, p_c 16 2 91 [.t 15], p_s 17 (.un .not (.t 16)), p_m 14 17])
 (.cond (.t 14)
 (.seq (.reg [p_s 2 (.mov (.c (.r (.v (.int .u64 0))))), p_s 3 (.mov (o_i 5))])
 .ret)
 .skip)))))
 (.seq (.reg [p_m 18 4, p_m 2 18, p_s 3 (.mov (o_i 0))])
 .ret))))
theorem ident_Parse_triple : Fun P0 53 1 [(2, false, none), (3, false, none)] ident_Parse_pc := fun_mk Go.Proofs.Tryz.func53 rfl (by decide) (by kernel_rfl) (by decide) rfl (by kernel_rfl) (by kernel_rfl) (by decide)
theorem dig_t (w i : Nat) (hw : w < 18446744073709551616) (hi : 1 ≤ i ∧ i ≤ 12) : Triple P0 128 [uw w, int .i64 i] [] (uw (dgt w i)) [] := by
 refine ident_digitOf_triple rfl (by decide) ?_
 have w1 : IntKind.i64.wrap ((i : Int) - 1) = (i : Int) - 1 := wrap_id (by omega)
 have w2 : IntKind.i64.wrap (3 * ((i : Int) - 1)) = 3 * ((i : Int) - 1) := wrap_id (by omega)
 have w3 : IntKind.i64.wrap (33 - 3 * ((i : Int) - 1)) = 36 - 3 * (i : Int) := by rw [wrap_id (by omega)]; omega
 have w4 : IntKind.u64.wrap (36 - 3 * (i : Int)) = 36 - 3 * (i : Int) := by simp [IntKind.wrap, IntKind.bits, IntKind.signed]; omega
 have e5 : IntKind.u64.wrap (zae IntKind.u64.bits ((w : Int).fdiv (2 ^ min (36 - 3 * (i : Int)).toNat IntKind.u64.bits)) &&& zae IntKind.u64.bits 7).toNat = (dgt w i : Int) := by
  rw [shr_and (k := 36 - 3 * i) (n := 3) (by omega) (by omega) (by decide) (by decide) hw]
  rw [show 2 ^ (36 - 3 * i) = 8 ^ (12 - i) by rw [show (8 : Nat) = 2 ^ 3 from rfl, ← Nat.pow_mul]; congr 1; omega]
  rfl
 simp only [ident_digitOf_pc, uw, w1, w2, w3, w4, e5, push_cast, ↓reduceIte, reduceCtorEq, zB, zE, zA, zS, zL, zD, zM]
 omega
set_option maxHeartbeats 2000000 in
theorem icell_any (w : Nat) (hw : w < 18446744073709551616) : Triple P0 109 [uw w] [] (.tup (if isWB w then [cel (resW w) (down w (resW w)), int .i64 0] else [cel 0 ⟨0, 0⟩, int .i64 5])) [] := by
 refine ident_Cell_triple rfl (by decide) ?_
 have e1 : (w : Int).fdiv (2 ^ min (zad 60) IntKind.u64.bits) = ((w / 1152921504606846976 : Nat) : Int) := shru (k := 60) rfl (by decide)
 have e2 : IntKind.i64.wrap (IntKind.u64.wrap (zae IntKind.u64.bits ((w : Int).fdiv (2 ^ min (zad 56) IntKind.u64.bits)) &&& zae IntKind.u64.bits 15).toNat) = (resW w : Int) := by
  rw [shr_and (k := 56) (n := 4) rfl (by decide) (by decide) (by decide) hw]
  exact wrap_id (by omega)
 have e3 : IntKind.i64.wrap (IntKind.i64.wrap (IntKind.u64.wrap (zae IntKind.u64.bits ((w : Int).fdiv (2 ^ min (zad 46) IntKind.u64.bits)) &&& zae IntKind.u64.bits 1023).toNat) - 512) = (down w 0).a := by
  rw [shr_and (k := 46) (n := 10) rfl (by decide) (by decide) (by decide) hw, show ∀ x : Nat, x < 1024 → IntKind.i64.wrap (IntKind.i64.wrap (x : Int) - 512) = x - 512 from fun x hx => by rw [wrap_id (x := (x : Int)) (by omega), wrap_id (by omega)]]
  ·rfl
  ·omega
 have e4 : IntKind.i64.wrap (IntKind.i64.wrap (IntKind.u64.wrap (zae IntKind.u64.bits ((w : Int).fdiv (2 ^ min (zad 36) IntKind.u64.bits)) &&& zae IntKind.u64.bits 1023).toNat) - 512) = (down w 0).b := by
  rw [shr_and (k := 36) (n := 10) rfl (by decide) (by decide) (by decide) hw, show ∀ x : Nat, x < 1024 → IntKind.i64.wrap (IntKind.i64.wrap (x : Int) - 512) = x - 512 from fun x hx => by rw [wrap_id (x := (x : Int)) (by omega), wrap_id (by omega)]]
  ·rfl
  ·omega
 obtain ⟨T, hT⟩ : ∃ T : Int, ((w / 1152921504606846976 : Nat) : Int) = T := ⟨_, rfl⟩
 obtain ⟨R, hR⟩ : ∃ R : Int, (resW w : Int) = R := ⟨_, rfl⟩
 have hR16 : resW w < 16 := by unfold resW; omega
 rw [hT] at e1
 rw [hR] at e2
 simp only [ident_Cell_pc, uw, e1, e2, e3, e4, push_cast, ↓reduceIte, reduceCtorEq, zB, zE, zA, zS, zL, zD, zM]
 refine ⟨by decide, by decide, fun h => by simp [h], ?_⟩
 refine cnd_mk (fun h => ?_) (fun h => ?_)
 ·have hno : isWB w = false := isWB_no fun hh => by
   obtain ⟨w1, w2, _⟩ := hh
   have : ¬ R > 12 := by omega
   have hT1 : T = 1 := by omega
   rw [hT1] at h
   simp [this] at h
  rw [hno]
  simp only [cel, push_cast, ↓reduceIte, reduceCtorEq, zB, zE, zA, zS, zL, zD, zM]
 ·have hT1 : T = 1 := by
   by_cases hc : T = 1
   ·exact hc
   ·have : (T != 1) = true := by simp [hc]
    rw [this] at h
    cases h
  rw [hT1] at h
  have hR12 : R ≤ 12 := by simpa using h
  simp only [e3, e4, push_cast, ↓reduceIte, reduceCtorEq, zB, zE, zA, zS, zL, zD, zM]
  refine ⟨by decide, by decide, ?_⟩
  subst hR
  clear e1 e2 e3 e4 h
  refine run_loop [(6, false), (0, false), (4, false), (5, false), (2, false)] (fun vs pos los => ∃ i : Nat, (1 ≤ i ∧ i ≤ 13) ∧ (∀ j, 1 ≤ j → j < i → (dgt w j = 7 ↔ resW w < j)) ∧ vs = [int .i64 i, int .u64 w, int .i64 (resW w), .ptr 2000000 0 0, .ptr 2000001 0 0] ∧ pos = [] ∧ los = [.box [int .i64 (min (i - 1) (resW w) : Nat), int .i64 (down w (min (i - 1) (resW w))).a, int .i64 (down w (min (i - 1) (resW w))).b], .box [int .i64 0, int .i64 0, int .i64 0]])
   (fun vs _ _ => match vs with | .r (.v (.int _ j)) :: _ => (13 - j).toNat | _ => 0) rfl ?_ ?_
  ·simp only [push_cast, ↓reduceIte, reduceCtorEq, zB, zE, zA, zS, zL, zD, zM]
   refine ⟨1, by omega, fun j h1 h2 => by omega, rfl, ?_⟩
   rw [show min (1 - 1) (resW w) = 0 by omega]
   rfl
  ·rintro vs pos los ⟨i, i6, hj, rfl, rfl, rfl⟩
   obtain ⟨mi, hmi⟩ : ∃ mi, min (i - 1) (resW w) = mi := ⟨_, rfl⟩
   rw [hmi]
   simp only [push_cast, ↓reduceIte, reduceCtorEq, zB, zE, zA, zS, zL, zD, zM]
   refine cnd_mk (fun hi => ?_) (fun hi => ?_)
   ·have hi : i ≤ 12 := by simp at hi; omega
    have hD8 : dgt w i < 8 := Nat.mod_lt _ (by decide)
    have wi : IntKind.i64.wrap ((i : Int) + 1) = (i : Int) + 1 := wrap_id (by omega)
    simp only [push_cast, ↓reduceIte, reduceCtorEq, zB, zE, zA, zS, zL, zD, zM]
    refine call_as (as' := [uw w, int .i64 i]) rfl ?_
    refine call_mk (dig_t w i hw ⟨i6.1, hi⟩) rfl trivial ?_
    by_cases hmm : ¬ (dgt w i = 7 ↔ resW w < i)
    ·have hno : isWB w = false := isWB_no fun hh => hmm (hh.2.2 i i6.1 hi)
     rw [hno]
     by_cases h1 : dgt w i = 7
     ·have h2 : ¬ resW w < i := fun h2 => hmm ⟨fun _ => h2, fun _ => h1⟩
      have e1 : (((dgt w i : Nat) : Int) == 7) = true := by rw [h1]; rfl
      have e2 : decide ((i : Int) > (resW w : Int)) = false := by simp; omega
      have e3 : (!(true == false)) = true := rfl
      simp only [uw, e1, e2, e3, cel, push_cast, ↓reduceIte, reduceCtorEq, zB, zE, zA, zS, zL, zD, zM]
     ·have h2 : resW w < i := Decidable.byContradiction fun h2 => hmm ⟨fun h => absurd h h1, fun h => absurd h h2⟩
      have e1 : (((dgt w i : Nat) : Int) == 7) = false := by simp; omega
      have e2 : decide ((i : Int) > (resW w : Int)) = true := by simp; omega
      have e3 : (!(false == true)) = true := rfl
      simp only [uw, e1, e2, e3, cel, push_cast, ↓reduceIte, reduceCtorEq, zB, zE, zA, zS, zL, zD, zM]
    have hmm := Decidable.not_not.1 hmm
    have hj' : ∀ j, 1 ≤ j → j < i + 1 → (dgt w j = 7 ↔ resW w < j) := fun j h1 h2 => by
     by_cases hji : j = i
     ·subst hji; exact hmm
     ·exact hj j h1 (by omega)
    by_cases hc : resW w < i
    ·have hd7 := hmm.2 hc
     have f1 : (((7 : Nat) : Int) == 7) = true := rfl
     have f1' : ((7 : Int) == 7) = true := rfl
     have f2 : decide ((i : Int) > (resW w : Int)) = true := by simp; omega
     have f3 : (true != true) = false := rfl
     rw [hd7]
     simp only [uw, f1, f1', f2, f3, wi, push_cast, ↓reduceIte, reduceCtorEq, zB, zE, zA, zS, zL, zD, zM]
     refine ⟨⟨i + 1, by omega, hj', rfl, ?_⟩, by omega⟩
     rw [show min (i + 1 - 1) (resW w) = mi by omega]
    ·have hd7 : dgt w i ≠ 7 := fun e => hc (hmm.1 e)
     obtain rfl : mi = i - 1 := by omega
     have f1 : ((dgt w i : Int) == 7) = false := by simp; omega
     have f2 : decide ((i : Int) > (resW w : Int)) = false := by simp; omega
     have f3 : (false != false) = false := rfl
     have hz := down_In w (i - 1) (by omega)
     have hz2 := down_In w i hi
     have hzm : ((down w (i - 1)).mul beta).In 10000000000000 := (mul_In hz (show beta.In 2 by unfold Ei.In; decide)).mono (by decide)
     have hdn : down w i = child (down w (i - 1)) (dgt w i) := by
      conv => lhs; rw [show i = i - 1 + 1 by omega]
      rw [down, show i - 1 + 1 = i by omega]
     simp only [uw, f1, f2, f3, wi, push_cast, ↓reduceIte, reduceCtorEq, zB, zE, zA, zS, zL, zD, zM]
     refine call_as (as' := [(down w (i - 1)).v, beta.v]) rfl ?_
     refine call_mk (emul_t _ _ (hz.mono (by decide)) (show beta.In _ by unfold Ei.In; decide) (hzm.mono (by decide))) rfl trivial ?_
     simp only [Ei.v, Ei.rv, push_cast, ↓reduceIte, reduceCtorEq, zB, zE, zA, zS, zL, zD, zM]
     refine cnd_mk (fun hp => ?_) (fun hp => ?_)
     ·have hp' : 0 < dgt w i := by simp at hp; omega
      have wd : IntKind.i64.wrap (dgt w i : Int) = (dgt w i : Int) := wrap_id (by omega)
      have wd1 : IntKind.i64.wrap ((dgt w i : Int) - 1) = (dgt w i : Int) - 1 := wrap_id (by omega)
      have hch : child (down w (i - 1)) (dgt w i) = ((down w (i - 1)).mul beta).add (uni (dgt w i - 1)) := by
       unfold child
       rw [if_neg (by omega)]
      rw [hch] at hdn
      simp only [wd, wd1, push_cast, ↓reduceIte, reduceCtorEq, zB, zE, zA, zS, zL, zD, zM]
      refine dcall_mk (eunit_t ((dgt w i : Int) - 1) (by omega)) rfl trivial ?_
      rw [show ((dgt w i : Int) - 1).toNat = dgt w i - 1 by omega]
      have hu : (uni (dgt w i - 1)).In 1 := by unfold uni; split <;> unfold Ei.In <;> decide
      simp only [Ei.v, Ei.rv, push_cast, ↓reduceIte, reduceCtorEq, zB, zE, zA, zS, zL, zD, zM]
      refine dcall_as (as' := [((down w (i - 1)).mul beta).v, (uni (dgt w i - 1)).v]) rfl ?_
      refine dcall_mk (eadd_t _ _ (hzm.mono (by decide)) (hu.mono (by decide)) (by rw [← hdn]; exact hz2.mono (by decide))) rfl trivial ?_
      rw [← hdn]
      simp only [wi, Ei.v, Ei.rv, push_cast, ↓reduceIte, reduceCtorEq, zB, zE, zA, zS, zL, zD, zM]
      repeat refine And.intro (by first | decide | omega | exact fun _ => by decide | (simp +contextual; done) | kernel_rfl) ?_
      refine ⟨⟨i + 1, by omega, hj', rfl, ?_⟩, by omega⟩
      rw [show min (i + 1 - 1) (resW w) = i by omega]
     ·have hp' : dgt w i = 0 := by simp at hp; omega
      have hch : child (down w (i - 1)) (dgt w i) = (down w (i - 1)).mul beta := by
       unfold child
       rw [if_pos (by omega)]
      rw [hch] at hdn
      simp only [wi, push_cast, ↓reduceIte, reduceCtorEq, zB, zE, zA, zS, zL, zD, zM]
      refine ⟨⟨i + 1, by omega, hj', rfl, ?_⟩, by omega⟩
      rw [show min (i + 1 - 1) (resW w) = i by omega, hdn]
   ·have hi : i = 13 := by simp at hi; omega
    subst hi
    obtain rfl : mi = resW w := by omega
    have hyes : isWB w = true := (isWB_iff w).2 ⟨by omega, by omega, fun j h1 h2 => hj j h1 (by omega)⟩
    rw [hyes]
    simp only [cel, push_cast, ↓reduceIte, reduceCtorEq, zB, zE, zA, zS, zL, zD, zM]
theorem dig_hex (c : UInt8) : hxD c = if 48 ≤ c.toNat ∧ c.toNat ≤ 57 then some (c.toNat - 48) else if 97 ≤ c.toNat ∧ c.toNat ≤ 102 then some (c.toNat - 87) else none := rfl
theorem digits_t (s : Bs) : Triple P0 90 [sV s] [] (match digitsP s with | some w => .tup [uw w, bl true] | none => .tup [uw 0, bl false]) [] := by
 refine ident_Digits_triple rfl (by decide) ?_
 simp only [ident_Digits_pc, bstr_size, push_cast, ↓reduceIte, reduceCtorEq, zB, zE, zA, zS, zL, zD, zM]
 unfold digitsP
 refine cnd_mk (fun hb => ?_) (fun hb => ?_)
 ·have : s.length ≠ 16 := by
   intro h
   simp [h] at hb
  rw [if_neg this]
  simp only [push_cast, ↓reduceIte, reduceCtorEq, zB, zE, zA, zS, zL, zD, zM]
  rfl
 ·have h16 : s.length = 16 := by
   have : ((s.length : Nat) : Int) = 16 := by simpa using hb
   omega
  rw [if_pos h16]
  simp only [h16, bstr_size, push_cast, ↓reduceIte, reduceCtorEq, zB, zE, zA, zS, zL, zD, zM]
  refine run_loop [(0, false), (11, false), (12, false), (4, false)] (fun vs pos los => ∃ (i U : Nat), i ≤ 16 ∧ U < 16 ^ i ∧ hxP (s.drop i) U = hxP s 0 ∧ vs = [sV s, int .i64 16, int .i64 i, uw U] ∧ pos = [] ∧ los = [])
   (fun vs _ _ => match vs with | [_, _, .r (.v (.int _ j)), _] => (16 - j).toNat | _ => 0) rfl ?_ ?_
  ·simp only [push_cast, ↓reduceIte, reduceCtorEq, zB, zE, zA, zS, zL, zD, zM]
   exact ⟨0, 0, by omega, by decide, rfl, rfl⟩
  ·rintro vs pos los ⟨i, U, i0, hU, hh, rfl, rfl, rfl⟩
   simp only [uw, bstr_size, bstr_data, push_cast, ↓reduceIte, reduceCtorEq, zB, zE, zA, zS, zL, zD, zM]
   refine cnd_mk (fun hi => ?_) (fun hi => ?_)
   ·have hi : i < 16 := by simp at hi; omega
    have hil : i < s.length := by omega
    obtain ⟨c, hc⟩ : ∃ c, s[i] = c := ⟨_, rfl⟩
    have hd : s.drop i = c :: s.drop (i + 1) := by rw [zag hil, hc]
    have hg : s.getD i 0 = c := by simp [List.getD, hil, hc]
    have w1 : IntKind.i64.wrap ((i : Int) + 1) = (i : Int) + 1 := wrap_id (by omega)
    have hcl := c.toNat_lt
    rw [hd, hxP] at hh
    simp only [uw, h16, hg, bstr_size, bstr_data, w1, zaa, zab, zac, push_cast, ↓reduceIte, reduceCtorEq, zB, zE, zA, zS, zL, zD, zM]
    refine ⟨by omega, ?_⟩
    obtain ⟨C, hC⟩ : ∃ C : Int, ((c.toNat : Nat) : Int) = C := ⟨_, rfl⟩
    have hU60 : U * 16 < 18446744073709551616 := by
     have : (16 : Nat) ^ i ≤ 16 ^ 15 := Nat.pow_le_pow_right (by decide) (by omega)
     have h15 : (16 : Nat) ^ 15 = 1152921504606846976 := by decide
     omega
    have nextU : ∀ D : Nat, D < 16 → U * 16 + D < 16 ^ (i + 1) := fun D hD => by
     rw [Nat.pow_succ]
     omega
    have next : ∀ D : Nat, hxD c = some D → D < 16 → ((IntKind.u64.wrap ((zae IntKind.u64.bits (IntKind.u64.wrap ((U : Int) * 2 ^ min (zad 4) IntKind.u64.bits)) ||| zae IntKind.u64.bits (D : Int)).toNat : Int))) = ((U * 16 + D : Nat) : Int) := fun D _ hD => by
     have hm : min (zad 4) IntKind.u64.bits = 4 := by decide
     have hsh : IntKind.u64.wrap ((U : Int) * 2 ^ min (zad 4) IntKind.u64.bits) = ((U * 16 : Nat) : Int) := by
      rw [hm, IntKind.wrap_u64]
      omega
     rw [hsh, or_u (by omega) (by omega), Nat.or_comm, or_high (k := 4) (by omega)]
    have w5 : IntKind.u64.wrap C = C := by rw [IntKind.wrap_u64]; omega
    refine cnd_mk (fun h1 => ?_) (fun h1 => ?_)
    ·have h1 : 48 ≤ C ∧ C ≤ 57 := by
      by_cases q1 : C ≥ 48 <;> by_cases q2 : C ≤ 57 <;> simp [q1, q2, hC] at h1 ⊢ <;> omega
     have hx : hxD c = some (c.toNat - 48) := by rw [dig_hex, if_pos (by omega)]
     have w2 : IntKind.u8.wrap (C - 48) = ((c.toNat - 48 : Nat) : Int) := by rw [IntKind.wrap_u8]; omega
     have w3 : IntKind.u64.wrap ((c.toNat - 48 : Nat) : Int) = ((c.toNat - 48 : Nat) : Int) := by rw [IntKind.wrap_u64]; omega
     have nx := next _ hx (by omega)
     obtain ⟨D, hD⟩ : ∃ D, c.toNat - 48 = D := ⟨_, rfl⟩
     rw [hD] at w2 w3 nx hx
     rw [hx] at hh
     simp only [w2, w3, nx, hC, h16, hg, bstr_size, bstr_data, w1, zaa, zab, zac, push_cast, ↓reduceIte, reduceCtorEq, zB, zE, zA, zS, zL, zD, zM]
     exact ⟨by decide, ⟨i + 1, U * 16 + D, by omega, nextU D (by omega), hh, by simp⟩, by omega⟩
    ·have h1 : ¬ (48 ≤ C ∧ C ≤ 57) := fun ⟨q1, q2⟩ => by
      simp [q1, q2, hC] at h1
     simp only [hC, h16, hg, bstr_size, bstr_data, w1, zaa, zab, zac, push_cast, ↓reduceIte, reduceCtorEq, zB, zE, zA, zS, zL, zD, zM]
     refine cnd_mk (fun h2 => ?_) (fun h2 => ?_)
     ·have h2 : 97 ≤ C ∧ C ≤ 102 := by
       by_cases q1 : C ≥ 97 <;> by_cases q2 : C ≤ 102 <;> simp [q1, q2] at h2 ⊢ <;> omega
      have hx : hxD c = some (c.toNat - 87) := by rw [dig_hex, if_neg (by omega), if_pos (by omega)]
      have w2 : IntKind.u8.wrap (C - 87) = ((c.toNat - 87 : Nat) : Int) := by rw [IntKind.wrap_u8]; omega
      have w3 : IntKind.u64.wrap ((c.toNat - 87 : Nat) : Int) = ((c.toNat - 87 : Nat) : Int) := by rw [IntKind.wrap_u64]; omega
      have nx := next _ hx (by omega)
      obtain ⟨D, hD⟩ : ∃ D, c.toNat - 87 = D := ⟨_, rfl⟩
      rw [hD] at w2 w3 nx hx
      rw [hx] at hh
      simp only [w2, w3, nx, hC, h16, hg, bstr_size, bstr_data, w1, zaa, zab, zac, push_cast, ↓reduceIte, reduceCtorEq, zB, zE, zA, zS, zL, zD, zM]
      exact ⟨by decide, ⟨i + 1, U * 16 + D, by omega, nextU D (by omega), hh, by simp⟩, by omega⟩
     ·have h2 : ¬ (97 ≤ C ∧ C ≤ 102) := fun ⟨q1, q2⟩ => by
       simp [q1, q2] at h2
      have hx : hxD c = none := by rw [dig_hex, if_neg (by omega), if_neg (by omega)]
      rw [hx] at hh
      rw [← hh]
      simp only [uw, push_cast, ↓reduceIte, reduceCtorEq, zB, zE, zA, zS, zL, zD, zM]
   ·have hi : i = 16 := by simp at hi; omega
    subst hi
    rw [List.drop_of_length_le (by omega), hxP] at hh
    rw [← hh]
    simp only [uw, push_cast, ↓reduceIte, reduceCtorEq, zB, zE, zA, zS, zL, zD, zM]
theorem iok_t (w : Nat) (hw : w < 18446744073709551616) : Triple P0 91 [uw w] [] (bl (isWB w)) [] := by
 refine ident_Ok_triple rfl (by decide) ?_
 simp only [ident_Ok_pc, uw, push_cast, ↓reduceIte, reduceCtorEq, zB, zE, zA, zS, zL, zD, zM]
 refine call_as (as' := [uw w]) rfl ?_
 refine call_mk (icell_any w hw) rfl trivial ?_
 cases isWB w <;> simp only [cel, push_cast, ↓reduceIte, reduceCtorEq, zB, zE, zA, zS, zL, zD, zM] <;> rfl
theorem hxP_lt : ∀ (s : Bs) (a k w : Nat), hxP s a = some w → a < 16 ^ k → w < 16 ^ (k + s.length)
 | [], a, k, w, h, ha => by cases h; simpa using ha
 | c :: r, a, k, w, h, ha => by
  rw [hxP] at h
  split at h
  ·cases h
  ·rename_i d hd
   have hd16 : d < 16 := by
    rw [dig_hex] at hd
    split at hd
    ·cases hd; omega
    ·split at hd
     ·cases hd; omega
     ·cases hd
   have := hxP_lt r (a * 16 + d) (k + 1) w h (by rw [Nat.pow_succ]; omega)
   rw [zah, show k + (r.length + 1) = k + 1 + r.length by omega]
   exact this
theorem digitsP_lt {s : Bs} {w : Nat} (h : digitsP s = some w) : w < 18446744073709551616 := by
 unfold digitsP at h
 split at h
 ·rename_i hl
  have := hxP_lt s 0 0 w h (by decide)
  rw [hl] at this
  exact this
 ·cases h
def identP (s : Bs) : Nat × Int := match digitsP s with
 | none => (0, 6)
 | some w => if isWB w then (w, 0) else (0, 5)
theorem iparse_t (s : Bs) : Triple P0 53 [sV s] [] (.tup [uw (identP s).1, int .i64 (identP s).2]) [] := by
 refine ident_Parse_triple rfl (by decide) ?_
 simp only [ident_Parse_pc, uw, push_cast, ↓reduceIte, reduceCtorEq, zB, zE, zA, zS, zL, zD, zM]
 refine call_mk (digits_t s) rfl trivial ?_
 unfold identP
 cases h : digitsP s with
 | none =>
  simp only [uw, push_cast, ↓reduceIte, reduceCtorEq, zB, zE, zA, zS, zL, zD, zM]
 | some w =>
  simp only [uw, push_cast, ↓reduceIte, reduceCtorEq, zB, zE, zA, zS, zL, zD, zM]
  refine call_as (as' := [uw w]) rfl ?_
  refine call_mk (iok_t w (digitsP_lt h)) rfl trivial ?_
  cases isWB w <;> simp only [push_cast, ↓reduceIte, reduceCtorEq, zB, zE, zA, zS, zL, zD, zM] <;> rfl

noncomputable def ask_form_whole_pc : PC :=
  (.seq (.reg [p_a 2 (.box (.t 0)), p_a 4 (.new [(.r (.v (.int .i64 0))), (.nils 1 (.v (.int .i64 0))), (.nils 1 (.v (.int .u64 0))), (.nils 2 (.agg [(.v (.int .i64 0)), (.v (.int .i64 0))])), (.nils 5 (.agg [(.v (.int .i64 0)), (.v (.int .i64 0)), (.v (.int .i64 0)), (.v (.int .i64 0)), (.v (.int .i64 0))]))]),
 p_s 5 (.mov (o_i 0))])
 (.seq (.block 0 (.seq (.reg [p_s 16 (.fa 0 (.t 2)), p_s 17 (.ld none (.t 16)), p_s 18 (.bin .eql (.t 17) (o_i 16)), p_m 15 18])
 (.cond (.t 15)
 (.seq (.reg [p_m 20 1, p_s 21 (.sll 1 (.t 20) (some (o_i 1)) none none), p_c 22 1 51 [.t 21], p_m 19 22, p_s 23 (.ext (.t 19) 0), p_s 24 (.ext (.t 19) 1), p_m 6 23, p_m 7 24])
 (.seq (.seq (.reg [p_m 25 7, p_s 26 (.bin .neq (.t 25) (o_i 0))])
 (.cond (.t 26)
 (.seq (.reg [p_s 27 (.build [(.r (.v (.int .i64 0))), (.nils 1 (.v (.int .i64 0))), (.nils 1 (.v (.int .u64 0))), (.nils 2 (.agg [(.v (.int .i64 0)), (.v (.int .i64 0))])), (.nils 5 (.agg [(.v (.int .i64 0)), (.v (.int .i64 0)), (.v (.int .i64 0)), (.v (.int .i64 0)), (.v (.int .i64 0))]))] []),
 p_m 28 7, ⟨none, none, 0, .act (.st 5 (.t 4) (.t 27))⟩, p_m 5 28])
 .ret)
 .skip))
 (.seq (.reg [p_s 29 (.fa 0 (.t 2)), p_s 30 (.ld none (.t 29)), p_m 31 6, p_s 32 (.build [(.r (.v (.int .i64 0))), (.nils 1 (.v (.int .i64 0))), (.nils 1 (.v (.int .u64 0))), (.nils 2 (.agg [(.v (.int .i64 0)), (.v (.int .i64 0))])), (.nils 5 (.agg [(.v (.int .i64 0)), (.v (.int .i64 0)), (.v (.int .i64 0)), (.v (.int .i64 0)), (.v (.int .i64 0))]))] [(0, 1, (.t 30)), (4, 1, (.t 31))]),
 ⟨none, none, 0, .act (.st 5 (.t 4) (.t 32))⟩, p_s 5 (.mov (o_i 0))])
 .ret)))
 (.seq (.reg [p_s 34 (.fa 2 (.t 2)), p_s 35 (.ld none (.t 34)), p_s 36 (.len false (.t 35)), p_s 37 (.bin .eql (.t 36) (o_i 0)), p_m 38 37, p_g 39 38 true (.mov (.t 1)), p_g 40 38 true (.len false (.t 39)),
 p_g 41 38 true (.bin .eql (.t 40) (o_i 0)), p_s 42 (.pick (.t 38) (.t 41) (.c (.r (.v (.bool false))))), p_m 33 42])
 (.cond (.t 33)
 (.seq (.reg [p_s 43 (.fa 0 (.t 2)), p_s 44 (.ld none (.t 43)), p_s 45 (.build [(.r (.v (.int .i64 0))), (.nils 1 (.v (.int .i64 0))), (.nils 1 (.v (.int .u64 0))), (.nils 2 (.agg [(.v (.int .i64 0)), (.v (.int .i64 0))])), (.nils 5 (.agg [(.v (.int .i64 0)), (.v (.int .i64 0)), (.v (.int .i64 0)), (.v (.int .i64 0)), (.v (.int .i64 0))]))] [(0, 1, (.t 44))]),
 ⟨none, none, 0, .act (.st 5 (.t 4) (.t 45))⟩, p_s 5 (.mov (o_i 0))])
 .ret)
 (.seq (.reg [p_s 47 (.fa 2 (.t 2)), p_s 48 (.ld none (.t 47)), p_s 49 (.len false (.t 48)), p_s 50 (.bin .eql (.t 49) (o_i 0)), p_m 51 50, p_g 52 51 false (.mov (.t 1)), p_g 53 51 false (.len false (.t 52)),
 p_g 54 51 false (.bin .eql (.t 53) (o_i 0)), p_s 55 (.pick (.t 51) (.c (.r (.v (.bool true)))) (.t 54)), p_m 46 55])
 (.cond (.t 46)
 (.seq (.reg [p_s 56 (.build [(.r (.v (.int .i64 0))), (.nils 1 (.v (.int .i64 0))), (.nils 1 (.v (.int .u64 0))), (.nils 2 (.agg [(.v (.int .i64 0)), (.v (.int .i64 0))])), (.nils 5 (.agg [(.v (.int .i64 0)), (.v (.int .i64 0)), (.v (.int .i64 0)), (.v (.int .i64 0)), (.v (.int .i64 0))]))] []),
 ⟨none, none, 0, .act (.st 5 (.t 4) (.t 56))⟩, p_s 5 (.mov (o_i 16))])
 .ret)
 .skip)))))))
 (.seq (.drw [p_s 58 (.ld (some 3) (.t 2)), p_m 59 1, p_s 60 (.sll 1 (.t 59) (some (o_i 1)) none none), p_s 61 (.toStr (.t 60)), p_c 62 2 52 [.t 58, .t 61], p_m 57 62, p_s 63 (.ext (.t 57) 0),
 p_s 64 (.ext (.t 57) 1), p_s 65 (.ext (.t 57) 2), p_a 8 (.new [(.r (.v (.int .i64 0))), (.nils 1 (.v (.int .i64 0))), (.nils 1 (.v (.int .u64 0))), (.nils 2 (.agg [(.v (.int .i64 0)), (.v (.int .i64 0))])), (.nils 5 (.agg [(.v (.int .i64 0)), (.v (.int .i64 0)), (.v (.int .i64 0)), (.v (.int .i64 0)), (.v (.int .i64 0))]))]),
 ⟨none, none, 0, .act (.st 5 (.t 8) (.t 63))⟩, p_m 9 64, p_m 10 65]
 [[], [], [1], [1, 2], [0, 1, 2, 3], [0, 1, 2, 3, 4], [0, 1, 2, 3, 4, 5], [0, 1, 2, 3, 4, 5], [0, 1, 2, 3, 4, 5], [], [0, 1, 2, 3, 4, 5, 6, 9], [0, 1, 2, 3, 4, 5, 6, 7, 9, 10], [0, 1, 2, 3, 4, 5, 6, 7, 8, 9, 10, 11]])
 (.seq (.seq (.reg [p_m 66 10, p_s 67 (.un .not (.t 66))])
 (.cond (.t 67)
 (.seq (.reg [p_s 68 (.build [(.r (.v (.int .i64 0))), (.nils 1 (.v (.int .i64 0))), (.nils 1 (.v (.int .u64 0))), (.nils 2 (.agg [(.v (.int .i64 0)), (.v (.int .i64 0))])), (.nils 5 (.agg [(.v (.int .i64 0)), (.v (.int .i64 0)), (.v (.int .i64 0)), (.v (.int .i64 0)), (.v (.int .i64 0))]))] []),
 ⟨none, none, 0, .act (.st 5 (.t 4) (.t 68))⟩, p_s 5 (.mov (o_i 16))])
 .ret)
 .skip))
 (.seq (.seq (.reg [p_m 69 9, p_s 70 (.len false (.t 69)), p_s 71 (.mov (o_i 0))])
 (.block 1 (.loop (.seq (.reg [p_s 72 (.bin .lss (.t 71) (.t 70))])
 (.seq (.cond (.t 72)
 .skip
 (.exit 1))
 (.seq (.block 2 (.seq (.reg [p_s 73 (.ia 1 (.v (.string ⟨#[]⟩)) (.t 69) (.t 71)), p_s 74 (.ld none (.t 73)), p_m 12 74])
 (.seq (.reg [p_m 76 12, p_c 77 3 53 [.t 76], p_m 75 77, p_s 78 (.ext (.t 75) 0), p_s 79 (.ext (.t 75) 1), p_m 13 78, p_m 14 79])
 (.seq (.seq (.reg [p_m 80 14, p_s 81 (.bin .neq (.t 80) (o_i 0))])
 (.cond (.t 81)
 (.seq (.reg [p_s 82 (.build [(.r (.v (.int .i64 0))), (.nils 1 (.v (.int .i64 0))), (.nils 1 (.v (.int .u64 0))), (.nils 2 (.agg [(.v (.int .i64 0)), (.v (.int .i64 0))])), (.nils 5 (.agg [(.v (.int .i64 0)), (.v (.int .i64 0)), (.v (.int .i64 0)), (.v (.int .i64 0)), (.v (.int .i64 0))]))] []),
 p_m 83 14, ⟨none, none, 0, .act (.st 5 (.t 4) (.t 82))⟩, p_m 5 83])
 .ret)
 .skip))
 (.reg [p_s 84 (.fa 2 (.t 8)), p_s 85 (.ld none (.t 84)), p_m 86 13, p_a 87 (.bsl 1 (.v (.int .u64 0)) [(.t 86)]), p_a 88 (.app 1 (.v (.int .u64 0)) 8 (.t 85) (.t 87)),
 p_s 89 (.fa 2 (.t 8)), ⟨none, none, 0, .act (.st 1 (.t 89) (.t 88))⟩])))))
 (.reg [p_s 90 (.bin .add (.t 71) (o_i 1)), p_m 71 90])))))))
 (.seq (.reg [p_s 91 (.ld (some 5) (.t 8)), ⟨none, none, 0, .act (.st 5 (.t 4) (.t 91))⟩, p_s 5 (.mov (o_i 0))])
 .ret))))))
theorem ask_form_whole_triple : Fun P0 27 2 [(4, false, some (29, (some 5))), (5, false, none)] ask_form_whole_pc := fun_mk Go.Proofs.Tryz.func27 rfl (by decide) (by kernel_rfl) (by decide) rfl (by kernel_rfl) (by kernel_rfl) (by decide)
noncomputable def ask_Parse_pc : PC :=
  (.seq (.reg [p_a 2 (.new [(.r (.v (.int .i64 0))), (.nils 1 (.v (.int .i64 0))), (.nils 1 (.v (.int .u64 0))), (.nils 2 (.agg [(.v (.int .i64 0)), (.v (.int .i64 0))])), (.nils 5 (.agg [(.v (.int .i64 0)), (.v (.int .i64 0)), (.v (.int .i64 0)), (.v (.int .i64 0)), (.v (.int .i64 0))]))]),
 p_s 3 (.mov (o_i 0))])
 (.seq (.seq (.reg [p_m 10 0, p_s 11 (.len false (.t 10)), p_s 12 (.bin .gtr (.t 11) (o_i 10000))])
 (.cond (.t 12)
 (.seq (.reg [p_s 13 (.build [(.r (.v (.int .i64 0))), (.nils 1 (.v (.int .i64 0))), (.nils 1 (.v (.int .u64 0))), (.nils 2 (.agg [(.v (.int .i64 0)), (.v (.int .i64 0))])), (.nils 5 (.agg [(.v (.int .i64 0)), (.v (.int .i64 0)), (.v (.int .i64 0)), (.v (.int .i64 0)), (.v (.int .i64 0))]))] []),
 ⟨none, none, 0, .act (.st 5 (.t 2) (.t 13))⟩, p_s 3 (.mov (o_i 11))])
 .ret)
 .skip))
 (.seq (.reg [p_m 15 0, p_a 16 (.bsl 1 (.v (.int .u8 0)) [(.c (.r (.v (.int .u8 47))))]), p_a 17 (.mrk (.t 16)), p_c 18 1 23 [.t 15, .t 17], p_m 14 18, p_s 19 (.ext (.t 14) 0),
 p_s 20 (.ext (.t 14) 1), p_a 4 (.new [(.nils 1 (.v (.int .u8 0)))]), ⟨none, none, 0, .act (.st 1 (.t 4) (.t 19))⟩, p_m 5 20])
 (.seq (.reg [p_s 21 (.ld none (.t 4)), p_c 22 2 24 [(.t 21), (.c (.fn (.func 25) []))], p_a 6 (.new [(.r (.v (.int .i64 0)))]), ⟨none, none, 0, .act (.st 1 (.t 6) (.t 22))⟩])
 (.seq (.seq (.reg [p_s 23 (.ld none (.t 6)), p_s 24 (.bin .lss (.t 23) (o_i 0))])
 (.cond (.t 24)
 (.reg [p_s 25 (.ld none (.t 4)), p_s 26 (.len false (.t 25)), ⟨none, none, 0, .act (.st 1 (.t 6) (.t 26))⟩])
 .skip))
 (.seq (.reg [p_s 28 (.mkf (.func 26) [(.t 4), (.t 6)]), p_c 29 3 21 [.t 28], p_m 27 29, p_s 30 (.ext (.t 27) 0), p_s 31 (.ext (.t 27) 1), p_a 7 (.new [(.r (.v (.int .i64 0))), (.r (.v (.string ⟨#[]⟩))), (.nils 2 (.agg [(.v (.string ⟨#[]⟩)), (.v (.bool false))]))]),
 ⟨none, none, 0, .act (.st 3 (.t 7) (.t 30))⟩, p_m 8 31])
 (.seq (.seq (.reg [p_s 32 (.ld none (.t 6)), p_s 33 (.ld none (.t 4)), p_s 34 (.len false (.t 33)), p_s 35 (.bin .lss (.t 32) (.t 34)), p_m 36 35, p_g 37 36 true (.ld none (.t 4)),
 p_g 38 36 true (.ld none (.t 6)), p_g 39 36 true (.ia 1 (.v (.int .u8 0)) (.t 37) (.t 38)), p_g 40 36 true (.ld none (.t 39)), p_g 41 36 true (.bin .eql (.t 40) (.c (.r (.v (.int .u8 10))))),
 p_s 42 (.pick (.t 36) (.t 41) (.c (.r (.v (.bool false))))), p_m 9 42])
 (.seq (.reg [p_m 43 5, p_s 44 (.un .not (.t 43)), p_m 45 44, p_g 46 45 false (.mov (.t 8)), p_g 47 45 false (.un .not (.t 46)), p_s 48 (.pick (.t 45) (.c (.r (.v (.bool true)))) (.t 47)),
 p_m 49 48, p_g 50 49 false (.mov (.t 9)), p_g 51 49 false (.fa 0 (.t 7)), p_g 52 49 false (.ld none (.t 51)), p_g 53 49 false (.bin .eql (.t 52) (o_i 16)), p_g 54 49 false (.beq true (.t 50) (.t 53)),
 p_s 55 (.pick (.t 49) (.c (.r (.v (.bool true)))) (.t 54))])
 (.cond (.t 55)
 (.seq (.reg [p_s 56 (.build [(.r (.v (.int .i64 0))), (.nils 1 (.v (.int .i64 0))), (.nils 1 (.v (.int .u64 0))), (.nils 2 (.agg [(.v (.int .i64 0)), (.v (.int .i64 0))])), (.nils 5 (.agg [(.v (.int .i64 0)), (.v (.int .i64 0)), (.v (.int .i64 0)), (.v (.int .i64 0)), (.v (.int .i64 0))]))] []),
 ⟨none, none, 0, .act (.st 5 (.t 2) (.t 56))⟩, p_s 3 (.mov (o_i 15))])
 .ret)
 .skip)))
 (.seq (.drw [p_s 57 (.ld (some 3) (.t 7)), p_s 58 (.ld none (.t 4)), p_s 59 (.ld none (.t 6)), p_s 60 (.sll 1 (.t 58) (some (.t 59)) none none), p_c 61 4 27 [.t 57, .t 60], p_s 62 (.ext (.t 61) 0),
 p_s 63 (.ext (.t 61) 1), ⟨none, none, 0, .act (.st 5 (.t 2) (.t 62))⟩, p_m 3 63]
 [[], [], [], [1, 2], [0, 1, 2, 3], [0, 1, 2, 3, 4], [0, 1, 2, 3, 4], [0, 1, 2, 3, 4, 5, 6], [0, 1, 2, 3, 4, 5, 6, 7]])
 .ret))))))))
theorem ask_Parse_triple : Fun P0 11 1 [(2, false, some (29, (some 5))), (3, false, none)] ask_Parse_pc := fun_mk Go.Proofs.Tryz.func11 rfl (by decide) (by kernel_rfl) (by decide) rfl (by kernel_rfl) (by kernel_rfl) (by decide)
section
variable (sz : Nat) (z : RV) (xs : List RV)
end
def wordsP : List Bs → List Nat → Except Int (List Nat)
 | [], acc => .ok acc
 | s :: r, acc => if (identP s).2 = 0 then wordsP r (acc ++ [(identP s).1]) else .error (identP s).2
def finP (k : Int) (ns : List Int) (rg : List (Int × Int)) : Except Int (List Nat) → AV × Int
 | .ok wl => (askA k ns wl rg, 0)
 | .error e => (askA 0 [] [] [], e)
def wholeR (f : Form) (rest : Bs) : AV × Int :=
 if f.2.2 = [] ∧ rest = [] then (askA f.1 [] [] [], 0)
 else if f.2.2 = [] ∨ rest = [] then (askA 0 [] [] [], 16)
 else if (queryR f rest.tail).1.2.2 = true then finP f.1 (queryR f rest.tail).1.1 (queryR f rest.tail).2 (wordsP (queryR f rest.tail).1.2.1 [])
 else (askA 0 [] [] [], 16)
theorem fldsR_len : ∀ (fs : List (UInt8 × Bool)) (ps : List Bs) (ns : List Int) (ws : List Bs), (fldsR fs ps ns ws).2.1.length ≤ ws.length + fs.length
 | [], ps, ns, ws => by simp [fldsR]
 | (c, w) :: fs, ps, ns, ws => by
  rw [fldsR]
  split
  ·simp
  ·rename_i v _
   cases w with
   | true =>
    have := fldsR_len fs ps.tail ns (ws ++ [v])
    simp at this ⊢
    omega
   | false =>
    simp only
    split
    ·simp
    ·rename_i n _
     have := fldsR_len fs ps.tail (ns ++ [n]) ws
     simp at this ⊢
     omega
theorem queryR_len (f : Form) (s : Bs) : (queryR f s).1.2.1.length ≤ f.2.2.length := by
 have hG : ∀ ps rg, (queryG f ps rg).1.2.1.length ≤ f.2.2.length := fun ps rg => by
  unfold queryG
  split
  ·simp
  ·have := fldsR_len f.2.2 ps [] []
   simpa using this
 unfold queryR
 split
 ·split
  ·simp
  ·split
   ·simp
   ·exact hG _ _
 ·exact hG _ _
def wz : List AV := [int .i64 0, .nils 1 (n8 0), .nils 1 (u8R 0), .nils 2 ptZ, .nils 5 opZ]
def wlos (k : Int) (ns : List Int) (rg : List (Int × Int)) (ws : List Bs) : List Nat → List Ob
 | [] => [rowS ws, .box wz, .box [int .i64 k, nilOr 1 (n8 0) (ns.map n8), .nils 1 (u8R 0), nilOr 2 ptZ (rg.map ptR), .nils 5 opZ]]
 | a :: r => [rowS ws, .box wz, .box [int .i64 k, nilOr 1 (n8 0) (ns.map n8), .own 2000003 0 0 (r.length + 1), nilOr 2 ptZ (rg.map ptR), .nils 5 opZ], .row 1 (u8R 0) true true ((a :: r).map u8R)]
set_option maxHeartbeats 4000000 in
theorem awhole_t (f : Form) (rest : Bs) (hl : rest.length ≤ 1000000) (hfl : f.2.2.length ≤ 1000) (hk : f.1 ≠ 16) : Triple P0 27 [.r (formR f), sb rest] [] (.tup [(wholeR f rest).1, int .i64 (wholeR f rest).2]) [] := by
  obtain ⟨Q, hQ⟩ : ∃ Q, wholeR f rest = Q := ⟨_, rfl⟩
  rw [hQ]
  unfold wholeR at hQ
  have hqt := aquery_t f rest.tail (by simp; omega) hfl
  obtain ⟨q, hq⟩ : ∃ q, queryR f rest.tail = q := ⟨_, rfl⟩
  rw [hq] at hqt hQ
  obtain ⟨⟨ns, ws, ok⟩, rg⟩ := q
  obtain ⟨k, nm, fs⟩ := f
  have hfr : formR (k, nm, fs) = .agg [.v (.int .i64 k), .v (.string (bstr nm)), .sl 2 (fs.map fldR)] := rfl
  simp only [hfr] at hqt hQ hfl hk ⊢
  have g16 : (k == 16) = false := by simp [hk]
  refine ask_form_whole_triple rfl (by decide) ?_
  have len0 : ∀ {α : Type} (l : List α), (((l.length : Nat) : Int) == 0) = decide (l = []) := fun l => by
    cases l with
    | nil => rfl
    | cons a r =>
      rw [zai]
      simp
      omega
  have lf := len0 fs
  have lr := len0 rest
  simp only [ask_form_whole_pc, g16, lf, lr, push_cast, ↓reduceIte, reduceCtorEq, zB, zE, zA, zS, zL, zD, zM]
  by_cases hf : fs = []
  · have d1 : decide (fs = []) = true := decide_eq_true hf
    by_cases hr : rest = []
    · have d2 : decide (rest = []) = true := decide_eq_true hr
      rw [if_pos ⟨hf, hr⟩] at hQ
      subst hQ
      simp only [d1, d2, lf, lr, push_cast, ↓reduceIte, reduceCtorEq, zB, zE, zA, zS, zL, zD, zM]
      rfl
    · have d2 : decide (rest = []) = false := decide_eq_false hr
      rw [if_neg (fun h => hr h.2), if_pos (.inl hf)] at hQ
      subst hQ
      simp only [d1, d2, lf, lr, push_cast, ↓reduceIte, reduceCtorEq, zB, zE, zA, zS, zL, zD, zM]
      rfl
  · have d1 : decide (fs = []) = false := decide_eq_false hf
    by_cases hr : rest = []
    · have d2 : decide (rest = []) = true := decide_eq_true hr
      rw [if_neg (fun h => hf h.1), if_pos (.inr hr)] at hQ
      subst hQ
      simp only [d1, d2, lf, lr, push_cast, ↓reduceIte, reduceCtorEq, zB, zE, zA, zS, zL, zD, zM]
      rfl
    · have d2 : decide (rest = []) = false := decide_eq_false hr
      rw [if_neg (fun h => hf h.1), if_neg (fun h => h.elim hf hr)] at hQ
      obtain ⟨N, hN⟩ : ∃ N : Int, ((rest.length : Nat) : Int) = N := ⟨_, rfl⟩
      rw [hN] at lr
      have hN1 : 1 ≤ N := by
        have : rest.length ≠ 0 := fun h => hr (List.length_eq_zero_iff.1 h)
        omega
      have e1 : List.drop (zad 1) (List.take N.toNat (bys rest)) = bys rest.tail := by
        rw [show N.toNat = rest.length by omega, take_map_len, show zad 1 = 1 from rfl, ← List.map_drop, List.drop_one]
      simp only [hN, d1, d2, lf, lr, e1, bys_isByte, bstr_of_bys, push_cast, ↓reduceIte, reduceCtorEq, zB, zE, zA, zS, zL, zD, zM]
      refine ⟨by omega, ?_⟩
      refine dcall_as (as' := [.r (formR (k, nm, fs)), sV rest.tail]) rfl ?_
      have hoc : okC 2 [] (wrdsO ws ok).length [] true = true := by cases ok <;> rfl
      refine dcall_mk hqt hoc trivial ?_
      cases ok with
      | false =>
        rw [if_neg (by simp)] at hQ
        subst hQ
        rcases ns with _ | ⟨n0, nr⟩ <;> rcases rg with _ | ⟨g0, gr⟩ <;> simp only [askA, nilOr, wrdsA, wrdsO, hN, d1, d2, lf, lr, e1, push_cast, ↓reduceIte, reduceCtorEq, zB, zE, zA, zS, zL, zD, zM]
        all_goals exact ⟨by kernel_rfl, rfl⟩
      | true =>
        rw [if_pos rfl] at hQ
        have hQ : finP k ns rg (wordsP ws []) = Q := hQ
        obtain ⟨NS, hNS⟩ : ∃ x, x = ns := ⟨_, rfl⟩
        obtain ⟨RG, hRG⟩ : ∃ x, x = rg := ⟨_, rfl⟩
        have hwl : ws.length ≤ 1000 := by
          have := queryR_len (k, nm, fs) rest.tail
          rw [hq] at this
          simp only at this
          omega
        rcases ns with _ | ⟨n0, nr⟩ <;> rcases rg with _ | ⟨g0, gr⟩ <;> simp only [askA, nilOr, wrdsA, wrdsO, hN, d1, d2, lf, lr, e1, push_cast, ↓reduceIte, reduceCtorEq, zB, zE, zA, zS, zL, zD, zM]
        all_goals refine ⟨by kernel_rfl, ?_⟩
        all_goals refine run_loop [(69, false), (70, false), (71, false), (4, false), (8, false)] (fun vs pos los => ∃ (i : Nat) (acc : List Nat), i ≤ ws.length ∧ acc.length = i ∧ wordsP (ws.drop i) acc = wordsP ws [] ∧ vs = [.own 2000000 0 0 ws.length, int .i64 ws.length, int .i64 i, .ptr 2000001 0 0, .ptr 2000002 0 0] ∧ pos = [] ∧ los = wlos k NS RG ws acc) (fun vs _ _ => match vs with | [_, _, .r (.v (.int _ j)), _, _] => (ws.length - j).toNat | _ => 0) rfl ?_ ?_
        all_goals (subst hNS; subst hRG)
        all_goals first
          | (simp only [push_cast, ↓reduceIte, reduceCtorEq, zB, zE, zA, zS, zL, zD, zM]
             exact ⟨0, [], by omega, rfl, rfl, rfl, rfl⟩)
          | (rintro vs pos los ⟨i, acc, i0, hal, hwd, rfl, rfl, rfl⟩
             rcases acc with _ | ⟨a0, ar⟩ <;> simp only [wlos, wz, nilOr, zaa, zab, zac, push_cast, ↓reduceIte, reduceCtorEq, zB, zE, zA, zS, zL, zD, zM]
             all_goals refine cnd_mk (fun hi => ?_) (fun hi => ?_)
             all_goals first
               | (have hi : i = ws.length := zak i0 (by simpa using hi)
                  rw [hi, zao, wordsP] at hwd
                  rw [← hwd] at hQ
                  subst hQ
                  simp only [finP, zaa, zab, zac, push_cast, ↓reduceIte, reduceCtorEq, zB, zE, zA, zS, zL, zD, zM]
                  rfl)
               | (have hi : i < ws.length := by simpa using hi
                  have hd : ws.drop i = ws[i] :: ws.drop (i + 1) := zag hi
                  have hg : ∀ z, (strs ws).getD i z = .v (.string (bstr ws[i])) := fun z => by
                    rw [zaf]
                    simp [hi, strR]
                  have w1 : IntKind.i64.wrap ((i : Int) + 1) = (i : Int) + 1 := wrap_id (by omega)
                  rw [hd, wordsP] at hwd
                  have hip := iparse_t ws[i]
                  obtain ⟨⟨W, E⟩, hWE⟩ : ∃ x, identP ws[i] = x := ⟨_, rfl⟩
                  rw [hWE] at hwd hip
                  simp only [hg, w1, zaa, zab, zac, push_cast, ↓reduceIte, reduceCtorEq, zB, zE, zA, zS, zL, zD, zM]
                  refine ⟨by omega, ?_⟩
                  refine call_mk hip rfl trivial ?_
                  simp only [uw, hg, w1, zaa, zab, zac, push_cast, ↓reduceIte, reduceCtorEq, zB, zE, zA, zS, zL, zD, zM]
                  refine cnd_mk (fun he => ?_) (fun he => ?_)
                  · have he : E ≠ 0 := by simpa using he
                    rw [if_neg he] at hwd
                    rw [← hwd] at hQ
                    subst hQ
                    simp only [finP, zaa, zab, zac, push_cast, ↓reduceIte, reduceCtorEq, zB, zE, zA, zS, zL, zD, zM]
                    rfl
                  · have he : E = 0 := by simpa using he
                    rw [if_pos he] at hwd
                    simp only [hg, w1, zaa, zab, zac, push_cast, ↓reduceIte, reduceCtorEq, zB, zE, zA, zS, zL, zD, zM]
                    refine ⟨by simp, by have := maxLen_big; simp only [zah, zam] at hal; omega, ⟨i + 1, _, by omega, by simp only [zal, zah, zam] at hal ⊢; omega, hwd, by simp, by simp [u8R]⟩, by omega⟩))
theorem upTo_nm (q : UInt8 → Bool) : ∀ l : Bs, (upTo q l).1.length ≤ l.length
 | [] => by simp [upTo]
 | x :: r => by
  have := upTo_nm q r
  rw [upTo]
  split <;> simp
  omega
theorem wholeR_ask (f : Form) (rest : Bs) : ∃ k ns ws rg, (wholeR f rest).1 = askA k ns ws rg := by
 unfold wholeR
 split
 ·exact ⟨_, _, _, _, rfl⟩
 ·split
  ·exact ⟨_, _, _, _, rfl⟩
  ·split
   ·unfold finP
    split <;> exact ⟨_, _, _, _, rfl⟩
   ·exact ⟨_, _, _, _, rfl⟩
def noForm : AV × Int := (askA 0 [] [] [], 15)
def nmF (l : Bs) : Form → Bool := fun f => f.2.1 == l
def bhd (l : Bs) : Bs := if (l.take 1 == [47]) = true then l.drop 1 else l
def parseG (W : Form → Bs → AV × Int) (l : Bs) : AV × Int :=
 if 10000 < l.length then (askA 0 [] [] [], 11)
 else match formsL.find? (nmF (upTo stopB (bhd l)).1) with
  | none => noForm
  | some f => if (l.take 1 == [47]) = false ∨ decide (((upTo stopB (bhd l)).2.headD 0).toNat = 10) ≠ decide (f.1 = 16) then noForm else W f (upTo stopB (bhd l)).2
def parseR (l : Bs) : AV × Int := parseG wholeR l
def askB (k : Int) (ns : List Int) (ws : List Nat) (rg : List (Int × Int)) (os : List RV) : AV :=
 .agg [int .i64 k, nilOr 1 (n8 0) (ns.map n8), nilOr 1 (u8R 0) (ws.map u8R), nilOr 2 ptZ (rg.map ptR), nilOr 5 opZ os]
set_option maxHeartbeats 4000000 in
theorem aparse_g (W : Form → Bs → AV × Int) (hask : ∀ f rest, ∃ k ns ws rg os, (W f rest).1 = askB k ns ws rg os ∧ (ns = [] ∨ os = [])) (l : Bs) (hl : l.length ≤ 140737488355328) (hD : ∀ i, i < l.length → Dec (l.drop i))
  (hwt : ∀ f, f ∈ formsL → (l.take 1 == [47]) = true → formsL.find? (nmF (upTo stopB (bhd l)).1) = some f → decide (((upTo stopB (bhd l)).2.headD 0).toNat = 10) = decide (f.1 = 16) → (upTo stopB (bhd l)).2.length ≤ 10000 →
   Triple P0 27 [.r (formR f), sb (upTo stopB (bhd l)).2] [] (.tup [(W f (upTo stopB (bhd l)).2).1, int .i64 (W f (upTo stopB (bhd l)).2).2]) []) :
  Triple P0 11 [sb l] [] (.tup [(parseG W l).1, int .i64 (parseG W l).2]) [] := by
 obtain ⟨Q, hQ⟩ : ∃ Q, parseG W l = Q := ⟨_, rfl⟩
 rw [hQ]
 unfold parseG at hQ
 refine ask_Parse_triple rfl (by decide) ?_
 simp only [ask_Parse_pc, push_cast, ↓reduceIte, reduceCtorEq, zB, zE, zA, zS, zL, zD, zM]
 refine cnd_mk (fun hb => ?_) (fun hb => ?_)
 ·have hb : 10000 < l.length := by simp at hb; omega
  rw [if_pos hb] at hQ
  subst hQ
  simp only [push_cast, ↓reduceIte, reduceCtorEq, zB, zE, zA, zS, zL, zD, zM]
  rfl
 ·have hb : l.length ≤ 10000 := by simp at hb; omega
  rw [if_neg (by omega)] at hQ
  simp only [push_cast, ↓reduceIte, reduceCtorEq, zB, zE, zA, zS, zL, zD, zM]
  refine ⟨by simp, ?_⟩
  refine callA_give ?_
  simp only [push_cast, ↓reduceIte, reduceCtorEq, zB, zE, zA, zS, zL, zD, zM]
  refine call_as (as' := [sb l, sb [47]]) rfl ?_
  have hcut := bcut_t l [47] rfl
  obtain ⟨A, hA⟩ : ∃ A, bhd l = A := ⟨_, rfl⟩
  have hDA : ∀ i, i < A.length → Dec (A.drop i) := fun i hi => by
   rw [← hA] at hi ⊢
   unfold bhd at hi ⊢
   split
   ·rename_i h
    rw [if_pos h, List.length_drop] at hi
    rw [List.drop_drop]
    exact hD _ (by omega)
   ·rename_i h
    rw [if_neg h] at hi
    exact hD i hi
  have hAl : A.length ≤ 10000 := by
   rw [← hA]
   unfold bhd
   split
   ·simp; omega
   ·exact hb
  rw [hA] at hQ hwt
  have hix := idx_t A (by omega) hDA
  have happ := upTo_app stopB A
  have hnm := upTo_nm stopB A
  obtain ⟨⟨nm, rest⟩, hup⟩ : ∃ x, upTo stopB A = x := ⟨_, rfl⟩
  rw [hup] at hix happ hQ hwt hnm
  simp only at hix happ hQ hwt hnm
  have hfn : isFn P0 26 = true := rfl
  have htk : A.take nm.length = nm := by rw [← happ]; simp
  have hnA : nm.length ≤ A.length := by rw [← happ]; simp
  have hfd := find2_t 26 [sb A] [int .i64 nm.length] rfl rfl hfn (nmF nm) fun f _ => by
   have := parse2_t f A nm.length hnA
   rw [htk] at this
   exact this
  have hcv : (if (l.take 1 == [47]) = true then AV.tup [sb (l.drop 1), bl true] else .tup [sb l, bl false]) = .tup [sb A, bl (l.take 1 == [47])] := by
   rw [← hA]
   unfold bhd
   cases l.take 1 == [47] <;> rfl
  rw [hcv] at hcut
  clear hcv hD hDA
  obtain ⟨B, hB⟩ : ∃ B, (l.take 1 == [47]) = B := ⟨_, rfl⟩
  rw [hB] at hcut hQ hwt
  refine call_mk hcut rfl trivial ?_
  simp only [push_cast, ↓reduceIte, reduceCtorEq, zB, zE, zA, zS, zL, zD, zM]
  refine call_mk hix rfl trivial ?_
  have hlen : A.length = nm.length + rest.length := by rw [← happ]; simp
  obtain ⟨N, hN⟩ : ∃ N : Int, ((nm.length : Nat) : Int) = N := ⟨_, rfl⟩
  have hN0 : 0 ≤ N := by omega
  rw [hN] at hfd
  have hfeed : ∀ (c : Nat), c = (rest.headD 0).toNat → True := fun _ _ => trivial
  by_cases hre : rest = []
  ·subst hre
   rw [if_pos rfl]
   have hlN : ((A.length : Nat) : Int) = N := by rw [hlen]; simpa using hN
   have g1 : decide ((-1 : Int) < 0) = true := rfl
   have g2 : decide (N < N) = false := by simp
   have g3 : (bys A).getD N.toNat (.v (.int .u8 0)) = .v (.int .u8 0) := by
    rw [zaf, zbb (by simp; omega)]
    rfl
   simp only [g1, hlN, hfn, push_cast, ↓reduceIte, reduceCtorEq, zB, zE, zA, zS, zL, zD, zM]
   refine call_mk hfd rfl ⟨rfl, rfl, trivial⟩ ?_
   cases ho : formsL.find? (nmF nm) with
   | none =>
    rw [ho] at hQ
    simp only at hQ
    subst hQ
    simp only [findV, g1, g2, g3, hlN, hfn, push_cast, ↓reduceIte, reduceCtorEq, zB, zE, zA, zS, zL, zD, zM]
    repeat refine And.intro (by first | omega | (cases B <;> simp)) ?_
    refine cnd_mk (fun hc => ?_) (fun hc => ?_)
    ·simp only [push_cast, ↓reduceIte, reduceCtorEq, zB, zE, zA, zS, zL, zD, zM]
     rfl
    ·cases B <;> simp at hc
   | some f =>
    have hmem := List.mem_of_find?_eq_some ho
    have hfr : formR f = .agg [.v (.int .i64 f.1), .v (.string (bstr f.2.1)), .sl 2 (f.2.2.map fldR)] := rfl
    rw [ho] at hQ
    simp only at hQ
    simp only [findV, hfr, g1, g2, g3, hlN, hfn, push_cast, ↓reduceIte, reduceCtorEq, zB, zE, zA, zS, zL, zD, zM]
    repeat refine And.intro (by first | omega | (cases B <;> simp)) ?_
    refine cnd_mk (fun hc => ?_) (fun hc => ?_)
    ·have hbad : B = false ∨ decide ((([] : Bs).headD 0).toNat = 10) ≠ decide (f.1 = 16) := by
      cases B
      ·exact .inl rfl
      ·right
       intro e
       by_cases q : f.1 = 16
       ·simp [q] at e
       ·simp [q] at hc
     rw [if_pos hbad] at hQ
     subst hQ
     simp only [push_cast, ↓reduceIte, reduceCtorEq, zB, zE, zA, zS, zL, zD, zM]
     rfl
    ·have hgood : B = true ∧ decide ((([] : Bs).headD 0).toNat = 10) = decide (f.1 = 16) := by
      cases B
      ·simp at hc
      ·refine ⟨rfl, ?_⟩
       by_cases q : f.1 = 16
       ·simp [q] at hc
       ·simp [q]
     obtain ⟨rfl, hgood⟩ := hgood
     rw [if_neg (fun h => h.elim (fun h => by cases h) (fun h => h hgood))] at hQ
     have hwt := hwt f hmem rfl ho hgood (by first | (simp; done) | (simp only [zah] at hlen ⊢; omega))
     rw [hQ] at hwt
     simp only [hfr, g1, g2, g3, hlN, hfn, zaa, zab, zac, push_cast, ↓reduceIte, reduceCtorEq, zB, zE, zA, zS, zL, zD, zM]
     refine ⟨by omega, ?_⟩
     refine dcall_as (as' := [.r (formR f), sb ([])]) (by rw [show List.drop N.toNat (List.take N.toNat (bys A)) = [] by rw [List.drop_eq_nil_of_le (by simp; omega)]]; rfl) ?_
     refine dcall_mk hwt rfl trivial ?_
     obtain ⟨k', ns, ws, rg, os, hask, hno⟩ := hask f ([])
     rw [hQ] at hask
     rw [hask]
     rcases hno with rfl | rfl
     ·rcases ws with _ | ⟨w0, wr⟩ <;> rcases rg with _ | ⟨g0, gr⟩ <;> rcases os with _ | ⟨o0, or⟩ <;> simp only [askB, nilOr, push_cast, ↓reduceIte, reduceCtorEq, zB, zE, zA, zS, zL, zD, zM] <;> kernel_rfl
     ·rcases ns with _ | ⟨n0, nr⟩ <;> rcases ws with _ | ⟨w0, wr⟩ <;> rcases rg with _ | ⟨g0, gr⟩ <;> simp only [askB, nilOr, push_cast, ↓reduceIte, reduceCtorEq, zB, zE, zA, zS, zL, zD, zM] <;> kernel_rfl
  ·rw [if_neg hre, hN]
   have g1 : decide (N < 0) = false := by simp; omega
   simp only [g1, hfn, push_cast, ↓reduceIte, reduceCtorEq, zB, zE, zA, zS, zL, zD, zM]
   refine call_mk hfd rfl ⟨rfl, rfl, trivial⟩ ?_
   obtain ⟨c, tl, rfl⟩ : ∃ c tl, rest = c :: tl := by
    cases rest with
    | nil => exact absurd rfl hre
    | cons c tl => exact ⟨c, tl, rfl⟩
   have e9 : List.drop N.toNat (List.take ((A.length : Nat) : Int).toNat (bys A)) = bys (c :: tl) := by
    rw [zaa, take_map_len, ← List.map_drop, show N.toNat = nm.length by omega, ← happ]
    simp
   obtain ⟨L, hL⟩ : ∃ L : Int, ((A.length : Nat) : Int) = L := ⟨_, rfl⟩
   rw [hL] at e9
   have hLN : N < L := by
    rw [zah] at hlen
    omega
   have g2 : decide (N < L) = true := decide_eq_true hLN
   have g3 : ∀ z, (bys A).getD N.toNat z = .v (.int .u8 c.toNat) := fun z => by
    rw [← happ, show N.toNat = nm.length by omega]
    show (List.map by8 (nm ++ c :: tl)).getD nm.length z = _
    rw [zaq, zaf, zau (by simp)]
    simp [by8]
   cases ho : formsL.find? (nmF nm) with
   | none =>
    rw [ho] at hQ
    simp only at hQ
    subst hQ
    simp only [findV, g1, g2, g3, hL, hfn, push_cast, ↓reduceIte, reduceCtorEq, zB, zE, zA, zS, zL, zD, zM]
    repeat refine And.intro (by first | omega | (cases B <;> simp)) ?_
    refine cnd_mk (fun hc => ?_) (fun hc => ?_)
    ·simp only [push_cast, ↓reduceIte, reduceCtorEq, zB, zE, zA, zS, zL, zD, zM]
     rfl
    ·cases B <;> simp at hc
   | some f =>
    have hmem := List.mem_of_find?_eq_some ho
    have hfr : formR f = .agg [.v (.int .i64 f.1), .v (.string (bstr f.2.1)), .sl 2 (f.2.2.map fldR)] := rfl
    rw [ho] at hQ
    simp only at hQ
    simp only [findV, hfr, g1, g2, g3, hL, hfn, push_cast, ↓reduceIte, reduceCtorEq, zB, zE, zA, zS, zL, zD, zM]
    repeat refine And.intro (by first | omega | (cases B <;> simp)) ?_
    refine cnd_mk (fun hc => ?_) (fun hc => ?_)
    ·have hbad : B = false ∨ decide (((c :: tl).headD 0).toNat = 10) ≠ decide (f.1 = 16) := by
      cases B
      ·exact .inl rfl
      ·right
       intro e
       have hcc : ((((c.toNat : Nat) : Int) == 10)) = decide (c.toNat = 10) := by
        rw [zai]
        simp
        omega
       have hff : (f.1 == 16) = decide (f.1 = 16) := by rw [zai]; simp
       have e : decide (c.toNat = 10) = decide (f.1 = 16) := e
       rw [hcc, hff, e] at hc
       cases decide (f.1 = 16) <;> simp at hc
     rw [if_pos hbad] at hQ
     subst hQ
     simp only [push_cast, ↓reduceIte, reduceCtorEq, zB, zE, zA, zS, zL, zD, zM]
     rfl
    ·have hgood : B = true ∧ decide (((c :: tl).headD 0).toNat = 10) = decide (f.1 = 16) := by
      cases B
      ·simp at hc
      ·refine ⟨rfl, ?_⟩
       have hcc : ((((c.toNat : Nat) : Int) == 10)) = decide (c.toNat = 10) := by
        rw [zai]
        simp
        omega
       have hff : (f.1 == 16) = decide (f.1 = 16) := by rw [zai]; simp
       show decide (c.toNat = 10) = decide (f.1 = 16)
       rw [hcc, hff] at hc
       revert hc
       cases decide (c.toNat = 10) <;> cases decide (f.1 = 16) <;> simp
     obtain ⟨rfl, hgood⟩ := hgood
     rw [if_neg (fun h => h.elim (fun h => by cases h) (fun h => h hgood))] at hQ
     have hwt := hwt f hmem rfl ho hgood (by first | (simp; done) | (simp only [zah] at hlen ⊢; omega))
     rw [hQ] at hwt
     simp only [hfr, g1, g2, g3, hL, hfn, zaa, zab, zac, push_cast, ↓reduceIte, reduceCtorEq, zB, zE, zA, zS, zL, zD, zM]
     refine ⟨by omega, ?_⟩
     refine dcall_as (as' := [.r (formR f), sb (c :: tl)]) (by rw [e9]; rfl) ?_
     refine dcall_mk hwt rfl trivial ?_
     obtain ⟨k', ns, ws, rg, os, hask, hno⟩ := hask f (c :: tl)
     rw [hQ] at hask
     rw [hask]
     rcases hno with rfl | rfl
     ·rcases ws with _ | ⟨w0, wr⟩ <;> rcases rg with _ | ⟨g0, gr⟩ <;> rcases os with _ | ⟨o0, or⟩ <;> simp only [askB, nilOr, push_cast, ↓reduceIte, reduceCtorEq, zB, zE, zA, zS, zL, zD, zM] <;> kernel_rfl
     ·rcases ns with _ | ⟨n0, nr⟩ <;> rcases ws with _ | ⟨w0, wr⟩ <;> rcases rg with _ | ⟨g0, gr⟩ <;> simp only [askB, nilOr, push_cast, ↓reduceIte, reduceCtorEq, zB, zE, zA, zS, zL, zD, zM] <;> kernel_rfl
theorem aparse_t (l : Bs) (hl : l.length ≤ 140737488355328) (hD : ∀ i, i < l.length → Dec (l.drop i)) (hnl : ∀ f, f.1 = 16 → f ∈ formsL → (l.take 1 == [47]) = true → formsL.find? (nmF (upTo stopB (bhd l)).1) = some f → ((upTo stopB (bhd l)).2.headD 0).toNat ≠ 10) : Triple P0 11 [sb l] [] (.tup [(parseR l).1, int .i64 (parseR l).2]) [] := by
 refine aparse_g wholeR (fun f rest => ?_) l hl hD fun f hm hB hf hg hlen => ?_
 ·obtain ⟨k, ns, ws, rg, h⟩ := wholeR_ask f rest
  exact ⟨k, ns, ws, rg, [], h, .inr rfl⟩
 ·have h16 : f.1 ≠ 16 := fun e => by
   rw [decide_eq_true e] at hg
   exact hnl f e hm hB hf (of_decide_eq_true hg)
  have hfl : f.2.2.length ≤ 1000 := by
   have : ∀ g ∈ formsL, g.2.2.length ≤ 1000 := by decide
   exact this f hm
  exact awhole_t f _ (by omega) hfl h16

noncomputable def apiaryref1_Children_pc : PC :=
  (.seq (.reg [p_a 1 (.box (.t 0)), p_s 2 (.mov (.c (.nils 3 (.agg [(.v (.int .i64 0)), (.v (.int .i64 0)), (.v (.int .i64 0))])))), p_s 3 (.mov (o_i 0))])
 (.seq (.block 0 (.seq (.reg [p_s 10 (.ld (some 3) (.t 1)), p_c 11 1 54 [.t 10], p_s 12 (.un .not (.t 11)), p_m 9 12])
 (.cond (.t 9)
 (.seq (.reg [p_s 2 (.mov (.c (.nils 3 (.agg [(.v (.int .i64 0)), (.v (.int .i64 0)), (.v (.int .i64 0))])))), p_s 3 (.mov (o_i 2))])
 .ret)
 (.seq (.reg [p_s 14 (.fa 0 (.t 1)), p_s 15 (.ld none (.t 14)), p_s 16 (.bin .eql (.t 15) (o_i 12)), p_m 13 16])
 (.cond (.t 13)
 (.seq (.reg [p_s 2 (.mov (.c (.nils 3 (.agg [(.v (.int .i64 0)), (.v (.int .i64 0)), (.v (.int .i64 0))])))), p_s 3 (.mov (o_i 1))])
 .ret)
 .skip)))))
 (.seq (.reg [p_s 18 (.fa 1 (.t 1)), p_s 19 (.ld (some 2) (.t 18)), p_s 20 (.build [(.r (.v (.int .i64 0))), (.r (.v (.int .i64 0)))] [(0, 1, (o_i 2)), (1, 1, (o_i 1))]), p_c 21 2 92 [.t 19, .t 20],
 p_m 17 21, p_s 22 (.ext (.t 17) 0), p_s 23 (.ext (.t 17) 1), p_a 4 (.new [(.r (.v (.int .i64 0))), (.r (.v (.int .i64 0)))]), ⟨none, none, 0, .act (.st 2 (.t 4) (.t 22))⟩,
 p_m 5 23])
 (.seq (.reg [p_s 24 (.fa 0 (.t 1)), p_s 25 (.ld none (.t 24)), p_s 26 (.bin .add (.t 25) (o_i 1)), p_s 27 (.ld (some 2) (.t 4)), p_s 28 (.build [(.r (.v (.int .i64 0))), (.r (.v (.int .i64 0))), (.r (.v (.int .i64 0)))] [(0, 1, (.t 26)), (1, 2, (.t 27))]),
 p_a 29 (.bsl 3 (.agg [(.v (.int .i64 0)), (.v (.int .i64 0)), (.v (.int .i64 0))]) [(.t 28)]), p_m 6 29])
 (.seq (.seq (.reg [p_s 7 (.mov (o_i 0))])
 (.block 1 (.loop (.seq (.seq (.reg [p_m 30 7, p_s 31 (.bin .lss (.t 30) (o_i 6))])
 (.cond (.t 31)
 .skip
 (.exit 1)))
 (.seq (.block 2 (.seq (.reg [p_m 34 7, p_c 35 3 94 [.t 34], p_a 8 (.new [(.r (.v (.int .i64 0))), (.r (.v (.int .i64 0)))]), ⟨none, none, 0, .act (.st 2 (.t 8) (.t 35))⟩])
 (.reg [p_m 36 6, p_s 37 (.fa 0 (.t 1)), p_s 38 (.ld none (.t 37)), p_s 39 (.bin .add (.t 38) (o_i 1)), p_s 40 (.fa 0 (.t 4)), p_s 41 (.ld none (.t 40)), p_s 42 (.fa 0 (.t 8)),
 p_s 43 (.ld none (.t 42)), p_s 44 (.bin .add (.t 41) (.t 43)), p_s 45 (.fa 1 (.t 4)), p_s 46 (.ld none (.t 45)), p_s 47 (.fa 1 (.t 8)), p_s 48 (.ld none (.t 47)),
 p_s 49 (.bin .add (.t 46) (.t 48)), p_s 50 (.build [(.r (.v (.int .i64 0))), (.r (.v (.int .i64 0)))] [(0, 1, (.t 44)), (1, 1, (.t 49))]), p_s 51 (.build [(.r (.v (.int .i64 0))), (.r (.v (.int .i64 0))), (.r (.v (.int .i64 0)))] [(0, 1, (.t 39)), (1, 2, (.t 50))]),
 p_a 52 (.bsl 3 (.agg [(.v (.int .i64 0)), (.v (.int .i64 0)), (.v (.int .i64 0))]) [(.t 51)]), p_a 53 (.app 3 (.agg [(.v (.int .i64 0)), (.v (.int .i64 0)), (.v (.int .i64 0))]) 24 (.t 36) (.t 52)),
 p_m 6 53])))
 (.reg [p_m 32 7, p_s 33 (.bin .add (.t 32) (o_i 1)), p_m 7 33]))))))
 (.seq (.reg [p_m 54 6, p_m 2 54, p_s 3 (.mov (o_i 0))])
 .ret))))))
theorem apiaryref1_Children_triple : Fun P0 58 1 [(2, false, none), (3, false, none)] apiaryref1_Children_pc := fun_mk Go.Proofs.Tryz.func58 rfl (by decide) (by kernel_rfl) (by decide) rfl (by kernel_rfl) (by kernel_rfl) (by decide)
noncomputable def apiarylaw4_Some_pc : PC :=
  (.seq (.reg [p_a 6 (.new [(.r (.v (.int .i64 0))), (.r (.v (.int .i64 0))), (.r (.v (.int .i64 0)))])])
 (.seq (.reg [p_m 13 2, p_s 14 (.bin .rem (.t 13) (o_i 13)), p_s 15 (.bin .add (.t 14) (o_i 13)), p_s 16 (.bin .rem (.t 15) (o_i 13)), p_m 2 16])
 (.seq (.seq (.reg [p_m 17 1, p_s 18 (.bin .and (.t 17) (o_i 1)), p_s 19 (.bin .eql (.t 18) (o_i 0))])
 (.cond (.t 19)
 (.seq (.reg [p_m 21 0, p_m 22 1, p_c 23 1 56 [.t 21, .t 22], p_m 20 23, p_s 24 (.ext (.t 20) 0), p_s 25 (.ext (.t 20) 1), p_m 0 24, p_m 1 25])
 (.seq (.reg [p_m 27 0, p_m 28 1, p_m 29 2, p_c 30 2 57 [.t 27, .t 28, .t 29], p_m 26 30, p_s 31 (.ext (.t 26) 0), p_s 32 (.ext (.t 26) 1), p_a 7 (.new [(.r (.v (.int .i64 0))), (.r (.v (.int .i64 0)))]),
 ⟨none, none, 0, .act (.st 2 (.t 7) (.t 31))⟩, p_m 8 32])
 (.seq (.reg [p_m 33 2, p_s 34 (.ld (some 2) (.t 7)), p_s 35 (.build [(.r (.v (.int .i64 0))), (.r (.v (.int .i64 0))), (.r (.v (.int .i64 0)))] [(0, 1, (.t 33)), (1, 2, (.t 34))]),
 ⟨none, none, 0, .act (.st 3 (.t 6) (.t 35))⟩])
 .ret)))
 .skip))
 (.seq (.reg [p_m 36 0, p_s 37 (.bin .and (.t 36) (o_i 1023)), p_s 38 (.bin .sub (.t 37) (o_i 512)), p_m 39 0, p_s 40 (.bin .shr (.t 39) (.c (.r (.v (.int .u64 10))))), p_s 41 (.bin .and (.t 40) (o_i 1023)),
 p_s 42 (.bin .sub (.t 41) (o_i 512)), p_s 43 (.build [(.r (.v (.int .i64 0))), (.r (.v (.int .i64 0)))] [(0, 1, (.t 38)), (1, 1, (.t 42))]), p_s 44 (.build [(.r (.v (.int .i64 0))), (.r (.v (.int .i64 0))), (.r (.v (.int .i64 0)))] [(1, 2, (.t 43))]),
 p_a 9 (.new [(.r (.v (.int .i64 0))), (.r (.v (.int .i64 0))), (.r (.v (.int .i64 0)))]), ⟨none, none, 0, .act (.st 3 (.t 9) (.t 44))⟩])
 (.seq (.seq (.reg [p_s 10 (.mov (o_i 0))])
 (.block 0 (.loop (.seq (.seq (.reg [p_m 45 10, p_m 46 2, p_s 47 (.bin .lss (.t 45) (.t 46))])
 (.cond (.t 47)
 .skip
 (.exit 0)))
 (.seq (.block 1 (.seq (.reg [p_s 51 (.ld (some 3) (.t 9)), p_c 52 3 58 [.t 51], p_m 50 52, p_s 53 (.ext (.t 50) 0), p_s 54 (.ext (.t 50) 1), p_m 11 53, p_m 12 54])
 (.reg [p_m 55 11, p_m 56 1, p_m 57 10, p_s 58 (.bin .mul (o_i 3) (.t 57)), p_s 59 (.bin .add (.t 58) (o_i 1)), p_s 60 (.bin .shr (.t 56) (.t 59)), p_s 61 (.bin .and (.t 60) (o_i 63)),
 p_s 62 (.bin .rem (.t 61) (o_i 7)), p_s 63 (.ia 3 (.agg [(.v (.int .i64 0)), (.v (.int .i64 0)), (.v (.int .i64 0))]) (.t 55) (.t 62)), p_s 64 (.ld (some 3) (.t 63)),
 ⟨none, none, 0, .act (.st 3 (.t 9) (.t 64))⟩])))
 (.reg [p_m 48 10, p_s 49 (.bin .add (.t 48) (o_i 1)), p_m 10 49]))))))
 (.seq (.reg [p_s 65 (.ld (some 3) (.t 9)), ⟨none, none, 0, .act (.st 3 (.t 6) (.t 65))⟩])
 .ret))))))
theorem apiarylaw4_Some_triple : Fun P0 29 3 [(6, false, some (67, (some 3)))] apiarylaw4_Some_pc := fun_mk Go.Proofs.Tryz.func29 rfl (by decide) (by kernel_rfl) (by decide) rfl (by kernel_rfl) (by kernel_rfl) (by decide)
noncomputable def apiarylaw3_Point_pc : PC :=
  (.seq (.reg [p_s 4 (.mov (o_i 0)), p_s 5 (.mov (o_i 0))])
 (.seq (.reg [p_m 6 0, p_s 7 (.bin .and (.t 6) (o_i 1073741823)), p_m 8 1, p_s 9 (.bin .and (.t 8) (o_i 1073741823)), p_m 4 7, p_m 5 9])
 .ret))
theorem apiarylaw3_Point_triple : Fun P0 56 2 [(4, false, none), (5, false, none)] apiarylaw3_Point_pc := fun_mk Go.Proofs.Tryz.func56 rfl (by decide) (by kernel_rfl) (by decide) rfl (by kernel_rfl) (by kernel_rfl) (by decide)
noncomputable def apiarylaw5_Word_pc : PC :=
  (.seq (.reg [p_s 6 (.mov (.c (.r (.v (.int .u64 0)))))])
 (.seq (.reg [p_m 10 0, p_m 11 1, p_m 12 2, p_c 13 1 29 [.t 10, .t 11, .t 12], p_c 14 2 28 [.t 13], p_m 9 14, p_s 15 (.ext (.t 9) 0), p_s 16 (.ext (.t 9) 1), p_m 7 15, p_m 8 16])
 (.seq (.reg [p_m 17 7, p_m 6 17])
 .ret)))
theorem apiarylaw5_Word_triple : Fun P0 13 3 [(6, false, none)] apiarylaw5_Word_pc := fun_mk Go.Proofs.Tryz.func13 rfl (by decide) (by kernel_rfl) (by decide) rfl (by kernel_rfl) (by kernel_rfl) (by decide)
noncomputable def apiaryref1_Hex16_pc : PC :=
  (.seq (.reg [p_s 2 (.mov (.c (.r (.v (.string ⟨#[]⟩)))))])
 (.seq (.reg [p_s 3 (.mov (.c (.r (.v (.string ⟨#[]⟩)))))])
 (.seq (.seq (.reg [p_s 4 (.mov (o_i 15))])
 (.block 0 (.loop (.seq (.seq (.reg [p_m 6 4, p_s 7 (.bin .geq (.t 6) (o_i 0))])
 (.cond (.t 7)
 .skip
 (.exit 0)))
 (.seq (.block 1 (.seq (.reg [p_m 10 0, p_m 11 4, p_s 12 (.bin .mul (o_i 4) (.t 11)), p_s 13 (.bin .shr (.t 10) (.t 12)), p_s 14 (.bin .and (.t 13) (.c (.r (.v (.int .u64 15))))), p_s 15 (.conv .i64 (.t 14)),
 p_m 5 15])
 (.reg [p_m 16 3, p_m 17 5, p_m 18 5, p_s 19 (.bin .add (.t 18) (o_i 1)), p_s 20 (.sls (.c (.r (.v (.string ⟨#[48, 49, 50, 51, 52, 53, 54, 55, 56, 57, 97, 98, 99, 100, 101, 102]⟩)))) (some (.t 17)) (some (.t 19))),
 p_s 21 (.bin .add (.t 16) (.t 20)), p_m 3 21])))
 (.reg [p_m 8 4, p_s 9 (.bin .sub (.t 8) (o_i 1)), p_m 4 9]))))))
 (.seq (.reg [p_m 22 3, p_m 2 22])
 .ret))))
theorem apiaryref1_Hex16_triple : Fun P0 14 1 [(2, false, none)] apiaryref1_Hex16_pc := fun_mk Go.Proofs.Tryz.func14 rfl (by decide) (by kernel_rfl) (by decide) rfl (by kernel_rfl) (by kernel_rfl) (by decide)
theorem uni_H (d : Nat) : (uni d).H 1 := by unfold uni; split <;> unfold Ei.H <;> decide
theorem child_H {z : Ei} {n : Int} (h : z.H n) (h0 : 0 ≤ n) (d : Nat) : (child z d).H (3 * n + 1) := by
 have hu := uni_H (d - 1)
 unfold Ei.H at h hu ⊢
 unfold child
 split <;> simp only [Ei.mul, beta, Ei.add] <;> omega
theorem pr_child (z : Ei) (d : Nat) : pr (child z d) = z := by
 obtain ⟨l, _, hl, ha, hb⟩ := pr_spec (child z d)
 generalize pr (child z d) = q at ha hb
 have hu := uni_H (d - 1)
 have hc : ∃ u : Ei, u.H 1 ∧ (child z d).a = 2 * z.a - z.b + u.a ∧ (child z d).b = z.a + 3 * z.b + u.b := by
  unfold child
  split
  ·exact ⟨⟨0, 0⟩, by unfold Ei.H; decide, by simp only [Ei.mul, beta]; omega, by simp only [Ei.mul, beta]; omega⟩
  ·exact ⟨_, hu, by simp only [Ei.mul, beta, Ei.add]; omega, by simp only [Ei.mul, beta, Ei.add]; omega⟩
 obtain ⟨u, hu1, hu2, hu3⟩ := hc
 rw [hu2] at ha
 rw [hu3] at hb
 unfold Ei.H at hl hu1
 exact Ei.ext' (by omega) (by omega)
def inB (r : Nat) (z : Ei) : Prop := z.H (1025 * 3 ^ r - 1) ∧ (-512 ≤ (anc r z).a ∧ (anc r z).a ≤ 511) ∧ (-512 ≤ (anc r z).b ∧ (anc r z).b ≤ 511)
theorem inB_okc {r : Nat} {z : Ei} (hr : r ≤ 12) (h : inB r z) : okc r z := by
 refine ⟨hr, ?_, h.2⟩
 have : (3 : Int) ^ r ≤ 531441 := by
  have h2 : (3 : Nat) ^ r ≤ 3 ^ 12 := Nat.pow_le_pow_right (by decide) hr
  have : ((3 ^ r : Nat) : Int) ≤ ((3 ^ 12 : Nat) : Int) := by exact_mod_cast h2
  simpa using this
 exact (h.1.mono (by omega : _ ≤ (1073741824 : Int))).in
theorem inB_child {r : Nat} {z : Ei} (h : inB r z) (d : Nat) : inB (r + 1) (child z d) := by
 obtain ⟨h1, h2⟩ := h
 have hp : (1 : Int) ≤ 3 ^ r := by
  have := Int.pow_pos (n := 3) (m := r) (by decide)
  omega
 refine ⟨(child_H h1 (by omega) d).mono ?_, ?_⟩
 ·rw [Int.pow_succ]; omega
 ·rw [show anc (r + 1) (child z d) = anc r (pr (child z d)) from rfl, pr_child]
  exact h2
def celR (r : Int) (z : Ei) : RV := .agg [.v (.int .i64 r), .v (.int .i64 z.a), .v (.int .i64 z.b)]
def celZ : RV := .agg [.v (.int .i64 0), .v (.int .i64 0), .v (.int .i64 0)]
def kidsR (r : Int) (z : Ei) (n : Nat) : List RV := (List.range n).map fun d => celR r (child z d)
set_option maxHeartbeats 1000000 in
theorem rkids_t (r : Nat) (z : Ei) (hr : r < 12) (hz : inB r z) : Triple P0 58 [cel r z] [] (.tup [.own 1000000 0 0 7, int .i64 0]) [.row 3 celZ true true (kidsR ((r : Int) + 1) z 7)] := by
 have hok := inB_okc (by omega) hz
 refine apiaryref1_Children_triple rfl (by decide) ?_
 simp only [apiaryref1_Children_pc, cel, push_cast, ↓reduceIte, reduceCtorEq, zB, zE, zA, zS, zL, zD, zM]
 refine call_as (as' := [cel r z]) rfl ?_
 refine call_mk (rokc_t r z (by omega) (by simpa using hok)) rfl trivial ?_
 have g1 : ((r : Int) == 12) = false := by simp; omega
 simp only [g1, push_cast, ↓reduceIte, reduceCtorEq, zB, zE, zA, zS, zL, zD, zM]
 have hzi := hok.2.1
 have hzm : (z.mul beta).In 10000000000000 := (mul_In hzi (show beta.In 2 by unfold Ei.In; decide)).mono (by decide)
 refine call_as (as' := [z.v, beta.v]) rfl ?_
 refine call_mk (rmul_t _ _ (hzi.mono (by decide)) (show beta.In _ by unfold Ei.In; decide) (hzm.mono (by decide))) rfl trivial ?_
 have w1 : IntKind.i64.wrap ((r : Int) + 1) = (r : Int) + 1 := wrap_id (by omega)
 simp only [w1, Ei.v, Ei.rv, push_cast, ↓reduceIte, reduceCtorEq, zB, zE, zA, zS, zL, zD, zM]
 refine ⟨by simp, ?_⟩
 obtain ⟨W, hW⟩ : ∃ W, z.mul beta = W := ⟨_, rfl⟩
 rw [hW] at hzm ⊢
 unfold Ei.In at hzm
 have kR : ∀ n : Nat, kidsR ((r : Int) + 1) z (n + 1) = kidsR ((r : Int) + 1) z n ++ [celR ((r : Int) + 1) (child z n)] := fun n => by
  unfold kidsR
  rw [List.range_succ, zaq]
  rfl
 have kL : ∀ n : Nat, (kidsR ((r : Int) + 1) z n).length = n := fun n => by unfold kidsR; simp
 have k1 : kidsR ((r : Int) + 1) z 1 = [.agg [.v (.int .i64 ((r : Int) + 1)), .v (.int .i64 W.a), .v (.int .i64 W.b)]] := by
  rw [← hW]; rfl
 refine run_loop [(1, false), (4, false), (6, false), (7, false)] (fun vs pos los => ∃ k : Nat, k ≤ 6 ∧ vs = [.ptr 2000000 0 0, .ptr 2000001 0 0, .own 2000002 0 0 (k + 1), int .i64 k] ∧ pos = [] ∧
   los = [.box [int .i64 r, int .i64 z.a, int .i64 z.b], .box [int .i64 W.a, int .i64 W.b], .row 3 celZ true true (kidsR ((r : Int) + 1) z (k + 1))])
  (fun vs _ _ => match vs with | [_, _, _, .r (.v (.int _ j))] => (6 - j).toNat | _ => 0) rfl ?_ ?_
 ·simp only [push_cast, ↓reduceIte, reduceCtorEq, zB, zE, zA, zS, zL, zD, zM]
  exact ⟨0, by omega, rfl, by rw [k1]; rfl⟩
 ·rintro vs pos los ⟨k, k6, rfl, rfl, rfl⟩
  obtain ⟨X, hX⟩ : ∃ X, kidsR ((r : Int) + 1) z (k + 1) = X := ⟨_, rfl⟩
  have hXl : X.length = k + 1 := by rw [← hX, kL]
  rw [hX]
  simp only [hXl, push_cast, ↓reduceIte, reduceCtorEq, zB, zE, zA, zS, zL, zD, zM]
  refine cnd_mk (fun hi => ?_) (fun hi => ?_)
  ·have hi : k < 6 := by simp at hi; omega
   simp only [hXl, push_cast, ↓reduceIte, reduceCtorEq, zB, zE, zA, zS, zL, zD, zM]
   refine call_mk (runit_t (k : Int) (by omega)) rfl trivial ?_
   have hu := uni_H k
   unfold Ei.H at hu
   rw [show ((k : Nat) : Int).toNat = k by omega]
   have w2 : IntKind.i64.wrap (W.a + (uni k).a) = W.a + (uni k).a := wrap_id (by omega)
   have w3 : IntKind.i64.wrap (W.b + (uni k).b) = W.b + (uni k).b := wrap_id (by omega)
   have w4 : IntKind.i64.wrap ((k : Int) + 1) = (k : Int) + 1 := wrap_id (by omega)
   simp only [hXl, w1, w2, w3, w4, Ei.v, Ei.rv, zaa, zab, zac, push_cast, ↓reduceIte, reduceCtorEq, zB, zE, zA, zS, zL, zD, zM]
   refine ⟨by simp, by have := maxLen_big; omega, ⟨k + 1, by omega, rfl, ?_⟩, by omega⟩
   rw [kR, hX, List.take_of_length_le (by omega)]
   have hch : child z (k + 1) = ⟨W.a + (uni k).a, W.b + (uni k).b⟩ := by
    unfold child
    rw [if_neg (by omega), hW]
    rfl
   rw [hch]
   rfl
  ·have hi : k = 6 := by simp at hi; omega
   subst hi
   simp only [hXl, push_cast, ↓reduceIte, reduceCtorEq, zB, zE, zA, zS, zL, zD, zM]
   rw [← hX]
def stepD (y : Int) (i : Nat) : Nat := (y / 2 ^ (3 * i + 1) % 64 % 7).toNat
def someZ (x y : Int) : Nat → Ei
 | 0 => ⟨x % 1024 - 512, x / 1024 % 1024 - 512⟩
 | i + 1 => child (someZ x y i) (stepD y i)
theorem someZ_inB (x y : Int) : ∀ r, inB r (someZ x y r)
 | 0 => by
  unfold inB someZ Ei.H anc
  simp only
  omega
 | r + 1 => inB_child (someZ_inB x y r) _
def someR (r : Int) : Nat := ((r.tmod 13 + 13).tmod 13).toNat
def someC (x y r : Int) : Ei := if y % 2 = 0 then near (x % 1073741824) (y % 1073741824) (someR r) else someZ x y (someR r)
theorem someR_lt (r : Int) : someR r ≤ 12 := by
 unfold someR
 have := Int.tmod_lt_of_pos (r.tmod 13 + 13) (show (0 : Int) < 13 by decide)
 omega
theorem someC_okc (x y r : Int) : okc (someR r) (someC x y r) := by
 unfold someC
 split
 ·exact near_okc _ _ _ ⟨by omega, by omega⟩ ⟨by omega, by omega⟩ (someR_lt r)
 ·exact inB_okc (someR_lt r) (someZ_inB x y _)
theorem apoint_t (x y : Int) (hx : in64 x) (hy : in64 y) : Triple P0 56 [int .i64 x, int .i64 y] [] (.tup [int .i64 (x % 1073741824), int .i64 (y % 1073741824)]) [] := by
 refine apiarylaw3_Point_triple rfl (by decide) ?_
 have e1 : ∀ x : Int, IntKind.i64.wrap ((zae IntKind.i64.bits x &&& zae IntKind.i64.bits 1073741823).toNat) = x % 1073741824 := fun x => by
  have := and_mask x 1073741823 30 (by decide) (by decide)
  simpa using this
 simp only [apiarylaw3_Point_pc, e1, push_cast, ↓reduceIte, reduceCtorEq, zB, zE, zA, zS, zL, zD, zM]
set_option maxHeartbeats 1000000 in
theorem asome_t (x y r : Int) (hx : in64 x) (hy : in64 y) (hr : in64 r) : Triple P0 29 [int .i64 x, int .i64 y, int .i64 r] [] (cel (someR r) (someC x y r)) [] := by
 refine apiarylaw4_Some_triple rfl (by decide) ?_
 have hd1 : (0 : Int) ≤ r.tmod 13 + 13 := by
  have := Int.lt_tmod_of_pos r (show (0 : Int) < 13 by decide)
  omega
 have hd2 : r.tmod 13 + 13 < 26 := by
  have := Int.tmod_lt_of_pos r (show (0 : Int) < 13 by decide)
  omega
 have w1 : IntKind.i64.wrap (r.tmod 13 + 13) = r.tmod 13 + 13 := wrap_id (by omega)
 have hR : (r.tmod 13 + 13).tmod 13 = (someR r : Int) := by
  have : (0 : Int) ≤ (r.tmod 13 + 13).tmod 13 := Int.tmod_nonneg _ hd1
  unfold someR
  omega
 have hRl := someR_lt r
 have ey : IntKind.i64.wrap ((zae IntKind.i64.bits y &&& zae IntKind.i64.bits 1).toNat) = y % 2 := by
  have := and_mask y 1 1 (by decide) (by decide)
  simpa using this
 have e10 : ∀ x : Int, IntKind.i64.wrap ((zae IntKind.i64.bits x &&& zae IntKind.i64.bits 1023).toNat) = x % 1024 := fun x => by
  have := and_mask x 1023 10 (by decide) (by decide)
  simpa using this
 have e6 : ∀ x : Int, IntKind.i64.wrap ((zae IntKind.i64.bits x &&& zae IntKind.i64.bits 63).toNat) = x % 64 := fun x => by
  have := and_mask x 63 6 (by decide) (by decide)
  simpa using this
 have es : x.fdiv (2 ^ min (zad 10) IntKind.i64.bits) = x / 1024 := by
  have := shr_i x 10 (by decide)
  simpa using this
 have w5 : IntKind.i64.wrap (x % 1024 - 512) = x % 1024 - 512 := wrap_id (by omega)
 have w6 : IntKind.i64.wrap (x / 1024 % 1024 - 512) = x / 1024 % 1024 - 512 := wrap_id (by omega)
 simp only [apiarylaw4_Some_pc, w1, hR, ey, push_cast, ↓reduceIte, reduceCtorEq, zB, zE, zA, zS, zL, zD, zM]
 refine ⟨by decide, by decide, ?_⟩
 unfold someC
 refine cnd_mk (fun h => ?_) (fun h => ?_)
 ·have h : y % 2 = 0 := by simpa using h
  rw [if_pos h]
  simp only [push_cast, ↓reduceIte, reduceCtorEq, zB, zE, zA, zS, zL, zD, zM]
  refine call_mk (apoint_t x y hx hy) rfl trivial ?_
  simp only [push_cast, ↓reduceIte, reduceCtorEq, zB, zE, zA, zS, zL, zD, zM]
  refine call_mk (rnear_t (x % 1073741824) (y % 1073741824) (someR r : Int) (by unfold inW; omega) (by omega)) rfl trivial ?_
  rw [show ((someR r : Nat) : Int).toNat = someR r by omega]
  simp only [Ei.v, Ei.rv, cel, push_cast, ↓reduceIte, reduceCtorEq, zB, zE, zA, zS, zL, zD, zM]
 ·have h : ¬ y % 2 = 0 := by simpa using h
  rw [if_neg h]
  simp only [e10, es, w5, w6, push_cast, ↓reduceIte, reduceCtorEq, zB, zE, zA, zS, zL, zD, zM]
  repeat refine And.intro (by first | decide | omega | exact fun _ => by decide | (simp +contextual; done) | kernel_rfl) ?_
  refine run_loop [(1, false), (2, false), (6, false), (9, false), (10, false)] (fun vs pos los => ∃ i : Nat, i ≤ someR r ∧ vs = [int .i64 y, int .i64 (someR r : Int), .ptr 2000000 0 0, .ptr 2000001 0 0, int .i64 i] ∧ pos = [] ∧
    los = [.box [int .i64 0, int .i64 0, int .i64 0], .box [int .i64 i, int .i64 (someZ x y i).a, int .i64 (someZ x y i).b]])
   (fun vs _ _ => match vs with | [_, _, _, _, .r (.v (.int _ j))] => (someR r - j).toNat | _ => 0) rfl ?_ ?_
  ·simp only [push_cast, ↓reduceIte, reduceCtorEq, zB, zE, zA, zS, zL, zD, zM]
   exact ⟨0, by omega, rfl, rfl⟩
  ·rintro vs pos los ⟨i, i0, rfl, rfl, rfl⟩
   simp only [push_cast, ↓reduceIte, reduceCtorEq, zB, zE, zA, zS, zL, zD, zM]
   refine cnd_mk (fun hi => ?_) (fun hi => ?_)
   ·have hi : i < someR r := by simpa using hi
    have w7 : IntKind.i64.wrap (3 * (i : Int)) = 3 * (i : Int) := wrap_id (by omega)
    have w8 : IntKind.i64.wrap (3 * (i : Int) + 1) = 3 * (i : Int) + 1 := wrap_id (by omega)
    have w9 : IntKind.i64.wrap ((i : Int) + 1) = (i : Int) + 1 := wrap_id (by omega)
    have esh : y.fdiv (2 ^ min (3 * (i : Int) + 1).toNat IntKind.i64.bits) = y / 2 ^ (3 * i + 1) := by
     rw [show (3 * (i : Int) + 1).toNat = 3 * i + 1 by omega]
     exact shr_i y _ (by omega)
    have hD : (y / 2 ^ (3 * i + 1) % 64).tmod 7 = (stepD y i : Int) := by
     rw [Int.tmod_eq_emod_of_nonneg (by omega)]
     unfold stepD
     omega
    have hD7 : stepD y i < 7 := by unfold stepD; omega
    simp only [push_cast, ↓reduceIte, reduceCtorEq, zB, zE, zA, zS, zL, zD, zM]
    refine call_as (as' := [cel (i : Nat) (someZ x y i)]) rfl ?_
    refine call_mk (rkids_t i (someZ x y i) (by omega) (someZ_inB x y i)) rfl trivial ?_
    obtain ⟨X, hX⟩ : ∃ X, kidsR ((i : Int) + 1) (someZ x y i) 7 = X := ⟨_, rfl⟩
    have hXl : X.length = 7 := by rw [← hX]; unfold kidsR; simp
    have hXg : ∀ z, X.getD (stepD y i) z = .agg [.v (.int .i64 ((i : Int) + 1)), .v (.int .i64 (someZ x y (i + 1)).a), .v (.int .i64 (someZ x y (i + 1)).b)] := fun z => by
     rw [← hX, zaf]
     unfold kidsR
     simp [hD7, celR, someZ]
    rw [hX]
    simp only [w7, w8, w9, esh, e6, hD, hXg, hXl, zaa, zab, zac, push_cast, ↓reduceIte, reduceCtorEq, zB, zE, zA, zS, zL, zD, zM]
    exact ⟨by omega, by decide, by omega, ⟨i + 1, by omega, rfl, rfl⟩, by omega⟩
   ·have hi : i = someR r := zak i0 (by simpa using hi)
    subst hi
    simp only [cel, push_cast, ↓reduceIte, reduceCtorEq, zB, zE, zA, zS, zL, zD, zM]
theorem aword_t (x y r : Int) (hx : in64 x) (hy : in64 y) (hr : in64 r) : Triple P0 13 [int .i64 x, int .i64 y, int .i64 r] [] (uw (word (someR r) (someC x y r))) [] := by
 refine apiarylaw5_Word_triple rfl (by decide) ?_
 simp only [apiarylaw5_Word_pc, push_cast, ↓reduceIte, reduceCtorEq, zB, zE, zA, zS, zL, zD, zM]
 refine call_mk (asome_t x y r hx hy hr) rfl trivial ?_
 have hk := someC_okc x y r
 simp only [cel, push_cast, ↓reduceIte, reduceCtorEq, zB, zE, zA, zS, zL, zD, zM]
 refine call_as (as' := [cel (someR r : Int) (someC x y r)]) rfl ?_
 refine call_mk (rword_t (someR r : Int) (someC x y r) (by omega) (by simpa using hk)) rfl trivial ?_
 rw [show ((someR r : Nat) : Int).toNat = someR r by omega]
 simp only [uw, push_cast, ↓reduceIte, reduceCtorEq, zB, zE, zA, zS, zL, zD, zM]
def hexC (n : Nat) : UInt8 := UInt8.ofNat (if n < 10 then 48 + n else 87 + n)
def hexN (w : Nat) (n : Nat) : Bs := (List.range n).map fun j => hexC (w / 16 ^ (15 - j) % 16)
theorem hex_at : ∀ k : Fin 16, (bstr [48, 49, 50, 51, 52, 53, 54, 55, 56, 57, 97, 98, 99, 100, 101, 102]).extract k.val (k.val + 1) = bstr [hexC k.val] := by decide +kernel
theorem hexN_succ (w n : Nat) : hexN w (n + 1) = hexN w n ++ [hexC (w / 16 ^ (15 - n) % 16)] := by
 unfold hexN
 rw [List.range_succ, zaq]
 rfl
theorem hexN_len (w n : Nat) : (hexN w n).length = n := by unfold hexN; simp
theorem hex16_t (w : Nat) (hw : w < 18446744073709551616) : Triple P0 14 [uw w] [] (sV (hexN w 16)) [] := by
 refine apiaryref1_Hex16_triple rfl (by decide) ?_
 simp only [apiaryref1_Hex16_pc, uw, push_cast, ↓reduceIte, reduceCtorEq, zB, zE, zA, zS, zL, zD, zM]
 have sz : ({ data := #[48, 49, 50, 51, 52, 53, 54, 55, 56, 57, 97, 98, 99, 100, 101, 102] } : ByteArray).size = 16 := rfl
 refine run_loop [(0, false), (3, false), (4, false)] (fun vs pos los => ∃ n : Nat, n ≤ 16 ∧ vs = [int .u64 w, sV (hexN w n), int .i64 (15 - (n : Int))] ∧ pos = [] ∧ los = [])
  (fun vs _ _ => match vs with | [_, _, .r (.v (.int _ j))] => (j + 1).toNat | _ => 0) rfl ?_ ?_
 ·simp only [push_cast, ↓reduceIte, reduceCtorEq, zB, zE, zA, zS, zL, zD, zM]
  exact ⟨0, by omega, rfl⟩
 ·rintro vs pos los ⟨n, n16, rfl, rfl, rfl⟩
  simp only [push_cast, ↓reduceIte, reduceCtorEq, zB, zE, zA, zS, zL, zD, zM]
  refine cnd_mk (fun hi => ?_) (fun hi => ?_)
  ·have hi : n < 16 := by simp at hi; omega
   have w7 : IntKind.i64.wrap (4 * (15 - (n : Int))) = 60 - 4 * (n : Int) := by rw [wrap_id (by omega)]; omega
   have w8 : IntKind.i64.wrap (15 - (n : Int) - 1) = 15 - ((n + 1 : Nat) : Int) := by rw [wrap_id (by omega)]; omega
   obtain ⟨D, hD⟩ : ∃ D, w / 16 ^ (15 - n) % 16 = D := ⟨_, rfl⟩
   have hD16 : D < 16 := by omega
   have esh : IntKind.u64.wrap (zae IntKind.u64.bits ((w : Int).fdiv (2 ^ min (60 - 4 * (n : Int)).toNat IntKind.u64.bits)) &&& zae IntKind.u64.bits 15).toNat = (D : Int) := by
    rw [shr_and (k := 60 - 4 * n) (n := 4) (by omega) (by omega) (by decide) (by decide) hw, ← hD]
    rw [show 2 ^ (60 - 4 * n) = 16 ^ (15 - n) by rw [show (16 : Nat) = 2 ^ 4 from rfl, ← Nat.pow_mul]; congr 1; omega]
   have w9 : IntKind.i64.wrap (D : Int) = (D : Int) := wrap_id (by omega)
   have w10 : IntKind.i64.wrap ((D : Int) + 1) = (D : Int) + 1 := wrap_id (by omega)
   have hex : ({ data := #[48, 49, 50, 51, 52, 53, 54, 55, 56, 57, 97, 98, 99, 100, 101, 102] } : ByteArray).extract D (D + 1) = bstr [hexC D] := hex_at ⟨D, hD16⟩
   simp only [w7, w8, w9, w10, esh, hex, sz, bstr_app, bstr_size, hexN_len, zaa, zab, zac, push_cast, ↓reduceIte, reduceCtorEq, zB, zE, zA, zS, zL, zD, zM]
   exact ⟨by omega, by omega, by omega, ⟨n + 1, by omega, by rw [hexN_succ, hD]; simp⟩, by omega⟩
  ·have hi : n = 16 := by simp at hi; omega
   subst hi
   simp only [push_cast, ↓reduceIte, reduceCtorEq, zB, zE, zA, zS, zL, zD, zM]

theorem hxD_hexC (d : Nat) (h : d < 16) : hxD (hexC d) = some d := by
 have : ∀ d : Fin 16, hxD (hexC d.val) = some d.val := by decide
 exact this ⟨d, h⟩
theorem hxP_app : ∀ (a b : Bs) (n : Nat), hxP (a ++ b) n = (hxP a n).bind (hxP b)
 | [], b, n => rfl
 | c :: a, b, n => by
  rw [List.cons_append, hxP, hxP]
  cases hxD c with
  | none => rfl
  | some d => exact hxP_app a b _
theorem hxP_hexN (w : Nat) (hw : w < 18446744073709551616) : ∀ n, n ≤ 16 → hxP (hexN w n) 0 = some (w / 16 ^ (16 - n))
 | 0, _ => by
  rw [Nat.div_eq_of_lt hw]
  rfl
 | n + 1, h => by
  rw [hexN_succ, hxP_app, hxP_hexN w hw n (by omega)]
  simp only [Option.bind_some, hxP, hxD_hexC _ (Nat.mod_lt _ (by decide))]
  rw [show 16 - n = (15 - n) + 1 by omega, Nat.pow_succ, show 16 - (n + 1) = 15 - n by omega, ← Nat.div_div_eq_div_mul]
  congr 1
  omega
theorem digitsP_hexN (w : Nat) (hw : w < 18446744073709551616) : digitsP (hexN w 16) = some w := by
 unfold digitsP
 rw [if_pos (hexN_len w 16), hxP_hexN w hw 16 (by omega)]
 simp
theorem hexC_ok (d : Nat) (h : d < 16) : (48 ≤ (hexC d).toNat ∧ (hexC d).toNat ≤ 57) ∨ (97 ≤ (hexC d).toNat ∧ (hexC d).toNat ≤ 102) := by
 have : ∀ d : Fin 16, (48 ≤ (hexC d.val).toNat ∧ (hexC d.val).toNat ≤ 57) ∨ (97 ≤ (hexC d.val).toNat ∧ (hexC d.val).toNat ≤ 102) := by decide
 exact this ⟨d, h⟩
def plainC (c : UInt8) : Prop := c.toNat = 45 ∨ (48 ≤ c.toNat ∧ c.toNat ≤ 57) ∨ (97 ≤ c.toNat ∧ c.toNat ≤ 102)
theorem hexN_plain (w n : Nat) : ∀ c ∈ hexN w n, plainC c := fun c hc => by
 unfold hexN at hc
 obtain ⟨j, _, rfl⟩ := List.mem_map.1 hc
 exact .inr (hexC_ok _ (Nat.mod_lt _ (by decide)))
theorem dec_plain : ∀ (n : Nat), ∀ c ∈ Lib.decDigits n, plainC c := fun n => by
 induction n using Nat.strongRecOn with
 | _ n ih =>
  intro c hc
  rw [Lib.decDigits.eq_1] at hc
  have hd : ∀ k, k < 10 → plainC (UInt8.ofNat (48 + k)) := fun k hk => by
   have : ∀ k : Fin 10, (48 ≤ (UInt8.ofNat (48 + k.val)).toNat ∧ (UInt8.ofNat (48 + k.val)).toNat ≤ 57) := by decide
   exact .inr (.inl (this ⟨k, hk⟩))
  split at hc
  ·rename_i h
   rw [List.mem_singleton] at hc
   subst hc
   exact hd n h
  ·rename_i h
   rcases List.mem_append.1 hc with hc | hc
   ·exact ih _ (by omega) c hc
   ·rw [List.mem_singleton] at hc
    subst hc
    exact hd (n % 10) (Nat.mod_lt _ (by decide))
theorem itoa_plain (n : Int) : ∀ c ∈ Lib.itoa n, plainC c := fun c hc => by
 unfold Lib.itoa at hc
 split at hc
 ·rcases List.mem_cons.1 hc with rfl | h
  ·exact .inl (by decide)
  ·exact dec_plain _ c h
 ·exact dec_plain _ c hc
theorem upTo_free (q : UInt8 → Bool) : ∀ l : Bs, (∀ c ∈ l, q c = false) → upTo q l = (l, [])
 | [], _ => rfl
 | x :: r, h => by
  rw [upTo, if_neg (by rw [h x (by simp)]; simp), upTo_free q r fun c hc => h c (by simp [hc])]
theorem upTo_cut (q : UInt8 → Bool) (c : UInt8) (r : Bs) (hc : q c = true) : ∀ l : Bs, (∀ x ∈ l, q x = false) → upTo q (l ++ c :: r) = (l, c :: r)
 | [], _ => by rw [zaz, upTo, if_pos hc]
 | x :: l, h => by
  rw [List.cons_append, upTo, if_neg (by rw [h x (by simp)]; simp), upTo_cut q c r hc l fun y hy => h y (by simp [hy])]
theorem parse_path (nm q : Bs) (f : Form) (hnm : ∀ c ∈ nm, stopB c = false) (hf : formsL.find? (nmF nm) = some f) (h16 : f.1 ≠ 16) (hl : nm.length + q.length ≤ 9000) : parseR (47 :: (nm ++ 63 :: q)) = wholeR f (63 :: q) := by
 have hb : bhd (47 :: (nm ++ 63 :: q)) = nm ++ 63 :: q := rfl
 unfold parseR parseG
 rw [if_neg (by simp; omega), hb, upTo_cut stopB 63 q rfl nm hnm]
 simp only [hf]
 rw [if_neg]
 rintro (h | h)
 ·cases h
 ·apply h
  rw [decide_eq_false h16]
  rfl
theorem wholeR_q (f : Form) (q : Bs) (h0 : f.2.2 ≠ []) : wholeR f (63 :: q) = if (queryR f q).1.2.2 = true then finP f.1 (queryR f q).1.1 (queryR f q).2 (wordsP (queryR f q).1.2.1 []) else (askA 0 [] [] [], 16) := by
 unfold wholeR
 rw [if_neg (fun h => h0 h.1), if_neg (fun h => h.elim h0 (by simp))]
 rfl
def kv (c : UInt8) (v : Bs) : Bs := c :: 61 :: v
theorem valP_kv (c : UInt8) (v : Bs) : valP c (kv c v) = some v := by simp [valP, kv]
theorem kv_free {c x : UInt8} {v : Bs} (h1 : x ≠ c) (h2 : x ≠ 61) (h : x ∉ v) : x ∉ kv c v := by
 simp [kv, h1, h2, h]
theorem plain_ne {c x : UInt8} (h : plainC c) (hx : x.toNat < 45 ∨ x.toNat = 63) : x ≠ c := by
 rintro rfl
 unfold plainC at h
 omega
def Tame (l : Bs) : Prop := ∀ c ∈ l, c.toNat < 128 ∧ c.toNat ≠ 10
theorem tame_parse (l : Bs) (hl : l.length ≤ 100000) (h : Tame l) : Triple P0 11 [sb l] [] (.tup [(parseR l).1, int .i64 (parseR l).2]) [] := by
 refine aparse_t l (by omega) (asc_dec l (by omega) fun c hc => (h c hc).1) fun f _ _ _ _ => ?_
 have hr : ∀ c ∈ (upTo stopB (bhd l)).2, c.toNat ≠ 10 := fun c hc => by
  have h1 : c ∈ bhd l := by
   rw [← upTo_app stopB (bhd l)]
   exact List.mem_append_right _ hc
  have h2 : c ∈ l := by
   unfold bhd at h1
   by_cases hq : (l.take 1 == [47]) = true
   ·rw [if_pos hq] at h1
    exact List.mem_of_mem_drop h1
   ·rw [if_neg hq] at h1
    exact h1
  exact (h c h2).2
 cases hu : (upTo stopB (bhd l)).2 with
 | nil => decide
 | cons c r => exact hr c (by rw [hu]; simp)

noncomputable def apiarylaw25_awake_pc : PC :=
  (.seq (.reg [p_s 0 (.mov (.c (.r (.v (.bool false)))))])
 (.seq (.reg [p_a 8 (.bsl 1 (.v (.int .u8 0)) [(.c (.r (.v (.int .u8 47)))), (.c (.r (.v (.int .u8 99)))), (.c (.r (.v (.int .u8 101)))), (.c (.r (.v (.int .u8 108)))), (.c (.r (.v (.int .u8 108)))), (.c (.r (.v (.int .u8 63)))), (.c (.r (.v (.int .u8 120)))), (.c (.r (.v (.int .u8 61)))), (.c (.r (.v (.int .u8 49)))), (.c (.r (.v (.int .u8 38)))), (.c (.r (.v (.int .u8 121)))), (.c (.r (.v (.int .u8 61)))), (.c (.r (.v (.int .u8 50)))), (.c (.r (.v (.int .u8 38)))), (.c (.r (.v (.int .u8 114)))), (.c (.r (.v (.int .u8 61)))), (.c (.r (.v (.int .u8 51))))]),
 p_a 9 (.mrk (.t 8)), p_c 10 1 11 [.t 9], p_m 7 10, p_s 11 (.ext (.t 7) 0), p_s 12 (.ext (.t 7) 1), p_a 1 (.new [(.r (.v (.int .i64 0))), (.nils 1 (.v (.int .i64 0))), (.nils 1 (.v (.int .u64 0))), (.nils 2 (.agg [(.v (.int .i64 0)), (.v (.int .i64 0))])), (.nils 5 (.agg [(.v (.int .i64 0)), (.v (.int .i64 0)), (.v (.int .i64 0)), (.v (.int .i64 0)), (.v (.int .i64 0))]))]),
 ⟨none, none, 0, .act (.st 5 (.t 1) (.t 11))⟩, p_m 2 12])
 (.seq (.reg [p_a 14 (.bsl 1 (.v (.int .u8 0)) [(.c (.r (.v (.int .u8 99)))), (.c (.r (.v (.int .u8 101)))), (.c (.r (.v (.int .u8 108)))), (.c (.r (.v (.int .u8 108))))]), p_a 15 (.mrk (.t 14)),
 p_c 16 2 11 [.t 15], p_m 13 16, p_s 17 (.ext (.t 13) 0), p_s 18 (.ext (.t 13) 1), p_a 3 (.new [(.r (.v (.int .i64 0))), (.nils 1 (.v (.int .i64 0))), (.nils 1 (.v (.int .u64 0))), (.nils 2 (.agg [(.v (.int .i64 0)), (.v (.int .i64 0))])), (.nils 5 (.agg [(.v (.int .i64 0)), (.v (.int .i64 0)), (.v (.int .i64 0)), (.v (.int .i64 0)), (.v (.int .i64 0))]))]),
 ⟨none, none, 0, .act (.st 5 (.t 3) (.t 17))⟩, p_m 4 18])
 (.seq (.reg [p_a 20 (.bsl 1 (.v (.int .u8 0)) [(.c (.r (.v (.int .u8 47)))), (.c (.r (.v (.int .u8 115)))), (.c (.r (.v (.int .u8 116)))), (.c (.r (.v (.int .u8 97)))), (.c (.r (.v (.int .u8 116)))), (.c (.r (.v (.int .u8 63)))), (.c (.r (.v (.int .u8 119)))), (.c (.r (.v (.int .u8 61)))), (.c (.r (.v (.int .u8 49)))), (.c (.r (.v (.int .u8 50))))]),
 p_a 21 (.mrk (.t 20)), p_c 22 3 11 [.t 21], p_m 19 22, p_s 23 (.ext (.t 19) 0), p_s 24 (.ext (.t 19) 1), p_a 5 (.new [(.r (.v (.int .i64 0))), (.nils 1 (.v (.int .i64 0))), (.nils 1 (.v (.int .u64 0))), (.nils 2 (.agg [(.v (.int .i64 0)), (.v (.int .i64 0))])), (.nils 5 (.agg [(.v (.int .i64 0)), (.v (.int .i64 0)), (.v (.int .i64 0)), (.v (.int .i64 0)), (.v (.int .i64 0))]))]),
 ⟨none, none, 0, .act (.st 5 (.t 5) (.t 23))⟩, p_m 6 24])
 (.seq (.reg [p_m 25 2, p_s 26 (.bin .eql (.t 25) (o_i 0)), p_m 27 26, p_g 28 27 true (.fa 0 (.t 1)), p_g 29 27 true (.ld none (.t 28)), p_g 30 27 true (.bin .eql (.t 29) (o_i 1)),
 p_s 31 (.pick (.t 27) (.t 30) (.c (.r (.v (.bool false))))), p_m 32 31, p_g 33 32 true (.fa 1 (.t 1)), p_g 34 32 true (.ld none (.t 33)), p_g 35 32 true (.len false (.t 34)),
 p_g 36 32 true (.bin .eql (.t 35) (o_i 3)), p_s 37 (.pick (.t 32) (.t 36) (.c (.r (.v (.bool false))))), p_m 38 37, p_g 39 38 true (.fa 1 (.t 1)), p_g 40 38 true (.ld none (.t 39)),
 p_g 41 38 true (.ia 1 (.v (.int .i64 0)) (.t 40) (o_i 2)), p_g 42 38 true (.ld none (.t 41)), p_g 43 38 true (.bin .eql (.t 42) (o_i 3)), p_s 44 (.pick (.t 38) (.t 43) (.c (.r (.v (.bool false))))),
 p_m 45 44, p_g 46 45 true (.mov (.t 4)), p_g 47 45 true (.bin .eql (.t 46) (o_i 15)), p_s 48 (.pick (.t 45) (.t 47) (.c (.r (.v (.bool false))))), p_m 49 48, p_g 50 49 true (.mov (.t 6)),
 p_g 51 49 true (.bin .eql (.t 50) (o_i 6)), p_s 52 (.pick (.t 49) (.t 51) (.c (.r (.v (.bool false))))), p_m 53 52, ⟨(some 54), (some (53, true)), 4, .call 10 [(o_i 14)]⟩,
 p_g 55 53 true (.bin .eql (.t 54) (.c (.r (.v (.string ⟨#[105, 110, 102, 111]⟩))))), p_s 56 (.pick (.t 53) (.t 55) (.c (.r (.v (.bool false))))), p_m 0 56])
 .ret)))))
theorem apiarylaw25_awake_triple : Fun P0 9 0 [(0, false, none)] apiarylaw25_awake_pc := fun_mk Go.Proofs.Tryz.func9 rfl (by decide) (by kernel_rfl) (by decide) rfl (by kernel_rfl) (by kernel_rfl) (by decide)
theorem pv_of (l : Bs) (v : Int) (h : rp l = some v) : pv l = some v := by rw [pv_rp, h]
theorem words_1 (V : Bs) : wordsP [V] [] = if (identP V).2 = 0 then .ok [(identP V).1] else .error (identP V).2 := by
 simp only [wordsP, zaz]
theorem cell_q (X Y R : Bs) (x y r : Int) (hX : pv X = some x) (hY : pv Y = some y) (hR : pv R = some r) (hX' : 38 ∉ X) (hY' : 38 ∉ Y) (hR' : 38 ∉ R) (hl : X.length + Y.length + R.length ≤ 8000) :
  parseR (47 :: ([99, 101, 108, 108] ++ 63 :: (kv 120 X ++ 38 :: (kv 121 Y ++ 38 :: kv 114 R)))) = (askA 1 [x, y, r] [] [], 0) := by
 rw [parse_path _ _ (1, [99, 101, 108, 108], nF [120, 121, 114]) (by decide) rfl (by decide) (by simp [kv]; omega), wholeR_q _ _ (by decide)]
 have hq : queryR (1, [99, 101, 108, 108], nF [120, 121, 114]) (kv 120 X ++ 38 :: (kv 121 Y ++ 38 :: kv 114 R)) = (([x, y, r], [], true), []) := by
  unfold queryR
  rw [if_neg (by decide), pieces_cut 38 _ _ (kv_free (by decide) (by decide) hX'), pieces_cut 38 _ _ (kv_free (by decide) (by decide) hY'), pieces_free 38 _ (kv_free (by decide) (by decide) hR')]
  unfold queryG
  rw [if_neg (by simp [nF])]
  simp only [nF, List.map_cons, List.map_nil, fldsR, zax, zay, valP_kv, zaz, hX, hY, hR]
  rfl
 rw [hq]
 rfl
theorem pars (l : Bs) (A : AV) (e : Int) (hl : l.length ≤ 100000) (ht : Tame l) (h : parseR l = (A, e)) : Triple P0 11 [sb l] [] (.tup [A, int .i64 e]) [] := by
 have := tame_parse l hl ht
 rw [h] at this
 exact this
theorem parse_noslash (l : Bs) (hl : l.length ≤ 9000) (h : (l.take 1 == [47]) = false) : parseR l = (askA 0 [] [] [], 15) := by
 unfold parseR parseG
 rw [if_neg (by omega)]
 split
 ·rfl
 ·rw [if_pos (.inl h)]
  rfl
theorem stat_q (V : Bs) (hV : 38 ∉ V) (hl : V.length ≤ 8000) : parseR (47 :: ([115, 116, 97, 116] ++ 63 :: kv 119 V)) = finP 9 [] [] (wordsP [V] []) := by
 rw [parse_path _ _ (9, [115, 116, 97, 116], [(119, true)]) (by decide) rfl (by decide) (by simp [kv]; omega), wholeR_q _ _ (by decide)]
 have hq : queryR (9, [115, 116, 97, 116], [(119, true)]) (kv 119 V) = (([], [V], true), []) := by
  unfold queryR
  rw [if_neg (by decide), pieces_free 38 _ (kv_free (by decide) (by decide) hV)]
  unfold queryG
  rw [if_neg (by simp)]
  simp only [fldsR, zax, zay, valP_kv, zaz]
 rw [hq]
 rfl
theorem askawake_t : Triple P0 9 [] [] (bl true) [] := by
 refine apiarylaw25_awake_triple rfl (by decide) ?_
 simp only [apiarylaw25_awake_pc, push_cast, ↓reduceIte, reduceCtorEq, zB, zE, zA, zS, zL, zD, zM]
 refine ⟨by simp, callA_give ?_⟩
 simp only [push_cast, ↓reduceIte, reduceCtorEq, zB, zE, zA, zS, zL, zD, zM]
 refine call_as (as' := [sb (47 :: ([99, 101, 108, 108] ++ 63 :: (kv 120 [49] ++ 38 :: (kv 121 [50] ++ 38 :: kv 114 [51]))))]) rfl ?_
 refine call_mk (pars _ _ 0 (by decide) (by unfold Tame; decide) (cell_q [49] [50] [51] 1 2 3 (pv_of _ _ (by decide)) (pv_of _ _ (by decide)) (pv_of _ _ (by decide)) (by decide) (by decide) (by decide) (by decide))) rfl trivial ?_
 simp only [askA, nilOr, push_cast, ↓reduceIte, reduceCtorEq, zB, zE, zA, zS, zL, zD, zM]
 refine ⟨by simp, callA_give ?_⟩
 simp only [push_cast, ↓reduceIte, reduceCtorEq, zB, zE, zA, zS, zL, zD, zM]
 refine call_as (as' := [sb [99, 101, 108, 108]]) rfl ?_
 refine call_mk (pars _ _ 15 (by decide) (by unfold Tame; decide) (parse_noslash _ (by decide) (by decide))) rfl trivial ?_
 simp only [askA, nilOr, push_cast, ↓reduceIte, reduceCtorEq, zB, zE, zA, zS, zL, zD, zM]
 refine ⟨by simp, callA_give ?_⟩
 simp only [push_cast, ↓reduceIte, reduceCtorEq, zB, zE, zA, zS, zL, zD, zM]
 refine call_as (as' := [sb (47 :: ([115, 116, 97, 116] ++ 63 :: kv 119 [49, 50]))]) rfl ?_
 refine call_mk (pars _ (askA 0 [] [] []) 6 (by decide) (by unfold Tame; decide) (by rw [stat_q _ (by decide) (by decide), words_1]; rfl)) rfl trivial ?_
 have g1 : ((2 : Int) + 1 == 3) = true := rfl
 have hg : ∀ z, [n8 1, n8 2, n8 3].getD (zad 2) z = .v (.int .i64 3) := fun _ => rfl
 simp only [askA, nilOr, g1, hg, push_cast, ↓reduceIte, reduceCtorEq, zB, zE, zA, zS, zL, zD, zM]
 refine ⟨by decide, ?_⟩
 refine call_mk (askname_t 14) rfl trivial ?_
 have hn : ((bstr (nameL 14)).toList == ({ data := #[105, 110, 102, 111] } : ByteArray).toList) = true := by
  rw [bstr_list, ByteArray.toList_eq]
  rfl
 simp only [hn, push_cast, ↓reduceIte, reduceCtorEq, zB, zE, zA, zS, zL, zD, zM]

theorem identP_good {W : Nat} (h : W < 18446744073709551616) (hB : isWB W = true) : identP (hexN W 16) = (W, 0) := by
 unfold identP
 rw [digitsP_hexN W h]
 simp only
 rw [if_pos hB]
theorem plain_free {l : Bs} (h : ∀ c ∈ l, plainC c) : (38 : UInt8) ∉ l := fun hm => plain_ne (h _ hm) (by decide) rfl
theorem itoa_len (n : Int) (hn : in64 n) : (Lib.itoa n).length ≤ 21 := by
 unfold in64 at hn
 unfold Lib.itoa
 split
 ·have := dec_len (u := n.natAbs) (k := 19) (by omega) (by decide)
  simp; omega
 ·have := dec_len (u := n.toNat) (k := 19) (by omega) (by decide)
  omega

end Go.Ev
