import Derived.Test.YtjcpepjhjencaaaDoorNumT2
import Derived.WalkKit
import Derived.WalkSpells
namespace Go.Ev
open Go Go.RowKit
set_option linter.unnecessarySimpa false
set_option linter.unusedSimpArgs false
set_option linter.unusedVariables false
noncomputable def apiarylaw1_NumTexts_pc : PC :=
  (.seq (.reg [⟨(some 4), none, 0, .see (.mov (.c (.r (.v (.bool false)))))⟩])
  (.seq (.reg [⟨(some 13), none, 0, .see (.mov (.t 0))⟩,
    ⟨(some 14), none, 1, .call 26 [(.t 13)]⟩,
    ⟨(some 12), none, 0, .see (.mov (.t 14))⟩,
    ⟨(some 15), none, 0, .see (.ext (.t 12) 0)⟩,
    ⟨(some 16), none, 0, .see (.ext (.t 12) 1)⟩,
    ⟨(some 5), none, 0, .see (.mov (.t 15))⟩,
    ⟨(some 6), none, 0, .see (.mov (.t 16))⟩])
  (.seq (.reg [⟨(some 18), none, 0, .see (.mov (.t 0))⟩,
    ⟨(some 19), none, 2, .call 27 [(.t 18)]⟩,
    ⟨(some 17), none, 0, .see (.mov (.t 19))⟩,
    ⟨(some 20), none, 0, .see (.ext (.t 17) 0)⟩,
    ⟨(some 21), none, 0, .see (.ext (.t 17) 1)⟩,
    ⟨(some 7), none, 0, .see (.mov (.t 20))⟩,
    ⟨(some 8), none, 0, .see (.mov (.t 21))⟩])
  (.seq (.reg [⟨(some 22), none, 0, .see (.mov (.t 1))⟩,
    ⟨(some 23), none, 3, .call 28 [(.t 22)]⟩,
    ⟨(some 9), none, 0, .see (.mov (.t 23))⟩])
  (.seq (.reg [⟨(some 25), none, 0, .see (.mov (.t 9))⟩,
    ⟨(some 26), none, 4, .call 26 [(.t 25)]⟩,
    ⟨(some 24), none, 0, .see (.mov (.t 26))⟩,
    ⟨(some 27), none, 0, .see (.ext (.t 24) 0)⟩,
    ⟨(some 28), none, 0, .see (.ext (.t 24) 1)⟩,
    ⟨(some 10), none, 0, .see (.mov (.t 27))⟩,
    ⟨(some 11), none, 0, .see (.mov (.t 28))⟩])
  (.seq (.reg [⟨(some 29), none, 0, .see (.mov (.t 5))⟩,
    ⟨(some 30), none, 0, .see (.mov (.t 7))⟩,
    ⟨(some 31), none, 0, .see (.bin .eql (.t 29) (.t 30))⟩,
    ⟨(some 32), none, 0, .see (.mov (.t 31))⟩,
    ⟨(some 33), (some (32, true)), 0, .see (.mov (.t 6))⟩,
    ⟨(some 34), (some (32, true)), 0, .see (.mov (.t 8))⟩,
    ⟨(some 35), (some (32, true)), 0, .see (.beq false (.t 33) (.t 34))⟩,
    ⟨(some 36), none, 0, .see (.pick (.t 32) (.t 35) (.c (.r (.v (.bool false)))))⟩,
    ⟨(some 37), none, 0, .see (.mov (.t 36))⟩,
    ⟨(some 38), (some (37, true)), 0, .see (.mov (.t 9))⟩,
    ⟨(some 39), (some (37, true)), 0, .see (.mov (.t 1))⟩,
    ⟨(some 40), (some (37, true)), 5, .call 29 [(.t 39)]⟩,
    ⟨(some 41), (some (37, true)), 0, .see (.bin .eql (.t 38) (.t 40))⟩,
    ⟨(some 42), none, 0, .see (.pick (.t 37) (.t 41) (.c (.r (.v (.bool false)))))⟩,
    ⟨(some 43), none, 0, .see (.mov (.t 42))⟩,
    ⟨(some 44), (some (43, true)), 0, .see (.mov (.t 11))⟩,
    ⟨(some 45), none, 0, .see (.pick (.t 43) (.t 44) (.c (.r (.v (.bool false)))))⟩,
    ⟨(some 46), none, 0, .see (.mov (.t 45))⟩,
    ⟨(some 47), (some (46, true)), 0, .see (.mov (.t 10))⟩,
    ⟨(some 48), (some (46, true)), 0, .see (.mov (.t 1))⟩,
    ⟨(some 49), (some (46, true)), 0, .see (.bin .eql (.t 47) (.t 48))⟩,
    ⟨(some 50), none, 0, .see (.pick (.t 46) (.t 49) (.c (.r (.v (.bool false)))))⟩,
    ⟨(some 51), none, 0, .see (.mov (.t 50))⟩,
    ⟨(some 52), (some (51, true)), 0, .see (.mov (.t 6))⟩,
    ⟨(some 53), (some (51, true)), 0, .see (.un .not (.t 52))⟩,
    ⟨(some 54), (some (51, true)), 0, .see (.mov (.t 53))⟩,
    ⟨(some 55), (some (54, false)), 0, .see (.mov (.t 5))⟩,
    ⟨(some 56), (some (54, false)), 6, .call 28 [(.t 55)]⟩,
    ⟨(some 57), (some (54, false)), 0, .see (.mov (.t 0))⟩,
    ⟨(some 58), (some (54, false)), 0, .see (.bin .eql (.t 56) (.t 57))⟩,
    ⟨(some 59), (some (51, true)), 0, .see (.pick (.t 54) (.c (.r (.v (.bool true)))) (.t 58))⟩,
    ⟨(some 60), none, 0, .see (.pick (.t 51) (.t 59) (.c (.r (.v (.bool false)))))⟩,
    ⟨(some 61), none, 0, .see (.mov (.t 60))⟩,
    ⟨(some 62), (some (61, true)), 7, .call 14 []⟩,
    ⟨(some 63), none, 0, .see (.pick (.t 61) (.t 62) (.c (.r (.v (.bool false)))))⟩,
    ⟨(some 4), none, 0, .see (.mov (.t 63))⟩])
  .ret))))))
noncomputable abbrev apiarylaw1_NumTexts_code : Code := (Go.Proofs.Tryd.f9.body).getD .skip
theorem apiarylaw1_NumTexts_chk : chkC Go.Proofs.Tryd.prog 64 apiarylaw1_NumTexts_code apiarylaw1_NumTexts_pc = true := by kernel_rfl
theorem apiarylaw1_NumTexts_triple {args : List AV} {po ro : List Ob} {res : AV} (hal : args.length = 2) (hpo : po.length ≤ 1000)
    (h : run Go.Proofs.Tryd.prog po.length (RetP po.length [(4, false, none)] fun v os => v = res ∧ os = ro) [.c apiarylaw1_NumTexts_pc] ⟨argE 0 args, ob0 po⟩) : Triple Go.Proofs.Tryd.prog 9 args po res ro :=
  triple_of_W (fn := Go.Proofs.Tryd.f9) (c := apiarylaw1_NumTexts_code) (pc := apiarylaw1_NumTexts_pc) (rs := [(4, false, none)]) Go.Proofs.Tryd.func9 rfl (by decide) (by have := apiarylaw1_NumTexts_chk; exact this) (by rw [hal]; decide) rfl (by kernel_rfl) (by kernel_rfl) (by decide) hpo (W_of_run h)

theorem glob_syn : (Go.Proofs.Tryd.prog).globalNamed "strconv.ErrSyntax" = some 0 := by kernel_rfl
theorem glob_rng : (Go.Proofs.Tryd.prog).globalNamed "strconv.ErrRange" = some 1 := by kernel_rfl
def optV (o : Option Int) : Value := match o with
  | some v => .tuple #[.int .i64 v, .bool true]
  | none => .tuple #[.int .i64 0, .bool false]
theorem text_calls (n : Int) (hn : in64 n) (w : World) (hgl : Gl Go.Proofs.Tryd.prog w fun _ => False) :
    Calls Go.Proofs.Tryd.prog 28 #[.int .i64 n] w fun e w' => e = .returned (.string (txt n)) ∧ Below w.heap.size w w' := by
  refine (calls_of_triple (text_t n hn) w hgl (by simp) (rel0_cons (rel0_v _) rel0_nil)).mono ?_
  rintro e w' ⟨c, rfl, hb, ρ', hR⟩
  cases hR with
  | r h => cases h; exact ⟨rfl, hb⟩
theorem gl_below {P : Program} {w w' : World} (h : Gl P w fun _ => False) (hb : Below w.heap.size w w') : Gl P w' fun _ => False :=
  h.keep fun g hg _ => ⟨hb.block g hg, id⟩
set_option maxRecDepth 100000 in
theorem parse_calls (l : List UInt8) (hl : l.length ≤ 140737488355328) (w : World) (hgl : Gl Go.Proofs.Tryd.prog w fun _ => False) :
    Calls Go.Proofs.Tryd.prog 26 #[.string (bstr l)] w fun e w' => e = .returned (optV (pv l)) ∧ Below w.heap.size w w' := by
  have hsz : (bstr l).size ≤ 281474976710656 := by rw [bstr_size]; omega
  have hsz2 : (bstr l).size ≤ 9223372036854775806 := by rw [bstr_size]; omega
  have hd : (bstr l).data.toList = l := bstr_data l
  cases h : Lib.parseIntB 64 l
  · rename_i v
    have hb := Lib.parseIntB_bounds (B := 64) h
    have hv : in64 v := by unfold in64; omega
    have hpv : pv l = if Lib.itoa v = l then some v else none := by simp [pv, h]
    go_enter Go.Proofs.Tryd.func26, Go.Proofs.Tryd.ntmps26
    go_wp2_with fail
    refine (Go.Proofs.Any.strconv_ParseInt_10_at64_ok Go.Proofs.Tryd.laysC174 (bstr l) hsz2 v (by rw [hd]; exact h) w).mono ?_
    rintro e w1 ⟨rfl, hw⟩
    have hb1 : Below w.heap.size w w1 := by
      rcases hw with rfl | ⟨t, rfl⟩
      · exact Below.refl _ _
      · exact Lib.bytesWorld_below _ _ _
    clear hw
    go_wp2_with fail
    refine (text_calls v hv w1 (gl_below hgl hb1)).mono ?_
    rintro e w2 ⟨rfl, hb2⟩
    have hb3 : Below w.heap.size w w2 := hb1.trans (hb2.mono hb1.size)
    by_cases he : Lib.itoa v = l
    · have hq : ((txt v).toList == (bstr l).toList) = true := by rw [txt_eq, bstr_list, bstr_list]; simpa using he
      go_wp2_with fail
      go_ret2
      refine ⟨?_, hb3⟩
      rw [hpv, if_pos he]; rfl
    · have hq : ((txt v).toList == (bstr l).toList) = false := by rw [txt_eq, bstr_list, bstr_list]; simpa using he
      go_wp2_with fail
      go_ret2
      refine ⟨?_, hb3⟩
      rw [hpv, if_neg he]; rfl
  · have hpv : pv l = none := by simp [pv, h]
    obtain ⟨cs, k1, tp, p, k2⟩ := var_of (hgl.syn rfl) glob_syn
    subst k2
    go_enter Go.Proofs.Tryd.func26, Go.Proofs.Tryd.ntmps26
    go_wp2_with fail
    refine (Go.Proofs.Any.strconv_ParseInt_10_at64_syntax_var Go.Proofs.Tryd.laysC174 (bstr l) hsz (by rw [hd]; exact h) tp p w k1).mono ?_
    rintro e w1 ⟨N, rfl, _, _, hb1⟩
    go_wp2_with fail
    go_ret2
    exact ⟨by rw [hpv]; rfl, hb1⟩
  · have hpv : pv l = none := by simp [pv, h]
    obtain ⟨cs, k1, tp, p, k2⟩ := var_of (hgl.rng rfl) glob_rng
    subst k2
    go_enter Go.Proofs.Tryd.func26, Go.Proofs.Tryd.ntmps26
    go_wp2_with fail
    refine (Go.Proofs.Any.strconv_ParseInt_10_at64_range_var Go.Proofs.Tryd.laysC174 (bstr l) hsz (by rw [hd]; exact h) tp p w k1).mono ?_
    rintro e w1 ⟨N, rfl, _, _, hb1⟩
    go_wp2_with fail
    go_ret2
    exact ⟨by rw [hpv]; rfl, hb1⟩
/-- From a call's contract over numbers and texts, with more answers than one. -/
theorem triple_of_calls2 {P : Program} {f : FuncId} {vs : List Value} {r : AV} (h : ∀ w, Gl P w (fun _ => False) → Calls P f vs.toArray w fun e w' => ∃ c, e = .returned c ∧ Below w.heap.size w w' ∧ ∀ R ob ρ, RelA w' R ob ρ r c) : Triple P f (vs.map fun v => .r (.v v)) [] r [] := by
  intro w cargs ρ B hgl hB hM hs hargs
  have hc : cargs = vs.toArray := by
    apply Array.ext (by simpa using hs)
    intro i h1 h2
    have := hargs i (.r (.v (vs[i]'(by simpa using h2)))) cargs[i] (by simp [show i < vs.length by simpa using h2]) (by simp [h1])
    have := inv_v (s := ⟨fun _ => .undef, ob0 []⟩) (X := ⟨0, fun _ => False, fun _ => none, B, w⟩) this
    rw [this]
    simp
  rw [hc]
  refine (h w (hgl.keep fun g _ _ => ⟨rfl, id⟩)).mono ?_
  rintro e w' ⟨c, rfl, hb, hr⟩
  refine ⟨c, ρ, rfl, ⟨fun id v o h => by simp [obs] at h, fun id id' x x' b h => by simp [obs] at h, ⟨hb.os, hb.tape, hb.output, hb.size, fun b hlt _ => hb.block b hlt⟩, fun id v o b h => by simp [obs] at h, fun id b hp => ?_⟩, hr _ _ _⟩
  simp [pinOf, obs] at hp
theorem opt_rel {w : World} {R : Nat → Prop} {ob : Obs} {ρ : Nat → Option Nat} (o : Option Int) : RelA w R ob ρ (opt o) (optV o) := by
  have two : ∀ (a b : Value), RelA w R ob ρ (.tup [.r (.v a), .r (.v b)]) (.tuple #[a, b]) := fun a b => .tup _ _ (by simp) fun i x c hx hc => by
    match i with
    | 0 => simp at hx hc; subst hx; subst hc; exact .r (.v _)
    | 1 => simp at hx hc; subst hx; subst hc; exact .r (.v _)
    | i + 2 => simp at hx
  cases o <;> exact two _ _
theorem parse_t (l : List UInt8) (hl : l.length ≤ 140737488355328) : Triple Go.Proofs.Tryd.prog 26 [strv (bstr l)] [] (opt (pv l)) [] := by
  refine triple_of_calls2 (vs := [.string (bstr l)]) fun w hgl => (parse_calls l hl w hgl).mono ?_
  rintro e w' ⟨rfl, hb⟩
  exact ⟨_, rfl, hb, fun R ob ρ => opt_rel _⟩
set_option maxRecDepth 100000 in
theorem numTexts_t (l : List UInt8) (hl : l.length ≤ 140737488355328) (n : Int) (hn : in64 n) : Triple Go.Proofs.Tryd.prog 9 [strv (bstr l), int .i64 n] [] (bl true) [] := by
  refine apiarylaw1_NumTexts_triple rfl (by decide) ?_
  simp only [apiarylaw1_NumTexts_pc, List.length_nil, push_cast, ↓reduceIte, reduceCtorEq, Nat.reduceBEq, Nat.reduceEqDiff, Nat.reduceAdd, Nat.reduceSub, Nat.reduceLT, Nat.reduceLeDiff, Nat.reduceMul]
  refine call_mk (parse_t l hl) rfl trivial ?_
  have hlen : (Lib.itoa n).length ≤ 140737488355328 := by
    unfold in64 at hn
    unfold Lib.itoa
    split
    · have := dec_len (u := n.natAbs) (k := 19) (by omega) (by decide)
      simp; omega
    · have := dec_len (u := n.toNat) (k := 19) (by omega) (by decide)
      omega
  have hself : pv (Lib.itoa n) = some n := (pv_iff _ _).2 ⟨hn, rfl⟩
  cases ho : pv l with
  | none =>
    simp only [opt, push_cast, ↓reduceIte, reduceCtorEq, Nat.reduceBEq, Nat.reduceEqDiff, Nat.reduceAdd, Nat.reduceSub, Nat.reduceLT, Nat.reduceLeDiff, Nat.reduceMul]
    refine call_mk (rparse_t l (by omega)) rfl trivial ?_
    simp only [← pv_rp, ho, opt, push_cast, ↓reduceIte, reduceCtorEq, Nat.reduceBEq, Nat.reduceEqDiff, Nat.reduceAdd, Nat.reduceSub, Nat.reduceLT, Nat.reduceLeDiff, Nat.reduceMul]
    refine call_mk (text_t n hn) rfl trivial ?_
    simp only [txt_eq, push_cast, ↓reduceIte, reduceCtorEq, Nat.reduceBEq, Nat.reduceEqDiff, Nat.reduceAdd, Nat.reduceSub, Nat.reduceLT, Nat.reduceLeDiff, Nat.reduceMul]
    refine call_mk (parse_t (Lib.itoa n) hlen) rfl trivial ?_
    simp only [hself, opt, push_cast, ↓reduceIte, reduceCtorEq, Nat.reduceBEq, Nat.reduceEqDiff, Nat.reduceAdd, Nat.reduceSub, Nat.reduceLT, Nat.reduceLeDiff, Nat.reduceMul]
    refine call_mk (rtext_t n hn) rfl trivial ?_
    simp only [txt_eq, push_cast, ↓reduceIte, reduceCtorEq, Nat.reduceBEq, Nat.reduceEqDiff, Nat.reduceAdd, Nat.reduceSub, Nat.reduceLT, Nat.reduceLeDiff, Nat.reduceMul]
    refine call_mk awake1_t rfl trivial ?_
    simp only [push_cast, ↓reduceIte, reduceCtorEq, Nat.reduceBEq, Nat.reduceEqDiff, Nat.reduceAdd, Nat.reduceSub, Nat.reduceLT, Nat.reduceLeDiff, Nat.reduceMul]
  | some v =>
    obtain ⟨hv, hvl⟩ := (pv_iff l v).1 ho
    simp only [opt, push_cast, ↓reduceIte, reduceCtorEq, Nat.reduceBEq, Nat.reduceEqDiff, Nat.reduceAdd, Nat.reduceSub, Nat.reduceLT, Nat.reduceLeDiff, Nat.reduceMul]
    refine call_mk (rparse_t l (by omega)) rfl trivial ?_
    simp only [← pv_rp, ho, opt, push_cast, ↓reduceIte, reduceCtorEq, Nat.reduceBEq, Nat.reduceEqDiff, Nat.reduceAdd, Nat.reduceSub, Nat.reduceLT, Nat.reduceLeDiff, Nat.reduceMul]
    refine call_mk (text_t n hn) rfl trivial ?_
    simp only [txt_eq, push_cast, ↓reduceIte, reduceCtorEq, Nat.reduceBEq, Nat.reduceEqDiff, Nat.reduceAdd, Nat.reduceSub, Nat.reduceLT, Nat.reduceLeDiff, Nat.reduceMul]
    refine call_mk (parse_t (Lib.itoa n) hlen) rfl trivial ?_
    simp only [hself, opt, push_cast, ↓reduceIte, reduceCtorEq, Nat.reduceBEq, Nat.reduceEqDiff, Nat.reduceAdd, Nat.reduceSub, Nat.reduceLT, Nat.reduceLeDiff, Nat.reduceMul]
    refine call_mk (rtext_t n hn) rfl trivial ?_
    simp only [txt_eq, push_cast, ↓reduceIte, reduceCtorEq, Nat.reduceBEq, Nat.reduceEqDiff, Nat.reduceAdd, Nat.reduceSub, Nat.reduceLT, Nat.reduceLeDiff, Nat.reduceMul]
    refine call_mk (text_t v hv) rfl trivial ?_
    simp only [txt_eq, hvl, push_cast, ↓reduceIte, reduceCtorEq, Nat.reduceBEq, Nat.reduceEqDiff, Nat.reduceAdd, Nat.reduceSub, Nat.reduceLT, Nat.reduceLeDiff, Nat.reduceMul]
    refine call_mk awake1_t rfl trivial ?_
    simp only [push_cast, ↓reduceIte, reduceCtorEq, Nat.reduceBEq, Nat.reduceEqDiff, Nat.reduceAdd, Nat.reduceSub, Nat.reduceLT, Nat.reduceLeDiff, Nat.reduceMul]
end Go.Ev
