import Derived.Test.YtocfnfcflljooaaGreatM7
namespace Go.Ev
set_option maxRecDepth 100000
open Go
set_option linter.unusedSectionVars false
set_option linter.unnecessarySimpa false
open Nat (reduceEqDiff reduceAdd reduceSub reduceLT reduceLeDiff reduceMul)
set_option linter.unusedSimpArgs false
set_option linter.unusedVariables false
noncomputable def apiarylaw18_Points_pc : PC :=
  (.seq (.reg [p_s 2 (.mov (.c (.nils 4 (.agg [(.v (.int .i64 0)), (.v (.int .i64 0)), (.v (.int .i64 0)), (.v (.int .i64 0))]))))])
 (.seq (.reg [p_s 3 (.mov (.c (.nils 4 (.agg [(.v (.int .i64 0)), (.v (.int .i64 0)), (.v (.int .i64 0)), (.v (.int .i64 0))]))))])
 (.seq (.seq (.reg [p_s 4 (.mov (o_i 0))])
 (.block 0 (.loop (.seq (.seq (.reg [p_m 8 4, p_s 9 (.bin .add (.t 8) (o_i 1)), p_m 10 0, p_s 11 (.len false (.t 10)), p_s 12 (.bin .lss (.t 9) (.t 11)), p_m 13 12, p_g 14 13 true (.mov (.t 4)), p_g 15 13 true (.bin .lss (.t 14) (o_i 80)),
 p_s 16 (.pick (.t 13) (.t 15) (.c (.r (.v (.bool false)))))])
 (.cond (.t 16)
 .skip
 (.exit 0)))
 (.seq (.block 1 (.seq (.drw [p_m 19 0, p_m 20 4, p_s 21 (.ia 1 (.v (.int .i64 0)) (.t 19) (.t 20)), p_s 22 (.ld none (.t 21)), p_s 23 (.bin .and (.t 22) (o_i 1073741823)), p_m 24 0, p_m 25 4,
 p_s 26 (.bin .add (.t 25) (o_i 1)), p_s 27 (.ia 1 (.v (.int .i64 0)) (.t 24) (.t 26)), p_s 28 (.ld none (.t 27)), p_s 29 (.bin .and (.t 28) (o_i 1073741823)), p_m 5 23,
 p_m 6 29]
 [[], [], [0, 1], [0, 1, 2], [0, 1, 2, 3], [], [], [6], [5, 6, 7], [5, 6, 7, 8], [5, 6, 7, 8, 9], [0, 1, 2, 3, 4], [0, 1, 2, 3, 4, 5, 6, 7, 8, 9, 10, 11]])
 (.seq (.seq (.reg [p_m 30 4, p_s 31 (.bin .gtr (.t 30) (o_i 0)), p_m 32 31, p_g 33 32 true (.mov (.t 0)), p_g 34 32 true (.mov (.t 4)), p_g 35 32 true (.ia 1 (.v (.int .i64 0)) (.t 33) (.t 34)),
 p_g 36 32 true (.ld none (.t 35)), p_g 37 32 true (.bin .shr (.t 36) (.c (.r (.v (.int .u64 40))))), p_g 38 32 true (.bin .and (.t 37) (o_i 3)), p_g 39 32 true (.bin .neq (.t 38) (o_i 0)),
 p_s 40 (.pick (.t 32) (.t 39) (.c (.r (.v (.bool false)))))])
 (.cond (.t 40)
 (.seq (.reg [p_m 41 3, p_m 42 3, p_s 43 (.len false (.t 42)), p_s 44 (.bin .sub (.t 43) (o_i 1)), p_s 45 (.ia 4 (.agg [(.v (.int .i64 0)), (.v (.int .i64 0)), (.v (.int .i64 0)), (.v (.int .i64 0))]) (.t 41) (.t 44)),
 p_s 46 (.ld (some 4) (.t 45)), p_a 7 (.new [(.r (.v (.int .i64 0))), (.r (.v (.int .i64 0))), (.r (.v (.int .i64 0))), (.r (.v (.int .i64 0)))]), ⟨none, none, 0, .act (.st 4 (.t 7) (.t 46))⟩])
 (.drw [p_s 47 (.fa 1 (.t 7)), p_s 48 (.ld none (.t 47)), p_m 49 0, p_m 50 4, p_s 51 (.ia 1 (.v (.int .i64 0)) (.t 49) (.t 50)), p_s 52 (.ld none (.t 51)), p_s 53 (.bin .and (.t 52) (o_i 1023)),
 p_s 54 (.bin .add (.t 48) (.t 53)), p_s 55 (.mm false (.t 54) [(o_i 1073741823)]), p_s 56 (.fa 2 (.t 7)), p_s 57 (.ld none (.t 56)), p_m 58 0, p_m 59 4, p_s 60 (.bin .add (.t 59) (o_i 1)),
 p_s 61 (.ia 1 (.v (.int .i64 0)) (.t 58) (.t 60)), p_s 62 (.ld none (.t 61)), p_s 63 (.bin .and (.t 62) (o_i 1023)), p_s 64 (.bin .add (.t 57) (.t 63)), p_s 65 (.mm false (.t 64) [(o_i 1073741823)]),
 p_m 5 55, p_m 6 65]
 [[], [0], [], [], [2, 3], [2, 3, 4], [2, 3, 4, 5], [0, 1, 2, 3, 4, 5, 6], [0, 1, 2, 3, 4, 5, 6, 7], [], [9], [], [], [12], [11, 12, 13], [11, 12, 13, 14], [11, 12, 13, 14, 15], [9, 10, 11, 12, 13, 14, 15, 16], [9, 10, 11, 12, 13, 14, 15, 16, 17], [0, 1, 2, 3, 4, 5, 6, 7, 8], [0, 1, 2, 3, 4, 5, 6, 7, 8, 9, 10, 11, 12, 13, 14, 15, 16, 17, 18, 19]]))
 .skip))
 (.reg [p_m 66 3, p_m 67 4, p_s 68 (.bin .quo (.t 67) (o_i 2)), p_s 69 (.bin .add (.t 68) (o_i 1)), p_m 70 5, p_m 71 6, p_m 72 0, p_m 73 4, p_s 74 (.bin .add (.t 73) (o_i 1)),
 p_s 75 (.ia 1 (.v (.int .i64 0)) (.t 72) (.t 74)), p_s 76 (.ld none (.t 75)), p_s 77 (.bin .shr (.t 76) (.c (.r (.v (.int .u64 30))))), p_s 78 (.bin .and (.t 77) (o_i 255)),
 p_s 79 (.bin .sub (.t 78) (o_i 99)), p_s 80 (.build [(.r (.v (.int .i64 0))), (.r (.v (.int .i64 0))), (.r (.v (.int .i64 0))), (.r (.v (.int .i64 0)))] [(0, 1, (.t 69)), (1, 1, (.t 70)), (2, 1, (.t 71)), (3, 1, (.t 79))]),
 p_a 81 (.bsl 4 (.agg [(.v (.int .i64 0)), (.v (.int .i64 0)), (.v (.int .i64 0)), (.v (.int .i64 0))]) [(.t 80)]), p_a 82 (.app 4 (.agg [(.v (.int .i64 0)), (.v (.int .i64 0)), (.v (.int .i64 0)), (.v (.int .i64 0))]) 32 (.t 66) (.t 81)),
 p_m 3 82]))))
 (.reg [p_m 17 4, p_s 18 (.bin .add (.t 17) (o_i 2)), p_m 4 18]))))))
 (.seq (.reg [p_m 83 3, p_m 2 83])
 .ret))))
theorem apiarylaw18_Points_triple : Fun Go.Proofs.Tryz.prog 8 1 [(2, false, none)] apiarylaw18_Points_pc := fun_mk Go.Proofs.Tryz.func8 rfl (by decide) (by kernel_rfl) (by decide) rfl (by kernel_rfl) (by kernel_rfl) (by decide)
def i64s (xs : List Int) : RV := .sl 1 (xs.map fun x => .v (.int .i64 x))
theorem i64s_get {xs : List Int} {i : Nat} {x : Int} (h : xs[i]? = some x) (z : RV) : (xs.map fun x => RV.v (.int .i64 x)).getD ((i : Int)).toNat z = .v (.int .i64 x) := by
 simp [List.getD, h]
def gPt (a b : Int) (l : List Pt) : Pt := match l.getLast? with
 | some p => if a / 1099511627776 % 4 ≠ 0 then ⟨l.length + 1, min (p.x + a % 1024) 1073741823, min (p.y + b % 1024) 1073741823, b / 1073741824 % 256 - 99⟩ else ⟨l.length + 1, a % 1073741824, b % 1073741824, b / 1073741824 % 256 - 99⟩
 | none => ⟨l.length + 1, a % 1073741824, b % 1073741824, b / 1073741824 % 256 - 99⟩
def genL : List Int → List Pt → List Pt
 | a :: b :: r, l => if l.length < 40 then genL r (l ++ [gPt a b l]) else l
 | _, l => l
def GP (l : List Pt) : Prop := ∀ (j : Nat) (p : Pt), l[j]? = some p → p.k = (j : Int) + 1 ∧ p.ok
theorem gPt_k (a b : Int) (l : List Pt) : (gPt a b l).k = (l.length : Int) + 1 := by
 unfold gPt
 split
 ·split <;> rfl
 ·rfl
theorem gPt_ok {a b : Int} {l : List Pt} (h : GP l) (hl : l.length < 40) : (gPt a b l).ok := by
 unfold gPt
 split
 ·rename_i p hp
  rw [List.getLast?_eq_getElem?] at hp
  have := (h _ p hp).2.2.1
  unfold inW at this
  split
  ·refine ⟨by simp only; omega, ?_, by simp only; omega⟩
   simp only [inW]
   omega
  ·refine ⟨by simp only; omega, ?_, by simp only; omega⟩
   simp only [inW]
   omega
 ·refine ⟨by simp only; omega, ?_, by simp only; omega⟩
  simp only [inW]
  omega
theorem gp_add {a b : Int} {l : List Pt} (h : GP l) (hl : l.length < 40) : GP (l ++ [gPt a b l]) := by
 intro j p hp
 rcases Nat.lt_trichotomy j l.length with hj | hj | hj
 ·rw [List.getElem?_append_left hj] at hp
  exact h j p hp
 ·subst hj
  rw [List.getElem?_append_right (Nat.le_refl _), Nat.sub_self] at hp
  simp at hp
  subst hp
  exact ⟨gPt_k .., gPt_ok h hl⟩
 ·rw [List.getElem?_eq_none (by simp; omega)] at hp
  cases hp
theorem m30 (a : Int) : IntKind.i64.wrap ((BitVec.ofInt IntKind.i64.bits a &&& BitVec.ofInt IntKind.i64.bits 1073741823).toNat) = a % 1073741824 := and_mask a 1073741823 30 (by decide) (by decide)
theorem m8 (a : Int) : IntKind.i64.wrap ((BitVec.ofInt IntKind.i64.bits a &&& BitVec.ofInt IntKind.i64.bits 255).toNat) = a % 256 := and_mask a 255 8 (by decide) (by decide)
theorem m2 (a : Int) : IntKind.i64.wrap ((BitVec.ofInt IntKind.i64.bits a &&& BitVec.ofInt IntKind.i64.bits 3).toNat) = a % 4 := and_mask a 3 2 (by decide) (by decide)
theorem m10 (a : Int) : IntKind.i64.wrap ((BitVec.ofInt IntKind.i64.bits a &&& BitVec.ofInt IntKind.i64.bits 1023).toNat) = a % 1024 := and_mask a 1023 10 (by decide) (by decide)
theorem sh30 (b : Int) : b.fdiv (2 ^ min (Int.toNat 30) IntKind.i64.bits) = b / 1073741824 := Int.fdiv_eq_ediv_of_nonneg b (by decide)
theorem sh40 (b : Int) : b.fdiv (2 ^ min (Int.toNat 40) IntKind.i64.bits) = b / 1099511627776 := Int.fdiv_eq_ediv_of_nonneg b (by decide)
theorem w99 (b : Int) : IntKind.i64.wrap (b % 256 - 99) = b % 256 - 99 := wrap_id (by omega)
theorem gen_t (xs : List Int) (hx : ∀ x ∈ xs, -9223372036854775808 ≤ x ∧ x ≤ 9223372036854775807) {res : AV} {ro : List Ob}
    (hres : (genL xs [] = [] ∧ res = .nils 4 (Pt.rv ⟨0, 0, 0, 0⟩) ∧ ro = []) ∨ (genL xs [] ≠ [] ∧ res = .own 1000000 0 0 (genL xs []).length ∧ ro = [.row 4 (Pt.rv ⟨0, 0, 0, 0⟩) true true ((genL xs []).map Pt.rv)])) :
    Triple Go.Proofs.Tryz.prog 8 [.r (i64s xs)] [] res ro := by
  refine apiarylaw18_Points_triple rfl (by decide) ?_
  have hml : 100 ≤ maxLen := by decide
  simp only [apiarylaw18_Points_pc, i64s, List.length_nil, List.length_map, push_cast, ↓reduceIte, reduceCtorEq, Nat.reduceBEq, reduceEqDiff, reduceAdd, reduceSub, reduceLT, reduceLeDiff, reduceMul]
  refine run_loop [(4, false), (0, false), (3, false)] (fun vs pos los => ∃ (i : Nat) (acc : List Pt), i = 2 * acc.length ∧ i ≤ 80 ∧ GP acc ∧ genL xs [] = genL (xs.drop i) acc ∧ (acc = [] ∧ vs = [int .i64 i, .r (i64s xs), .nils 4 (Pt.rv ⟨0, 0, 0, 0⟩)] ∧ pos = [] ∧ los = [] ∨
     acc ≠ [] ∧ vs = [int .i64 i, .r (i64s xs), .own 2000000 0 0 acc.length] ∧ pos = [] ∧ los = [.row 4 (Pt.rv ⟨0, 0, 0, 0⟩) true true (acc.map Pt.rv)]))
    (fun vs _ _ => match vs with | .r (.v (.int _ j)) :: _ => (80 - j).toNat | _ => 0) rfl ?_ ?_
  · simp only [i64s, Pt.rv, push_cast, ↓reduceIte, reduceCtorEq, Nat.reduceBEq, reduceEqDiff, reduceAdd, reduceSub, reduceLT, reduceLeDiff, reduceMul]
    exact ⟨0, [], rfl, by omega, by simp [GP], rfl, .inl ⟨rfl, rfl⟩⟩
  · rintro vs pos los ⟨i, acc, hi, h80, hgp, hg, hcase⟩
    have w1 : IntKind.i64.wrap ((i : Int) + 1) = (i : Int) + 1 := wrap_id (by omega)
    have w2 : IntKind.i64.wrap ((i : Int) + 2) = (i : Int) + 2 := wrap_id (by omega)
    rcases hcase with ⟨rfl, rfl, rfl, rfl⟩ | ⟨h0, rfl, rfl, rfl⟩
    · have hi' : i = 0 := hi
      have hi0 : decide ((i : Int) > 0) = false := by simp at hi ⊢; omega
      simp only [i64s, Pt.rv, List.length_map, w1, w2, hi0, push_cast, ↓reduceIte, reduceCtorEq, Nat.reduceBEq, reduceEqDiff, reduceAdd, reduceSub, reduceLT, reduceLeDiff, reduceMul]
      refine cnd_mk (fun h => ?_) (fun h => ?_)
      · have h8 : i < 80 := by
          simp at h
          omega
        have h' : i + 1 < xs.length := by
          simp at h
          omega
        obtain ⟨a, ha⟩ : ∃ a, xs[i]? = some a := ⟨xs[i], by simp⟩
        obtain ⟨b, hb⟩ : ∃ b, xs[i + 1]? = some b := ⟨xs[i + 1], by simp [h']⟩
        have ga : ∀ z, (xs.map fun x => RV.v (.int .i64 x)).getD ((i : Int)).toNat z = .v (.int .i64 a) := i64s_get ha
        have gb : ∀ z, (xs.map fun x => RV.v (.int .i64 x)).getD ((i : Int) + 1).toNat z = .v (.int .i64 b) := fun z => by simpa using i64s_get hb z
        have d1 : IntKind.i64.wrap (IntKind.i64.wrap ((i : Int).tdiv 2) + 1) = 1 := by simp at hi; subst hi; decide
        simp only [w1, w2, hi0, ga, gb, d1, m30, m8, sh30, w99, List.length_map, push_cast, ↓reduceIte, reduceCtorEq, Nat.reduceBEq, reduceEqDiff, reduceAdd, reduceSub, reduceLT, reduceLeDiff, reduceMul]
        have hd : xs.drop i = a :: b :: xs.drop (i + 2) := by
          rw [List.drop_eq_getElem_cons (by omega), (List.getElem?_eq_some_iff.1 ha).2, List.drop_eq_getElem_cons h', (List.getElem?_eq_some_iff.1 hb).2]
        repeat refine And.intro (by first | decide | omega | (simp +contextual; done) | kernel_rfl) ?_
        refine ⟨⟨i + 2, [gPt a b []], by rw [show i = 0 from hi]; rfl, by rw [show i = 0 from hi]; decide, gp_add hgp (by decide), ?_, .inr ⟨by simp, rfl, rfl⟩⟩, by omega⟩
        rw [hg, hd, genL, if_pos (by simp)]
        rfl
      · have h' : ¬ i + 1 < xs.length := by
          intro h'
          simp at h
          have := h (by omega)
          omega
        have hgn : genL xs [] = [] := by
          rw [hg]
          have : i = 0 := hi
          subst this
          rcases xs with _ | ⟨a, _ | ⟨b, r⟩⟩
          · rfl
          · rfl
          · simp at h'
        rcases hres with ⟨_, rfl, rfl⟩ | ⟨hn, _, _⟩
        · simp only [Pt.rv, push_cast, ↓reduceIte, reduceCtorEq, Nat.reduceBEq, reduceEqDiff, reduceAdd, reduceSub, reduceLT, reduceLeDiff, reduceMul]
        · exact absurd hgn hn
    · obtain ⟨q, hq⟩ : ∃ q, acc.getLast? = some q := ⟨acc.getLast h0, List.getLast?_eq_some_getLast h0⟩
      have hp0 : 0 < acc.length := List.length_pos_iff.2 h0
      have hi0 : decide ((i : Int) > 0) = true := by simp; omega
      have hqa : acc[acc.length - 1]? = some q := by rw [← List.getLast?_eq_getElem?]; exact hq
      have lw : IntKind.i64.wrap ((acc.length : Int) - 1) = ((acc.length - 1 : Nat) : Int) := by rw [wrap_id (by omega)]; omega
      have gq : ∀ z, (acc.map Pt.rv).getD (((acc.length - 1 : Nat) : Int)).toNat z = .agg [.v (.int .i64 q.k), .v (.int .i64 q.x), .v (.int .i64 q.y), .v (.int .i64 q.v)] := pts_get hqa
      have gq' : ∀ z, (acc.map Pt.rv).getD (0 + (((acc.length - 1 : Nat) : Int)).toNat) z = .agg [.v (.int .i64 q.k), .v (.int .i64 q.x), .v (.int .i64 q.y), .v (.int .i64 q.v)] := fun z => by rw [Nat.zero_add]; exact gq z
      simp only [i64s, Pt.rv, List.length_map, w1, w2, hi0, lw, gq, gq', push_cast, ↓reduceIte, reduceCtorEq, Nat.reduceBEq, reduceEqDiff, reduceAdd, reduceSub, reduceLT, reduceLeDiff, reduceMul]
      refine cnd_mk (fun h => ?_) (fun h => ?_)
      · have h8 : i < 80 := by
          simp at h
          omega
        have h' : i + 1 < xs.length := by
          simp at h
          omega
        obtain ⟨a, ha⟩ : ∃ a, xs[i]? = some a := ⟨xs[i], by simp⟩
        obtain ⟨b, hb⟩ : ∃ b, xs[i + 1]? = some b := ⟨xs[i + 1], by simp [h']⟩
        have ga : ∀ z, (xs.map fun x => RV.v (.int .i64 x)).getD ((i : Int)).toNat z = .v (.int .i64 a) := i64s_get ha
        have gb : ∀ z, (xs.map fun x => RV.v (.int .i64 x)).getD ((i : Int) + 1).toNat z = .v (.int .i64 b) := fun z => by simpa using i64s_get hb z
        have d1 : IntKind.i64.wrap (IntKind.i64.wrap ((i : Int).tdiv 2) + 1) = acc.length + 1 := by
          rw [show (i : Int).tdiv 2 = acc.length by rw [hi]; simp, show IntKind.i64.wrap (acc.length : Int) = acc.length from wrap_id (by omega)]
          exact wrap_id (by omega)
        have hd : xs.drop i = a :: b :: xs.drop (i + 2) := by
          rw [List.drop_eq_getElem_cons (by omega), (List.getElem?_eq_some_iff.1 ha).2, List.drop_eq_getElem_cons h', (List.getElem?_eq_some_iff.1 hb).2]
        simp only [w1, w2, hi0, ga, gb, d1, m30, m8, m2, sh30, sh40, w99, List.length_map, push_cast, ↓reduceIte, reduceCtorEq, Nat.reduceBEq, reduceEqDiff, reduceAdd, reduceSub, reduceLT, reduceLeDiff, reduceMul]
        repeat refine And.intro (by first | decide | omega | (simp +contextual; done) | kernel_rfl) ?_
        have hq1 := (hgp _ q hqa).2.2.1
        unfold inW at hq1
        have wx : IntKind.i64.wrap (q.x + a % 1024) = q.x + a % 1024 := wrap_id (by omega)
        have wy : IntKind.i64.wrap (q.y + b % 1024) = q.y + b % 1024 := wrap_id (by omega)
        refine cnd_mk (fun hc => ?_) (fun hc => ?_)
        · simp only [wx, wy, w1, w2, hi0, lw, gq, gq', ga, gb, d1, m30, m8, m2, m10, sh30, sh40, w99, List.length_map, push_cast, ↓reduceIte, reduceCtorEq, Nat.reduceBEq, reduceEqDiff, reduceAdd, reduceSub, reduceLT, reduceLeDiff, reduceMul]
          repeat refine And.intro (by first | decide | omega | (simp +contextual; done) | kernel_rfl) ?_
          refine ⟨⟨i + 2, acc ++ [gPt a b acc], by simp; omega, by omega, gp_add hgp (by omega), ?_, .inr ⟨by simp, ?_⟩⟩, by omega⟩
          · rw [hg, hd, genL, if_pos (by omega)]
          · have hcc : a / 1099511627776 % 4 ≠ 0 := by simpa using hc
            simp [gPt, hq, hcc, Pt.rv]
        · simp only [w1, w2, hi0, lw, gq, gq', ga, gb, d1, m30, m8, m2, sh30, sh40, w99, List.length_map, push_cast, ↓reduceIte, reduceCtorEq, Nat.reduceBEq, reduceEqDiff, reduceAdd, reduceSub, reduceLT, reduceLeDiff, reduceMul]
          repeat refine And.intro (by first | decide | omega | (simp +contextual; done) | kernel_rfl) ?_
          refine ⟨⟨i + 2, acc ++ [gPt a b acc], by simp; omega, by omega, gp_add hgp (by omega), ?_, .inr ⟨by simp, ?_⟩⟩, by omega⟩
          · rw [hg, hd, genL, if_pos (by omega)]
          · have hcc : ¬ a / 1099511627776 % 4 ≠ 0 := by simpa using hc
            simp [gPt, hq, hcc, Pt.rv]
      · have h' : ¬ (i + 1 < xs.length ∧ i < 80) := by
          rintro ⟨h1, h2⟩
          simp at h
          have := h (by omega)
          omega
        have hgn : genL xs [] = acc := by
          rw [hg]
          rcases hx' : xs.drop i with _ | ⟨a, _ | ⟨b, r⟩⟩
          · rfl
          · rfl
          · have := congrArg List.length hx'
            simp at this
            rw [genL, if_neg (by omega)]
        rcases hres with ⟨hn, _, _⟩ | ⟨_, rfl, rfl⟩
        · exact absurd (hgn.symm.trans hn) h0
        · rw [hgn]
          simp only [Pt.rv, push_cast, ↓reduceIte, reduceCtorEq, Nat.reduceBEq, reduceEqDiff, reduceAdd, reduceSub, reduceLT, reduceLeDiff, reduceMul]
theorem genL_gp : ∀ (xs : List Int) (l : List Pt), GP l → GP (genL xs l)
 | [], l, h => h
 | [_], l, h => h
 | a :: b :: r, l, h => by
  rw [genL]
  split
  ·exact genL_gp r _ (gp_add h (by assumption))
  ·exact h
theorem genL_le : ∀ (xs : List Int) (l : List Pt), l.length ≤ 40 → (genL xs l).length ≤ 40
 | [], l, h => h
 | [_], l, h => h
 | a :: b :: r, l, h => by
  rw [genL]
  split
  ·exact genL_le r _ (by simp; omega)
  ·exact h
theorem points_t (xs : List Int) (hx : ∀ x ∈ xs, -9223372036854775808 ≤ x ∧ x ≤ 9223372036854775807) :
  Triple Go.Proofs.Tryz.prog 8 [.r (i64s xs)] [] (.own 1000000 0 0 (genL xs []).length) [.row 4 (Pt.rv ⟨0, 0, 0, 0⟩) true true ((genL xs []).map Pt.rv)] := by
 by_cases h : genL xs [] = []
 ·rw [h]
  exact nil_own (gen_t xs hx (.inl ⟨h, rfl, rfl⟩))
 ·exact gen_t xs hx (.inr ⟨h, rfl, rfl⟩)

noncomputable def apiarylaw18_awake_pc : PC :=
  (.seq (.reg [p_s 0 (.mov (.c (.r (.v (.bool false)))))])
 (.seq (.reg [p_c 6 1 10 [], p_m 1 6])
 (.seq (.seq (.reg [p_m 7 1, p_s 8 (.eqn false (.t 7))])
 (.cond (.t 8)
 (.seq (.reg [p_s 0 (.mov (.c (.r (.v (.bool false)))))])
 .ret)
 .skip))
 (.seq (.reg [p_m 9 1, p_s 10 (.build [(.r (.v (.int .i64 0))), (.r (.v (.int .i64 0))), (.r (.v (.int .i64 0))), (.r (.v (.int .i64 0)))] [(0, 1, (o_i 1)), (1, 1, (o_i 5)), (2, 1, (o_i 5)), (3, 1, (o_i 3))]),
 p_c 11 2 11 [.t 9, .t 10], p_m 2 11])
 (.seq (.reg [p_m 12 1, p_s 13 (.build [(.r (.v (.int .i64 0))), (.r (.v (.int .i64 0))), (.r (.v (.int .i64 0))), (.r (.v (.int .i64 0)))] [(0, 1, (o_i 2)), (1, 1, (o_i 5)), (2, 1, (o_i 5)), (3, 1, (o_i (-1)))]),
 p_c 14 3 11 [.t 12, .t 13], p_m 3 14])
 (.seq (.reg [p_m 16 1, p_c 17 4 23 [(o_i 5), (o_i 5), (o_i 7)], p_c 18 5 15 [.t 16, .t 17], p_m 15 18, p_s 19 (.ext (.t 15) 0), p_s 20 (.ext (.t 15) 1), p_a 4 (.new [(.r (.v (.int .u64 0))), (.r (.v (.int .i64 0))), (.r (.v (.int .i64 0))), (.r (.v (.int .i64 0))), (.r (.v (.int .i64 0)))]),
 ⟨none, none, 0, .act (.st 5 (.t 4) (.t 19))⟩, p_m 5 20])
 (.seq (.reg [p_m 21 2, p_m 22 21, p_g 23 22 true (.mov (.t 3)), p_s 24 (.pick (.t 22) (.t 23) (.c (.r (.v (.bool false))))), p_m 25 24, p_g 26 25 true (.mov (.t 5)), p_s 27 (.pick (.t 25) (.t 26) (.c (.r (.v (.bool false))))),
 p_m 28 27, p_g 29 28 true (.fa 1 (.t 4)), p_g 30 28 true (.ld none (.t 29)), p_g 31 28 true (.bin .eql (.t 30) (o_i 2)), p_s 32 (.pick (.t 28) (.t 31) (.c (.r (.v (.bool false))))),
 p_m 33 32, p_g 34 33 true (.fa 2 (.t 4)), p_g 35 33 true (.ld none (.t 34)), p_g 36 33 true (.bin .eql (.t 35) (o_i 2)), p_s 37 (.pick (.t 33) (.t 36) (.c (.r (.v (.bool false))))),
 p_m 38 37, p_g 39 38 true (.fa 3 (.t 4)), p_g 40 38 true (.ld none (.t 39)), p_g 41 38 true (.bin .eql (.t 40) (o_i (-1))), p_s 42 (.pick (.t 38) (.t 41) (.c (.r (.v (.bool false))))),
 p_m 43 42, p_g 44 43 true (.fa 4 (.t 4)), p_g 45 43 true (.ld none (.t 44)), p_g 46 43 true (.bin .eql (.t 45) (o_i 3)), p_s 47 (.pick (.t 43) (.t 46) (.c (.r (.v (.bool false))))),
 p_m 48 47, p_g 49 48 true (.mov (.t 1)), ⟨(some 50), (some (48, true)), 6, .call 18 [(.t 49)]⟩, p_g 51 48 true (.bin .eql (.t 50) (o_i 2)), p_s 52 (.pick (.t 48) (.t 51) (.c (.r (.v (.bool false))))),
 p_m 0 52])
 .ret)))))))
theorem apiarylaw18_awake_triple : Fun Go.Proofs.Tryz.prog 7 0 [(0, false, none)] apiarylaw18_awake_pc := fun_mk Go.Proofs.Tryz.func7 rfl (by decide) (by kernel_rfl) (by decide) rfl (by kernel_rfl) (by kernel_rfl) (by decide)
theorem put_yes (L : List Pt) (p : Pt) (h : canPut L p = true) : Triple Go.Proofs.Tryz.prog 11 [.ptr 1000000 0 0, p.av] [.abs (sT L)] (bl true) [.abs (sT (plusP L p))] := by
 have := put_a L p
 rw [h, if_pos rfl] at this
 exact this
theorem cell_yes (L : List Pt) (w : Nat) (h : mem L w ≠ []) : Triple Go.Proofs.Tryz.prog 15 [.ptr 1000000 0 0, int .u64 w] [.abs (sT L)] (.tup [.r (.agg [.v (.int .u64 w), .v (.int .i64 (mem L w).length), .v (.int .i64 (sumV (mem L w))), .v (.int .i64 (loV (mem L w))), .v (.int .i64 (hiV (mem L w)))]), bl true]) [.abs (sT L)] := by
 have := cell_a L w
 unfold cellR cellS at this
 rw [if_neg h, if_neg h] at this
 exact this
theorem awake_t : Triple Go.Proofs.Tryz.prog 7 [] [] (bl true) [] := by
 refine apiarylaw18_awake_triple rfl (by decide) ?_
 simp only [apiarylaw18_awake_pc, List.length_nil, push_cast, ↓reduceIte, reduceCtorEq, Nat.reduceBEq, reduceEqDiff, reduceAdd, reduceSub, reduceLT, reduceLeDiff, reduceMul]
 refine call_mk new_a rfl trivial ?_
 simp only [push_cast, ↓reduceIte, reduceCtorEq, Nat.reduceBEq, reduceEqDiff, reduceAdd, reduceSub, reduceLT, reduceLeDiff, reduceMul]
 refine call_as (as' := [.ptr 1000000 0 0, Pt.av ⟨1, 5, 5, 3⟩]) rfl ?_
 refine call_mk (put_yes [] ⟨1, 5, 5, 3⟩ (by decide)) rfl ⟨rfl, trivial⟩ ?_
 simp only [push_cast, ↓reduceIte, reduceCtorEq, Nat.reduceBEq, reduceEqDiff, reduceAdd, reduceSub, reduceLT, reduceLeDiff, reduceMul]
 refine call_as (as' := [.ptr 1000000 0 0, Pt.av ⟨2, 5, 5, -1⟩]) rfl ?_
 refine call_mk (put_yes _ ⟨2, 5, 5, -1⟩ (by decide)) rfl ⟨rfl, trivial⟩ ?_
 simp only [push_cast, ↓reduceIte, reduceCtorEq, Nat.reduceBEq, reduceEqDiff, reduceAdd, reduceSub, reduceLT, reduceLeDiff, reduceMul]
 refine call_mk (rwordOf_t 5 5 7 (by decide) (by decide)) rfl trivial ?_
 simp only [uw, Int.reduceToNat, push_cast, ↓reduceIte, reduceCtorEq, Nat.reduceBEq, reduceEqDiff, reduceAdd, reduceSub, reduceLT, reduceLeDiff, reduceMul]
 have hL : plusP (plusP [] ⟨1, 5, 5, 3⟩) ⟨2, 5, 5, -1⟩ = [⟨1, 5, 5, 3⟩, ⟨2, 5, 5, -1⟩] := by decide
 rw [hL]
 have hm : mem [⟨1, 5, 5, 3⟩, ⟨2, 5, 5, -1⟩] (wordOf 5 5 7) = [⟨1, 5, 5, 3⟩, ⟨2, 5, 5, -1⟩] := by
  unfold mem
  rw [List.filter_eq_self]
  intro q hq
  rw [inC_iff]
  refine ⟨7, by decide, ?_⟩
  simp at hq
  rcases hq with rfl | rfl <;> rfl
 have hC := cell_yes [⟨1, 5, 5, 3⟩, ⟨2, 5, 5, -1⟩] (wordOf 5 5 7) (by rw [hm]; simp)
 rw [hm] at hC
 simp only [show ((List.length [(⟨1, 5, 5, 3⟩ : Pt), ⟨2, 5, 5, -1⟩] : Nat) : Int) = 2 from rfl, show sumV [⟨1, 5, 5, 3⟩, ⟨2, 5, 5, -1⟩] = 2 from rfl, show loV [⟨1, 5, 5, 3⟩, ⟨2, 5, 5, -1⟩] = -1 from rfl, show hiV [⟨1, 5, 5, 3⟩, ⟨2, 5, 5, -1⟩] = 3 from rfl] at hC
 refine call_mk hC rfl ⟨rfl, trivial⟩ ?_
 simp only [push_cast, ↓reduceIte, reduceCtorEq, Nat.reduceBEq, reduceEqDiff, reduceAdd, reduceSub, reduceLT, reduceLeDiff, reduceMul]
 refine call_mk (len_a _) rfl ⟨rfl, trivial⟩ ?_
 simp only [push_cast, ↓reduceIte, reduceCtorEq, Nat.reduceBEq, reduceEqDiff, reduceAdd, reduceSub, reduceLT, reduceLeDiff, reduceMul]
 rfl

theorem gp_of {l : List Pt} (h : GP l) (hl : l.length ≤ 1000) : ofL l = l := by
 have key : ∀ (r acc : List Pt), l = acc ++ r → r.foldl stepL acc = l := by
  intro r
  induction r with
  | nil => intro acc e; simpa using e.symm
  | cons p r ih =>
   intro acc e
   have hp := h acc.length p (by rw [e]; simp)
   have hno : has acc p.k = false := by
    rw [has_not]
    intro q hq e2
    obtain ⟨j, hj⟩ := List.getElem?_of_mem hq
    have hjl := (List.getElem?_eq_some_iff.1 hj).1
    have := (h j q (by rw [e, List.getElem?_append_left hjl]; exact hj)).1
    omega
   have hlen : acc.length < 2000 := by rw [e] at hl; simp at hl; omega
   have hs : stepL acc p = acc ++ [p] := by
    unfold stepL
    rw [show canPut acc p = true by simp [canPut, hp.2, hlen], if_pos rfl]
    unfold plusP
    rw [without_no hno]
   rw [List.foldl_cons, hs]
   exact ih (acc ++ [p]) (by rw [e]; simp)
 exact key l [] rfl
theorem inC_word {p : Pt} (h : p.ok) {r : Nat} (hr : r < 13) {w : Nat} (hw : resW w = r) : inC w p = decide (p.w r = w) := by
 cases e : inC w p with
 | true =>
  obtain ⟨s, hs, e2⟩ := inC_iff.1 e
  have := (Pt.w_res h hs).2.1
  rw [e2, hw] at this
  subst this
  simp [e2]
 | false =>
  rw [eq_comm, decide_eq_false_iff_not]
  intro e2
  rw [inC_iff.2 ⟨r, hr, e2⟩] at e
  cases e

theorem r13 (r : Int) : ∃ R : Nat, R < 13 ∧ (IntKind.i64.wrap (r.tmod 13 + 13)).tmod 13 = R := by
 have h0 := Int.tmod_lt_of_pos r (show (0 : Int) < 13 by decide)
 have h1 : -13 < r.tmod 13 := by
  have := Int.tmod_lt_of_pos (-r) (show (0 : Int) < 13 by decide)
  rw [Int.neg_tmod] at this
  omega
 rw [show IntKind.i64.wrap (r.tmod 13 + 13) = r.tmod 13 + 13 from wrap_id (by omega), Int.tmod_eq_emod_of_nonneg (by omega)]
 exact ⟨((r.tmod 13 + 13) % 13).toNat, by omega, by omega⟩
theorem sum_bound : ∀ (M : List Pt), (∀ p ∈ M, p.ok) → -2147483648 * (M.length : Int) ≤ sumV M ∧ sumV M ≤ 2147483648 * (M.length : Int)
 | [], _ => by simp [sumV]
 | p :: M, h => by
  have hp := (h p (by simp)).2.2
  have ih := sum_bound M fun q hq => h q (by simp [hq])
  simp only [sumV, List.map_cons, List.sum_cons, List.length_cons] at ih ⊢
  omega

end Go.Ev
