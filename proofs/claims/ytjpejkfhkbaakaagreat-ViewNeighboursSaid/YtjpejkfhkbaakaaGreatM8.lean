import Derived.Test.YtjpejkfhkbaakaaGreatM7
open Nat renaming reduceBEq → zB, reduceEqDiff → zE, reduceAdd → zA, reduceSub → zS, reduceLT → zL, reduceLeDiff → zD, reduceMul → zM
open Go.Proofs.Tryz renaming prog → P0
open Nat renaming zero_add → zaa, le_refl → zaq
open Int renaming toNat_zero → zab, reduceToNat → zac, toNat_natCast → zae, toNat_natCast_add_one → zaf, mul_nonneg → zba, le_of_lt → zbb, mul_eq_zero → zbk
open List renaming mem_cons → zad, mem_singleton → zag, mem_append → zah, mem_cons_of_mem → zai, length_append → zaj, getD_eq_getElem?_getD → zak, length_cons → zal, mem_of_getElem? → zam, length_map → zan, take_add_one → zao, map_append → zap, append_nil → zar, pairwise_cons → zas, map_cons → zat, take_of_length_le → zau, nil_append → zav, mem_map → zaw, filter_append → zax, append_assoc → zay, map_set → zaz, getElem?_eq_getElem → zbc, flatMap_cons → zbd, mem_filter → zbe, take_length → zbg, cons_append → zbh, length_nil → zbi, replicate → zbj, take_succ_eq_append_getElem → zbl, reverse_append → zbm, pairwise_reverse → zbn
open Bool renaming false_eq_true → zbf
namespace Go.Ev
set_option maxRecDepth 100000
open Go
set_option linter.unusedSectionVars false
set_option linter.unnecessarySimpa false
set_option linter.unusedSimpArgs false
set_option linter.unusedVariables false
def cutAt (l : Lin) (p q : P2) : List P2 := (if keepsP l p then [p] else []) ++ (if betwP l p q then [crossP l p q] else [])
def ngh (rg : List P2) (i : Nat) : P2 := rg.getD ((i + 1) % rg.length) (0, 0)
def cutN (l : Lin) (rg : List P2) : Nat → List P2
 | 0 => []
 | i + 1 => cutN l rg i ++ cutAt l (rg.getD i (0, 0)) (ngh rg i)
def cutP (l : Lin) (rg : List P2) : List P2 := cutN l rg rg.length
theorem cutN_len (l : Lin) (rg : List P2) : ∀ i, (cutN l rg i).length ≤ 2 * i
 | 0 => by simp [cutN]
 | i + 1 => by
  have := cutN_len l rg i
  rw [cutN, zaj]
  unfold cutAt
  rw [zaj]
  split <;> split <;> simp <;> omega
abbrev rowP (o : List P2) : Ob := .row 2 (pnt 0 0) true true (o.map ptR)
theorem take_ptR (o : List P2) : List.take o.length (o.map ptR) = o.map ptR := zau (by simp)
set_option maxHeartbeats 4000000 in
theorem cut_t (l : Lin) (hl : l.ok) (hc : -9007199254740992 ≤ l.at' ∧ l.at' ≤ 9007199254740992) (rg : List P2) (h : RgOk rg) {res : AV} {ro : List Ob}
    (hres : (cutP l rg = [] ∧ res = .nils 2 (pnt 0 0) ∧ ro = []) ∨ (cutP l rg ≠ [] ∧ res = .own 1000000 0 0 (cutP l rg).length ∧ ro = [rowP (cutP l rg)])) :
    Triple P0 96 [l.v, ring2 rg] [] res ro := by
  obtain ⟨h1, h2, h3⟩ := h
  refine clip_line_cut_triple rfl (by decide) ?_
  have hmx := maxLen_big
  simp only [clip_line_cut_pc, ring2, Lin.v, push_cast, ↓reduceIte, reduceCtorEq, zB, zE, zA, zS, zL, zD, zM]
  refine run_loop [(11, false), (9, false), (10, false), (2, false), (1, false), (5, false)] (fun vs pos los => ∃ i : Nat, i ≤ rg.length ∧ pos = [] ∧
      (cutN l rg i = [] ∧ vs = [int .i64 i, ring2 rg, int .i64 rg.length, .ptr 2000000 0 0, ring2 rg, .nils 2 (pnt 0 0)] ∧ los = [.box [int .i64 l.axis, int .i64 l.at', bl l.above]] ∨
       cutN l rg i ≠ [] ∧ vs = [int .i64 i, ring2 rg, int .i64 rg.length, .ptr 2000000 0 0, ring2 rg, .own 2000001 0 0 (cutN l rg i).length] ∧ los = [.box [int .i64 l.axis, int .i64 l.at', bl l.above], rowP (cutN l rg i)]))
    (fun vs _ _ => match vs with | .r (.v (.int _ a)) :: _ => (rg.length - a).toNat | _ => 0) rfl ?_ ?_
  · simp only [ring2, pnt, push_cast, ↓reduceIte, reduceCtorEq, zB, zE, zA, zS, zL, zD, zM]
    exact ⟨0, by omega, .inl ⟨rfl, by simp⟩⟩
  · rintro vs pos los ⟨i, hi, rfl, ⟨h0, rfl, rfl⟩ | ⟨h0, rfl, rfl⟩⟩
    · have hlen := cutN_len l rg i
      simp only [ring2, pnt, push_cast, ↓reduceIte, reduceCtorEq, zB, zE, zA, zS, zL, zD, zM]
      refine cnd_mk (fun hd => ?_) (fun hd => ?_)
      · have hi2 : i < rg.length := by simpa using hd
        obtain ⟨p, hp⟩ : ∃ p, rg[i]? = some p := ⟨rg[i], by simp [hi2]⟩
        obtain ⟨J, hJ⟩ : ∃ J, (i + 1) % rg.length = J := ⟨_, rfl⟩
        have hJl : J < rg.length := by rw [← hJ]; exact Nat.mod_lt _ (by omega)
        obtain ⟨q, hq⟩ : ∃ q, rg[J]? = some q := ⟨rg[J], by simp [hJl]⟩
        have hgi : rg.getD i (0, 0) = p := by rw [zak, hp]; rfl
        have hgn : ngh rg i = q := by unfold ngh; rw [hJ, zak, hq]; rfl
        have hpm := zam hp
        have hqm := zam hq
        have wi : IntKind.i64.wrap ((i : Int) + 1) = (i : Int) + 1 := wrap_id (by omega)
        have wJ : ((i : Int) + 1).tmod (rg.length : Int) = (J : Int) := by rw [Int.tmod_eq_emod_of_nonneg (by omega), ← hJ, Int.natCast_emod, Int.natCast_add]; rfl
        have hn0 : ¬ ((rg.length : Int) = 0) := by omega
        simp only [ring2, zan, ring_get hp, ring_get0 hp, ring_get hq, ring_get0 hq, wi, wJ, hn0, push_cast, ↓reduceIte, reduceCtorEq, zB, zE, zA, zS, zL, zD, zM]
        repeat refine And.intro (by first | decide | omega | exact fun _ => by decide | (simp +contextual; done) | kernel_rfl) ?_
        refine call_as (as' := [l.v, pv2 p]) rfl ?_
        refine call_mk (keeps_t l hl p) rfl trivial ?_
        have hbt := between_t l hl p q
        have hcr := fun hb => cross_t l hl p q hc (h2 p hpm) (h3 p hpm q hqm) hb
        generalize hcx : crossP l p q = cx at *
        simp only [push_cast, ↓reduceIte, reduceCtorEq, zB, zE, zA, zS, zL, zD, zM]
        refine cnd_mk (fun hk => ?_) (fun hk => ?_)
        · simp only [ring2, take_ptR, push_cast, ↓reduceIte, reduceCtorEq, zB, zE, zA, zS, zL, zD, zM]
          repeat refine And.intro (by first | decide | omega | exact fun _ => by decide | (simp +contextual; done) | kernel_rfl) ?_
          refine call_as (as' := [l.v, pv2 p, pv2 q]) rfl ?_
          refine call_mk hbt rfl trivial ?_
          simp only [push_cast, ↓reduceIte, reduceCtorEq, zB, zE, zA, zS, zL, zD, zM]
          refine cnd_mk (fun hb => ?_) (fun hb => ?_)
          · simp only [ring2, take_ptR, push_cast, ↓reduceIte, reduceCtorEq, zB, zE, zA, zS, zL, zD, zM]
            refine call_as (as' := [l.v, pv2 p, pv2 q]) rfl ?_
            refine call_mk (hcr hb) rfl trivial ?_
            simp only [pv2, pnt, wi, ring2, take_ptR, push_cast, ↓reduceIte, reduceCtorEq, zB, zE, zA, zS, zL, zD, zM]
            repeat refine And.intro (by first | decide | omega | exact fun _ => by decide | (simp +contextual; done) | kernel_rfl) ?_
            have hN : cutN l rg (i + 1) = [p, cx] := by
              rw [cutN, hgi, hgn, h0, zav]
              unfold cutAt
              rw [if_pos hk, if_pos hb, hcx]
              rfl
            exact ⟨⟨i + 1, by omega, .inr ⟨by rw [hN]; simp, by rw [hN]; simp, by rw [hN]; rfl⟩⟩, by omega⟩
          · simp only [ring2, take_ptR, wi, push_cast, ↓reduceIte, reduceCtorEq, zB, zE, zA, zS, zL, zD, zM]
            have hN : cutN l rg (i + 1) = [p] := by
              rw [cutN, hgi, hgn, h0, zav]
              unfold cutAt
              rw [if_pos hk, if_neg (by rw [hb]; simp)]
              rfl
            exact ⟨⟨i + 1, by omega, .inr ⟨by rw [hN]; simp, by rw [hN]; simp, by rw [hN]; rfl⟩⟩, by omega⟩
        · simp only [ring2, take_ptR, push_cast, ↓reduceIte, reduceCtorEq, zB, zE, zA, zS, zL, zD, zM]
          repeat refine And.intro (by first | decide | omega | exact fun _ => by decide | (simp +contextual; done) | kernel_rfl) ?_
          refine call_as (as' := [l.v, pv2 p, pv2 q]) rfl ?_
          refine call_mk hbt rfl trivial ?_
          simp only [push_cast, ↓reduceIte, reduceCtorEq, zB, zE, zA, zS, zL, zD, zM]
          refine cnd_mk (fun hb => ?_) (fun hb => ?_)
          · simp only [ring2, take_ptR, push_cast, ↓reduceIte, reduceCtorEq, zB, zE, zA, zS, zL, zD, zM]
            refine call_as (as' := [l.v, pv2 p, pv2 q]) rfl ?_
            refine call_mk (hcr hb) rfl trivial ?_
            simp only [pv2, pnt, wi, ring2, take_ptR, push_cast, ↓reduceIte, reduceCtorEq, zB, zE, zA, zS, zL, zD, zM]
            repeat refine And.intro (by first | decide | omega | exact fun _ => by decide | (simp +contextual; done) | kernel_rfl) ?_
            have hN : cutN l rg (i + 1) = [cx] := by
              rw [cutN, hgi, hgn, h0, zav]
              unfold cutAt
              rw [if_neg (by rw [hk]; simp), if_pos hb, hcx]
              rfl
            exact ⟨⟨i + 1, by omega, .inr ⟨by rw [hN]; simp, by rw [hN]; simp, by rw [hN]; rfl⟩⟩, by omega⟩
          · simp only [ring2, take_ptR, wi, push_cast, ↓reduceIte, reduceCtorEq, zB, zE, zA, zS, zL, zD, zM]
            have hN : cutN l rg (i + 1) = [] := by
              rw [cutN, hgi, hgn, h0, zav]
              unfold cutAt
              rw [if_neg (by rw [hk]; simp), if_neg (by rw [hb]; simp)]
              rfl
            exact ⟨⟨i + 1, by omega, .inl ⟨hN, by simp⟩⟩, by omega⟩
      · have hi2 : i = rg.length := by
          have : ¬ i < rg.length := by simpa using hd
          omega
        rw [hi2] at h0
        rcases hres with ⟨g0, rfl, rfl⟩ | ⟨g0, rfl, rfl⟩
        · simp only [pnt, push_cast, ↓reduceIte, reduceCtorEq, zB, zE, zA, zS, zL, zD, zM]
        · exact absurd h0 g0
    · have hlen := cutN_len l rg i
      simp only [ring2, pnt, push_cast, ↓reduceIte, reduceCtorEq, zB, zE, zA, zS, zL, zD, zM]
      refine cnd_mk (fun hd => ?_) (fun hd => ?_)
      · have hi2 : i < rg.length := by simpa using hd
        obtain ⟨p, hp⟩ : ∃ p, rg[i]? = some p := ⟨rg[i], by simp [hi2]⟩
        obtain ⟨J, hJ⟩ : ∃ J, (i + 1) % rg.length = J := ⟨_, rfl⟩
        have hJl : J < rg.length := by rw [← hJ]; exact Nat.mod_lt _ (by omega)
        obtain ⟨q, hq⟩ : ∃ q, rg[J]? = some q := ⟨rg[J], by simp [hJl]⟩
        have hgi : rg.getD i (0, 0) = p := by rw [zak, hp]; rfl
        have hgn : ngh rg i = q := by unfold ngh; rw [hJ, zak, hq]; rfl
        have hpm := zam hp
        have hqm := zam hq
        have wi : IntKind.i64.wrap ((i : Int) + 1) = (i : Int) + 1 := wrap_id (by omega)
        have wJ : ((i : Int) + 1).tmod (rg.length : Int) = (J : Int) := by rw [Int.tmod_eq_emod_of_nonneg (by omega), ← hJ, Int.natCast_emod, Int.natCast_add]; rfl
        have hn0 : ¬ ((rg.length : Int) = 0) := by omega
        simp only [ring2, zan, ring_get hp, ring_get0 hp, ring_get hq, ring_get0 hq, wi, wJ, hn0, push_cast, ↓reduceIte, reduceCtorEq, zB, zE, zA, zS, zL, zD, zM]
        repeat refine And.intro (by first | decide | omega | exact fun _ => by decide | (simp +contextual; done) | kernel_rfl) ?_
        refine call_as (as' := [l.v, pv2 p]) rfl ?_
        refine call_mk (keeps_t l hl p) rfl trivial ?_
        have hbt := between_t l hl p q
        have hcr := fun hb => cross_t l hl p q hc (h2 p hpm) (h3 p hpm q hqm) hb
        generalize hcx : crossP l p q = cx at *
        simp only [push_cast, ↓reduceIte, reduceCtorEq, zB, zE, zA, zS, zL, zD, zM]
        refine cnd_mk (fun hk => ?_) (fun hk => ?_)
        · simp only [ring2, take_ptR, push_cast, ↓reduceIte, reduceCtorEq, zB, zE, zA, zS, zL, zD, zM]
          repeat refine And.intro (by first | decide | omega | exact fun _ => by decide | (simp +contextual; done) | kernel_rfl) ?_
          refine call_as (as' := [l.v, pv2 p, pv2 q]) rfl ?_
          refine call_mk hbt rfl trivial ?_
          simp only [push_cast, ↓reduceIte, reduceCtorEq, zB, zE, zA, zS, zL, zD, zM]
          refine cnd_mk (fun hb => ?_) (fun hb => ?_)
          · simp only [ring2, take_ptR, push_cast, ↓reduceIte, reduceCtorEq, zB, zE, zA, zS, zL, zD, zM]
            refine call_as (as' := [l.v, pv2 p, pv2 q]) rfl ?_
            refine call_mk (hcr hb) rfl trivial ?_
            simp only [pv2, pnt, wi, ring2, take_ptR, push_cast, ↓reduceIte, reduceCtorEq, zB, zE, zA, zS, zL, zD, zM]
            repeat refine And.intro (by first | decide | omega | exact fun _ => by decide | (simp +contextual; done) | kernel_rfl) ?_
            have hN : cutN l rg (i + 1) = cutN l rg i ++ [p, cx] := by
              rw [cutN, hgi, hgn]
              unfold cutAt
              rw [if_pos hk, if_pos hb, hcx]
              rfl
            exact ⟨⟨i + 1, by omega, .inr ⟨by rw [hN]; simp [h0], by rw [hN]; simp, by rw [hN]; simp [ptR, pnt]; rw [zau (by simp)]; simp⟩⟩, by omega⟩
          · simp only [ring2, take_ptR, wi, push_cast, ↓reduceIte, reduceCtorEq, zB, zE, zA, zS, zL, zD, zM]
            have hN : cutN l rg (i + 1) = cutN l rg i ++ [p] := by
              rw [cutN, hgi, hgn]
              unfold cutAt
              rw [if_pos hk, if_neg (by rw [hb]; simp)]
              rfl
            exact ⟨⟨i + 1, by omega, .inr ⟨by rw [hN]; simp [h0], by rw [hN]; simp, by rw [hN]; simp [ptR, pnt]⟩⟩, by omega⟩
        · simp only [ring2, take_ptR, push_cast, ↓reduceIte, reduceCtorEq, zB, zE, zA, zS, zL, zD, zM]
          repeat refine And.intro (by first | decide | omega | exact fun _ => by decide | (simp +contextual; done) | kernel_rfl) ?_
          refine call_as (as' := [l.v, pv2 p, pv2 q]) rfl ?_
          refine call_mk hbt rfl trivial ?_
          simp only [push_cast, ↓reduceIte, reduceCtorEq, zB, zE, zA, zS, zL, zD, zM]
          refine cnd_mk (fun hb => ?_) (fun hb => ?_)
          · simp only [ring2, take_ptR, push_cast, ↓reduceIte, reduceCtorEq, zB, zE, zA, zS, zL, zD, zM]
            refine call_as (as' := [l.v, pv2 p, pv2 q]) rfl ?_
            refine call_mk (hcr hb) rfl trivial ?_
            simp only [pv2, pnt, wi, ring2, take_ptR, push_cast, ↓reduceIte, reduceCtorEq, zB, zE, zA, zS, zL, zD, zM]
            repeat refine And.intro (by first | decide | omega | exact fun _ => by decide | (simp +contextual; done) | kernel_rfl) ?_
            have hN : cutN l rg (i + 1) = cutN l rg i ++ [cx] := by
              rw [cutN, hgi, hgn]
              unfold cutAt
              rw [if_neg (by rw [hk]; simp), if_pos hb, hcx]
              rfl
            exact ⟨⟨i + 1, by omega, .inr ⟨by rw [hN]; simp [h0], by rw [hN]; simp, by rw [hN]; simp [ptR, pnt]⟩⟩, by omega⟩
          · simp only [ring2, take_ptR, wi, push_cast, ↓reduceIte, reduceCtorEq, zB, zE, zA, zS, zL, zD, zM]
            have hN : cutN l rg (i + 1) = cutN l rg i ++ [] := by
              rw [cutN, hgi, hgn]
              unfold cutAt
              rw [if_neg (by rw [hk]; simp), if_neg (by rw [hb]; simp)]
              rfl
            exact ⟨⟨i + 1, by omega, .inr ⟨by rw [hN]; simp [h0], by rw [hN]; simp, by rw [hN]; simp [ptR, pnt]⟩⟩, by omega⟩
      · have hi2 : i = rg.length := by
          have : ¬ i < rg.length := by simpa using hd
          omega
        rw [hi2] at h0 ⊢
        rcases hres with ⟨g0, rfl, rfl⟩ | ⟨g0, rfl, rfl⟩
        · exact absurd g0 h0
        · simp only [pnt, cutP, push_cast, ↓reduceIte, reduceCtorEq, zB, zE, zA, zS, zL, zD, zM]; rfl

noncomputable def clip_Side_pc : PC :=
  (.seq (.reg [p_s 8 (.mov (.c (.nils 2 (.agg [(.v (.int .i64 0)), (.v (.int .i64 0))]))))])
 (.seq (.seq (.reg [p_m 9 1, p_s 10 (.bin .lss (.t 9) (o_i 0)), p_m 11 10, p_g 12 11 false (.mov (.t 1)), p_g 13 11 false (.bin .gtr (.t 12) (o_i 1)), p_s 14 (.pick (.t 11) (.c (.r (.v (.bool true)))) (.t 13)),
 p_m 15 14, p_g 16 15 false (.mov (.t 0)), ⟨(some 17), (some (15, false)), 1, .call 65 [(.t 16)]⟩, p_g 18 15 false (.un .not (.t 17)), p_s 19 (.pick (.t 15) (.c (.r (.v (.bool true)))) (.t 18))])
 (.cond (.t 19)
 (.seq (.reg [p_s 8 (.mov (.c (.nils 2 (.agg [(.v (.int .i64 0)), (.v (.int .i64 0))]))))])
 .ret)
 .skip))
 (.seq (.reg [p_m 20 1, p_m 21 2, p_m 22 3, p_s 23 (.build [(.r (.v (.int .i64 0))), (.r (.v (.int .i64 0))), (.r (.v (.bool false)))] [(0, 1, (.t 20)), (1, 1, (.t 21)), (2, 1, (.t 22))]),
 p_m 24 0, p_c 25 2 96 [.t 23, .t 24], p_m 8 25])
 .ret)))
theorem clip_Side_triple : Fun P0 58 4 [(8, false, none)] clip_Side_pc := fun_mk Go.Proofs.Tryz.func58 rfl (by decide) (by kernel_rfl) (by decide) rfl (by kernel_rfl) (by kernel_rfl) (by decide)
noncomputable def clip_Box_pc : PC :=
  (.seq (.reg [p_a 4 (.box (.t 1)), p_a 5 (.box (.t 2)), p_s 6 (.mov (.c (.nils 2 (.agg [(.v (.int .i64 0)), (.v (.int .i64 0))]))))])
 (.seq (.seq (.reg [p_s 9 (.iaa 2 1 (.t 4) (o_i 0)), p_s 10 (.ld none (.t 9)), p_s 11 (.build [(.r (.v (.int .i64 0))), (.r (.v (.int .i64 0))), (.r (.v (.bool false)))] [(0, 1, (o_i 0)), (1, 1, (.t 10)), (2, 1, (.c (.r (.v (.bool true)))))]),
 p_s 12 (.iaa 2 1 (.t 5) (o_i 0)), p_s 13 (.ld none (.t 12)), p_s 14 (.build [(.r (.v (.int .i64 0))), (.r (.v (.int .i64 0))), (.r (.v (.bool false)))] [(0, 1, (o_i 0)), (1, 1, (.t 13)), (2, 1, (.c (.r (.v (.bool false)))))]),
 p_s 15 (.iaa 2 1 (.t 4) (o_i 1)), p_s 16 (.ld none (.t 15)), p_s 17 (.build [(.r (.v (.int .i64 0))), (.r (.v (.int .i64 0))), (.r (.v (.bool false)))] [(0, 1, (o_i 1)), (1, 1, (.t 16)), (2, 1, (.c (.r (.v (.bool true)))))]),
 p_s 18 (.iaa 2 1 (.t 5) (o_i 1)), p_s 19 (.ld none (.t 18)), p_s 20 (.build [(.r (.v (.int .i64 0))), (.r (.v (.int .i64 0))), (.r (.v (.bool false)))] [(0, 1, (o_i 1)), (1, 1, (.t 19)), (2, 1, (.c (.r (.v (.bool false)))))]),
 p_a 21 (.bsl 3 (.agg [(.v (.int .i64 0)), (.v (.int .i64 0)), (.v (.bool false))]) [(.t 11), (.t 14), (.t 17), (.t 20)]), p_s 22 (.len false (.t 21)), p_s 23 (.mov (o_i 0))])
 (.block 0 (.loop (.seq (.reg [p_s 24 (.bin .lss (.t 23) (.t 22))])
 (.seq (.cond (.t 24)
 .skip
 (.exit 0))
 (.seq (.block 1 (.seq (.reg [p_s 25 (.ia 3 (.agg [(.v (.int .i64 0)), (.v (.int .i64 0)), (.v (.bool false))]) (.t 21) (.t 23)), p_s 26 (.ld (some 3) (.t 25)), p_a 8 (.new [(.r (.v (.int .i64 0))), (.r (.v (.int .i64 0))), (.r (.v (.bool false)))]),
 ⟨none, none, 0, .act (.st 3 (.t 8) (.t 26))⟩])
 (.reg [p_m 27 0, p_s 28 (.fa 0 (.t 8)), p_s 29 (.ld none (.t 28)), p_s 30 (.fa 1 (.t 8)), p_s 31 (.ld none (.t 30)), p_s 32 (.fa 2 (.t 8)), p_s 33 (.ld none (.t 32)), p_c 34 1 58 [.t 27, .t 29, .t 31, .t 33],
 p_m 0 34])))
 (.reg [p_s 35 (.bin .add (.t 23) (o_i 1)), p_m 23 35])))))))
 (.seq (.reg [p_m 36 0, p_m 6 36])
 .ret)))
theorem clip_Box_triple : Fun P0 29 3 [(6, false, none)] clip_Box_pc := fun_mk Go.Proofs.Tryz.func29 rfl (by decide) (by kernel_rfl) (by decide) rfl (by kernel_rfl) (by kernel_rfl) (by decide)
theorem cut_a (l : Lin) (hl : l.ok) (hc : -9007199254740992 ≤ l.at' ∧ l.at' ≤ 9007199254740992) (rg : List P2) (h : RgOk rg) :
  Triple P0 96 [l.v, ring2 rg] [] (.own 1000000 0 0 (cutP l rg).length) [rowP (cutP l rg)] := by
 by_cases h0 : cutP l rg = []
 ·have := nil_own (cut_t l hl hc rg h (.inl ⟨h0, rfl, rfl⟩))
  rw [h0]
  exact this
 ·exact cut_t l hl hc rg h (.inr ⟨h0, rfl, rfl⟩)
theorem flat_ptR (l : List P2) : ∀ x ∈ l.map ptR, FlatR x := fun x hx => by
 obtain ⟨p, _, rfl⟩ := zaw.1 hx
 simp [ptR, pnt, FlatR, FlatRs]
theorem side_t (l : Lin) (hl : l.ok) (hc : -9007199254740992 ≤ l.at' ∧ l.at' ≤ 9007199254740992) (rg : List P2) (h : RgOk rg) :
  Triple P0 58 [ring2 rg, int .i64 l.axis, int .i64 l.at', bl l.above] [] (.own 1000000 0 0 (cutP l rg).length) [rowP (cutP l rg)] := by
 refine clip_Side_triple rfl (by decide) ?_
 have d1 : decide (l.axis < 0) = false := by rcases hl with e | e <;> rw [e] <;> rfl
 have d2 : decide (l.axis > 1) = false := by rcases hl with e | e <;> rw [e] <;> rfl
 simp only [clip_Side_pc, ring2, d1, d2, push_cast, ↓reduceIte, reduceCtorEq, zB, zE, zA, zS, zL, zD, zM]
 refine call_as (as' := [ring2 rg]) rfl ?_
 refine call_mk (rok_t rg h) rfl trivial ?_
 simp only [push_cast, ↓reduceIte, reduceCtorEq, zB, zE, zA, zS, zL, zD, zM]
 refine call_as (as' := [l.v, ring2 rg]) rfl ?_
 refine call_mk (cut_a l hl hc rg h) rfl trivial ?_
 simp only [push_cast, ↓reduceIte, reduceCtorEq, zB, zE, zA, zS, zL, zD, zM]
def linesB (lo hi : P2) : List Lin := [⟨0, lo.1, true⟩, ⟨0, hi.1, false⟩, ⟨1, lo.2, true⟩, ⟨1, hi.2, false⟩]
def boxN (lo hi : P2) (rg : List P2) (i : Nat) : List P2 := ((linesB lo hi).take i).foldl (fun r l => cutP l r) rg
def boxP (lo hi : P2) (rg : List P2) : List P2 := boxN lo hi rg 4
def linesO (lo hi : P2) : Ob := .row 3 (.agg [.v (.int .i64 0), .v (.int .i64 0), .v (.bool false)]) true true [.agg [.v (.int .i64 0), .v (.int .i64 lo.1), .v (.bool true)], .agg [.v (.int .i64 0), .v (.int .i64 hi.1), .v (.bool false)], .agg [.v (.int .i64 1), .v (.int .i64 lo.2), .v (.bool true)], .agg [.v (.int .i64 1), .v (.int .i64 hi.2), .v (.bool false)]]
set_option maxHeartbeats 4000000 in
theorem cbox_t (lo hi : P2) (hlo : (-9007199254740992 ≤ lo.1 ∧ lo.1 ≤ 9007199254740992) ∧ (-9007199254740992 ≤ lo.2 ∧ lo.2 ≤ 9007199254740992)) (hhi : (-9007199254740992 ≤ hi.1 ∧ hi.1 ≤ 9007199254740992) ∧ (-9007199254740992 ≤ hi.2 ∧ hi.2 ≤ 9007199254740992))
    (rg : List P2) (h : ∀ i, i < 4 → RgOk (boxN lo hi rg i)) : Triple P0 29 [ring2 rg, pv2 lo, pv2 hi] [] (.own 1000000 0 0 (boxP lo hi rg).length) [rowP (boxP lo hi rg)] := by
  refine clip_Box_triple rfl (by decide) ?_
  simp only [clip_Box_pc, ring2, pv2, pnt, zab, zac, zaa, push_cast, ↓reduceIte, reduceCtorEq, zB, zE, zA, zS, zL, zD, zM]
  repeat refine And.intro (by first | decide | omega | exact fun _ => by decide | (simp +contextual; done) | kernel_rfl) ?_
  refine run_loop [(23, false), (21, false), (22, false), (0, false)] (fun vs pos los => ∃ i : Nat, i ≤ 4 ∧ pos = [] ∧
      (i = 0 ∧ vs = [int .i64 i, .own 2000000 0 0 4, int .i64 4, ring2 rg] ∧ los = [linesO lo hi] ∨
       i ≠ 0 ∧ vs = [int .i64 i, .own 2000000 0 0 4, int .i64 4, .own 2000001 0 0 (boxN lo hi rg i).length] ∧ los = [linesO lo hi, rowP (boxN lo hi rg i)]))
    (fun vs _ _ => match vs with | .r (.v (.int _ a)) :: _ => (4 - a).toNat | _ => 0) rfl ?_ ?_
  · simp only [ring2, linesO, push_cast, ↓reduceIte, reduceCtorEq, zB, zE, zA, zS, zL, zD, zM]
    exact ⟨0, by omega, .inl ⟨rfl, by simp⟩⟩
  · have hs : ∀ (k : Nat) (l : Lin), k < 4 → (linesB lo hi)[k]? = some l → boxN lo hi rg (k + 1) = cutP l (boxN lo hi rg k) := fun k l hk hl => by
      unfold boxN
      rw [zao, hl, List.foldl_append]
      rfl
    have hline : ∀ (k : Nat) (l : Lin), (linesB lo hi)[k]? = some l → l.ok ∧ (-9007199254740992 ≤ l.at' ∧ l.at' ≤ 9007199254740992) := fun k l hl => by
      have := zam hl
      simp only [linesB, zad, List.not_mem_nil, or_false] at this
      rcases this with rfl | rfl | rfl | rfl
      · exact ⟨.inl rfl, hlo.1⟩
      · exact ⟨.inl rfl, hhi.1⟩
      · exact ⟨.inr rfl, hlo.2⟩
      · exact ⟨.inr rfl, hhi.2⟩
    rintro vs pos los ⟨i, hile, rfl, ⟨h0, rfl, rfl⟩ | ⟨h0, rfl, rfl⟩⟩
    · subst h0
      have hN : boxN lo hi rg 0 = rg := rfl
      have d0 : decide ((0 : Int) < 4) = true := rfl
      have hl0 := hline 0 _ rfl
      have hS := side_t _ hl0.1 hl0.2 rg (by have := h 0 (by decide); rwa [hN] at this)
      have hs0 := hs 0 _ (by decide) rfl
      rw [hN] at hs0
      have wi : IntKind.i64.wrap ((0 : Int) + 1) = 1 := rfl
      simp only [ring2, linesO, d0, wi, zab, zac, zaa, push_cast, ↓reduceIte, reduceCtorEq, zB, zE, zA, zS, zL, zD, zM]
      repeat refine And.intro (by first | decide | omega | exact fun _ => by decide | (simp +contextual; done) | kernel_rfl) ?_
      rw [← hs0] at hS
      refine call_mk hS rfl trivial ?_
      simp only [ring2, linesO, d0, wi, zab, zac, zaa, push_cast, ↓reduceIte, reduceCtorEq, zB, zE, zA, zS, zL, zD, zM]
      exact ⟨⟨1, by omega, .inr ⟨by omega, by simp⟩⟩, by decide⟩
    · rcases (show i = 1 ∨ i = 2 ∨ i = 3 ∨ i = 4 by omega) with rfl | rfl | rfl | rfl
      · have d0 : decide ((1 : Int) < 4) = true := rfl
        have hl0 := hline 1 _ rfl
        have hS := side_t _ hl0.1 hl0.2 (boxN lo hi rg 1) (h 1 (by decide))
        have hs0 := hs 1 _ (by decide) rfl
        rw [← hs0] at hS
        have wi : IntKind.i64.wrap ((1 : Int) + 1) = 2 := rfl
        simp only [ring2, linesO, d0, wi, zab, zac, zaa, push_cast, ↓reduceIte, reduceCtorEq, zB, zE, zA, zS, zL, zD, zM]
        repeat refine And.intro (by first | decide | omega | exact fun _ => by decide | (simp +contextual; done) | kernel_rfl) ?_
        refine callA_lend ?_
        simp only [take_ptR, push_cast, ↓reduceIte, reduceCtorEq, zB, zE, zA, zS, zL, zD, zM]
        refine call_lend hS rfl trivial (by simp [Flat]) (by
          intro o ho
          simp only [zag] at ho
          subst ho
          exact flat_ptR _) ?_
        simp only [ring2, linesO, d0, wi, zab, zac, zaa, push_cast, ↓reduceIte, reduceCtorEq, zB, zE, zA, zS, zL, zD, zM]
        exact ⟨⟨2, by omega, .inr ⟨by omega, by simp⟩⟩, by decide⟩
      · have d0 : decide ((2 : Int) < 4) = true := rfl
        have hl0 := hline 2 _ rfl
        have hS := side_t _ hl0.1 hl0.2 (boxN lo hi rg 2) (h 2 (by decide))
        have hs0 := hs 2 _ (by decide) rfl
        rw [← hs0] at hS
        have wi : IntKind.i64.wrap ((2 : Int) + 1) = 3 := rfl
        simp only [ring2, linesO, d0, wi, zab, zac, zaa, push_cast, ↓reduceIte, reduceCtorEq, zB, zE, zA, zS, zL, zD, zM]
        repeat refine And.intro (by first | decide | omega | exact fun _ => by decide | (simp +contextual; done) | kernel_rfl) ?_
        refine callA_lend ?_
        simp only [take_ptR, push_cast, ↓reduceIte, reduceCtorEq, zB, zE, zA, zS, zL, zD, zM]
        refine call_lend hS rfl trivial (by simp [Flat]) (by
          intro o ho
          simp only [zag] at ho
          subst ho
          exact flat_ptR _) ?_
        simp only [ring2, linesO, d0, wi, zab, zac, zaa, push_cast, ↓reduceIte, reduceCtorEq, zB, zE, zA, zS, zL, zD, zM]
        exact ⟨⟨3, by omega, .inr ⟨by omega, by simp⟩⟩, by decide⟩
      · have d0 : decide ((3 : Int) < 4) = true := rfl
        have hl0 := hline 3 _ rfl
        have hS := side_t _ hl0.1 hl0.2 (boxN lo hi rg 3) (h 3 (by decide))
        have hs0 := hs 3 _ (by decide) rfl
        rw [← hs0] at hS
        have wi : IntKind.i64.wrap ((3 : Int) + 1) = 4 := rfl
        simp only [ring2, linesO, d0, wi, zab, zac, zaa, push_cast, ↓reduceIte, reduceCtorEq, zB, zE, zA, zS, zL, zD, zM]
        repeat refine And.intro (by first | decide | omega | exact fun _ => by decide | (simp +contextual; done) | kernel_rfl) ?_
        refine callA_lend ?_
        simp only [take_ptR, push_cast, ↓reduceIte, reduceCtorEq, zB, zE, zA, zS, zL, zD, zM]
        refine call_lend hS rfl trivial (by simp [Flat]) (by
          intro o ho
          simp only [zag] at ho
          subst ho
          exact flat_ptR _) ?_
        simp only [ring2, linesO, d0, wi, zab, zac, zaa, push_cast, ↓reduceIte, reduceCtorEq, zB, zE, zA, zS, zL, zD, zM]
        exact ⟨⟨4, by omega, .inr ⟨by omega, by simp⟩⟩, by decide⟩
      · have d0 : decide ((4 : Int) < 4) = false := rfl
        have e4 : boxN lo hi rg 4 = boxP lo hi rg := rfl
        simp only [ring2, linesO, d0, e4, pnt, push_cast, ↓reduceIte, reduceCtorEq, zB, zE, zA, zS, zL, zD, zM]
        rfl

noncomputable def clip_Floor_pc : PC :=
  (.seq (.reg [p_s 4 (.mov (.c (.nils 2 (.agg [(.v (.int .i64 0)), (.v (.int .i64 0))]))))])
 (.seq (.seq (.reg [p_m 14 1, p_s 15 (.bin .lss (.t 14) (o_i 1)), p_m 16 15, p_g 17 16 false (.mov (.t 0)), ⟨(some 18), (some (16, false)), 1, .call 65 [(.t 17)]⟩, p_g 19 16 false (.un .not (.t 18)),
 p_s 20 (.pick (.t 16) (.c (.r (.v (.bool true)))) (.t 19))])
 (.cond (.t 20)
 (.seq (.reg [p_s 4 (.mov (.c (.nils 2 (.agg [(.v (.int .i64 0)), (.v (.int .i64 0))]))))])
 .ret)
 .skip))
 (.seq (.reg [p_s 5 (.mov (.c (.nils 2 (.agg [(.v (.int .i64 0)), (.v (.int .i64 0))]))))])
 (.seq (.seq (.reg [p_m 21 0, p_s 22 (.len false (.t 21)), p_s 23 (.mov (o_i 0))])
 (.block 0 (.loop (.seq (.reg [p_s 24 (.bin .lss (.t 23) (.t 22))])
 (.seq (.cond (.t 24)
 .skip
 (.exit 0))
 (.seq (.block 1 (.seq (.reg [p_s 25 (.ia 2 (.agg [(.v (.int .i64 0)), (.v (.int .i64 0))]) (.t 21) (.t 23)), p_s 26 (.ld (some 2) (.t 25)), p_a 7 (.new [(.r (.v (.int .i64 0))), (.r (.v (.int .i64 0)))]),
 ⟨none, none, 0, .act (.st 2 (.t 7) (.t 26))⟩])
 (.seq (.reg [p_s 28 (.iaa 2 1 (.t 7) (o_i 0)), p_s 29 (.ld none (.t 28)), p_m 30 1, p_c 31 2 66 [.t 29, .t 30], p_m 27 31, p_s 32 (.ext (.t 27) 0), p_s 33 (.ext (.t 27) 1), p_s 34 (.ext (.t 27) 2),
 p_m 8 32, p_m 9 33, p_m 10 34])
 (.seq (.reg [p_s 36 (.iaa 2 1 (.t 7) (o_i 1)), p_s 37 (.ld none (.t 36)), p_m 38 1, p_c 39 3 66 [.t 37, .t 38], p_m 35 39, p_s 40 (.ext (.t 35) 0), p_s 41 (.ext (.t 35) 1), p_s 42 (.ext (.t 35) 2),
 p_m 11 40, p_m 12 41, p_m 13 42])
 (.reg [p_m 43 5, p_m 44 8, p_m 45 11, p_s 46 (.build [(.r (.v (.int .i64 0))), (.r (.v (.int .i64 0)))] [(0, 1, (.t 44)), (1, 1, (.t 45))]), p_a 47 (.bsl 2 (.agg [(.v (.int .i64 0)), (.v (.int .i64 0))]) [(.t 46)]),
 p_a 48 (.app 2 (.agg [(.v (.int .i64 0)), (.v (.int .i64 0))]) 16 (.t 43) (.t 47)), p_m 5 48])))))
 (.reg [p_s 49 (.bin .add (.t 23) (o_i 1)), p_m 23 49])))))))
 (.seq (.reg [p_m 50 5, p_m 4 50])
 .ret)))))
theorem clip_Floor_triple : Fun P0 31 2 [(4, false, none)] clip_Floor_pc := fun_mk Go.Proofs.Tryz.func31 rfl (by decide) (by kernel_rfl) (by decide) rfl (by kernel_rfl) (by kernel_rfl) (by decide)
def flrP (b : Int) (rg : List P2) : List P2 := rg.map fun p => (p.1 / b, p.2 / b)
set_option maxHeartbeats 4000000 in
theorem cfloor_r (b : Int) (hb : 1 ≤ b ∧ b ≤ 9007199254740992) (rg : List P2) (h : RgOk rg) {res : AV} {ro : List Ob}
    (hres : (rg = [] ∧ res = .nils 2 (pnt 0 0) ∧ ro = []) ∨ (rg ≠ [] ∧ res = .own 1000000 0 0 (flrP b rg).length ∧ ro = [rowP (flrP b rg)])) :
    Triple P0 31 [ring2 rg, int .i64 b] [] res ro := by
  refine clip_Floor_triple rfl (by decide) ?_
  have hmx := maxLen_big
  have hok := rok_t rg h
  obtain ⟨h1, h2, h3⟩ := h
  have d1 : decide (b < 1) = false := by simp; omega
  simp only [clip_Floor_pc, ring2, d1, push_cast, ↓reduceIte, reduceCtorEq, zB, zE, zA, zS, zL, zD, zM]
  refine call_as (as' := [ring2 rg]) rfl ?_
  refine call_mk hok rfl trivial ?_
  simp only [push_cast, ↓reduceIte, reduceCtorEq, zB, zE, zA, zS, zL, zD, zM]
  have hlt : ∀ i, (flrP b (rg.take i)).length ≤ i := fun i => by unfold flrP; simp; omega
  refine run_loop [(23, false), (21, false), (22, false), (1, false), (5, false)] (fun vs pos los => ∃ i : Nat, i ≤ rg.length ∧ pos = [] ∧
      (i = 0 ∧ vs = [int .i64 i, ring2 rg, int .i64 rg.length, int .i64 b, .nils 2 (pnt 0 0)] ∧ los = [] ∨
       i ≠ 0 ∧ vs = [int .i64 i, ring2 rg, int .i64 rg.length, int .i64 b, .own 2000000 0 0 (flrP b (rg.take i)).length] ∧ los = [rowP (flrP b (rg.take i))]))
    (fun vs _ _ => match vs with | .r (.v (.int _ a)) :: _ => (rg.length - a).toNat | _ => 0) rfl ?_ ?_
  · simp only [ring2, pnt, push_cast, ↓reduceIte, reduceCtorEq, zB, zE, zA, zS, zL, zD, zM]
    exact ⟨0, by omega, .inl ⟨rfl, by simp⟩⟩
  · rintro vs pos los ⟨i, hi, rfl, ⟨h0, rfl, rfl⟩ | ⟨h0, rfl, rfl⟩⟩
    · have hlen := hlt i
      simp only [ring2, pnt, push_cast, ↓reduceIte, reduceCtorEq, zB, zE, zA, zS, zL, zD, zM]
      refine cnd_mk (fun hd => ?_) (fun hd => ?_)
      · have hi2 : i < rg.length := by simpa using hd
        obtain ⟨p, hp⟩ : ∃ p, rg[i]? = some p := ⟨rg[i], by simp [hi2]⟩
        have hpb := h2 p (zam hp)
        have wi : IntKind.i64.wrap ((i : Int) + 1) = (i : Int) + 1 := wrap_id (by omega)
        have hf1 := floor_t p.1 b (by unfold in64; omega) (by unfold in64; omega)
        have hf2 := floor_t p.2 b (by unfold in64; omega) (by unfold in64; omega)
        rw [if_pos (by omega), if_pos (by omega)] at hf1 hf2
        have hN : flrP b (rg.take (i + 1)) = [(p.1 / b, p.2 / b)] := by
          unfold flrP
          rw [zao, hp, zap]
          rw [h0]; rfl
        simp only [ring2, zan, ring_get hp, ring_get0 hp, wi, zab, zac, zaa, push_cast, ↓reduceIte, reduceCtorEq, zB, zE, zA, zS, zL, zD, zM]
        repeat refine And.intro (by first | decide | omega | exact fun _ => by decide | (simp +contextual; done) | kernel_rfl) ?_
        refine call_mk hf1 rfl trivial ?_
        simp only [ring2, wi, zab, zac, zaa, push_cast, ↓reduceIte, reduceCtorEq, zB, zE, zA, zS, zL, zD, zM]
        repeat refine And.intro (by first | decide | omega | exact fun _ => by decide | (simp +contextual; done) | kernel_rfl) ?_
        refine call_mk hf2 rfl trivial ?_
        simp only [ring2, take_ptR, wi, zab, zac, zaa, push_cast, ↓reduceIte, reduceCtorEq, zB, zE, zA, zS, zL, zD, zM]
        repeat refine And.intro (by first | decide | omega | exact fun _ => by decide | (simp +contextual; done) | kernel_rfl) ?_
        exact ⟨⟨i + 1, by omega, .inr ⟨by omega, by rw [hN]; simp, by rw [hN]; simp [ptR, pnt]⟩⟩, by omega⟩
      · have hi2 : i = rg.length := by
          have : ¬ i < rg.length := by simpa using hd
          omega
        rcases hres with ⟨g0, rfl, rfl⟩ | ⟨g0, rfl, rfl⟩
        · simp only [pnt, push_cast, ↓reduceIte, reduceCtorEq, zB, zE, zA, zS, zL, zD, zM]
        · exact absurd (List.length_eq_zero_iff.1 (by omega)) g0
    · have hlen := hlt i
      simp only [ring2, pnt, push_cast, ↓reduceIte, reduceCtorEq, zB, zE, zA, zS, zL, zD, zM]
      refine cnd_mk (fun hd => ?_) (fun hd => ?_)
      · have hi2 : i < rg.length := by simpa using hd
        obtain ⟨p, hp⟩ : ∃ p, rg[i]? = some p := ⟨rg[i], by simp [hi2]⟩
        have hpb := h2 p (zam hp)
        have wi : IntKind.i64.wrap ((i : Int) + 1) = (i : Int) + 1 := wrap_id (by omega)
        have hf1 := floor_t p.1 b (by unfold in64; omega) (by unfold in64; omega)
        have hf2 := floor_t p.2 b (by unfold in64; omega) (by unfold in64; omega)
        rw [if_pos (by omega), if_pos (by omega)] at hf1 hf2
        have hN : flrP b (rg.take (i + 1)) = flrP b (rg.take i) ++ [(p.1 / b, p.2 / b)] := by
          unfold flrP
          rw [zao, hp, zap]
          rfl
        simp only [ring2, zan, ring_get hp, ring_get0 hp, wi, zab, zac, zaa, push_cast, ↓reduceIte, reduceCtorEq, zB, zE, zA, zS, zL, zD, zM]
        repeat refine And.intro (by first | decide | omega | exact fun _ => by decide | (simp +contextual; done) | kernel_rfl) ?_
        refine call_mk hf1 rfl trivial ?_
        simp only [ring2, wi, zab, zac, zaa, push_cast, ↓reduceIte, reduceCtorEq, zB, zE, zA, zS, zL, zD, zM]
        repeat refine And.intro (by first | decide | omega | exact fun _ => by decide | (simp +contextual; done) | kernel_rfl) ?_
        refine call_mk hf2 rfl trivial ?_
        simp only [ring2, take_ptR, wi, zab, zac, zaa, push_cast, ↓reduceIte, reduceCtorEq, zB, zE, zA, zS, zL, zD, zM]
        repeat refine And.intro (by first | decide | omega | exact fun _ => by decide | (simp +contextual; done) | kernel_rfl) ?_
        exact ⟨⟨i + 1, by omega, .inr ⟨by omega, by rw [hN]; simp, by rw [hN]; simp [ptR, pnt]⟩⟩, by omega⟩
      · have hi2 : i = rg.length := by
          have : ¬ i < rg.length := by simpa using hd
          omega
        rcases hres with ⟨g0, rfl, rfl⟩ | ⟨g0, rfl, rfl⟩
        · exfalso; rw [g0] at hi2; exact h0 hi2
        · rw [hi2, zbg]; simp only [pnt, push_cast, ↓reduceIte, reduceCtorEq, zB, zE, zA, zS, zL, zD, zM]; rfl

theorem floor_btw {u t D : Int} (h0 : 0 < t) (h1 : t < D) : (0 ≤ u → 0 ≤ u * t / D ∧ u * t / D ≤ u) ∧ (u ≤ 0 → u ≤ u * t / D ∧ u * t / D ≤ 0) := by
 have hD : 0 < D := by omega
 constructor
 ·intro hu
  have a := zba hu (zbb h0)
  have b := Int.mul_le_mul_of_nonneg_left (zbb h1) hu
  exact ⟨Int.ediv_nonneg a (zbb hD), Int.ediv_le_of_le_mul hD b⟩
 ·intro hu
  have a := Int.mul_le_mul_of_nonpos_left hu (zbb h1)
  have b := Int.mul_le_mul_of_nonneg_right hu (zbb h0)
  rw [Int.zero_mul] at b
  exact ⟨Int.le_ediv_of_mul_le hD a, Int.ediv_le_of_le_mul hD (by rw [Int.zero_mul]; exact b)⟩
def Btw (x a b : Int) : Prop := (a ≤ x ∧ x ≤ b) ∨ (b ≤ x ∧ x ≤ a)
theorem cross_btw {l : Lin} (hl : l.ok) {p q : P2} (hb : betwP l p q = true) : Btw (crossP l p q).1 p.1 q.1 ∧ Btw (crossP l p q).2 p.2 q.2 := by
 obtain ⟨a, c, b⟩ := l
 obtain ⟨px, py⟩ := p
 obtain ⟨qx, qy⟩ := q
 have key : ∀ (u P Q : Int), (P < c ∧ c < Q) ∨ (Q < c ∧ c < P) → ∃ n : Int, (if Q - P < 0 then (-(u * (c - P))) / (-(Q - P)) else if 0 < Q - P then (u * (c - P)) / (Q - P) else 0) = n ∧ ((0 ≤ u → 0 ≤ n ∧ n ≤ u) ∧ (u ≤ 0 → u ≤ n ∧ n ≤ 0)) := fun u P Q h => by
  refine ⟨_, rfl, ?_⟩
  rcases h with h | h
  ·rw [if_neg (by omega), if_pos (by omega)]
   exact floor_btw (by omega) (by omega)
  ·rw [if_pos (by omega)]
   have := floor_btw (u := u) (t := P - c) (D := P - Q) (by omega) (by omega)
   rw [show -(u * (c - P)) = u * (P - c) by rw [← Int.mul_neg]; congr 1; omega, show -(Q - P) = P - Q by omega]
   exact this
 rcases hl with h | h <;> simp only at h <;> subst h
 ·have hbt : (px < c ∧ c < qx) ∨ (qx < c ∧ c < px) := by simpa [betwP, sel] using hb
  obtain ⟨n, hn, h1, h2⟩ := key (qy - py) px qx hbt
  have e : crossP ⟨0, c, b⟩ (px, py) (qx, qy) = (c, py + n) := by rw [← hn]; rfl
  rw [e]
  unfold Btw
  simp only
  refine ⟨by omega, ?_⟩
  rcases Int.le_total 0 (qy - py) with h | h
  ·have := h1 h; omega
  ·have := h2 h; omega
 ·have hbt : (py < c ∧ c < qy) ∨ (qy < c ∧ c < py) := by simpa [betwP, sel] using hb
  obtain ⟨n, hn, h1, h2⟩ := key (qx - px) py qy hbt
  have e : crossP ⟨1, c, b⟩ (px, py) (qx, qy) = (px + n, c) := by rw [← hn]; rfl
  rw [e]
  unfold Btw
  simp only
  refine ⟨?_, by omega⟩
  rcases Int.le_total 0 (qx - px) with h | h
  ·have := h1 h; omega
  ·have := h2 h; omega
def RgIn (lo hi : P2) (rg : List P2) : Prop := ∀ p ∈ rg, (lo.1 ≤ p.1 ∧ p.1 ≤ hi.1) ∧ (lo.2 ≤ p.2 ∧ p.2 ≤ hi.2)
theorem cutN_in {l : Lin} (hl : l.ok) {lo hi : P2} {rg : List P2} (h : RgIn lo hi rg) : ∀ i, i ≤ rg.length → RgIn lo hi (cutN l rg i)
 | 0, _ => by intro p hp; simp [cutN] at hp
 | i + 1, hi' => by
  have ih := cutN_in hl h i (by omega)
  have hp0 : rg.getD i (0, 0) ∈ rg := by
   rw [zak, zbc (show i < rg.length by omega)]
   exact List.getElem_mem _
  have hq0 : ngh rg i ∈ rg := by
   have : (i + 1) % rg.length < rg.length := Nat.mod_lt _ (by omega)
   unfold ngh
   rw [zak, zbc this]
   exact List.getElem_mem _
  intro p hp
  rw [cutN] at hp
  rcases zah.1 hp with hp | hp
  ·exact ih p hp
  ·unfold cutAt at hp
   rcases zah.1 hp with hp | hp
   ·split at hp
    ·simp only [zag] at hp
     subst hp
     exact h _ hp0
    ·cases hp
   ·split at hp
    ·rename_i hb
     simp only [zag] at hp
     subst hp
     obtain ⟨b1, b2⟩ := cross_btw hl hb
     have a1 := h _ hp0
     have a2 := h _ hq0
     unfold Btw at b1 b2
     omega
    ·cases hp
theorem cutP_in {l : Lin} (hl : l.ok) {lo hi : P2} {rg : List P2} (h : RgIn lo hi rg) : RgIn lo hi (cutP l rg) := cutN_in hl h _ (zaq _)
theorem cutP_len (l : Lin) (rg : List P2) : (cutP l rg).length ≤ 2 * rg.length := cutN_len l rg _
theorem boxN_in {lo hi : P2} {a b : P2} {rg : List P2} (h : RgIn a b rg) : ∀ i, i ≤ 4 → RgIn a b (boxN lo hi rg i) ∧ (boxN lo hi rg i).length ≤ 2 ^ i * rg.length
 | 0, _ => ⟨h, by simp [boxN]⟩
 | i + 1, hi' => by
  obtain ⟨h1, h2⟩ := boxN_in (lo := lo) (hi := hi) h i (by omega)
  obtain ⟨l, hl⟩ : ∃ l, (linesB lo hi)[i]? = some l := ⟨(linesB lo hi)[i]'(by simp [linesB]; omega), by simp [linesB, show i < 4 by omega]⟩
  have hok : l.ok := by
   have := zam hl
   simp only [linesB, zad, List.not_mem_nil, or_false] at this
   rcases this with rfl | rfl | rfl | rfl
   ·exact .inl rfl
   ·exact .inl rfl
   ·exact .inr rfl
   ·exact .inr rfl
  have e : boxN lo hi rg (i + 1) = cutP l (boxN lo hi rg i) := by
   unfold boxN
   rw [zao, hl, List.foldl_append]
   rfl
  rw [e]
  refine ⟨cutP_in hok h1, Nat.le_trans (cutP_len _ _) ?_⟩
  rw [Nat.pow_succ, Nat.mul_assoc, Nat.mul_left_comm]
  omega
theorem rgOk_of {a b : P2} {rg : List P2} (h : RgIn a b rg) (hl : rg.length ≤ 100) (h1 : -1099511627776 ≤ a.1 ∧ b.1 ≤ 1099511627776 ∧ b.1 - a.1 ≤ 1073741824) (h2 : -1099511627776 ≤ a.2 ∧ b.2 ≤ 1099511627776 ∧ b.2 - a.2 ≤ 1073741824) : RgOk rg := by
 refine ⟨hl, fun p hp => ?_, fun p hp q hq => ?_⟩
 ·have := h p hp
  omega
 ·have := h p hp
  have := h q hq
  omega
theorem cbox_a (lo hi : P2) (hlo : (-9007199254740992 ≤ lo.1 ∧ lo.1 ≤ 9007199254740992) ∧ (-9007199254740992 ≤ lo.2 ∧ lo.2 ≤ 9007199254740992)) (hhi : (-9007199254740992 ≤ hi.1 ∧ hi.1 ≤ 9007199254740992) ∧ (-9007199254740992 ≤ hi.2 ∧ hi.2 ≤ 9007199254740992))
  {a b : P2} {rg : List P2} (h : RgIn a b rg) (hl : rg.length ≤ 6) (h1 : -1099511627776 ≤ a.1 ∧ b.1 ≤ 1099511627776 ∧ b.1 - a.1 ≤ 1073741824) (h2 : -1099511627776 ≤ a.2 ∧ b.2 ≤ 1099511627776 ∧ b.2 - a.2 ≤ 1073741824) :
  Triple P0 29 [ring2 rg, pv2 lo, pv2 hi] [] (.own 1000000 0 0 (boxP lo hi rg).length) [rowP (boxP lo hi rg)] ∧ RgIn a b (boxP lo hi rg) ∧ RgOk (boxP lo hi rg) := by
 have key : ∀ i, i ≤ 4 → RgOk (boxN lo hi rg i) := fun i hi' => by
  obtain ⟨g1, g2⟩ := boxN_in (lo := lo) (hi := hi) h i hi'
  have : 2 ^ i ≤ 2 ^ 4 := Nat.pow_le_pow_right (by decide) hi'
  have := Nat.mul_le_mul this hl
  exact rgOk_of g1 (by omega) h1 h2
 exact ⟨cbox_t lo hi hlo hhi rg fun i hi' => key i (by omega), (boxN_in h 4 (zaq _)).1, key 4 (zaq _)⟩

noncomputable def hull_turn_pc : PC :=
  (.seq (.reg [p_a 3 (.box (.t 0)), p_a 4 (.box (.t 1)), p_a 5 (.box (.t 2)), p_s 6 (.mov (o_i 0))])
 (.seq (.reg [p_s 7 (.iaa 2 1 (.t 4) (o_i 0)), p_s 8 (.ld none (.t 7)), p_s 9 (.iaa 2 1 (.t 3) (o_i 0)), p_s 10 (.ld none (.t 9)), p_s 11 (.bin .sub (.t 8) (.t 10)), p_s 12 (.iaa 2 1 (.t 5) (o_i 1)),
 p_s 13 (.ld none (.t 12)), p_s 14 (.iaa 2 1 (.t 3) (o_i 1)), p_s 15 (.ld none (.t 14)), p_s 16 (.bin .sub (.t 13) (.t 15)), p_s 17 (.bin .mul (.t 11) (.t 16)), p_s 18 (.iaa 2 1 (.t 4) (o_i 1)),
 p_s 19 (.ld none (.t 18)), p_s 20 (.iaa 2 1 (.t 3) (o_i 1)), p_s 21 (.ld none (.t 20)), p_s 22 (.bin .sub (.t 19) (.t 21)), p_s 23 (.iaa 2 1 (.t 5) (o_i 0)), p_s 24 (.ld none (.t 23)),
 p_s 25 (.iaa 2 1 (.t 3) (o_i 0)), p_s 26 (.ld none (.t 25)), p_s 27 (.bin .sub (.t 24) (.t 26)), p_s 28 (.bin .mul (.t 22) (.t 27)), p_s 29 (.bin .sub (.t 17) (.t 28)),
 p_m 6 29])
 .ret))
theorem hull_turn_triple : Fun P0 102 3 [(6, false, none)] hull_turn_pc := fun_mk Go.Proofs.Tryz.func102 rfl (by decide) (by kernel_rfl) (by decide) rfl (by kernel_rfl) (by kernel_rfl) (by decide)
noncomputable def hull_ok_1_pc : PC :=
  (.seq (.reg [p_a 1 (.box (.t 0)), p_s 2 (.mov (.c (.r (.v (.bool false)))))])
 (.seq (.reg [p_s 3 (.iaa 2 1 (.t 1) (o_i 0)), p_s 4 (.ld none (.t 3)), p_s 5 (.bin .lss (.t 4) (o_i (-536870912))), p_m 6 5, p_g 7 6 false (.iaa 2 1 (.t 1) (o_i 0)), p_g 8 6 false (.ld none (.t 7)),
 p_g 9 6 false (.bin .gtr (.t 8) (o_i 536870912)), p_s 10 (.pick (.t 6) (.c (.r (.v (.bool true)))) (.t 9)), p_m 11 10, p_g 12 11 false (.iaa 2 1 (.t 1) (o_i 1)),
 p_g 13 11 false (.ld none (.t 12)), p_g 14 11 false (.bin .lss (.t 13) (o_i (-536870912))), p_s 15 (.pick (.t 11) (.c (.r (.v (.bool true)))) (.t 14)), p_m 16 15,
 p_g 17 16 false (.iaa 2 1 (.t 1) (o_i 1)), p_g 18 16 false (.ld none (.t 17)), p_g 19 16 false (.bin .gtr (.t 18) (o_i 536870912)), p_s 20 (.pick (.t 16) (.c (.r (.v (.bool true)))) (.t 19)),
 p_m 2 20])
 .ret))
theorem hull_ok_1_triple : Fun P0 97 1 [(2, false, none)] hull_ok_1_pc := fun_mk Go.Proofs.Tryz.func97 rfl (by decide) (by kernel_rfl) (by decide) rfl (by kernel_rfl) (by kernel_rfl) (by decide)
noncomputable def slices_IndexFunc_2_int64_2_int64_pc : PC :=
  (.seq (.reg [p_s 4 (.mov (o_i 0))])
 (.seq (.seq (.reg [p_m 6 0, p_s 7 (.len false (.t 6)), p_s 8 (.mov (o_i 0))])
 (.block 0 (.loop (.seq (.reg [p_s 9 (.bin .lss (.t 8) (.t 7))])
 (.seq (.cond (.t 9)
 .skip
 (.exit 0))
 (.seq (.block 1 (.seq (.reg [p_m 10 8, p_m 5 10])
 (.seq (.reg [p_m 11 1, p_m 12 0, p_m 13 5, p_s 14 (.ia 2 (.agg [(.v (.int .i64 0)), (.v (.int .i64 0))]) (.t 12) (.t 13)), p_s 15 (.ld (some 2) (.t 14)), ⟨(some 16), none, 1, .callv (.t 11) [(.t 15)]⟩])
 (.cond (.t 16)
 (.seq (.reg [p_m 17 5, p_m 4 17])
 .ret)
 .skip))))
 (.reg [p_s 18 (.bin .add (.t 8) (o_i 1)), p_m 8 18])))))))
 (.seq (.reg [p_s 4 (.mov (o_i (-1)))])
 .ret)))
theorem slices_IndexFunc_2_int64_2_int64_triple : Fun P0 126 2 [(4, false, none)] slices_IndexFunc_2_int64_2_int64_pc := fun_mk Go.Proofs.Tryz.func126 rfl (by decide) (by kernel_rfl) (by decide) rfl (by kernel_rfl) (by kernel_rfl) (by decide)
noncomputable def slices_ContainsFunc_2_int64_2_int64_pc : PC :=
  (.seq (.reg [p_s 4 (.mov (.c (.r (.v (.bool false)))))])
 (.seq (.reg [p_m 5 0, p_m 6 1, p_c 7 1 126 [.t 5, .t 6], p_s 8 (.bin .geq (.t 7) (o_i 0)), p_m 4 8])
 .ret))
theorem slices_ContainsFunc_2_int64_2_int64_triple : Fun P0 98 2 [(4, false, none)] slices_ContainsFunc_2_int64_2_int64_pc := fun_mk Go.Proofs.Tryz.func98 rfl (by decide) (by kernel_rfl) (by decide) rfl (by kernel_rfl) (by kernel_rfl) (by decide)
noncomputable def hull_ok_pc : PC :=
  (.seq (.reg [p_s 2 (.mov (.c (.r (.v (.bool false)))))])
 (.seq (.reg [p_s 3 (.mov (.c (.fn (.func 97) [])))])
 (.seq (.reg [p_m 4 0, p_s 5 (.len false (.t 4)), p_s 6 (.bin .leq (.t 5) (o_i 1000)), p_m 7 6, p_g 8 7 true (.mov (.t 0)), p_g 9 7 true (.mov (.t 3)), ⟨(some 10), (some (7, true)), 1, .call 98 [(.t 8), (.t 9)]⟩,
 p_g 11 7 true (.un .not (.t 10)), p_s 12 (.pick (.t 7) (.t 11) (.c (.r (.v (.bool false))))), p_m 2 12])
 .ret)))
theorem hull_ok_triple : Fun P0 59 1 [(2, false, none)] hull_ok_pc := fun_mk Go.Proofs.Tryz.func59 rfl (by decide) (by kernel_rfl) (by decide) rfl (by kernel_rfl) (by kernel_rfl) (by decide)
def turnP (a b c : P2) : Int := (b.1 - a.1) * (c.2 - a.2) - (b.2 - a.2) * (c.1 - a.1)
def near29 (p : P2) : Prop := (-536870912 ≤ p.1 ∧ p.1 ≤ 536870912) ∧ (-536870912 ≤ p.2 ∧ p.2 ≤ 536870912)
theorem turn_t (a b c : P2) (ha : near29 a) (hb : near29 b) (hc : near29 c) : Triple P0 102 [pv2 a, pv2 b, pv2 c] [] (int .i64 (turnP a b c)) [] := by
 refine hull_turn_triple rfl (by decide) ?_
 unfold near29 at ha hb hc
 have w1 : IntKind.i64.wrap (b.1 - a.1) = b.1 - a.1 := wrap_id (by omega)
 have w2 : IntKind.i64.wrap (c.2 - a.2) = c.2 - a.2 := wrap_id (by omega)
 have w3 : IntKind.i64.wrap (b.2 - a.2) = b.2 - a.2 := wrap_id (by omega)
 have w4 : IntKind.i64.wrap (c.1 - a.1) = c.1 - a.1 := wrap_id (by omega)
 have m1 := mul_in (x := b.1 - a.1) (y := c.2 - a.2) (n := 1073741824) (m := 1073741824) (by omega) (by omega)
 have m2 := mul_in (x := b.2 - a.2) (y := c.1 - a.1) (n := 1073741824) (m := 1073741824) (by omega) (by omega)
 have w5 : IntKind.i64.wrap ((b.1 - a.1) * (c.2 - a.2)) = (b.1 - a.1) * (c.2 - a.2) := wrap_id (by omega)
 have w6 : IntKind.i64.wrap ((b.2 - a.2) * (c.1 - a.1)) = (b.2 - a.2) * (c.1 - a.1) := wrap_id (by omega)
 have w7 : IntKind.i64.wrap ((b.1 - a.1) * (c.2 - a.2) - (b.2 - a.2) * (c.1 - a.1)) = turnP a b c := wrap_id (by omega)
 simp only [hull_turn_pc, pv2, pnt, w1, w2, w3, w4, w5, w6, w7, zab, zac, zaa, push_cast, ↓reduceIte, reduceCtorEq, zB, zE, zA, zS, zL, zD, zM]
 decide
theorem hfar_t (p : P2) (h : near29 p) : Triple P0 97 [pv2 p] [] (bl false) [] := by
 refine hull_ok_1_triple rfl (by decide) ?_
 unfold near29 at h
 have d1 : decide (p.1 < -536870912) = false := by simp; omega
 have d2 : decide (p.1 > 536870912) = false := by simp; omega
 have d3 : decide (p.2 < -536870912) = false := by simp; omega
 have d4 : decide (p.2 > 536870912) = false := by simp; omega
 simp only [hull_ok_1_pc, pv2, pnt, d1, d2, d3, d4, zab, zac, zaa, push_cast, ↓reduceIte, reduceCtorEq, zB, zE, zA, zS, zL, zD, zM]
 decide
def farF : AV := .fn (.func 97) [] 0
theorem hidx_t (l : List P2) (hl : l.length ≤ 1000) (h : ∀ p ∈ l, near29 p) : Triple P0 126 [ring2 l, farF] [] (int .i64 (-1)) [] := by
 refine slices_IndexFunc_2_int64_2_int64_triple rfl (by decide) ?_
 simp only [slices_IndexFunc_2_int64_2_int64_pc, ring2, farF, push_cast, ↓reduceIte, reduceCtorEq, zB, zE, zA, zS, zL, zD, zM]
 have hfn : isFn P0 97 = true := rfl
 refine run_loop [(8, false), (0, false), (1, false), (7, false)] (fun vs pos los => ∃ i : Nat, i ≤ l.length ∧ vs = [int .i64 i, ring2 l, farF, int .i64 l.length] ∧ pos = [] ∧ los = [])
  (fun vs _ _ => match vs with | .r (.v (.int _ a)) :: _ => (l.length - a).toNat | _ => 0) rfl ?_ ?_
 ·simp only [ring2, farF, push_cast, ↓reduceIte, reduceCtorEq, zB, zE, zA, zS, zL, zD, zM]
  exact ⟨0, by omega, rfl⟩
 ·rintro vs pos los ⟨i, hi, rfl, rfl, rfl⟩
  simp only [ring2, farF, push_cast, ↓reduceIte, reduceCtorEq, zB, zE, zA, zS, zL, zD, zM]
  refine cnd_mk (fun hd => ?_) (fun hd => ?_)
  ·have hi2 : i < l.length := by simpa using hd
   obtain ⟨p, hp⟩ : ∃ p, l[i]? = some p := ⟨l[i], by simp [hi2]⟩
   have wi : IntKind.i64.wrap ((i : Int) + 1) = (i : Int) + 1 := wrap_id (by omega)
   simp only [ring2, farF, zan, ring_get hp, ring_get0 hp, hfn, wi, push_cast, ↓reduceIte, reduceCtorEq, zB, zE, zA, zS, zL, zD, zM]
   repeat refine And.intro (by first | decide | omega | exact fun _ => by decide | (simp +contextual; done) | kernel_rfl) ?_
   refine call_as (as' := [pv2 p]) rfl ?_
   refine call_mk (hfar_t p (h p (zam hp))) rfl trivial ?_
   simp only [ring2, farF, wi, push_cast, ↓reduceIte, reduceCtorEq, zB, zE, zA, zS, zL, zD, zM]
   exact ⟨⟨i + 1, by omega, rfl⟩, by omega⟩
  ·simp only [ring2, farF, push_cast, ↓reduceIte, reduceCtorEq, zB, zE, zA, zS, zL, zD, zM]
theorem hcon_t (l : List P2) (hl : l.length ≤ 1000) (h : ∀ p ∈ l, near29 p) : Triple P0 98 [ring2 l, farF] [] (bl false) [] := by
 refine slices_ContainsFunc_2_int64_2_int64_triple rfl (by decide) ?_
 have d : decide ((-1 : Int) ≥ 0) = false := rfl
 simp only [slices_ContainsFunc_2_int64_2_int64_pc, ring2, farF, push_cast, ↓reduceIte, reduceCtorEq, zB, zE, zA, zS, zL, zD, zM]
 refine call_as (as' := [ring2 l, farF]) rfl ?_
 refine call_mk (hidx_t l hl h) rfl trivial ?_
 simp only [d, push_cast, ↓reduceIte, reduceCtorEq, zB, zE, zA, zS, zL, zD, zM]
theorem hok_t (l : List P2) (hl : l.length ≤ 1000) (h : ∀ p ∈ l, near29 p) : Triple P0 59 [ring2 l] [] (bl true) [] := by
 refine hull_ok_triple rfl (by decide) ?_
 have d : decide ((l.length : Int) ≤ 1000) = true := by simp; omega
 simp only [hull_ok_pc, ring2, d, push_cast, ↓reduceIte, reduceCtorEq, zB, zE, zA, zS, zL, zD, zM]
 refine call_as (as' := [ring2 l, farF]) rfl ?_
 refine call_mk (hcon_t l hl h) rfl trivial ?_
 simp only [push_cast, ↓reduceIte, reduceCtorEq, zB, zE, zA, zS, zL, zD, zM]

noncomputable def hull_chain_pc : PC :=
  (.seq (.reg [p_s 2 (.mov (.c (.nils 2 (.agg [(.v (.int .i64 0)), (.v (.int .i64 0))]))))])
 (.seq (.reg [p_s 3 (.mov (.c (.nils 2 (.agg [(.v (.int .i64 0)), (.v (.int .i64 0))]))))])
 (.seq (.seq (.reg [p_m 6 0, p_s 7 (.len false (.t 6)), p_s 8 (.mov (o_i 0))])
 (.block 0 (.loop (.seq (.reg [p_s 9 (.bin .lss (.t 8) (.t 7))])
 (.seq (.cond (.t 9)
 .skip
 (.exit 0))
 (.seq (.block 1 (.seq (.reg [p_s 10 (.ia 2 (.agg [(.v (.int .i64 0)), (.v (.int .i64 0))]) (.t 6) (.t 8)), p_s 11 (.ld (some 2) (.t 10)), p_a 5 (.new [(.r (.v (.int .i64 0))), (.r (.v (.int .i64 0)))]),
 ⟨none, none, 0, .act (.st 2 (.t 5) (.t 11))⟩])
 (.seq (.block 2 (.loop (.seq (.seq (.drw [p_m 12 3, p_s 13 (.len false (.t 12)), p_s 14 (.bin .gtr (.t 13) (o_i 1)), p_m 15 14, p_g 16 15 true (.mov (.t 3)), p_g 17 15 true (.mov (.t 3)), p_g 18 15 true (.len false (.t 17)),
 p_g 19 15 true (.bin .sub (.t 18) (o_i 2)), p_g 20 15 true (.ia 2 (.agg [(.v (.int .i64 0)), (.v (.int .i64 0))]) (.t 16) (.t 19)), p_g 21 15 true (.ld (some 2) (.t 20)),
 p_g 22 15 true (.mov (.t 3)), p_g 23 15 true (.mov (.t 3)), p_g 24 15 true (.len false (.t 23)), p_g 25 15 true (.bin .sub (.t 24) (o_i 1)), p_g 26 15 true (.ia 2 (.agg [(.v (.int .i64 0)), (.v (.int .i64 0))]) (.t 22) (.t 25)),
 p_g 27 15 true (.ld (some 2) (.t 26)), p_g 28 15 true (.ld (some 2) (.t 5)), ⟨(some 29), (some (15, true)), 1, .call 102 [(.t 21), (.t 27), (.t 28)]⟩, p_g 30 15 true (.bin .leq (.t 29) (o_i 0)),
 p_s 31 (.pick (.t 15) (.t 30) (.c (.r (.v (.bool false)))))]
 [[], [0], [0, 1], [0, 1, 2], [0, 1, 2, 3], [0, 1, 2, 3], [0, 1, 2, 3, 5], [0, 1, 2, 3, 5, 6], [0, 1, 2, 3, 4, 5, 6, 7], [0, 1, 2, 3, 4, 5, 6, 7, 8], [0, 1, 2, 3], [0, 1, 2, 3], [0, 1, 2, 3, 11], [0, 1, 2, 3, 11, 12], [0, 1, 2, 3, 10, 11, 12, 13], [0, 1, 2, 3, 10, 11, 12, 13, 14], [0, 1, 2, 3], [0, 1, 2, 3, 4, 5, 6, 7, 8, 9, 10, 11, 12, 13, 14, 15, 16], [0, 1, 2, 3, 4, 5, 6, 7, 8, 9, 10, 11, 12, 13, 14, 15, 16, 17], [0, 1, 2, 3, 4, 5, 6, 7, 8, 9, 10, 11, 12, 13, 14, 15, 16, 17, 18]])
 (.cond (.t 31)
 .skip
 (.exit 2)))
 (.block 3 (.reg [p_m 32 3, p_m 33 3, p_s 34 (.len false (.t 33)), p_s 35 (.bin .sub (.t 34) (o_i 1)), p_s 36 (.sll 2 (.t 32) none (some (.t 35)) none), p_m 3 36])))))
 (.reg [p_m 37 3, p_s 38 (.ld (some 2) (.t 5)), p_a 39 (.bsl 2 (.agg [(.v (.int .i64 0)), (.v (.int .i64 0))]) [(.t 38)]), p_a 40 (.app 2 (.agg [(.v (.int .i64 0)), (.v (.int .i64 0))]) 16 (.t 37) (.t 39)),
 p_m 3 40]))))
 (.reg [p_s 41 (.bin .add (.t 8) (o_i 1)), p_m 8 41])))))))
 (.seq (.reg [p_m 42 3, p_m 43 3, p_s 44 (.len false (.t 43)), p_s 45 (.bin .sub (.t 44) (o_i 1)), p_s 46 (.sll 2 (.t 42) none (some (.t 45)) none), p_m 2 46])
 .ret))))
theorem hull_chain_triple : Fun P0 63 1 [(2, false, none)] hull_chain_pc := fun_mk Go.Proofs.Tryz.func63 rfl (by decide) (by kernel_rfl) (by decide) rfl (by kernel_rfl) (by kernel_rfl) (by decide)
def popC (p : P2) : List P2 → List P2
 | b :: a :: r => if turnP a b p ≤ 0 then popC p (a :: r) else b :: a :: r
 | s => s
def stkC (l : List P2) : List P2 := l.foldl (fun s p => p :: popC p s) []
def chainP (l : List P2) : List P2 := (stkC l).reverse.dropLast
theorem popC_suf (p : P2) : ∀ s, ∃ k, popC p s = s.drop k ∧ (s ≠ [] → popC p s ≠ [])
 | [] => ⟨0, rfl, fun h => h⟩
 | [a] => ⟨0, rfl, fun h => h⟩
 | b :: a :: r => by
  rw [popC]
  split
  ·obtain ⟨k, h1, h2⟩ := popC_suf p (a :: r)
   exact ⟨k + 1, by rw [h1]; rfl, fun _ => h2 (by simp)⟩
  ·exact ⟨0, rfl, fun h => h⟩
theorem popC_mem {p q : P2} {s : List P2} (h : q ∈ popC p s) : q ∈ s := by
 obtain ⟨k, h1, _⟩ := popC_suf p s
 rw [h1] at h
 exact List.mem_of_mem_drop h
theorem popC_len (p : P2) (s : List P2) : (popC p s).length ≤ s.length := by
 obtain ⟨k, h1, _⟩ := popC_suf p s
 rw [h1, List.length_drop]
 omega
theorem stkC_snoc (l : List P2) (p : P2) : stkC (l ++ [p]) = p :: popC p (stkC l) := by simp [stkC]
theorem snoc_ind {α : Type} {P : List α → Prop} (h0 : P []) (h1 : ∀ l p, P l → P (l ++ [p])) (l : List α) : P l := by
 have key : ∀ r : List α, P r.reverse := fun r => by
  induction r with
  | nil => simpa using h0
  | cons a r ih => rw [List.reverse_cons]; exact h1 _ _ ih
 have := key l.reverse
 rwa [List.reverse_reverse] at this
theorem stkC_mem (l : List P2) : ∀ {q : P2}, q ∈ stkC l → q ∈ l := by
 refine snoc_ind (P := fun l => ∀ {q : P2}, q ∈ stkC l → q ∈ l) (fun h => h) (fun l p ih => ?_) l
 intro q h
 rw [stkC_snoc] at h
 rcases zad.1 h with rfl | h
 ·simp
 ·exact List.mem_append_left _ (ih (popC_mem h))
theorem stkC_len (l : List P2) : (stkC l).length ≤ l.length := by
 refine snoc_ind (P := fun l => (stkC l).length ≤ l.length) (by simp [stkC]) (fun l p ih => ?_) l
 rw [stkC_snoc, zal, zaj]
 have := popC_len p (stkC l)
 simp
 omega

def Uni (f : P2 → Bool) (l : List P2) : Prop := ∃ (v : Bool) (A B C : List P2), l = A ++ (B ++ C) ∧ (∀ a ∈ A, f a = v) ∧ (∀ b ∈ B, f b = !v) ∧ (∀ c ∈ C, f c = v)
def prs (nx : P2) : List P2 → List (P2 × P2)
 | [] => []
 | [p] => [(p, nx)]
 | p :: q :: r => (p, q) :: prs nx (q :: r)
theorem prs_len (nx : P2) : ∀ l, (prs nx l).length = l.length
 | [] => rfl
 | [_] => rfl
 | p :: q :: r => by rw [prs, zal, prs_len nx (q :: r)]; rfl
theorem prs_app (nx : P2) : ∀ (A : List P2) (b : P2) (B : List P2), prs nx (A ++ b :: B) = prs b A ++ prs nx (b :: B)
 | [], b, B => rfl
 | [a], b, B => rfl
 | a :: a' :: A, b, B => by
  have := prs_app nx (a' :: A) b B
  simp only [zbh, prs] at this ⊢
  rw [this]
theorem prs_get (nx : P2) : ∀ (l : List P2) (i : Nat), (prs nx l)[i]? = (l[i]?).map fun p => (p, (l[i + 1]?).getD nx)
 | [], i => by simp [prs]
 | [p], 0 => by simp [prs]
 | [p], i + 1 => by simp [prs]
 | p :: q :: r, 0 => by simp [prs]
 | p :: q :: r, i + 1 => by
  rw [prs, List.getElem?_cons_succ, prs_get nx (q :: r) i]
  simp
def insL (l : Lin) (p q : P2) : List P2 := if betwP l p q then [crossP l p q] else []
def refL (l : Lin) (x : List (P2 × P2)) : List P2 := x.flatMap fun p => p.1 :: insL l p.1 p.2
theorem refL_app (l : Lin) (x y : List (P2 × P2)) : refL l (x ++ y) = refL l x ++ refL l y := by simp [refL]
theorem cutN_pairs (l : Lin) (rg : List P2) (h : P2) (hh : rg.head? = some h) : ∀ i, i ≤ rg.length → cutN l rg i = ((prs h rg).take i).flatMap fun p => cutAt l p.1 p.2
 | 0, _ => by simp [cutN]
 | i + 1, hi => by
  have hlt : i < rg.length := by omega
  have hg := prs_get h rg i
  rw [zbc hlt, Option.map_some] at hg
  have hq : (rg[i + 1]?).getD h = ngh rg i := by
   unfold ngh
   rw [zak]
   by_cases h1 : i + 1 < rg.length
   ·rw [Nat.mod_eq_of_lt h1, zbc h1]
    rfl
   ·have h2 : i + 1 = rg.length := by omega
    rw [List.getElem?_eq_none (by omega), h2, Nat.mod_self]
    cases rg with
    | nil => simp at hlt
    | cons a r => simp at hh; subst hh; rfl
  rw [hq] at hg
  have hp : rg.getD i (0, 0) = rg[i] := by rw [zak, zbc hlt]; rfl
  rw [cutN, cutN_pairs l rg h hh i (by omega), hp, zao, hg, List.flatMap_append]
  simp
theorem cross_keeps (l : Lin) (hl : l.ok) (p q : P2) : keepsP l (crossP l p q) = true := by
 obtain ⟨a, c, b⟩ := l
 rcases hl with h | h <;> simp only at h <;> subst h <;> cases b <;> simp [keepsP, crossP, sel]
theorem cutP_filter (l : Lin) (hl : l.ok) (rg : List P2) (h : P2) (hh : rg.head? = some h) : cutP l rg = (refL l (prs h rg)).filter (keepsP l) := by
 unfold cutP
 rw [cutN_pairs l rg h hh _ (zaq _), zau (by rw [prs_len]; exact zaq _)]
 unfold refL
 generalize prs h rg = x
 induction x with
 | nil => rfl
 | cons p x ih =>
  rw [zbd, zbd, zax, ih]
  congr 1
  unfold cutAt insL
  rw [List.filter_cons]
  by_cases hk : keepsP l p.1 = true
  ·rw [if_pos hk, if_pos hk]
   split
   ·simp [cross_keeps l hl]
   ·simp
  ·rw [if_neg hk, if_neg hk]
   split
   ·simp [cross_keeps l hl]
   ·simp
def thr (a c : Int) (p : P2) : Bool := decide (sel a p ≤ c)
theorem thr_btw {x p q : P2} {a c : Int} (h : Btw (sel a x) (sel a p) (sel a q)) : (thr a c x = thr a c p ∨ thr a c x = thr a c q) := by
 unfold Btw at h
 unfold thr
 by_cases h1 : sel a p ≤ c <;> by_cases h2 : sel a q ≤ c
 ·left; rw [decide_eq_true h1, decide_eq_true (by omega)]
 ·by_cases h3 : sel a x ≤ c
  ·left; rw [decide_eq_true h1, decide_eq_true h3]
  ·right; rw [decide_eq_false h2, decide_eq_false h3]
 ·by_cases h3 : sel a x ≤ c
  ·right; rw [decide_eq_true h2, decide_eq_true h3]
  ·left; rw [decide_eq_false h1, decide_eq_false h3]
 ·left; rw [decide_eq_false h1, decide_eq_false (by omega)]
theorem cross_sel {l : Lin} (hl : l.ok) {p q : P2} (hb : betwP l p q = true) (a : Int) : Btw (sel a (crossP l p q)) (sel a p) (sel a q) := by
 obtain ⟨h1, h2⟩ := cross_btw hl hb
 unfold sel
 split
 ·exact h1
 ·exact h2
theorem ins_thr {l : Lin} (hl : l.ok) {p q x : P2} (hx : x ∈ insL l p q) (a c : Int) : thr a c x = thr a c p ∨ thr a c x = thr a c q := by
 unfold insL at hx
 split at hx
 ·rename_i hb
  simp only [zag] at hx
  subst hx
  exact thr_btw (cross_sel hl hb a)
 ·cases hx
theorem run_ref {l : Lin} (hl : l.ok) (a c : Int) (v : Bool) (nx : P2) : ∀ (A : List P2), (∀ p ∈ A, thr a c p = v) → ∃ A' T, refL l (prs nx A) = A' ++ T ∧ (∀ p ∈ A', thr a c p = v) ∧ (T = [] ∨ ∃ x, T = [x] ∧ (thr a c x = v ∨ thr a c x = thr a c nx))
 | [], _ => ⟨[], [], rfl, by simp, .inl rfl⟩
 | [p], h => by
  have hp := h p (by simp)
  refine ⟨[p], insL l p nx, by simp [refL, prs], by simpa using hp, ?_⟩
  have hi := fun x (hx : x ∈ insL l p nx) => ins_thr hl hx a c
  unfold insL at hi ⊢
  split
  ·rename_i hb
   rw [if_pos hb] at hi
   have := hi (crossP l p nx) (by simp)
   rw [hp] at this
   exact .inr ⟨_, rfl, this⟩
  ·exact .inl rfl
 | p :: q :: r, h => by
  obtain ⟨A', T, h1, h2, h3⟩ := run_ref hl a c v nx (q :: r) fun x hx => h x (by simp at hx ⊢; exact .inr hx)
  have hp := h p (by simp)
  have hq := h q (by simp)
  refine ⟨p :: (insL l p q ++ A'), T, ?_, ?_, h3⟩
  ·rw [prs, show refL l ((p, q) :: prs nx (q :: r)) = p :: (insL l p q ++ refL l (prs nx (q :: r))) by simp [refL], h1]
   simp
  ·intro x hx
   rcases zad.1 hx with rfl | hx
   ·exact hp
   ·rcases zah.1 hx with hx | hx
    ·rcases ins_thr hl hx a c with e | e
     ·rw [e, hp]
     ·rw [e, hq]
    ·exact h2 x hx
theorem uni_of {f : P2 → Bool} {v : Bool} {A B C : List P2} (hA : ∀ a ∈ A, f a = v) (hB : ∀ b ∈ B, f b = !v) (hC : ∀ c ∈ C, f c = v) : Uni f (A ++ (B ++ C)) := ⟨v, A, B, C, rfl, hA, hB, hC⟩
theorem bool_ne {a b : Bool} (h : a ≠ b) : a = !b := by cases a <;> cases b <;> simp_all
theorem uni_two {f : P2 → Bool} {v : Bool} {A' T B' S : List P2} (hA : ∀ p ∈ A', f p = v) (hT : T = [] ∨ ∃ x, T = [x]) (hB : ∀ p ∈ B', f p = !v) (hS : S = [] ∨ ∃ x, S = [x]) : Uni f ((A' ++ T) ++ (B' ++ S)) := by
 have put : ∀ (A'' B'' : List P2), (∀ p ∈ A'', f p = v) → (∀ p ∈ B'', f p = !v) → Uni f (A'' ++ (B'' ++ S)) := fun A'' B'' h1 h2 => by
  rcases hS with rfl | ⟨x, rfl⟩
  ·exact uni_of (v := v) h1 h2 (C := []) (by simp)
  ·by_cases hx : f x = v
   ·exact uni_of (v := v) h1 h2 (C := [x]) (by simpa using hx)
   ·have := uni_of (v := v) (f := f) (A := A'') (B := B'' ++ [x]) (C := []) h1 (fun p hp => by
     rcases zah.1 hp with hp | hp
     ·exact h2 p hp
     ·simp only [zag] at hp; subst hp; exact bool_ne hx) (by simp)
    simpa using this
 rcases hT with rfl | ⟨x, rfl⟩
 ·rw [zar]; exact put A' B' hA hB
 ·by_cases hx : f x = v
  ·exact put (A' ++ [x]) B' (fun p hp => by
    rcases zah.1 hp with hp | hp
    ·exact hA p hp
    ·simp only [zag] at hp; subst hp; exact hx) hB
  ·have := put A' (x :: B') hA (fun p hp => by
    rcases zad.1 hp with rfl | hp
    ·exact bool_ne hx
    ·exact hB p hp)
   simpa using this
theorem one_of {T : List P2} {P : P2 → Prop} (h : T = [] ∨ ∃ x, T = [x] ∧ P x) : T = [] ∨ ∃ x, T = [x] := h.imp id fun ⟨x, e, _⟩ => ⟨x, e⟩
theorem uni_ref {l : Lin} (hl : l.ok) (a c : Int) {rg : List P2} {h : P2} (hh : rg.head? = some h) (hu : Uni (thr a c) rg) : Uni (thr a c) (refL l (prs h rg)) := by
 obtain ⟨v, A, B, C, rfl, hA, hB, hC⟩ := hu
 have two : ∀ (v : Bool) (A B : List P2), (∀ p ∈ A, thr a c p = v) → (∀ p ∈ B, thr a c p = !v) → (A ++ B).head? = some h → Uni (thr a c) (refL l (prs h (A ++ B))) := fun v A B hA hB hh => by
  cases B with
  | nil =>
   rw [zar] at hh ⊢
   obtain ⟨A', T, e, g1, g2⟩ := run_ref hl a c v h A hA
   rw [e]
   have := uni_two (f := thr a c) (v := v) (A' := A') (T := T) (B' := []) (S := []) g1 (one_of g2) (by simp) (.inl rfl)
   simpa using this
  | cons b B =>
   rw [prs_app, refL_app]
   obtain ⟨A', T, e1, g1, g2⟩ := run_ref hl a c v b A hA
   obtain ⟨B', S, e2, k1, k2⟩ := run_ref hl a c (!v) h (b :: B) hB
   rw [e1, e2]
   exact uni_two g1 (one_of g2) k1 (one_of k2)
 cases C with
 | nil => rw [zar] at hh ⊢; exact two v A B hA hB hh
 | cons c0 C =>
  cases B with
  | nil =>
   have hAC : ∀ p ∈ A ++ (c0 :: C), thr a c p = v := fun p hp => (zah.1 hp).elim (hA p) (hC p)
   have := two v (A ++ (c0 :: C)) [] hAC (by simp) (by simpa using hh)
   simpa using this
  | cons b B =>
   cases A with
   | nil =>
    have := two (!v) (b :: B) (c0 :: C) hB (by rw [Bool.not_not]; exact hC) (by simpa using hh)
    simpa using this
   | cons a0 A =>
    have h0 : h = a0 := by simpa using hh.symm
    subst h0
    have hhv : thr a c h = v := hA h (by simp)
    rw [show (b :: B) ++ (c0 :: C) = b :: (B ++ c0 :: C) from rfl, prs_app, refL_app]
    rw [show b :: (B ++ c0 :: C) = (b :: B) ++ c0 :: C from rfl, prs_app, refL_app]
    obtain ⟨A', T, e1, g1, g2⟩ := run_ref hl a c v b (h :: A) hA
    obtain ⟨B', S, e2, k1, k2⟩ := run_ref hl a c (!v) c0 (b :: B) hB
    obtain ⟨C', Q, e3, q1, q2⟩ := run_ref hl a c v h (c0 :: C) hC
    rw [e1, e2, e3]
    have hCQ : ∀ p ∈ C' ++ Q, thr a c p = v := fun p hp => by
     rcases zah.1 hp with hp | hp
     ·exact q1 p hp
     ·rcases q2 with rfl | ⟨x, rfl, hx⟩
      ·cases hp
      ·simp only [zag] at hp
       subst hp
       rcases hx with hx | hx
       ·exact hx
       ·rw [hx, hhv]
    obtain ⟨A2, B2, hab, hA2, hB2⟩ : ∃ A2 B2, A' ++ T ++ B' = A2 ++ B2 ∧ (∀ p ∈ A2, thr a c p = v) ∧ (∀ p ∈ B2, thr a c p = !v) := by
     rcases one_of g2 with rfl | ⟨x, rfl⟩
     ·exact ⟨A', B', by simp, g1, k1⟩
     ·by_cases hx : thr a c x = v
      ·exact ⟨A' ++ [x], B', rfl, fun p hp => by
        rcases zah.1 hp with hp | hp
        ·exact g1 p hp
        ·simp only [zag] at hp; subst hp; exact hx, k1⟩
      ·exact ⟨A', x :: B', by simp, g1, fun p hp => by
        rcases zad.1 hp with rfl | hp
        ·exact bool_ne hx
        ·exact k1 p hp⟩
    obtain ⟨B3, C3, hbc, hB3, hC3⟩ : ∃ B3 C3, B2 ++ S ++ (C' ++ Q) = B3 ++ C3 ∧ (∀ p ∈ B3, thr a c p = !v) ∧ (∀ p ∈ C3, thr a c p = v) := by
     rcases one_of k2 with rfl | ⟨x, rfl⟩
     ·exact ⟨B2, C' ++ Q, by simp, hB2, hCQ⟩
     ·by_cases hx : thr a c x = v
      ·exact ⟨B2, x :: (C' ++ Q), by simp, hB2, fun p hp => by
        rcases zad.1 hp with rfl | hp
        ·exact hx
        ·exact hCQ p hp⟩
      ·exact ⟨B2 ++ [x], C' ++ Q, rfl, fun p hp => by
        rcases zah.1 hp with hp | hp
        ·exact hB2 p hp
        ·simp only [zag] at hp; subst hp; exact bool_ne hx, hCQ⟩
    have : A' ++ T ++ (B' ++ S ++ (C' ++ Q)) = A2 ++ (B3 ++ C3) := by
     rw [← hbc, ← zay, ← zay, ← zay, ← zay, hab]
     simp
    rw [this]
    exact uni_of hA2 hB3 hC3
theorem uni_filter {f g : P2 → Bool} {l : List P2} (h : Uni f l) : Uni f (l.filter g) := by
 obtain ⟨v, A, B, C, rfl, hA, hB, hC⟩ := h
 rw [zax, zax]
 exact uni_of (fun p hp => hA p (zbe.1 hp).1) (fun p hp => hB p (zbe.1 hp).1) fun p hp => hC p (zbe.1 hp).1
def Hump (rg : List P2) : Prop := ∀ a c, Uni (thr a c) rg
theorem hump_cut {l : Lin} (hl : l.ok) {rg : List P2} (h : Hump rg) : Hump (cutP l rg) := fun a c => by
 cases hr : rg.head? with
 | none =>
  have : rg = [] := by cases rg with
   | nil => rfl
   | cons => simp at hr
  subst this
  exact uni_of (v := true) (A := []) (B := []) (C := []) (by simp) (by simp) (by simp)
 | some p =>
  rw [cutP_filter l hl rg p hr]
  exact uni_filter (uni_ref hl a c hr (h a c))
theorem run_len {l : Lin} (nx : P2) (K : P2 → Bool) (hK : ∀ p q, betwP l p q = true → K p ≠ K q) (v : Bool) : ∀ (A : List P2), (∀ p ∈ A, K p = v) → ((refL l (prs nx A)).filter K).length ≤ (if v = true then A.length else 0) + (if K nx = v then 0 else 1) ∧ (A = [] → (refL l (prs nx A)).filter K = [])
 | [], _ => by simp [refL, prs]
 | [p], h => by
  have hp := h p (by simp)
  refine ⟨?_, by simp⟩
  rw [show refL l (prs nx [p]) = p :: insL l p nx by simp [refL, prs], List.filter_cons, hp]
  have hi : (insL l p nx).length ≤ if K nx = v then 0 else 1 := by
   unfold insL
   split
   ·rename_i hb
    have := hK p nx hb
    rw [if_neg (fun e => this (by rw [hp, e]))]
    simp
   ·simp
  have hf := List.length_filter_le K (insL l p nx)
  cases v with
  | true => simp only [if_true, zal, zbi]; omega
  | false => simp only [zbf, if_false]; omega
 | p :: q :: r, h => by
  have hp := h p (by simp)
  have hq := h q (by simp)
  obtain ⟨ih, _⟩ := run_len nx K hK v (q :: r) fun x hx => h x (by simp at hx ⊢; exact .inr hx)
  refine ⟨?_, by simp⟩
  have hi : insL l p q = [] := by
   unfold insL
   split
   ·rename_i hb
    exact absurd (hp.trans hq.symm) (hK p q hb)
   ·rfl
  rw [prs, show refL l ((p, q) :: prs nx (q :: r)) = p :: (insL l p q ++ refL l (prs nx (q :: r))) by simp [refL], hi, zav, List.filter_cons, hp]
  cases v with
  | true => simp only [if_true, zal] at ih ⊢; omega
  | false => simp only [zbf, if_false] at ih ⊢; exact ih
theorem cut_one {l : Lin} (hl : l.ok) {rg : List P2} (h : Hump rg) : (cutP l rg).length ≤ rg.length + 1 := by
 have hKd : ∀ p q, betwP l p q = true → keepsP l p ≠ keepsP l q := fun p q hb => by
  unfold betwP at hb
  unfold keepsP
  simp only [Bool.or_eq_true, Bool.and_eq_true, decide_eq_true_eq] at hb
  split
  ·rcases hb with hb | hb
   ·rw [decide_eq_false (by omega), decide_eq_true (by omega)]; simp
   ·rw [decide_eq_true (by omega), decide_eq_false (by omega)]; simp
  ·rcases hb with hb | hb
   ·rw [decide_eq_true (by omega), decide_eq_false (by omega)]; simp
   ·rw [decide_eq_false (by omega), decide_eq_true (by omega)]; simp
 have hu : Uni (keepsP l) rg := by
  unfold keepsP
  cases ha : l.above with
  | true =>
   obtain ⟨v, A, B, C, e, h1, h2, h3⟩ := h l.axis (l.at' - 1)
   have key : ∀ p, (if true = true then decide (sel l.axis p ≥ l.at') else decide (sel l.axis p ≤ l.at')) = !thr l.axis (l.at' - 1) p := fun p => by
    unfold thr
    rw [if_pos rfl]
    by_cases hq : sel l.axis p ≥ l.at'
    ·rw [decide_eq_true hq, decide_eq_false (by omega)]; rfl
    ·rw [decide_eq_false hq, decide_eq_true (by omega)]; rfl
   exact ⟨!v, A, B, C, e, fun p hp => (key p).trans (by rw [h1 p hp]), fun p hp => (key p).trans (by rw [h2 p hp]), fun p hp => (key p).trans (by rw [h3 p hp])⟩
  | false =>
   have := h l.axis l.at'
   exact this
 cases hr : rg.head? with
 | none =>
  have : rg = [] := by cases rg with
   | nil => rfl
   | cons => simp at hr
  subst this
  simp [cutP, cutN]
 | some h0 =>
  rw [cutP_filter l hl rg h0 hr]
  generalize keepsP l = K at hKd hu ⊢
  obtain ⟨v, A, B, C, rfl, hA, hB, hC⟩ := hu
  have two : ∀ (v : Bool) (A B : List P2), (∀ p ∈ A, K p = v) → (∀ p ∈ B, K p = !v) → (A ++ B).head? = some h0 → ((refL l (prs h0 (A ++ B))).filter K).length ≤ (A ++ B).length + 1 := fun v A B hA hB hh => by
   cases B with
   | nil =>
    rw [zar] at hh ⊢
    have := (run_len h0 K hKd v A hA).1
    have hv : K h0 = v := hA h0 (List.mem_of_mem_head? hh)
    rw [if_pos hv] at this
    split at this <;> omega
   | cons b B =>
    rw [prs_app, refL_app, zax, zaj, zaj]
    cases A with
    | nil =>
     have h1 : h0 = b := by simpa using hh.symm
     subst h1
     have k2 := (run_len h0 K hKd (!v) (h0 :: B) hB).1
     rw [if_pos (hB h0 (by simp))] at k2
     simp only [prs, refL, List.flatMap_nil, List.filter_nil, zbi]
     have : ((refL l (prs h0 (h0 :: B))).filter K).length ≤ (h0 :: B).length + 1 := by split at k2 <;> omega
     simp only [refL] at this
     omega
    | cons a0 A =>
     have h1 : h0 = a0 := by simpa using hh.symm
     subst h1
     have k1 := (run_len b K hKd v (h0 :: A) hA).1
     have k2 := (run_len h0 K hKd (!v) (b :: B) hB).1
     simp only [zal] at k1 k2 ⊢
     cases v <;> simp only [if_true, Bool.not_false, Bool.not_true, zbf, if_false] at k1 k2 <;> (split at k1 <;> split at k2 <;> omega)
  cases C with
  | nil => rw [zar] at hr ⊢; exact two v A B hA hB hr
  | cons c0 C =>
   cases B with
   | nil =>
    have := two v (A ++ (c0 :: C)) [] (fun p hp => (zah.1 hp).elim (hA p) (hC p)) (by simp) (by simpa using hr)
    simpa using this
   | cons b B =>
    cases A with
    | nil =>
     have := two (!v) (b :: B) (c0 :: C) hB (by rw [Bool.not_not]; exact hC) (by simpa using hr)
     simpa using this
    | cons a0 A =>
     have h1 : h0 = a0 := by simpa using hr.symm
     subst h1
     rw [show (b :: B) ++ (c0 :: C) = b :: (B ++ c0 :: C) from rfl, prs_app, refL_app, zax]
     rw [show b :: (B ++ c0 :: C) = (b :: B) ++ c0 :: C from rfl, prs_app, refL_app, zax]
     have k1 := (run_len b K hKd v (h0 :: A) hA).1
     have k2 := (run_len c0 K hKd (!v) (b :: B) hB).1
     have k3 := (run_len h0 K hKd v (c0 :: C) hC).1
     rw [if_pos (hA h0 (by simp))] at k3
     simp only [zaj, zal] at k1 k2 k3 ⊢
     cases v <;> simp only [if_true, Bool.not_false, Bool.not_true, zbf, if_false] at k1 k2 k3 <;> (split at k1 <;> split at k2 <;> omega)
theorem box_ten {lo hi : P2} {rg : List P2} (h : Hump rg) : ∀ i, i ≤ 4 → Hump (boxN lo hi rg i) ∧ (boxN lo hi rg i).length ≤ rg.length + i
 | 0, _ => ⟨h, by simp [boxN]⟩
 | i + 1, hi' => by
  obtain ⟨h1, h2⟩ := box_ten (lo := lo) (hi := hi) h i (by omega)
  obtain ⟨l, hl⟩ : ∃ l, (linesB lo hi)[i]? = some l := ⟨(linesB lo hi)[i]'(by simp [linesB]; omega), by simp [linesB, show i < 4 by omega]⟩
  have hok : l.ok := by
   have := zam hl
   simp only [linesB, zad, List.not_mem_nil, or_false] at this
   rcases this with rfl | rfl | rfl | rfl
   ·exact .inl rfl
   ·exact .inl rfl
   ·exact .inr rfl
   ·exact .inr rfl
  have e : boxN lo hi rg (i + 1) = cutP l (boxN lo hi rg i) := by
   unfold boxN
   rw [zao, hl, List.foldl_append]
   rfl
  rw [e]
  have := cut_one hok h1
  exact ⟨hump_cut hok h1, by omega⟩

noncomputable def cmp_isNaN_int64_pc : PC :=
  (.seq (.reg [p_s 2 (.mov (.c (.r (.v (.bool false)))))])
 (.seq (.reg [p_m 3 0, p_m 4 0, p_s 5 (.bin .neq (.t 3) (.t 4)), p_m 2 5])
 .ret))
theorem cmp_isNaN_int64_triple : Fun P0 165 1 [(2, false, none)] cmp_isNaN_int64_pc := fun_mk Go.Proofs.Tryz.func165 rfl (by decide) (by kernel_rfl) (by decide) rfl (by kernel_rfl) (by kernel_rfl) (by decide)
noncomputable def cmp_Compare_int64_pc : PC :=
  (.seq (.reg [p_s 4 (.mov (o_i 0))])
 (.seq (.reg [p_m 7 0, p_c 8 1 165 [.t 7], p_m 5 8])
 (.seq (.reg [p_m 9 1, p_c 10 2 165 [.t 9], p_m 6 10])
 (.seq (.seq (.reg [p_m 11 5])
 (.cond (.t 11)
 (.seq (.seq (.reg [p_m 12 6])
 (.cond (.t 12)
 (.seq (.reg [p_s 4 (.mov (o_i 0))])
 .ret)
 .skip))
 (.seq (.reg [p_s 4 (.mov (o_i (-1)))])
 .ret))
 .skip))
 (.seq (.seq (.reg [p_m 13 6])
 (.cond (.t 13)
 (.seq (.reg [p_s 4 (.mov (o_i 1))])
 .ret)
 .skip))
 (.seq (.seq (.reg [p_m 14 0, p_m 15 1, p_s 16 (.bin .lss (.t 14) (.t 15))])
 (.cond (.t 16)
 (.seq (.reg [p_s 4 (.mov (o_i (-1)))])
 .ret)
 .skip))
 (.seq (.seq (.reg [p_m 17 0, p_m 18 1, p_s 19 (.bin .gtr (.t 17) (.t 18))])
 (.cond (.t 19)
 (.seq (.reg [p_s 4 (.mov (o_i 1))])
 .ret)
 .skip))
 (.seq (.reg [p_s 4 (.mov (o_i 0))])
 .ret))))))))
theorem cmp_Compare_int64_triple : Fun P0 137 2 [(4, false, none)] cmp_Compare_int64_pc := fun_mk Go.Proofs.Tryz.func137 rfl (by decide) (by kernel_rfl) (by decide) rfl (by kernel_rfl) (by kernel_rfl) (by decide)
noncomputable def slices_Compare_int64_int64_pc : PC :=
  (.seq (.reg [p_s 4 (.mov (o_i 0))])
 (.seq (.seq (.reg [p_m 9 0, p_s 10 (.len false (.t 9)), p_s 11 (.mov (o_i 0))])
 (.block 0 (.loop (.seq (.reg [p_s 12 (.bin .lss (.t 11) (.t 10))])
 (.seq (.cond (.t 12)
 .skip
 (.exit 0))
 (.seq (.block 1 (.seq (.reg [p_m 13 11, p_s 14 (.ia 1 (.v (.int .i64 0)) (.t 9) (.t 11)), p_s 15 (.ld none (.t 14)), p_m 5 13, p_m 6 15])
 (.seq (.seq (.reg [p_m 16 5, p_m 17 1, p_s 18 (.len false (.t 17)), p_s 19 (.bin .geq (.t 16) (.t 18))])
 (.cond (.t 19)
 (.seq (.reg [p_s 4 (.mov (o_i 1))])
 .ret)
 .skip))
 (.seq (.reg [p_m 20 1, p_m 21 5, p_s 22 (.ia 1 (.v (.int .i64 0)) (.t 20) (.t 21)), p_s 23 (.ld none (.t 22)), p_m 7 23])
 (.seq (.reg [p_m 24 6, p_m 25 7, p_c 26 1 137 [.t 24, .t 25], p_m 8 26])
 (.seq (.reg [p_m 27 8, p_s 28 (.bin .neq (.t 27) (o_i 0))])
 (.cond (.t 28)
 (.seq (.reg [p_m 29 8, p_m 4 29])
 .ret)
 .skip)))))))
 (.reg [p_s 30 (.bin .add (.t 11) (o_i 1)), p_m 11 30])))))))
 (.seq (.seq (.reg [p_m 31 0, p_s 32 (.len false (.t 31)), p_m 33 1, p_s 34 (.len false (.t 33)), p_s 35 (.bin .lss (.t 32) (.t 34))])
 (.cond (.t 35)
 (.seq (.reg [p_s 4 (.mov (o_i (-1)))])
 .ret)
 .skip))
 (.seq (.reg [p_s 4 (.mov (o_i 0))])
 .ret))))
theorem slices_Compare_int64_int64_triple : Fun P0 101 2 [(4, false, none)] slices_Compare_int64_int64_pc := fun_mk Go.Proofs.Tryz.func101 rfl (by decide) (by kernel_rfl) (by decide) rfl (by kernel_rfl) (by kernel_rfl) (by decide)
noncomputable def hull_point_against_pc : PC :=
  (.seq (.reg [p_a 2 (.box (.t 0)), p_a 3 (.box (.t 1)), p_s 4 (.mov (o_i 0))])
 (.seq (.drw [p_s 5 (.sla 2 (.t 2)), p_s 6 (.sla 2 (.t 3)), p_c 7 1 101 [.t 5, .t 6], p_m 4 7]
 [[], [], [0, 1], [0, 1, 2]])
 .ret))
theorem hull_point_against_triple : Fun P0 61 2 [(4, false, none)] hull_point_against_pc := fun_mk Go.Proofs.Tryz.func61 rfl (by decide) (by kernel_rfl) (by decide) rfl (by kernel_rfl) (by kernel_rfl) (by decide)
def cmpI (x y : Int) : Int := if x < y then -1 else if y < x then 1 else 0
theorem nan_t (x : Int) : Triple P0 165 [int .i64 x] [] (bl false) [] := by
 refine cmp_isNaN_int64_triple rfl (by decide) ?_
 have h : (x != x) = false := by simp
 simp only [cmp_isNaN_int64_pc, h, push_cast, ↓reduceIte, reduceCtorEq, zB, zE, zA, zS, zL, zD, zM]
theorem cmpI_t (x y : Int) : Triple P0 137 [int .i64 x, int .i64 y] [] (int .i64 (cmpI x y)) [] := by
 refine cmp_Compare_int64_triple rfl (by decide) ?_
 unfold cmpI
 simp only [cmp_Compare_int64_pc, push_cast, ↓reduceIte, reduceCtorEq, zB, zE, zA, zS, zL, zD, zM]
 refine call_mk (nan_t x) rfl trivial ?_
 simp only [push_cast, ↓reduceIte, reduceCtorEq, zB, zE, zA, zS, zL, zD, zM]
 refine call_mk (nan_t y) rfl trivial ?_
 simp only [push_cast, ↓reduceIte, reduceCtorEq, zB, zE, zA, zS, zL, zD, zM]
 refine cnd_mk (fun h1 => ?_) (fun h1 => ?_)
 ·rw [if_pos (of_decide_eq_true h1)]
  simp only [push_cast, ↓reduceIte, reduceCtorEq, zB, zE, zA, zS, zL, zD, zM]
 ·have h1 := of_decide_eq_false h1
  rw [if_neg h1]
  simp only [push_cast, ↓reduceIte, reduceCtorEq, zB, zE, zA, zS, zL, zD, zM]
  refine cnd_mk (fun h2 => ?_) (fun h2 => ?_)
  ·rw [if_pos (of_decide_eq_true h2)]
   simp only [push_cast, ↓reduceIte, reduceCtorEq, zB, zE, zA, zS, zL, zD, zM]
  ·rw [if_neg (of_decide_eq_false h2)]
   simp only [push_cast, ↓reduceIte, reduceCtorEq, zB, zE, zA, zS, zL, zD, zM]
def cmpP (p q : P2) : Int := if cmpI p.1 q.1 ≠ 0 then cmpI p.1 q.1 else cmpI p.2 q.2
theorem scmp_t (p q : P2) : Triple P0 101 [.own 1000000 0 0 2, .own 1000001 0 0 2] [.box [int .i64 p.1, int .i64 p.2], .box [int .i64 q.1, int .i64 q.2]] (int .i64 (cmpP p q)) [.box [int .i64 p.1, int .i64 p.2], .box [int .i64 q.1, int .i64 q.2]] := by
 refine slices_Compare_int64_int64_triple rfl (by simp) ?_
 simp only [slices_Compare_int64_int64_pc, push_cast, ↓reduceIte, reduceCtorEq, zB, zE, zA, zS, zL, zD, zM]
 refine run_loop [(0, false), (1, false), (9, false), (10, false), (11, false)] (fun vs pos los => ∃ i : Nat, i ≤ 2 ∧ (1 ≤ i → cmpI p.1 q.1 = 0) ∧ (2 ≤ i → cmpI p.2 q.2 = 0) ∧ vs = [.own 1000000 0 0 2, .own 1000001 0 0 2, .own 1000000 0 0 2, int .i64 2, int .i64 i] ∧ pos = [.box [int .i64 p.1, int .i64 p.2], .box [int .i64 q.1, int .i64 q.2]] ∧ los = [])
  (fun vs _ _ => match vs with | [_, _, _, _, .r (.v (.int _ a))] => (2 - a).toNat | _ => 0) rfl ?_ ?_
 ·simp only [push_cast, ↓reduceIte, reduceCtorEq, zB, zE, zA, zS, zL, zD, zM]
  exact ⟨0, by omega, by omega, by omega, rfl⟩
 ·rintro vs pos los ⟨i, hi, k1, k2, rfl, rfl, rfl⟩
  have d : ∀ k : Nat, k < 2 → decide (((k : Nat) : Int) < 2) = true ∧ decide (((k : Nat) : Int) ≥ 2) = false := fun k hk => ⟨decide_eq_true (by omega), decide_eq_false (by omega)⟩
  rcases (show i = 0 ∨ i = 1 ∨ i = 2 by omega) with rfl | rfl | rfl
  ·have d1 := (d 0 (by omega)).1
   have d2 := (d 0 (by omega)).2
   have t0 : Int.toNat ((0 : Nat) : Int) = 0 := rfl
   have w1 : IntKind.i64.wrap (((0 : Nat) : Int) + 1) = ((1 : Nat) : Int) := rfl
   have z1 : decide ((0 : Int) < 2) = true := rfl
   have z2 : decide ((0 : Int) ≥ 2) = false := rfl
   have z0 : Int.toNat (0 : Int) = 0 := rfl
   have zw : IntKind.i64.wrap ((0 : Int) + 1) = 1 := rfl
   simp only [z1, z2, z0, zw, push_cast, ↓reduceIte, reduceCtorEq, zB, zE, zA, zS, zL, zD, zM]
   repeat refine And.intro (by first | decide | omega | exact fun _ => by decide | (simp +contextual; done) | kernel_rfl) ?_
   refine call_mk (cmpI_t p.1 q.1) rfl trivial ?_
   simp only [push_cast, ↓reduceIte, reduceCtorEq, zB, zE, zA, zS, zL, zD, zM]
   refine cnd_mk (fun hc => ?_) (fun hc => ?_)
   ·have hc : cmpI p.1 q.1 ≠ 0 := by simpa using hc
    simp only [push_cast, ↓reduceIte, reduceCtorEq, zB, zE, zA, zS, zL, zD, zM]
    unfold cmpP
    rw [if_pos hc]
   ·have hc : cmpI p.1 q.1 = 0 := by simpa using hc
    simp only [zw, push_cast, ↓reduceIte, reduceCtorEq, zB, zE, zA, zS, zL, zD, zM]
    exact ⟨⟨1, by omega, fun _ => hc, by omega, rfl⟩, by omega⟩
  ·have z1 : decide ((1 : Int) < 2) = true := rfl
   have z2 : decide ((1 : Int) ≥ 2) = false := rfl
   have z0 : Int.toNat (1 : Int) = 1 := rfl
   have zw : IntKind.i64.wrap ((1 : Int) + 1) = 2 := rfl
   simp only [z1, z2, z0, zw, push_cast, ↓reduceIte, reduceCtorEq, zB, zE, zA, zS, zL, zD, zM]
   repeat refine And.intro (by first | decide | omega | exact fun _ => by decide | (simp +contextual; done) | kernel_rfl) ?_
   refine call_mk (cmpI_t p.2 q.2) rfl trivial ?_
   simp only [push_cast, ↓reduceIte, reduceCtorEq, zB, zE, zA, zS, zL, zD, zM]
   refine cnd_mk (fun hc => ?_) (fun hc => ?_)
   ·have hc : cmpI p.2 q.2 ≠ 0 := by simpa using hc
    simp only [push_cast, ↓reduceIte, reduceCtorEq, zB, zE, zA, zS, zL, zD, zM]
    unfold cmpP
    rw [if_neg (by rw [k1 (by omega)]; simp)]
   ·have hc : cmpI p.2 q.2 = 0 := by simpa using hc
    simp only [zw, push_cast, ↓reduceIte, reduceCtorEq, zB, zE, zA, zS, zL, zD, zM]
    exact ⟨⟨2, by omega, fun _ => k1 (by omega), fun _ => hc, rfl⟩, by omega⟩
  ·have z1 : decide ((2 : Int) < 2) = false := rfl
   simp only [z1, push_cast, ↓reduceIte, reduceCtorEq, zB, zE, zA, zS, zL, zD, zM]
   unfold cmpP
   rw [if_neg (by rw [k1 (by omega)]; simp), k2 (by omega)]
theorem against_t (p q : P2) : Triple P0 61 [pv2 p, pv2 q] [] (int .i64 (cmpP p q)) [] := by
 have hmax := maxLen_big
 refine hull_point_against_triple rfl (by decide) ?_
 simp only [hull_point_against_pc, pv2, pnt, push_cast, ↓reduceIte, reduceCtorEq, zB, zE, zA, zS, zL, zD, zM]
 refine ⟨by omega, by omega, ?_⟩
 refine dcall_mk (scmp_t p q) rfl ⟨rfl, rfl, trivial⟩ ?_
 simp only [push_cast, ↓reduceIte, reduceCtorEq, zB, zE, zA, zS, zL, zD, zM]
 kernel_rfl

noncomputable def isrtc_hull_point_pc : PC :=
  (.seq (.reg [p_m 10 1, p_s 11 (.bin .add (.t 10) (o_i 1)), p_m 8 11])
 (.block 0 (.loop (.seq (.seq (.reg [p_m 12 8, p_m 13 2, p_s 14 (.bin .lss (.t 12) (.t 13))])
 (.cond (.t 14)
 .skip
 (.exit 0)))
 (.seq (.block 1 (.seq (.reg [p_m 17 8, p_m 9 17])
 (.block 2 (.loop (.seq (.seq (.drw [p_m 18 9, p_m 19 1, p_s 20 (.bin .gtr (.t 18) (.t 19)), p_m 21 20, p_g 22 21 true (.mov (.t 3)), p_g 23 21 true (.mov (.t 0)), p_g 24 21 true (.mov (.t 9)), p_g 25 21 true (.ia 2 (.agg [(.v (.int .i64 0)), (.v (.int .i64 0))]) (.t 23) (.t 24)),
 p_g 26 21 true (.ld (some 2) (.t 25)), p_g 27 21 true (.mov (.t 0)), p_g 28 21 true (.mov (.t 9)), p_g 29 21 true (.bin .sub (.t 28) (o_i 1)), p_g 30 21 true (.ia 2 (.agg [(.v (.int .i64 0)), (.v (.int .i64 0))]) (.t 27) (.t 29)),
 p_g 31 21 true (.ld (some 2) (.t 30)), ⟨(some 32), (some (21, true)), 1, .callv (.t 22) [(.t 26), (.t 31)]⟩, p_g 33 21 true (.bin .lss (.t 32) (o_i 0)), p_s 34 (.pick (.t 21) (.t 33) (.c (.r (.v (.bool false)))))]
 [[], [], [0, 1], [0, 1, 2], [0, 1, 2, 3], [0, 1, 2, 3], [0, 1, 2, 3], [0, 1, 2, 3, 5, 6], [0, 1, 2, 3, 5, 6, 7], [0, 1, 2, 3], [0, 1, 2, 3], [0, 1, 2, 3, 10], [0, 1, 2, 3, 9, 10, 11], [0, 1, 2, 3, 9, 10, 11, 12], [0, 1, 2, 3, 4, 5, 6, 7, 8, 9, 10, 11, 12, 13], [0, 1, 2, 3, 4, 5, 6, 7, 8, 9, 10, 11, 12, 13, 14], [0, 1, 2, 3, 4, 5, 6, 7, 8, 9, 10, 11, 12, 13, 14, 15]])
 (.cond (.t 34)
 .skip
 (.exit 2)))
 (.seq (.block 3 (.drw [p_m 37 0, p_m 38 9, p_m 39 0, p_m 40 9, p_s 41 (.bin .sub (.t 40) (o_i 1)), p_m 42 0, p_m 43 9, p_s 44 (.bin .sub (.t 43) (o_i 1)), p_s 45 (.ia 2 (.agg [(.v (.int .i64 0)), (.v (.int .i64 0))]) (.t 42) (.t 44)),
 p_s 46 (.ld (some 2) (.t 45)), p_m 47 0, p_m 48 9, p_s 49 (.ia 2 (.agg [(.v (.int .i64 0)), (.v (.int .i64 0))]) (.t 47) (.t 48)), p_s 50 (.ld (some 2) (.t 49)),
 p_s 51 (.ia 2 (.agg [(.v (.int .i64 0)), (.v (.int .i64 0))]) (.t 37) (.t 38)), ⟨none, none, 0, .act (.st 2 (.t 51) (.t 46))⟩, p_s 52 (.ia 2 (.agg [(.v (.int .i64 0)), (.v (.int .i64 0))]) (.t 39) (.t 41)),
 ⟨none, none, 0, .act (.st 2 (.t 52) (.t 50))⟩]
 [[], [], [], [], [3], [], [], [6], [5, 6, 7], [5, 6, 7, 8], [], [], [10, 11], [10, 11, 12], [0, 1, 5, 6, 7, 8, 9, 10, 11, 12, 13], [0, 1, 5, 6, 7, 8, 9, 10, 11, 12, 13, 14], [0, 1, 2, 3, 4, 5, 6, 7, 8, 9, 10, 11, 12, 13, 14, 15], [0, 1, 2, 3, 4, 5, 6, 7, 8, 9, 10, 11, 12, 13, 14, 15, 16]]))
 (.reg [p_m 35 9, p_s 36 (.bin .sub (.t 35) (o_i 1)), p_m 9 36])))))))
 (.reg [p_m 15 8, p_s 16 (.bin .add (.t 15) (o_i 1)), p_m 8 16]))))))
theorem isrtc_hull_point_triple : Fun P0 127 4 [] isrtc_hull_point_pc := fun_mk Go.Proofs.Tryz.func127 rfl (by decide) (by kernel_rfl) (by decide) rfl (by kernel_rfl) (by kernel_rfl) (by decide)
def ltP (p q : P2) : Bool := decide (cmpP p q < 0)
def insR (x : P2) : List P2 → List P2
 | [] => [x]
 | e :: r => if ltP x e = true then e :: insR x r else x :: e :: r
def srtR (l : List P2) : List P2 := l.foldl (fun s x => insR x s) []
def sortP (l : List P2) : List P2 := (srtR l).reverse
theorem insR_len (x : P2) : ∀ s, (insR x s).length = s.length + 1
 | [] => rfl
 | e :: r => by
  rw [insR]
  split
  ·simp [insR_len x r]
  ·simp
theorem srtR_snoc (l : List P2) (p : P2) : srtR (l ++ [p]) = insR p (srtR l) := by simp [srtR]
theorem srtR_len (l : List P2) : (srtR l).length = l.length := by
 refine snoc_ind (P := fun l => (srtR l).length = l.length) rfl (fun l p ih => ?_) l
 rw [srtR_snoc, insR_len, ih, zaj]
 rfl
theorem sortP_len (l : List P2) : (sortP l).length = l.length := by rw [sortP, List.length_reverse, srtR_len]
def agF : AV := .fn (.func 61) [] 0
def rowQ (l : List P2) : Ob := .row 2 (pnt 0 0) false true (l.map ptR)
theorem set_two (A T : List P2) (e x : P2) : (((A ++ e :: x :: T).map ptR).set (A.length + 1) (ptR e)).set A.length (ptR x) = (A ++ x :: e :: T).map ptR := by
 have h1 : (A ++ e :: x :: T).set (A.length + 1) e = A ++ e :: e :: T := by simp
 have h2 : (A ++ e :: e :: T).set A.length x = A ++ x :: e :: T := by simp
 rw [← zaz, h1, ← zaz, h2]
theorem get_e (A T : List P2) (e : P2) (z : RV) : ((A ++ e :: T).map ptR).getD A.length z = ptR e := by
 rw [zak]; simp
theorem get_x (A T : List P2) (e x : P2) (z : RV) : ((A ++ e :: x :: T).map ptR).getD (A.length + 1) z = ptR x := by
 rw [zak]; simp
set_option maxHeartbeats 4000000 in
theorem isrt_t (l : List P2) (hl : 1 ≤ l.length ∧ l.length ≤ 1000) : Triple P0 127 [.own 1000000 0 0 l.length, int .i64 0, int .i64 l.length, agF] [rowQ l] (.tup []) [rowQ (sortP l)] := by
 refine isrtc_hull_point_triple rfl (by simp) ?_
 have hfn : isFn P0 61 = true := rfl
 have w0 : IntKind.i64.wrap ((0 : Int) + 1) = 1 := rfl
 simp only [isrtc_hull_point_pc, agF, rowQ, w0, push_cast, ↓reduceIte, reduceCtorEq, zB, zE, zA, zS, zL, zD, zM]
 refine run_loop [(0, false), (1, false), (2, false), (3, false), (8, false)] (fun vs pos los => ∃ i : Nat, 1 ≤ i ∧ i ≤ l.length ∧ vs = [.own 1000000 0 0 l.length, int .i64 0, int .i64 l.length, agF, int .i64 i] ∧ pos = [rowQ (sortP (l.take i) ++ l.drop i)] ∧ los = [])
  (fun vs _ _ => match vs with | [_, _, _, _, .r (.v (.int _ a))] => (l.length - a).toNat | _ => 0) rfl ?_ ?_
 ·simp only [push_cast, ↓reduceIte, reduceCtorEq, zB, zE, zA, zS, zL, zD, zM]
  obtain ⟨p, r, rfl⟩ : ∃ p r, l = p :: r := by
   cases l with
   | nil => simp at hl
   | cons p r => exact ⟨p, r, rfl⟩
  exact ⟨1, by omega, by omega, rfl, rfl⟩
 ·rintro vs pos los ⟨i, i1, i2, rfl, rfl, rfl⟩
  simp only [agF, rowQ, push_cast, ↓reduceIte, reduceCtorEq, zB, zE, zA, zS, zL, zD, zM]
  refine cnd_mk (fun hi => ?_) (fun hi => ?_)
  ·have hi : i < l.length := by have := of_decide_eq_true hi; omega
   have wi : IntKind.i64.wrap ((i : Int) + 1) = (i : Int) + 1 := wrap_id (by omega)
   obtain ⟨x, hx⟩ : ∃ x, l[i] = x := ⟨_, rfl⟩
   have htk : l.take (i + 1) = l.take i ++ [x] := by rw [zbl hi, hx]
   have hdr : l.drop i = x :: l.drop (i + 1) := by rw [List.drop_eq_getElem_cons hi, hx]
   obtain ⟨s, hs⟩ : ∃ s, srtR (l.take i) = s := ⟨_, rfl⟩
   have hsl : s.length = i := by rw [← hs, srtR_len, List.length_take]; omega
   have hsort : sortP (l.take i) = s.reverse := by rw [sortP, hs]
   have hsort2 : sortP (l.take (i + 1)) = (insR x s).reverse := by rw [sortP, htk, srtR_snoc, hs]
   obtain ⟨D, hD⟩ : ∃ D, l.drop (i + 1) = D := ⟨_, rfl⟩
   rw [hsort, hdr, hD]
   simp only [push_cast, ↓reduceIte, reduceCtorEq, zB, zE, zA, zS, zL, zD, zM]
   refine run_loop [(0, false), (1, false), (2, false), (3, false), (8, false), (9, false)] (fun vs pos los => ∃ (m r : List P2), s = m ++ r ∧ insR x s = m ++ insR x r ∧ vs = [.own 1000000 0 0 l.length, int .i64 0, int .i64 l.length, agF, int .i64 i, int .i64 r.length] ∧ pos = [rowQ (r.reverse ++ x :: (m.reverse ++ D))] ∧ los = [])
    (fun vs _ _ => match vs with | [_, _, _, _, _, .r (.v (.int _ a))] => a.toNat | _ => 0) rfl ?_ ?_
   ·simp only [agF, rowQ, push_cast, ↓reduceIte, reduceCtorEq, zB, zE, zA, zS, zL, zD, zM]
    exact ⟨[], s, rfl, rfl, by rw [hsl], rfl⟩
   ·rintro vs pos los ⟨m, r, hm, hins, rfl, rfl, rfl⟩
    have hend : ∀ T, T = r.reverse ++ x :: (m.reverse ++ D) → insR x r = x :: r → T = sortP (l.take (i + 1)) ++ D := fun T hT hr => by
     rw [hT, hsort2, hins, hr]
     simp
    cases r with
    | nil =>
     have z0 : decide ((0 : Int) > 0) = false := rfl
     simp only [agF, rowQ, z0, wi, push_cast, ↓reduceIte, reduceCtorEq, zB, zE, zA, zS, zL, zD, zM]
     refine And.intro (by kernel_rfl) ⟨⟨i + 1, by omega, by omega, by simp, ?_⟩, by omega⟩
     rw [hend _ rfl rfl, hD]
    | cons e r =>
     have hrl : r.length < i := by rw [← hsl, hm]; simp; omega
     have z1 : decide (((r.length : Nat) : Int) + 1 > 0) = true := decide_eq_true (by omega)
     have wj : IntKind.i64.wrap (((r.length : Nat) : Int) + 1 - 1) = (r.length : Int) := by rw [wrap_id (by omega)]; omega
     have hag := against_t x e
     have hR : (e :: r).reverse ++ x :: (m.reverse ++ D) = r.reverse ++ e :: x :: (m.reverse ++ D) := by simp
     obtain ⟨T, hT⟩ : ∃ T, m.reverse ++ D = T := ⟨_, rfl⟩
     obtain ⟨A, hA⟩ : ∃ A, r.reverse = A := ⟨_, rfl⟩
     have hAl : A.length = r.length := by rw [← hA]; simp
     rw [hR, hT, hA]
     have ge := get_e A (x :: T) e
     have gx := get_x A T e x
     rw [hAl] at ge gx
     have hpe : ptR e = .agg [.v (.int .i64 e.1), .v (.int .i64 e.2)] := rfl
     have hpx : ptR x = .agg [.v (.int .i64 x.1), .v (.int .i64 x.2)] := rfl
     simp only [agF, rowQ, z1, wj, ge, gx, hpe, hpx, hfn, zae, zaf, zaa, push_cast, ↓reduceIte, reduceCtorEq, zB, zE, zA, zS, zL, zD, zM]
     refine ⟨⟨by omega, by omega⟩, ⟨by omega, by omega⟩, ?_⟩
     refine dcall_as (as' := [pv2 x, pv2 e]) rfl ?_
     refine dcall_mk hag rfl trivial ?_
     simp only [agF, rowQ, z1, wj, ge, gx, hpe, hpx, hfn, zae, zaf, zaa, push_cast, ↓reduceIte, reduceCtorEq, zB, zE, zA, zS, zL, zD, zM]
     refine And.intro (by kernel_rfl) ?_
     refine cnd_mk (fun hc => ?_) (fun hc => ?_)
     ·have hlt : ltP x e = true := hc
      have hset := set_two A T e x
      rw [hAl, hpe, hpx] at hset
      have ge2 : ∀ z, (((A ++ e :: x :: T).map ptR).set (r.length + 1) (.agg [.v (.int .i64 e.1), .v (.int .i64 e.2)])).getD r.length z = .agg [.v (.int .i64 e.1), .v (.int .i64 e.2)] := fun z => by
       rw [zak, List.getElem?_set_ne (by omega), ← zak, ge]
       exact hpe
      simp only [agF, rowQ, wj, ge, gx, ge2, hpe, hpx, hset, zae, zaf, zaa, push_cast, ↓reduceIte, reduceCtorEq, zB, zE, zA, zS, zL, zD, zM]
      repeat refine And.intro (by first | exact ⟨by omega, by omega⟩ | kernel_rfl) ?_
      refine ⟨⟨m ++ [e], r, by rw [hm]; simp, by rw [hins, insR, if_pos hlt]; simp, by simp, ?_⟩, by omega⟩
      rw [← hA, ← hT]
      simp
     ·have hlt : ltP x e = false := hc
      simp only [wi, push_cast, ↓reduceIte, reduceCtorEq, zB, zE, zA, zS, zL, zD, zM]
      refine ⟨⟨i + 1, by omega, by omega, by simp, ?_⟩, by omega⟩
      have := hend (A ++ e :: x :: T) (by rw [← hA, ← hT]; simp) (by rw [insR, hlt]; rfl)
      rw [this, hD]
  ·have hi : i = l.length := by have := of_decide_eq_false hi; omega
   subst hi
   simp only [push_cast, ↓reduceIte, reduceCtorEq, zB, zE, zA, zS, zL, zD, zM]
   rw [zbg, List.drop_length, zar]

noncomputable def bits_Len64_pc : PC :=
  (.seq (.reg [p_s 2 (.mov (o_i 0))])
 (.seq (.seq (.reg [p_m 3 0, p_s 4 (.bin .geq (.t 3) (.c (.r (.v (.int .u64 4294967296)))))])
 (.cond (.t 4)
 (.seq (.reg [p_m 5 0, p_s 6 (.bin .shr (.t 5) (.c (.r (.v (.int .u64 32))))), p_m 0 6])
 (.reg [p_s 2 (.mov (o_i 32))]))
 .skip))
 (.seq (.seq (.reg [p_m 7 0, p_s 8 (.bin .geq (.t 7) (.c (.r (.v (.int .u64 65536)))))])
 (.cond (.t 8)
 (.seq (.reg [p_m 9 0, p_s 10 (.bin .shr (.t 9) (.c (.r (.v (.int .u64 16))))), p_m 0 10])
 (.reg [p_m 11 2, p_s 12 (.bin .add (.t 11) (o_i 16)), p_m 2 12]))
 .skip))
 (.seq (.seq (.reg [p_m 13 0, p_s 14 (.bin .geq (.t 13) (.c (.r (.v (.int .u64 256)))))])
 (.cond (.t 14)
 (.seq (.reg [p_m 15 0, p_s 16 (.bin .shr (.t 15) (.c (.r (.v (.int .u64 8))))), p_m 0 16])
 (.reg [p_m 17 2, p_s 18 (.bin .add (.t 17) (o_i 8)), p_m 2 18]))
 .skip))
 (.seq (.reg [p_m 19 2, p_m 20 0, p_s 21 (.conv .u8 (.t 20)), p_s 22 (.ixs (.c (.r (.v (.string ⟨#[0, 1, 2, 2, 3, 3, 3, 3, 4, 4, 4, 4, 4, 4, 4, 4, 5, 5, 5, 5, 5, 5, 5, 5, 5, 5, 5, 5, 5, 5, 5, 5, 6, 6, 6, 6, 6, 6, 6, 6, 6, 6, 6, 6, 6, 6, 6, 6, 6, 6, 6, 6, 6, 6, 6, 6, 6, 6, 6, 6, 6, 6, 6, 6, 7, 7, 7, 7, 7, 7, 7, 7, 7, 7, 7, 7, 7, 7, 7, 7, 7, 7, 7, 7, 7, 7, 7, 7, 7, 7, 7, 7, 7, 7, 7, 7, 7, 7, 7, 7, 7, 7, 7, 7, 7, 7, 7, 7, 7, 7, 7, 7, 7, 7, 7, 7, 7, 7, 7, 7, 7, 7, 7, 7, 7, 7, 7, 7, 8, 8, 8, 8, 8, 8, 8, 8, 8, 8, 8, 8, 8, 8, 8, 8, 8, 8, 8, 8, 8, 8, 8, 8, 8, 8, 8, 8, 8, 8, 8, 8, 8, 8, 8, 8, 8, 8, 8, 8, 8, 8, 8, 8, 8, 8, 8, 8, 8, 8, 8, 8, 8, 8, 8, 8, 8, 8, 8, 8, 8, 8, 8, 8, 8, 8, 8, 8, 8, 8, 8, 8, 8, 8, 8, 8, 8, 8, 8, 8, 8, 8, 8, 8, 8, 8, 8, 8, 8, 8, 8, 8, 8, 8, 8, 8, 8, 8, 8, 8, 8, 8, 8, 8, 8, 8, 8, 8, 8, 8, 8, 8, 8, 8, 8, 8, 8, 8, 8, 8, 8, 8, 8, 8, 8, 8, 8, 8]⟩)))) (.t 21)),
 p_s 23 (.conv .i64 (.t 22)), p_s 24 (.bin .add (.t 19) (.t 23)), p_m 2 24])
 .ret)))))
theorem bits_Len64_triple : Fun P0 136 1 [(2, false, none)] bits_Len64_pc := fun_mk Go.Proofs.Tryz.func136 rfl (by decide) (by kernel_rfl) (by decide) rfl (by kernel_rfl) (by kernel_rfl) (by decide)
noncomputable def bits_Len_pc : PC :=
  (.seq (.reg [p_s 2 (.mov (o_i 0))])
 (.seq (.cond (.c (.r (.v (.bool false))))
 (.seq (.reg [p_m 3 0, p_s 4 (.conv .u32 (.t 3)), p_c 5 1 135 [.t 4], p_m 2 5])
 .ret)
 .skip)
 (.seq (.reg [p_m 6 0, p_c 7 2 136 [.t 6], p_m 2 7])
 .ret)))
theorem bits_Len_triple : Fun P0 100 1 [(2, false, none)] bits_Len_pc := fun_mk Go.Proofs.Tryz.func100 rfl (by decide) (by kernel_rfl) (by decide) rfl (by kernel_rfl) (by kernel_rfl) (by decide)
noncomputable def pdqc_hull_point_pc : PC :=
  (.seq (.reg [p_s 10 (.mov (.c (.r (.v (.bool true)))))])
 (.seq (.reg [p_s 11 (.mov (.c (.r (.v (.bool true)))))])
 (.block 0 (.loop (.block 1 (.seq (.reg [p_m 21 2, p_m 22 1, p_s 23 (.bin .sub (.t 21) (.t 22)), p_m 12 23])
 (.seq (.seq (.reg [p_m 24 12, p_s 25 (.bin .leq (.t 24) (o_i 12))])
 (.cond (.t 25)
 (.seq (.reg [p_m 26 0, p_m 27 1, p_m 28 2, p_m 29 4, p_c 30 1 127 [.t 26, .t 27, .t 28, .t 29]])
 .ret)
 .skip))
 (.seq (.seq (.reg [p_m 31 3, p_s 32 (.bin .eql (.t 31) (o_i 0))])
 (.cond (.t 32)
 (.seq (.reg [p_m 33 0, p_m 34 1, p_m 35 2, p_m 36 4, p_c 37 2 128 [.t 33, .t 34, .t 35, .t 36]])
 .ret)
 .skip))
 (.seq (.seq (.reg [p_m 38 10, p_s 39 (.un .not (.t 38))])
 (.cond (.t 39)
 (.seq (.reg [p_m 40 0, p_m 41 1, p_m 42 2, p_m 43 4, p_c 44 3 129 [.t 40, .t 41, .t 42, .t 43]])
 (.reg [p_m 45 3, p_s 46 (.bin .sub (.t 45) (o_i 1)), p_m 3 46]))
 .skip))
 (.seq (.reg [p_m 48 0, p_m 49 1, p_m 50 2, p_m 51 4, p_c 52 4 130 [.t 48, .t 49, .t 50, .t 51], p_m 47 52, p_s 53 (.ext (.t 47) 0), p_s 54 (.ext (.t 47) 1), p_m 13 53, p_m 14 54])
 (.seq (.seq (.reg [p_m 55 14, p_s 56 (.bin .eql (.t 55) (o_i 2))])
 (.cond (.t 56)
 (.seq (.reg [p_m 57 0, p_m 58 1, p_m 59 2, p_m 60 4, p_c 61 5 131 [.t 57, .t 58, .t 59, .t 60]])
 (.seq (.reg [p_m 62 2, p_s 63 (.bin .sub (.t 62) (o_i 1)), p_m 64 13, p_m 65 1, p_s 66 (.bin .sub (.t 64) (.t 65)), p_s 67 (.bin .sub (.t 63) (.t 66)), p_m 13 67])
 (.reg [p_s 14 (.mov (o_i 1))])))
 .skip))
 (.seq (.seq (.reg [p_m 68 10, p_m 69 68, p_g 70 69 true (.mov (.t 11)), p_s 71 (.pick (.t 69) (.t 70) (.c (.r (.v (.bool false))))), p_m 72 71, p_g 73 72 true (.mov (.t 14)), p_g 74 72 true (.bin .eql (.t 73) (o_i 1)),
 p_s 75 (.pick (.t 72) (.t 74) (.c (.r (.v (.bool false)))))])
 (.cond (.t 75)
 (.seq (.reg [p_m 76 0, p_m 77 1, p_m 78 2, p_m 79 4, p_c 80 6 132 [.t 76, .t 77, .t 78, .t 79]])
 (.cond (.t 80)
 .ret
 .skip))
 .skip))
 (.seq (.seq (.drw [p_m 81 1, p_s 82 (.bin .gtr (.t 81) (o_i 0)), p_m 83 82, p_g 84 83 true (.mov (.t 4)), p_g 85 83 true (.mov (.t 0)), p_g 86 83 true (.mov (.t 1)), p_g 87 83 true (.bin .sub (.t 86) (o_i 1)),
 p_g 88 83 true (.ia 2 (.agg [(.v (.int .i64 0)), (.v (.int .i64 0))]) (.t 85) (.t 87)), p_g 89 83 true (.ld (some 2) (.t 88)), p_g 90 83 true (.mov (.t 0)), p_g 91 83 true (.mov (.t 13)),
 p_g 92 83 true (.ia 2 (.agg [(.v (.int .i64 0)), (.v (.int .i64 0))]) (.t 90) (.t 91)), p_g 93 83 true (.ld (some 2) (.t 92)), ⟨(some 94), (some (83, true)), 7, .callv (.t 84) [(.t 89), (.t 93)]⟩,
 p_g 95 83 true (.bin .lss (.t 94) (o_i 0)), p_g 96 83 true (.un .not (.t 95)), p_s 97 (.pick (.t 83) (.t 96) (.c (.r (.v (.bool false)))))]
 [[], [0], [0, 1], [0, 1, 2], [0, 1, 2], [0, 1, 2], [0, 1, 2, 5], [0, 1, 2, 4, 5, 6], [0, 1, 2, 4, 5, 6, 7], [0, 1, 2], [0, 1, 2], [0, 1, 2, 9, 10], [0, 1, 2, 9, 10, 11], [0, 1, 2, 3, 4, 5, 6, 7, 8, 9, 10, 11, 12], [0, 1, 2, 3, 4, 5, 6, 7, 8, 9, 10, 11, 12, 13], [0, 1, 2, 3, 4, 5, 6, 7, 8, 9, 10, 11, 12, 13, 14], [0, 1, 2, 3, 4, 5, 6, 7, 8, 9, 10, 11, 12, 13, 14, 15]])
 (.cond (.t 97)
 (.seq (.reg [p_m 98 0, p_m 99 1, p_m 100 2, p_m 101 13, p_m 102 4, p_c 103 8 133 [.t 98, .t 99, .t 100, .t 101, .t 102], p_m 15 103])
 (.seq (.reg [p_m 104 15, p_m 1 104])
 (.exit 1)))
 .skip))
 (.seq (.reg [p_m 106 0, p_m 107 1, p_m 108 2, p_m 109 13, p_m 110 4, p_c 111 9 134 [.t 106, .t 107, .t 108, .t 109, .t 110], p_m 105 111, p_s 112 (.ext (.t 105) 0), p_s 113 (.ext (.t 105) 1),
 p_m 16 112, p_m 17 113])
 (.seq (.reg [p_m 114 17, p_m 11 114])
 (.seq (.reg [p_m 115 16, p_m 116 1, p_s 117 (.bin .sub (.t 115) (.t 116)), p_m 118 2, p_m 119 16, p_s 120 (.bin .sub (.t 118) (.t 119)), p_m 18 117, p_m 19 120])
 (.seq (.reg [p_m 121 12, p_s 122 (.bin .quo (.t 121) (o_i 8)), p_m 20 122])
 (.seq (.reg [p_m 123 18, p_m 124 19, p_s 125 (.bin .lss (.t 123) (.t 124))])
 (.cond (.t 125)
 (.seq (.reg [p_m 126 18, p_m 127 20, p_s 128 (.bin .geq (.t 126) (.t 127)), p_m 10 128])
 (.seq (.reg [p_m 129 0, p_m 130 1, p_m 131 16, p_m 132 3, p_m 133 4, p_c 134 10 99 [.t 129, .t 130, .t 131, .t 132, .t 133]])
 (.reg [p_m 135 16, p_s 136 (.bin .add (.t 135) (o_i 1)), p_m 1 136])))
 (.seq (.reg [p_m 137 19, p_m 138 20, p_s 139 (.bin .geq (.t 137) (.t 138)), p_m 10 139])
 (.seq (.reg [p_m 140 0, p_m 141 16, p_s 142 (.bin .add (.t 141) (o_i 1)), p_m 143 2, p_m 144 3, p_m 145 4, p_c 146 11 99 [.t 140, .t 142, .t 143, .t 144, .t 145]])
 (.reg [p_m 147 16, p_m 2 147]))))))))))))))))))))))
theorem pdqc_hull_point_triple : Fun P0 99 5 [] pdqc_hull_point_pc := fun_mk Go.Proofs.Tryz.func99 rfl (by decide) (by kernel_rfl) (by decide) rfl (by kernel_rfl) (by kernel_rfl) (by decide)
noncomputable def srtf_hull_point_pc : PC :=
  (.seq (.reg [p_m 5 0, p_s 6 (.len false (.t 5)), p_m 4 6])
 (.reg [p_m 7 0, p_m 8 4, p_m 9 4, p_s 10 (.conv .u64 (.t 9)), p_c 11 1 100 [.t 10], p_m 12 1, p_c 13 2 99 [(.t 7), (o_i 0), (.t 8), (.t 11), (.t 12)]]))
theorem srtf_hull_point_triple : Fun P0 60 2 [] srtf_hull_point_pc := fun_mk Go.Proofs.Tryz.func60 rfl (by decide) (by kernel_rfl) (by decide) rfl (by kernel_rfl) (by kernel_rfl) (by decide)
noncomputable def rev_hull_point_pc : PC :=
  (.seq (.reg [p_m 4 0, p_s 5 (.len false (.t 4)), p_s 6 (.bin .sub (.t 5) (o_i 1)), p_s 2 (.mov (o_i 0)), p_m 3 6])
 (.block 0 (.loop (.seq (.seq (.reg [p_m 7 2, p_m 8 3, p_s 9 (.bin .lss (.t 7) (.t 8))])
 (.cond (.t 9)
 .skip
 (.exit 0)))
 (.seq (.block 1 (.drw [p_m 14 0, p_m 15 2, p_m 16 0, p_m 17 3, p_m 18 0, p_m 19 3, p_s 20 (.ia 2 (.agg [(.v (.int .i64 0)), (.v (.int .i64 0))]) (.t 18) (.t 19)), p_s 21 (.ld (some 2) (.t 20)),
 p_m 22 0, p_m 23 2, p_s 24 (.ia 2 (.agg [(.v (.int .i64 0)), (.v (.int .i64 0))]) (.t 22) (.t 23)), p_s 25 (.ld (some 2) (.t 24)), p_s 26 (.ia 2 (.agg [(.v (.int .i64 0)), (.v (.int .i64 0))]) (.t 14) (.t 15)),
 ⟨none, none, 0, .act (.st 2 (.t 26) (.t 21))⟩, p_s 27 (.ia 2 (.agg [(.v (.int .i64 0)), (.v (.int .i64 0))]) (.t 16) (.t 17)), ⟨none, none, 0, .act (.st 2 (.t 27) (.t 25))⟩]
 [[], [], [], [], [], [], [4, 5], [4, 5, 6], [], [], [8, 9], [8, 9, 10], [0, 1, 4, 5, 6, 7, 8, 9, 10, 11], [0, 1, 4, 5, 6, 7, 8, 9, 10, 11, 12], [0, 1, 2, 3, 4, 5, 6, 7, 8, 9, 10, 11, 12, 13], [0, 1, 2, 3, 4, 5, 6, 7, 8, 9, 10, 11, 12, 13, 14]]))
 (.reg [p_m 10 2, p_s 11 (.bin .add (.t 10) (o_i 1)), p_m 12 3, p_s 13 (.bin .sub (.t 12) (o_i 1)), p_m 2 11, p_m 3 13]))))))
theorem rev_hull_point_triple : Fun P0 64 1 [] rev_hull_point_pc := fun_mk Go.Proofs.Tryz.func64 rfl (by decide) (by kernel_rfl) (by decide) rfl (by kernel_rfl) (by kernel_rfl) (by decide)
def bl12 (n : Nat) : Nat := if n = 0 then 0 else Nat.log2 n + 1
theorem hlen64_t (n : Nat) (hn : n < 16) : Triple P0 136 [int .u64 n] [] (int .i64 (bl12 n)) [] := by
 refine bits_Len64_triple rfl (by decide) ?_
 have g1 : decide ((n : Int) ≥ 4294967296) = false := by simp; omega
 have g2 : decide ((n : Int) ≥ 65536) = false := by simp; omega
 have g3 : decide ((n : Int) ≥ 256) = false := by simp; omega
 have w : IntKind.u8.wrap (n : Int) = n := by simp [IntKind.wrap, IntKind.bits, IntKind.signed]; omega
 simp only [bits_Len64_pc, g1, g2, g3, w, zae, push_cast, ↓reduceIte, reduceCtorEq, zB, zE, zA, zS, zL, zD, zM]
 refine ⟨⟨by omega, (show (n : Int) < ((256 : Nat) : Int) by omega)⟩, ?_⟩
 refine congrArg (fun z => AV.r (.v (.int .i64 z))) ?_
 clear g1 g2 g3 w
 revert n
 decide +kernel
theorem hlen_t (n : Nat) (hn : n < 16) : Triple P0 100 [int .u64 n] [] (int .i64 (bl12 n)) [] := by
 refine bits_Len_triple rfl (by decide) ?_
 have w : IntKind.u64.wrap (n : Int) = n := by rw [IntKind.wrap_u64]; omega
 simp only [bits_Len_pc, w, push_cast, ↓reduceIte, reduceCtorEq, zB, zE, zA, zS, zL, zD, zM]
 refine call_mk (hlen64_t n hn) rfl trivial ?_
 simp only [push_cast, ↓reduceIte, reduceCtorEq, zB, zE, zA, zS, zL, zD, zM]
theorem pdqc_t (l : List P2) (hl : 1 ≤ l.length ∧ l.length ≤ 12) (lim : Int) : Triple P0 99 [.own 1000000 0 0 l.length, int .i64 0, int .i64 l.length, int .i64 lim, agF] [rowQ l] (.tup []) [rowQ (sortP l)] := by
 refine pdqc_hull_point_triple rfl (by simp) ?_
 simp only [pdqc_hull_point_pc, agF, rowQ, push_cast, ↓reduceIte, reduceCtorEq, zB, zE, zA, zS, zL, zD, zM]
 refine run_loop [(0, false), (1, false), (2, false), (3, false), (4, false), (10, false), (11, false)] (fun vs pos los => vs = [.own 1000000 0 0 l.length, int .i64 0, int .i64 l.length, int .i64 lim, agF, bl true, bl true] ∧ pos = [rowQ l] ∧ los = [])
  (fun _ _ _ => 0) rfl ?_ ?_
 ·simp only [agF, rowQ, push_cast, ↓reduceIte, reduceCtorEq, zB, zE, zA, zS, zL, zD, zM]
 ·rintro vs pos los ⟨rfl, rfl, rfl⟩
  have w0 : IntKind.i64.wrap ((l.length : Int) - 0) = (l.length : Int) := by rw [wrap_id (by omega)]; omega
  have d0 : decide ((l.length : Int) ≤ 12) = true := decide_eq_true (by omega)
  simp only [agF, rowQ, w0, d0, push_cast, ↓reduceIte, reduceCtorEq, zB, zE, zA, zS, zL, zD, zM]
  refine callA_own ?_
  simp only [push_cast, ↓reduceIte, reduceCtorEq, zB, zE, zA, zS, zL, zD, zM]
  refine call_as (as' := [.own 1000000 0 0 l.length, int .i64 0, int .i64 l.length, agF]) rfl ?_
  refine call_mk (po := [rowQ l]) (isrt_t l (by omega)) rfl ⟨⟨rfl, by simp [sortP_len]⟩, trivial⟩ ?_
  simp only [rowQ, push_cast, ↓reduceIte, reduceCtorEq, zB, zE, zA, zS, zL, zD, zM]
theorem srtf_t (l : List P2) (hl : 1 ≤ l.length ∧ l.length ≤ 12) : Triple P0 60 [.own 1000000 0 0 l.length, agF] [rowQ l] (.tup []) [rowQ (sortP l)] := by
 refine srtf_hull_point_triple rfl (by simp) ?_
 have w : IntKind.u64.wrap ((l.length : Nat) : Int) = (l.length : Int) := by rw [IntKind.wrap_u64]; omega
 simp only [srtf_hull_point_pc, agF, rowQ, w, push_cast, ↓reduceIte, reduceCtorEq, zB, zE, zA, zS, zL, zD, zM]
 refine call_mk (hlen_t l.length (by omega)) rfl trivial ?_
 simp only [push_cast, ↓reduceIte, reduceCtorEq, zB, zE, zA, zS, zL, zD, zM]
 refine callA_own ?_
 simp only [push_cast, ↓reduceIte, reduceCtorEq, zB, zE, zA, zS, zL, zD, zM]
 refine call_as (as' := [.own 1000000 0 0 l.length, int .i64 0, int .i64 l.length, int .i64 (bl12 l.length), agF]) rfl ?_
 refine call_mk (po := [rowQ l]) (pdqc_t l hl _) rfl ⟨⟨rfl, by simp [sortP_len]⟩, trivial⟩ ?_
 simp only [rowQ, push_cast, ↓reduceIte, reduceCtorEq, zB, zE, zA, zS, zL, zD, zM]
set_option maxHeartbeats 2000000 in
theorem rev_t (l G : List P2) (hl : l.length ≤ 1000) : Triple P0 64 [.own 1000000 0 0 l.length] [rowQ (l ++ G)] (.tup []) [rowQ (l.reverse ++ G)] := by
 refine rev_hull_point_triple rfl (by simp) ?_
 have w0 : IntKind.i64.wrap ((l.length : Int) - 1) = (l.length : Int) - 1 := wrap_id (by omega)
 simp only [rev_hull_point_pc, rowQ, w0, push_cast, ↓reduceIte, reduceCtorEq, zB, zE, zA, zS, zL, zD, zM]
 refine run_loop [(0, false), (2, false), (3, false)] (fun vs pos los => ∃ (A M B : List P2), A.length = B.length ∧ l.reverse = A ++ (M.reverse ++ B) ∧ vs = [.own 1000000 0 0 l.length, int .i64 A.length, int .i64 ((l.length : Int) - 1 - A.length)] ∧ pos = [rowQ (A ++ (M ++ (B ++ G)))] ∧ los = [])
  (fun vs _ _ => match vs with | [_, _, .r (.v (.int _ a))] => a.toNat | _ => 0) rfl ?_ ?_
 ·simp only [rowQ, push_cast, ↓reduceIte, reduceCtorEq, zB, zE, zA, zS, zL, zD, zM]
  refine ⟨[], l, [], rfl, by simp, ?_, ?_⟩
  ·simp
  ·simp
 ·rintro vs pos los ⟨A, M, B, hAB, hrev, rfl, rfl, rfl⟩
  have hlen : l.length = A.length + (M.length + B.length) := by
   have := congrArg List.length hrev
   simpa using this
  simp only [rowQ, push_cast, ↓reduceIte, reduceCtorEq, zB, zE, zA, zS, zL, zD, zM]
  refine cnd_mk (fun hc => ?_) (fun hc => ?_)
  ·have hc := of_decide_eq_true hc
   obtain ⟨p, M', q, rfl⟩ : ∃ p M' q, M = p :: (M' ++ [q]) := by
    cases M with
    | nil => simp at hlen; omega
    | cons p M =>
     rcases List.eq_nil_or_concat M with rfl | ⟨M', q, rfl⟩
     ·simp at hlen; omega
     ·exact ⟨p, M', q, by simp⟩
   obtain ⟨J, hJ⟩ : ∃ J : Nat, J = A.length + M'.length + 1 := ⟨_, rfl⟩
   simp only [zal, zaj, zbi] at hlen
   have hj : ((l.length : Nat) : Int) - 1 - (A.length : Int) = (J : Int) := by omega
   obtain ⟨T, hT⟩ : ∃ T, B ++ G = T := ⟨_, rfl⟩
   have hrow : A ++ (p :: (M' ++ [q]) ++ (B ++ G)) = A ++ p :: (M' ++ q :: T) := by rw [hT]; simp
   have gp : ∀ z, ((A ++ p :: (M' ++ q :: T)).map ptR).getD A.length z = .agg [.v (.int .i64 p.1), .v (.int .i64 p.2)] := fun z => get_e A _ p z
   have gq : ∀ z, ((A ++ p :: (M' ++ q :: T)).map ptR).getD J z = .agg [.v (.int .i64 q.1), .v (.int .i64 q.2)] := fun z => by
    have := get_e (A ++ p :: M') T q z
    rw [show A ++ p :: (M' ++ q :: T) = (A ++ p :: M') ++ q :: T by simp, hJ]
    simp only [zaj, zal] at this
    rw [show A.length + M'.length + 1 = A.length + (M'.length + 1) by omega]
    exact this
   have s1 : ((A ++ p :: (M' ++ q :: T)).map ptR).set A.length (.agg [.v (.int .i64 q.1), .v (.int .i64 q.2)]) = (A ++ q :: (M' ++ q :: T)).map ptR := by
    rw [show (RV.agg [.v (.int .i64 q.1), .v (.int .i64 q.2)]) = ptR q from rfl, ← zaz]
    congr 1
    simp
   have gq2 : ∀ z, ((A ++ q :: (M' ++ q :: T)).map ptR).getD J z = .agg [.v (.int .i64 q.1), .v (.int .i64 q.2)] := fun z => by
    have := get_e (A ++ q :: M') T q z
    rw [show A ++ q :: (M' ++ q :: T) = (A ++ q :: M') ++ q :: T by simp, hJ]
    simp only [zaj, zal] at this
    rw [show A.length + M'.length + 1 = A.length + (M'.length + 1) by omega]
    exact this
   have s2 : ((A ++ q :: (M' ++ q :: T)).map ptR).set J (.agg [.v (.int .i64 p.1), .v (.int .i64 p.2)]) = (A ++ q :: (M' ++ p :: T)).map ptR := by
    rw [show (RV.agg [.v (.int .i64 p.1), .v (.int .i64 p.2)]) = ptR p from rfl, ← zaz]
    congr 1
    have h1 : ((A ++ q :: M') ++ q :: T).set J p = (A ++ q :: M') ++ p :: T := by
     rw [show J = (A ++ q :: M').length by simp; omega]
     simp
    rw [show A ++ q :: (M' ++ q :: T) = (A ++ q :: M') ++ q :: T by simp, h1]
    simp
   have wi : IntKind.i64.wrap ((A.length : Int) + 1) = (A.length : Int) + 1 := wrap_id (by omega)
   have wj : IntKind.i64.wrap ((J : Int) - 1) = (J : Int) - 1 := wrap_id (by omega)
   rw [hj, hrow]
   simp only [rowQ, gp, gq, gq2, s1, s2, wi, wj, zae, zaf, zaa, push_cast, ↓reduceIte, reduceCtorEq, zB, zE, zA, zS, zL, zD, zM]
   repeat refine And.intro (by first | exact ⟨by omega, by omega⟩ | kernel_rfl) ?_
   refine ⟨⟨A ++ [q], M', p :: B, by simp; omega, by rw [hrev]; simp, ?_, ?_⟩, by omega⟩
   ·simp
    omega
   ·rw [← hT]; simp
  ·have hc := of_decide_eq_false hc
   simp only [push_cast, ↓reduceIte, reduceCtorEq, zB, zE, zA, zS, zL, zD, zM]
   rw [hrev]
   have hM : M.reverse = M := by
    rcases M with _ | ⟨p, _ | ⟨q, M⟩⟩
    ·rfl
    ·rfl
    ·simp at hlen; omega
   rw [hM]
   simp

noncomputable def cmpt_hull_point_pc : PC :=
  (.seq (.reg [p_s 2 (.mov (.c (.nils 2 (.agg [(.v (.int .i64 0)), (.v (.int .i64 0))]))))])
 (.seq (.seq (.reg [p_m 6 0, p_s 7 (.len false (.t 6)), p_s 8 (.bin .lss (.t 7) (o_i 2))])
 (.cond (.t 8)
 (.seq (.reg [p_m 9 0, p_m 2 9])
 .ret)
 .skip))
 (.seq (.seq (.reg [p_s 3 (.mov (o_i 1))])
 (.block 0 (.loop (.seq (.seq (.reg [p_m 10 3, p_m 11 0, p_s 12 (.len false (.t 11)), p_s 13 (.bin .lss (.t 10) (.t 12))])
 (.cond (.t 13)
 .skip
 (.exit 0)))
 (.seq (.block 1 (.seq (.drw [p_m 16 0, p_m 17 3, p_s 18 (.ia 2 (.agg [(.v (.int .i64 0)), (.v (.int .i64 0))]) (.t 16) (.t 17)), p_s 19 (.ld (some 2) (.t 18)), p_m 20 0, p_m 21 3, p_s 22 (.bin .sub (.t 21) (o_i 1)),
 p_s 23 (.ia 2 (.agg [(.v (.int .i64 0)), (.v (.int .i64 0))]) (.t 20) (.t 22)), p_s 24 (.ld (some 2) (.t 23)), p_s 25 (.eqa false [0, 0] (.t 19) (.t 24))]
 [[], [], [0, 1], [0, 1, 2], [], [], [5], [4, 5, 6], [4, 5, 6, 7], [0, 1, 2, 3, 4, 5, 6, 7, 8]])
 (.cond (.t 25)
 (.seq (.reg [p_m 26 0, p_m 27 3, p_s 28 (.sll 2 (.t 26) (some (.t 27)) none none), p_m 4 28])
 (.seq (.seq (.reg [p_s 5 (.mov (o_i 1))])
 (.block 2 (.loop (.seq (.seq (.reg [p_m 29 5, p_m 30 4, p_s 31 (.len false (.t 30)), p_s 32 (.bin .lss (.t 29) (.t 31))])
 (.cond (.t 32)
 .skip
 (.exit 2)))
 (.seq (.block 3 (.seq (.drw [p_m 35 4, p_m 36 5, p_s 37 (.ia 2 (.agg [(.v (.int .i64 0)), (.v (.int .i64 0))]) (.t 35) (.t 36)), p_s 38 (.ld (some 2) (.t 37)), p_m 39 4, p_m 40 5, p_s 41 (.bin .sub (.t 40) (o_i 1)),
 p_s 42 (.ia 2 (.agg [(.v (.int .i64 0)), (.v (.int .i64 0))]) (.t 39) (.t 41)), p_s 43 (.ld (some 2) (.t 42)), p_s 44 (.eqa true [0, 0] (.t 38) (.t 43))]
 [[], [], [0, 1], [0, 1, 2], [], [], [5], [4, 5, 6], [4, 5, 6, 7], [0, 1, 2, 3, 4, 5, 6, 7, 8]])
 (.cond (.t 44)
 (.seq (.reg [p_m 45 0, p_m 46 3, p_m 47 4, p_m 48 5, p_s 49 (.ia 2 (.agg [(.v (.int .i64 0)), (.v (.int .i64 0))]) (.t 47) (.t 48)), p_s 50 (.ld (some 2) (.t 49)), p_s 51 (.ia 2 (.agg [(.v (.int .i64 0)), (.v (.int .i64 0))]) (.t 45) (.t 46)),
 ⟨none, none, 0, .act (.st 2 (.t 51) (.t 50))⟩])
 (.reg [p_m 52 3, p_s 53 (.bin .add (.t 52) (o_i 1)), p_m 3 53]))
 .skip)))
 (.reg [p_m 33 5, p_s 34 (.bin .add (.t 33) (o_i 1)), p_m 5 34]))))))
 (.seq (.reg [p_m 54 0, p_m 55 3, p_s 56 (.sll 2 (.t 54) (some (.t 55)) none none), ⟨none, none, 0, .act (.clr 2 (.agg [(.v (.int .i64 0)), (.v (.int .i64 0))]) (.t 56))⟩])
 (.seq (.reg [p_m 57 0, p_m 58 3, p_s 59 (.sll 2 (.t 57) none (some (.t 58)) none), p_m 2 59])
 .ret))))
 .skip)))
 (.reg [p_m 14 3, p_s 15 (.bin .add (.t 14) (o_i 1)), p_m 3 15]))))))
 (.seq (.reg [p_m 60 0, p_m 2 60])
 .ret))))
theorem cmpt_hull_point_triple : Fun P0 62 1 [(2, false, none)] cmpt_hull_point_pc := fun_mk Go.Proofs.Tryz.func62 rfl (by decide) (by kernel_rfl) (by decide) rfl (by kernel_rfl) (by kernel_rfl) (by decide)
def cmpR (u : P2) : List P2 → List P2
 | [] => []
 | q :: r => if q = u then cmpR u r else q :: cmpR q r
def compP : List P2 → List P2
 | [] => []
 | p :: r => p :: cmpR p r
theorem cmpR_len : ∀ (u : P2) (l : List P2), (cmpR u l).length ≤ l.length
 | u, [] => zaq _
 | u, q :: r => by
  rw [cmpR]
  split
  ·have := cmpR_len u r; simp; omega
  ·have := cmpR_len q r; simp; omega
theorem compP_len (l : List P2) : (compP l).length ≤ l.length := by
 cases l with
 | nil => exact zaq _
 | cons p r => have := cmpR_len p r; simp [compP]; exact this
theorem eq_pt (p q : P2) : (p.1 == q.1 && p.2 == q.2) = decide (p = q) := by
 rw [Bool.eq_iff_iff]
 simp [Prod.ext_iff]
theorem spl_end (o W : List P2) (k n : Nat) (hk : k = o.length) (hn : n = W.length) : spl ((o ++ W).map ptR) k (zbj n (.agg [.v (.int .i64 0), .v (.int .i64 0)])) = (o ++ zbj n (0, 0)).map ptR := by
 subst hk; subst hn
 unfold spl splice
 rw [zap, List.take_left' (by simp), List.drop_of_length_le (by simp), zar, zap, List.map_replicate]
 rfl
set_option maxHeartbeats 4000000 in
theorem comp_t (l : List P2) (hl : 1 ≤ l.length ∧ l.length ≤ 1000) : Triple P0 62 [.own 1000000 0 0 l.length] [rowQ l] (.own 1000000 0 0 (compP l).length) [rowQ (compP l ++ zbj (l.length - (compP l).length) (0, 0))] := by
 refine cmpt_hull_point_triple rfl (by simp) ?_
 simp only [cmpt_hull_point_pc, rowQ, push_cast, ↓reduceIte, reduceCtorEq, zB, zE, zA, zS, zL, zD, zM]
 refine cnd_mk (fun h2 => ?_) (fun h2 => ?_)
 ·have h2 := of_decide_eq_true h2
  obtain ⟨p, rfl⟩ : ∃ p, l = [p] := by
   rcases l with _ | ⟨p, _ | ⟨q, r⟩⟩
   ·simp at hl
   ·exact ⟨p, rfl⟩
   ·simp at h2; omega
  simp only [push_cast, ↓reduceIte, reduceCtorEq, zB, zE, zA, zS, zL, zD, zM]
  exact ⟨rfl, rfl⟩
 ·have h2 := of_decide_eq_false h2
  simp only [push_cast, ↓reduceIte, reduceCtorEq, zB, zE, zA, zS, zL, zD, zM]
  refine run_loop [(0, false), (3, false)] (fun vs pos los => ∃ (A : List P2) (x : P2) (T : List P2), l = A ++ x :: T ∧ compP l = A ++ x :: cmpR x T ∧ vs = [.own 1000000 0 0 l.length, int .i64 ((A.length : Int) + 1)] ∧ pos = [rowQ (A ++ x :: T)] ∧ los = [])
   (fun vs _ _ => match vs with | [_, .r (.v (.int _ a))] => (l.length - a).toNat | _ => 0) rfl ?_ ?_
  ·simp only [rowQ, push_cast, ↓reduceIte, reduceCtorEq, zB, zE, zA, zS, zL, zD, zM]
   obtain ⟨p, r, rfl⟩ : ∃ p r, l = p :: r := by
    cases l with
    | nil => simp at hl
    | cons p r => exact ⟨p, r, rfl⟩
   exact ⟨[], p, r, rfl, rfl, rfl, rfl⟩
  ·rintro vs pos los ⟨A, x, T, hlA, hcA, rfl, rfl, rfl⟩
   have hlen : l.length = A.length + 1 + T.length := by rw [hlA]; simp; omega
   simp only [rowQ, push_cast, ↓reduceIte, reduceCtorEq, zB, zE, zA, zS, zL, zD, zM]
   cases T with
   | nil =>
    have z0 : decide (((A.length : Nat) : Int) + 1 < ((l.length : Nat) : Int)) = false := decide_eq_false (by simp at hlen; omega)
    simp only [z0, push_cast, ↓reduceIte, reduceCtorEq, zB, zE, zA, zS, zL, zD, zM]
    rw [hcA]
    have h1 : (A ++ x :: cmpR x []).length = l.length := by rw [hlA]; rfl
    rw [h1, Nat.sub_self]
    simp [cmpR]
   | cons y T =>
    simp only [zal] at hlen
    have z0 : decide (((A.length : Nat) : Int) + 1 < ((l.length : Nat) : Int)) = true := decide_eq_true (by omega)
    have wk : IntKind.i64.wrap (((A.length : Nat) : Int) + 1 - 1) = (A.length : Int) := by rw [wrap_id (by omega)]; omega
    have wk2 : IntKind.i64.wrap (((A.length : Nat) : Int) + 1 + 1) = (A.length : Int) + 2 := by
     have : A.length < 1000 := by omega
     rw [wrap_id (by omega)]; omega
    have gx : ∀ z, ((A ++ x :: y :: T).map ptR).getD A.length z = .agg [.v (.int .i64 x.1), .v (.int .i64 x.2)] := fun z => get_e A _ x z
    have gy : ∀ z, ((A ++ x :: y :: T).map ptR).getD (A.length + 1) z = .agg [.v (.int .i64 y.1), .v (.int .i64 y.2)] := fun z => get_x A _ x y z
    have heq := eq_pt y x
    simp only [z0, wk, gx, gy, zae, zaf, zaa, push_cast, ↓reduceIte, reduceCtorEq, zB, zE, zA, zS, zL, zD, zM]
    refine And.intro ⟨by omega, by omega⟩ ?_
    refine And.intro ⟨by omega, by omega⟩ ?_
    refine And.intro (by kernel_rfl) ?_
    refine cnd_mk (fun hyx => ?_) (fun hyx => ?_)
    ·have hyx : y = x := of_decide_eq_true (heq.symm.trans hyx)
     subst hyx
     obtain ⟨k0, hk0⟩ : ∃ k0, A.length + 1 = k0 := ⟨_, rfl⟩
     have hk1 : ((A.length : Nat) : Int) + 1 = (k0 : Int) := by omega
     have hk2 : ((A.length : Nat) : Int) + 2 = (k0 : Int) + 1 := by omega
     simp only [rowQ, hk0, hk1, zae, zaf, zaa, push_cast, ↓reduceIte, reduceCtorEq, zB, zE, zA, zS, zL, zD, zM]
     obtain ⟨n0, hn0⟩ : ∃ n0 : Nat, ((l.length : Int) - (k0 : Int)).toNat = n0 := ⟨_, rfl⟩
     have hnn : n0 = T.length + 1 := by omega
     refine And.intro ⟨by omega, by omega, by omega⟩ ?_
     simp only [hn0]
     refine run_loop [(0, false), (3, false), (4, false), (5, false)] (fun vs pos los => ∃ (C W T2 : List P2) (u : P2) (k k2 : Nat), k = C.length + 1 ∧ k0 + k2 = C.length + 1 + W.length + 1 ∧ 1 ≤ k2 ∧ C.length + 1 + W.length + 1 + T2.length = l.length ∧ compP l = C ++ u :: cmpR u T2 ∧ vs = [.own 1000000 0 0 l.length, int .i64 k, .own 1000000 0 k0 n0, int .i64 k2] ∧ pos = [rowQ ((C ++ [u]) ++ (W ++ u :: T2))] ∧ los = [])
      (fun vs _ _ => match vs with | [_, _, _, .r (.v (.int _ a))] => (l.length - a).toNat | _ => 0) rfl ?_ ?_
     ·simp only [rowQ, push_cast, ↓reduceIte, reduceCtorEq, zB, zE, zA, zS, zL, zD, zM]
      refine ⟨A, [], T, y, k0, 1, by omega, by simp; omega, by omega, by simp; omega, ?_, rfl, ?_⟩
      ·rw [hcA, cmpR, if_pos rfl]
      ·simp
     ·rintro vs pos los ⟨C, W, T2, u, k, k2, hk, hkk, hk21, hL, hcC, rfl, rfl, rfl⟩
      simp only [rowQ, push_cast, ↓reduceIte, reduceCtorEq, zB, zE, zA, zS, zL, zD, zM]
      cases T2 with
      | nil =>
       simp only [zbi] at hL
       have z1 : decide (((k2 : Nat) : Int) < ((n0 : Nat) : Int)) = false := decide_eq_false (by omega)
       simp only [z1, rowQ, zae, zaf, zaa, push_cast, ↓reduceIte, reduceCtorEq, zB, zE, zA, zS, zL, zD, zM]
       have hcC2 : compP l = C ++ [u] := hcC
       have hcl : (compP l).length = C.length + 1 := by rw [hcC2]; simp
       refine ⟨⟨by omega, by omega, by omega⟩, ⟨by omega, by omega, by omega, by omega⟩, ?_, ?_⟩
       ·rw [hcl, show (Int.toNat 0) = 0 from rfl, show ((k : Int) - 0).toNat = C.length + 1 by omega]
       ·rw [spl_end (C ++ [u]) (W ++ [u]) k _ (by simp; omega) (by simp; omega), hcl, hcC2, show ((l.length : Int) - (k : Int)).toNat = l.length - (C.length + 1) by omega]
      | cons v T3 =>
       simp only [zal] at hL
       have z1 : decide (((k2 : Nat) : Int) < ((n0 : Nat) : Int)) = true := decide_eq_true (by omega)
       have wk4 : IntKind.i64.wrap (((k2 : Nat) : Int) - 1) = ((k2 - 1 : Nat) : Int) := by rw [wrap_id (by omega)]; omega
       have wk5 : IntKind.i64.wrap (((k2 : Nat) : Int) + 1) = ((k2 + 1 : Nat) : Int) := by rw [wrap_id (by omega)]; omega
       have wk6 : IntKind.i64.wrap (((k : Nat) : Int) + 1) = ((k + 1 : Nat) : Int) := by rw [wrap_id (by omega)]; omega
       have gu : ∀ z, (((C ++ [u]) ++ (W ++ u :: v :: T3)).map ptR).getD (k0 + (k2 - 1)) z = .agg [.v (.int .i64 u.1), .v (.int .i64 u.2)] := fun z => by
        rw [← zay, show k0 + (k2 - 1) = ((C ++ [u]) ++ W).length by simp; omega]
        exact get_e _ _ u z
       have gv : ∀ z, (((C ++ [u]) ++ (W ++ u :: v :: T3)).map ptR).getD (k0 + k2) z = .agg [.v (.int .i64 v.1), .v (.int .i64 v.2)] := fun z => by
        rw [← zay, show k0 + k2 = ((C ++ [u]) ++ W).length + 1 by simp; omega]
        exact get_x _ _ u v z
       simp only [z1, wk4, wk5, wk6, gu, gv, rowQ, zae, zaf, zaa, push_cast, ↓reduceIte, reduceCtorEq, zB, zE, zA, zS, zL, zD, zM]
       refine And.intro ⟨by omega, by omega⟩ ?_
       refine And.intro ⟨by omega, by omega⟩ ?_
       refine And.intro (by kernel_rfl) ?_
       have heq2 := eq_pt v u
       refine cnd_mk (fun hvu => ?_) (fun hvu => ?_)
       ·have hvu : v ≠ u := by
         have h3 : (v.1 == u.1 && v.2 == u.2) = false := by
          generalize (v.1 == u.1 && v.2 == u.2) = q at hvu
          cases q
          ·rfl
          ·cases hvu
         exact of_decide_eq_false (heq2.symm.trans h3)
        obtain ⟨W', hW', hset⟩ : ∃ W' : List P2, W'.length = W.length ∧ (((C ++ [u]) ++ (W ++ u :: v :: T3)).map ptR).set k (.agg [.v (.int .i64 v.1), .v (.int .i64 v.2)]) = (((C ++ [u]) ++ [v]) ++ (W' ++ v :: T3)).map ptR := by
         subst hk
         rw [show (RV.agg [.v (.int .i64 v.1), .v (.int .i64 v.2)]) = ptR v from rfl, ← zaz]
         cases W with
         | nil => exact ⟨[], rfl, by congr 1; simp⟩
         | cons w W2 => exact ⟨W2 ++ [u], by simp, by congr 1; simp⟩
        obtain ⟨q, hq⟩ : ∃ q : P2, ∀ z, (((C ++ [u]) ++ (W ++ u :: v :: T3)).map ptR).getD k z = .agg [.v (.int .i64 q.1), .v (.int .i64 q.2)] := by
         rw [show k = (C ++ [u]).length by simp; omega]
         cases W with
         | nil => exact ⟨u, get_e _ _ u⟩
         | cons w W2 => exact ⟨w, get_e _ _ w⟩
        simp only [wk5, wk6, gv, hq, hset, rowQ, zae, zaf, zaa, push_cast, ↓reduceIte, reduceCtorEq, zB, zE, zA, zS, zL, zD, zM]
        repeat refine And.intro (by first | exact ⟨by omega, by omega⟩ | kernel_rfl) ?_
        refine ⟨⟨C ++ [u], W', T3, v, k + 1, k2 + 1, by simp; omega, by simp; omega, by omega, by simp; omega, ?_, by simp, rfl⟩, by omega⟩
        rw [hcC, cmpR, if_neg hvu]
        simp
       ·have hvu : v = u := by
         have h3 : (v.1 == u.1 && v.2 == u.2) = true := by
          generalize (v.1 == u.1 && v.2 == u.2) = q at hvu
          cases q
          ·cases hvu
          ·rfl
         exact of_decide_eq_true (heq2.symm.trans h3)
        subst hvu
        simp only [wk5, rowQ, zae, zaf, zaa, push_cast, ↓reduceIte, reduceCtorEq, zB, zE, zA, zS, zL, zD, zM]
        refine ⟨⟨C, W ++ [v], T3, v, k, k2 + 1, by omega, by simp; omega, by omega, by simp; omega, ?_, by simp, by simp⟩, by omega⟩
        rw [hcC, cmpR, if_pos rfl]
    ·have hyx : y ≠ x := of_decide_eq_false (heq.symm.trans hyx)
     have wk3 : IntKind.i64.wrap (((A.length : Nat) : Int) + 1 + 1) = (A.length : Int) + 1 + 1 := by rw [wk2]; omega
     simp only [wk3, rowQ, zae, zaf, zaa, push_cast, ↓reduceIte, reduceCtorEq, zB, zE, zA, zS, zL, zD, zM]
     refine ⟨⟨A ++ [x], y, T, by rw [hlA]; simp, ?_, by simp, by simp⟩, by omega⟩
     rw [hcA, cmpR, if_neg hyx]
     simp

theorem popC_one (p a : P2) : popC p [a] = [a] := rfl
set_option maxHeartbeats 4000000 in
theorem chain_t (l : List P2) (hl : 1 ≤ l.length ∧ l.length ≤ 1000) (hn : ∀ p ∈ l, near29 p) : Triple P0 63 [ring2 l] [] (.own 1000000 0 0 ((stkC l).length - 1)) [rowP (stkC l).reverse] := by
  refine hull_chain_triple rfl (by decide) ?_
  have hmx := maxLen_big
  have hsl : ∀ i, (stkC (l.take i)).length ≤ i := fun i => by have := stkC_len (l.take i); simp at this; omega
  simp only [hull_chain_pc, ring2, push_cast, ↓reduceIte, reduceCtorEq, zB, zE, zA, zS, zL, zD, zM]
  refine run_loop [(8, false), (6, false), (7, false), (3, false)] (fun vs pos los => ∃ i : Nat, i ≤ l.length ∧ pos = [] ∧
      (i = 0 ∧ vs = [int .i64 i, ring2 l, int .i64 l.length, .nils 2 (pnt 0 0)] ∧ los = [] ∨
       i ≠ 0 ∧ vs = [int .i64 i, ring2 l, int .i64 l.length, .own 2000000 0 0 (stkC (l.take i)).length] ∧ los = [rowP (stkC (l.take i)).reverse]))
    (fun vs _ _ => match vs with | .r (.v (.int _ a)) :: _ => (l.length - a).toNat | _ => 0) rfl ?_ ?_
  · simp only [ring2, pnt, push_cast, ↓reduceIte, reduceCtorEq, zB, zE, zA, zS, zL, zD, zM]
    exact ⟨0, by omega, .inl ⟨rfl, by simp⟩⟩
  · rintro vs pos los ⟨i, hi, rfl, ⟨h0, rfl, rfl⟩ | ⟨h0, rfl, rfl⟩⟩
    · simp only [ring2, pnt, push_cast, ↓reduceIte, reduceCtorEq, zB, zE, zA, zS, zL, zD, zM]
      refine cnd_mk (fun hd => ?_) (fun hd => ?_)
      · have hi2 : i < l.length := by simpa using hd
        obtain ⟨p, hp⟩ : ∃ p, l[i]? = some p := ⟨l[i], by simp [hi2]⟩
        have wi : IntKind.i64.wrap ((i : Int) + 1) = (i : Int) + 1 := wrap_id (by omega)
        have z0 : decide ((0 : Int) > 1) = false := rfl
        have hN : stkC (l.take (i + 1)) = [p] := by
          subst h0
          rw [zao, hp]
          simp [stkC, popC]
        simp only [ring2, pnt, zan, ring_get hp, ring_get0 hp, wi, z0, zab, zac, zaa, push_cast, ↓reduceIte, reduceCtorEq, zB, zE, zA, zS, zL, zD, zM]
        repeat refine And.intro (by first | decide | omega | exact fun _ => by decide | (simp +contextual; done) | kernel_rfl) ?_
        refine run_loop [(8, false), (6, false), (7, false), (3, false), (5, false)] (fun vs pos los => vs = [int .i64 i, ring2 l, int .i64 l.length, .nils 2 (pnt 0 0), .ptr 2000000 0 0] ∧ pos = [] ∧ los = [.box [int .i64 p.1, int .i64 p.2]])
          (fun _ _ _ => 0) rfl ?_ ?_
        · simp only [ring2, pnt, ptR, push_cast, ↓reduceIte, reduceCtorEq, zB, zE, zA, zS, zL, zD, zM]
        · rintro vs pos los ⟨rfl, rfl, rfl⟩
          simp only [ring2, pnt, z0, wi, push_cast, ↓reduceIte, reduceCtorEq, zB, zE, zA, zS, zL, zD, zM]
          refine And.intro (by kernel_rfl) (And.intro (by simp) (And.intro (by omega) ⟨⟨i + 1, by omega, .inr ⟨by omega, ?_, ?_⟩⟩, by omega⟩))
          · rw [hN]; simp
          · rw [hN]; simp [ptR, pnt]
      · have hi2 : ¬ i < l.length := by simpa using hd
        exact absurd hi2 (by omega)
    · have hlen := hsl i
      obtain ⟨S, hS⟩ : ∃ S, stkC (l.take i) = S := ⟨_, rfl⟩
      have hSn : S ≠ [] := by
        rw [← hS]
        obtain ⟨j, rfl⟩ : ∃ j, i = j + 1 := ⟨i - 1, by omega⟩
        rw [zbl (by omega), stkC_snoc]
        simp
      have hSm : ∀ q ∈ S, near29 q := fun q hq => hn q (List.mem_of_mem_take (stkC_mem _ (hS ▸ hq)))
      rw [hS]
      rw [hS] at hlen
      simp only [ring2, pnt, push_cast, ↓reduceIte, reduceCtorEq, zB, zE, zA, zS, zL, zD, zM]
      refine cnd_mk (fun hd => ?_) (fun hd => ?_)
      · have hi2 : i < l.length := by simpa using hd
        obtain ⟨p, hp⟩ : ∃ p, l[i]? = some p := ⟨l[i], by simp [hi2]⟩
        have hpn : near29 p := hn p (zam hp)
        have wi : IntKind.i64.wrap ((i : Int) + 1) = (i : Int) + 1 := wrap_id (by omega)
        have hN : stkC (l.take (i + 1)) = p :: popC p S := by
          rw [zao, hp, ← hS]
          exact stkC_snoc _ p
        simp only [ring2, pnt, zan, ring_get hp, ring_get0 hp, wi, zab, zac, zaa, push_cast, ↓reduceIte, reduceCtorEq, zB, zE, zA, zS, zL, zD, zM]
        repeat refine And.intro (by first | decide | omega | exact fun _ => by decide | (simp +contextual; done) | kernel_rfl) ?_
        refine run_loop [(8, false), (6, false), (7, false), (3, false), (5, false)] (fun vs pos los => ∃ (s G : List P2), s ≠ [] ∧ S.reverse = s.reverse ++ G ∧ popC p S = popC p s ∧ vs = [int .i64 i, ring2 l, int .i64 l.length, .own 2000000 0 0 s.length, .ptr 2000001 0 0] ∧ pos = [] ∧ los = [rowP (s.reverse ++ G), .box [int .i64 p.1, int .i64 p.2]])
          (fun vs _ _ => match vs with | [_, _, _, .own _ _ _ n, _] => n | _ => 0) rfl ?_ ?_
        · simp only [ring2, pnt, ptR, push_cast, ↓reduceIte, reduceCtorEq, zB, zE, zA, zS, zL, zD, zM]
          exact ⟨S, [], hSn, by simp, rfl, rfl, by simp [pnt, ptR]⟩
        · rintro vs pos los ⟨s, G, hs, hSG, hpop, rfl, rfl, rfl⟩
          have hsS : s.length ≤ S.length := by
            have := congrArg List.length hSG
            simp at this
            omega
          have hsm : ∀ q ∈ s, near29 q := fun q hq => hSm q (by
            have : q ∈ S.reverse := by rw [hSG]; simp [hq]
            simpa using this)
          have hend : ∀ n, n = s.length → List.take n ((s.reverse ++ G).map ptR) = s.reverse.map ptR := fun n hn => by
            rw [zap, List.take_left' (by simp [hn])]
          rcases s with _ | ⟨b, _ | ⟨a, r⟩⟩
          · exact absurd rfl hs
          · have z0 : decide ((1 : Int) > 1) = false := rfl
            simp only [ring2, pnt, z0, wi, push_cast, ↓reduceIte, reduceCtorEq, zB, zE, zA, zS, zL, zD, zM]
            refine And.intro (by kernel_rfl) (And.intro (by simp) (And.intro (by omega) ⟨⟨i + 1, by omega, .inr ⟨by omega, ?_, ?_⟩⟩, by omega⟩))
            · rw [hN, hpop, popC_one]; simp
            · rw [hN, hpop, popC_one, hend 1 rfl]; simp [ptR, pnt]
          · have z0 : decide (((r.length : Nat) : Int) + 1 + 1 > 1) = true := decide_eq_true (by omega)
            simp only [zal] at hsS
            have wk1 : IntKind.i64.wrap (((r.length : Nat) : Int) + 1 + 1 - 2) = (r.length : Int) := by rw [wrap_id (by omega)]; omega
            have wk2 : IntKind.i64.wrap (((r.length : Nat) : Int) + 1 + 1 - 1) = (r.length : Int) + 1 := by rw [wrap_id (by omega)]; omega
            obtain ⟨A, hA⟩ : ∃ A, r.reverse = A := ⟨_, rfl⟩
            have hAl : A.length = r.length := by rw [← hA]; simp
            have hR : (b :: a :: r).reverse ++ G = A ++ a :: b :: G := by rw [← hA]; simp
            have ga := get_e A (b :: G) a
            have gb := get_x A G a b
            rw [hAl] at ga gb
            have hpa : ptR a = .agg [.v (.int .i64 a.1), .v (.int .i64 a.2)] := rfl
            have hpb : ptR b = .agg [.v (.int .i64 b.1), .v (.int .i64 b.2)] := rfl
            have htn := turn_t a b p (hsm a (by simp)) (hsm b (by simp)) hpn
            rw [hR] at hend ⊢
            simp only [ring2, pnt, z0, wi, wk1, wk2, ga, gb, hpa, hpb, zae, zaf, zaa, push_cast, ↓reduceIte, reduceCtorEq, zB, zE, zA, zS, zL, zD, zM]
            refine And.intro ⟨by omega, by omega⟩ ?_
            refine And.intro ⟨by omega, by omega⟩ ?_
            refine dcall_as (as' := [pv2 a, pv2 b, pv2 p]) rfl ?_
            refine dcall_mk htn rfl trivial ?_
            simp only [ring2, pnt, z0, wi, wk1, wk2, ga, gb, hpa, hpb, zae, zaf, zaa, push_cast, ↓reduceIte, reduceCtorEq, zB, zE, zA, zS, zL, zD, zM]
            refine And.intro (by kernel_rfl) ?_
            refine cnd_mk (fun hc => ?_) (fun hc => ?_)
            · have hc := of_decide_eq_true hc
              simp only [ring2, pnt, wi, wk2, zae, zaf, zaa, push_cast, ↓reduceIte, reduceCtorEq, zB, zE, zA, zS, zL, zD, zM]
              refine ⟨⟨by omega, by omega, by omega, by omega⟩, ⟨a :: r, b :: G, by simp, by rw [hSG, hR, ← hA]; simp, ?_, ?_, ?_⟩, by omega⟩
              · rw [hpop, popC, if_pos hc]
              · rw [show ((r.length : Int) + 1 - 0).toNat = r.length + 1 by omega]; simp
              · rw [← hA]; simp [rowP, pnt]
            · have hc := of_decide_eq_false hc
              simp only [ring2, pnt, wi, wk2, zae, zaf, zaa, push_cast, ↓reduceIte, reduceCtorEq, zB, zE, zA, zS, zL, zD, zM]
              have hN2 : stkC (l.take (i + 1)) = p :: b :: a :: r := by rw [hN, hpop, popC, if_neg hc]
              refine ⟨by simp, ⟨by omega, by omega⟩, ⟨i + 1, by omega, .inr ⟨by omega, ?_, ?_⟩⟩, by omega⟩
              · rw [hN2]; simp
              · rw [hN2, hend (r.length + 1 + 1) rfl]; simp [rowP, pnt, ptR]
      · have hi2 : i = l.length := by
          have : ¬ i < l.length := by simpa using hd
          omega
        have hS2 : stkC l = S := by rw [← hS, hi2, zbg]
        have hSp : 1 ≤ S.length := by
          cases S with
          | nil => exact absurd rfl hSn
          | cons b r => simp
        have wk : IntKind.i64.wrap ((S.length : Int) - 1) = (S.length : Int) - 1 := wrap_id (by omega)
        rw [hS2]
        simp only [ring2, pnt, wk, zae, zaf, zaa, push_cast, ↓reduceIte, reduceCtorEq, zB, zE, zA, zS, zL, zD, zM]
        exact ⟨⟨by omega, by omega, by omega, by omega⟩, by rw [show (Int.toNat 0) = 0 from rfl, show ((S.length : Int) - 1 - 0).toNat = S.length - 1 by omega], rfl⟩

noncomputable def hull_Of_pc : PC :=
  (.seq (.reg [p_s 2 (.mov (.c (.nils 2 (.agg [(.v (.int .i64 0)), (.v (.int .i64 0))]))))])
 (.seq (.seq (.reg [p_m 7 0, p_c 8 1 59 [.t 7], p_s 9 (.un .not (.t 8))])
 (.cond (.t 9)
 (.seq (.reg [p_s 2 (.mov (.c (.nils 2 (.agg [(.v (.int .i64 0)), (.v (.int .i64 0))]))))])
 .ret)
 .skip))
 (.seq (.reg [p_s 3 (.mov (.c (.nils 2 (.agg [(.v (.int .i64 0)), (.v (.int .i64 0))]))))])
 (.seq (.seq (.reg [p_m 10 0, p_s 11 (.len false (.t 10)), p_s 12 (.mov (o_i 0))])
 (.block 0 (.loop (.seq (.reg [p_s 13 (.bin .lss (.t 12) (.t 11))])
 (.seq (.cond (.t 13)
 .skip
 (.exit 0))
 (.seq (.block 1 (.seq (.reg [p_s 14 (.ia 2 (.agg [(.v (.int .i64 0)), (.v (.int .i64 0))]) (.t 10) (.t 12)), p_s 15 (.ld (some 2) (.t 14)), p_a 5 (.new [(.r (.v (.int .i64 0))), (.r (.v (.int .i64 0)))]),
 ⟨none, none, 0, .act (.st 2 (.t 5) (.t 15))⟩])
 (.reg [p_m 16 3, p_s 17 (.ld (some 2) (.t 5)), p_a 18 (.bsl 2 (.agg [(.v (.int .i64 0)), (.v (.int .i64 0))]) [(.t 17)]), p_a 19 (.app 2 (.agg [(.v (.int .i64 0)), (.v (.int .i64 0))]) 16 (.t 16) (.t 18)),
 p_m 3 19])))
 (.reg [p_s 20 (.bin .add (.t 12) (o_i 1)), p_m 12 20])))))))
 (.seq (.reg [p_m 21 3, p_c 22 2 60 [(.t 21), (.c (.fn (.func 61) []))]])
 (.seq (.reg [p_m 23 3, p_c 24 3 62 [.t 23], p_m 3 24])
 (.seq (.seq (.reg [p_m 25 3, p_s 26 (.len false (.t 25)), p_s 27 (.bin .lss (.t 26) (o_i 3))])
 (.cond (.t 27)
 (.seq (.reg [p_s 2 (.mov (.c (.nils 2 (.agg [(.v (.int .i64 0)), (.v (.int .i64 0))]))))])
 .ret)
 .skip))
 (.seq (.reg [p_m 28 3, p_c 29 4 63 [.t 28], p_m 6 29])
 (.seq (.reg [p_m 30 3, p_c 31 5 64 [.t 30]])
 (.seq (.reg [p_m 32 6, p_m 33 3, p_c 34 6 63 [.t 33], p_a 35 (.app 2 (.agg [(.v (.int .i64 0)), (.v (.int .i64 0))]) 16 (.t 32) (.t 34)), p_m 6 35])
 (.seq (.seq (.reg [p_m 36 6, p_s 37 (.len false (.t 36)), p_s 38 (.bin .lss (.t 37) (o_i 3))])
 (.cond (.t 38)
 (.seq (.reg [p_s 2 (.mov (.c (.nils 2 (.agg [(.v (.int .i64 0)), (.v (.int .i64 0))]))))])
 .ret)
 .skip))
 (.seq (.reg [p_m 39 6, p_m 2 39])
 .ret))))))))))))
theorem hull_Of_triple : Fun P0 30 1 [(2, false, none)] hull_Of_pc := fun_mk Go.Proofs.Tryz.func30 rfl (by decide) (by kernel_rfl) (by decide) rfl (by kernel_rfl) (by kernel_rfl) (by decide)
def hullP (rg : List P2) : List P2 := if (compP (sortP rg)).length < 3 then [] else if (chainP (compP (sortP rg)) ++ chainP (compP (sortP rg)).reverse).length < 3 then [] else chainP (compP (sortP rg)) ++ chainP (compP (sortP rg)).reverse
theorem insR_mem {x q : P2} : ∀ {s : List P2}, q ∈ insR x s → q = x ∨ q ∈ s
 | [], h => by simp [insR] at h; exact .inl h
 | e :: r, h => by
  rw [insR] at h
  split at h
  ·rcases zad.1 h with rfl | h
   ·simp
   ·rcases insR_mem h with rfl | h
    ·simp
    ·simp [h]
  ·simpa using h
theorem srtR_mem (l : List P2) : ∀ {q : P2}, q ∈ srtR l → q ∈ l := by
 refine snoc_ind (P := fun l => ∀ {q : P2}, q ∈ srtR l → q ∈ l) (fun h => h) (fun l p ih => ?_) l
 intro q h
 rw [srtR_snoc] at h
 rcases insR_mem h with rfl | h
 ·simp
 ·exact List.mem_append_left _ (ih h)
theorem sortP_mem {l : List P2} {q : P2} (h : q ∈ sortP l) : q ∈ l := srtR_mem l (by simpa [sortP] using h)
theorem cmpR_mem {q : P2} : ∀ {u : P2} {l : List P2}, q ∈ cmpR u l → q ∈ l
 | u, [], h => h
 | u, v :: r, h => by
  rw [cmpR] at h
  split at h
  ·exact zai _ (cmpR_mem h)
  ·rcases zad.1 h with rfl | h
   ·simp
   ·exact zai _ (cmpR_mem h)
theorem compP_mem {q : P2} {l : List P2} (h : q ∈ compP l) : q ∈ l := by
 cases l with
 | nil => exact h
 | cons v r =>
  rcases zad.1 h with rfl | h
  ·simp
  ·exact zai _ (cmpR_mem h)
theorem flat_rowP (l : List P2) : ∀ o ∈ [rowP l], FlatO o := fun o ho => by
 rw [zag.1 ho]
 intro x hx
 obtain ⟨p, _, rfl⟩ := zaw.1 hx
 exact ⟨trivial, trivial, trivial⟩
theorem chainP_len (l : List P2) : (stkC l).length - 1 = (chainP l).length := by simp [chainP]
theorem chainP_take (l : List P2) : List.take (chainP l).length ((stkC l).reverse.map ptR) = (chainP l).map ptR := by
 rw [← List.map_take]
 congr 1
 rw [chainP, List.dropLast_eq_take, List.length_take, Nat.min_eq_left (by simp)]
set_option maxHeartbeats 4000000 in
theorem hull_t (rg : List P2) (hl : 1 ≤ rg.length ∧ rg.length ≤ 12) (hn : ∀ p ∈ rg, near29 p) {res : AV} {ro : List Ob}
    (hres : (hullP rg = [] ∧ res = .nils 2 (pnt 0 0) ∧ ro = []) ∨ (hullP rg ≠ [] ∧ res = .own 1000000 0 0 (hullP rg).length ∧ ro = [rowP (hullP rg)])) :
    Triple P0 30 [ring2 rg] [] res ro := by
  refine hull_Of_triple rfl (by decide) ?_
  have hmx := maxLen_big
  have hok := hok_t rg (by omega) hn
  simp only [hull_Of_pc, ring2, push_cast, ↓reduceIte, reduceCtorEq, zB, zE, zA, zS, zL, zD, zM]
  refine call_as (as' := [ring2 rg]) rfl ?_
  refine call_mk hok rfl trivial ?_
  simp only [push_cast, ↓reduceIte, reduceCtorEq, zB, zE, zA, zS, zL, zD, zM]
  refine run_loop [(12, false), (10, false), (11, false), (3, false)] (fun vs pos los => ∃ i : Nat, i ≤ rg.length ∧ pos = [] ∧
      (i = 0 ∧ vs = [int .i64 i, ring2 rg, int .i64 rg.length, .nils 2 (pnt 0 0)] ∧ los = [] ∨
       i ≠ 0 ∧ vs = [int .i64 i, ring2 rg, int .i64 rg.length, .own 2000000 0 0 i] ∧ los = [rowP (rg.take i)]))
    (fun vs _ _ => match vs with | .r (.v (.int _ a)) :: _ => (rg.length - a).toNat | _ => 0) rfl ?_ ?_
  · simp only [ring2, pnt, push_cast, ↓reduceIte, reduceCtorEq, zB, zE, zA, zS, zL, zD, zM]
    exact ⟨0, by omega, .inl ⟨rfl, by simp⟩⟩
  · rintro vs pos los ⟨i, hi, rfl, ⟨h0, rfl, rfl⟩ | ⟨h0, rfl, rfl⟩⟩
    · simp only [ring2, pnt, push_cast, ↓reduceIte, reduceCtorEq, zB, zE, zA, zS, zL, zD, zM]
      refine cnd_mk (fun hd => ?_) (fun hd => ?_)
      · have hi2 : i < rg.length := by simpa using hd
        obtain ⟨p, hp⟩ : ∃ p, rg[i]? = some p := ⟨rg[i], by simp [hi2]⟩
        have wi : IntKind.i64.wrap ((i : Int) + 1) = (i : Int) + 1 := wrap_id (by omega)
        have hN : rg.take (i + 1) = [p] := by
          rw [zao, hp, h0]; rfl
        simp only [ring2, zan, ring_get hp, ring_get0 hp, wi, zab, zac, zaa, push_cast, ↓reduceIte, reduceCtorEq, zB, zE, zA, zS, zL, zD, zM]
        repeat refine And.intro (by first | decide | omega | exact fun _ => by decide | (simp +contextual; done) | kernel_rfl) ?_
        exact ⟨⟨i + 1, by omega, .inr ⟨by omega, by simp [h0], by rw [hN]; simp [ptR, pnt]⟩⟩, by omega⟩
      · have hi2 : ¬ i < rg.length := by simpa using hd
        exact absurd hi2 (by omega)
    · simp only [ring2, pnt, push_cast, ↓reduceIte, reduceCtorEq, zB, zE, zA, zS, zL, zD, zM]
      refine cnd_mk (fun hd => ?_) (fun hd => ?_)
      · have hi2 : i < rg.length := by simpa using hd
        obtain ⟨p, hp⟩ : ∃ p, rg[i]? = some p := ⟨rg[i], by simp [hi2]⟩
        have wi : IntKind.i64.wrap ((i : Int) + 1) = (i : Int) + 1 := wrap_id (by omega)
        have hN : rg.take (i + 1) = rg.take i ++ [p] := by
          rw [zao, hp]; rfl
        have htk : List.take i ((rg.take i).map ptR) = (rg.take i).map ptR := zau (by simp; omega)
        simp only [ring2, zan, ring_get hp, ring_get0 hp, htk, wi, zab, zac, zaa, push_cast, ↓reduceIte, reduceCtorEq, zB, zE, zA, zS, zL, zD, zM]
        repeat refine And.intro (by first | decide | omega | exact fun _ => by decide | (simp +contextual; done) | kernel_rfl) ?_
        exact ⟨⟨i + 1, by omega, .inr ⟨by omega, by simp, by rw [hN]; simp [ptR, pnt]⟩⟩, by omega⟩
      · have hi2 : i = rg.length := by
          have : ¬ i < rg.length := by simpa using hd
          omega
        subst hi2
        rw [zbg]
        simp only [ring2, pnt, push_cast, ↓reduceIte, reduceCtorEq, zB, zE, zA, zS, zL, zD, zM]
        have hne : rg.map ptR ≠ [] := by
          intro h
          have := congrArg List.length h
          simp at this
          rw [this] at hl
          simp at hl
        refine callA_shut 2000000 0 2 _ (rg.map ptR) rfl hne ?_
        simp only [pnt, push_cast, ↓reduceIte, reduceCtorEq, zB, zE, zA, zS, zL, zD, zM]
        refine call_as (as' := [.own 1000000 0 0 rg.length, agF]) rfl ?_
        refine call_mk (po := [rowQ rg]) (srtf_t rg hl) rfl ⟨⟨rfl, by simp [sortP_len]⟩, trivial⟩ ?_
        simp only [rowQ, pnt, push_cast, ↓reduceIte, reduceCtorEq, zB, zE, zA, zS, zL, zD, zM]
        refine callA_own ?_
        simp only [pnt, push_cast, ↓reduceIte, reduceCtorEq, zB, zE, zA, zS, zL, zD, zM]
        obtain ⟨s, hs⟩ : ∃ s, sortP rg = s := ⟨_, rfl⟩
        have hsl : s.length = rg.length := by rw [← hs, sortP_len]
        have hsn : ∀ p ∈ s, near29 p := fun p hp => hn p (sortP_mem (hs ▸ hp))
        unfold hullP at hres
        rw [hs] at hres ⊢
        refine call_as (as' := [.own 1000000 0 0 s.length]) (by rw [hsl]) ?_
        refine call_mk (po := [rowQ s]) (comp_t s (by omega)) rfl ⟨⟨rfl, by have := compP_len s; simp; omega⟩, trivial⟩ ?_
        obtain ⟨c, hc⟩ : ∃ c, compP s = c := ⟨_, rfl⟩
        have hcl : c.length ≤ s.length := by rw [← hc]; exact compP_len s
        have hcn : ∀ p ∈ c, near29 p := fun p hp => hsn p (compP_mem (hc ▸ hp))
        rw [hc] at hres ⊢
        obtain ⟨G, hG⟩ : ∃ G, zbj (s.length - c.length) ((0, 0) : P2) = G := ⟨_, rfl⟩
        rw [hG]
        simp only [rowQ, pnt, push_cast, ↓reduceIte, reduceCtorEq, zB, zE, zA, zS, zL, zD, zM]
        refine cnd_mk (fun hd => ?_) (fun hd => ?_)
        · have hd : c.length < 3 := by have := of_decide_eq_true hd; omega
          rw [if_pos hd] at hres
          rcases hres with ⟨_, rfl, rfl⟩ | ⟨h, _⟩
          · simp only [pnt, push_cast, ↓reduceIte, reduceCtorEq, zB, zE, zA, zS, zL, zD, zM]
          · exact absurd rfl h
        · have hd : ¬ c.length < 3 := by have := of_decide_eq_false hd; omega
          rw [if_neg hd] at hres
          simp only [pnt, push_cast, ↓reduceIte, reduceCtorEq, zB, zE, zA, zS, zL, zD, zM]
          have htk : ∀ A : List P2, A.length = c.length → List.take c.length ((A ++ G).map ptR) = A.map ptR := fun A hA => by
            rw [zap, List.take_left' (by simp [hA])]
          refine callA_lend ?_
          rw [htk c rfl]
          simp only [pnt, push_cast, ↓reduceIte, reduceCtorEq, zB, zE, zA, zS, zL, zD, zM]
          refine call_as (as' := [ring2 c]) rfl ?_
          refine call_lend (chain_t c (by omega) hcn) rfl trivial trivial (flat_rowP _) ?_
          simp only [rowQ, rowP, pnt, push_cast, ↓reduceIte, reduceCtorEq, zB, zE, zA, zS, zL, zD, zM]
          refine callA_own ?_
          simp only [pnt, push_cast, ↓reduceIte, reduceCtorEq, zB, zE, zA, zS, zL, zD, zM]
          refine call_as (as' := [.own 1000000 0 0 c.length]) rfl ?_
          refine call_mk (po := [rowQ (c ++ G)]) (rev_t c G (by omega)) rfl ⟨⟨rfl, by simp⟩, trivial⟩ ?_
          simp only [rowQ, rowP, pnt, push_cast, ↓reduceIte, reduceCtorEq, zB, zE, zA, zS, zL, zD, zM]
          refine callA_lend ?_
          rw [htk c.reverse (by simp)]
          simp only [pnt, push_cast, ↓reduceIte, reduceCtorEq, zB, zE, zA, zS, zL, zD, zM]
          refine call_as (as' := [ring2 c.reverse]) rfl ?_
          refine call_lend (chain_t c.reverse (by simp; omega) (fun p hp => hcn p (by simpa using hp))) rfl trivial trivial (flat_rowP _) ?_
          have e1 := chainP_len c
          have e2 := chainP_len c.reverse
          have e3 := chainP_take c
          have e4 := chainP_take c.reverse
          simp only [rowQ, rowP, pnt, e1, e2, e3, e4, push_cast, ↓reduceIte, reduceCtorEq, zB, zE, zA, zS, zL, zD, zM]
          have b1 := stkC_len c
          have b2 := stkC_len c.reverse
          rw [List.length_reverse] at b2
          refine And.intro ⟨by omega, by omega⟩ ?_
          refine cnd_mk (fun hq => ?_) (fun hq => ?_)
          · have hq : (chainP c ++ chainP c.reverse).length < 3 := by have := of_decide_eq_true hq; rw [zaj]; omega
            rw [if_pos hq] at hres
            rcases hres with ⟨_, rfl, rfl⟩ | ⟨h, _⟩
            · simp only [pnt, push_cast, ↓reduceIte, reduceCtorEq, zB, zE, zA, zS, zL, zD, zM]
            · exact absurd rfl h
          · have hq : ¬ (chainP c ++ chainP c.reverse).length < 3 := by have := of_decide_eq_false hq; rw [zaj]; omega
            rw [if_neg hq] at hres
            rcases hres with ⟨h, _, _⟩ | ⟨_, rfl, rfl⟩
            · rw [h] at hq
              exact absurd (by simp) hq
            · simp only [rowP, pnt, push_cast, ↓reduceIte, reduceCtorEq, zB, zE, zA, zS, zL, zD, zM]
              simp

def ordA (p q : P2) : Prop := p.1 < q.1 ∨ (p.1 = q.1 ∧ p.2 ≤ q.2)
theorem pop_dom {D o : P2 → P2 → Prop} (hr : ∀ a, D a a) (ht : ∀ a b c, D a b → D b c → D a c) (hD : ∀ a b p, o a b → o b p → turnP a b p ≤ 0 → D a b ∨ D p b) (p : P2) :
  ∀ s : List P2, (p :: s).Pairwise (fun b a => o a b) → ∀ q ∈ s, ∃ c ∈ p :: popC p s, D c q
 | [], _, q, hq => by simp at hq
 | [a], _, q, hq => ⟨q, zai _ hq, hr q⟩
 | b :: a :: r, hs, q, hq => by
  rw [popC]
  have h1 := zas.1 hs
  have h2 := zas.1 h1.2
  split
  ·rename_i hc
   have ih := pop_dom hr ht hD p (a :: r) (zas.2 ⟨fun x hx => h1.1 x (zai _ hx), h2.2⟩)
   rcases zad.1 hq with rfl | hq
   ·rcases hD a q p (h2.1 a (by simp)) (h1.1 q (by simp)) hc with h | h
    ·obtain ⟨c, hc1, hc2⟩ := ih a (by simp)
     exact ⟨c, hc1, ht _ _ _ hc2 h⟩
    ·exact ⟨p, by simp, h⟩
   ·exact ih q hq
  ·exact ⟨q, zai _ hq, hr q⟩
theorem popC_sub (p : P2) (s : List P2) : (popC p s).Sublist s := by
 obtain ⟨k, h1, _⟩ := popC_suf p s
 rw [h1]
 exact List.drop_sublist k s
theorem stkC_sub (l : List P2) : (stkC l).Sublist l.reverse := by
 refine snoc_ind (P := fun l => (stkC l).Sublist l.reverse) (List.Sublist.refl _) (fun l p ih => ?_) l
 rw [stkC_snoc, zbm]
 exact List.Sublist.cons_cons p ((popC_sub p _).trans ih)
theorem stk_dom {D o : P2 → P2 → Prop} (hr : ∀ a, D a a) (ht : ∀ a b c, D a b → D b c → D a c) (hD : ∀ a b p, o a b → o b p → turnP a b p ≤ 0 → D a b ∨ D p b) (l : List P2) :
  l.Pairwise o → ∀ q ∈ l, ∃ c ∈ stkC l, D c q := by
 refine snoc_ind (P := fun l => l.Pairwise o → ∀ q ∈ l, ∃ c ∈ stkC l, D c q) (fun _ q hq => by simp at hq) (fun l p ih => ?_) l
 intro hs q hq
 rw [stkC_snoc]
 have h1 := List.pairwise_append.1 hs
 have hrev : (p :: l.reverse).Pairwise (fun b a => o a b) := by
  refine zas.2 ⟨fun x hx => h1.2.2 x (by simpa using hx) p (by simp), ?_⟩
  exact zbn.2 h1.1
 rcases zah.1 hq with hq | hq
 ·obtain ⟨c, hc1, hc2⟩ := ih h1.1 q hq
  obtain ⟨c', hc3, hc4⟩ := pop_dom hr ht hD p (stkC l) (hrev.sublist (List.Sublist.cons_cons p (stkC_sub l))) c hc1
  exact ⟨c', hc3, ht _ _ _ hc4 hc2⟩
 ·rw [zag.1 hq]
  exact ⟨p, by simp, hr p⟩
theorem popC_bot (x p : P2) : ∀ T : List P2, ∃ T', popC x (T ++ [p]) = T' ++ [p]
 | [] => ⟨[], rfl⟩
 | [a] => by
  simp only [zbh, zav]
  rw [popC]
  split
  ·exact ⟨[], rfl⟩
  ·exact ⟨[a], rfl⟩
 | b :: a :: r => by
  simp only [zbh]
  rw [popC]
  split
  ·exact popC_bot x p (a :: r)
  ·exact ⟨b :: a :: r, rfl⟩
theorem stk_bot (p : P2) (rest : List P2) : ∃ T, stkC (p :: rest) = T ++ [p] ∧ (rest ≠ [] → T ≠ []) := by
 refine snoc_ind (P := fun rest => ∃ T, stkC (p :: rest) = T ++ [p] ∧ (rest ≠ [] → T ≠ [])) ⟨[], rfl, fun h => absurd rfl h⟩ (fun l x ih => ?_) rest
 obtain ⟨T, hT, _⟩ := ih
 obtain ⟨T', hT'⟩ := popC_bot x p T
 refine ⟨x :: T', ?_, fun _ => by simp⟩
 rw [← zbh, stkC_snoc, hT, hT']
 rfl
theorem first_in (p : P2) (rest : List P2) (h : rest ≠ []) : p ∈ chainP (p :: rest) := by
 obtain ⟨T, hT, hn⟩ := stk_bot p rest
 rw [chainP, hT, zbm]
 have hne : T.reverse ≠ [] := by simpa using hn h
 show p ∈ (p :: T.reverse).dropLast
 rw [List.dropLast_cons_of_ne_nil hne]
 simp
theorem stk_hull (l : List P2) (h : 2 ≤ l.length) (c : P2) (hc : c ∈ stkC l) : c ∈ chainP l ∨ c ∈ chainP l.reverse := by
 rcases List.eq_nil_or_concat l with rfl | ⟨l', p, rfl⟩
 ·simp at h
 ·rw [List.concat_eq_append] at h hc ⊢
  rw [stkC_snoc] at hc
  have hne : l' ≠ [] := by
   intro h0
   rw [h0] at h
   simp at h
  rcases zad.1 hc with rfl | hc
  ·right
   rw [zbm]
   exact first_in c l'.reverse (by simpa using hne)
  ·left
   rw [chainP, stkC_snoc, List.reverse_cons, List.dropLast_concat]
   simpa using hc
theorem hull_dom (l : List P2) (h : 2 ≤ l.length) (hs : l.Pairwise ordA) (q : P2) (hq : q ∈ l) :
  (∃ c ∈ chainP l ++ chainP l.reverse, c.1 ≤ q.1) ∧ (∃ c ∈ chainP l ++ chainP l.reverse, q.1 ≤ c.1) ∧ (∃ c ∈ chainP l ++ chainP l.reverse, c.2 ≤ q.2) ∧ (∃ c ∈ chainP l ++ chainP l.reverse, q.2 ≤ c.2) := by
 have up : ∀ c ∈ stkC l, c ∈ chainP l ++ chainP l.reverse := fun c hc => zah.2 (stk_hull l h c hc)
 have dn : ∀ c ∈ stkC l.reverse, c ∈ chainP l ++ chainP l.reverse := fun c hc => by
  have := stk_hull l.reverse (by simpa using h) c hc
  rw [List.reverse_reverse] at this
  exact zah.2 this.symm
 refine ⟨?_, ?_, ?_, ?_⟩
 ·obtain ⟨c, h1, h2⟩ := stk_dom (D := fun c q => c.1 ≤ q.1) (o := ordA) (fun a => Int.le_refl _) (fun a b c => Int.le_trans) (fun a b p h1 h2 _ => .inl (by unfold ordA at h1; omega)) l hs q hq
  exact ⟨c, up c h1, h2⟩
 ·obtain ⟨c, h1, h2⟩ := stk_dom (D := fun c q => q.1 ≤ c.1) (o := ordA) (fun a => Int.le_refl _) (fun a b c h1 h2 => Int.le_trans h2 h1) (fun a b p h1 h2 _ => .inr (by unfold ordA at h2; omega)) l hs q hq
  exact ⟨c, up c h1, h2⟩
 ·obtain ⟨c, h1, h2⟩ := stk_dom (D := fun c q => c.2 ≤ q.2) (o := ordA) (fun a => Int.le_refl _) (fun a b c => Int.le_trans) (fun a b p h1 h2 h3 => by
   unfold ordA at h1 h2
   unfold turnP at h3
   by_cases g1 : a.2 ≤ b.2
   ·exact .inl g1
   ·by_cases g2 : p.2 ≤ b.2
    ·exact .inr g2
    ·exfalso
     obtain ⟨α, hα⟩ : ∃ α, b.1 - a.1 = α := ⟨_, rfl⟩
     obtain ⟨β, hβ⟩ : ∃ β, p.1 - b.1 = β := ⟨_, rfl⟩
     obtain ⟨u, hu⟩ : ∃ u, a.2 - b.2 = u := ⟨_, rfl⟩
     obtain ⟨v, hv⟩ : ∃ v, p.2 - b.2 = v := ⟨_, rfl⟩
     rw [show p.2 - a.2 = v - u by omega, show p.1 - a.1 = α + β by omega, show b.2 - a.2 = -u by omega, hα] at h3
     have e : α * (v - u) - -u * (α + β) = α * v + β * u := by
      rw [Int.mul_sub, Int.neg_mul, Int.mul_add, Int.mul_comm u α, Int.mul_comm u β]; omega
     rw [e] at h3
     have a0 : 0 ≤ α := by omega
     have b0 : 0 ≤ β := by omega
     have m1 := zba a0 (show 0 ≤ v by omega)
     have m2 := zba b0 (show 0 ≤ u by omega)
     have z1 : α = 0 := by
      rcases zbk.1 (show α * v = 0 by omega) with h | h
      ·exact h
      ·omega
     have z2 : β = 0 := by
      rcases zbk.1 (show β * u = 0 by omega) with h | h
      ·exact h
      ·omega
     omega) l hs q hq
  exact ⟨c, up c h1, h2⟩
 ·obtain ⟨c, h1, h2⟩ := stk_dom (D := fun c q => q.2 ≤ c.2) (o := fun p q => ordA q p) (fun a => Int.le_refl _) (fun a b c h1 h2 => Int.le_trans h2 h1) (fun a b p h1 h2 h3 => by
   unfold ordA at h1 h2
   unfold turnP at h3
   by_cases g1 : b.2 ≤ a.2
   ·exact .inl g1
   ·by_cases g2 : b.2 ≤ p.2
    ·exact .inr g2
    ·exfalso
     obtain ⟨α, hα⟩ : ∃ α, a.1 - b.1 = α := ⟨_, rfl⟩
     obtain ⟨β, hβ⟩ : ∃ β, b.1 - p.1 = β := ⟨_, rfl⟩
     obtain ⟨u, hu⟩ : ∃ u, b.2 - a.2 = u := ⟨_, rfl⟩
     obtain ⟨v, hv⟩ : ∃ v, b.2 - p.2 = v := ⟨_, rfl⟩
     rw [show p.2 - a.2 = u - v by omega, show p.1 - a.1 = -(α + β) by omega, hu, show b.1 - a.1 = -α by omega] at h3
     have e : -α * (u - v) - u * -(α + β) = α * v + β * u := by
      rw [Int.neg_mul, Int.mul_neg, Int.mul_sub, Int.mul_add, Int.mul_comm u α, Int.mul_comm u β]; omega
     rw [e] at h3
     have a0 : 0 ≤ α := by omega
     have b0 : 0 ≤ β := by omega
     have m1 := zba a0 (show 0 ≤ v by omega)
     have m2 := zba b0 (show 0 ≤ u by omega)
     have z1 : α = 0 := by
      rcases zbk.1 (show α * v = 0 by omega) with h | h
      ·exact h
      ·omega
     have z2 : β = 0 := by
      rcases zbk.1 (show β * u = 0 by omega) with h | h
      ·exact h
      ·omega
     omega) l.reverse (zbn.2 hs) q (by simpa using hq)
  exact ⟨c, dn c h1, h2⟩
theorem lt_iff (p q : P2) : ltP p q = true ↔ (p.1 < q.1 ∨ (p.1 = q.1 ∧ p.2 < q.2)) := by
 unfold ltP cmpP cmpI
 rw [decide_eq_true_iff]
 split <;> split <;> (try split) <;> (try split) <;> omega
theorem insR_mem2 (x : P2) : ∀ (s : List P2) (q : P2), q = x ∨ q ∈ s → q ∈ insR x s
 | [], q, h => by simpa [insR] using h
 | e :: r, q, h => by
  rw [insR]
  split
  ·rcases h with rfl | h
   ·exact zai _ (insR_mem2 q r q (.inl rfl))
   ·rcases zad.1 h with rfl | h
    ·simp
    ·exact zai _ (insR_mem2 x r q (.inr h))
  ·simpa using h
theorem sortP_mem2 {l : List P2} {q : P2} (h : q ∈ l) : q ∈ sortP l := by
 have key : ∀ l : List P2, ∀ q ∈ l, q ∈ srtR l := fun l => by
  refine snoc_ind (P := fun l => ∀ q ∈ l, q ∈ srtR l) (fun q h => h) (fun l p ih q hq => ?_) l
  rw [srtR_snoc]
  refine insR_mem2 _ _ _ ?_
  rcases zah.1 hq with h | h
  ·exact .inr (ih q h)
  ·exact .inl (by simpa using h)
 unfold sortP
 simpa using key l q h
theorem insR_ord (x : P2) : ∀ s : List P2, s.Pairwise (fun b a => ordA a b) → (insR x s).Pairwise (fun b a => ordA a b)
 | [], _ => by simp [insR]
 | e :: r, h => by
  have h1 := zas.1 h
  rw [insR]
  split
  ·rename_i hlt
   have hlt := (lt_iff x e).1 hlt
   refine zas.2 ⟨fun y hy => ?_, insR_ord x r h1.2⟩
   rcases insR_mem hy with rfl | hy
   ·unfold ordA; omega
   ·exact h1.1 y hy
  ·rename_i hlt
   have hlt : ¬ (x.1 < e.1 ∨ (x.1 = e.1 ∧ x.2 < e.2)) := fun h => hlt ((lt_iff x e).2 h)
   refine zas.2 ⟨fun y hy => ?_, h⟩
   rcases zad.1 hy with rfl | hy
   ·unfold ordA; omega
   ·have := h1.1 y hy
    unfold ordA at this ⊢; omega
theorem sortP_ord (l : List P2) : (sortP l).Pairwise ordA := by
 unfold sortP
 refine zbn.2 ?_
 refine snoc_ind (P := fun l => (srtR l).Pairwise (fun b a => ordA a b)) List.Pairwise.nil (fun l p ih => ?_) l
 rw [srtR_snoc]
 exact insR_ord p _ ih
theorem cmpR_sub : ∀ (u : P2) (l : List P2), (cmpR u l).Sublist l
 | u, [] => List.Sublist.refl _
 | u, q :: r => by
  rw [cmpR]
  split
  ·exact (cmpR_sub u r).cons q
  ·exact (cmpR_sub q r).cons_cons q
theorem compP_sub (l : List P2) : (compP l).Sublist l := by
 cases l with
 | nil => exact List.Sublist.refl _
 | cons p r => exact (cmpR_sub p r).cons_cons p
theorem cmpR_mem2 : ∀ (u : P2) (l : List P2) (q : P2), q ∈ l → q = u ∨ q ∈ cmpR u l
 | u, [], q, h => by simp at h
 | u, v :: r, q, h => by
  rw [cmpR]
  split
  ·rename_i hv
   rcases zad.1 h with h | h
   ·exact .inl (h.trans hv)
   ·exact cmpR_mem2 u r q h
  ·rcases zad.1 h with h | h
   ·exact .inr (by simp [h])
   ·rcases cmpR_mem2 v r q h with h | h
    ·exact .inr (by simp [h])
    ·exact .inr (zai _ h)
theorem compP_mem2 {l : List P2} {q : P2} (h : q ∈ l) : q ∈ compP l := by
 cases l with
 | nil => exact h
 | cons p r =>
  show q ∈ p :: cmpR p r
  rcases zad.1 h with h | h
  ·simp [h]
  ·rcases cmpR_mem2 p r q h with h | h
   ·simp [h]
   ·exact zai _ h
theorem hullP_dom (rg : List P2) (h : hullP rg ≠ []) (q : P2) (hq : q ∈ rg) :
  (∃ c ∈ hullP rg, c.1 ≤ q.1) ∧ (∃ c ∈ hullP rg, q.1 ≤ c.1) ∧ (∃ c ∈ hullP rg, c.2 ≤ q.2) ∧ (∃ c ∈ hullP rg, q.2 ≤ c.2) := by
 unfold hullP at h ⊢
 split at h
 ·exact absurd rfl h
 ·rename_i h1
  split at h
  ·exact absurd rfl h
  ·rename_i h2
   rw [if_neg h1, if_neg h2]
   exact hull_dom _ (by omega) ((sortP_ord rg).sublist (compP_sub _)) q (compP_mem2 (sortP_mem2 hq))

def shP (d p : P2) : P2 := (p.1 + d.1, p.2 + d.2)
theorem turn_sh (d a b c : P2) : turnP (shP d a) (shP d b) (shP d c) = turnP a b c := by
 unfold turnP shP
 rw [show b.1 + d.1 - (a.1 + d.1) = b.1 - a.1 by omega, show c.2 + d.2 - (a.2 + d.2) = c.2 - a.2 by omega, show b.2 + d.2 - (a.2 + d.2) = b.2 - a.2 by omega, show c.1 + d.1 - (a.1 + d.1) = c.1 - a.1 by omega]
theorem shP_inj (d : P2) {p q : P2} (h : shP d p = shP d q) : p = q := by
 unfold shP at h
 have h1 := congrArg Prod.fst h
 have h2 := congrArg Prod.snd h
 simp only at h1 h2
 exact Prod.ext (by omega) (by omega)
theorem popC_sh (d p : P2) : ∀ s : List P2, popC (shP d p) (s.map (shP d)) = (popC p s).map (shP d)
 | [] => rfl
 | [a] => rfl
 | b :: a :: r => by
  simp only [zat]
  rw [popC, popC, turn_sh]
  split
  ·exact popC_sh d p (a :: r)
  ·rfl
theorem stkC_sh (d : P2) (l : List P2) : stkC (l.map (shP d)) = (stkC l).map (shP d) := by
 refine snoc_ind (P := fun l => stkC (l.map (shP d)) = (stkC l).map (shP d)) rfl (fun l p ih => ?_) l
 rw [zap, zat, List.map_nil, stkC_snoc, stkC_snoc, ih, popC_sh]
 rfl
theorem chainP_sh (d : P2) (l : List P2) : chainP (l.map (shP d)) = (chainP l).map (shP d) := by
 unfold chainP
 rw [stkC_sh, ← List.map_reverse, List.map_dropLast]
theorem lt_sh (d p q : P2) : ltP (shP d p) (shP d q) = ltP p q := by
 rw [Bool.eq_iff_iff, lt_iff, lt_iff]
 unfold shP
 simp only
 omega
theorem insR_sh (d x : P2) : ∀ s : List P2, insR (shP d x) (s.map (shP d)) = (insR x s).map (shP d)
 | [] => rfl
 | e :: r => by
  simp only [zat]
  rw [insR, insR, lt_sh]
  split
  ·rw [zat, insR_sh d x r]
  ·rfl
theorem sortP_sh (d : P2) (l : List P2) : sortP (l.map (shP d)) = (sortP l).map (shP d) := by
 unfold sortP
 rw [List.map_reverse]
 congr 1
 refine snoc_ind (P := fun l => srtR (l.map (shP d)) = (srtR l).map (shP d)) rfl (fun l p ih => ?_) l
 rw [zap, zat, List.map_nil, srtR_snoc, srtR_snoc, ih, insR_sh]
theorem cmpR_sh (d : P2) : ∀ (u : P2) (l : List P2), cmpR (shP d u) (l.map (shP d)) = (cmpR u l).map (shP d)
 | u, [] => rfl
 | u, q :: r => by
  rw [zat, cmpR, cmpR]
  by_cases h : q = u
  ·rw [if_pos h, if_pos (by rw [h])]
   exact cmpR_sh d u r
  ·rw [if_neg h, if_neg (fun h2 => h (shP_inj d h2)), zat, cmpR_sh d q r]
theorem compP_sh (d : P2) (l : List P2) : compP (l.map (shP d)) = (compP l).map (shP d) := by
 cases l with
 | nil => rfl
 | cons p r =>
  show shP d p :: cmpR (shP d p) (r.map (shP d)) = _
  rw [cmpR_sh]
  rfl
theorem hullP_sh (d : P2) (rg : List P2) : hullP (rg.map (shP d)) = (hullP rg).map (shP d) := by
 unfold hullP
 rw [sortP_sh, compP_sh, ← List.map_reverse, chainP_sh, chainP_sh, zan, ← zap, zan]
 split
 ·rfl
 ·split
  ·rfl
  ·rfl

theorem prs_same (nx : P2) (K : P2 → Bool) : ∀ l : List P2, (∀ x ∈ prs nx l, K x.1 = K x.2) → ∀ p ∈ l, K p = K nx
 | [], _, p, hp => by simp at hp
 | [a], h, p, hp => by
  rw [zag.1 hp]
  exact h (a, nx) (by simp [prs])
 | a :: b :: r, h, p, hp => by
  have ih := prs_same nx K (b :: r) (fun x hx => h x (by simp only [prs] at hx ⊢; exact zai _ hx))
  rcases zad.1 hp with rfl | hp
  ·have := h (p, b) (by simp [prs])
   rw [show K p = K b from this]
   exact ih b (by simp)
  ·exact ih p hp
theorem prs_fst (nx : P2) : ∀ l : List P2, (prs nx l).flatMap (fun p => [p.1]) = l
 | [] => rfl
 | [a] => rfl
 | a :: b :: r => by
  have := prs_fst nx (b :: r)
  simp only [prs] at this ⊢
  rw [zbd, this]
  rfl
theorem prs_mem (nx : P2) : ∀ (l : List P2) (x : P2 × P2), x ∈ prs nx l → x.1 ∈ l ∧ (x.2 ∈ l ∨ x.2 = nx)
 | [], x, h => by simp [prs] at h
 | [a], x, h => by
  have : x = (a, nx) := by simpa [prs] using h
  subst this
  simp
 | a :: b :: r, x, h => by
  have ih := prs_mem nx (b :: r)
  simp only [prs] at h ih
  rcases zad.1 h with rfl | h
  ·simp
  ·obtain ⟨h1, h2⟩ := ih x h
   exact ⟨zai _ h1, h2.imp (zai _) id⟩
theorem cross_on {l : Lin} (hl : l.ok) (p q : P2) : sel l.axis (crossP l p q) = l.at' := by
 rcases hl with h | h <;> simp [crossP, sel, h]
theorem cut_whole {l : Lin} (hl : l.ok) (rg : List P2) (h0 : cutP l rg ≠ []) (h1 : ∀ p ∈ cutP l rg, sel l.axis p ≠ l.at') : cutP l rg = rg := by
 obtain ⟨h, hh⟩ : ∃ h, rg.head? = some h := by
  cases rg with
  | nil => exact absurd rfl h0
  | cons a r => exact ⟨a, rfl⟩
 have hmem : h ∈ rg := List.mem_of_mem_head? hh
 have e := cutP_filter l hl rg h hh
 have hin : ∀ p, p ∈ refL l (prs h rg) → keepsP l p = true → sel l.axis p ≠ l.at' := fun p hp hk => h1 p (by rw [e]; exact zbe.2 ⟨hp, hk⟩)
 have hnb : ∀ x ∈ prs h rg, betwP l x.1 x.2 = false := fun x hx => by
  cases hb : betwP l x.1 x.2 with
  | false => rfl
  | true =>
   exfalso
   refine hin (crossP l x.1 x.2) ?_ (cross_keeps l hl _ _) (cross_on hl _ _)
   exact List.mem_flatMap.2 ⟨x, hx, by simp [insL, hb]⟩
 have hre : refL l (prs h rg) = rg := by
  have : ∀ L : List (P2 × P2), (∀ x ∈ L, betwP l x.1 x.2 = false) → refL l L = L.flatMap (fun p => [p.1]) := fun L hL => by
   induction L with
   | nil => rfl
   | cons x L ih =>
    have i1 := ih fun y hy => hL y (zai _ hy)
    unfold refL at i1 ⊢
    rw [zbd, zbd, i1]
    simp [insL, hL x (by simp)]
  rw [this _ hnb, prs_fst]
 rw [hre] at e hin
 have hsame : ∀ x ∈ prs h rg, keepsP l x.1 = keepsP l x.2 := fun x hx => by
  obtain ⟨m1, m2⟩ := prs_mem h rg x hx
  have m2 : x.2 ∈ rg := m2.elim id (fun e => e ▸ hmem)
  have n := hnb x hx
  have i1 := hin x.1 m1
  have i2 := hin x.2 m2
  obtain ⟨a, c, b⟩ := l
  unfold keepsP at i1 i2 ⊢
  unfold betwP at n
  simp only at n i1 i2 ⊢
  generalize sel a x.1 = u at *
  generalize sel a x.2 = v at *
  have n2 : ¬ (u < c ∧ c < v) ∧ ¬ (v < c ∧ c < u) := by
   simp only [Bool.or_eq_false_iff, Bool.and_eq_false_iff, decide_eq_false_iff_not] at n
   omega
  cases b <;> simp only [if_true, if_false, zbf, decide_eq_true_iff] at i1 i2 ⊢
  ·rw [decide_eq_decide]
   omega
  ·rw [decide_eq_decide]
   omega
 have hall := prs_same h (keepsP l) rg hsame
 cases hk : keepsP l h with
 | true =>
  rw [e]
  exact List.filter_eq_self.2 fun p hp => by rw [hall p hp, hk]
 | false =>
  exfalso
  refine h0 ?_
  rw [e]
  exact List.filter_eq_nil_iff.2 fun p hp => by rw [hall p hp, hk]; simp
theorem box_whole (lo hi : P2) (rg : List P2) (h0 : boxP lo hi rg ≠ []) (h1 : ∀ p ∈ boxP lo hi rg, (lo.1 < p.1 ∧ p.1 < hi.1) ∧ (lo.2 < p.2 ∧ p.2 < hi.2)) : boxP lo hi rg = rg := by
 have e : boxP lo hi rg = cutP ⟨1, hi.2, false⟩ (cutP ⟨1, lo.2, true⟩ (cutP ⟨0, hi.1, false⟩ (cutP ⟨0, lo.1, true⟩ rg))) := rfl
 rw [e] at h0 h1 ⊢
 have a4 := cut_whole (l := ⟨1, hi.2, false⟩) (.inr rfl) _ h0 (fun p hp => by have := h1 p hp; simp [sel]; omega)
 rw [a4] at h0 h1 ⊢
 have a3 := cut_whole (l := ⟨1, lo.2, true⟩) (.inr rfl) _ h0 (fun p hp => by have := h1 p hp; simp [sel]; omega)
 rw [a3] at h0 h1 ⊢
 have a2 := cut_whole (l := ⟨0, hi.1, false⟩) (.inl rfl) _ h0 (fun p hp => by have := h1 p hp; simp [sel]; omega)
 rw [a2] at h0 h1 ⊢
 exact cut_whole (l := ⟨0, lo.1, true⟩) (.inl rfl) _ h0 (fun p hp => by have := h1 p hp; simp [sel]; omega)

def uniL (v : Bool) (bs : List Bool) : Bool := ((bs.dropWhile (· == v)).dropWhile (· == !v)).all (· == v)
theorem uni_bits (f : P2 → Bool) (l : List P2) (v : Bool) (h : uniL v (l.map f) = true) : Uni f l := by
 refine ⟨v, l.takeWhile (fun p => f p == v), (l.dropWhile (fun p => f p == v)).takeWhile (fun p => f p == !v), (l.dropWhile (fun p => f p == v)).dropWhile (fun p => f p == !v), ?_, ?_, ?_, ?_⟩
 ·rw [List.takeWhile_append_dropWhile, List.takeWhile_append_dropWhile]
 ·intro a ha
  have := List.all_takeWhile (p := fun p => f p == v) (l := l)
  have := List.all_eq_true.1 this a ha
  simpa using this
 ·intro a ha
  have := List.all_takeWhile (p := fun p => f p == !v) (l := l.dropWhile (fun p => f p == v))
  have := List.all_eq_true.1 this a ha
  simpa using this
 ·intro a ha
  unfold uniL at h
  rw [List.dropWhile_map, List.dropWhile_map, List.all_map] at h
  have := List.all_eq_true.1 h a ha
  simpa using this
theorem six_uni (a b c X t : Int) (h : b = a + c) : uniL (decide (X + a ≤ t)) [decide (X + a ≤ t), decide (X + b ≤ t), decide (X + c ≤ t), decide (X + -a ≤ t), decide (X + -b ≤ t), decide (X + -c ≤ t)] = true := by
 subst h
 cases h0 : decide (X + a ≤ t) <;> cases h1 : decide (X + (a + c) ≤ t) <;> cases h2 : decide (X + c ≤ t) <;> cases h3 : decide (X + -a ≤ t) <;> cases h4 : decide (X + -(a + c) ≤ t) <;> cases h5 : decide (X + -c ≤ t) <;>
  first
  | rfl
  | (exfalso; simp only [decide_eq_true_iff, decide_eq_false_iff_not] at h0 h1 h2 h3 h4 h5; omega)
def hexR (z : Ei) (r : Nat) : List P2 := (List.range 6).map fun i => (hx z r i, hy z r i)
theorem hexR_L (z : Ei) (r : Nat) : hexL z r 6 = (hexR z r).map ptR := by
 unfold hexL hexR
 rw [List.map_map]
 rfl
theorem hexR_len (z : Ei) (r : Nat) : (hexR z r).length = 6 := by simp [hexR]
theorem kx_sym (r : Nat) (hr : r ≤ 12) : (kx r 1 = kx r 0 + kx r 2 ∧ kx r 3 = -kx r 0 ∧ kx r 4 = -kx r 1 ∧ kx r 5 = -kx r 2) ∧ (ky r 1 = ky r 0 + ky r 2 ∧ ky r 3 = -ky r 0 ∧ ky r 4 = -ky r 1 ∧ ky r 5 = -ky r 2) := by
 have : ∀ j : Fin 13, (kx j.val 1 = kx j.val 0 + kx j.val 2 ∧ kx j.val 3 = -kx j.val 0 ∧ kx j.val 4 = -kx j.val 1 ∧ kx j.val 5 = -kx j.val 2) ∧ (ky j.val 1 = ky j.val 0 + ky j.val 2 ∧ ky j.val 3 = -ky j.val 0 ∧ ky j.val 4 = -ky j.val 1 ∧ ky j.val 5 = -ky j.val 2) := by decide +kernel
 exact this ⟨r, by omega⟩
theorem hump_hex (z : Ei) (r : Nat) (hr : r ≤ 12) (d : P2) : Hump ((hexR z r).map (shP d)) := fun a c => by
 obtain ⟨⟨x1, x3, x4, x5⟩, y1, y3, y4, y5⟩ := kx_sym r hr
 have e : ((hexR z r).map (shP d)).map (thr a c) = [thr a c (hx z r 0 + d.1, hy z r 0 + d.2), thr a c (hx z r 1 + d.1, hy z r 1 + d.2), thr a c (hx z r 2 + d.1, hy z r 2 + d.2), thr a c (hx z r 3 + d.1, hy z r 3 + d.2), thr a c (hx z r 4 + d.1, hy z r 4 + d.2), thr a c (hx z r 5 + d.1, hy z r 5 + d.2)] := rfl
 refine uni_bits _ _ (thr a c (hx z r 0 + d.1, hy z r 0 + d.2)) ?_
 rw [e]
 unfold thr sel
 by_cases ha : a = 0
 ·simp only [if_pos ha, hx_eq, x3, x4, x5]
  have := six_uni (kx r 0) (kx r 1) (kx r 2) (3 * cx z r + d.1) c x1
  simp only [show ∀ k : Int, 3 * cx z r + k + d.1 = 3 * cx z r + d.1 + k from fun k => by omega]
  exact this
 ·simp only [if_neg ha, hy_eq, y3, y4, y5]
  have := six_uni (ky r 0) (ky r 1) (ky r 2) (3 * cy z r + d.2) c y1
  simp only [show ∀ k : Int, 3 * cy z r + k + d.2 = 3 * cy z r + d.2 + k from fun k => by omega]
  exact this
theorem isrt_n : Triple P0 127 [ring2 [], int .i64 0, int .i64 0, agF] [] (.tup []) [] := by
 refine isrtc_hull_point_triple rfl (by simp) ?_
 simp only [isrtc_hull_point_pc, agF, ring2, push_cast, ↓reduceIte, reduceCtorEq, zB, zE, zA, zS, zL, zD, zM]
 refine run_loop [(0, false), (1, false), (2, false), (3, false), (8, false)] (fun vs pos los => vs = [ring2 [], int .i64 0, int .i64 0, agF, int .i64 1] ∧ pos = [] ∧ los = []) (fun _ _ _ => 0) rfl ?_ ?_
 ·simp only [agF, pnt, ring2, push_cast, ↓reduceIte, reduceCtorEq, zB, zE, zA, zS, zL, zD, zM]
  rfl
 ·rintro vs pos los ⟨rfl, rfl, rfl⟩
  have z0 : decide ((1 : Int) < 0) = false := rfl
  simp only [agF, pnt, ring2, z0, push_cast, ↓reduceIte, reduceCtorEq, zB, zE, zA, zS, zL, zD, zM]
theorem pdqc_n (lim : Int) : Triple P0 99 [ring2 [], int .i64 0, int .i64 0, int .i64 lim, agF] [] (.tup []) [] := by
 refine pdqc_hull_point_triple rfl (by simp) ?_
 simp only [pdqc_hull_point_pc, agF, pnt, ring2, push_cast, ↓reduceIte, reduceCtorEq, zB, zE, zA, zS, zL, zD, zM]
 refine run_loop [(0, false), (1, false), (2, false), (3, false), (4, false), (10, false), (11, false)] (fun vs pos los => vs = [ring2 [], int .i64 0, int .i64 0, int .i64 lim, agF, bl true, bl true] ∧ pos = [] ∧ los = []) (fun _ _ _ => 0) rfl ?_ ?_
 ·simp only [agF, pnt, ring2, push_cast, ↓reduceIte, reduceCtorEq, zB, zE, zA, zS, zL, zD, zM]
 ·rintro vs pos los ⟨rfl, rfl, rfl⟩
  have w0 : IntKind.i64.wrap ((0 : Int) - 0) = 0 := rfl
  have d0 : decide ((0 : Int) ≤ 12) = true := rfl
  simp only [agF, pnt, ring2, w0, d0, push_cast, ↓reduceIte, reduceCtorEq, zB, zE, zA, zS, zL, zD, zM]
  refine call_as (as' := [ring2 [], int .i64 0, int .i64 0, agF]) rfl ?_
  refine call_mk isrt_n rfl trivial ?_
  simp only [push_cast, ↓reduceIte, reduceCtorEq, zB, zE, zA, zS, zL, zD, zM]
theorem srtf_n : Triple P0 60 [ring2 [], agF] [] (.tup []) [] := by
 refine srtf_hull_point_triple rfl (by simp) ?_
 have w : IntKind.u64.wrap 0 = 0 := rfl
 have h := hlen_t 0 (by decide)
 simp only [srtf_hull_point_pc, agF, pnt, ring2, w, push_cast, ↓reduceIte, reduceCtorEq, zB, zE, zA, zS, zL, zD, zM]
 refine call_as (as' := [int .u64 ((0 : Nat) : Int)]) rfl ?_
 refine call_mk h rfl trivial ?_
 simp only [push_cast, ↓reduceIte, reduceCtorEq, zB, zE, zA, zS, zL, zD, zM]
 refine call_as (as' := [ring2 [], int .i64 0, int .i64 0, int .i64 (bl12 0), agF]) rfl ?_
 refine call_mk (pdqc_n _) rfl trivial ?_
 simp only [push_cast, ↓reduceIte, reduceCtorEq, zB, zE, zA, zS, zL, zD, zM]
theorem comp_n : Triple P0 62 [ring2 []] [] (ring2 []) [] := by
 refine cmpt_hull_point_triple rfl (by simp) ?_
 have z0 : decide ((0 : Int) < 2) = true := rfl
 simp only [cmpt_hull_point_pc, pnt, ring2, z0, push_cast, ↓reduceIte, reduceCtorEq, zB, zE, zA, zS, zL, zD, zM]
theorem hull_n : Triple P0 30 [ring2 []] [] (.nils 2 (pnt 0 0)) [] := by
 refine hull_Of_triple rfl (by decide) ?_
 have hok := hok_t [] (by simp) (fun p hp => by simp at hp)
 simp only [hull_Of_pc, ring2, push_cast, ↓reduceIte, reduceCtorEq, zB, zE, zA, zS, zL, zD, zM]
 refine call_as (as' := [ring2 []]) rfl ?_
 refine call_mk hok rfl trivial ?_
 simp only [push_cast, ↓reduceIte, reduceCtorEq, zB, zE, zA, zS, zL, zD, zM]
 refine run_loop [(12, false), (10, false), (11, false), (3, false)] (fun vs pos los => vs = [int .i64 0, ring2 [], int .i64 0, .nils 2 (pnt 0 0)] ∧ pos = [] ∧ los = []) (fun _ _ _ => 0) rfl ?_ ?_
 ·simp only [ring2, pnt, push_cast, ↓reduceIte, reduceCtorEq, zB, zE, zA, zS, zL, zD, zM]
  try rfl
 ·rintro vs pos los ⟨rfl, rfl, rfl⟩
  have z0 : decide ((0 : Int) < 0) = false := rfl
  simp only [ring2, pnt, z0, push_cast, ↓reduceIte, reduceCtorEq, zB, zE, zA, zS, zL, zD, zM]
  refine call_as (as' := [ring2 [], agF]) rfl ?_
  refine call_mk srtf_n rfl trivial ?_
  simp only [pnt, push_cast, ↓reduceIte, reduceCtorEq, zB, zE, zA, zS, zL, zD, zM]
  refine call_as (as' := [ring2 []]) rfl ?_
  refine call_mk comp_n rfl trivial ?_
  have z1 : decide ((0 : Int) < 3) = true := rfl
  simp only [pnt, ring2, z1, push_cast, ↓reduceIte, reduceCtorEq, zB, zE, zA, zS, zL, zD, zM]

noncomputable def view_Shape_pc : PC :=
  (.seq (.reg [p_a 2 (.box (.t 0)), p_s 4 (.mov (.c (.nils 2 (.agg [(.v (.int .i64 0)), (.v (.int .i64 0))]))))])
 (.seq (.reg [p_m 15 1, p_c 16 1 25 [.t 15], p_m 14 16, p_s 17 (.ext (.t 14) 0), p_s 18 (.ext (.t 14) 1), p_a 5 (.new [(.r (.v (.int .i64 0))), (.r (.v (.int .i64 0))), (.r (.v (.int .i64 0)))]),
 ⟨none, none, 0, .act (.st 3 (.t 5) (.t 17))⟩, p_m 6 18])
 (.seq (.seq (.reg [p_s 19 (.ld (some 4) (.t 2)), p_c 20 2 8 [.t 19], p_s 21 (.bin .neq (.t 20) (o_i 0)), p_m 22 21, p_g 23 22 false (.mov (.t 6)), p_g 24 22 false (.bin .neq (.t 23) (o_i 0)),
 p_s 25 (.pick (.t 22) (.c (.r (.v (.bool true)))) (.t 24)), p_m 26 25, p_g 27 26 false (.fa 0 (.t 5)), p_g 28 26 false (.ld none (.t 27)), p_g 29 26 false (.fa 3 (.t 2)),
 p_g 30 26 false (.ld none (.t 29)), p_g 31 26 false (.bin .neq (.t 28) (.t 30)), p_s 32 (.pick (.t 26) (.c (.r (.v (.bool true)))) (.t 31)), p_m 33 32, p_g 34 33 false (.ld (some 4) (.t 2)),
 p_g 35 33 false (.ld (some 3) (.t 5)), ⟨(some 36), (some (33, false)), 3, .call 26 [(.t 34), (.t 35)]⟩, p_g 37 33 false (.un .not (.t 36)), p_s 38 (.pick (.t 33) (.c (.r (.v (.bool true)))) (.t 37))])
 (.cond (.t 38)
 (.seq (.reg [p_s 4 (.mov (.c (.nils 2 (.agg [(.v (.int .i64 0)), (.v (.int .i64 0))]))))])
 .ret)
 .skip))
 (.seq (.reg [p_s 40 (.fa 1 (.t 5)), p_s 41 (.ld (some 2) (.t 40)), p_s 42 (.fa 0 (.t 5)), p_s 43 (.ld none (.t 42)), p_c 44 4 27 [.t 41, .t 43], p_m 39 44, p_s 45 (.ext (.t 39) 0),
 p_s 46 (.ext (.t 39) 1), p_m 7 45, p_m 8 46])
 (.seq (.reg [p_s 48 (.ld (some 4) (.t 2)), p_c 49 5 24 [.t 48], p_m 47 49, p_s 50 (.ext (.t 47) 0), p_s 51 (.ext (.t 47) 1), p_s 52 (.ext (.t 47) 2), p_m 9 50, p_m 10 51, p_m 11 52])
 (.seq (.seq (.reg [p_m 53 7, p_s 54 (.len false (.t 53)), p_s 55 (.mov (o_i 0))])
 (.block 0 (.loop (.seq (.reg [p_s 56 (.bin .lss (.t 55) (.t 54))])
 (.seq (.cond (.t 56)
 .skip
 (.exit 0))
 (.seq (.block 1 (.seq (.reg [p_m 57 55, p_m 12 57])
 (.seq (.drw [p_m 58 7, p_m 59 12, p_s 60 (.ia 2 (.agg [(.v (.int .i64 0)), (.v (.int .i64 0))]) (.t 58) (.t 59)), p_s 61 (.iaa 2 1 (.t 60) (o_i 0)), p_s 62 (.ld none (.t 61)),
 p_m 63 9, p_s 64 (.bin .mul (o_i 3) (.t 63)), p_s 65 (.bin .sub (.t 62) (.t 64)), p_s 66 (.ia 2 (.agg [(.v (.int .i64 0)), (.v (.int .i64 0))]) (.t 58) (.t 59)),
 p_s 67 (.iaa 2 1 (.t 66) (o_i 0)), ⟨none, none, 0, .act (.st 1 (.t 67) (.t 65))⟩]
 [[], [], [0, 1], [0, 1, 2], [0, 1, 2, 3], [], [5], [0, 1, 2, 3, 4, 5, 6], [0, 1], [0, 1, 2, 3, 4, 5, 6, 7, 8], [0, 1, 2, 3, 4, 5, 6, 7, 8, 9]])
 (.drw [p_m 68 7, p_m 69 12, p_s 70 (.ia 2 (.agg [(.v (.int .i64 0)), (.v (.int .i64 0))]) (.t 68) (.t 69)), p_s 71 (.iaa 2 1 (.t 70) (o_i 1)), p_s 72 (.ld none (.t 71)),
 p_m 73 10, p_s 74 (.bin .mul (o_i 3) (.t 73)), p_s 75 (.bin .sub (.t 72) (.t 74)), p_s 76 (.ia 2 (.agg [(.v (.int .i64 0)), (.v (.int .i64 0))]) (.t 68) (.t 69)),
 p_s 77 (.iaa 2 1 (.t 76) (o_i 1)), ⟨none, none, 0, .act (.st 1 (.t 77) (.t 75))⟩]
 [[], [], [0, 1], [0, 1, 2], [0, 1, 2, 3], [], [5], [0, 1, 2, 3, 4, 5, 6], [0, 1], [0, 1, 2, 3, 4, 5, 6, 7, 8], [0, 1, 2, 3, 4, 5, 6, 7, 8, 9]]))))
 (.reg [p_s 78 (.bin .add (.t 55) (o_i 1)), p_m 55 78])))))))
 (.seq (.reg [p_s 79 (.ld (some 4) (.t 2)), p_c 80 6 28 [.t 79], p_m 13 80])
 (.seq (.reg [p_m 81 7, p_m 82 13, p_s 83 (.bin .mul (o_i (-192)) (.t 82)), p_m 84 13, p_s 85 (.bin .mul (o_i (-192)) (.t 84)), p_s 86 (.build [(.r (.v (.int .i64 0))), (.r (.v (.int .i64 0)))] [(0, 1, (.t 83)), (1, 1, (.t 85))]),
 p_m 87 13, p_s 88 (.bin .mul (o_i 12480) (.t 87)), p_m 89 13, p_s 90 (.bin .mul (o_i 12480) (.t 89)), p_s 91 (.build [(.r (.v (.int .i64 0))), (.r (.v (.int .i64 0)))] [(0, 1, (.t 88)), (1, 1, (.t 90))]),
 p_c 92 7 29 [.t 81, .t 86, .t 91], p_m 7 92])
 (.seq (.reg [p_m 93 7, p_m 94 13, p_s 95 (.bin .mul (o_i 3) (.t 94)), p_c 96 8 31 [.t 93, .t 95], p_c 97 9 30 [.t 96], p_m 4 97])
 .ret)))))))))
theorem view_Shape_triple : Fun P0 10 2 [(4, false, none)] view_Shape_pc := fun_mk Go.Proofs.Tryz.func10 rfl (by decide) (by kernel_rfl) (by decide) rfl (by kernel_rfl) (by kernel_rfl) (by decide)
theorem cut_keeps {l : Lin} (hl : l.ok) {rg : List P2} {p : P2} (h : p ∈ cutP l rg) : keepsP l p = true := by
 cases rg with
 | nil => simp [cutP, cutN] at h
 | cons a r =>
  rw [cutP_filter l hl (a :: r) a rfl] at h
  exact (zbe.1 h).2
theorem box_win (lo hi : P2) {a b : P2} {rg : List P2} (h : RgIn a b rg) : RgIn lo hi (boxP lo hi rg) := by
 have e : boxP lo hi rg = cutP ⟨1, hi.2, false⟩ (cutP ⟨1, lo.2, true⟩ (cutP ⟨0, hi.1, false⟩ (cutP ⟨0, lo.1, true⟩ rg))) := rfl
 have h1 : RgIn (lo.1, a.2) (b.1, b.2) (cutP ⟨0, lo.1, true⟩ rg) := fun p hp => by
  have k := cut_keeps (l := ⟨0, lo.1, true⟩) (.inl rfl) hp
  have i := cutP_in (l := ⟨0, lo.1, true⟩) (.inl rfl) h p hp
  simp [keepsP, sel] at k
  simp only
  omega
 have h2 : RgIn (lo.1, a.2) (hi.1, b.2) (cutP ⟨0, hi.1, false⟩ (cutP ⟨0, lo.1, true⟩ rg)) := fun p hp => by
  have k := cut_keeps (l := ⟨0, hi.1, false⟩) (.inl rfl) hp
  have i := cutP_in (l := ⟨0, hi.1, false⟩) (.inl rfl) h1 p hp
  simp [keepsP, sel] at k
  simp only at i ⊢
  omega
 have h3 : RgIn (lo.1, lo.2) (hi.1, b.2) (cutP ⟨1, lo.2, true⟩ (cutP ⟨0, hi.1, false⟩ (cutP ⟨0, lo.1, true⟩ rg))) := fun p hp => by
  have k := cut_keeps (l := ⟨1, lo.2, true⟩) (.inr rfl) hp
  have i := cutP_in (l := ⟨1, lo.2, true⟩) (.inr rfl) h2 p hp
  simp [keepsP, sel] at k
  simp only at i ⊢
  omega
 rw [e]
 intro p hp
 have k := cut_keeps (l := ⟨1, hi.2, false⟩) (.inr rfl) hp
 have i := cutP_in (l := ⟨1, hi.2, false⟩) (.inr rfl) h3 p hp
 simp [keepsP, sel] at k
 simp only at i ⊢
 omega
def unitP (t : Til) : Int := 2 ^ (18 - t.z).toNat
def sideP (t : Til) : Int := 2 ^ (30 - t.z).toNat
def ringP (t : Til) (z : Ei) : List P2 := (hexR z t.r.toNat).map (shP (-(3 * (t.x * sideP t)), -(3 * (t.y * sideP t))))
def winP (t : Til) (z : Ei) : List P2 := boxP (-192 * unitP t, -192 * unitP t) (12480 * unitP t, 12480 * unitP t) (ringP t z)
def shapeP (t : Til) (z : Ei) : List P2 := if tch z t.r.toNat (2 ^ (30 - t.z).toNat) t.x t.y = true then hullP (flrP (3 * unitP t) (winP t z)) else []
set_option maxHeartbeats 1000000 in
theorem vshape_t (t : Til) (h : tis t = true) (hf : fine t = false) (z : Ei) (hk : okc t.r.toNat z) (hz : z.In 1073741824) (hb : hexIn z t.r.toNat) {res : AV} {ro : List Ob}
  (hres : (shapeP t z = [] ∧ res = .nils 2 (pnt 0 0) ∧ ro = []) ∨ (shapeP t z ≠ [] ∧ res = .own 1000000 0 0 (shapeP t z).length ∧ ro = [rowP (shapeP t z)])) :
  Triple P0 10 [t.v, uw (word t.r.toNat z)] [] res ro := by
 refine view_Shape_triple rfl (by decide) ?_
 have hr : 0 ≤ t.z ∧ t.z ≤ 18 ∧ 0 ≤ t.r ∧ t.r ≤ 12 ∧ 0 ≤ t.x ∧ t.x < 2 ^ t.z.toNat ∧ 0 ≤ t.y ∧ t.y < 2 ^ t.z.toNat := by simpa [tis] using h
 have ho := til_ok h
 have hOk := ok_t t ho
 rw [h, hf] at hOk
 obtain ⟨w1, w2, w3, w4⟩ := word_cell t.r.toNat z hk
 have hic := icell_t (word t.r.toNat z) w4 w1
 rw [w2, w3, Int.toNat_of_nonneg hr.2.2.1] at hic
 have e1 : (t.r == t.r) = true := by simp
 have htc := vtouches_t t h z t.r hr.2.2.1 hk hb
 simp only [view_Shape_pc, Til.v, uw, push_cast, ↓reduceIte, reduceCtorEq, zB, zE, zA, zS, zL, zD, zM]
 refine call_as (as' := [uw (word t.r.toNat z)]) rfl ?_
 refine call_mk hic rfl trivial ?_
 simp only [cel, push_cast, ↓reduceIte, reduceCtorEq, zB, zE, zA, zS, zL, zD, zM]
 refine call_as (as' := [t.v]) rfl ?_
 refine call_mk hOk rfl trivial ?_
 have n0 : ((0 : Int) != 0) = false := rfl
 have n1 : (t.r != t.r) = false := by simp
 simp only [n0, n1, push_cast, ↓reduceIte, reduceCtorEq, zB, zE, zA, zS, zL, zD, zM]
 refine call_as (as' := [t.v, cel t.r z]) rfl ?_
 refine call_mk htc rfl trivial ?_
 simp only [push_cast, ↓reduceIte, reduceCtorEq, zB, zE, zA, zS, zL, zD, zM]
 cases hT : tch z t.r.toNat (2 ^ (30 - t.z).toNat) t.x t.y with
 | false =>
  have hN : shapeP t z = [] := by
   unfold shapeP
   rw [hT]
   exact if_neg (by decide)
  rcases hres with ⟨_, rfl, rfl⟩ | ⟨h, _⟩
  ·simp only [pnt, push_cast, ↓reduceIte, reduceCtorEq, zB, zE, zA, zS, zL, zD, zM]
  ·exact absurd hN h
 | true =>
  have hN : shapeP t z = hullP (flrP (3 * unitP t) (winP t z)) := by
   unfold shapeP
   rw [hT]
   exact if_pos rfl
  rw [hN] at hres
  simp only [push_cast, ↓reduceIte, reduceCtorEq, zB, zE, zA, zS, zL, zD, zM]
  refine call_as (as' := [z.v, int .i64 t.r]) rfl ?_
  refine call_mk (hex_t z t.r hz ⟨hr.2.2.1, hr.2.2.2.1⟩) rfl trivial ?_
  simp only [pnt, push_cast, ↓reduceIte, reduceCtorEq, zB, zE, zA, zS, zL, zD, zM]
  refine call_as (as' := [t.v]) rfl ?_
  refine call_mk (origin_t t h) rfl trivial ?_
  rw [hexR_L]
  simp only [pnt, push_cast, ↓reduceIte, reduceCtorEq, zB, zE, zA, zS, zL, zD, zM]
  have hin := tile_in h
  have hsd := side_in ⟨hr.1, hr.2.1⟩
  obtain ⟨X0, hX0⟩ : ∃ X0, t.x * 2 ^ (30 - t.z).toNat = X0 := ⟨_, rfl⟩
  obtain ⟨Y0, hY0⟩ : ∃ Y0, t.y * 2 ^ (30 - t.z).toNat = Y0 := ⟨_, rfl⟩
  obtain ⟨S0, hS0⟩ : ∃ S0 : Int, 2 ^ (30 - t.z).toNat = S0 := ⟨_, rfl⟩
  rw [Int.add_mul, Int.one_mul, Int.add_mul, Int.one_mul] at hin
  rw [hX0, hY0, hS0] at hin
  rw [hS0] at hsd
  have hRP : ringP t z = (hexR z t.r.toNat).map (shP (-(3 * X0), -(3 * Y0))) := by unfold ringP sideP; rw [hX0, hY0]
  obtain ⟨R, hR⟩ : ∃ R, hexR z t.r.toNat = R := ⟨_, rfl⟩
  have hRl : R.length = 6 := by rw [← hR, hexR_len]
  have hRb : ∀ p ∈ R, (-4294967296 ≤ p.1 ∧ p.1 ≤ 4294967296) ∧ (-4294967296 ≤ p.2 ∧ p.2 ≤ 4294967296) := fun p hp => by
   rw [← hR] at hp
   obtain ⟨i, hi, rfl⟩ := zaw.1 hp
   exact hb i (List.mem_range.1 hi)
  rw [hX0, hY0, hS0, hR]
  rw [hR] at hRP
  obtain ⟨d, hd⟩ : ∃ d : P2, (-(3 * X0), -(3 * Y0)) = d := ⟨_, rfl⟩
  rw [hd] at hRP
  refine run_loop [(55, false), (54, false), (7, false), (9, false), (10, false), (2, false)] (fun vs pos los => ∃ i : Nat, i ≤ 6 ∧ vs = [int .i64 i, int .i64 6, .own 2000000 0 0 6, int .i64 X0, int .i64 Y0, .ptr 2000001 0 0] ∧ pos = [] ∧ los = [rowP ((R.take i).map (shP d) ++ R.drop i), .box [int .i64 t.z, int .i64 t.x, int .i64 t.y, int .i64 t.r]])
   (fun vs _ _ => match vs with | .r (.v (.int _ a)) :: _ => (6 - a).toNat | _ => 0) rfl ?_ ?_
  ·simp only [rowP, pnt, push_cast, ↓reduceIte, reduceCtorEq, zB, zE, zA, zS, zL, zD, zM]
   exact ⟨0, by omega, rfl, by simp⟩
  ·rintro vs pos los ⟨i, hi, rfl, rfl, rfl⟩
   simp only [rowP, pnt, push_cast, ↓reduceIte, reduceCtorEq, zB, zE, zA, zS, zL, zD, zM]
   refine cnd_mk (fun hd6 => ?_) (fun hd6 => ?_)
   ·have hi2 : i < 6 := by have := of_decide_eq_true hd6; omega
    obtain ⟨p, hp⟩ : ∃ p, R[i]'(by omega) = p := ⟨_, rfl⟩
    have hpb := hRb p (hp ▸ List.getElem_mem _)
    have wi : IntKind.i64.wrap ((i : Int) + 1) = (i : Int) + 1 := wrap_id (by omega)
    have hdr : R.drop i = p :: R.drop (i + 1) := by rw [List.drop_eq_getElem_cons (by omega), hp]
    have htk : (R.take (i + 1)).map (shP d) = (R.take i).map (shP d) ++ [shP d p] := by rw [zbl (by omega), hp, zap]; rfl
    obtain ⟨A, hA⟩ : ∃ A, (R.take i).map (shP d) = A := ⟨_, rfl⟩
    have hAl : A.length = i := by rw [← hA]; simp; omega
    obtain ⟨T, hT⟩ : ∃ T, R.drop (i + 1) = T := ⟨_, rfl⟩
    rw [hdr, hA, hT]
    have hg : ∀ q : P2, ∀ z, ((A ++ q :: T).map ptR).getD i z = .agg [.v (.int .i64 q.1), .v (.int .i64 q.2)] := fun q z => by
     rw [← hAl]; exact get_e A T q z
    have hs : ∀ (q : P2) (a b : Int), ((A ++ q :: T).map ptR).set i (.agg [.v (.int .i64 a), .v (.int .i64 b)]) = (A ++ (a, b) :: T).map ptR := fun q a b => by
     rw [show (RV.agg [.v (.int .i64 a), .v (.int .i64 b)]) = ptR (a, b) from rfl, ← zaz, ← hAl]
     congr 1
     simp
    have m1 : IntKind.i64.wrap (3 * X0) = 3 * X0 := wrap_id (by omega)
    have m2 : IntKind.i64.wrap (3 * Y0) = 3 * Y0 := wrap_id (by omega)
    have m3 : IntKind.i64.wrap (p.1 - 3 * X0) = p.1 - 3 * X0 := wrap_id (by omega)
    have m4 : IntKind.i64.wrap (p.2 - 3 * Y0) = p.2 - 3 * Y0 := wrap_id (by omega)
    simp only [rowP, pnt, hg, hs, m1, m2, m3, m4, wi, zab, zac, zaa, Nat.zero_mul, Nat.mul_one, List.set_cons_zero, List.set_cons_succ, zae, zaf, zaa, push_cast, ↓reduceIte, reduceCtorEq, zB, zE, zA, zS, zL, zD, zM]
    repeat refine And.intro (by first | exact ⟨by omega, by omega⟩ | kernel_rfl) ?_
    refine ⟨⟨i + 1, by omega, by simp, ?_⟩, by omega⟩
    rw [htk, hA, hT, ← hd]
    simp [rowP, pnt, shP, Int.sub_eq_add_neg]
   ·have hi2 : i = 6 := by have := of_decide_eq_false hd6; omega
    subst hi2
    have hfin : (R.take 6).map (shP d) ++ R.drop 6 = ringP t z := by
     rw [hRP, zau (by omega), List.drop_of_length_le (by omega), zar]
    rw [hfin]
    have hut := unit_t t hr.1 hr.2.1
    have hu1 : 1 ≤ unitP t ∧ unitP t ≤ 262144 := by
     have h1 : 2 ^ (18 - t.z).toNat ≤ 2 ^ 18 := Nat.pow_le_pow_right (by decide) (by omega)
     have h3 : ((2 ^ (18 - t.z).toNat : Nat) : Int) = (2 : Int) ^ (18 - t.z).toNat := by simp
     have h4 : 0 < 2 ^ (18 - t.z).toNat := Nat.pow_pos (by decide)
     unfold unitP
     omega
    simp only [push_cast, ↓reduceIte, reduceCtorEq, zB, zE, zA, zS, zL, zD, zM]
    refine call_as (as' := [t.v]) rfl ?_
    refine call_mk hut rfl trivial ?_
    rw [show (2 : Int) ^ (18 - t.z).toNat = unitP t from rfl]
    obtain ⟨U, hU⟩ : ∃ U, unitP t = U := ⟨_, rfl⟩
    rw [hU] at hu1 hres ⊢
    have m1 : IntKind.i64.wrap (-192 * U) = -192 * U := wrap_id (by omega)
    have m2 : IntKind.i64.wrap (12480 * U) = 12480 * U := wrap_id (by omega)
    have m3 : IntKind.i64.wrap (3 * U) = 3 * U := wrap_id (by omega)
    simp only [rowP, pnt, m1, m2, m3, push_cast, ↓reduceIte, reduceCtorEq, zB, zE, zA, zS, zL, zD, zM]
    have hk0 := k_in t.r.toNat 0 (by omega) (by decide)
    have hb0 := hb 0 (by decide)
    rw [hx_eq, hy_eq] at hb0
    have hRI : RgIn (3 * cx z t.r.toNat - 100000000 - 3 * X0, 3 * cy z t.r.toNat - 100000000 - 3 * Y0) (3 * cx z t.r.toNat + 100000000 - 3 * X0, 3 * cy z t.r.toNat + 100000000 - 3 * Y0) (ringP t z) := fun p hp => by
     rw [hRP, ← hR, ← hd] at hp
     obtain ⟨q, hq, rfl⟩ := zaw.1 hp
     obtain ⟨i, hi, rfl⟩ := zaw.1 hq
     have hk := k_in t.r.toNat i (by omega) (List.mem_range.1 hi)
     simp only [shP, hx_eq, hy_eq]
     omega
    have hRL : (ringP t z).length = 6 := by rw [hRP]; simp [hRl]
    have hHu : Hump (ringP t z) := by rw [hRP, ← hR]; exact hump_hex z _ (by omega) d
    obtain ⟨c1, c2, c3⟩ := cbox_a (-192 * U, -192 * U) (12480 * U, 12480 * U) (by simp only; omega) (by simp only; omega) hRI (by omega) (by simp only; omega) (by simp only; omega)
    have c4 := box_win (-192 * U, -192 * U) (12480 * U, 12480 * U) hRI
    have c5 : (boxP (-192 * U, -192 * U) (12480 * U, 12480 * U) (ringP t z)).length ≤ 10 := by
     have := (box_ten (lo := (-192 * U, -192 * U)) (hi := (12480 * U, 12480 * U)) hHu 4 (zaq _)).2
     rw [hRL] at this
     exact this
    have hW : winP t z = boxP (-192 * U, -192 * U) (12480 * U, 12480 * U) (ringP t z) := by unfold winP; rw [hU]
    rw [← hW] at c1 c2 c3 c4 c5
    obtain ⟨W, hW2⟩ : ∃ W, winP t z = W := ⟨_, rfl⟩
    rw [hW2] at c1 c2 c3 c4 c5 hres
    have htk6 : List.take 6 ((ringP t z).map ptR) = (ringP t z).map ptR := zau (by simp [hRL])
    refine callA_give ?_
    rw [htk6]
    simp only [pnt, push_cast, ↓reduceIte, reduceCtorEq, zB, zE, zA, zS, zL, zD, zM]
    refine call_as (as' := [ring2 (ringP t z), pv2 (-192 * U, -192 * U), pv2 (12480 * U, 12480 * U)]) rfl ?_
    refine call_mk c1 rfl trivial ?_
    simp only [rowP, pnt, m3, push_cast, ↓reduceIte, reduceCtorEq, zB, zE, zA, zS, zL, zD, zM]
    refine callA_give ?_
    try rw [take_ptR]
    simp only [pnt, push_cast, ↓reduceIte, reduceCtorEq, zB, zE, zA, zS, zL, zD, zM]
    refine call_as (as' := [ring2 W, int .i64 (3 * U)]) rfl ?_
    by_cases hWe : W = []
    ·refine call_mk (cfloor_r (3 * U) (by omega) W c3 (.inl ⟨hWe, rfl, rfl⟩)) rfl trivial ?_
     simp only [pnt, push_cast, ↓reduceIte, reduceCtorEq, zB, zE, zA, zS, zL, zD, zM]
     refine call_as (as' := [ring2 []]) rfl ?_
     refine call_mk hull_n rfl trivial ?_
     have h0 : hullP (flrP (3 * U) W) = [] := by rw [hWe]; rfl
     rw [h0] at hres
     rcases hres with ⟨_, rfl, rfl⟩ | ⟨h, _⟩
     ·simp only [pnt, push_cast, ↓reduceIte, reduceCtorEq, zB, zE, zA, zS, zL, zD, zM]
     ·exact absurd rfl h
    ·refine call_mk (cfloor_r (3 * U) (by omega) W c3 (.inr ⟨hWe, rfl, rfl⟩)) rfl trivial ?_
     simp only [rowP, pnt, push_cast, ↓reduceIte, reduceCtorEq, zB, zE, zA, zS, zL, zD, zM]
     refine callA_give ?_
     try rw [take_ptR]
     simp only [pnt, push_cast, ↓reduceIte, reduceCtorEq, zB, zE, zA, zS, zL, zD, zM]
     refine call_as (as' := [ring2 (flrP (3 * U) W)]) rfl ?_
     have hFl : (flrP (3 * U) W).length = W.length := by simp [flrP]
     have hWl : 1 ≤ W.length := by
      cases W with
      | nil => exact absurd rfl hWe
      | cons a r => simp
     have hFn : ∀ p ∈ flrP (3 * U) W, near29 p := fun p hp => by
      obtain ⟨q, hq, rfl⟩ := zaw.1 hp
      have := c4 q hq
      simp only at this
      have e1 : -64 ≤ q.1 / (3 * U) := (Int.le_ediv_iff_mul_le (by omega)).2 (by omega)
      have e2 : q.1 / (3 * U) < 4161 := (Int.ediv_lt_iff_lt_mul (by omega)).2 (by omega)
      have e3 : -64 ≤ q.2 / (3 * U) := (Int.le_ediv_iff_mul_le (by omega)).2 (by omega)
      have e4 : q.2 / (3 * U) < 4161 := (Int.ediv_lt_iff_lt_mul (by omega)).2 (by omega)
      unfold near29
      simp only
      omega
     rcases hres with ⟨a, rfl, rfl⟩ | ⟨a, rfl, rfl⟩
     ·refine call_mk (hull_t (flrP (3 * U) W) (by omega) hFn (.inl ⟨a, rfl, rfl⟩)) rfl trivial ?_
      simp only [rowP, pnt, push_cast, ↓reduceIte, reduceCtorEq, zB, zE, zA, zS, zL, zD, zM]
     ·refine call_mk (hull_t (flrP (3 * U) W) (by omega) hFn (.inr ⟨a, rfl, rfl⟩)) rfl trivial ?_
      simp only [rowP, pnt, push_cast, ↓reduceIte, reduceCtorEq, zB, zE, zA, zS, zL, zD, zM]
theorem vshape_o (t : Til) (h : tis t = true) (hf : fine t = false) (z : Ei) (hk : okc t.r.toNat z) (hb : hexIn z t.r.toNat) :
  Triple P0 10 [t.v, uw (word t.r.toNat z)] [] (.own 1000000 0 0 (shapeP t z).length) [rowP (shapeP t z)] := by
 by_cases h0 : shapeP t z = []
 ·have := nil_own (vshape_t t h hf z hk hk.2.1 hb (.inl ⟨h0, rfl, rfl⟩))
  rw [h0]
  exact this
 ·exact vshape_t t h hf z hk hk.2.1 hb (.inr ⟨h0, rfl, rfl⟩)

end Go.Ev
