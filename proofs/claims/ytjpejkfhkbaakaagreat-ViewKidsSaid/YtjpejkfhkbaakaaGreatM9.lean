import Derived.Test.YtjpejkfhkbaakaaGreatM8
namespace Go.Ev
set_option maxRecDepth 100000
open Go
set_option linter.unusedSectionVars false
set_option linter.unnecessarySimpa false
open Nat (reduceEqDiff reduceAdd reduceSub reduceLT reduceLeDiff reduceMul)
set_option linter.unusedSimpArgs false
set_option linter.unusedVariables false
noncomputable def view_Cells_pc : PC :=
  (.seq (.reg [p_a 2 (.box (.t 0)), p_s 4 (.mov (.c (.nils 1 (.v (.int .u64 0))))), p_s 5 (.mov (o_i 0))])
 (.seq (.seq (.reg [p_s 13 (.ld (some 4) (.t 2)), p_c 14 1 8 [.t 13], p_m 6 14])
 (.seq (.reg [p_m 15 6, p_s 16 (.bin .neq (.t 15) (o_i 0))])
 (.cond (.t 16)
 (.seq (.reg [p_m 17 6, p_s 4 (.mov (.c (.nils 1 (.v (.int .u64 0))))), p_m 5 17])
 .ret)
 .skip)))
 (.seq (.reg [p_s 18 (.ld (some 4) (.t 2)), p_c 19 2 39 [.t 18], p_s 20 (.mkf (.func 40) [(.t 19)] 1), p_m 7 20])
 (.seq (.reg [p_s 8 (.mov (.c (.nils 1 (.v (.int .u64 0)))))])
 (.seq (.seq (.reg [p_m 21 1, p_s 22 (.fa 3 (.t 2)), p_s 23 (.ld none (.t 22)), p_c 24 3 41 [.t 21, .t 23], p_s 25 (.len false (.t 24)), p_s 26 (.mov (o_i 0))])
 (.block 0 (.loop (.seq (.reg [p_s 27 (.bin .lss (.t 26) (.t 25))])
 (.seq (.cond (.t 27)
 .skip
 (.exit 0))
 (.seq (.block 1 (.seq (.reg [p_s 28 (.ia 1 (.v (.int .u64 0)) (.t 24) (.t 26)), p_s 29 (.ld none (.t 28)), p_m 10 29])
 (.seq (.reg [p_m 31 10, p_c 32 4 25 [.t 31], p_m 30 32, p_s 33 (.ext (.t 30) 0), p_s 34 (.ext (.t 30) 1), p_a 11 (.new [(.r (.v (.int .i64 0))), (.r (.v (.int .i64 0))), (.r (.v (.int .i64 0)))]),
 ⟨none, none, 0, .act (.st 3 (.t 11) (.t 33))⟩, p_m 12 34])
 (.seq (.reg [p_m 35 7, p_s 36 (.ld (some 3) (.t 11)), ⟨(some 37), none, 5, .callv (.t 35) [(.t 36)]⟩])
 (.cond (.t 37)
 (.reg [p_m 38 8, p_m 39 10, p_a 40 (.bsl 1 (.v (.int .u64 0)) [(.t 39)]), p_a 41 (.app 1 (.v (.int .u64 0)) 8 (.t 38) (.t 40)), p_m 8 41])
 .skip)))))
 (.reg [p_s 42 (.bin .add (.t 26) (o_i 1)), p_m 26 42])))))))
 (.seq (.reg [p_m 43 8, p_m 4 43, p_s 5 (.mov (o_i 0))])
 .ret))))))
theorem view_Cells_triple : Fun Go.Proofs.Tryz.prog 17 2 [(4, false, none), (5, false, none)] view_Cells_pc := fun_mk Go.Proofs.Tryz.func17 rfl (by decide) (by kernel_rfl) (by decide) rfl (by kernel_rfl) (by kernel_rfl) (by decide)
def tw (t : Til) (n : Int) : Bool := tch (down n.toNat t.r.toNat) t.r.toNat (2 ^ (30 - t.z).toNat) t.x t.y
def shown (L : List Pt) (t : Til) : List Int := (cellsL L t.r.toNat).filter (tw t)
theorem cellsL_at' {L : List Pt} {r i : Nat} {n : Int} (h : (cellsL L r)[i]? = some n) : ∃ p ∈ L, n = ((p.w r : Nat) : Int) := by
 have h1 := List.mem_of_getElem? h
 unfold cellsL srtI at h1
 rw [List.mem_mergeSort] at h1
 obtain ⟨w, hw, rfl⟩ := List.mem_map.1 h1
 obtain ⟨p, hp, e⟩ := wordsL_mem.1 hw
 exact ⟨p, hp, by rw [e]⟩
theorem rw64_get' {ws : List Int} {i : Nat} {n : Int} (h : ws[i]? = some n) (z : RV) : (rw64 ws).getD ((i : Int)).toNat z = .v (.int .u64 n) := by
 simp [List.getD, rw64, h]
theorem rw64_get0' {ws : List Int} {i : Nat} {n : Int} (h : ws[i]? = some n) (z : RV) : (rw64 ws).getD (0 + ((i : Int)).toNat) z = .v (.int .u64 n) := by rw [Nat.zero_add]; exact rw64_get' h z
theorem take_filter {C : List Int} {f : Int → Bool} {i : Nat} {n : Int} (h : C[i]? = some n) : (C.take (i + 1)).filter f = (C.take i).filter f ++ (if f n then [n] else []) := by
 rw [List.take_add_one, h, List.filter_append]
 simp only [Option.toList_some, List.filter_cons, List.filter_nil]
set_option maxHeartbeats 4000000 in
theorem vcells_t (L : List Pt) (hL : L.length < 50) (hok : ∀ p ∈ L, p.ok) (t : Til) (ht : t.ok) (hti : tis t = true) (hf : fine t = false) {res : AV} {ro : List Ob}
    (hres : (shown L t = [] ∧ res = .tup [.nils 1 (.v (.int .u64 0)), int .i64 0] ∧ ro = [.abs (sT L)]) ∨ (shown L t ≠ [] ∧ res = .tup [.own 1000001 0 0 (shown L t).length, int .i64 0] ∧ ro = [.abs (sT L), rowU (shown L t)])) :
    Triple Go.Proofs.Tryz.prog 17 [t.v, .ptr 1000000 0 0] [.abs (sT L)] res ro := by
  refine view_Cells_triple rfl (by simp) ?_
  have hb : 0 ≤ t.z ∧ t.z ≤ 18 ∧ 0 ≤ t.r ∧ t.r ≤ 12 ∧ 0 ≤ t.x ∧ t.x < 2 ^ t.z.toNat ∧ 0 ≤ t.y ∧ t.y < 2 ^ t.z.toNat := by simpa [tis] using hti
  have hO := ok_t t ht
  rw [hti, hf] at hO
  simp only [if_true, Bool.false_eq_true, if_false] at hO
  have f0 : ((0 : Int) != 0) = false := rfl
  simp only [view_Cells_pc, Til.v, List.length_cons, List.length_nil, push_cast, ↓reduceIte, reduceCtorEq, Nat.reduceBEq, reduceEqDiff, reduceAdd, reduceSub, reduceLT, reduceLeDiff, reduceMul]
  refine call_as (as' := [t.v]) rfl ?_
  refine call_mk hO rfl trivial ?_
  simp only [f0, push_cast, ↓reduceIte, reduceCtorEq, Nat.reduceBEq, reduceEqDiff, reduceAdd, reduceSub, reduceLT, reduceLeDiff, reduceMul]
  refine call_as (as' := [t.v]) rfl ?_
  refine call_mk (framed_t t hti) rfl trivial ?_
  simp only [bxv, push_cast, ↓reduceIte, reduceCtorEq, Nat.reduceBEq, reduceEqDiff, reduceAdd, reduceSub, reduceLT, reduceLeDiff, reduceMul]
  obtain ⟨R, hR⟩ : ∃ R : Nat, t.r = R := ⟨t.r.toNat, by omega⟩
  have hca := cells_a L hL R (by omega)
  rw [hR]
  have hcl := cellsL_len L R
  have hCat := fun i n h => cellsL_at' (L := L) (r := R) (i := i) (n := n) h
  have hsh : shown L t = (cellsL L R).filter (tw t) := by unfold shown; rw [hR, Int.toNat_natCast]
  rw [hsh] at hres
  generalize cellsL L R = C at *
  refine call_mk hca rfl ⟨rfl, trivial⟩ ?_
  simp only [rowU, push_cast, ↓reduceIte, reduceCtorEq, Nat.reduceBEq, reduceEqDiff, reduceAdd, reduceSub, reduceLT, reduceLeDiff, reduceMul]
  obtain ⟨BX, hBX⟩ : ∃ BX, bxv (t.x * 2 ^ (30 - t.z).toNat) (t.y * 2 ^ (30 - t.z).toNat) ((t.x + 1) * 2 ^ (30 - t.z).toNat) ((t.y + 1) * 2 ^ (30 - t.z).toNat) = .r BX := ⟨_, rfl⟩
  have hfn : isFn Go.Proofs.Tryz.prog 40 = true := rfl
  have hmx := maxLen_big
  have hin := tile_in hti
  have hs2 := side_in (show 0 ≤ t.z ∧ t.z ≤ 18 by omega)
  have hfts : ∀ p ∈ L, Triple Go.Proofs.Tryz.prog 40 [.r BX, cel R (down (p.w R) R)] [] (bl (tw t ((p.w R : Nat) : Int))) [] := fun p hp => by
    have hpo := hok p hp
    have hk := near_okc p.x p.y R hpo.2.1.1 hpo.2.1.2 (by omega)
    obtain ⟨c1, c2, c3, c4⟩ := word_cell R _ hk
    have hwe : p.w R = word R (near p.x p.y R) := rfl
    have hz : down (p.w R) R = near p.x p.y R := by rw [hwe, c3]
    have hl := lies p.x p.y R (by omega)
    have := ftouches_t (near p.x p.y R) (R : Int) (by omega) (by rw [Int.toNat_natCast]; exact hk) (t.x * 2 ^ (30 - t.z).toNat) (t.y * 2 ^ (30 - t.z).toNat) ((t.x + 1) * 2 ^ (30 - t.z).toNat) ((t.y + 1) * 2 ^ (30 - t.z).toNat)
      (by rw [Int.toNat_natCast]; exact lies_hexIn (by omega) hpo.2.1 hl) ⟨hin.1.1, by rw [Int.add_mul]; omega, hin.1.2⟩ ⟨hin.2.1, by rw [Int.add_mul]; omega, hin.2.2⟩
    rw [hBX] at this
    have e : tw t ((p.w R : Nat) : Int) = touch (near p.x p.y R) R (3 * (t.x * 2 ^ (30 - t.z).toNat)) (3 * (t.y * 2 ^ (30 - t.z).toNat)) (3 * ((t.x + 1) * 2 ^ (30 - t.z).toNat)) (3 * ((t.y + 1) * 2 ^ (30 - t.z).toNat)) := by
      unfold tw tch
      rw [Int.toNat_natCast, hR, Int.toNat_natCast, hz]
    rw [e, hz]
    rw [Int.toNat_natCast] at this
    exact this
  refine run_loop [(26, false), (25, false), (24, false), (7, false), (8, false)] (fun vs pos los => ∃ i : Nat, i ≤ C.length ∧ pos = [.abs (sT L)] ∧
      ((C.take i).filter (tw t) = [] ∧ vs = [int .i64 i, int .i64 C.length, .own 2000000 0 0 C.length, .fn (.func 40) [.r BX] 1, .nils 1 (.v (.int .u64 0))] ∧ los = [rowU C] ∨
       (C.take i).filter (tw t) ≠ [] ∧ vs = [int .i64 i, int .i64 C.length, .own 2000000 0 0 C.length, .fn (.func 40) [.r BX] 1, .own 2000001 0 0 ((C.take i).filter (tw t)).length] ∧ los = [rowU C, rowU ((C.take i).filter (tw t))]))
    (fun vs _ _ => match vs with | .r (.v (.int _ j)) :: _ => (C.length - j).toNat | _ => 0) rfl ?_ ?_
  · unfold bxv at hBX
    cases hBX
    simp only [rowU, push_cast, ↓reduceIte, reduceCtorEq, Nat.reduceBEq, reduceEqDiff, reduceAdd, reduceSub, reduceLT, reduceLeDiff, reduceMul]
    exact ⟨0, by omega, by simp⟩
  · rintro vs pos los ⟨i, hi, rfl, ⟨h0, rfl, rfl⟩ | ⟨h0, rfl, rfl⟩⟩
    · have hFl : True := trivial
      simp only [rowU, push_cast, ↓reduceIte, reduceCtorEq, Nat.reduceBEq, reduceEqDiff, reduceAdd, reduceSub, reduceLT, reduceLeDiff, reduceMul]
      refine cnd_mk (fun h => ?_) (fun h => ?_)
      · have hi' : i < C.length := by simpa using h
        obtain ⟨n, hn⟩ : ∃ n, C[i]? = some n := ⟨C[i], by simp [hi']⟩
        obtain ⟨p, hp, rfl⟩ := hCat i n hn
        have hpo := hok p hp
        have hwr := Pt.w_res hpo (show R < 13 by omega)
        have hic := icell_t (p.w R) hwr.2.2 hwr.1
        rw [hwr.2.1] at hic
        have wk : IntKind.i64.wrap ((i : Int) + 1) = (i : Int) + 1 := wrap_id (by omega)
        have hft := hfts p hp
        have htk := take_filter (f := tw t) hn
        simp only [rw64_get' hn, rw64_get0' hn, rowU, rw64_len, hfn, push_cast, ↓reduceIte, reduceCtorEq, Nat.reduceBEq, reduceEqDiff, reduceAdd, reduceSub, reduceLT, reduceLeDiff, reduceMul]
        repeat refine And.intro (by first | decide | omega | exact fun _ => by decide | (simp +contextual; done) | kernel_rfl) ?_
        refine call_mk hic rfl trivial ?_
        simp only [cel, hfn, rowU, push_cast, ↓reduceIte, reduceCtorEq, Nat.reduceBEq, reduceEqDiff, reduceAdd, reduceSub, reduceLT, reduceLeDiff, reduceMul]
        refine call_as (as' := [.r BX, cel R (down (p.w R) R)]) rfl ?_
        refine call_mk hft rfl trivial ?_
        simp only [rowU, push_cast, ↓reduceIte, reduceCtorEq, Nat.reduceBEq, reduceEqDiff, reduceAdd, reduceSub, reduceLT, reduceLeDiff, reduceMul]
        refine cnd_mk (fun hc => ?_) (fun hc => ?_)
        · rw [if_pos hc] at htk
          simp only [wk, rowU, rw64_len, push_cast, ↓reduceIte, reduceCtorEq, Nat.reduceBEq, reduceEqDiff, reduceAdd, reduceSub, reduceLT, reduceLeDiff, reduceMul]
          repeat refine And.intro (by first | decide | omega | exact fun _ => by decide | (simp +contextual; done) | kernel_rfl) ?_
          exact ⟨⟨i + 1, by omega, .inr ⟨by rw [htk]; simp, by rw [htk, h0]; rfl, by rw [htk, h0]; rfl⟩⟩, by omega⟩
        · rw [if_neg (by rw [hc]; simp)] at htk
          simp only [wk, rowU, rw64_len, push_cast, ↓reduceIte, reduceCtorEq, Nat.reduceBEq, reduceEqDiff, reduceAdd, reduceSub, reduceLT, reduceLeDiff, reduceMul]
          exact ⟨⟨i + 1, by omega, .inl ⟨by rw [htk, h0]; rfl, by simp⟩⟩, by omega⟩
      · have hi2 : i = C.length := by
          have : ¬ i < C.length := by simpa using h
          omega
        rw [hi2, List.take_length] at h0
        rcases hres with ⟨g0, rfl, rfl⟩ | ⟨g0, rfl, rfl⟩
        · simp only [push_cast, ↓reduceIte, reduceCtorEq, Nat.reduceBEq, reduceEqDiff, reduceAdd, reduceSub, reduceLT, reduceLeDiff, reduceMul]
        · exact absurd h0 g0
    · have hFl : ((C.take i).filter (tw t)).length ≤ 50 := Nat.le_trans (List.length_filter_le ..) (by simp; omega)
      simp only [rowU, push_cast, ↓reduceIte, reduceCtorEq, Nat.reduceBEq, reduceEqDiff, reduceAdd, reduceSub, reduceLT, reduceLeDiff, reduceMul]
      refine cnd_mk (fun h => ?_) (fun h => ?_)
      · have hi' : i < C.length := by simpa using h
        obtain ⟨n, hn⟩ : ∃ n, C[i]? = some n := ⟨C[i], by simp [hi']⟩
        obtain ⟨p, hp, rfl⟩ := hCat i n hn
        have hpo := hok p hp
        have hwr := Pt.w_res hpo (show R < 13 by omega)
        have hic := icell_t (p.w R) hwr.2.2 hwr.1
        rw [hwr.2.1] at hic
        have wk : IntKind.i64.wrap ((i : Int) + 1) = (i : Int) + 1 := wrap_id (by omega)
        have hft := hfts p hp
        have htk := take_filter (f := tw t) hn
        simp only [rw64_get' hn, rw64_get0' hn, rowU, rw64_len, hfn, push_cast, ↓reduceIte, reduceCtorEq, Nat.reduceBEq, reduceEqDiff, reduceAdd, reduceSub, reduceLT, reduceLeDiff, reduceMul]
        repeat refine And.intro (by first | decide | omega | exact fun _ => by decide | (simp +contextual; done) | kernel_rfl) ?_
        refine call_mk hic rfl trivial ?_
        simp only [cel, hfn, rowU, push_cast, ↓reduceIte, reduceCtorEq, Nat.reduceBEq, reduceEqDiff, reduceAdd, reduceSub, reduceLT, reduceLeDiff, reduceMul]
        refine call_as (as' := [.r BX, cel R (down (p.w R) R)]) rfl ?_
        refine call_mk hft rfl trivial ?_
        simp only [rowU, push_cast, ↓reduceIte, reduceCtorEq, Nat.reduceBEq, reduceEqDiff, reduceAdd, reduceSub, reduceLT, reduceLeDiff, reduceMul]
        refine cnd_mk (fun hc => ?_) (fun hc => ?_)
        · rw [if_pos hc] at htk
          simp only [wk, rowU, rw64_len, push_cast, ↓reduceIte, reduceCtorEq, Nat.reduceBEq, reduceEqDiff, reduceAdd, reduceSub, reduceLT, reduceLeDiff, reduceMul]
          repeat refine And.intro (by first | decide | omega | exact fun _ => by decide | (simp +contextual; done) | kernel_rfl) ?_
          exact ⟨⟨i + 1, by omega, .inr ⟨by rw [htk]; simp, by rw [htk]; simp, by rw [htk]; simp only [rw64, rowU, List.map_append]; rw [List.take_of_length_le (by simp)]; rfl⟩⟩, by omega⟩
        · rw [if_neg (by rw [hc]; simp)] at htk
          simp only [wk, rowU, rw64_len, push_cast, ↓reduceIte, reduceCtorEq, Nat.reduceBEq, reduceEqDiff, reduceAdd, reduceSub, reduceLT, reduceLeDiff, reduceMul]
          exact ⟨⟨i + 1, by omega, .inr ⟨by rw [htk]; simpa using h0, by rw [htk]; simp, by rw [htk]; simp [rw64]⟩⟩, by omega⟩
      · have hi2 : i = C.length := by
          have : ¬ i < C.length := by simpa using h
          omega
        rw [hi2, List.take_length] at h0
        rw [hi2, List.take_length]
        rcases hres with ⟨g0, rfl, rfl⟩ | ⟨g0, rfl, rfl⟩
        · exact absurd g0 h0
        · simp only [rowU, push_cast, ↓reduceIte, reduceCtorEq, Nat.reduceBEq, reduceEqDiff, reduceAdd, reduceSub, reduceLT, reduceLeDiff, reduceMul]

noncomputable def apiaryref1_Set_pc : PC :=
  (.seq (.reg [p_s 2 (.mov (.c (.nils 1 (.v (.int .u64 0)))))])
 (.seq (.reg [p_s 3 (.mov (.c (.nils 1 (.v (.int .u64 0)))))])
 (.seq (.seq (.reg [p_s 4 (.mov (o_i 0))])
 (.block 0 (.loop (.seq (.seq (.reg [p_m 8 4, p_m 9 0, p_s 10 (.len false (.t 9)), p_s 11 (.bin .lss (.t 8) (.t 10))])
 (.cond (.t 11)
 .skip
 (.exit 0)))
 (.seq (.block 1 (.seq (.reg [p_m 14 3, p_s 15 (.len false (.t 14)), p_s 5 (.mov (o_i 0)), p_m 6 15])
 (.seq (.block 2 (.loop (.seq (.seq (.reg [p_m 16 5, p_m 17 6, p_s 18 (.bin .lss (.t 16) (.t 17))])
 (.cond (.t 18)
 .skip
 (.exit 2)))
 (.block 3 (.seq (.reg [p_m 19 5, p_m 20 6, p_s 21 (.bin .add (.t 19) (.t 20)), p_s 22 (.bin .quo (.t 21) (o_i 2)), p_m 7 22])
 (.seq (.drw [p_m 23 3, p_m 24 7, p_s 25 (.ia 1 (.v (.int .u64 0)) (.t 23) (.t 24)), p_s 26 (.ld none (.t 25)), p_m 27 0, p_m 28 4, p_s 29 (.ia 1 (.v (.int .u64 0)) (.t 27) (.t 28)),
 p_s 30 (.ld none (.t 29)), p_s 31 (.bin .lss (.t 26) (.t 30))]
 [[], [], [0, 1], [0, 1, 2], [], [], [4, 5], [4, 5, 6], [0, 1, 2, 3, 4, 5, 6, 7]])
 (.cond (.t 31)
 (.reg [p_m 32 7, p_s 33 (.bin .add (.t 32) (o_i 1)), p_m 5 33])
 (.reg [p_m 34 7, p_m 6 34]))))))))
 (.seq (.seq (.drw [p_m 35 5, p_m 36 3, p_s 37 (.len false (.t 36)), p_s 38 (.bin .lss (.t 35) (.t 37)), p_m 39 38, p_g 40 39 true (.mov (.t 3)), p_g 41 39 true (.mov (.t 5)), p_g 42 39 true (.ia 1 (.v (.int .u64 0)) (.t 40) (.t 41)),
 p_g 43 39 true (.ld none (.t 42)), p_g 44 39 true (.mov (.t 0)), p_g 45 39 true (.mov (.t 4)), p_g 46 39 true (.ia 1 (.v (.int .u64 0)) (.t 44) (.t 45)), p_g 47 39 true (.ld none (.t 46)),
 p_g 48 39 true (.bin .eql (.t 43) (.t 47)), p_s 49 (.pick (.t 39) (.t 48) (.c (.r (.v (.bool false)))))]
 [[], [], [1], [0, 1, 2], [0, 1, 2, 3], [0, 1, 2, 3, 4], [0, 1, 2, 3, 4], [0, 1, 2, 3, 4, 5, 6], [0, 1, 2, 3, 4, 5, 6, 7], [0, 1, 2, 3, 4], [0, 1, 2, 3, 4], [0, 1, 2, 3, 4, 9, 10], [0, 1, 2, 3, 4, 9, 10, 11], [0, 1, 2, 3, 4, 5, 6, 7, 8, 9, 10, 11, 12], [0, 1, 2, 3, 4, 5, 6, 7, 8, 9, 10, 11, 12, 13]])
 (.cond (.t 49)
 (.exit 1)
 .skip))
 (.seq (.reg [p_m 50 3, p_a 51 (.bsl 1 (.v (.int .u64 0)) [(.c (.r (.v (.int .u64 0))))]), p_a 52 (.app 1 (.v (.int .u64 0)) 8 (.t 50) (.t 51)), p_m 3 52])
 (.seq (.drw [p_m 53 3, p_m 54 5, p_s 55 (.bin .add (.t 54) (o_i 1)), p_s 56 (.sll 1 (.t 53) (some (.t 55)) none none), p_m 57 3, p_m 58 5, p_s 59 (.sll 1 (.t 57) (some (.t 58)) none none),
 p_a 60 (.cpy 1 (.t 56) (.t 59))]
 [[], [], [1], [0, 1, 2], [], [], [4, 5], [0, 1, 2, 3, 4, 5, 6]])
 (.reg [p_m 61 3, p_m 62 5, p_m 63 0, p_m 64 4, p_s 65 (.ia 1 (.v (.int .u64 0)) (.t 63) (.t 64)), p_s 66 (.ld none (.t 65)), p_s 67 (.ia 1 (.v (.int .u64 0)) (.t 61) (.t 62)),
 ⟨none, none, 0, .act (.st 1 (.t 67) (.t 66))⟩])))))))
 (.reg [p_m 12 4, p_s 13 (.bin .add (.t 12) (o_i 1)), p_m 4 13]))))))
 (.seq (.reg [p_m 68 3, p_m 2 68])
 .ret))))
theorem apiaryref1_Set_triple : Fun Go.Proofs.Tryz.prog 19 1 [(2, false, none)] apiaryref1_Set_pc := fun_mk Go.Proofs.Tryz.func19 rfl (by decide) (by kernel_rfl) (by decide) rfl (by kernel_rfl) (by kernel_rfl) (by decide)
def cutI (x : Int) (S : List Int) : Nat := (S.takeWhile fun y => decide (y < x)).length
def insI (x : Int) (S : List Int) : List Int := if S[cutI x S]? = some x then S else S.take (cutI x S) ++ x :: S.drop (cutI x S)
def setL (ws : List Int) : List Int := ws.foldl (fun S x => insI x S) []
def Up (S : List Int) : Prop := S.Pairwise (· < ·)
theorem cutI_le (x : Int) (S : List Int) : cutI x S ≤ S.length := (List.takeWhile_sublist _).length_le
theorem cutI_lo {x : Int} : ∀ {S : List Int} {j : Nat} {y : Int}, j < cutI x S → S[j]? = some y → y < x
 | [], j, y, h, hy => by simp at hy
 | a :: S, j, y, h, hy => by
  unfold cutI at h
  rw [List.takeWhile_cons] at h
  by_cases ha : a < x
  ·simp only [ha, decide_true, if_true, List.length_cons] at h
   cases j with
   | zero => simp at hy; omega
   | succ j => exact cutI_lo (S := S) (j := j) (by unfold cutI; omega) (by simpa using hy)
  ·simp [ha] at h
theorem cutI_hi {x : Int} : ∀ {S : List Int}, Up S → ∀ {j : Nat} {y : Int}, cutI x S ≤ j → S[j]? = some y → x ≤ y
 | [], _, j, y, h, hy => by simp at hy
 | a :: S, hS, j, y, h, hy => by
  have h1 := List.pairwise_cons.1 hS
  unfold cutI at h
  rw [List.takeWhile_cons] at h
  by_cases ha : a < x
  ·simp only [ha, decide_true, if_true, List.length_cons] at h
   obtain ⟨j', rfl⟩ : ∃ j', j = j' + 1 := ⟨j - 1, by omega⟩
   exact cutI_hi (S := S) h1.2 (j := j') (by unfold cutI; omega) (by simpa using hy)
  ·cases j with
   | zero => simp at hy; omega
   | succ j =>
    have := h1.1 y (List.mem_of_getElem? (by simpa using hy))
    omega
theorem cutI_is {x : Int} {S : List Int} (hS : Up S) {k : Nat} (hk : k ≤ S.length) (h1 : ∀ j y, j < k → S[j]? = some y → y < x) (h2 : ∀ j y, k ≤ j → S[j]? = some y → x ≤ y) : cutI x S = k := by
 have hc := cutI_le x S
 rcases Nat.lt_trichotomy (cutI x S) k with h | h | h
 ·obtain ⟨y, hy⟩ : ∃ y, S[cutI x S]? = some y := ⟨S[cutI x S]'(by omega), by simp [show cutI x S < S.length by omega]⟩
  have a := h1 _ y h hy
  have b := cutI_hi hS (Nat.le_refl _) hy
  omega
 ·exact h
 ·obtain ⟨y, hy⟩ : ∃ y, S[k]? = some y := ⟨S[k]'(by omega), by simp [show k < S.length by omega]⟩
  have a := cutI_lo h hy
  have b := h2 k y (Nat.le_refl _) hy
  omega
theorem insI_mem {x y : Int} {S : List Int} : y ∈ insI x S ↔ y = x ∨ y ∈ S := by
 unfold insI
 split
 ·rename_i h
  constructor
  ·exact .inr
  ·rintro (rfl | h2)
   ·exact List.mem_of_getElem? h
   ·exact h2
 ·rw [List.mem_append, List.mem_cons]
  conv => rhs; rw [← List.take_append_drop (cutI x S) S, List.mem_append]
  constructor
  ·rintro (h | h | h)
   ·exact .inr (.inl h)
   ·exact .inl h
   ·exact .inr (.inr h)
  ·rintro (h | h | h)
   ·exact .inr (.inl h)
   ·exact .inl h
   ·exact .inr (.inr h)
theorem insI_up {x : Int} {S : List Int} (hS : Up S) : Up (insI x S) := by
 unfold insI
 split
 ·exact hS
 ·rename_i hne
  have hlo : ∀ y ∈ S.take (cutI x S), y < x := fun y hy => by
   obtain ⟨j, hj⟩ := List.getElem?_of_mem hy
   rw [List.getElem?_take] at hj
   split at hj
   ·exact cutI_lo (by assumption) hj
   ·cases hj
  have hhi : ∀ y ∈ S.drop (cutI x S), x < y := fun y hy => by
   obtain ⟨j, hj⟩ := List.getElem?_of_mem hy
   rw [List.getElem?_drop] at hj
   have h1 := cutI_hi (x := x) hS (by omega) hj
   have h0 : x ≠ y := fun e => by
    subst e
    have hc0 : cutI x S < S.length := by have := (List.getElem?_eq_some_iff.1 hj).1; omega
    obtain ⟨z, hz⟩ : ∃ z, S[cutI x S]? = some z := ⟨S[cutI x S], by simp [hc0]⟩
    have h2 := cutI_hi (x := x) hS (Nat.le_refl _) hz
    by_cases hj0 : j = 0
    ·subst hj0; exact hne hj
    ·have h3 := (List.pairwise_iff_getElem.1 hS) (cutI x S) (cutI x S + j) hc0 (by have := (List.getElem?_eq_some_iff.1 hj).1; omega) (by omega)
     rw [(List.getElem?_eq_some_iff.1 hz).2, (List.getElem?_eq_some_iff.1 hj).2] at h3
     omega
   omega
  unfold Up at *
  rw [List.pairwise_append, List.pairwise_cons]
  refine ⟨hS.sublist (List.take_sublist ..), ⟨hhi, hS.sublist (List.drop_sublist ..)⟩, fun a ha b hb => ?_⟩
  rcases List.mem_cons.1 hb with rfl | hb
  ·exact hlo a ha
  ·have := hlo a ha
   have := hhi b hb
   omega
theorem setL_spec : ∀ (ws S : List Int), Up S → Up (ws.foldl (fun S x => insI x S) S) ∧ ∀ y, y ∈ ws.foldl (fun S x => insI x S) S ↔ y ∈ S ∨ y ∈ ws
 | [], S, h => ⟨h, by simp⟩
 | x :: ws, S, h => by
  obtain ⟨h1, h2⟩ := setL_spec ws (insI x S) (insI_up h)
  refine ⟨h1, fun y => ?_⟩
  rw [List.foldl_cons, h2, insI_mem, List.mem_cons]
  constructor
  ·rintro ((h | h) | h)
   ·exact .inr (.inl h)
   ·exact .inl h
   ·exact .inr (.inr h)
  ·rintro (h | h | h)
   ·exact .inl (.inr h)
   ·exact .inl (.inl h)
   ·exact .inr h
theorem setL_eq {ws W : List Int} (hW : Up W) (h : ∀ y, y ∈ ws ↔ y ∈ W) : setL ws = W := by
 obtain ⟨h1, h2⟩ := setL_spec ws [] List.Pairwise.nil
 have n1 : (setL ws).Nodup := h1.imp fun {a b} h e => by omega
 have n2 : W.Nodup := hW.imp fun {a b} h e => by omega
 have hp : (setL ws).Perm W := (List.perm_ext_iff_of_nodup n1 n2).2 fun y => by rw [← h]; unfold setL; rw [h2]; simp
 exact List.Perm.eq_of_pairwise (le := fun a b => a < b) (fun a b _ _ h1 h2 => by omega) h1 hW hp
theorem insI_len (x : Int) (S : List Int) : (insI x S).length ≤ S.length + 1 := by
 unfold insI
 split
 ·omega
 ·rw [List.length_append, List.length_cons, List.length_take, List.length_drop]
  omega

section
variable {P : Program} {f : FuncId}
theorem nil_out2 {args : List AV} {po os : List Ob} {sz : Nat} {z : RV} {y : Value} (hpo : po.length ≤ os.length) (hsh : ∀ o ∈ os, imO (keepF os.length) o = o)
  (h : Triple P f args po (.tup [.nils sz z, .r (.v y)]) os) : Triple P f args po (.tup [.own (1000000 + os.length) 0 0 0, .r (.v y)]) (os ++ [.row sz z true true []]) := by
 intro w cargs ρ B hgl hB hM hcs hargs
 refine (h w cargs ρ B hgl hB hM hcs hargs).mono ?_
 rintro e w' ⟨c, ρ', rfl, hM', hr⟩
 obtain ⟨cs, rfl, hcl, hcr⟩ : ∃ cs : Array Value, c = .tuple cs ∧ cs.size = 2 ∧ ∀ (i : Nat) (x : AV) (d : Value), ([.nils sz z, .r (.v y)] : List AV)[i]? = some x → cs[i]? = some d → RelA w' (Free B (ob0 os) ρ' w') (ob0 os) ρ' x d := by
  cases hr with
  | tup _ cs hl h => exact ⟨cs, rfl, hl, h⟩
 have hin : ∀ (x : Ob) (i : Nat) (o : Ob), os[i]? = some o → ob0 (os ++ [x]) (1000000 + i) = some (0, o) := fun x i o ho => ob0_get (by rw [List.getElem?_append_left (List.getElem?_eq_some_iff.1 ho).1]; exact ho)
 have hla : ∀ x : Ob, ob0 (os ++ [x]) (1000000 + os.length) = some (0, x) := fun x => ob0_get (by simp)
 have hat : ∀ (y : Ob) (id : Nat) (x : Nat × Ob), ob0 (os ++ [y]) id = some x → (∃ i o, i < os.length ∧ id = 1000000 + i ∧ os[i]? = some o ∧ x = (0, o)) ∨ (id = 1000000 + os.length ∧ x = (0, y)) := fun y id x hx => by
  obtain ⟨i, hi, rfl, ho, hv⟩ := ob0_lt hx
  by_cases hlt : i < os.length
  ·rw [List.getElem?_append_left hlt] at ho
   exact .inl ⟨i, x.2, hlt, rfl, ho, by rw [← hv]⟩
  ·have : i = os.length := by simp at hi; omega
   subst this
   rw [List.getElem?_append_right (Nat.le_refl _)] at ho
   simp at ho
   exact .inr ⟨rfl, by rw [ho, ← hv]⟩
 obtain ⟨ρ2, r1, r2, r3, r4⟩ : ∃ ρ2 : Pl → Option Nat, (∀ i, i < os.length → ρ2 (.o (1000000 + i)) = ρ' (.o (1000000 + i))) ∧ (∀ i j, i < os.length → ρ2 (.s (1000000 + i) j) = ρ' (.s (1000000 + i) j)) ∧ ρ2 (.o (1000000 + os.length)) = none ∧ (∀ j, ρ2 (.s (1000000 + os.length) j) = none) :=
  ⟨fun | .o i => if i = 1000000 + os.length then none else ρ' (.o i) | .s i j => if i = 1000000 + os.length then none else ρ' (.s i j), fun i hi => by simp only; rw [if_neg (by omega)], fun i j hi => by simp only; rw [if_neg (by omega)], by simp, by simp⟩
 have hft : ∀ (id : Nat) (x : Nat × Ob) (b : Nat), ob0 (os ++ [Ob.row sz z true true []]) id = some x → foot ρ2 id x.2 b → ob0 os id = some x ∧ foot ρ' id x.2 b := fun id x b hx hf => by
  rcases hat _ id x hx with ⟨i, o, hi, rfl, ho, rfl⟩ | ⟨rfl, rfl⟩
  ·refine ⟨ob0_get ho, ?_⟩
   rcases hf with q | ⟨ha, j, q⟩
   ·exact .inl (by rw [← r1 i hi]; exact q)
   ·exact .inr ⟨ha, j, by rw [← r2 i j hi]; exact q⟩
  ·rcases hf with q | ⟨ha, j, q⟩
   ·rw [r3] at q; cases q
   ·cases ha
 have hfree : ∀ c, Free B (ob0 os) ρ' w' c → Free B (ob0 (os ++ [Ob.row sz z true true []])) ρ2 w' c := fun c hc => ⟨hc.1, fun ⟨id, v, o, g1, g2, g3⟩ => by
  obtain ⟨q1, q2⟩ := hft id _ c g1 g3
  exact hc.2.1 ⟨id, v, o, q1, g2, q2⟩, hc.2.2⟩
 have hF : Fits (ob0 os) (ob0 (os ++ [Ob.row sz z true true []])) ρ' ρ2 (keepF os.length) := fun id ver j u hf => by
  unfold keepF at hf
  split at hf
  ·rename_i hc
   cases hf
   obtain ⟨rfl, hc1, hc2⟩ := hc
   obtain ⟨q, rfl⟩ : ∃ q, id = 1000000 + q := ⟨id - 1000000, by omega⟩
   have hq : os[q]? = some (os[q]'(by omega)) := by simp [show q < os.length by omega]
   exact ⟨_, _, ob0_get hq, hin _ q _ hq, r1 q (by omega), Keep.refl _⟩
  ·cases hf
 refine ⟨_, ρ2, rfl, ⟨fun id v o hx => ?_, fun id id' x x' b hx hx' hf hf' => ?_, hM'.keeps, fun id v o b hx hf => ?_, fun id b hp => ?_⟩, ?_⟩
 ·rcases hat _ id _ hx with ⟨i, o', hi, rfl, ho, hx2⟩ | ⟨rfl, hx2⟩
  ·cases hx2
   have := (hM'.obj (1000000 + i) 0 o (ob0_get ho)).im hfree hF (i := 1000000 + i) (r1 i hi) (fun j => r2 i j hi)
   rwa [hsh o (List.mem_of_getElem? ho)] at this
  ·cases hx2
   exact .inl ⟨rfl, r3⟩
 ·obtain ⟨q1, q2⟩ := hft id x b hx hf
  obtain ⟨q1', q2'⟩ := hft id' x' b hx' hf'
  exact hM'.inj id id' x x' b q1 q1' q2 q2'
 ·obtain ⟨q1, q2⟩ := hft id _ b hx hf
  exact hM'.own id v o b q1 q2
 ·obtain ⟨q1, o, q2, q3⟩ := hM'.pin id b hp
  obtain ⟨i, hi, rfl, ho, _⟩ := ob0_lt q2
  exact ⟨by rw [r1 i hi]; exact q1, o, hin _ i o ho, q3⟩
 ·refine .tup _ cs hcl fun i x d hx hd => ?_
  match i, hx with
  | 0, hx =>
   simp at hx
   subst hx
   have h0 := hcr 0 _ d rfl hd
   cases h0
   exact .own _ _ _ _ _ rfl ⟨0, _, hla _, Nat.le_refl _, fun _ => ⟨none, 0, rfl, Nat.le_refl _, by simp, by simp, by simp⟩⟩
  | 1, hx =>
   simp at hx
   subst hx
   have h0 := hcr 1 _ d rfl hd
   cases h0 with
   | r h0 => exact .r (h0.mono fun b hb => ⟨hfree b hb, rfl⟩)
end
theorem vcells_a (L : List Pt) (hL : L.length < 50) (hok : ∀ p ∈ L, p.ok) (t : Til) (ht : t.ok) (hti : tis t = true) (hf : fine t = false) :
  Triple Go.Proofs.Tryz.prog 17 [t.v, .ptr 1000000 0 0] [.abs (sT L)] (.tup [.own 1000001 0 0 (shown L t).length, int .i64 0]) [.abs (sT L), rowU (shown L t)] := by
 by_cases h : shown L t = []
 ·have := nil_out2 (os := [.abs (sT L)]) (by simp) (by simp [imO]) (vcells_t L hL hok t ht hti hf (.inl ⟨h, rfl, rfl⟩))
  rw [h]
  exact this
 ·exact vcells_t L hL hok t ht hti hf (.inr ⟨h, rfl, rfl⟩)

theorem row_ins {M : List RV} {z x : RV} {r : Nat} (h : r ≤ M.length) :
  (splice (M ++ [z]) (r + 1) ((((M ++ [z]).drop r).take (M.length + 1 - r)).take (M.length + 1 - (r + 1)))).set r x = M.take r ++ x :: M.drop r := by
 have e1 : (((M ++ [z]).drop r).take (M.length + 1 - r)).take (M.length + 1 - (r + 1)) = M.drop r := by
  rw [List.take_take, Nat.min_eq_left (by omega), List.drop_append_of_le_length h, List.take_append_of_le_length (by rw [List.length_drop]; omega), List.take_of_length_le (by rw [List.length_drop]; omega)]
 rw [e1]
 apply List.ext_getElem?
 intro j
 have hl : (M ++ [z]).length = M.length + 1 := by simp
 have hd : (M.drop r).length = M.length - r := by simp
 rw [List.getElem?_set, splice_length (by rw [hl, hd]; omega), hl, splice_at (by rw [hl, hd]; omega), hd, List.getElem?_append (l₁ := M.take r)]
 have ht : (M.take r).length = r := by simp; omega
 rw [ht]
 by_cases h1 : r = j
 ·subst h1
  rw [if_pos rfl, if_pos (by omega), if_neg (by omega)]
  simp
 ·rw [if_neg h1]
  by_cases h2 : j < r
  ·rw [if_neg (by omega), if_pos h2, List.getElem?_append_left (by omega), List.getElem?_take, if_pos h2]
  ·rw [if_neg h2]
   obtain ⟨m, rfl⟩ : ∃ m, j = r + 1 + m := ⟨j - (r + 1), by omega⟩
   rw [show r + 1 + m - r = m + 1 by omega, List.getElem?_cons_succ]
   by_cases h3 : r + 1 + m < r + 1 + (M.length - r)
   ·rw [if_pos ⟨by omega, h3⟩, show r + 1 + m - (r + 1) = m by omega]
   ·rw [if_neg (by omega), List.getElem?_eq_none (by rw [hl]; omega), List.getElem?_eq_none (by rw [hd]; omega)]
theorem row_ins2 {M : List RV} (z : RV) {r n : Nat} (hn : M.length = n) (h : r ≤ n) :
  ∃ W, spl (M ++ [z]) (0 + ((r : Int) + 1).toNat) (List.take ((n : Int) + 1 - ((r : Int) + 1)).toNat (List.take ((n : Int) + 1 - (r : Int)).toNat (List.drop (0 + ((r : Int)).toNat) (M ++ [z])))) = W ∧
   W.length = n + 1 ∧ (∀ x, W.set r x = M.take r ++ x :: M.drop r) ∧ W[r]? = (M ++ [z])[r]? := by
 refine ⟨_, rfl, ?_⟩
 subst hn
 have e1 : 0 + ((r : Int) + 1).toNat = r + 1 := by omega
 have e2 : ((M.length : Int) + 1 - ((r : Int) + 1)).toNat = M.length + 1 - (r + 1) := by omega
 have e3 : ((M.length : Int) + 1 - (r : Int)).toNat = M.length + 1 - r := by omega
 have e4 : 0 + ((r : Int)).toNat = r := by omega
 rw [e1, e2, e3, e4]
 unfold spl
 have hl : (M ++ [z]).length = M.length + 1 := by simp
 have hfit : r + 1 + (List.take (M.length + 1 - (r + 1)) (List.take (M.length + 1 - r) (List.drop r (M ++ [z])))).length ≤ (M ++ [z]).length := by
  rw [List.length_take, List.length_take, List.length_drop, hl]
  omega
 refine ⟨by rw [splice_length hfit, hl], fun x => row_ins h, ?_⟩
 rw [splice_at hfit, if_neg (by omega)]
theorem take_rwS (C : List Int) : List.take C.length (rw64 C) = rw64 C := List.take_of_length_le (by rw [rw64_len]; omega)
theorem rwS_any (ws : List Int) (k : Nat) : ∃ x : Int, (rw64 ws).getD k (.v (.int .u64 0)) = .v (.int .u64 x) := by
 rw [List.getD_eq_getElem?_getD]
 unfold rw64
 rw [List.getElem?_map]
 cases ws[k]? with
 | none => exact ⟨0, rfl⟩
 | some x => exact ⟨x, rfl⟩
theorem ins_row (S : List Int) {r : Nat} (h : r ≤ S.length) :
  ∃ (W : List RV) (g : Int), spl (rw64 S ++ [.v (.int .u64 0)]) (0 + ((r : Int) + 1).toNat) (List.take ((S.length : Int) + 1 - ((r : Int) + 1)).toNat (List.take ((S.length : Int) + 1 - (r : Int)).toNat (List.drop (0 + ((r : Int)).toNat) (rw64 S ++ [.v (.int .u64 0)])))) = W ∧
   W.getD (0 + ((r : Int)).toNat) (.v (.int .u64 0)) = .v (.int .u64 g) ∧ ∀ x : Int, W.set (0 + ((r : Int)).toNat) (.v (.int .u64 x)) = rw64 (S.take r ++ x :: S.drop r) := by
 obtain ⟨W, hW, hWl, hWs, hWr⟩ := row_ins2 (M := rw64 S) (.v (.int .u64 0)) (r := r) (n := S.length) (rw64_len S) h
 obtain ⟨g, hg⟩ : ∃ g : Int, W[r]? = some (.v (.int .u64 g)) := by
  rw [hWr]
  by_cases hrl2 : r < S.length
  ·exact ⟨S[r], by rw [List.getElem?_append_left (by rw [rw64_len]; exact hrl2)]; simp [rw64, hrl2]⟩
  ·exact ⟨0, by rw [List.getElem?_append_right (by rw [rw64_len]; omega), rw64_len]; simp [show r - S.length = 0 by omega]⟩
 refine ⟨W, g, hW, by simp [List.getD, hg], fun x => ?_⟩
 rw [show 0 + ((r : Int)).toNat = r by omega, hWs]
 simp [rw64, List.map_take, List.map_drop]
theorem ins_facts {x : Int} {S : List Int} {r : Nat} (h : insI x S = S.take r ++ x :: S.drop r) (hr : r ≤ S.length) : insI x S ≠ [] ∧ (insI x S).length = S.length + 1 := by
 rw [h]
 refine ⟨by simp, ?_⟩
 rw [List.length_append, List.length_cons, List.length_take, List.length_drop]
 omega
theorem setL_succ {ws : List Int} {i : Nat} {x : Int} (h : ws[i]? = some x) : setL (ws.take (i + 1)) = insI x (setL (ws.take i)) := by
 unfold setL
 rw [List.take_add_one, h, List.foldl_append]
 rfl
theorem setL_len (ws : List Int) : (setL ws).length ≤ ws.length := by
 have key : ∀ (l S : List Int), (l.foldl (fun S x => insI x S) S).length ≤ S.length + l.length := fun l => by
  induction l with
  | nil => intro S; simp
  | cons x l ih =>
   intro S
   have := ih (insI x S)
   have := insI_len x S
   simp only [List.foldl_cons, List.length_cons]
   omega
 have := key ws []
 unfold setL
 simpa using this
theorem setL_up (ws : List Int) : Up (setL ws) := (setL_spec ws [] List.Pairwise.nil).1
set_option maxHeartbeats 4000000 in
theorem set_t (ws : List Int) (hl : ws.length ≤ 1000) {res : AV} {ro : List Ob}
    (hres : (setL ws = [] ∧ res = .nils 1 (.v (.int .u64 0)) ∧ ro = []) ∨ (setL ws ≠ [] ∧ res = .own 1000000 0 0 (setL ws).length ∧ ro = [rowU (setL ws)])) :
    Triple Go.Proofs.Tryz.prog 19 [.r (.sl 1 (rw64 ws))] [] res ro := by
  refine apiaryref1_Set_triple rfl (by decide) ?_
  have hmx := maxLen_big
  simp only [apiaryref1_Set_pc, List.length_nil, push_cast, ↓reduceIte, reduceCtorEq, Nat.reduceBEq, reduceEqDiff, reduceAdd, reduceSub, reduceLT, reduceLeDiff, reduceMul]
  refine run_loop [(4, false), (0, false), (3, false)] (fun vs pos los => ∃ i : Nat, i ≤ ws.length ∧ pos = [] ∧
      (setL (ws.take i) = [] ∧ vs = [int .i64 i, .r (.sl 1 (rw64 ws)), .nils 1 (.v (.int .u64 0))] ∧ los = [] ∨
       setL (ws.take i) ≠ [] ∧ vs = [int .i64 i, .r (.sl 1 (rw64 ws)), .own 2000000 0 0 (setL (ws.take i)).length] ∧ los = [rowU (setL (ws.take i))]))
    (fun vs _ _ => match vs with | .r (.v (.int _ j)) :: _ => (ws.length - j).toNat | _ => 0) rfl ?_ ?_
  · simp only [push_cast, ↓reduceIte, reduceCtorEq, Nat.reduceBEq, reduceEqDiff, reduceAdd, reduceSub, reduceLT, reduceLeDiff, reduceMul]
    exact ⟨0, by omega, .inl ⟨rfl, rfl⟩⟩
  · rintro vs pos los ⟨i, hi, rfl, ⟨h0, rfl, rfl⟩ | ⟨h0, rfl, rfl⟩⟩
    · simp only [rw64_len, push_cast, ↓reduceIte, reduceCtorEq, Nat.reduceBEq, reduceEqDiff, reduceAdd, reduceSub, reduceLT, reduceLeDiff, reduceMul]
      refine cnd_mk (fun h => ?_) (fun h => ?_)
      · have hi' : i < ws.length := by simpa using h
        obtain ⟨x, hx⟩ : ∃ x, ws[i]? = some x := ⟨ws[i], by simp [hi']⟩
        have wk : IntKind.i64.wrap ((i : Int) + 1) = (i : Int) + 1 := wrap_id (by omega)
        have hs := setL_succ hx
        rw [h0] at hs
        have hs1 : setL (ws.take (i + 1)) = [x] := by rw [hs]; rfl
        have d0 : decide ((0 : Int) < 0) = false := by decide
        simp only [rw64_get' hx, rw64_get0' hx, rw64_len, push_cast, ↓reduceIte, reduceCtorEq, Nat.reduceBEq, reduceEqDiff, reduceAdd, reduceSub, reduceLT, reduceLeDiff, reduceMul]
        refine run_loop [(5, false), (6, false), (4, false), (0, false), (3, false)] (fun vs pos los => vs = [int .i64 0, int .i64 0, int .i64 i, .r (.sl 1 (rw64 ws)), .nils 1 (.v (.int .u64 0))] ∧ pos = [] ∧ los = []) (fun _ _ _ => 0) rfl ?_ ?_
        · simp only [push_cast, ↓reduceIte, reduceCtorEq, Nat.reduceBEq, reduceEqDiff, reduceAdd, reduceSub, reduceLT, reduceLeDiff, reduceMul]
        · rintro vs pos los ⟨rfl, rfl, rfl⟩
          simp only [d0, rw64_get' hx, rw64_get0' hx, rw64_len, wk, push_cast, ↓reduceIte, reduceCtorEq, Nat.reduceBEq, reduceEqDiff, reduceAdd, reduceSub, reduceLT, reduceLeDiff, reduceMul]
          repeat refine And.intro (by first | decide | omega | exact fun _ => by decide | (simp +contextual; done) | kernel_rfl) ?_
          have w01 : IntKind.i64.wrap (0 + 1) = 1 := rfl
          have hsp : spl [RV.v (Value.int IntKind.u64 0)] (0 + Int.toNat 1) (List.take (1 - 1 : Int).toNat (List.take (1 - 0 : Int).toNat (List.drop (0 + Int.toNat 0) [RV.v (Value.int IntKind.u64 0)]))) = [RV.v (Value.int IntKind.u64 0)] := rfl
          simp only [w01, hsp]
          refine ⟨⟨i + 1, by omega, .inr ⟨by rw [hs1]; simp, ?_⟩⟩, by omega⟩
          rw [hs1]
          exact ⟨rfl, rfl⟩
      · have hi2 : i = ws.length := by
          have : ¬ i < ws.length := by simpa using h
          omega
        rw [hi2, List.take_length] at h0
        rcases hres with ⟨g0, rfl, rfl⟩ | ⟨g0, rfl, rfl⟩
        · simp only [push_cast, ↓reduceIte, reduceCtorEq, Nat.reduceBEq, reduceEqDiff, reduceAdd, reduceSub, reduceLT, reduceLeDiff, reduceMul]
        · exact absurd h0 g0
    · have hSl := setL_len (ws.take i)
      have hSl2 : (ws.take i).length ≤ 1000 := by simp; omega
      have hUp := setL_up (ws.take i)
      simp only [rw64_len, rowU, push_cast, ↓reduceIte, reduceCtorEq, Nat.reduceBEq, reduceEqDiff, reduceAdd, reduceSub, reduceLT, reduceLeDiff, reduceMul]
      refine cnd_mk (fun h => ?_) (fun h => ?_)
      · have hi' : i < ws.length := by simpa using h
        obtain ⟨x, hx⟩ : ∃ x, ws[i]? = some x := ⟨ws[i], by simp [hi']⟩
        have wk : IntKind.i64.wrap ((i : Int) + 1) = (i : Int) + 1 := wrap_id (by omega)
        have hs := setL_succ hx
        have hSi := hs
        generalize setL (ws.take i) = S at *
        simp only [rw64_get' hx, rw64_get0' hx, rw64_len, rowU, push_cast, ↓reduceIte, reduceCtorEq, Nat.reduceBEq, reduceEqDiff, reduceAdd, reduceSub, reduceLT, reduceLeDiff, reduceMul]
        refine run_loop [(5, false), (6, false), (4, false), (0, false), (3, false)] (fun vs pos los => ∃ lo hi : Nat, lo ≤ hi ∧ hi ≤ S.length ∧ (∀ j y, j < lo → S[j]? = some y → y < x) ∧ (∀ j y, hi ≤ j → S[j]? = some y → x ≤ y) ∧
            vs = [int .i64 lo, int .i64 hi, int .i64 i, .r (.sl 1 (rw64 ws)), .own 2000000 0 0 S.length] ∧ pos = [] ∧ los = [rowU S])
          (fun vs _ _ => match vs with | .r (.v (.int _ a)) :: .r (.v (.int _ b)) :: _ => (b - a).toNat | _ => 0) rfl ?_ ?_
        · simp only [rowU, push_cast, ↓reduceIte, reduceCtorEq, Nat.reduceBEq, reduceEqDiff, reduceAdd, reduceSub, reduceLT, reduceLeDiff, reduceMul]
          refine ⟨0, S.length, by omega, by omega, fun j y hj => by omega, fun j y hj hy => ?_, rfl⟩
          rw [List.getElem?_eq_none (by omega)] at hy
          cases hy
        · rintro vs pos los ⟨lo, hi2, g1, g2, g3, g4, rfl, rfl, rfl⟩
          simp only [rowU, rw64_len, push_cast, ↓reduceIte, reduceCtorEq, Nat.reduceBEq, reduceEqDiff, reduceAdd, reduceSub, reduceLT, reduceLeDiff, reduceMul]
          refine cnd_mk (fun hc => ?_) (fun hc => ?_)
          · have hlh : lo < hi2 := by simpa using hc
            obtain ⟨m, hm⟩ : ∃ m, (lo + hi2) / 2 = m := ⟨_, rfl⟩
            have w1 : IntKind.i64.wrap ((lo : Int) + hi2) = (lo : Int) + hi2 := wrap_id (by omega)
            have w2 : ((lo : Int) + hi2).tdiv 2 = (m : Int) := by rw [Int.tdiv_eq_ediv_of_nonneg (by omega)]; omega
            have w3 : IntKind.i64.wrap (m : Int) = (m : Int) := wrap_id (by omega)
            have w4 : IntKind.i64.wrap ((m : Int) + 1) = (m : Int) + 1 := wrap_id (by omega)
            obtain ⟨ym, hym⟩ : ∃ y, S[m]? = some y := ⟨S[m]'(by omega), by simp [show m < S.length by omega]⟩
            simp only [w1, w2, w3, w4, rw64_get' hx, rw64_get0' hx, rw64_get' hym, rw64_get0' hym, rowU, rw64_len, push_cast, ↓reduceIte, reduceCtorEq, Nat.reduceBEq, reduceEqDiff, reduceAdd, reduceSub, reduceLT, reduceLeDiff, reduceMul]
            repeat refine And.intro (by first | decide | omega | exact fun _ => by decide | (simp +contextual; done) | kernel_rfl) ?_
            refine cnd_mk (fun hd => ?_) (fun hd => ?_)
            · have hlt : ym < x := by simpa using hd
              simp only [w1, w2, w3, w4, rowU, rw64_len, push_cast, ↓reduceIte, reduceCtorEq, Nat.reduceBEq, reduceEqDiff, reduceAdd, reduceSub, reduceLT, reduceLeDiff, reduceMul]
              refine ⟨⟨m + 1, hi2, by omega, by omega, fun j y hj hy => ?_, g4, by simp⟩, by omega⟩
              by_cases hjm : j = m
              · subst hjm; rw [hym] at hy; cases hy; exact hlt
              · have := (List.pairwise_iff_getElem.1 hUp) j m (List.getElem?_eq_some_iff.1 hy).1 (List.getElem?_eq_some_iff.1 hym).1 (by omega)
                rw [(List.getElem?_eq_some_iff.1 hy).2, (List.getElem?_eq_some_iff.1 hym).2] at this
                omega
            · have hge : x ≤ ym := by simpa using hd
              simp only [w1, w2, w3, w4, rowU, rw64_len, push_cast, ↓reduceIte, reduceCtorEq, Nat.reduceBEq, reduceEqDiff, reduceAdd, reduceSub, reduceLT, reduceLeDiff, reduceMul]
              refine ⟨⟨lo, m, by omega, by omega, g3, fun j y hj hy => ?_, by simp⟩, by omega⟩
              by_cases hjm : j = m
              · subst hjm; rw [hym] at hy; cases hy; exact hge
              · have := (List.pairwise_iff_getElem.1 hUp) m j (List.getElem?_eq_some_iff.1 hym).1 (List.getElem?_eq_some_iff.1 hy).1 (by omega)
                rw [(List.getElem?_eq_some_iff.1 hy).2, (List.getElem?_eq_some_iff.1 hym).2] at this
                omega
          · have hlh : lo = hi2 := by
              have : ¬ lo < hi2 := by simpa using hc
              omega
            subst hlh
            have hcut := cutI_is hUp g2 g3 g4
            have wl : IntKind.i64.wrap ((lo : Int) + 1) = (lo : Int) + 1 := wrap_id (by omega)
            obtain ⟨W, gw, hW1, hW2, hW3⟩ := ins_row S g2
            by_cases hlen : lo < S.length
            · obtain ⟨yl, hyl⟩ : ∃ y, S[lo]? = some y := ⟨S[lo], by simp [hlen]⟩
              have d1 : decide ((lo : Int) < S.length) = true := by simp; omega
              by_cases hxy : yl = x
              · have d2 : (yl == x) = true := by simp [hxy]
                have hins : insI x S = S := by unfold insI; rw [hcut, hyl, hxy, if_pos rfl]
                simp only [d1, d2, wk, wl, rw64_get' hx, rw64_get0' hx, rw64_get' hyl, rw64_get0' hyl, rowU, rw64_len, push_cast, ↓reduceIte, reduceCtorEq, Nat.reduceBEq, reduceEqDiff, reduceAdd, reduceSub, reduceLT, reduceLeDiff, reduceMul]
                repeat refine And.intro (by first | decide | omega | exact fun _ => by decide | (simp +contextual; done) | kernel_rfl) ?_
                exact ⟨⟨i + 1, by omega, .inr ⟨by rw [hs, hins]; exact h0, by rw [hs, hins]; rfl, by rw [hs, hins]⟩⟩, by omega⟩
              · have d2 : (yl == x) = false := by simp [hxy]
                have hins : insI x S = S.take lo ++ x :: S.drop lo := by unfold insI; rw [hcut, hyl, if_neg (fun e => hxy (Option.some.inj e))]
                obtain ⟨hne, hinl⟩ := ins_facts hins g2
                simp only [d1, d2, wk, wl, rw64_get' hx, rw64_get0' hx, rw64_get' hyl, rw64_get0' hyl, rowU, rw64_len, take_rwS, hW1, hW2, push_cast, ↓reduceIte, reduceCtorEq, Nat.reduceBEq, reduceEqDiff, reduceAdd, reduceSub, reduceLT, reduceLeDiff, reduceMul]
                repeat refine And.intro (by first | decide | omega | exact fun _ => by decide | (simp +contextual; done) | kernel_rfl) ?_
                rw [hW3]
                exact ⟨⟨i + 1, by omega, .inr ⟨by rw [hs]; exact hne, by rw [hs, hinl]; simp, by rw [hs, hins]⟩⟩, by omega⟩
            · have d1 : decide ((lo : Int) < S.length) = false := by simp; omega
              have hins : insI x S = S.take lo ++ x :: S.drop lo := by unfold insI; rw [hcut, List.getElem?_eq_none (by omega), if_neg (by simp)]
              obtain ⟨hne, hinl⟩ := ins_facts hins g2
              obtain ⟨x0, hx0⟩ := rwS_any S (0 + ((lo : Int)).toNat)
              obtain ⟨x1, hx1⟩ := rwS_any S ((lo : Int)).toNat
              simp only [d1, wk, wl, hx0, hx1, rw64_get' hx, rw64_get0' hx, rowU, rw64_len, take_rwS, hW1, hW2, push_cast, ↓reduceIte, reduceCtorEq, Nat.reduceBEq, reduceEqDiff, reduceAdd, reduceSub, reduceLT, reduceLeDiff, reduceMul]
              repeat refine And.intro (by first | decide | omega | exact fun _ => by decide | (simp +contextual; done) | kernel_rfl) ?_
              rw [hW3]
              exact ⟨⟨i + 1, by omega, .inr ⟨by rw [hs]; exact hne, by rw [hs, hinl]; simp, by rw [hs, hins]⟩⟩, by omega⟩
      · have hi2 : i = ws.length := by
          have : ¬ i < ws.length := by simpa using h
          omega
        rw [hi2, List.take_length] at h0 ⊢
        rcases hres with ⟨g0, rfl, rfl⟩ | ⟨g0, rfl, rfl⟩
        · exact absurd g0 h0
        · simp only [rowU, push_cast, ↓reduceIte, reduceCtorEq, Nat.reduceBEq, reduceEqDiff, reduceAdd, reduceSub, reduceLT, reduceLeDiff, reduceMul]

def kid (t : Til) (a b : Int) : Til := ⟨t.z + 1, 2 * t.x + a, 2 * t.y + b, t.r⟩
theorem kid_tis {t : Til} (h : tis t = true) (hz : t.z < 18) {a b : Int} (ha : 0 ≤ a ∧ a ≤ 1) (hb : 0 ≤ b ∧ b ≤ 1) : tis (kid t a b) = true := by
 simp only [tis, decide_eq_true_eq] at h ⊢
 obtain ⟨z0, z1, r0, r1, x0, x1, y0, y1⟩ := h
 have e : (2 : Int) ^ (t.z + 1).toNat = 2 * 2 ^ t.z.toNat := by
  rw [show (t.z + 1).toNat = t.z.toNat + 1 by omega, Int.pow_succ]
  omega
 simp only [kid]
 rw [e]
 omega
theorem kid_ok {t : Til} (h : tis t = true) (hz : t.z < 18) {a b : Int} (ha : 0 ≤ a ∧ a ≤ 1) (hb : 0 ≤ b ∧ b ≤ 1) : (kid t a b).ok ∧ t.ok := by
 simp only [tis, decide_eq_true_eq] at h
 obtain ⟨z0, z1, r0, r1, x0, x1, y0, y1⟩ := h
 have hp : (2 : Int) ^ t.z.toNat ≤ 262144 := by
  have h1 : 2 ^ t.z.toNat ≤ 2 ^ 18 := Nat.pow_le_pow_right (by decide) (by omega)
  have h3 : ((2 ^ t.z.toNat : Nat) : Int) = (2 : Int) ^ t.z.toNat := by simp
  omega
 simp only [Til.ok, kid, in64]
 omega
theorem cellsL_up (L : List Pt) (r : Nat) : Up (cellsL L r) := by
 have tr : ∀ x y z : Int, decide (x ≤ y) = true → decide (y ≤ z) = true → decide (x ≤ z) = true := by simp; omega
 have tot : ∀ x y : Int, (decide (x ≤ y) || decide (y ≤ x)) = true := by simp; omega
 have s1 : (cellsL L r).Pairwise fun x y => decide (x ≤ y) = true := List.pairwise_mergeSort tr tot _
 have s2 : (cellsL L r).Pairwise fun x y => x ≠ y := (List.mergeSort_perm _ _).nodup_iff.2 (List.pairwise_map.2 ((dd_nodup _).imp fun {a b} hab e => hab (by omega)))
 exact (s1.and s2).imp fun {a b} h => by
  obtain ⟨h1, h2⟩ := h
  simp at h1
  omega
theorem tw_kids {t : Til} (h : tis t = true) (hz : t.z < 18) (n : Int) : tw t n = (tw (kid t 0 0) n || tw (kid t 1 0) n || tw (kid t 0 1) n || tw (kid t 1 1) n) := by
 simp only [tis, decide_eq_true_eq] at h
 have hs : (2 : Int) ^ (30 - t.z).toNat = 2 * 2 ^ (30 - (t.z + 1)).toNat := by
  rw [show (30 - t.z).toNat = (30 - (t.z + 1)).toNat + 1 by omega, Int.pow_succ]
  omega
 have hpos : (0 : Int) < 2 ^ (30 - (t.z + 1)).toNat := Int.pow_pos (by decide)
 unfold tw
 simp only [kid, Int.add_zero]
 rw [hs]
 exact tch_kids (by omega) hpos
def kidsL (L : List Pt) (t : Til) (i : Nat) : List Int := ((List.range i).map fun j : Nat => shown L (kid t (j % 2 : Int) (j / 2 : Int))).flatten
theorem kidsL_succ (L : List Pt) (t : Til) (i : Nat) : kidsL L t (i + 1) = kidsL L t i ++ shown L (kid t ((i : Int) % 2) ((i : Int) / 2)) := by
 unfold kidsL
 rw [List.range_succ, List.map_append, List.flatten_append]
 simp
theorem shown_len (L : List Pt) (t : Til) : (shown L t).length ≤ L.length := Nat.le_trans (List.length_filter_le ..) (cellsL_len _ _)
theorem kidsL_len (L : List Pt) (t : Til) : ∀ i, (kidsL L t i).length ≤ i * L.length
 | 0 => by simp [kidsL]
 | i + 1 => by
  have := kidsL_len L t i
  have := shown_len L (kid t ((i : Int) % 2) ((i : Int) / 2))
  rw [kidsL_succ, List.length_append, Nat.succ_mul]
  omega
theorem kids_law (L : List Pt) {t : Til} (h : tis t = true) (hz : t.z < 18) : setL (kidsL L t 4) = shown L t := by
 refine setL_eq ((cellsL_up L t.r.toNat).sublist List.filter_sublist) fun y => ?_
 have e : kidsL L t 4 = shown L (kid t 0 0) ++ (shown L (kid t 1 0) ++ (shown L (kid t 0 1) ++ (shown L (kid t 1 1) ++ []))) := rfl
 have hm : ∀ a b, y ∈ shown L (kid t a b) ↔ y ∈ cellsL L t.r.toNat ∧ tw (kid t a b) y = true := fun a b => List.mem_filter
 rw [e]
 simp only [List.mem_append, hm, List.not_mem_nil, or_false]
 rw [show y ∈ shown L t ↔ y ∈ cellsL L t.r.toNat ∧ tw t y = true from List.mem_filter, tw_kids h hz]
 simp only [Bool.or_eq_true]
 constructor
 ·rintro (h | h | h | h)
  ·exact ⟨h.1, .inl (.inl (.inl h.2))⟩
  ·exact ⟨h.1, .inl (.inl (.inr h.2))⟩
  ·exact ⟨h.1, .inl (.inr h.2)⟩
  ·exact ⟨h.1, .inr h.2⟩
 ·rintro ⟨h, ((h1 | h1) | h1) | h1⟩
  ·exact .inl ⟨h, h1⟩
  ·exact .inr (.inl ⟨h, h1⟩)
  ·exact .inr (.inr (.inl ⟨h, h1⟩))
  ·exact .inr (.inr (.inr ⟨h, h1⟩))

noncomputable def apiarylaw22_ViewKids_pc : PC :=
  (.seq (.reg [p_s 6 (.mov (.c (.r (.v (.bool false)))))])
 (.seq (.reg [p_m 16 0, p_c 17 1 14 [.t 16], p_m 7 17])
 (.seq (.seq (.reg [p_m 18 7, p_s 19 (.len false (.t 18)), p_s 20 (.bin .eql (.t 19) (o_i 0)), p_m 21 20, p_g 22 21 false (.mov (.t 0)), p_g 23 21 false (.len false (.t 22)), p_g 24 21 false (.bin .gtr (.t 23) (o_i 60)),
 p_s 25 (.pick (.t 21) (.c (.r (.v (.bool true)))) (.t 24))])
 (.cond (.t 25)
 (.seq (.reg [p_c 26 2 9 [], p_m 6 26])
 .ret)
 .skip))
 (.seq (.reg [p_m 27 7, p_c 28 3 15 [.t 27], p_m 8 28])
 (.seq (.drw [p_m 29 7, p_s 30 (.ia 4 (.agg [(.v (.int .i64 0)), (.v (.int .i64 0)), (.v (.int .i64 0)), (.v (.int .i64 0))]) (.t 29) (o_i 0)), p_s 31 (.fa 1 (.t 30)), p_s 32 (.ld none (.t 31)),
 p_m 33 7, p_s 34 (.ia 4 (.agg [(.v (.int .i64 0)), (.v (.int .i64 0)), (.v (.int .i64 0)), (.v (.int .i64 0))]) (.t 33) (o_i 0)), p_s 35 (.fa 2 (.t 34)), p_s 36 (.ld none (.t 35)),
 p_m 37 1, p_m 38 2, p_c 39 4 6 [.t 32, .t 36, .t 37, .t 38], p_a 9 (.new [(.r (.v (.int .i64 0))), (.r (.v (.int .i64 0))), (.r (.v (.int .i64 0))), (.r (.v (.int .i64 0)))]),
 ⟨none, none, 0, .act (.st 4 (.t 9) (.t 39))⟩]
 [[], [0], [0, 1], [0, 1, 2], [], [4], [4, 5], [4, 5, 6], [], [], [0, 1, 2, 3, 4, 5, 6, 7, 8, 9], [], [0, 1, 2, 3, 4, 5, 6, 7, 8, 9, 10, 11]])
 (.seq (.seq (.reg [p_m 40 8, p_s 41 (.eqn false (.t 40))])
 (.cond (.t 41)
 (.seq (.reg [p_s 6 (.mov (.c (.r (.v (.bool false)))))])
 .ret)
 .skip))
 (.seq (.seq (.reg [p_s 42 (.fa 0 (.t 9)), p_s 43 (.ld none (.t 42)), p_s 44 (.bin .eql (.t 43) (o_i 18)), p_m 45 44, p_g 46 45 false (.ld (some 4) (.t 9)), ⟨(some 47), (some (45, false)), 5, .call 16 [(.t 46)]⟩,
 p_s 48 (.pick (.t 45) (.c (.r (.v (.bool true)))) (.t 47))])
 (.cond (.t 48)
 (.seq (.reg [p_c 49 6 9 [], p_m 6 49])
 .ret)
 .skip))
 (.seq (.reg [p_s 51 (.ld (some 4) (.t 9)), p_m 52 8, p_c 53 7 17 [.t 51, .t 52], p_m 50 53, p_s 54 (.ext (.t 50) 0), p_s 55 (.ext (.t 50) 1), p_m 10 54, p_m 11 55])
 (.seq (.reg [p_s 12 (.mov (.c (.nils 1 (.v (.int .u64 0)))))])
 (.seq (.seq (.reg [p_s 13 (.mov (o_i 0))])
 (.block 0 (.loop (.seq (.seq (.reg [p_m 56 13, p_s 57 (.bin .lss (.t 56) (o_i 4))])
 (.cond (.t 57)
 .skip
 (.exit 0)))
 (.seq (.block 1 (.seq (.reg [p_s 61 (.fa 0 (.t 9)), p_s 62 (.ld none (.t 61)), p_s 63 (.bin .add (.t 62) (o_i 1)), p_s 64 (.fa 1 (.t 9)), p_s 65 (.ld none (.t 64)), p_s 66 (.bin .mul (o_i 2) (.t 65)),
 p_m 67 13, p_s 68 (.bin .and (.t 67) (o_i 1)), p_s 69 (.bin .add (.t 66) (.t 68)), p_s 70 (.fa 2 (.t 9)), p_s 71 (.ld none (.t 70)), p_s 72 (.bin .mul (o_i 2) (.t 71)),
 p_m 73 13, p_s 74 (.bin .shr (.t 73) (.c (.r (.v (.int .u64 1))))), p_s 75 (.bin .add (.t 72) (.t 74)), p_s 76 (.fa 3 (.t 9)), p_s 77 (.ld none (.t 76)), p_s 78 (.build [(.r (.v (.int .i64 0))), (.r (.v (.int .i64 0))), (.r (.v (.int .i64 0))), (.r (.v (.int .i64 0)))] [(0, 1, (.t 63)), (1, 1, (.t 69)), (2, 1, (.t 75)), (3, 1, (.t 77))]),
 p_m 79 8, p_c 80 8 17 [.t 78, .t 79], p_m 60 80, p_s 81 (.ext (.t 60) 0), p_s 82 (.ext (.t 60) 1), p_m 14 81, p_m 15 82])
 (.seq (.seq (.reg [p_m 83 15, p_s 84 (.bin .neq (.t 83) (o_i 0))])
 (.cond (.t 84)
 (.seq (.reg [p_s 6 (.mov (.c (.r (.v (.bool false)))))])
 .ret)
 .skip))
 (.reg [p_m 85 12, p_m 86 14, p_a 87 (.app 1 (.v (.int .u64 0)) 8 (.t 85) (.t 86)), p_m 12 87]))))
 (.reg [p_m 58 13, p_s 59 (.bin .add (.t 58) (o_i 1)), p_m 13 59]))))))
 (.seq (.reg [p_m 88 11, p_s 89 (.bin .eql (.t 88) (o_i 0)), p_m 90 89, p_g 91 90 true (.mov (.t 12)), ⟨(some 92), (some (90, true)), 9, .call 19 [(.t 91)]⟩, p_g 93 90 true (.mov (.t 10)),
 ⟨(some 94), (some (90, true)), 10, .call 18 [(.t 92), (.t 93)]⟩, p_s 95 (.pick (.t 90) (.t 94) (.c (.r (.v (.bool false))))), p_m 96 95, ⟨(some 97), (some (96, true)), 11, .call 9 []⟩,
 p_s 98 (.pick (.t 96) (.t 97) (.c (.r (.v (.bool false))))), p_m 6 98])
 .ret)))))))))))
theorem apiarylaw22_ViewKids_triple : Fun Go.Proofs.Tryz.prog 5 3 [(6, false, none)] apiarylaw22_ViewKids_pc := fun_mk Go.Proofs.Tryz.func5 rfl (by decide) (by kernel_rfl) (by decide) rfl (by kernel_rfl) (by kernel_rfl) (by decide)
theorem set_a (ws : List Int) (hl : ws.length ≤ 1000) : Triple Go.Proofs.Tryz.prog 19 [.r (.sl 1 (rw64 ws))] [] (.own 1000000 0 0 (setL ws).length) [rowU (setL ws)] := by
 by_cases h : setL ws = []
 ·have := nil_own (set_t ws hl (.inl ⟨h, rfl, rfl⟩))
  rw [h]
  exact this
 ·exact set_t ws hl (.inr ⟨h, rfl, rfl⟩)
set_option maxHeartbeats 4000000 in
theorem kids_t (xs : List Int) (hx : ∀ x ∈ xs, -9223372036854775808 ≤ x ∧ x ≤ 9223372036854775807) (z r : Int) (hz : in64 z) (hr : in64 r) :
    Triple Go.Proofs.Tryz.prog 5 [.r (i64s xs), int .i64 z, int .i64 r] [] (bl true) [] := by
  refine apiarylaw22_ViewKids_triple rfl (by decide) ?_
  have hgp : GP (genL xs []) := genL_gp xs [] (by simp [GP])
  have hle := genL_le xs [] (by decide)
  have hPt := points_t xs hx
  simp only [apiarylaw22_ViewKids_pc, i64s, List.length_map, List.length_nil, push_cast, ↓reduceIte, reduceCtorEq, Nat.reduceBEq, reduceEqDiff, reduceAdd, reduceSub, reduceLT, reduceLeDiff, reduceMul]
  refine call_as (as' := [.r (i64s xs)]) rfl ?_
  refine call_mk hPt rfl trivial ?_
  generalize hG : genL xs [] = l at *
  have hlen0 : l.length ≤ 40 := hle
  have hok : ∀ p ∈ l, p.ok := fun p hp => by
    obtain ⟨j, hj⟩ := List.getElem?_of_mem hp
    exact (hgp j p hj).2
  simp only [i64s, List.length_map, push_cast, ↓reduceIte, reduceCtorEq, Nat.reduceBEq, reduceEqDiff, reduceAdd, reduceSub, reduceLT, reduceLeDiff, reduceMul]
  by_cases h0 : l = []
  · have e0 : ((l.length : Int) == 0) = true := by simp [h0]
    simp only [e0, i64s, List.length_map, push_cast, ↓reduceIte, reduceCtorEq, Nat.reduceBEq, reduceEqDiff, reduceAdd, reduceSub, reduceLT, reduceLeDiff, reduceMul]
    refine call_mk awake22_t rfl trivial ?_
    simp only [push_cast, ↓reduceIte, reduceCtorEq, Nat.reduceBEq, reduceEqDiff, reduceAdd, reduceSub, reduceLT, reduceLeDiff, reduceMul]
  have e0 : ((l.length : Int) == 0) = false := by simp [h0]
  by_cases h60 : xs.length > 60
  · have e1 : decide ((xs.length : Int) > 60) = true := by simp; omega
    simp only [e0, e1, i64s, List.length_map, push_cast, ↓reduceIte, reduceCtorEq, Nat.reduceBEq, reduceEqDiff, reduceAdd, reduceSub, reduceLT, reduceLeDiff, reduceMul]
    refine call_mk awake22_t rfl trivial ?_
    simp only [push_cast, ↓reduceIte, reduceCtorEq, Nat.reduceBEq, reduceEqDiff, reduceAdd, reduceSub, reduceLT, reduceLeDiff, reduceMul]
  have e1 : decide ((xs.length : Int) > 60) = false := by simp; omega
  simp only [e0, e1, i64s, List.length_map, push_cast, ↓reduceIte, reduceCtorEq, Nat.reduceBEq, reduceEqDiff, reduceAdd, reduceSub, reduceLT, reduceLeDiff, reduceMul]
  have hO := of_t l (by omega)
  rw [gp_of hgp (by omega)] at hO
  refine callA_lend ?_
  simp only [push_cast, ↓reduceIte, reduceCtorEq, Nat.reduceBEq, reduceEqDiff, reduceAdd, reduceSub, reduceLT, reduceLeDiff, reduceMul]
  refine call_lend hO rfl trivial (by simp [Flat]) (by simp [FlatO]) ?_
  obtain ⟨q, hq⟩ : ∃ q, l[0]? = some q := ⟨l[0]'(List.length_pos_iff.2 h0), by simp [List.length_pos_iff.2 h0]⟩
  have gq : ∀ z, (l.map Pt.rv).getD (Int.toNat 0) z = .agg [.v (.int .i64 q.k), .v (.int .i64 q.x), .v (.int .i64 q.y), .v (.int .i64 q.v)] := pts_get hq
  have gq' : ∀ z, (l.map Pt.rv).getD (0 + Int.toNat 0) z = .agg [.v (.int .i64 q.k), .v (.int .i64 q.x), .v (.int .i64 q.y), .v (.int .i64 q.v)] := fun z => by rw [Nat.zero_add]; exact gq z
  have hll := List.length_pos_iff.2 h0
  have hqo := (hgp 0 q hq).2
  simp only [gq, gq', push_cast, ↓reduceIte, reduceCtorEq, Nat.reduceBEq, reduceEqDiff, reduceAdd, reduceSub, reduceLT, reduceLeDiff, reduceMul]
  repeat refine And.intro (by first | decide | omega | exact fun _ => by decide | (simp +contextual; done) | kernel_rfl) ?_
  have hqx : in64 q.x ∧ in64 q.y := by
    have := hqo.2.1
    unfold inW at this
    unfold in64
    omega
  refine dcall_mk (tile_t q.x q.y z r hqx.1 hqx.2 hz hr) rfl trivial ?_
  have hti := tis_of q.x q.y z r
  have hfi := fine_of q.x q.y z r
  generalize tileOf q.x q.y z r = t at *
  have hb : 0 ≤ t.z ∧ t.z ≤ 18 ∧ 0 ≤ t.r ∧ t.r ≤ 12 ∧ 0 ≤ t.x ∧ t.x < 2 ^ t.z.toNat ∧ 0 ≤ t.y ∧ t.y < 2 ^ t.z.toNat := by simpa [tis] using hti
  simp only [Til.v, push_cast, ↓reduceIte, reduceCtorEq, Nat.reduceBEq, reduceEqDiff, reduceAdd, reduceSub, reduceLT, reduceLeDiff, reduceMul]
  repeat refine And.intro (by first | decide | omega | exact fun _ => by decide | (simp +contextual; done) | kernel_rfl) ?_
  by_cases h18 : t.z = 18
  · have e18 : (t.z == 18) = true := by simp [h18]
    simp only [e18, push_cast, ↓reduceIte, reduceCtorEq, Nat.reduceBEq, reduceEqDiff, reduceAdd, reduceSub, reduceLT, reduceLeDiff, reduceMul]
    refine call_mk awake22_t rfl trivial ?_
    simp only [push_cast, ↓reduceIte, reduceCtorEq, Nat.reduceBEq, reduceEqDiff, reduceAdd, reduceSub, reduceLT, reduceLeDiff, reduceMul]
  have e18 : (t.z == 18) = false := by simp [h18]
  have hz18 : t.z < 18 := by omega
  have htok := (kid_ok hti hz18 (a := 0) (b := 0) (by decide) (by decide)).2
  have hF := fine_t t htok
  rw [hfi] at hF
  simp only [e18, push_cast, ↓reduceIte, reduceCtorEq, Nat.reduceBEq, reduceEqDiff, reduceAdd, reduceSub, reduceLT, reduceLeDiff, reduceMul]
  refine call_as (as' := [t.v]) rfl ?_
  refine call_mk hF rfl trivial ?_
  simp only [push_cast, ↓reduceIte, reduceCtorEq, Nat.reduceBEq, reduceEqDiff, reduceAdd, reduceSub, reduceLT, reduceLeDiff, reduceMul]
  refine call_as (as' := [t.v, .ptr 1000000 0 0]) rfl ?_
  refine call_mk (vcells_a l (by omega) hok t htok hti hfi) rfl ⟨rfl, trivial⟩ ?_
  simp only [rowU, push_cast, ↓reduceIte, reduceCtorEq, Nat.reduceBEq, reduceEqDiff, reduceAdd, reduceSub, reduceLT, reduceLeDiff, reduceMul]
  have hmx := maxLen_big
  refine run_loop [(13, false), (9, false), (8, false), (10, false), (11, false), (12, false)] (fun vs pos los => ∃ i : Nat, i ≤ 4 ∧ pos = [] ∧
      (i = 0 ∧ vs = [int .i64 i, .ptr 2000000 0 0, .ptr 2000001 0 0, .own 2000002 0 0 (shown l t).length, int .i64 0, .nils 1 (.v (.int .u64 0))] ∧ los = [.box [int .i64 t.z, int .i64 t.x, int .i64 t.y, int .i64 t.r], .abs (sT l), rowU (shown l t)] ∨
       i ≠ 0 ∧ vs = [int .i64 i, .ptr 2000000 0 0, .ptr 2000001 0 0, .own 2000002 0 0 (shown l t).length, int .i64 0, .own 2000003 0 0 (kidsL l t i).length] ∧ los = [.box [int .i64 t.z, int .i64 t.x, int .i64 t.y, int .i64 t.r], .abs (sT l), rowU (shown l t), rowU (kidsL l t i)]))
    (fun vs _ _ => match vs with | .r (.v (.int _ j)) :: _ => (4 - j).toNat | _ => 0) rfl ?_ ?_
  · simp only [rowU, push_cast, ↓reduceIte, reduceCtorEq, Nat.reduceBEq, reduceEqDiff, reduceAdd, reduceSub, reduceLT, reduceLeDiff, reduceMul]
    exact ⟨0, by omega, .inl ⟨rfl, by simp⟩⟩
  · rintro vs pos los ⟨i, hi, rfl, ⟨hi0, rfl, rfl⟩ | ⟨hi0, rfl, rfl⟩⟩
    · simp only [rowU, push_cast, ↓reduceIte, reduceCtorEq, Nat.reduceBEq, reduceEqDiff, reduceAdd, reduceSub, reduceLT, reduceLeDiff, reduceMul]
      refine cnd_mk (fun h => ?_) (fun h => ?_)
      · have hi4 : i < 4 := by simp at h; omega
        have ea : IntKind.i64.wrap ((BitVec.ofInt IntKind.i64.bits (i : Int) &&& BitVec.ofInt IntKind.i64.bits 1).toNat) = (i : Int) % 2 := and_mask i 1 1 (by decide) (by decide)
        have eb : (i : Int).fdiv (2 ^ min (Int.toNat 1) IntKind.i64.bits) = (i : Int) / 2 := Int.fdiv_eq_ediv_of_nonneg _ (by decide)
        have hab : (0 ≤ (i : Int) % 2 ∧ (i : Int) % 2 ≤ 1) ∧ (0 ≤ (i : Int) / 2 ∧ (i : Int) / 2 ≤ 1) := by omega
        have hks := kidsL_succ l t i
        have hkl := kidsL_len l t i
        have hkl2 : (kidsL l t i).length ≤ 160 := Nat.le_trans hkl (Nat.le_trans (Nat.mul_le_mul (show i ≤ 4 by omega) hlen0) (by decide))
        have hkt := kid_tis hti hz18 hab.1 hab.2
        have hko := (kid_ok hti hz18 hab.1 hab.2).1
        have hkf := fine_down (u := kid t ((i : Int) % 2) ((i : Int) / 2)) hti hfi (Int.le_refl _) hb.2.2.1 (by simp only [kid]; omega) (by simp only [kid]; omega)
        have hVC := vcells_a l (by omega) hok _ hko hkt hkf
        have hsl := shown_len l (kid t ((i : Int) % 2) ((i : Int) / 2))
        have wi : IntKind.i64.wrap ((i : Int) + 1) = (i : Int) + 1 := wrap_id (by omega)
        generalize hA : (i : Int) % 2 = A at *
        generalize hBB : (i : Int) / 2 = BB at *
        have hko' := hko
        simp only [Til.ok, kid, in64] at hko'
        have htx := htok
        simp only [Til.ok, in64] at htx
        have w1 : IntKind.i64.wrap (t.z + 1) = t.z + 1 := wrap_id (by omega)
        have w2 : IntKind.i64.wrap (2 * t.x) = 2 * t.x := wrap_id (by omega)
        have w3 : IntKind.i64.wrap (2 * t.x + A) = 2 * t.x + A := wrap_id (by omega)
        have w4 : IntKind.i64.wrap (2 * t.y) = 2 * t.y := wrap_id (by omega)
        have w5 : IntKind.i64.wrap (2 * t.y + BB) = 2 * t.y + BB := wrap_id (by omega)
        simp only [ea, eb, w1, w2, w3, w4, w5, wi, rowU, push_cast, ↓reduceIte, reduceCtorEq, Nat.reduceBEq, reduceEqDiff, reduceAdd, reduceSub, reduceLT, reduceLeDiff, reduceMul]
        repeat refine And.intro (by first | decide | omega | exact fun _ => by decide | (simp +contextual; done) | kernel_rfl) ?_
        refine call_as (as' := [(kid t A BB).v, .ptr 1000000 0 0]) rfl ?_
        refine call_mk hVC rfl ⟨rfl, trivial⟩ ?_
        generalize shown l (kid t A BB) = SK at *
        have f0 : ((0 : Int) != 0) = false := rfl
        simp only [f0, wi, rowU, rw64_len, take_rwS, push_cast, ↓reduceIte, reduceCtorEq, Nat.reduceBEq, reduceEqDiff, reduceAdd, reduceSub, reduceLT, reduceLeDiff, reduceMul]
        repeat refine And.intro (by first | decide | omega | exact fun _ => by decide | (simp +contextual; done) | kernel_rfl) ?_
        have hk0 : kidsL l t i = [] := by rw [hi0]; rfl
        rw [hk0, List.nil_append] at hks
        exact ⟨⟨i + 1, by omega, .inr ⟨by omega, by rw [hks]; simp, by rw [hks]⟩⟩, by omega⟩
      · exfalso; simp at h; omega
    · simp only [rowU, push_cast, ↓reduceIte, reduceCtorEq, Nat.reduceBEq, reduceEqDiff, reduceAdd, reduceSub, reduceLT, reduceLeDiff, reduceMul]
      refine cnd_mk (fun h => ?_) (fun h => ?_)
      · have hi4 : i < 4 := by simp at h; omega
        have ea : IntKind.i64.wrap ((BitVec.ofInt IntKind.i64.bits (i : Int) &&& BitVec.ofInt IntKind.i64.bits 1).toNat) = (i : Int) % 2 := and_mask i 1 1 (by decide) (by decide)
        have eb : (i : Int).fdiv (2 ^ min (Int.toNat 1) IntKind.i64.bits) = (i : Int) / 2 := Int.fdiv_eq_ediv_of_nonneg _ (by decide)
        have hab : (0 ≤ (i : Int) % 2 ∧ (i : Int) % 2 ≤ 1) ∧ (0 ≤ (i : Int) / 2 ∧ (i : Int) / 2 ≤ 1) := by omega
        have hks := kidsL_succ l t i
        have hkl := kidsL_len l t i
        have hkl2 : (kidsL l t i).length ≤ 160 := Nat.le_trans hkl (Nat.le_trans (Nat.mul_le_mul (show i ≤ 4 by omega) hlen0) (by decide))
        have hkt := kid_tis hti hz18 hab.1 hab.2
        have hko := (kid_ok hti hz18 hab.1 hab.2).1
        have hkf := fine_down (u := kid t ((i : Int) % 2) ((i : Int) / 2)) hti hfi (Int.le_refl _) hb.2.2.1 (by simp only [kid]; omega) (by simp only [kid]; omega)
        have hVC := vcells_a l (by omega) hok _ hko hkt hkf
        have hsl := shown_len l (kid t ((i : Int) % 2) ((i : Int) / 2))
        have wi : IntKind.i64.wrap ((i : Int) + 1) = (i : Int) + 1 := wrap_id (by omega)
        generalize hA : (i : Int) % 2 = A at *
        generalize hBB : (i : Int) / 2 = BB at *
        have hko' := hko
        simp only [Til.ok, kid, in64] at hko'
        have htx := htok
        simp only [Til.ok, in64] at htx
        have w1 : IntKind.i64.wrap (t.z + 1) = t.z + 1 := wrap_id (by omega)
        have w2 : IntKind.i64.wrap (2 * t.x) = 2 * t.x := wrap_id (by omega)
        have w3 : IntKind.i64.wrap (2 * t.x + A) = 2 * t.x + A := wrap_id (by omega)
        have w4 : IntKind.i64.wrap (2 * t.y) = 2 * t.y := wrap_id (by omega)
        have w5 : IntKind.i64.wrap (2 * t.y + BB) = 2 * t.y + BB := wrap_id (by omega)
        simp only [ea, eb, w1, w2, w3, w4, w5, wi, rowU, push_cast, ↓reduceIte, reduceCtorEq, Nat.reduceBEq, reduceEqDiff, reduceAdd, reduceSub, reduceLT, reduceLeDiff, reduceMul]
        repeat refine And.intro (by first | decide | omega | exact fun _ => by decide | (simp +contextual; done) | kernel_rfl) ?_
        refine call_as (as' := [(kid t A BB).v, .ptr 1000000 0 0]) rfl ?_
        refine call_mk hVC rfl ⟨rfl, trivial⟩ ?_
        generalize shown l (kid t A BB) = SK at *
        have f0 : ((0 : Int) != 0) = false := rfl
        simp only [f0, wi, rowU, rw64_len, take_rwS, push_cast, ↓reduceIte, reduceCtorEq, Nat.reduceBEq, reduceEqDiff, reduceAdd, reduceSub, reduceLT, reduceLeDiff, reduceMul]
        repeat refine And.intro (by first | decide | omega | exact fun _ => by decide | (simp +contextual; done) | kernel_rfl) ?_
        exact ⟨⟨i + 1, by omega, .inr ⟨by omega, by rw [hks]; simp, by rw [hks]; simp [rw64]⟩⟩, by omega⟩
      · have hi4 : i = 4 := by simp at h; omega
        have hkl := kidsL_len l t 4
        have hkl2 : (kidsL l t 4).length ≤ 160 := Nat.le_trans hkl (Nat.le_trans (Nat.mul_le_mul (Nat.le_refl 4) hlen0) (by decide))
        have hsl := shown_len l t
        have hset := set_a (kidsL l t 4) (by omega)
        rw [kids_law l hti hz18] at hset
        have f0 : ((0 : Int) == 0) = true := rfl
        rw [hi4]
        generalize kidsL l t 4 = K4 at *
        generalize shown l t = SH at *
        simp only [f0, rowU, push_cast, ↓reduceIte, reduceCtorEq, Nat.reduceBEq, reduceEqDiff, reduceAdd, reduceSub, reduceLT, reduceLeDiff, reduceMul]
        refine callA_lend ?_
        simp only [take_rwS, push_cast, ↓reduceIte, reduceCtorEq, Nat.reduceBEq, reduceEqDiff, reduceAdd, reduceSub, reduceLT, reduceLeDiff, reduceMul]
        refine call_lend hset rfl trivial (by simp [Flat]) (fun o ho => by
          simp only [List.mem_singleton] at ho
          subst ho
          intro x hx
          obtain ⟨n, _, rfl⟩ := List.mem_map.1 hx
          trivial) ?_
        simp only [take_rwS, rowU, push_cast, ↓reduceIte, reduceCtorEq, Nat.reduceBEq, reduceEqDiff, reduceAdd, reduceSub, reduceLT, reduceLeDiff, reduceMul]
        refine callA_lend ?_
        simp only [take_rwS, push_cast, ↓reduceIte, reduceCtorEq, Nat.reduceBEq, reduceEqDiff, reduceAdd, reduceSub, reduceLT, reduceLeDiff, reduceMul]
        refine call_lend (same_t SH (by omega)) rfl trivial (by simp [Flat, FlatR]) (by simp) ?_
        simp only [take_rwS, rowU, push_cast, ↓reduceIte, reduceCtorEq, Nat.reduceBEq, reduceEqDiff, reduceAdd, reduceSub, reduceLT, reduceLeDiff, reduceMul]
        refine call_mk awake22_t rfl trivial ?_
        simp only [push_cast, ↓reduceIte, reduceCtorEq, Nat.reduceBEq, reduceEqDiff, reduceAdd, reduceSub, reduceLT, reduceLeDiff, reduceMul]

end Go.Ev
