import Derived.Test.YtocfnfcflljooaaGreatM9
namespace Go.Ev
set_option maxRecDepth 100000
open Go
set_option linter.unusedSectionVars false
set_option linter.unnecessarySimpa false
open Nat (reduceEqDiff reduceAdd reduceSub reduceLT reduceLeDiff reduceMul)
set_option linter.unusedSimpArgs false
set_option linter.unusedVariables false
noncomputable def stats_Stats_Points_1_pc : PC :=
  (.seq (.reg [p_a 2 (.box (.t 0))])
 (.reg [p_s 3 (.ld none (.t 1)), p_s 4 (.fa 2 (.t 2)), p_s 5 (.ld none (.t 4)), p_a 6 (.bsl 1 (.v (.int .i64 0)) [(.t 5)]), p_a 7 (.app 1 (.v (.int .i64 0)) 8 (.t 3) (.t 6)),
 ⟨none, none, 0, .act (.st 1 (.t 1) (.t 7))⟩]))
theorem stats_Stats_Points_1_triple : Fun Go.Proofs.Tryz.prog 34 2 [] stats_Stats_Points_1_pc := fun_mk Go.Proofs.Tryz.func34 rfl (by decide) (by kernel_rfl) (by decide) rfl (by kernel_rfl) (by kernel_rfl) (by decide)
noncomputable def stats_Stats_Points_pc : PC :=
  (.seq (.reg [p_s 4 (.mov (.c (.nils 1 (.v (.int .i64 0)))))])
 (.seq (.reg [p_a 5 (.new [(.nils 1 (.v (.int .i64 0)))])])
 (.seq (.reg [p_m 6 0, p_s 7 (.nck (.t 6)), p_s 8 (.fa 1 (.t 7)), p_s 9 (.ld none (.t 8)), p_m 10 1, p_s 11 (.mkf (.func 34) [(.t 5)]), p_c 12 1 30 [.t 9, .t 10, .t 11]])
 (.seq (.reg [p_s 13 (.ld none (.t 5)), p_m 4 13])
 .ret))))
theorem stats_Stats_Points_triple : Fun Go.Proofs.Tryz.prog 17 2 [(4, false, none)] stats_Stats_Points_pc := fun_mk Go.Proofs.Tryz.func17 rfl (by decide) (by kernel_rfl) (by decide) rfl (by kernel_rfl) (by kernel_rfl) (by decide)
def z64 : RV := .v (.int .i64 0)
def ids (l : List Int) : List RV := l.map fun n => .v (.int .i64 n)
theorem ids_len (l : List Int) : (ids l).length = l.length := by simp [ids]
theorem pts1_no (k : Ky) : Triple Go.Proofs.Tryz.prog 34 [k.av, .ptr 1000000 0 0] [.box [.nils 1 z64]] (.tup []) [.box [.own 1000001 0 0 1], .row 1 z64 true true (ids [k.d])] := by
 refine stats_Stats_Points_1_triple rfl (by simp) ?_
 simp only [stats_Stats_Points_1_pc, Ky.av, Ky.rv, z64, List.length_cons, List.length_nil, push_cast, ↓reduceIte, reduceCtorEq, Nat.reduceBEq, reduceEqDiff, reduceAdd, reduceSub, reduceLT, reduceLeDiff, reduceMul]
 repeat refine And.intro (by first | decide | omega | exact fun _ => by decide | (simp +contextual; done) | kernel_rfl) ?_
 simp [ids]
theorem pts1_yes (k : Ky) (l : List Int) (hl : l.length ≤ 100000) : Triple Go.Proofs.Tryz.prog 34 [k.av, .ptr 1000000 0 0] [.box [.own 1000001 0 0 l.length], .row 1 z64 true true (ids l)] (.tup []) [.box [.own 1000001 0 0 (l ++ [k.d]).length], .row 1 z64 true true (ids (l ++ [k.d]))] := by
 refine stats_Stats_Points_1_triple rfl (by simp) ?_
 have hm := maxLen_big
 simp only [stats_Stats_Points_1_pc, Ky.av, Ky.rv, z64, List.length_cons, List.length_nil, push_cast, ↓reduceIte, reduceCtorEq, Nat.reduceBEq, reduceEqDiff, reduceAdd, reduceSub, reduceLT, reduceLeDiff, reduceMul]
 repeat refine And.intro (by first | decide | omega | exact fun _ => by decide | (simp +contextual; done) | kernel_rfl) ?_
 rw [List.take_of_length_le (by rw [ids_len]; omega)]
 simp [ids]
def fQ : AV := .fn (.func 34) [.ptr 1000002 0 0] 0
def poP (w : Int) (id : Nat) : List Int → List Ob
 | [] => [.box [int .u64 w], .box [fQ], .box [.nils 1 z64]]
 | x :: xs => [.box [int .u64 w], .box [fQ], .box [.own id 0 0 (x :: xs).length]]
def roP (w : Int) (id : Nat) : List Int → List Ob
 | [] => [.box [int .u64 w], .box [fQ], .box [.nils 1 z64]]
 | x :: xs => [.box [int .u64 w], .box [fQ], .box [.own id 0 0 (x :: xs).length], .row 1 z64 true true (ids (x :: xs))]
def loP (lo : Ky) : List Int → List Ob
 | [] => [.box lo.cs]
 | x :: xs => [.row 1 z64 true true (ids (x :: xs)), .box lo.cs]
def lpP : List Int → Nat
 | [] => 2000000
 | _ => 2000001
def pq : AV := .fn (.func 34) [.ptr 1000002 0 0] 0
theorem lpP_nil : lpP [] = 2000000 := rfl
theorem lpP_ne {acc : List Int} (h : acc ≠ []) : lpP acc = 2000001 := by cases acc; exact absurd rfl h; rfl
theorem poP_nil (w : Int) (id : Nat) : poP w id [] = [.box [int .u64 w], .box [.fn (.func 34) [.ptr 1000002 0 0] 0], .box [.nils 1 (.v (.int .i64 0))]] := rfl
theorem poP_ne (w : Int) (id : Nat) {acc : List Int} (h : acc ≠ []) : poP w id acc = [.box [int .u64 w], .box [.fn (.func 34) [.ptr 1000002 0 0] 0], .box [.own id 0 0 acc.length]] := by cases acc; exact absurd rfl h; rfl
theorem loP_nil (lo : Ky) : loP lo [] = [.box [int .u64 lo.c, int .i64 lo.v, int .i64 lo.d]] := rfl
theorem loP_ne (lo : Ky) {acc : List Int} (h : acc ≠ []) : loP lo acc = [.row 1 (.v (.int .i64 0)) true true (ids acc), .box [int .u64 lo.c, int .i64 lo.v, int .i64 lo.d]] := by cases acc; exact absurd rfl h; rfl
theorem roP_ne (w : Int) (id : Nat) {acc : List Int} (h : acc ≠ []) : roP w id acc = [.box [int .u64 w], .box [.fn (.func 34) [.ptr 1000002 0 0] 0], .box [.own id 0 0 acc.length], .row 1 (.v (.int .i64 0)) true true (ids acc)] := by cases acc; exact absurd rfl h; rfl
theorem roP_nil (w : Int) (id : Nat) : roP w id [] = [.box [int .u64 w], .box [.fn (.func 34) [.ptr 1000002 0 0] 0], .box [.nils 1 (.v (.int .i64 0))]] := rfl
def roN (w : Int) (l : List Int) : List Ob := [.box [int .u64 w], .box [fQ], .box [.own 1000003 0 0 l.length], .row 1 z64 true true (ids l)]
def roZ (w : Int) : List Ob := [.box [int .u64 w], .box [fQ], .box [.nils 1 z64]]
section
variable (k : Ky) (w : Int)
theorem walkP_no (h : (k.c != w) = true) : Triple Go.Proofs.Tryz.prog 54 [k.av, .ptr 1000000 0 0, .ptr 1000001 0 0] (roZ w) (bl false) (roZ w) := by
 refine tree_Tree_Walk_1_triple rfl (by simp [roZ]) ?_
 simp only [tree_Tree_Walk_1_pc, roZ, roN, fQ, z64, h, Ky.av, Ky.rv, List.length_cons, List.length_nil, push_cast, ↓reduceIte, reduceCtorEq, Nat.reduceBEq, reduceEqDiff, reduceAdd, reduceSub, reduceLT, reduceLeDiff, reduceMul]
theorem walkP_no2 (l : List Int) (h : (k.c != w) = true) : Triple Go.Proofs.Tryz.prog 54 [k.av, .ptr 1000000 0 0, .ptr 1000001 0 0] (roN w l) (bl false) (roN w l) := by
 refine tree_Tree_Walk_1_triple rfl (by simp [roN]) ?_
 simp only [tree_Tree_Walk_1_pc, roN, fQ, z64, h, Ky.av, Ky.rv, List.length_cons, List.length_nil, push_cast, ↓reduceIte, reduceCtorEq, Nat.reduceBEq, reduceEqDiff, reduceAdd, reduceSub, reduceLT, reduceLeDiff, reduceMul]
theorem walkP_yes (h : (k.c != w) = false) : Triple Go.Proofs.Tryz.prog 54 [k.av, .ptr 1000000 0 0, .ptr 1000001 0 0] (roZ w) (bl true) (roN w [k.d]) := by
 refine tree_Tree_Walk_1_triple rfl (by simp [roZ]) ?_
 simp only [tree_Tree_Walk_1_pc, roZ, roN, fQ, z64, h, Ky.av, Ky.rv, List.length_cons, List.length_nil, push_cast, ↓reduceIte, reduceCtorEq, Nat.reduceBEq, reduceEqDiff, reduceAdd, reduceSub, reduceLT, reduceLeDiff, reduceMul]
 refine ⟨by kernel_rfl, ?_⟩
 refine call_as (as' := [k.av, .ptr 1000000 0 0]) rfl ?_
 refine call_mk (pts1_no k) rfl ⟨rfl, trivial⟩ ?_
 simp only [z64, push_cast, ↓reduceIte, reduceCtorEq, Nat.reduceBEq, reduceEqDiff, reduceAdd, reduceSub, reduceLT, reduceLeDiff, reduceMul]
theorem walkP_yes2 (l : List Int) (hn : l.length ≤ 100000) (h : (k.c != w) = false) : Triple Go.Proofs.Tryz.prog 54 [k.av, .ptr 1000000 0 0, .ptr 1000001 0 0] (roN w l) (bl true) (roN w (l ++ [k.d])) := by
 refine tree_Tree_Walk_1_triple rfl (by simp [roN]) ?_
 simp only [tree_Tree_Walk_1_pc, roN, fQ, z64, h, Ky.av, Ky.rv, List.length_cons, List.length_nil, push_cast, ↓reduceIte, reduceCtorEq, Nat.reduceBEq, reduceEqDiff, reduceAdd, reduceSub, reduceLT, reduceLeDiff, reduceMul]
 refine ⟨by kernel_rfl, ?_⟩
 refine call_as (as' := [k.av, .ptr 1000000 0 0]) rfl ?_
 refine call_mk (pts1_yes k l hn) rfl (by simp [sameLen]) ?_
 simp only [z64, push_cast, ↓reduceIte, reduceCtorEq, Nat.reduceBEq, reduceEqDiff, reduceAdd, reduceSub, reduceLT, reduceLeDiff, reduceMul]
end
def tcd (lo : Ky) (w : Int) (r : List Ky) : List Int := (tc lo w r).map (·.d)
section
variable {lo k : Ky} {w : Int} {r : List Ky}
theorem tcd_skip (h : kl k lo = true) : tcd lo w (k :: r) = tcd lo w r := by simp [tcd, tc_skip h]
theorem tcd_take (h : kl k lo = false) (h2 : (k.c != w) = false) : tcd lo w (k :: r) = k.d :: tcd lo w r := by
 have h3 : (k.c == w) = true := by simpa using h2
 simp [tcd, tc_take h h3]
theorem tcd_stop (h : kl k lo = false) (h2 : (k.c != w) = true) : tcd lo w (k :: r) = [] := by
 have h3 : (k.c == w) = false := by simpa using h2
 simp [tcd, tc_stop h h3]
end
set_option maxHeartbeats 1000000 in
theorem fromP_t (ns : List (List Ky)) (n : Int) (lo : Ky) (w : Int) (r : Nat) (h : Nod ns lo r) (h0 : ns ≠ []) (hn : ns.flatten.length ≤ 100000) (R : List Int) (hR : tcd lo w (ns.drop (r - 1)).flatten = R) :
  Triple Go.Proofs.Tryz.prog 53 [.rp (tview ns n), lo.av, ccF] (poP w 1000003 []) (.tup []) (roP w 1000003 R) := by
 refine tree_Tree_from_triple rfl (by simp [poP]) ?_
 have hQ := poP_nil w 1000003
 have hne : ((ns.length : Int) == 0) = false := by simp [h0]
 have hRl : R.length ≤ 100000 := by
  rw [← hR]
  have h1 : (tcd lo w (ns.drop (r - 1)).flatten).length ≤ (ns.drop (r - 1)).flatten.length := by
   unfold tcd tc
   rw [List.length_map]
   exact Nat.le_trans (List.takeWhile_sublist _).length_le (List.filter_sublist).length_le
  have h2 : (ns.drop (r - 1)).flatten.length ≤ ns.flatten.length := by
   conv => rhs; rw [← List.take_append_drop (r - 1) ns]
   rw [List.flatten_append, List.length_append]
   omega
  omega
 have hfn : isFn Go.Proofs.Tryz.prog 54 = true := rfl
 simp only [tree_Tree_from_pc, ccF, hQ, tview, Ky.av, Ky.rv, Ky.cs, kz, List.length_nil, List.length_map, hne, push_cast, ↓reduceIte, reduceCtorEq, Nat.reduceBEq, reduceEqDiff, reduceAdd, reduceSub, reduceLT, reduceLeDiff, reduceMul]
 refine call_mk (node_t ns n lo r h) rfl trivial ?_
 simp only [List.length_map, push_cast, ↓reduceIte, reduceCtorEq, Nat.reduceBEq, reduceEqDiff, reduceAdd, reduceSub, reduceLT, reduceLeDiff, reduceMul]
 refine run_loop [(0, false), (2, false), (4, false), (6, false)] (fun vs pos los => ∃ (a : Nat) (acc : List Int), a ≤ ns.length ∧ R = acc ++ tcd lo w (ns.drop a).flatten ∧
   vs = [.rp (tview ns n), ccF, .ptr (lpP acc) 0 0, int .i64 a] ∧ pos = poP w 2000000 acc ∧ los = loP lo acc)
  (fun vs _ _ => match vs with | [_, _, _, .r (.v (.int _ a))] => (ns.length - a).toNat | _ => 0) rfl ?_ ?_
 ·simp only [tview, ccF, roN, roZ, fQ, z64, Ky.cs, kz, push_cast, ↓reduceIte, reduceCtorEq, Nat.reduceBEq, reduceEqDiff, reduceAdd, reduceSub, reduceLT, reduceLeDiff, reduceMul]
  have := h.le
  exact ⟨r - 1, [], by omega, by simp [hR], by simp [poP, loP, lpP, ccF, Ky.cs, kz, fQ, z64, ids]⟩
 ·rintro vs pos los ⟨a, acc, ha, hf, rfl, rfl, rfl⟩
  rcases acc with _ | ⟨x, xs⟩
  ·have hP := poP_nil w 2000000
   have hL := loP_nil lo
   have hI := lpP_nil
   simp only [tview, ccF, roN, roZ, fQ, z64, hP, hL, hI, List.length_map, push_cast, ↓reduceIte, reduceCtorEq, Nat.reduceBEq, reduceEqDiff, reduceAdd, reduceSub, reduceLT, reduceLeDiff, reduceMul]
   refine cnd_mk (fun h1 => ?_) (fun h1 => ?_)
   ·have h1' : a < ns.length := by simpa using h1
    obtain ⟨l, hl⟩ : ∃ l, ns[a]? = some l := ⟨ns[a], by simp [h1']⟩
    have hll := (h.ne a l hl).2
    have hd : ns.drop a = l :: ns.drop (a + 1) := by
     rw [List.drop_eq_getElem_cons h1', (List.getElem?_eq_some_iff.1 hl).2]
    rw [hd, List.flatten_cons] at hf
    have hg : (ns.map keys).getD ((a : Int)).toNat (.sl 3 []) = .sl 3 (l.map Ky.rv) := by simp [List.getD, hl, keys]
    have ha1 : IntKind.i64.wrap ((a : Int) + 1) = (a : Int) + 1 := wrap_id ⟨by omega, by have := h.len; simp only [maxLen] at this; omega⟩
    simp only [tview, ccF, roN, roZ, fQ, z64, List.length_map, hg, push_cast, ↓reduceIte, reduceCtorEq, Nat.reduceBEq, reduceEqDiff, reduceAdd, reduceSub, reduceLT, reduceLeDiff, reduceMul]
    refine And.intro ⟨by omega, by omega⟩ ?_
    refine run_loop [(0, false), (2, false), (4, false), (6, false), (33, false), (34, false), (35, false)] (fun vs pos los => ∃ (j : Nat) (acc : List Int), j ≤ l.length ∧ R = acc ++ tcd lo w (l.drop j ++ (ns.drop (a + 1)).flatten) ∧
      vs = [.rp (tview ns n), ccF, .ptr (lpP acc) 0 0, int .i64 a, .r (keys l), int .i64 l.length, int .i64 j] ∧ pos = poP w 2000000 acc ∧ los = loP lo acc)
     (fun vs _ _ => match vs with | [_, _, _, _, _, _, .r (.v (.int _ a))] => (l.length - a).toNat | _ => 0) rfl ?_ ?_
    ·simp only [tview, ccF, roN, roZ, fQ, z64, keys, push_cast, ↓reduceIte, reduceCtorEq, Nat.reduceBEq, reduceEqDiff, reduceAdd, reduceSub, reduceLT, reduceLeDiff, reduceMul]
     exact ⟨0, [], by omega, hf, by simp [hP, hL, hI, ccF, fQ, z64]⟩
    ·rintro vs pos los ⟨j, acc2, hj, hf2, rfl, rfl, rfl⟩
     rcases acc2 with _ | ⟨y, ys⟩
     ·have hP := poP_nil w 2000000
      have hL := loP_nil lo
      have hI := lpP_nil
      simp only [tview, ccF, roN, roZ, fQ, z64, keys, hP, hL, hI, List.length_map, push_cast, ↓reduceIte, reduceCtorEq, Nat.reduceBEq, reduceEqDiff, reduceAdd, reduceSub, reduceLT, reduceLeDiff, reduceMul]
      refine cnd_mk (fun h2 => ?_) (fun h2 => ?_)
      ·have h2' : j < l.length := by simpa using h2
       have hj1 : IntKind.i64.wrap ((j : Int) + 1) = (j : Int) + 1 := wrap_id ⟨by omega, by simp only [maxLen] at hll; omega⟩
       obtain ⟨k, hk⟩ : ∃ k, l[j]? = some k := ⟨l[j], by simp [h2']⟩
       have hkd : l.drop j = k :: l.drop (j + 1) := by
        rw [List.drop_eq_getElem_cons h2', (List.getElem?_eq_some_iff.1 hk).2]
       rw [hkd, List.cons_append] at hf2
       simp only [tview, ccF, roN, roZ, fQ, z64, keys, List.length_map, keys_get hk, push_cast, ↓reduceIte, reduceCtorEq, Nat.reduceBEq, reduceEqDiff, reduceAdd, reduceSub, reduceLT, reduceLeDiff, reduceMul]
       refine And.intro ⟨by omega, by omega⟩ (call_mk (less_t k lo) rfl trivial ?_)
       rcases hkl : kl k lo with _ | _
       ·simp only [tview, ccF, roN, roZ, fQ, z64, Ky.cs, keys, List.length_map, keys_get hk, hfn, Bool.not_false, push_cast, ↓reduceIte, reduceCtorEq, Nat.reduceBEq, reduceEqDiff, reduceAdd, reduceSub, reduceLT, reduceLeDiff, reduceMul]
        rcases hkh : (k.c != w) with _ | _
        ·refine call_mk (walkP_yes k w hkh) rfl ⟨rfl, rfl, rfl, trivial⟩ ?_
         rw [tcd_take hkl hkh] at hf2
         simp only [tview, ccF, roN, roZ, fQ, z64, Ky.cs, keys, kz, List.length_map, hj1, push_cast, ↓reduceIte, reduceCtorEq, Nat.reduceBEq, reduceEqDiff, reduceAdd, reduceSub, reduceLT, reduceLeDiff, reduceMul]
         exact ⟨⟨j + 1, [k.d], by omega, by simpa using hf2, by simp [poP, loP, lpP, ccF, Ky.cs, kz, fQ, z64, ids]⟩, by omega⟩
        ·refine call_mk (walkP_no k w hkh) rfl ⟨rfl, rfl, rfl, trivial⟩ ?_
         rw [tcd_stop hkl hkh] at hf2
         simp only [tview, ccF, roN, roZ, fQ, z64, Ky.cs, keys, kz, List.length_map, push_cast, ↓reduceIte, reduceCtorEq, Nat.reduceBEq, reduceEqDiff, reduceAdd, reduceSub, reduceLT, reduceLeDiff, reduceMul]
         rw [hf2]
         exact (roP_nil w 1000003).symm
       ·rw [tcd_skip hkl] at hf2
        simp only [tview, ccF, roN, roZ, fQ, z64, Ky.cs, keys, List.length_map, Bool.not_true, hj1, push_cast, ↓reduceIte, reduceCtorEq, Nat.reduceBEq, reduceEqDiff, reduceAdd, reduceSub, reduceLT, reduceLeDiff, reduceMul]
        exact ⟨⟨j + 1, [], by omega, hf2, by simp [poP, loP, lpP, ccF, Ky.cs, kz, fQ, z64, ids]⟩, by omega⟩
      ·have h2' : ¬ j < l.length := by simpa using h2
       rw [List.drop_eq_nil_of_le (by omega), List.nil_append] at hf2
       simp only [tview, ccF, roN, roZ, fQ, z64, keys, List.length_map, ha1, push_cast, ↓reduceIte, reduceCtorEq, Nat.reduceBEq, reduceEqDiff, reduceAdd, reduceSub, reduceLT, reduceLeDiff, reduceMul]
       exact ⟨⟨a + 1, [], by omega, hf2, by simp [poP, loP, lpP, ccF, Ky.cs, kz, fQ, z64, ids]⟩, by omega⟩
     ·have hac2 : y :: ys ≠ [] := by simp
      generalize y :: ys = acc2 at *
      have hal : acc2.length ≤ 100000 := by rw [hf2, List.length_append] at hRl; omega
      have hP := poP_ne w 2000000 hac2
      have hL := loP_ne lo hac2
      have hI := lpP_ne hac2
      simp only [tview, ccF, roN, roZ, fQ, z64, keys, hP, hL, hI, List.length_map, push_cast, ↓reduceIte, reduceCtorEq, Nat.reduceBEq, reduceEqDiff, reduceAdd, reduceSub, reduceLT, reduceLeDiff, reduceMul]
      refine cnd_mk (fun h2 => ?_) (fun h2 => ?_)
      ·have h2' : j < l.length := by simpa using h2
       have hj1 : IntKind.i64.wrap ((j : Int) + 1) = (j : Int) + 1 := wrap_id ⟨by omega, by simp only [maxLen] at hll; omega⟩
       obtain ⟨k, hk⟩ : ∃ k, l[j]? = some k := ⟨l[j], by simp [h2']⟩
       have hkd : l.drop j = k :: l.drop (j + 1) := by
        rw [List.drop_eq_getElem_cons h2', (List.getElem?_eq_some_iff.1 hk).2]
       rw [hkd, List.cons_append] at hf2
       simp only [tview, ccF, roN, roZ, fQ, z64, keys, List.length_map, keys_get hk, push_cast, ↓reduceIte, reduceCtorEq, Nat.reduceBEq, reduceEqDiff, reduceAdd, reduceSub, reduceLT, reduceLeDiff, reduceMul]
       refine And.intro ⟨by omega, by omega⟩ (call_mk (less_t k lo) rfl trivial ?_)
       rcases hkl : kl k lo with _ | _
       ·simp only [tview, ccF, roN, roZ, fQ, z64, Ky.cs, keys, List.length_map, keys_get hk, hfn, Bool.not_false, push_cast, ↓reduceIte, reduceCtorEq, Nat.reduceBEq, reduceEqDiff, reduceAdd, reduceSub, reduceLT, reduceLeDiff, reduceMul]
        rcases hkh : (k.c != w) with _ | _
        ·refine call_mk (walkP_yes2 k w acc2 hal hkh) rfl ⟨rfl, rfl, rfl, trivial⟩ ?_
         rw [tcd_take hkl hkh] at hf2
         simp only [tview, ccF, roN, roZ, fQ, z64, Ky.cs, keys, kz, List.length_map, hj1, push_cast, ↓reduceIte, reduceCtorEq, Nat.reduceBEq, reduceEqDiff, reduceAdd, reduceSub, reduceLT, reduceLeDiff, reduceMul]
         refine ⟨⟨j + 1, acc2 ++ [k.d], by omega, by simpa using hf2, by simp [poP_ne, loP_ne, lpP_ne, ccF, fQ, z64, ids]⟩, by omega⟩
        ·refine call_mk (walkP_no2 k w acc2 hkh) rfl ⟨rfl, rfl, rfl, trivial⟩ ?_
         rw [tcd_stop hkl hkh, List.append_nil] at hf2
         simp only [tview, ccF, roN, roZ, fQ, z64, Ky.cs, keys, kz, List.length_map, push_cast, ↓reduceIte, reduceCtorEq, Nat.reduceBEq, reduceEqDiff, reduceAdd, reduceSub, reduceLT, reduceLeDiff, reduceMul]
         rw [hf2]
         exact (roP_ne w 1000003 hac2).symm
       ·rw [tcd_skip hkl] at hf2
        simp only [tview, ccF, roN, roZ, fQ, z64, Ky.cs, keys, List.length_map, Bool.not_true, hj1, push_cast, ↓reduceIte, reduceCtorEq, Nat.reduceBEq, reduceEqDiff, reduceAdd, reduceSub, reduceLT, reduceLeDiff, reduceMul]
        refine ⟨⟨j + 1, acc2, by omega, hf2, by simp [hP, hL, hI, ccF, fQ, z64]⟩, by omega⟩
      ·have h2' : ¬ j < l.length := by simpa using h2
       rw [List.drop_eq_nil_of_le (by omega), List.nil_append] at hf2
       simp only [tview, ccF, roN, roZ, fQ, z64, keys, List.length_map, ha1, push_cast, ↓reduceIte, reduceCtorEq, Nat.reduceBEq, reduceEqDiff, reduceAdd, reduceSub, reduceLT, reduceLeDiff, reduceMul]
       refine ⟨⟨a + 1, acc2, by omega, hf2, by simp [hP, hL, hI, ccF, fQ, z64]⟩, by omega⟩
   ·have h1' : ¬ a < ns.length := by simpa using h1
    rw [List.drop_eq_nil_of_le (by omega)] at hf
    simp only [tview, ccF, roN, roZ, fQ, z64, List.length_map, push_cast, ↓reduceIte, reduceCtorEq, Nat.reduceBEq, reduceEqDiff, reduceAdd, reduceSub, reduceLT, reduceLeDiff, reduceMul]
    have hRa : R = [] := by simpa [tcd, tc] using hf
    rw [hRa]
    exact (roP_nil w 1000003).symm
  ·have hac : x :: xs ≠ [] := by simp
   generalize x :: xs = acc at *
   have hP := poP_ne w 2000000 hac
   have hL := loP_ne lo hac
   have hI := lpP_ne hac
   simp only [tview, ccF, roN, roZ, fQ, z64, hP, hL, hI, List.length_map, push_cast, ↓reduceIte, reduceCtorEq, Nat.reduceBEq, reduceEqDiff, reduceAdd, reduceSub, reduceLT, reduceLeDiff, reduceMul]
   refine cnd_mk (fun h1 => ?_) (fun h1 => ?_)
   ·have h1' : a < ns.length := by simpa using h1
    obtain ⟨l, hl⟩ : ∃ l, ns[a]? = some l := ⟨ns[a], by simp [h1']⟩
    have hll := (h.ne a l hl).2
    have hd : ns.drop a = l :: ns.drop (a + 1) := by
     rw [List.drop_eq_getElem_cons h1', (List.getElem?_eq_some_iff.1 hl).2]
    rw [hd, List.flatten_cons] at hf
    have hg : (ns.map keys).getD ((a : Int)).toNat (.sl 3 []) = .sl 3 (l.map Ky.rv) := by simp [List.getD, hl, keys]
    have ha1 : IntKind.i64.wrap ((a : Int) + 1) = (a : Int) + 1 := wrap_id ⟨by omega, by have := h.len; simp only [maxLen] at this; omega⟩
    simp only [tview, ccF, roN, roZ, fQ, z64, List.length_map, hg, push_cast, ↓reduceIte, reduceCtorEq, Nat.reduceBEq, reduceEqDiff, reduceAdd, reduceSub, reduceLT, reduceLeDiff, reduceMul]
    refine And.intro ⟨by omega, by omega⟩ ?_
    refine run_loop [(0, false), (2, false), (4, false), (6, false), (33, false), (34, false), (35, false)] (fun vs pos los => ∃ (j : Nat) (acc : List Int), j ≤ l.length ∧ R = acc ++ tcd lo w (l.drop j ++ (ns.drop (a + 1)).flatten) ∧
      vs = [.rp (tview ns n), ccF, .ptr (lpP acc) 0 0, int .i64 a, .r (keys l), int .i64 l.length, int .i64 j] ∧ pos = poP w 2000000 acc ∧ los = loP lo acc)
     (fun vs _ _ => match vs with | [_, _, _, _, _, _, .r (.v (.int _ a))] => (l.length - a).toNat | _ => 0) rfl ?_ ?_
    ·simp only [tview, ccF, roN, roZ, fQ, z64, keys, push_cast, ↓reduceIte, reduceCtorEq, Nat.reduceBEq, reduceEqDiff, reduceAdd, reduceSub, reduceLT, reduceLeDiff, reduceMul]
     exact ⟨0, acc, by omega, hf, by simp [hP, hL, hI, ccF, fQ, z64]⟩
    ·rintro vs pos los ⟨j, acc2, hj, hf2, rfl, rfl, rfl⟩
     rcases acc2 with _ | ⟨y, ys⟩
     ·have hP := poP_nil w 2000000
      have hL := loP_nil lo
      have hI := lpP_nil
      simp only [tview, ccF, roN, roZ, fQ, z64, keys, hP, hL, hI, List.length_map, push_cast, ↓reduceIte, reduceCtorEq, Nat.reduceBEq, reduceEqDiff, reduceAdd, reduceSub, reduceLT, reduceLeDiff, reduceMul]
      refine cnd_mk (fun h2 => ?_) (fun h2 => ?_)
      ·have h2' : j < l.length := by simpa using h2
       have hj1 : IntKind.i64.wrap ((j : Int) + 1) = (j : Int) + 1 := wrap_id ⟨by omega, by simp only [maxLen] at hll; omega⟩
       obtain ⟨k, hk⟩ : ∃ k, l[j]? = some k := ⟨l[j], by simp [h2']⟩
       have hkd : l.drop j = k :: l.drop (j + 1) := by
        rw [List.drop_eq_getElem_cons h2', (List.getElem?_eq_some_iff.1 hk).2]
       rw [hkd, List.cons_append] at hf2
       simp only [tview, ccF, roN, roZ, fQ, z64, keys, List.length_map, keys_get hk, push_cast, ↓reduceIte, reduceCtorEq, Nat.reduceBEq, reduceEqDiff, reduceAdd, reduceSub, reduceLT, reduceLeDiff, reduceMul]
       refine And.intro ⟨by omega, by omega⟩ (call_mk (less_t k lo) rfl trivial ?_)
       rcases hkl : kl k lo with _ | _
       ·simp only [tview, ccF, roN, roZ, fQ, z64, Ky.cs, keys, List.length_map, keys_get hk, hfn, Bool.not_false, push_cast, ↓reduceIte, reduceCtorEq, Nat.reduceBEq, reduceEqDiff, reduceAdd, reduceSub, reduceLT, reduceLeDiff, reduceMul]
        rcases hkh : (k.c != w) with _ | _
        ·refine call_mk (walkP_yes k w hkh) rfl ⟨rfl, rfl, rfl, trivial⟩ ?_
         rw [tcd_take hkl hkh] at hf2
         simp only [tview, ccF, roN, roZ, fQ, z64, Ky.cs, keys, kz, List.length_map, hj1, push_cast, ↓reduceIte, reduceCtorEq, Nat.reduceBEq, reduceEqDiff, reduceAdd, reduceSub, reduceLT, reduceLeDiff, reduceMul]
         exact ⟨⟨j + 1, [k.d], by omega, by simpa using hf2, by simp [poP, loP, lpP, ccF, Ky.cs, kz, fQ, z64, ids]⟩, by omega⟩
        ·refine call_mk (walkP_no k w hkh) rfl ⟨rfl, rfl, rfl, trivial⟩ ?_
         rw [tcd_stop hkl hkh] at hf2
         simp only [tview, ccF, roN, roZ, fQ, z64, Ky.cs, keys, kz, List.length_map, push_cast, ↓reduceIte, reduceCtorEq, Nat.reduceBEq, reduceEqDiff, reduceAdd, reduceSub, reduceLT, reduceLeDiff, reduceMul]
         rw [hf2]
         exact (roP_nil w 1000003).symm
       ·rw [tcd_skip hkl] at hf2
        simp only [tview, ccF, roN, roZ, fQ, z64, Ky.cs, keys, List.length_map, Bool.not_true, hj1, push_cast, ↓reduceIte, reduceCtorEq, Nat.reduceBEq, reduceEqDiff, reduceAdd, reduceSub, reduceLT, reduceLeDiff, reduceMul]
        exact ⟨⟨j + 1, [], by omega, hf2, by simp [poP, loP, lpP, ccF, Ky.cs, kz, fQ, z64, ids]⟩, by omega⟩
      ·have h2' : ¬ j < l.length := by simpa using h2
       rw [List.drop_eq_nil_of_le (by omega), List.nil_append] at hf2
       simp only [tview, ccF, roN, roZ, fQ, z64, keys, List.length_map, ha1, push_cast, ↓reduceIte, reduceCtorEq, Nat.reduceBEq, reduceEqDiff, reduceAdd, reduceSub, reduceLT, reduceLeDiff, reduceMul]
       exact ⟨⟨a + 1, [], by omega, hf2, by simp [poP, loP, lpP, ccF, Ky.cs, kz, fQ, z64, ids]⟩, by omega⟩
     ·have hac2 : y :: ys ≠ [] := by simp
      generalize y :: ys = acc2 at *
      have hal : acc2.length ≤ 100000 := by rw [hf2, List.length_append] at hRl; omega
      have hP := poP_ne w 2000000 hac2
      have hL := loP_ne lo hac2
      have hI := lpP_ne hac2
      simp only [tview, ccF, roN, roZ, fQ, z64, keys, hP, hL, hI, List.length_map, push_cast, ↓reduceIte, reduceCtorEq, Nat.reduceBEq, reduceEqDiff, reduceAdd, reduceSub, reduceLT, reduceLeDiff, reduceMul]
      refine cnd_mk (fun h2 => ?_) (fun h2 => ?_)
      ·have h2' : j < l.length := by simpa using h2
       have hj1 : IntKind.i64.wrap ((j : Int) + 1) = (j : Int) + 1 := wrap_id ⟨by omega, by simp only [maxLen] at hll; omega⟩
       obtain ⟨k, hk⟩ : ∃ k, l[j]? = some k := ⟨l[j], by simp [h2']⟩
       have hkd : l.drop j = k :: l.drop (j + 1) := by
        rw [List.drop_eq_getElem_cons h2', (List.getElem?_eq_some_iff.1 hk).2]
       rw [hkd, List.cons_append] at hf2
       simp only [tview, ccF, roN, roZ, fQ, z64, keys, List.length_map, keys_get hk, push_cast, ↓reduceIte, reduceCtorEq, Nat.reduceBEq, reduceEqDiff, reduceAdd, reduceSub, reduceLT, reduceLeDiff, reduceMul]
       refine And.intro ⟨by omega, by omega⟩ (call_mk (less_t k lo) rfl trivial ?_)
       rcases hkl : kl k lo with _ | _
       ·simp only [tview, ccF, roN, roZ, fQ, z64, Ky.cs, keys, List.length_map, keys_get hk, hfn, Bool.not_false, push_cast, ↓reduceIte, reduceCtorEq, Nat.reduceBEq, reduceEqDiff, reduceAdd, reduceSub, reduceLT, reduceLeDiff, reduceMul]
        rcases hkh : (k.c != w) with _ | _
        ·refine call_mk (walkP_yes2 k w acc2 hal hkh) rfl ⟨rfl, rfl, rfl, trivial⟩ ?_
         rw [tcd_take hkl hkh] at hf2
         simp only [tview, ccF, roN, roZ, fQ, z64, Ky.cs, keys, kz, List.length_map, hj1, push_cast, ↓reduceIte, reduceCtorEq, Nat.reduceBEq, reduceEqDiff, reduceAdd, reduceSub, reduceLT, reduceLeDiff, reduceMul]
         refine ⟨⟨j + 1, acc2 ++ [k.d], by omega, by simpa using hf2, by simp [poP_ne, loP_ne, lpP_ne, ccF, fQ, z64, ids]⟩, by omega⟩
        ·refine call_mk (walkP_no2 k w acc2 hkh) rfl ⟨rfl, rfl, rfl, trivial⟩ ?_
         rw [tcd_stop hkl hkh, List.append_nil] at hf2
         simp only [tview, ccF, roN, roZ, fQ, z64, Ky.cs, keys, kz, List.length_map, push_cast, ↓reduceIte, reduceCtorEq, Nat.reduceBEq, reduceEqDiff, reduceAdd, reduceSub, reduceLT, reduceLeDiff, reduceMul]
         rw [hf2]
         exact (roP_ne w 1000003 hac2).symm
       ·rw [tcd_skip hkl] at hf2
        simp only [tview, ccF, roN, roZ, fQ, z64, Ky.cs, keys, List.length_map, Bool.not_true, hj1, push_cast, ↓reduceIte, reduceCtorEq, Nat.reduceBEq, reduceEqDiff, reduceAdd, reduceSub, reduceLT, reduceLeDiff, reduceMul]
        refine ⟨⟨j + 1, acc2, by omega, hf2, by simp [hP, hL, hI, ccF, fQ, z64]⟩, by omega⟩
      ·have h2' : ¬ j < l.length := by simpa using h2
       rw [List.drop_eq_nil_of_le (by omega), List.nil_append] at hf2
       simp only [tview, ccF, roN, roZ, fQ, z64, keys, List.length_map, ha1, push_cast, ↓reduceIte, reduceCtorEq, Nat.reduceBEq, reduceEqDiff, reduceAdd, reduceSub, reduceLT, reduceLeDiff, reduceMul]
       refine ⟨⟨a + 1, acc2, by omega, hf2, by simp [hP, hL, hI, ccF, fQ, z64]⟩, by omega⟩
   ·have h1' : ¬ a < ns.length := by simpa using h1
    rw [List.drop_eq_nil_of_le (by omega)] at hf
    simp only [tview, ccF, roN, roZ, fQ, z64, List.length_map, push_cast, ↓reduceIte, reduceCtorEq, Nat.reduceBEq, reduceEqDiff, reduceAdd, reduceSub, reduceLT, reduceLeDiff, reduceMul]
    have hRa : R = acc := by simpa [tcd, tc] using hf
    rw [hRa]
    exact (roP_ne w 1000003 hac).symm
theorem fromP_all {ns : List (List Ky)} (h : Good ns) (hn : ns.flatten.length ≤ 100000) (n : Int) (lo : Ky) (w : Int) :
  Triple Go.Proofs.Tryz.prog 53 [.rp (tview ns n), lo.av, ccF] (poP w 1000003 []) (.tup []) (roP w 1000003 (tcd lo w ns.flatten)) := by
 by_cases h0 : ns = []
 ·subst h0
  refine tree_Tree_from_triple rfl (by simp [poP]) ?_
  have hQ := poP_nil w 1000003
  simp only [tree_Tree_from_pc, ccF, hQ, tview, Ky.av, Ky.rv, Ky.cs, kz, List.length_nil, List.length_cons, List.map_nil, push_cast, ↓reduceIte, reduceCtorEq, Nat.reduceBEq, reduceEqDiff, reduceAdd, reduceSub, reduceLT, reduceLeDiff, reduceMul]
  rfl
 ·obtain ⟨i, q, l, hs⟩ := spt h (by omega) lo h0
  refine fromP_t ns n lo w _ (nodeIx_ok h (by omega) _) h0 hn _ ?_
  rw [hs.nx]
  have hd : ns.drop i = l :: ns.drop (i + 1) := by
   rw [List.drop_eq_getElem_cons hs.lt, (List.getElem?_eq_some_iff.1 hs.at_).2]
  rw [hs.all, hd, List.flatten_cons]
  unfold tcd tc
  conv => rhs; rw [List.filter_append]
  have : List.filter (fun k => !kl k lo) (List.take i ns).flatten = [] := by
   rw [List.filter_eq_nil_iff]
   intro x hx
   simp [hs.ahead x hx]
  rw [this, List.nil_append]
def fQ1 : AV := .fn (.func 34) [.ptr 1000003 0 0] 0
theorem flat_ids (l : List Int) : ∀ x ∈ ids l, FlatR x := fun x hx => by
 obtain ⟨n, _, rfl⟩ := List.mem_map.1 hx
 simp [FlatR]
theorem fromP_some {ns : List (List Ky)} (h : Good ns) (hn : ns.flatten.length ≤ 100000) (lo : Ky) (w : Int) {acc : List Int} (hR : tcd lo w ns.flatten = acc) (h0 : acc ≠ []) :
  Triple Go.Proofs.Tryz.prog 53 [.ptr 1000000 0 0, lo.av, ccF1] [.abs (tr ns), .box [int .u64 w], .box [fQ1], .box [.nils 1 z64]] (.tup []) [.abs (tr ns), .box [int .u64 w], .box [fQ1], .box [.own 1000004 0 0 acc.length], .row 1 z64 true true (ids acc)] := by
 have := fromP_all h hn ns.flatten.length lo w
 rw [hR, roP_ne w 1000003 h0] at this
 exact viewP (T := tr ns) (po := poP w 1000003 []) (po' := [.box [int .u64 w], .box [fQ1], .box [.nils 1 z64]]) (ro' := [.box [int .u64 w], .box [fQ1], .box [.own 1000004 0 0 acc.length], .row 1 z64 true true (ids acc)]) this rfl rfl rfl rfl
  (by simp [fQ1, FlatO, Flats, Flat, FlatR]) (by simpa [fQ, FlatO, Flats, Flat, FlatR] using flat_ids acc) (by simp [Flat, Flats])
theorem walkP_some {ns : List (List Ky)} (h : Good ns) (hn : ns.flatten.length ≤ 100000) (w : Int) {acc : List Int} (hR : tcd ⟨w, -9223372036854775808, -9223372036854775808⟩ w ns.flatten = acc) (h0 : acc ≠ []) :
  Triple Go.Proofs.Tryz.prog 30 [.ptr 1000000 0 0, int .u64 w, .fn (.func 34) [.ptr 1000001 0 0] 0] [.abs (tr ns), .box [.nils 1 z64]] (.tup []) [.abs (tr ns), .box [.own 1000002 0 0 acc.length], .row 1 z64 true true (ids acc)] := by
 refine tree_Tree_Walk_triple rfl (by simp) ?_
 simp only [tree_Tree_Walk_pc, z64, List.length_cons, List.length_nil, push_cast, ↓reduceIte, reduceCtorEq, Nat.reduceBEq, reduceEqDiff, reduceAdd, reduceSub, reduceLT, reduceLeDiff, reduceMul]
 refine ⟨by kernel_rfl, ?_⟩
 refine call_as (as' := [.ptr 1000000 0 0, Ky.av ⟨w, -9223372036854775808, -9223372036854775808⟩, ccF1]) rfl ?_
 refine call_mk (fromP_some h hn _ w hR h0) rfl ⟨rfl, rfl, rfl, rfl, trivial⟩ ?_
 simp only [fQ1, z64, push_cast, ↓reduceIte, reduceCtorEq, Nat.reduceBEq, reduceEqDiff, reduceAdd, reduceSub, reduceLT, reduceLeDiff, reduceMul]
section
variable {L : List Pt} {es : List MapEntry} {c : Nat} {ns : List (List Ky)} {ce : Nat → List MapEntry} {cc : Nat → Nat}
def ptsN (ns : List (List Ky)) (w : Int) : List Int := tcd ⟨w, -9223372036854775808, -9223372036854775808⟩ w ns.flatten
theorem pts_some (h : StL L es c ns ce cc) (w : Int) {acc : List Int} (hR : ptsN ns w = acc) (h0 : acc ≠ []) : Triple Go.Proofs.Tryz.prog 17 [.ptr 1000000 0 0, int .u64 w] (stOs es c ns ce cc) (.own 1000016 0 0 acc.length) (stOs es c ns ce cc ++ [.row 1 z64 true true (ids acc)]) := by
 have hT := walkP_some h.tk.g (by rw [h.tk.l]; have := h.le; omega) w hR h0
 refine stats_Stats_Points_triple rfl (by simp [stOs]) ?_
 simp only [stats_Stats_Points_pc, stOs, z64, List.length_cons, List.length_nil, push_cast, ↓reduceIte, reduceCtorEq, Nat.reduceBEq, reduceEqDiff, reduceAdd, reduceSub, reduceLT, reduceLeDiff, reduceMul]
 repeat refine And.intro (by first | decide | omega | exact fun _ => by decide | (simp +contextual; done) | kernel_rfl) ?_
 refine call_mk hT rfl ⟨rfl, rfl, trivial⟩ ?_
 simp only [z64, List.cons_append, List.nil_append, push_cast, ↓reduceIte, reduceCtorEq, Nat.reduceBEq, reduceEqDiff, reduceAdd, reduceSub, reduceLT, reduceLeDiff, reduceMul]
end

def leK (a b : Ky) : Bool := !kl b a
theorem leK_trans (a b c : Ky) (h1 : leK a b = true) (h2 : leK b c = true) : leK a c = true := by
 unfold leK at *
 rw [Bool.not_eq_true', kl_no] at *
 omega
theorem leK_total (a b : Ky) : (leK a b || leK b a) = true := by
 unfold leK
 cases h : kl b a with
 | false => rfl
 | true =>
  have := kl_iff.1 h
  have : kl a b = false := by rw [kl_no]; omega
  simp [this]
theorem leK_anti {a b : Ky} (h1 : leK a b = true) (h2 : leK b a = true) : a = b := by
 unfold leK at *
 rw [Bool.not_eq_true', kl_no] at h1 h2
 obtain ⟨a1, a2, a3⟩ := a
 obtain ⟨b1, b2, b3⟩ := b
 simp only at h1 h2
 rw [Ky.mk.injEq]
 omega
def keysOf (L : List Pt) (w : Nat) : List Ky := (mem L w).map fun p => (⟨w, p.v, p.k⟩ : Ky)
def ptsL (L : List Pt) (w : Nat) : List Int := ((keysOf L w).mergeSort leK).map (·.d)
theorem ptsL_len (L : List Pt) (w : Nat) : (ptsL L w).length = (mem L w).length := by
 unfold ptsL keysOf
 rw [List.length_map, List.length_mergeSort, List.length_map]
section
variable {L : List Pt} {es : List MapEntry} {c : Nat} {ns : List (List Ky)} {ce : Nat → List MapEntry} {cc : Nat → Nat}
theorem ptsN_eq (h : StL L es c ns ce cc) (w : Nat) : ptsN ns w = ptsL L w := by
 have hK : ∀ k ∈ ns.flatten, ∃ p ∈ L, ∃ r, r < 13 ∧ k = p.ky r := fun k hk => (h.tk.m k).1 hk
 have hb : ∀ k ∈ ns.flatten, -2147483648 ≤ k.v ∧ k.v ≤ 2147483647 ∧ 1 ≤ k.d := fun k hk => by
  obtain ⟨p, hp, r, hr, rfl⟩ := hK k hk
  have := h.ok p hp
  exact ⟨this.2.2.1, this.2.2.2, this.1.1⟩
 unfold ptsN tcd ptsL
 rw [tc_eq h.tk.g.so w fun k hk => by have := hb k hk; omega]
 generalize hF : (ns.flatten.filter fun k => k.c == (w : Int)) = F
 have hsF : Srt F := by rw [← hF]; exact h.tk.g.so.sublist List.filter_sublist
 have hmF : ∀ k, k ∈ F ↔ k ∈ keysOf L w := fun k => by
  unfold keysOf
  rw [← hF, List.mem_filter, h.tk.m, List.mem_map]
  constructor
  ·rintro ⟨⟨p, hp, r, hr, rfl⟩, hc⟩
   have hc' : p.w r = w := Int.ofNat.inj (by simpa [Pt.ky] using hc)
   exact ⟨p, List.mem_filter.2 ⟨hp, inC_iff.2 ⟨r, hr, hc'⟩⟩, by simp [Pt.ky, hc']⟩
  ·rintro ⟨p, hp, rfl⟩
   obtain ⟨hp, hi⟩ := List.mem_filter.1 hp
   obtain ⟨r, hr, e⟩ := inC_iff.1 hi
   exact ⟨⟨p, hp, r, hr, by simp [Pt.ky, e]⟩, by simp⟩
 have hndM : ((mem L w).map (·.k)).Nodup := by
  have : ((mem L w).map (·.k)).Sublist (L.map (·.k)) := List.filter_sublist.map _
  exact this.nodup h.pm.nd
 have hndF : F.Nodup := hsF.imp fun {a b} hab e => by subst e; rw [kl_irr] at hab; cases hab
 have hP : F.Perm (keysOf L w) := (List.perm_ext_iff_of_nodup hndF (nodup_map_k hndM)).2 hmF
 have e : F = (keysOf L w).mergeSort leK := by
  refine List.Perm.eq_of_pairwise (le := fun a b => leK a b = true) (fun a b _ _ h1 h2 => leK_anti h1 h2) (hsF.imp fun {a b} hab => ?_) (List.pairwise_mergeSort leK_trans leK_total _) (hP.trans (List.mergeSort_perm _ _).symm)
  unfold leK
  rw [Bool.not_eq_true', kl_no]
  have := kl_iff.1 hab
  omega
 rw [e]
end
theorem pts_a (L : List Pt) (w : Nat) (h0 : mem L w ≠ []) : Triple Go.Proofs.Tryz.prog 17 [.ptr 1000000 0 0, int .u64 w] [.abs (sT L)] (.own 1000001 0 0 (ptsL L w).length) [.abs (sT L), .row 1 z64 true true (ids (ptsL L w))] :=
 pack (F := SF L) (F' := SF L) rfl (ex := [.row 1 z64 true true (ids (ptsL L w))]) (res := .own 1000016 0 0 (ptsL L w).length) (fun os h => by
  obtain ⟨es, c, ns, ce, cc, h, rfl⟩ := h
  refine ⟨_, ⟨_, _, _, _, _, h, rfl⟩, pts_some h w (ptsN_eq h w) fun e => h0 ?_⟩
  have := ptsL_len L w
  rw [e] at this
  exact List.length_eq_zero_iff.1 this.symm) rfl (by
  intro o ho
  simp at ho
  subst ho
  exact flat_ids _) (by simp [Flat])

theorem sum_ite (x g : Int) : ∀ (C : List Int), C.Nodup → (C.map fun n => if x = n then g else 0).sum = if x ∈ C then g else 0
 | [], _ => by simp
 | a :: C, h => by
  rw [List.nodup_cons] at h
  rw [List.map_cons, List.sum_cons, sum_ite x g C h.2]
  by_cases hx : x = a
  ·subst hx
   simp [h.1]
  ·simp [hx]
theorem sum_split (key g : Pt → Int) (C : List Int) (hnd : C.Nodup) : ∀ (l : List Pt), (∀ p ∈ l, key p ∈ C) → (C.map fun n => ((l.filter fun p => key p == n).map g).sum).sum = (l.map g).sum
 | [], _ => by
  have : ∀ C : List Int, (C.map fun _ => (0 : Int)).sum = 0 := fun C => by induction C with
   | nil => rfl
   | cons a C ih => simp [ih]
  simpa using this C
 | p :: l, h => by
  have ih := sum_split key g C hnd l fun q hq => h q (by simp [hq])
  have e : ∀ D : List Int, (D.map fun n => (((p :: l).filter fun p => key p == n).map g).sum).sum = (D.map fun n => if key p = n then g p else 0).sum + (D.map fun n => ((l.filter fun p => key p == n).map g).sum).sum := fun D => by
   induction D with
   | nil => rfl
   | cons n D ihD =>
    simp only [List.map_cons, List.sum_cons, ihD]
    rw [List.filter_cons]
    by_cases hx : key p = n
    ·simp [hx]; omega
    ·simp [hx]; omega
  rw [e, ih, sum_ite _ _ _ hnd, if_pos (h p (by simp)), List.map_cons, List.sum_cons]
theorem asI_nodup {ws : List Nat} (h : ws.Nodup) : (asI ws).Nodup := List.pairwise_map.2 (h.imp fun {a b} hab e => hab (by omega))
theorem cellsL_nodup (L : List Pt) (r : Nat) : (cellsL L r).Nodup := (List.mergeSort_perm _ _).nodup_iff.2 (asI_nodup (dd_nodup _))
theorem cellsL_mem {L : List Pt} {r : Nat} {n : Int} : n ∈ cellsL L r ↔ ∃ p ∈ L, ((p.w r : Nat) : Int) = n := by
 unfold cellsL srtI asI
 rw [List.mem_mergeSort, List.mem_map]
 constructor
 ·rintro ⟨w, hw, rfl⟩
  obtain ⟨p, hp, e⟩ := wordsL_mem.1 hw
  exact ⟨p, hp, by rw [e]⟩
 ·rintro ⟨p, hp, rfl⟩
  exact ⟨p.w r, wordsL_mem.2 ⟨p, hp, rfl⟩, rfl⟩
theorem cellsL_lt (L : List Pt) (r : Nat) {i : Nat} {a b : Int} (h1 : (cellsL L r)[i]? = some a) (h2 : (cellsL L r)[i + 1]? = some b) : a < b := by
 have tr : ∀ x y z : Int, decide (x ≤ y) = true → decide (y ≤ z) = true → decide (x ≤ z) = true := by simp; omega
 have tot : ∀ x y : Int, (decide (x ≤ y) || decide (y ≤ x)) = true := by simp; omega
 have s1 : (cellsL L r).Pairwise fun x y => decide (x ≤ y) = true := List.pairwise_mergeSort tr tot _
 have hnd := cellsL_nodup L r
 obtain ⟨l1, rfl⟩ := List.getElem?_eq_some_iff.1 h1
 obtain ⟨l2, rfl⟩ := List.getElem?_eq_some_iff.1 h2
 have a1 := (List.pairwise_iff_getElem.1 s1) i (i + 1) l1 l2 (by omega)
 have a2 := (List.pairwise_iff_getElem.1 hnd) i (i + 1) l1 l2 (by omega)
 simp at a1
 omega
theorem mem_res {L : List Pt} (hok : ∀ p ∈ L, p.ok) {r : Nat} (hr : r < 13) {w : Nat} (hw : ∃ p ∈ L, p.w r = w) : mem L w = L.filter fun p => ((p.w r : Nat) : Int) == (w : Int) := by
 obtain ⟨q, hq, e⟩ := hw
 have hres := (Pt.w_res (hok q hq) hr).2.1
 rw [e] at hres
 unfold mem
 apply List.filter_congr
 intro p hp
 rw [inC_word (hok p hp) hr hres]
 rw [Bool.eq_iff_iff]
 simp
 omega
def cntI (L : List Pt) (n : Int) : Int := (mem L n.toNat).length
def sumI (L : List Pt) (n : Int) : Int := sumV (mem L n.toNat)
theorem cnt_total {L : List Pt} (hok : ∀ p ∈ L, p.ok) {r : Nat} (hr : r < 13) : ((cellsL L r).map (cntI L)).sum = L.length := by
 have h := sum_split (fun p => ((p.w r : Nat) : Int)) (fun _ => 1) (cellsL L r) (cellsL_nodup L r) L fun p hp => cellsL_mem.2 ⟨p, hp, rfl⟩
 have e1 : ∀ M : List Pt, (M.map fun _ => (1 : Int)).sum = M.length := fun M => by induction M with
  | nil => rfl
  | cons a M ih => simp [ih]; omega
 rw [e1] at h
 rw [← h]
 congr 1
 apply List.map_congr_left
 intro n hn
 obtain ⟨p, hp, rfl⟩ := cellsL_mem.1 hn
 unfold cntI
 rw [Int.toNat_natCast, mem_res hok hr ⟨p, hp, rfl⟩, e1]
theorem sum_total {L : List Pt} (hok : ∀ p ∈ L, p.ok) {r : Nat} (hr : r < 13) : ((cellsL L r).map (sumI L)).sum = sumV L := by
 have h := sum_split (fun p => ((p.w r : Nat) : Int)) (·.v) (cellsL L r) (cellsL_nodup L r) L fun p hp => cellsL_mem.2 ⟨p, hp, rfl⟩
 unfold sumV
 rw [← h]
 congr 1
 apply List.map_congr_left
 intro n hn
 obtain ⟨p, hp, rfl⟩ := cellsL_mem.1 hn
 unfold sumI sumV
 rw [Int.toNat_natCast, mem_res hok hr ⟨p, hp, rfl⟩]
theorem cnt_part (L : List Pt) (C : List Int) (i : Nat) : 0 ≤ ((C.take i).map (cntI L)).sum ∧ ((C.take i).map (cntI L)).sum ≤ (C.map (cntI L)).sum := by
 have nn : ∀ D : List Int, 0 ≤ (D.map (cntI L)).sum := fun D => by induction D with
  | nil => simp
  | cons a D ih => simp only [List.map_cons, List.sum_cons, cntI] at ih ⊢; omega
 refine ⟨nn _, ?_⟩
 conv => rhs; rw [← List.take_append_drop i C, List.map_append, List.sum_append]
 have := nn (C.drop i)
 omega
theorem sum_part {L : List Pt} (hok : ∀ p ∈ L, p.ok) : ∀ (D : List Int), -2147483648 * (D.map (cntI L)).sum ≤ (D.map (sumI L)).sum ∧ (D.map (sumI L)).sum ≤ 2147483648 * (D.map (cntI L)).sum
 | [] => by simp
 | a :: D => by
  have ih := sum_part hok D
  have hb := sum_bound (mem L a.toNat) fun p hp => hok p (List.mem_filter.1 hp).1
  simp only [List.map_cons, List.sum_cons, sumI, cntI] at ih ⊢
  omega
theorem take_sum {f : Int → Int} {C : List Int} {i : Nat} {n : Int} (h : C[i]? = some n) : ((C.take (i + 1)).map f).sum = ((C.take i).map f).sum + f n := by
 rw [List.take_add_one, h]
 simp
theorem lo_sum : ∀ (M : List Pt) (x : Int), (∀ q ∈ M, x ≤ q.v) → x * (M.length : Int) ≤ sumV M
 | [], x, _ => by simp [sumV]
 | p :: M, x, h => by
  have ih := lo_sum M x fun q hq => h q (by simp [hq])
  have := h p (by simp)
  simp only [sumV, List.map_cons, List.sum_cons, List.length_cons] at ih ⊢
  rw [Int.natCast_add, Int.mul_add]
  omega
theorem hi_sum : ∀ (M : List Pt) (x : Int), (∀ q ∈ M, q.v ≤ x) → sumV M ≤ x * (M.length : Int)
 | [], x, _ => by simp [sumV]
 | p :: M, x, h => by
  have ih := hi_sum M x fun q hq => h q (by simp [hq])
  have := h p (by simp)
  simp only [sumV, List.map_cons, List.sum_cons, List.length_cons] at ih ⊢
  rw [Int.natCast_add, Int.mul_add]
  omega

noncomputable def apiarylaw18_StatsOnce_pc : PC :=
  (.seq (.reg [p_s 4 (.mov (.c (.r (.v (.bool false)))))])
 (.seq (.seq (.reg [p_m 15 0, p_s 16 (.len false (.t 15)), p_s 17 (.bin .gtr (.t 16) (o_i 100))])
 (.cond (.t 17)
 (.seq (.reg [p_c 18 1 7 [], p_m 4 18])
 .ret)
 .skip))
 (.seq (.reg [p_m 19 0, p_c 20 2 8 [.t 19], p_m 5 20])
 (.seq (.reg [p_m 21 1, p_s 22 (.bin .rem (.t 21) (o_i 13)), p_s 23 (.bin .add (.t 22) (o_i 13)), p_s 24 (.bin .rem (.t 23) (o_i 13)), p_m 1 24])
 (.seq (.reg [p_m 25 5, p_c 26 3 9 [.t 25], p_m 6 26])
 (.seq (.seq (.reg [p_m 27 6, p_s 28 (.eqn false (.t 27))])
 (.cond (.t 28)
 (.seq (.reg [p_s 4 (.mov (.c (.r (.v (.bool false)))))])
 .ret)
 .skip))
 (.seq (.reg [p_s 7 (.mov (o_i 0)), p_s 8 (.mov (o_i 0)), p_s 9 (.mov (o_i 0))])
 (.seq (.reg [p_m 29 6, p_m 30 1, p_c 31 4 13 [.t 29, .t 30], p_m 10 31])
 (.seq (.seq (.reg [p_s 11 (.mov (o_i 0))])
 (.block 0 (.loop (.seq (.seq (.reg [p_m 32 11, p_m 33 10, p_s 34 (.len false (.t 33)), p_s 35 (.bin .lss (.t 32) (.t 34))])
 (.cond (.t 35)
 .skip
 (.exit 0)))
 (.seq (.block 1 (.seq (.reg [p_m 39 6, p_m 40 10, p_m 41 11, p_s 42 (.ia 1 (.v (.int .u64 0)) (.t 40) (.t 41)), p_s 43 (.ld none (.t 42)), p_c 44 5 15 [.t 39, .t 43], p_m 38 44, p_s 45 (.ext (.t 38) 0),
 p_s 46 (.ext (.t 38) 1), p_a 12 (.new [(.r (.v (.int .u64 0))), (.r (.v (.int .i64 0))), (.r (.v (.int .i64 0))), (.r (.v (.int .i64 0))), (.r (.v (.int .i64 0)))]),
 ⟨none, none, 0, .act (.st 5 (.t 12) (.t 45))⟩, p_m 13 46])
 (.seq (.seq (.drw [p_m 47 13, p_s 48 (.un .not (.t 47)), p_m 49 48, p_g 50 49 false (.fa 0 (.t 12)), p_g 51 49 false (.ld none (.t 50)), p_g 52 49 false (.mov (.t 10)), p_g 53 49 false (.mov (.t 11)),
 p_g 54 49 false (.ia 1 (.v (.int .u64 0)) (.t 52) (.t 53)), p_g 55 49 false (.ld none (.t 54)), p_g 56 49 false (.bin .neq (.t 51) (.t 55)), p_s 57 (.pick (.t 49) (.c (.r (.v (.bool true)))) (.t 56)),
 p_m 58 57, p_g 59 58 false (.fa 1 (.t 12)), p_g 60 58 false (.ld none (.t 59)), p_g 61 58 false (.bin .lss (.t 60) (o_i 1)), p_s 62 (.pick (.t 58) (.c (.r (.v (.bool true)))) (.t 61)),
 p_m 63 62, p_g 64 63 false (.fa 3 (.t 12)), p_g 65 63 false (.ld none (.t 64)), p_g 66 63 false (.fa 4 (.t 12)), p_g 67 63 false (.ld none (.t 66)), p_g 68 63 false (.bin .gtr (.t 65) (.t 67)),
 p_s 69 (.pick (.t 63) (.c (.r (.v (.bool true)))) (.t 68)), p_m 70 69, p_g 71 70 false (.fa 2 (.t 12)), p_g 72 70 false (.ld none (.t 71)), p_g 73 70 false (.fa 3 (.t 12)),
 p_g 74 70 false (.ld none (.t 73)), p_g 75 70 false (.fa 1 (.t 12)), p_g 76 70 false (.ld none (.t 75)), p_g 77 70 false (.bin .mul (.t 74) (.t 76)), p_g 78 70 false (.bin .lss (.t 72) (.t 77)),
 p_s 79 (.pick (.t 70) (.c (.r (.v (.bool true)))) (.t 78)), p_m 80 79, p_g 81 80 false (.fa 2 (.t 12)), p_g 82 80 false (.ld none (.t 81)), p_g 83 80 false (.fa 4 (.t 12)),
 p_g 84 80 false (.ld none (.t 83)), p_g 85 80 false (.fa 1 (.t 12)), p_g 86 80 false (.ld none (.t 85)), p_g 87 80 false (.bin .mul (.t 84) (.t 86)), p_g 88 80 false (.bin .gtr (.t 82) (.t 87)),
 p_s 89 (.pick (.t 80) (.c (.r (.v (.bool true)))) (.t 88)), p_m 90 89, p_g 91 90 false (.mov (.t 6)), p_g 92 90 false (.mov (.t 10)), p_g 93 90 false (.mov (.t 11)),
 p_g 94 90 false (.ia 1 (.v (.int .u64 0)) (.t 92) (.t 93)), p_g 95 90 false (.ld none (.t 94)), ⟨(some 96), (some (90, false)), 6, .call 17 [(.t 91), (.t 95)]⟩,
 p_g 97 90 false (.len false (.t 96)), p_g 98 90 false (.fa 1 (.t 12)), p_g 99 90 false (.ld none (.t 98)), p_g 100 90 false (.bin .neq (.t 97) (.t 99)), p_s 101 (.pick (.t 90) (.c (.r (.v (.bool true)))) (.t 100)),
 p_m 102 101, p_g 103 102 false (.mov (.t 11)), p_g 104 102 false (.bin .gtr (.t 103) (o_i 0)), p_g 105 102 false (.mov (.t 104)), p_g 106 105 true (.mov (.t 10)),
 p_g 107 105 true (.mov (.t 11)), p_g 108 105 true (.bin .sub (.t 107) (o_i 1)), p_g 109 105 true (.ia 1 (.v (.int .u64 0)) (.t 106) (.t 108)), p_g 110 105 true (.ld none (.t 109)),
 p_g 111 105 true (.mov (.t 10)), p_g 112 105 true (.mov (.t 11)), p_g 113 105 true (.ia 1 (.v (.int .u64 0)) (.t 111) (.t 112)), p_g 114 105 true (.ld none (.t 113)),
 p_g 115 105 true (.bin .geq (.t 110) (.t 114)), p_g 116 102 false (.pick (.t 105) (.t 115) (.c (.r (.v (.bool false))))), p_s 117 (.pick (.t 102) (.c (.r (.v (.bool true)))) (.t 116))]
 [[], [0], [0, 1], [0, 1, 2], [0, 1, 2, 3], [0, 1, 2], [0, 1, 2], [0, 1, 2, 5, 6], [0, 1, 2, 5, 6, 7], [0, 1, 2, 3, 4, 5, 6, 7, 8], [0, 1, 2, 3, 4, 5, 6, 7, 8, 9], [0, 1, 2, 3, 4, 5, 6, 7, 8, 9, 10], [0, 1, 2, 3, 4, 5, 6, 7, 8, 9, 10, 11], [0, 1, 2, 3, 4, 5, 6, 7, 8, 9, 10, 11, 12], [0, 1, 2, 3, 4, 5, 6, 7, 8, 9, 10, 11, 12, 13], [0, 1, 2, 3, 4, 5, 6, 7, 8, 9, 10, 11, 12, 13, 14], [0, 1, 2, 3, 4, 5, 6, 7, 8, 9, 10, 11, 12, 13, 14, 15], [0, 1, 2, 3, 4, 5, 6, 7, 8, 9, 10, 11, 12, 13, 14, 15, 16], [0, 1, 2, 3, 4, 5, 6, 7, 8, 9, 10, 11, 12, 13, 14, 15, 16, 17], [0, 1, 2, 3, 4, 5, 6, 7, 8, 9, 10, 11, 12, 13, 14, 15, 16], [0, 1, 2, 3, 4, 5, 6, 7, 8, 9, 10, 11, 12, 13, 14, 15, 16, 19], [0, 1, 2, 3, 4, 5, 6, 7, 8, 9, 10, 11, 12, 13, 14, 15, 16, 17, 18, 19, 20], [0, 1, 2, 3, 4, 5, 6, 7, 8, 9, 10, 11, 12, 13, 14, 15, 16, 17, 18, 19, 20, 21], [0, 1, 2, 3, 4, 5, 6, 7, 8, 9, 10, 11, 12, 13, 14, 15, 16, 17, 18, 19, 20, 21, 22], [0, 1, 2, 3, 4, 5, 6, 7, 8, 9, 10, 11, 12, 13, 14, 15, 16, 17, 18, 19, 20, 21, 22, 23], [0, 1, 2, 3, 4, 5, 6, 7, 8, 9, 10, 11, 12, 13, 14, 15, 16, 17, 18, 19, 20, 21, 22, 23, 24], [0, 1, 2, 3, 4, 5, 6, 7, 8, 9, 10, 11, 12, 13, 14, 15, 16, 17, 18, 19, 20, 21, 22, 23], [0, 1, 2, 3, 4, 5, 6, 7, 8, 9, 10, 11, 12, 13, 14, 15, 16, 17, 18, 19, 20, 21, 22, 23, 26], [0, 1, 2, 3, 4, 5, 6, 7, 8, 9, 10, 11, 12, 13, 14, 15, 16, 17, 18, 19, 20, 21, 22, 23], [0, 1, 2, 3, 4, 5, 6, 7, 8, 9, 10, 11, 12, 13, 14, 15, 16, 17, 18, 19, 20, 21, 22, 23, 28], [0, 1, 2, 3, 4, 5, 6, 7, 8, 9, 10, 11, 12, 13, 14, 15, 16, 17, 18, 19, 20, 21, 22, 23, 26, 27, 28, 29], [0, 1, 2, 3, 4, 5, 6, 7, 8, 9, 10, 11, 12, 13, 14, 15, 16, 17, 18, 19, 20, 21, 22, 23, 24, 25, 26, 27, 28, 29, 30], [0, 1, 2, 3, 4, 5, 6, 7, 8, 9, 10, 11, 12, 13, 14, 15, 16, 17, 18, 19, 20, 21, 22, 23, 24, 25, 26, 27, 28, 29, 30, 31], [0, 1, 2, 3, 4, 5, 6, 7, 8, 9, 10, 11, 12, 13, 14, 15, 16, 17, 18, 19, 20, 21, 22, 23, 24, 25, 26, 27, 28, 29, 30, 31, 32], [0, 1, 2, 3, 4, 5, 6, 7, 8, 9, 10, 11, 12, 13, 14, 15, 16, 17, 18, 19, 20, 21, 22, 23, 24, 25, 26, 27, 28, 29, 30, 31, 32, 33], [0, 1, 2, 3, 4, 5, 6, 7, 8, 9, 10, 11, 12, 13, 14, 15, 16, 17, 18, 19, 20, 21, 22, 23, 24, 25, 26, 27, 28, 29, 30, 31, 32, 33, 34], [0, 1, 2, 3, 4, 5, 6, 7, 8, 9, 10, 11, 12, 13, 14, 15, 16, 17, 18, 19, 20, 21, 22, 23, 24, 25, 26, 27, 28, 29, 30, 31, 32, 33], [0, 1, 2, 3, 4, 5, 6, 7, 8, 9, 10, 11, 12, 13, 14, 15, 16, 17, 18, 19, 20, 21, 22, 23, 24, 25, 26, 27, 28, 29, 30, 31, 32, 33, 36], [0, 1, 2, 3, 4, 5, 6, 7, 8, 9, 10, 11, 12, 13, 14, 15, 16, 17, 18, 19, 20, 21, 22, 23, 24, 25, 26, 27, 28, 29, 30, 31, 32, 33], [0, 1, 2, 3, 4, 5, 6, 7, 8, 9, 10, 11, 12, 13, 14, 15, 16, 17, 18, 19, 20, 21, 22, 23, 24, 25, 26, 27, 28, 29, 30, 31, 32, 33, 38], [0, 1, 2, 3, 4, 5, 6, 7, 8, 9, 10, 11, 12, 13, 14, 15, 16, 17, 18, 19, 20, 21, 22, 23, 24, 25, 26, 27, 28, 29, 30, 31, 32, 33, 36, 37, 38, 39], [0, 1, 2, 3, 4, 5, 6, 7, 8, 9, 10, 11, 12, 13, 14, 15, 16, 17, 18, 19, 20, 21, 22, 23, 24, 25, 26, 27, 28, 29, 30, 31, 32, 33, 34, 35, 36, 37, 38, 39, 40], [0, 1, 2, 3, 4, 5, 6, 7, 8, 9, 10, 11, 12, 13, 14, 15, 16, 17, 18, 19, 20, 21, 22, 23, 24, 25, 26, 27, 28, 29, 30, 31, 32, 33, 34, 35, 36, 37, 38, 39, 40, 41], [0, 1, 2, 3, 4, 5, 6, 7, 8, 9, 10, 11, 12, 13, 14, 15, 16, 17, 18, 19, 20, 21, 22, 23, 24, 25, 26, 27, 28, 29, 30, 31, 32, 33, 34, 35, 36, 37, 38, 39, 40, 41, 42], [0, 1, 2, 3, 4, 5, 6, 7, 8, 9, 10, 11, 12, 13, 14, 15, 16, 17, 18, 19, 20, 21, 22, 23, 24, 25, 26, 27, 28, 29, 30, 31, 32, 33, 34, 35, 36, 37, 38, 39, 40, 41, 42, 43], [0, 1, 2, 3, 4, 5, 6, 7, 8, 9, 10, 11, 12, 13, 14, 15, 16, 17, 18, 19, 20, 21, 22, 23, 24, 25, 26, 27, 28, 29, 30, 31, 32, 33, 34, 35, 36, 37, 38, 39, 40, 41, 42, 43], [0, 1, 2, 3, 4, 5, 6, 7, 8, 9, 10, 11, 12, 13, 14, 15, 16, 17, 18, 19, 20, 21, 22, 23, 24, 25, 26, 27, 28, 29, 30, 31, 32, 33, 34, 35, 36, 37, 38, 39, 40, 41, 42, 43], [0, 1, 2, 3, 4, 5, 6, 7, 8, 9, 10, 11, 12, 13, 14, 15, 16, 17, 18, 19, 20, 21, 22, 23, 24, 25, 26, 27, 28, 29, 30, 31, 32, 33, 34, 35, 36, 37, 38, 39, 40, 41, 42, 43, 45, 46], [0, 1, 2, 3, 4, 5, 6, 7, 8, 9, 10, 11, 12, 13, 14, 15, 16, 17, 18, 19, 20, 21, 22, 23, 24, 25, 26, 27, 28, 29, 30, 31, 32, 33, 34, 35, 36, 37, 38, 39, 40, 41, 42, 43, 45, 46, 47], [0, 1, 2, 3, 4, 5, 6, 7, 8, 9, 10, 11, 12, 13, 14, 15, 16, 17, 18, 19, 20, 21, 22, 23, 24, 25, 26, 27, 28, 29, 30, 31, 32, 33, 34, 35, 36, 37, 38, 39, 40, 41, 42, 43, 44, 45, 46, 47, 48], [0, 1, 2, 3, 4, 5, 6, 7, 8, 9, 10, 11, 12, 13, 14, 15, 16, 17, 18, 19, 20, 21, 22, 23, 24, 25, 26, 27, 28, 29, 30, 31, 32, 33, 34, 35, 36, 37, 38, 39, 40, 41, 42, 43, 44, 45, 46, 47, 48, 49], [0, 1, 2, 3, 4, 5, 6, 7, 8, 9, 10, 11, 12, 13, 14, 15, 16, 17, 18, 19, 20, 21, 22, 23, 24, 25, 26, 27, 28, 29, 30, 31, 32, 33, 34, 35, 36, 37, 38, 39, 40, 41, 42, 43], [0, 1, 2, 3, 4, 5, 6, 7, 8, 9, 10, 11, 12, 13, 14, 15, 16, 17, 18, 19, 20, 21, 22, 23, 24, 25, 26, 27, 28, 29, 30, 31, 32, 33, 34, 35, 36, 37, 38, 39, 40, 41, 42, 43, 51], [0, 1, 2, 3, 4, 5, 6, 7, 8, 9, 10, 11, 12, 13, 14, 15, 16, 17, 18, 19, 20, 21, 22, 23, 24, 25, 26, 27, 28, 29, 30, 31, 32, 33, 34, 35, 36, 37, 38, 39, 40, 41, 42, 43, 44, 45, 46, 47, 48, 49, 50, 51, 52], [0, 1, 2, 3, 4, 5, 6, 7, 8, 9, 10, 11, 12, 13, 14, 15, 16, 17, 18, 19, 20, 21, 22, 23, 24, 25, 26, 27, 28, 29, 30, 31, 32, 33, 34, 35, 36, 37, 38, 39, 40, 41, 42, 43, 44, 45, 46, 47, 48, 49, 50, 51, 52, 53], [0, 1, 2, 3, 4, 5, 6, 7, 8, 9, 10, 11, 12, 13, 14, 15, 16, 17, 18, 19, 20, 21, 22, 23, 24, 25, 26, 27, 28, 29, 30, 31, 32, 33, 34, 35, 36, 37, 38, 39, 40, 41, 42, 43, 44, 45, 46, 47, 48, 49, 50, 51, 52, 53, 54], [0, 1, 2, 3, 4, 5, 6, 7, 8, 9, 10, 11, 12, 13, 14, 15, 16, 17, 18, 19, 20, 21, 22, 23, 24, 25, 26, 27, 28, 29, 30, 31, 32, 33, 34, 35, 36, 37, 38, 39, 40, 41, 42, 43, 44, 45, 46, 47, 48, 49, 50, 51, 52, 53, 54, 55], [0, 1, 2, 3, 4, 5, 6, 7, 8, 9, 10, 11, 12, 13, 14, 15, 16, 17, 18, 19, 20, 21, 22, 23, 24, 25, 26, 27, 28, 29, 30, 31, 32, 33, 34, 35, 36, 37, 38, 39, 40, 41, 42, 43, 44, 45, 46, 47, 48, 49, 50, 51, 52, 53, 54, 55, 56], [0, 1, 2, 3, 4, 5, 6, 7, 8, 9, 10, 11, 12, 13, 14, 15, 16, 17, 18, 19, 20, 21, 22, 23, 24, 25, 26, 27, 28, 29, 30, 31, 32, 33, 34, 35, 36, 37, 38, 39, 40, 41, 42, 43, 44, 45, 46, 47, 48, 49, 50, 51, 52, 53, 54, 55, 56, 57], [0, 1, 2, 3, 4, 5, 6, 7, 8, 9, 10, 11, 12, 13, 14, 15, 16, 17, 18, 19, 20, 21, 22, 23, 24, 25, 26, 27, 28, 29, 30, 31, 32, 33, 34, 35, 36, 37, 38, 39, 40, 41, 42, 43, 44, 45, 46, 47, 48, 49, 50, 51, 52, 53, 54, 55, 56, 57, 58], [0, 1, 2, 3, 4, 5, 6, 7, 8, 9, 10, 11, 12, 13, 14, 15, 16, 17, 18, 19, 20, 21, 22, 23, 24, 25, 26, 27, 28, 29, 30, 31, 32, 33, 34, 35, 36, 37, 38, 39, 40, 41, 42, 43, 44, 45, 46, 47, 48, 49, 50, 51, 52, 53, 54, 55, 56, 57, 58], [0, 1, 2, 3, 4, 5, 6, 7, 8, 9, 10, 11, 12, 13, 14, 15, 16, 17, 18, 19, 20, 21, 22, 23, 24, 25, 26, 27, 28, 29, 30, 31, 32, 33, 34, 35, 36, 37, 38, 39, 40, 41, 42, 43, 44, 45, 46, 47, 48, 49, 50, 51, 52, 53, 54, 55, 56, 57, 58, 60], [0, 1, 2, 3, 4, 5, 6, 7, 8, 9, 10, 11, 12, 13, 14, 15, 16, 17, 18, 19, 20, 21, 22, 23, 24, 25, 26, 27, 28, 29, 30, 31, 32, 33, 34, 35, 36, 37, 38, 39, 40, 41, 42, 43, 44, 45, 46, 47, 48, 49, 50, 51, 52, 53, 54, 55, 56, 57, 58, 59, 60, 61], [0, 1, 2, 3, 4, 5, 6, 7, 8, 9, 10, 11, 12, 13, 14, 15, 16, 17, 18, 19, 20, 21, 22, 23, 24, 25, 26, 27, 28, 29, 30, 31, 32, 33, 34, 35, 36, 37, 38, 39, 40, 41, 42, 43, 44, 45, 46, 47, 48, 49, 50, 51, 52, 53, 54, 55, 56, 57, 58, 59, 60, 61, 62], [0, 1, 2, 3, 4, 5, 6, 7, 8, 9, 10, 11, 12, 13, 14, 15, 16, 17, 18, 19, 20, 21, 22, 23, 24, 25, 26, 27, 28, 29, 30, 31, 32, 33, 34, 35, 36, 37, 38, 39, 40, 41, 42, 43, 44, 45, 46, 47, 48, 49, 50, 51, 52, 53, 54, 55, 56, 57, 58], [0, 1, 2, 3, 4, 5, 6, 7, 8, 9, 10, 11, 12, 13, 14, 15, 16, 17, 18, 19, 20, 21, 22, 23, 24, 25, 26, 27, 28, 29, 30, 31, 32, 33, 34, 35, 36, 37, 38, 39, 40, 41, 42, 43, 44, 45, 46, 47, 48, 49, 50, 51, 52, 53, 54, 55, 56, 57, 58], [0, 1, 2, 3, 4, 5, 6, 7, 8, 9, 10, 11, 12, 13, 14, 15, 16, 17, 18, 19, 20, 21, 22, 23, 24, 25, 26, 27, 28, 29, 30, 31, 32, 33, 34, 35, 36, 37, 38, 39, 40, 41, 42, 43, 44, 45, 46, 47, 48, 49, 50, 51, 52, 53, 54, 55, 56, 57, 58, 64, 65], [0, 1, 2, 3, 4, 5, 6, 7, 8, 9, 10, 11, 12, 13, 14, 15, 16, 17, 18, 19, 20, 21, 22, 23, 24, 25, 26, 27, 28, 29, 30, 31, 32, 33, 34, 35, 36, 37, 38, 39, 40, 41, 42, 43, 44, 45, 46, 47, 48, 49, 50, 51, 52, 53, 54, 55, 56, 57, 58, 64, 65, 66], [0, 1, 2, 3, 4, 5, 6, 7, 8, 9, 10, 11, 12, 13, 14, 15, 16, 17, 18, 19, 20, 21, 22, 23, 24, 25, 26, 27, 28, 29, 30, 31, 32, 33, 34, 35, 36, 37, 38, 39, 40, 41, 42, 43, 44, 45, 46, 47, 48, 49, 50, 51, 52, 53, 54, 55, 56, 57, 58, 59, 60, 61, 62, 63, 64, 65, 66, 67], [0, 1, 2, 3, 4, 5, 6, 7, 8, 9, 10, 11, 12, 13, 14, 15, 16, 17, 18, 19, 20, 21, 22, 23, 24, 25, 26, 27, 28, 29, 30, 31, 32, 33, 34, 35, 36, 37, 38, 39, 40, 41, 42, 43, 44, 45, 46, 47, 48, 49, 50, 51, 52, 53, 54, 55, 56, 57, 58, 59, 60, 61, 62, 63, 64, 65, 66, 67, 68], [0, 1, 2, 3, 4, 5, 6, 7, 8, 9, 10, 11, 12, 13, 14, 15, 16, 17, 18, 19, 20, 21, 22, 23, 24, 25, 26, 27, 28, 29, 30, 31, 32, 33, 34, 35, 36, 37, 38, 39, 40, 41, 42, 43, 44, 45, 46, 47, 48, 49, 50, 51, 52, 53, 54, 55, 56, 57, 58, 59, 60, 61, 62, 63, 64, 65, 66, 67, 68, 69]])
 (.cond (.t 117)
 (.seq (.reg [p_s 4 (.mov (.c (.r (.v (.bool false)))))])
 .ret)
 .skip))
 (.drw [p_m 118 7, p_s 119 (.fa 1 (.t 12)), p_s 120 (.ld none (.t 119)), p_s 121 (.bin .add (.t 118) (.t 120)), p_m 122 8, p_s 123 (.fa 2 (.t 12)), p_s 124 (.ld none (.t 123)),
 p_s 125 (.bin .add (.t 122) (.t 124)), p_m 7 121, p_m 8 125]
 [[], [], [1], [0, 1, 2], [], [], [5], [4, 5, 6], [0, 1, 2, 3], [0, 1, 2, 3, 4, 5, 6, 7, 8]]))))
 (.reg [p_m 36 11, p_s 37 (.bin .add (.t 36) (o_i 1)), p_m 11 37]))))))
 (.seq (.seq (.reg [p_s 14 (.mov (o_i 0))])
 (.block 2 (.loop (.seq (.seq (.reg [p_m 126 14, p_m 127 5, p_s 128 (.len false (.t 127)), p_s 129 (.bin .lss (.t 126) (.t 128))])
 (.cond (.t 129)
 .skip
 (.exit 2)))
 (.seq (.block 3 (.reg [p_m 132 9, p_m 133 5, p_m 134 14, p_s 135 (.ia 4 (.agg [(.v (.int .i64 0)), (.v (.int .i64 0)), (.v (.int .i64 0)), (.v (.int .i64 0))]) (.t 133) (.t 134)), p_s 136 (.fa 3 (.t 135)),
 p_s 137 (.ld none (.t 136)), p_s 138 (.bin .add (.t 132) (.t 137)), p_m 9 138]))
 (.reg [p_m 130 14, p_s 131 (.bin .add (.t 130) (o_i 1)), p_m 14 131]))))))
 (.seq (.reg [p_m 139 7, p_m 140 5, p_s 141 (.len false (.t 140)), p_s 142 (.bin .eql (.t 139) (.t 141)), p_m 143 142, p_g 144 143 true (.mov (.t 8)), p_g 145 143 true (.mov (.t 9)),
 p_g 146 143 true (.bin .eql (.t 144) (.t 145)), p_s 147 (.pick (.t 143) (.t 146) (.c (.r (.v (.bool false))))), p_m 148 147, p_g 149 148 true (.mov (.t 6)), ⟨(some 150), (some (148, true)), 7, .call 18 [(.t 149)]⟩,
 p_g 151 148 true (.mov (.t 5)), p_g 152 148 true (.len false (.t 151)), p_g 153 148 true (.bin .eql (.t 150) (.t 152)), p_s 154 (.pick (.t 148) (.t 153) (.c (.r (.v (.bool false))))),
 p_m 155 154, ⟨(some 156), (some (155, true)), 8, .call 7 []⟩, p_s 157 (.pick (.t 155) (.t 156) (.c (.r (.v (.bool false))))), p_m 4 157])
 .ret)))))))))))
theorem apiarylaw18_StatsOnce_triple : Fun Go.Proofs.Tryz.prog 4 2 [(4, false, none)] apiarylaw18_StatsOnce_pc := fun_mk Go.Proofs.Tryz.func4 rfl (by decide) (by kernel_rfl) (by decide) rfl (by kernel_rfl) (by kernel_rfl) (by decide)
theorem rw64_any (ws : List Int) (k : Nat) : ∃ x : Int, (rw64 ws).getD k (.v (.int .u64 0)) = .v (.int .u64 x) := by
 rw [List.getD_eq_getElem?_getD]
 unfold rw64
 rw [List.getElem?_map]
 cases ws[k]? with
 | none => exact ⟨0, rfl⟩
 | some x => exact ⟨x, rfl⟩
set_option maxHeartbeats 4000000 in
theorem once_t (xs : List Int) (hx : ∀ x ∈ xs, -9223372036854775808 ≤ x ∧ x ≤ 9223372036854775807) (r : Int) :
  Triple Go.Proofs.Tryz.prog 4 [.r (i64s xs), int .i64 r] [] (bl true) [] := by
 refine apiarylaw18_StatsOnce_triple rfl (by decide) ?_
 obtain ⟨R, hR, eR⟩ := r13 r
 have hgp : GP (genL xs []) := genL_gp xs [] (by simp [GP])
 have hle := genL_le xs [] (by decide)
 have hPt := points_t xs hx
 by_cases h100 : xs.length > 100
 ·have e1 : decide ((xs.length : Int) > 100) = true := by simp; omega
  simp only [apiarylaw18_StatsOnce_pc, i64s, List.length_map, e1, List.length_nil, push_cast, ↓reduceIte, reduceCtorEq, Nat.reduceBEq, reduceEqDiff, reduceAdd, reduceSub, reduceLT, reduceLeDiff, reduceMul]
  refine call_mk awake_t rfl trivial ?_
  simp only [push_cast, ↓reduceIte, reduceCtorEq, Nat.reduceBEq, reduceEqDiff, reduceAdd, reduceSub, reduceLT, reduceLeDiff, reduceMul]
 have e1 : decide ((xs.length : Int) > 100) = false := by simp; omega
 simp only [apiarylaw18_StatsOnce_pc, i64s, List.length_map, e1, List.length_nil, push_cast, ↓reduceIte, reduceCtorEq, Nat.reduceBEq, reduceEqDiff, reduceAdd, reduceSub, reduceLT, reduceLeDiff, reduceMul]
 refine call_as (as' := [.r (i64s xs)]) rfl ?_
 refine call_mk hPt rfl trivial ?_
 generalize hG : genL xs [] = l at *
 have hlen0 : l.length ≤ 40 := hle
 have hok : ∀ p ∈ l, p.ok := fun p hp => by
  obtain ⟨j, hj⟩ := List.getElem?_of_mem hp
  exact (hgp j p hj).2
 simp only [eR, push_cast, ↓reduceIte, reduceCtorEq, Nat.reduceBEq, reduceEqDiff, reduceAdd, reduceSub, reduceLT, reduceLeDiff, reduceMul]
 repeat refine And.intro (by first | decide | omega | exact fun _ => by decide | (simp +contextual; done) | kernel_rfl) ?_
 have hO := of_t l (by omega)
 rw [gp_of hgp (by omega)] at hO
 refine callA_lend ?_
 simp only [push_cast, ↓reduceIte, reduceCtorEq, Nat.reduceBEq, reduceEqDiff, reduceAdd, reduceSub, reduceLT, reduceLeDiff, reduceMul]
 refine call_lend hO rfl trivial (by simp [Flat]) (by simp [FlatO]) ?_
 simp only [eR, push_cast, ↓reduceIte, reduceCtorEq, Nat.reduceBEq, reduceEqDiff, reduceAdd, reduceSub, reduceLT, reduceLeDiff, reduceMul]
 have hca := cells_a l (by omega) R hR
 have ctot := cnt_total hok hR
 have stot := sum_total hok hR
 have hClt := fun i a b h1 h2 => cellsL_lt l R (i := i) (a := a) (b := b) h1 h2
 have hCat := fun i n h => cellsL_at (L := l) (r := R) (i := i) (n := n) h
 have hCl : (cellsL l R).length ≤ 40 := Nat.le_trans (cellsL_len l R) hle
 generalize cellsL l R = C at *
 refine call_mk hca rfl ⟨rfl, trivial⟩ ?_
 simp only [rowU, push_cast, ↓reduceIte, reduceCtorEq, Nat.reduceBEq, reduceEqDiff, reduceAdd, reduceSub, reduceLT, reduceLeDiff, reduceMul]
 refine run_loop [(11, false), (1, false), (5, false), (6, false), (7, false), (8, false), (9, false), (10, false)] (fun vs pos los => ∃ i : Nat, i ≤ C.length ∧
   vs = [int .i64 i, int .i64 R, .own 2000000 0 0 l.length, .ptr 2000001 0 0, int .i64 ((C.take i).map (cntI l)).sum, int .i64 ((C.take i).map (sumI l)).sum, int .i64 0, .own 2000002 0 0 C.length] ∧ pos = [] ∧
   los = [.row 4 (Pt.rv ⟨0, 0, 0, 0⟩) true true (l.map Pt.rv), .abs (sT l), rowU C])
  (fun vs _ _ => match vs with | .r (.v (.int _ i)) :: _ => (C.length - i).toNat | _ => 0) rfl ?_ ?_
 ·simp only [rowU, push_cast, ↓reduceIte, reduceCtorEq, Nat.reduceBEq, reduceEqDiff, reduceAdd, reduceSub, reduceLT, reduceLeDiff, reduceMul]
  exact ⟨0, by omega, by simp⟩
 ·rintro vs pos los ⟨i, hi, rfl, rfl, rfl⟩
  simp only [rowU, push_cast, ↓reduceIte, reduceCtorEq, Nat.reduceBEq, reduceEqDiff, reduceAdd, reduceSub, reduceLT, reduceLeDiff, reduceMul]
  refine cnd_mk (fun h => ?_) (fun h => ?_)
  ·have hi' : i < C.length := by simpa using h
   obtain ⟨n, hn⟩ : ∃ n, C[i]? = some n := ⟨C[i], by simp [hi']⟩
   obtain ⟨w, rfl, hpw⟩ := hCat i n hn
   have hm1 := mem_ne hR hpw
   have c1 := cell_yes l w hm1
   have p1 := pts_a l w hm1
   have wk : IntKind.i64.wrap ((i : Int) + 1) = (i : Int) + 1 := wrap_id (by omega)
   have t1 := take_sum (f := cntI l) hn
   have t2 := take_sum (f := sumI l) hn
   have b1 := cnt_part l C i
   have b1' := cnt_part l C (i + 1)
   have b2 := sum_part hok (C.take i)
   have b2' := sum_part hok (C.take (i + 1))
   rw [ctot] at b1 b1'
   have q1 : cntI l w = (mem l w).length := by unfold cntI; rw [Int.toNat_natCast]
   have q2 : sumI l w = sumV (mem l w) := by unfold sumI; rw [Int.toNat_natCast]
   rw [q1] at t1
   rw [q2] at t2
   have hmp := List.length_pos_iff.2 hm1
   have hml : (mem l w).length ≤ 40 := Nat.le_trans (List.length_filter_le ..) hle
   obtain ⟨⟨qlo, hqlo, elo⟩, hlo⟩ := loV_is hm1
   obtain ⟨⟨qhi, hqhi, ehi⟩, hhi⟩ := hiV_is hm1
   have ls := lo_sum (mem l w) _ hlo
   have hs := hi_sum (mem l w) _ hhi
   have blo := (hok _ (List.mem_filter.1 hqlo).1).2.2
   have bhi := (hok _ (List.mem_filter.1 hqhi).1).2.2
   have hlh := hlo _ hqhi
   rw [elo] at blo
   rw [ehi] at bhi hlh
   have hpl := ptsL_len l w
   generalize hLO : loV (mem l w) = lo at *
   generalize hHI : hiV (mem l w) = hiv at *
   generalize hSU : sumV (mem l w) = su at *
   generalize hCN : (mem l w).length = cn at *
   rw [hpl] at p1
   have m1 : -2147483648 * (cn : Int) ≤ lo * cn := Int.mul_le_mul_of_nonneg_right (by omega) (by omega)
   have m2 : hiv * cn ≤ 2147483648 * (cn : Int) := Int.mul_le_mul_of_nonneg_right (by omega) (by omega)
   have w1 : IntKind.i64.wrap (lo * cn) = lo * cn := wrap_id (by omega)
   have w2 : IntKind.i64.wrap (hiv * cn) = hiv * cn := wrap_id (by omega)
   have f1 : ((w : Int) != w) = false := by simp
   have f2 : decide ((cn : Int) < 1) = false := by simp; omega
   have f3 : decide (lo > hiv) = false := by simp; omega
   have f4 : decide (su < lo * cn) = false := by simp; omega
   have f5 : decide (su > hiv * cn) = false := by simp; omega
   have f6 : ((cn : Int) != cn) = false := by simp
   have w3 : IntKind.i64.wrap (((C.take i).map (cntI l)).sum + cn) = ((C.take (i + 1)).map (cntI l)).sum := by rw [t1, wrap_id (by omega)]
   have w4 : IntKind.i64.wrap (((C.take i).map (sumI l)).sum + su) = ((C.take (i + 1)).map (sumI l)).sum := by rw [t2, wrap_id (by omega)]
   simp only [rw64_get hn, rw64_get0 hn, rowU, rw64_len, push_cast, ↓reduceIte, reduceCtorEq, Nat.reduceBEq, reduceEqDiff, reduceAdd, reduceSub, reduceLT, reduceLeDiff, reduceMul]
   repeat refine And.intro (by first | decide | omega | exact fun _ => by decide | (simp +contextual; done) | kernel_rfl) ?_
   refine call_mk c1 rfl ⟨rfl, trivial⟩ ?_
   simp only [rw64_get hn, rw64_get0 hn, rowU, rw64_len, f1, f2, f3, f4, f5, f6, w1, w2, push_cast, ↓reduceIte, reduceCtorEq, Nat.reduceBEq, reduceEqDiff, reduceAdd, reduceSub, reduceLT, reduceLeDiff, reduceMul]
   repeat refine And.intro (by first | decide | omega | exact fun _ => by decide | (simp +contextual; done) | kernel_rfl) ?_
   refine dcall_mk p1 rfl ⟨rfl, trivial⟩ ?_
   simp only [rw64_get hn, rw64_get0 hn, rowU, rw64_len, z64, ids_len, hpl, f1, f2, f3, f4, f5, f6, w1, w2, push_cast, ↓reduceIte, reduceCtorEq, Nat.reduceBEq, reduceEqDiff, reduceAdd, reduceSub, reduceLT, reduceLeDiff, reduceMul]
   have fin : ∃ i' : Nat, i' ≤ C.length ∧ (i : Int) + 1 = i' ∧ ((C.take (i + 1)).map (cntI l)).sum = ((C.take i').map (cntI l)).sum ∧ ((C.take (i + 1)).map (sumI l)).sum = ((C.take i').map (sumI l)).sum := ⟨i + 1, by omega, by simp, rfl, rfl⟩
   by_cases h0 : i = 0
   ·have g0 : decide ((i : Int) > 0) = false := by rw [decide_eq_false_iff_not]; omega
    obtain ⟨x0, hx0⟩ := rw64_any C (0 + (IntKind.i64.wrap ((i : Int) - 1)).toNat)
    obtain ⟨x1, hx1⟩ := rw64_any C (IntKind.i64.wrap ((i : Int) - 1)).toNat
    simp only [g0, hx0, hx1, rw64_get hn, rw64_get0 hn, rowU, rw64_len, z64, ids_len, hpl, f1, f2, f3, f4, f5, f6, w1, w2, w3, w4, wk, push_cast, ↓reduceIte, reduceCtorEq, Nat.reduceBEq, reduceEqDiff, reduceAdd, reduceSub, reduceLT, reduceLeDiff, reduceMul]
    repeat refine And.intro (by first | decide | omega | exact fun _ => by decide | (simp +contextual; done) | kernel_rfl) ?_
    exact ⟨⟨i + 1, by omega, by simp⟩, by omega⟩
   ·obtain ⟨j, hj⟩ : ∃ j, i = j + 1 := ⟨i - 1, by omega⟩
    obtain ⟨n0, hn0⟩ : ∃ n0, C[j]? = some n0 := ⟨C[j]'(by omega), by simp [show j < C.length by omega]⟩
    have g0 : decide ((i : Int) > 0) = true := by rw [decide_eq_true_eq]; omega
    have wj : IntKind.i64.wrap ((i : Int) - 1) = (j : Int) := by rw [wrap_id (by omega)]; omega
    have hlt := hClt j n0 w hn0 (by rw [← hj]; exact hn)
    have g1 : decide (n0 ≥ (w : Int)) = false := by simp; omega
    simp only [g0, g1, wj, rw64_get hn, rw64_get0 hn, rw64_get hn0, rw64_get0 hn0, rowU, rw64_len, z64, ids_len, hpl, f1, f2, f3, f4, f5, f6, w1, w2, w3, w4, wk, push_cast, ↓reduceIte, reduceCtorEq, Nat.reduceBEq, reduceEqDiff, reduceAdd, reduceSub, reduceLT, reduceLeDiff, reduceMul]
    repeat refine And.intro (by first | decide | omega | exact fun _ => by decide | (simp +contextual; done) | kernel_rfl) ?_
    exact ⟨⟨i + 1, by omega, by simp⟩, by omega⟩
  ·have hi2 : i = C.length := by
    have : ¬ i < C.length := by simpa using h
    omega
   rw [hi2, List.take_length, ctot, stot]
   simp only [rowU, push_cast, ↓reduceIte, reduceCtorEq, Nat.reduceBEq, reduceEqDiff, reduceAdd, reduceSub, reduceLT, reduceLeDiff, reduceMul]
   refine run_loop [(14, false), (5, false), (6, false), (7, false), (8, false), (9, false)] (fun vs pos los => ∃ k : Nat, k ≤ l.length ∧
     vs = [int .i64 k, .own 2000000 0 0 l.length, .ptr 2000001 0 0, int .i64 l.length, int .i64 (sumV l), int .i64 (sumV (l.take k))] ∧ pos = [] ∧
     los = [.row 4 (Pt.rv ⟨0, 0, 0, 0⟩) true true (l.map Pt.rv), .abs (sT l)])
    (fun vs _ _ => match vs with | .r (.v (.int _ k)) :: _ => (l.length - k).toNat | _ => 0) rfl ?_ ?_
   ·simp only [push_cast, ↓reduceIte, reduceCtorEq, Nat.reduceBEq, reduceEqDiff, reduceAdd, reduceSub, reduceLT, reduceLeDiff, reduceMul]
    exact ⟨0, by omega, by simp [sumV]⟩
   ·rintro vs pos los ⟨k, hk, rfl, rfl, rfl⟩
    simp only [push_cast, ↓reduceIte, reduceCtorEq, Nat.reduceBEq, reduceEqDiff, reduceAdd, reduceSub, reduceLT, reduceLeDiff, reduceMul]
    refine cnd_mk (fun h => ?_) (fun h => ?_)
    ·have hk' : k < l.length := by simpa using h
     obtain ⟨q, hq⟩ : ∃ q, l[k]? = some q := ⟨l[k], by simp [hk']⟩
     have gq : ∀ z, (l.map Pt.rv).getD ((k : Int)).toNat z = .agg [.v (.int .i64 q.k), .v (.int .i64 q.x), .v (.int .i64 q.y), .v (.int .i64 q.v)] := pts_get hq
     have gq' : ∀ z, (l.map Pt.rv).getD (0 + ((k : Int)).toNat) z = .agg [.v (.int .i64 q.k), .v (.int .i64 q.x), .v (.int .i64 q.y), .v (.int .i64 q.v)] := fun z => by rw [Nat.zero_add]; exact gq z
     have wk : IntKind.i64.wrap ((k : Int) + 1) = (k : Int) + 1 := wrap_id (by omega)
     have hb := sum_bound (l.take k) fun p hp => hok p (List.mem_of_mem_take hp)
     have hqv := (hok q (List.mem_of_getElem? hq)).2.2
     have hts : sumV (l.take (k + 1)) = sumV (l.take k) + q.v := by
      unfold sumV
      rw [List.take_add_one, hq]
      simp
     have htl : (l.take k).length ≤ 40 := by simp; omega
     have w5 : IntKind.i64.wrap (sumV (l.take k) + q.v) = sumV (l.take (k + 1)) := by rw [hts, wrap_id (by omega)]
     simp only [gq, gq', wk, w5, push_cast, ↓reduceIte, reduceCtorEq, Nat.reduceBEq, reduceEqDiff, reduceAdd, reduceSub, reduceLT, reduceLeDiff, reduceMul]
     repeat refine And.intro (by first | decide | omega | exact fun _ => by decide | (simp +contextual; done) | kernel_rfl) ?_
     exact ⟨⟨k + 1, by omega, by simp⟩, by omega⟩
    ·have hk2 : k = l.length := by
      have : ¬ k < l.length := by simpa using h
      omega
     rw [hk2, List.take_length]
     have e1 : ((l.length : Int) == l.length) = true := by simp
     have e2 : (sumV l == sumV l) = true := by simp
     simp only [e1, e2, push_cast, ↓reduceIte, reduceCtorEq, Nat.reduceBEq, reduceEqDiff, reduceAdd, reduceSub, reduceLT, reduceLeDiff, reduceMul]
     refine call_mk (len_a l) rfl ⟨rfl, trivial⟩ ?_
     simp only [e1, e2, push_cast, ↓reduceIte, reduceCtorEq, Nat.reduceBEq, reduceEqDiff, reduceAdd, reduceSub, reduceLT, reduceLeDiff, reduceMul]
     refine call_mk awake_t rfl trivial ?_
     simp only [push_cast, ↓reduceIte, reduceCtorEq, Nat.reduceBEq, reduceEqDiff, reduceAdd, reduceSub, reduceLT, reduceLeDiff, reduceMul]

end Go.Ev
