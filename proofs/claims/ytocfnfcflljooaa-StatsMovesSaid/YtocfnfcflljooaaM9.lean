import Derived.Test.YtocfnfcflljooaaM8
namespace Go.Ev
open Go
set_option linter.unusedSectionVars false
set_option linter.unnecessarySimpa false
set_option linter.unusedSimpArgs false
set_option linter.unusedVariables false
noncomputable def stats_Stats_Put_pc : PC :=
  (.seq (.reg [⟨(some 3), none, 0, .act (.box (.t 1))⟩,
    ⟨(some 4), none, 0, .see (.mov (.c (.r (.v (.bool false)))))⟩])
  (.seq (.drw [⟨(some 11), none, 0, .see (.mov (.t 0))⟩,
    ⟨(some 12), none, 0, .see (.nck (.t 11))⟩,
    ⟨(some 13), none, 0, .see (.fa 0 (.t 12))⟩,
    ⟨(some 14), none, 0, .see (.ld none (.t 13))⟩,
    ⟨(some 15), none, 0, .see (.fa 0 (.t 3))⟩,
    ⟨(some 16), none, 0, .see (.ld none (.t 15))⟩,
    ⟨(some 17), none, 0, .see (.lkp false (.agg [(.v (.int .i64 0)), (.v (.int .i64 0)), (.v (.int .i64 0)), (.v (.int .i64 0))]) true (.t 14) (.t 16))⟩,
    ⟨(some 10), none, 0, .see (.mov (.t 17))⟩,
    ⟨(some 18), none, 0, .see (.ext (.t 10) 0)⟩,
    ⟨(some 19), none, 0, .see (.ext (.t 10) 1)⟩,
    ⟨(some 5), none, 0, .act (.new [(.r (.v (.int .i64 0))), (.r (.v (.int .i64 0))), (.r (.v (.int .i64 0))), (.r (.v (.int .i64 0)))])⟩,
    ⟨none, none, 0, .act (.st 4 (.t 5) (.t 18))⟩,
    ⟨(some 6), none, 0, .see (.mov (.t 19))⟩]
    [[], [0], [0, 1], [0, 1, 2], [], [4], [0, 1, 2, 3, 4, 5], [0, 1, 2, 3, 4, 5, 6], [0, 1, 2, 3, 4, 5, 6, 7], [0, 1, 2, 3, 4, 5, 6, 7], [], [0, 1, 2, 3, 4, 5, 6, 7, 8, 10], [0, 1, 2, 3, 4, 5, 6, 7, 8, 9, 10, 11]])
  (.seq (.seq (.reg [⟨(some 20), none, 0, .see (.ld (some 4) (.t 3))⟩,
    ⟨(some 21), none, 1, .call 15 [(.t 20)]⟩,
    ⟨(some 22), none, 0, .see (.un .not (.t 21))⟩,
    ⟨(some 23), none, 0, .see (.mov (.t 22))⟩,
    ⟨(some 24), (some (23, false)), 0, .see (.mov (.t 6))⟩,
    ⟨(some 25), (some (23, false)), 0, .see (.un .not (.t 24))⟩,
    ⟨(some 26), (some (23, false)), 0, .see (.mov (.t 25))⟩,
    ⟨(some 27), (some (26, true)), 0, .see (.mov (.t 0))⟩,
    ⟨(some 28), (some (26, true)), 0, .see (.nck (.t 27))⟩,
    ⟨(some 29), (some (26, true)), 0, .see (.fa 0 (.t 28))⟩,
    ⟨(some 30), (some (26, true)), 0, .see (.ld none (.t 29))⟩,
    ⟨(some 31), (some (26, true)), 0, .see (.lenm (.t 30))⟩,
    ⟨(some 32), (some (26, true)), 0, .see (.bin .geq (.t 31) (.c (.r (.v (.int .i64 2000)))))⟩,
    ⟨(some 33), (some (23, false)), 0, .see (.pick (.t 26) (.t 32) (.c (.r (.v (.bool false)))))⟩,
    ⟨(some 34), none, 0, .see (.pick (.t 23) (.c (.r (.v (.bool true)))) (.t 33))⟩])
  (.cond (.t 34)
    (.seq (.reg [⟨(some 4), none, 0, .see (.mov (.c (.r (.v (.bool false)))))⟩])
    .ret)
    .skip))
  (.seq (.reg [⟨(some 35), none, 0, .see (.mov (.t 0))⟩,
    ⟨(some 36), none, 0, .see (.fa 0 (.t 3))⟩,
    ⟨(some 37), none, 0, .see (.ld none (.t 36))⟩,
    ⟨(some 38), none, 2, .call 8 [(.t 35), (.t 37)]⟩])
  (.seq (.drw [⟨(some 39), none, 0, .see (.mov (.t 0))⟩,
    ⟨(some 40), none, 0, .see (.nck (.t 39))⟩,
    ⟨(some 41), none, 0, .see (.fa 0 (.t 40))⟩,
    ⟨(some 42), none, 0, .see (.ld none (.t 41))⟩,
    ⟨(some 43), none, 0, .see (.fa 0 (.t 3))⟩,
    ⟨(some 44), none, 0, .see (.ld none (.t 43))⟩,
    ⟨(some 45), none, 0, .see (.ld (some 4) (.t 3))⟩,
    ⟨none, none, 0, .act (.mset false (.t 42) (.t 44) (.t 45))⟩]
    [[], [0], [0, 1], [0, 1, 2], [], [4], [], [0, 1, 2, 3, 4, 5, 6]])
  (.seq (.reg [⟨(some 46), none, 0, .see (.mov (.t 0))⟩,
    ⟨(some 47), none, 0, .see (.nck (.t 46))⟩,
    ⟨(some 48), none, 0, .see (.fa 1 (.t 47))⟩,
    ⟨(some 49), none, 0, .see (.ld none (.t 48))⟩,
    ⟨(some 50), none, 0, .see (.mkf (.func 16) [(.t 49)] 1)⟩,
    ⟨(some 7), none, 0, .see (.mov (.t 50))⟩])
  (.seq (.seq (.reg [⟨(some 51), none, 0, .see (.mov (.c (.r (.v (.int .i64 0)))))⟩])
  (.block 0 (.loop (.seq (.reg [⟨(some 52), none, 0, .see (.bin .lss (.t 51) (.c (.r (.v (.int .i64 13)))))⟩])
  (.seq (.cond (.t 52)
    .skip
    (.exit 0))
  (.seq (.block 1 (.seq (.reg [⟨(some 53), none, 0, .see (.mov (.t 51))⟩,
    ⟨(some 8), none, 0, .see (.mov (.t 53))⟩])
  (.seq (.reg [⟨(some 54), none, 0, .see (.ld (some 4) (.t 3))⟩,
    ⟨(some 55), none, 0, .see (.mov (.t 8))⟩,
    ⟨(some 56), none, 3, .call 17 [(.t 54), (.t 55)]⟩,
    ⟨(some 9), none, 0, .see (.mov (.t 56))⟩])
  (.seq (.reg [⟨(some 57), none, 0, .see (.mov (.t 7))⟩,
    ⟨(some 58), none, 0, .see (.mov (.t 9))⟩,
    ⟨(some 59), none, 0, .see (.fa 3 (.t 3))⟩,
    ⟨(some 60), none, 0, .see (.ld none (.t 59))⟩,
    ⟨(some 61), none, 0, .see (.fa 0 (.t 3))⟩,
    ⟨(some 62), none, 0, .see (.ld none (.t 61))⟩,
    ⟨(some 63), none, 0, .see (.build [(.r (.v (.int .u64 0))), (.r (.v (.int .i64 0))), (.r (.v (.int .i64 0)))] [(0, 1, (.t 58)), (1, 1, (.t 60)), (2, 1, (.t 62))])⟩,
    ⟨(some 64), none, 4, .callv (.t 57) [(.t 63)]⟩])
  (.reg [⟨(some 65), none, 0, .see (.mov (.t 0))⟩,
    ⟨(some 66), none, 0, .see (.mov (.t 8))⟩,
    ⟨(some 67), none, 0, .see (.nck (.t 65))⟩,
    ⟨(some 68), none, 0, .see (.fa 2 (.t 67))⟩,
    ⟨(some 69), none, 0, .see (.iaa 13 1 (.t 68) (.t 66))⟩,
    ⟨(some 70), none, 0, .see (.ld none (.t 69))⟩,
    ⟨(some 71), none, 0, .see (.mov (.t 9))⟩,
    ⟨(some 72), none, 0, .see (.lkp false (.v (.int .i64 0)) false (.t 70) (.t 71))⟩,
    ⟨(some 73), none, 0, .see (.bin .add (.t 72) (.c (.r (.v (.int .i64 1)))))⟩,
    ⟨none, none, 0, .act (.mset false (.t 70) (.t 71) (.t 73))⟩])))))
  (.reg [⟨(some 74), none, 0, .see (.bin .add (.t 51) (.c (.r (.v (.int .i64 1)))))⟩,
    ⟨(some 51), none, 0, .see (.mov (.t 74))⟩])))))))
  (.seq (.reg [⟨(some 4), none, 0, .see (.mov (.c (.r (.v (.bool true)))))⟩])
  .ret))))))))
noncomputable abbrev stats_Stats_Put_code : Code := (Go.Proofs.Try.f6.body).getD .skip
theorem stats_Stats_Put_chk : chkC Go.Proofs.Try.prog 75 stats_Stats_Put_code stats_Stats_Put_pc = true := by kernel_rfl
theorem stats_Stats_Put_triple {args : List AV} {po ro : List Ob} {res : AV} (hal : args.length = 2) (hpo : po.length ≤ 1000)
    (h : run Go.Proofs.Try.prog po.length (RetP po.length [(4, false, none)] fun v os => v = res ∧ os = ro) [.c stats_Stats_Put_pc] ⟨argE 0 args, ob0 po⟩) : Triple Go.Proofs.Try.prog 6 args po res ro :=
  triple_of_W (fn := Go.Proofs.Try.f6) (c := stats_Stats_Put_code) (pc := stats_Stats_Put_pc) (rs := [(4, false, none)]) Go.Proofs.Try.func6 rfl (by decide) (by have := stats_Stats_Put_chk; exact this) (by rw [hal]; decide) rfl (by kernel_rfl) (by kernel_rfl) (by decide) hpo (W_of_run h)

/-- A size's counts when a point is put. -/
def incE (L : List Pt) (p : Pt) (ce : Nat → List MapEntry) (cc : Nat → Nat) (r : Nat) : List MapEntry := mputE (ce r) (cc r) (.int .u64 (p.w r)) (.int .i64 ((cnt L r (p.w r) : Int) + 1))
def incC (p : Pt) (ce : Nat → List MapEntry) (cc : Nat → Nat) (r : Nat) : Nat := mputC (ce r) (cc r) (.int .u64 (p.w r))
theorem StL.put {L : List Pt} {es : List MapEntry} {c : Nat} {ns : List (List Ky)} {ce : Nat → List MapEntry} {cc : Nat → Nat} (h : StL L es c ns ce cc) {p : Pt} (hp : p.ok) (hn : ∀ q ∈ L, q.k ≠ p.k) (hl : L.length < 2000) :
    StL (L ++ [p]) (mputE es c (.int .i64 p.k) p.val) (mputC es c (.int .i64 p.k)) (nsP ns p 13) (incE L p ce cc) (incC p ce cc) := by
  refine ⟨fun q hq => ?_, by simp; omega, (pm_add h.pm hn).2, ?_, fun r hr => ?_⟩
  · rcases List.mem_append.1 hq with hq | hq
    · exact h.ok q hq
    · rw [List.mem_singleton.1 hq]; exact hp
  · have := nsP_ok hp (fun q hq => ⟨h.ok q hq, hn q hq⟩) h.tk (by omega) 13 (Nat.le_refl _)
    rw [List.length_append, List.length_singleton, Nat.mul_add]
    refine this.congr fun x => ?_
    unfold KL
    constructor
    · rintro (⟨q, hq, r, hr, rfl⟩ | ⟨s, hs, rfl⟩)
      · exact ⟨q, List.mem_append_left _ hq, r, hr, rfl⟩
      · exact ⟨p, by simp, s, hs, rfl⟩
    · rintro ⟨q, hq, r, hr, rfl⟩
      rcases List.mem_append.1 hq with hq | hq
      · exact .inl ⟨q, hq, r, hr, rfl⟩
      · rw [List.mem_singleton.1 hq]; exact .inr ⟨r, hr, rfl⟩
  · rw [cnt_add]
    have := cm_put (h.cm r hr) (p.w r) (cnt L r (p.w r) + 1) (by omega)
    exact this
theorem nsP_new {L : List Pt} {p : Pt} {n : Nat} {ns : List (List Ky)} (hp : p.ok) (hL : ∀ q ∈ L, q.ok ∧ q.k ≠ p.k) (h : TK (KL L) n ns) (hn : n ≤ 50000) {r : Nat} (hr : r < 13) : (putN (nsP ns p r) (p.ky r)).2 = true := by
  have := nsP_ok hp hL h hn r (by omega)
  refine (this.put (by omega) ?_).2
  rintro (⟨q, hq, s, hs, e⟩ | ⟨s, hs, e⟩)
  · exact (hL q hq).2 (Pt.ky_inj hp (hL q hq).1 hr hs e).2.symm
  · have := (Pt.ky_inj hp hp hr (by omega) e).1
    omega
section
variable {L : List Pt} {es es1 : List MapEntry} {c c1 : Nat} {ns ns1 : List (List Ky)} {ce ce1 : Nat → List MapEntry} {cc cc1 : Nat → Nat}
set_option maxHeartbeats 4000000 in
set_option maxRecDepth 100000 in
theorem put_core {b : Bool} (h : StL L es1 c1 ns1 ce1 cc1) {p : Pt} (hpo : p.ok) (hn : ∀ q ∈ L, q.k ≠ p.k) (hlt : L.length < 2000)
    (hdel : Triple Go.Proofs.Try.prog 8 [.ptr 1000000 0 0, int .i64 p.k] (stOs es c ns ce cc) (bl b) (stOs es1 c1 ns1 ce1 cc1))
    (g1 : okK es (.int .i64 p.k) = true) (g2 : ∃ v, lkR es (.int .i64 p.k) (.agg [.v (.int .i64 0), .v (.int .i64 0), .v (.int .i64 0), .v (.int .i64 0)]) = Pt.rv v) (g3 : lkB es (.int .i64 p.k) = true ∨ (lkB es (.int .i64 p.k) = false ∧ es.length < 2000)) :
    Triple Go.Proofs.Try.prog 6 [.ptr 1000000 0 0, p.av] (stOs es c ns ce cc) (bl true) (stOs (mputE es1 c1 (.int .i64 p.k) p.val) (mputC es1 c1 (.int .i64 p.k)) (nsP ns1 p 13) (incE L p ce1 cc1) (incC p ce1 cc1)) := by
  obtain ⟨f1, _⟩ := pm_add h.pm hn
  have hP := nsP_ok hpo (fun q hq => ⟨h.ok q hq, hn q hq⟩) h.tk (by omega)
  obtain ⟨v, g2⟩ := g2
  refine stats_Stats_Put_triple rfl (by simp [stOs]) ?_
  simp only [stats_Stats_Put_pc, stOs, Pt.av, Pt.rv, List.length_cons, List.length_nil, g1, g2, push_cast, ↓reduceIte, reduceCtorEq, Nat.reduceBEq, Nat.reduceEqDiff, Nat.reduceAdd, Nat.reduceSub, Nat.reduceLT, Nat.reduceLeDiff, Nat.reduceMul]
  repeat refine And.intro (by first | decide | omega | exact fun _ => by decide | (simp +contextual; done) | kernel_rfl) ?_
  refine call_as (as' := [p.av]) rfl ?_
  refine call_mk (recok_t p) rfl trivial ?_
  rw [decide_eq_true hpo]
  simp only [push_cast, ↓reduceIte, reduceCtorEq, Nat.reduceBEq, Nat.reduceEqDiff, Nat.reduceAdd, Nat.reduceSub, Nat.reduceLT, Nat.reduceLeDiff, Nat.reduceMul]
  refine cnd_mk (fun hc => ?_) (fun hc => ?_)
  · exfalso
    rcases g3 with g3 | ⟨g3, g4⟩ <;> simp [g3] at hc
    omega
  simp only [stOs] at hdel
  simp only [push_cast, ↓reduceIte, reduceCtorEq, Nat.reduceBEq, Nat.reduceEqDiff, Nat.reduceAdd, Nat.reduceSub, Nat.reduceLT, Nat.reduceLeDiff, Nat.reduceMul]
  refine call_mk hdel rfl ⟨rfl, trivial, tr_size _ _, trivial, trivial, trivial, trivial, trivial, trivial, trivial, trivial, trivial, trivial, trivial, trivial, trivial, trivial⟩ ?_
  have tv : ∀ a b c d : Int, toV (.r (.agg [.v (.int .i64 a), .v (.int .i64 b), .v (.int .i64 c), .v (.int .i64 d)])) = some (Pt.val ⟨a, b, c, d⟩) := fun _ _ _ _ => rfl
  simp only [f1, tv, push_cast, ↓reduceIte, reduceCtorEq, Nat.reduceBEq, Nat.reduceEqDiff, Nat.reduceAdd, Nat.reduceSub, Nat.reduceLT, Nat.reduceLeDiff, Nat.reduceMul]
  repeat refine And.intro (by first | decide | omega | exact fun _ => by decide | (simp +contextual; done) | kernel_rfl) ?_
  refine run_loop [(51, false), (0, false), (3, false), (7, false)] (fun vs pos los => ∃ r : Nat, r ≤ 13 ∧ vs = [int .i64 r, .ptr 1000000 0 0, .ptr 2000000 0 0, .fn (.func 16) [.ptr 1000002 0 0] 1] ∧ pos = stOs (mputE es1 c1 (.int .i64 p.k) p.val) (mputC es1 c1 (.int .i64 p.k)) (nsP ns1 p r) (stg (incE L p ce1 cc1) ce1 r) (stg (incC p ce1 cc1) cc1 r) ∧ los = [.box [int .i64 p.k, int .i64 p.x, int .i64 p.y, int .i64 p.v]])
    (fun vs _ _ => match vs with | .r (.v (.int _ j)) :: _ => (13 - j).toNat | _ => 0) rfl ?_ ?_
  · simp only [push_cast, ↓reduceIte, reduceCtorEq, Nat.reduceBEq, Nat.reduceEqDiff, Nat.reduceAdd, Nat.reduceSub, Nat.reduceLT, Nat.reduceLeDiff, Nat.reduceMul]
    refine ⟨0, by omega, ?_⟩
    simp only [stg_0, nsP, stOs]
    exact ⟨rfl, rfl⟩
  · rintro vs pos los ⟨r, hr, rfl, hpos, rfl⟩
    rcases (show r = 0 ∨ r = 1 ∨ r = 2 ∨ r = 3 ∨ r = 4 ∨ r = 5 ∨ r = 6 ∨ r = 7 ∨ r = 8 ∨ r = 9 ∨ r = 10 ∨ r = 11 ∨ r = 12 ∨ r = 13 by omega) with rfl | rfl | rfl | rfl | rfl | rfl | rfl | rfl | rfl | rfl | rfl | rfl | rfl | rfl
    · have hcm := h.cm 0 (by decide)
      obtain ⟨q1, q2⟩ := cm_get hcm (p.w 0)
      have hw := (Pt.w_res hpo (show 0 < 13 by decide)).2.2
      have hk := hP 0 (by decide)
      have hf : (putN (nsP ns1 p 0) (p.ky 0)).2 = true := (nsP_new hpo (fun q hq => ⟨h.ok q hq, hn q hq⟩) h.tk (by omega) (show 0 < 13 by decide))
      simp only [stOs, stg, Nat.reduceLT, ↓reduceIte] at hpos
      subst hpos
      simp only [show decide ((0 : Int) < 13) = true from rfl, push_cast, ↓reduceIte, reduceCtorEq, Nat.reduceBEq, Nat.reduceEqDiff, Nat.reduceAdd, Nat.reduceSub, Nat.reduceLT, Nat.reduceLeDiff, Nat.reduceMul]
      refine call_as (as' := [p.av, int .i64 0]) rfl ?_
      refine call_mk (wordp_t p 0 hpo (by decide)) rfl trivial ?_
      simp only [Int.reduceToNat, uw, push_cast, ↓reduceIte, reduceCtorEq, Nat.reduceBEq, Nat.reduceEqDiff, Nat.reduceAdd, Nat.reduceSub, Nat.reduceLT, Nat.reduceLeDiff, Nat.reduceMul]
      repeat refine And.intro (by first | decide | omega | exact fun _ => by decide | (simp +contextual; done) | kernel_rfl) ?_
      refine call_as (as' := [.ptr 1000000 0 0, (p.ky 0).av]) rfl ?_
      refine call_mk (put_t hk.g (by rw [hk.l]; omega) (p.ky 0)) rfl ⟨tr_size _ _, trivial⟩ ?_
      have cle : cnt L 0 (p.w 0) ≤ 2000 := Nat.le_trans List.countP_le_length (by omega)
      have z4 : IntKind.i64.wrap ((cnt L 0 (p.w 0) : Int) + 1) = (cnt L 0 (p.w 0) : Int) + 1 := wrap_id (by omega)
      simp only [q1, q2, z4, Int.reduceToNat, push_cast, ↓reduceIte, reduceCtorEq, Nat.reduceBEq, Nat.reduceEqDiff, Nat.reduceAdd, Nat.reduceSub, Nat.reduceLT, Nat.reduceLeDiff, Nat.reduceMul]
      repeat refine And.intro (by first | decide | omega | exact fun _ => by decide | (simp +contextual; done) | kernel_rfl) ?_
      refine ⟨⟨0 + 1, by omega, rfl, ?_⟩, by decide⟩
      simp only [stOs, stg, Nat.reduceLT, Nat.reduceAdd, ↓reduceIte]
      rfl
    · have hcm := h.cm 1 (by decide)
      obtain ⟨q1, q2⟩ := cm_get hcm (p.w 1)
      have hw := (Pt.w_res hpo (show 1 < 13 by decide)).2.2
      have hk := hP 1 (by decide)
      have hf : (putN (nsP ns1 p 1) (p.ky 1)).2 = true := (nsP_new hpo (fun q hq => ⟨h.ok q hq, hn q hq⟩) h.tk (by omega) (show 1 < 13 by decide))
      simp only [stOs, stg, Nat.reduceLT, ↓reduceIte] at hpos
      subst hpos
      simp only [show decide ((1 : Int) < 13) = true from rfl, push_cast, ↓reduceIte, reduceCtorEq, Nat.reduceBEq, Nat.reduceEqDiff, Nat.reduceAdd, Nat.reduceSub, Nat.reduceLT, Nat.reduceLeDiff, Nat.reduceMul]
      refine call_as (as' := [p.av, int .i64 1]) rfl ?_
      refine call_mk (wordp_t p 1 hpo (by decide)) rfl trivial ?_
      simp only [Int.reduceToNat, uw, push_cast, ↓reduceIte, reduceCtorEq, Nat.reduceBEq, Nat.reduceEqDiff, Nat.reduceAdd, Nat.reduceSub, Nat.reduceLT, Nat.reduceLeDiff, Nat.reduceMul]
      repeat refine And.intro (by first | decide | omega | exact fun _ => by decide | (simp +contextual; done) | kernel_rfl) ?_
      refine call_as (as' := [.ptr 1000000 0 0, (p.ky 1).av]) rfl ?_
      refine call_mk (put_t hk.g (by rw [hk.l]; omega) (p.ky 1)) rfl ⟨tr_size _ _, trivial⟩ ?_
      have cle : cnt L 1 (p.w 1) ≤ 2000 := Nat.le_trans List.countP_le_length (by omega)
      have z4 : IntKind.i64.wrap ((cnt L 1 (p.w 1) : Int) + 1) = (cnt L 1 (p.w 1) : Int) + 1 := wrap_id (by omega)
      simp only [q1, q2, z4, Int.reduceToNat, push_cast, ↓reduceIte, reduceCtorEq, Nat.reduceBEq, Nat.reduceEqDiff, Nat.reduceAdd, Nat.reduceSub, Nat.reduceLT, Nat.reduceLeDiff, Nat.reduceMul]
      repeat refine And.intro (by first | decide | omega | exact fun _ => by decide | (simp +contextual; done) | kernel_rfl) ?_
      refine ⟨⟨1 + 1, by omega, rfl, ?_⟩, by decide⟩
      simp only [stOs, stg, Nat.reduceLT, Nat.reduceAdd, ↓reduceIte]
      rfl
    · have hcm := h.cm 2 (by decide)
      obtain ⟨q1, q2⟩ := cm_get hcm (p.w 2)
      have hw := (Pt.w_res hpo (show 2 < 13 by decide)).2.2
      have hk := hP 2 (by decide)
      have hf : (putN (nsP ns1 p 2) (p.ky 2)).2 = true := (nsP_new hpo (fun q hq => ⟨h.ok q hq, hn q hq⟩) h.tk (by omega) (show 2 < 13 by decide))
      simp only [stOs, stg, Nat.reduceLT, ↓reduceIte] at hpos
      subst hpos
      simp only [show decide ((2 : Int) < 13) = true from rfl, push_cast, ↓reduceIte, reduceCtorEq, Nat.reduceBEq, Nat.reduceEqDiff, Nat.reduceAdd, Nat.reduceSub, Nat.reduceLT, Nat.reduceLeDiff, Nat.reduceMul]
      refine call_as (as' := [p.av, int .i64 2]) rfl ?_
      refine call_mk (wordp_t p 2 hpo (by decide)) rfl trivial ?_
      simp only [Int.reduceToNat, uw, push_cast, ↓reduceIte, reduceCtorEq, Nat.reduceBEq, Nat.reduceEqDiff, Nat.reduceAdd, Nat.reduceSub, Nat.reduceLT, Nat.reduceLeDiff, Nat.reduceMul]
      repeat refine And.intro (by first | decide | omega | exact fun _ => by decide | (simp +contextual; done) | kernel_rfl) ?_
      refine call_as (as' := [.ptr 1000000 0 0, (p.ky 2).av]) rfl ?_
      refine call_mk (put_t hk.g (by rw [hk.l]; omega) (p.ky 2)) rfl ⟨tr_size _ _, trivial⟩ ?_
      have cle : cnt L 2 (p.w 2) ≤ 2000 := Nat.le_trans List.countP_le_length (by omega)
      have z4 : IntKind.i64.wrap ((cnt L 2 (p.w 2) : Int) + 1) = (cnt L 2 (p.w 2) : Int) + 1 := wrap_id (by omega)
      simp only [q1, q2, z4, Int.reduceToNat, push_cast, ↓reduceIte, reduceCtorEq, Nat.reduceBEq, Nat.reduceEqDiff, Nat.reduceAdd, Nat.reduceSub, Nat.reduceLT, Nat.reduceLeDiff, Nat.reduceMul]
      repeat refine And.intro (by first | decide | omega | exact fun _ => by decide | (simp +contextual; done) | kernel_rfl) ?_
      refine ⟨⟨2 + 1, by omega, rfl, ?_⟩, by decide⟩
      simp only [stOs, stg, Nat.reduceLT, Nat.reduceAdd, ↓reduceIte]
      rfl
    · have hcm := h.cm 3 (by decide)
      obtain ⟨q1, q2⟩ := cm_get hcm (p.w 3)
      have hw := (Pt.w_res hpo (show 3 < 13 by decide)).2.2
      have hk := hP 3 (by decide)
      have hf : (putN (nsP ns1 p 3) (p.ky 3)).2 = true := (nsP_new hpo (fun q hq => ⟨h.ok q hq, hn q hq⟩) h.tk (by omega) (show 3 < 13 by decide))
      simp only [stOs, stg, Nat.reduceLT, ↓reduceIte] at hpos
      subst hpos
      simp only [show decide ((3 : Int) < 13) = true from rfl, push_cast, ↓reduceIte, reduceCtorEq, Nat.reduceBEq, Nat.reduceEqDiff, Nat.reduceAdd, Nat.reduceSub, Nat.reduceLT, Nat.reduceLeDiff, Nat.reduceMul]
      refine call_as (as' := [p.av, int .i64 3]) rfl ?_
      refine call_mk (wordp_t p 3 hpo (by decide)) rfl trivial ?_
      simp only [Int.reduceToNat, uw, push_cast, ↓reduceIte, reduceCtorEq, Nat.reduceBEq, Nat.reduceEqDiff, Nat.reduceAdd, Nat.reduceSub, Nat.reduceLT, Nat.reduceLeDiff, Nat.reduceMul]
      repeat refine And.intro (by first | decide | omega | exact fun _ => by decide | (simp +contextual; done) | kernel_rfl) ?_
      refine call_as (as' := [.ptr 1000000 0 0, (p.ky 3).av]) rfl ?_
      refine call_mk (put_t hk.g (by rw [hk.l]; omega) (p.ky 3)) rfl ⟨tr_size _ _, trivial⟩ ?_
      have cle : cnt L 3 (p.w 3) ≤ 2000 := Nat.le_trans List.countP_le_length (by omega)
      have z4 : IntKind.i64.wrap ((cnt L 3 (p.w 3) : Int) + 1) = (cnt L 3 (p.w 3) : Int) + 1 := wrap_id (by omega)
      simp only [q1, q2, z4, Int.reduceToNat, push_cast, ↓reduceIte, reduceCtorEq, Nat.reduceBEq, Nat.reduceEqDiff, Nat.reduceAdd, Nat.reduceSub, Nat.reduceLT, Nat.reduceLeDiff, Nat.reduceMul]
      repeat refine And.intro (by first | decide | omega | exact fun _ => by decide | (simp +contextual; done) | kernel_rfl) ?_
      refine ⟨⟨3 + 1, by omega, rfl, ?_⟩, by decide⟩
      simp only [stOs, stg, Nat.reduceLT, Nat.reduceAdd, ↓reduceIte]
      rfl
    · have hcm := h.cm 4 (by decide)
      obtain ⟨q1, q2⟩ := cm_get hcm (p.w 4)
      have hw := (Pt.w_res hpo (show 4 < 13 by decide)).2.2
      have hk := hP 4 (by decide)
      have hf : (putN (nsP ns1 p 4) (p.ky 4)).2 = true := (nsP_new hpo (fun q hq => ⟨h.ok q hq, hn q hq⟩) h.tk (by omega) (show 4 < 13 by decide))
      simp only [stOs, stg, Nat.reduceLT, ↓reduceIte] at hpos
      subst hpos
      simp only [show decide ((4 : Int) < 13) = true from rfl, push_cast, ↓reduceIte, reduceCtorEq, Nat.reduceBEq, Nat.reduceEqDiff, Nat.reduceAdd, Nat.reduceSub, Nat.reduceLT, Nat.reduceLeDiff, Nat.reduceMul]
      refine call_as (as' := [p.av, int .i64 4]) rfl ?_
      refine call_mk (wordp_t p 4 hpo (by decide)) rfl trivial ?_
      simp only [Int.reduceToNat, uw, push_cast, ↓reduceIte, reduceCtorEq, Nat.reduceBEq, Nat.reduceEqDiff, Nat.reduceAdd, Nat.reduceSub, Nat.reduceLT, Nat.reduceLeDiff, Nat.reduceMul]
      repeat refine And.intro (by first | decide | omega | exact fun _ => by decide | (simp +contextual; done) | kernel_rfl) ?_
      refine call_as (as' := [.ptr 1000000 0 0, (p.ky 4).av]) rfl ?_
      refine call_mk (put_t hk.g (by rw [hk.l]; omega) (p.ky 4)) rfl ⟨tr_size _ _, trivial⟩ ?_
      have cle : cnt L 4 (p.w 4) ≤ 2000 := Nat.le_trans List.countP_le_length (by omega)
      have z4 : IntKind.i64.wrap ((cnt L 4 (p.w 4) : Int) + 1) = (cnt L 4 (p.w 4) : Int) + 1 := wrap_id (by omega)
      simp only [q1, q2, z4, Int.reduceToNat, push_cast, ↓reduceIte, reduceCtorEq, Nat.reduceBEq, Nat.reduceEqDiff, Nat.reduceAdd, Nat.reduceSub, Nat.reduceLT, Nat.reduceLeDiff, Nat.reduceMul]
      repeat refine And.intro (by first | decide | omega | exact fun _ => by decide | (simp +contextual; done) | kernel_rfl) ?_
      refine ⟨⟨4 + 1, by omega, rfl, ?_⟩, by decide⟩
      simp only [stOs, stg, Nat.reduceLT, Nat.reduceAdd, ↓reduceIte]
      rfl
    · have hcm := h.cm 5 (by decide)
      obtain ⟨q1, q2⟩ := cm_get hcm (p.w 5)
      have hw := (Pt.w_res hpo (show 5 < 13 by decide)).2.2
      have hk := hP 5 (by decide)
      have hf : (putN (nsP ns1 p 5) (p.ky 5)).2 = true := (nsP_new hpo (fun q hq => ⟨h.ok q hq, hn q hq⟩) h.tk (by omega) (show 5 < 13 by decide))
      simp only [stOs, stg, Nat.reduceLT, ↓reduceIte] at hpos
      subst hpos
      simp only [show decide ((5 : Int) < 13) = true from rfl, push_cast, ↓reduceIte, reduceCtorEq, Nat.reduceBEq, Nat.reduceEqDiff, Nat.reduceAdd, Nat.reduceSub, Nat.reduceLT, Nat.reduceLeDiff, Nat.reduceMul]
      refine call_as (as' := [p.av, int .i64 5]) rfl ?_
      refine call_mk (wordp_t p 5 hpo (by decide)) rfl trivial ?_
      simp only [Int.reduceToNat, uw, push_cast, ↓reduceIte, reduceCtorEq, Nat.reduceBEq, Nat.reduceEqDiff, Nat.reduceAdd, Nat.reduceSub, Nat.reduceLT, Nat.reduceLeDiff, Nat.reduceMul]
      repeat refine And.intro (by first | decide | omega | exact fun _ => by decide | (simp +contextual; done) | kernel_rfl) ?_
      refine call_as (as' := [.ptr 1000000 0 0, (p.ky 5).av]) rfl ?_
      refine call_mk (put_t hk.g (by rw [hk.l]; omega) (p.ky 5)) rfl ⟨tr_size _ _, trivial⟩ ?_
      have cle : cnt L 5 (p.w 5) ≤ 2000 := Nat.le_trans List.countP_le_length (by omega)
      have z4 : IntKind.i64.wrap ((cnt L 5 (p.w 5) : Int) + 1) = (cnt L 5 (p.w 5) : Int) + 1 := wrap_id (by omega)
      simp only [q1, q2, z4, Int.reduceToNat, push_cast, ↓reduceIte, reduceCtorEq, Nat.reduceBEq, Nat.reduceEqDiff, Nat.reduceAdd, Nat.reduceSub, Nat.reduceLT, Nat.reduceLeDiff, Nat.reduceMul]
      repeat refine And.intro (by first | decide | omega | exact fun _ => by decide | (simp +contextual; done) | kernel_rfl) ?_
      refine ⟨⟨5 + 1, by omega, rfl, ?_⟩, by decide⟩
      simp only [stOs, stg, Nat.reduceLT, Nat.reduceAdd, ↓reduceIte]
      rfl
    · have hcm := h.cm 6 (by decide)
      obtain ⟨q1, q2⟩ := cm_get hcm (p.w 6)
      have hw := (Pt.w_res hpo (show 6 < 13 by decide)).2.2
      have hk := hP 6 (by decide)
      have hf : (putN (nsP ns1 p 6) (p.ky 6)).2 = true := (nsP_new hpo (fun q hq => ⟨h.ok q hq, hn q hq⟩) h.tk (by omega) (show 6 < 13 by decide))
      simp only [stOs, stg, Nat.reduceLT, ↓reduceIte] at hpos
      subst hpos
      simp only [show decide ((6 : Int) < 13) = true from rfl, push_cast, ↓reduceIte, reduceCtorEq, Nat.reduceBEq, Nat.reduceEqDiff, Nat.reduceAdd, Nat.reduceSub, Nat.reduceLT, Nat.reduceLeDiff, Nat.reduceMul]
      refine call_as (as' := [p.av, int .i64 6]) rfl ?_
      refine call_mk (wordp_t p 6 hpo (by decide)) rfl trivial ?_
      simp only [Int.reduceToNat, uw, push_cast, ↓reduceIte, reduceCtorEq, Nat.reduceBEq, Nat.reduceEqDiff, Nat.reduceAdd, Nat.reduceSub, Nat.reduceLT, Nat.reduceLeDiff, Nat.reduceMul]
      repeat refine And.intro (by first | decide | omega | exact fun _ => by decide | (simp +contextual; done) | kernel_rfl) ?_
      refine call_as (as' := [.ptr 1000000 0 0, (p.ky 6).av]) rfl ?_
      refine call_mk (put_t hk.g (by rw [hk.l]; omega) (p.ky 6)) rfl ⟨tr_size _ _, trivial⟩ ?_
      have cle : cnt L 6 (p.w 6) ≤ 2000 := Nat.le_trans List.countP_le_length (by omega)
      have z4 : IntKind.i64.wrap ((cnt L 6 (p.w 6) : Int) + 1) = (cnt L 6 (p.w 6) : Int) + 1 := wrap_id (by omega)
      simp only [q1, q2, z4, Int.reduceToNat, push_cast, ↓reduceIte, reduceCtorEq, Nat.reduceBEq, Nat.reduceEqDiff, Nat.reduceAdd, Nat.reduceSub, Nat.reduceLT, Nat.reduceLeDiff, Nat.reduceMul]
      repeat refine And.intro (by first | decide | omega | exact fun _ => by decide | (simp +contextual; done) | kernel_rfl) ?_
      refine ⟨⟨6 + 1, by omega, rfl, ?_⟩, by decide⟩
      simp only [stOs, stg, Nat.reduceLT, Nat.reduceAdd, ↓reduceIte]
      rfl
    · have hcm := h.cm 7 (by decide)
      obtain ⟨q1, q2⟩ := cm_get hcm (p.w 7)
      have hw := (Pt.w_res hpo (show 7 < 13 by decide)).2.2
      have hk := hP 7 (by decide)
      have hf : (putN (nsP ns1 p 7) (p.ky 7)).2 = true := (nsP_new hpo (fun q hq => ⟨h.ok q hq, hn q hq⟩) h.tk (by omega) (show 7 < 13 by decide))
      simp only [stOs, stg, Nat.reduceLT, ↓reduceIte] at hpos
      subst hpos
      simp only [show decide ((7 : Int) < 13) = true from rfl, push_cast, ↓reduceIte, reduceCtorEq, Nat.reduceBEq, Nat.reduceEqDiff, Nat.reduceAdd, Nat.reduceSub, Nat.reduceLT, Nat.reduceLeDiff, Nat.reduceMul]
      refine call_as (as' := [p.av, int .i64 7]) rfl ?_
      refine call_mk (wordp_t p 7 hpo (by decide)) rfl trivial ?_
      simp only [Int.reduceToNat, uw, push_cast, ↓reduceIte, reduceCtorEq, Nat.reduceBEq, Nat.reduceEqDiff, Nat.reduceAdd, Nat.reduceSub, Nat.reduceLT, Nat.reduceLeDiff, Nat.reduceMul]
      repeat refine And.intro (by first | decide | omega | exact fun _ => by decide | (simp +contextual; done) | kernel_rfl) ?_
      refine call_as (as' := [.ptr 1000000 0 0, (p.ky 7).av]) rfl ?_
      refine call_mk (put_t hk.g (by rw [hk.l]; omega) (p.ky 7)) rfl ⟨tr_size _ _, trivial⟩ ?_
      have cle : cnt L 7 (p.w 7) ≤ 2000 := Nat.le_trans List.countP_le_length (by omega)
      have z4 : IntKind.i64.wrap ((cnt L 7 (p.w 7) : Int) + 1) = (cnt L 7 (p.w 7) : Int) + 1 := wrap_id (by omega)
      simp only [q1, q2, z4, Int.reduceToNat, push_cast, ↓reduceIte, reduceCtorEq, Nat.reduceBEq, Nat.reduceEqDiff, Nat.reduceAdd, Nat.reduceSub, Nat.reduceLT, Nat.reduceLeDiff, Nat.reduceMul]
      repeat refine And.intro (by first | decide | omega | exact fun _ => by decide | (simp +contextual; done) | kernel_rfl) ?_
      refine ⟨⟨7 + 1, by omega, rfl, ?_⟩, by decide⟩
      simp only [stOs, stg, Nat.reduceLT, Nat.reduceAdd, ↓reduceIte]
      rfl
    · have hcm := h.cm 8 (by decide)
      obtain ⟨q1, q2⟩ := cm_get hcm (p.w 8)
      have hw := (Pt.w_res hpo (show 8 < 13 by decide)).2.2
      have hk := hP 8 (by decide)
      have hf : (putN (nsP ns1 p 8) (p.ky 8)).2 = true := (nsP_new hpo (fun q hq => ⟨h.ok q hq, hn q hq⟩) h.tk (by omega) (show 8 < 13 by decide))
      simp only [stOs, stg, Nat.reduceLT, ↓reduceIte] at hpos
      subst hpos
      simp only [show decide ((8 : Int) < 13) = true from rfl, push_cast, ↓reduceIte, reduceCtorEq, Nat.reduceBEq, Nat.reduceEqDiff, Nat.reduceAdd, Nat.reduceSub, Nat.reduceLT, Nat.reduceLeDiff, Nat.reduceMul]
      refine call_as (as' := [p.av, int .i64 8]) rfl ?_
      refine call_mk (wordp_t p 8 hpo (by decide)) rfl trivial ?_
      simp only [Int.reduceToNat, uw, push_cast, ↓reduceIte, reduceCtorEq, Nat.reduceBEq, Nat.reduceEqDiff, Nat.reduceAdd, Nat.reduceSub, Nat.reduceLT, Nat.reduceLeDiff, Nat.reduceMul]
      repeat refine And.intro (by first | decide | omega | exact fun _ => by decide | (simp +contextual; done) | kernel_rfl) ?_
      refine call_as (as' := [.ptr 1000000 0 0, (p.ky 8).av]) rfl ?_
      refine call_mk (put_t hk.g (by rw [hk.l]; omega) (p.ky 8)) rfl ⟨tr_size _ _, trivial⟩ ?_
      have cle : cnt L 8 (p.w 8) ≤ 2000 := Nat.le_trans List.countP_le_length (by omega)
      have z4 : IntKind.i64.wrap ((cnt L 8 (p.w 8) : Int) + 1) = (cnt L 8 (p.w 8) : Int) + 1 := wrap_id (by omega)
      simp only [q1, q2, z4, Int.reduceToNat, push_cast, ↓reduceIte, reduceCtorEq, Nat.reduceBEq, Nat.reduceEqDiff, Nat.reduceAdd, Nat.reduceSub, Nat.reduceLT, Nat.reduceLeDiff, Nat.reduceMul]
      repeat refine And.intro (by first | decide | omega | exact fun _ => by decide | (simp +contextual; done) | kernel_rfl) ?_
      refine ⟨⟨8 + 1, by omega, rfl, ?_⟩, by decide⟩
      simp only [stOs, stg, Nat.reduceLT, Nat.reduceAdd, ↓reduceIte]
      rfl
    · have hcm := h.cm 9 (by decide)
      obtain ⟨q1, q2⟩ := cm_get hcm (p.w 9)
      have hw := (Pt.w_res hpo (show 9 < 13 by decide)).2.2
      have hk := hP 9 (by decide)
      have hf : (putN (nsP ns1 p 9) (p.ky 9)).2 = true := (nsP_new hpo (fun q hq => ⟨h.ok q hq, hn q hq⟩) h.tk (by omega) (show 9 < 13 by decide))
      simp only [stOs, stg, Nat.reduceLT, ↓reduceIte] at hpos
      subst hpos
      simp only [show decide ((9 : Int) < 13) = true from rfl, push_cast, ↓reduceIte, reduceCtorEq, Nat.reduceBEq, Nat.reduceEqDiff, Nat.reduceAdd, Nat.reduceSub, Nat.reduceLT, Nat.reduceLeDiff, Nat.reduceMul]
      refine call_as (as' := [p.av, int .i64 9]) rfl ?_
      refine call_mk (wordp_t p 9 hpo (by decide)) rfl trivial ?_
      simp only [Int.reduceToNat, uw, push_cast, ↓reduceIte, reduceCtorEq, Nat.reduceBEq, Nat.reduceEqDiff, Nat.reduceAdd, Nat.reduceSub, Nat.reduceLT, Nat.reduceLeDiff, Nat.reduceMul]
      repeat refine And.intro (by first | decide | omega | exact fun _ => by decide | (simp +contextual; done) | kernel_rfl) ?_
      refine call_as (as' := [.ptr 1000000 0 0, (p.ky 9).av]) rfl ?_
      refine call_mk (put_t hk.g (by rw [hk.l]; omega) (p.ky 9)) rfl ⟨tr_size _ _, trivial⟩ ?_
      have cle : cnt L 9 (p.w 9) ≤ 2000 := Nat.le_trans List.countP_le_length (by omega)
      have z4 : IntKind.i64.wrap ((cnt L 9 (p.w 9) : Int) + 1) = (cnt L 9 (p.w 9) : Int) + 1 := wrap_id (by omega)
      simp only [q1, q2, z4, Int.reduceToNat, push_cast, ↓reduceIte, reduceCtorEq, Nat.reduceBEq, Nat.reduceEqDiff, Nat.reduceAdd, Nat.reduceSub, Nat.reduceLT, Nat.reduceLeDiff, Nat.reduceMul]
      repeat refine And.intro (by first | decide | omega | exact fun _ => by decide | (simp +contextual; done) | kernel_rfl) ?_
      refine ⟨⟨9 + 1, by omega, rfl, ?_⟩, by decide⟩
      simp only [stOs, stg, Nat.reduceLT, Nat.reduceAdd, ↓reduceIte]
      rfl
    · have hcm := h.cm 10 (by decide)
      obtain ⟨q1, q2⟩ := cm_get hcm (p.w 10)
      have hw := (Pt.w_res hpo (show 10 < 13 by decide)).2.2
      have hk := hP 10 (by decide)
      have hf : (putN (nsP ns1 p 10) (p.ky 10)).2 = true := (nsP_new hpo (fun q hq => ⟨h.ok q hq, hn q hq⟩) h.tk (by omega) (show 10 < 13 by decide))
      simp only [stOs, stg, Nat.reduceLT, ↓reduceIte] at hpos
      subst hpos
      simp only [show decide ((10 : Int) < 13) = true from rfl, push_cast, ↓reduceIte, reduceCtorEq, Nat.reduceBEq, Nat.reduceEqDiff, Nat.reduceAdd, Nat.reduceSub, Nat.reduceLT, Nat.reduceLeDiff, Nat.reduceMul]
      refine call_as (as' := [p.av, int .i64 10]) rfl ?_
      refine call_mk (wordp_t p 10 hpo (by decide)) rfl trivial ?_
      simp only [Int.reduceToNat, uw, push_cast, ↓reduceIte, reduceCtorEq, Nat.reduceBEq, Nat.reduceEqDiff, Nat.reduceAdd, Nat.reduceSub, Nat.reduceLT, Nat.reduceLeDiff, Nat.reduceMul]
      repeat refine And.intro (by first | decide | omega | exact fun _ => by decide | (simp +contextual; done) | kernel_rfl) ?_
      refine call_as (as' := [.ptr 1000000 0 0, (p.ky 10).av]) rfl ?_
      refine call_mk (put_t hk.g (by rw [hk.l]; omega) (p.ky 10)) rfl ⟨tr_size _ _, trivial⟩ ?_
      have cle : cnt L 10 (p.w 10) ≤ 2000 := Nat.le_trans List.countP_le_length (by omega)
      have z4 : IntKind.i64.wrap ((cnt L 10 (p.w 10) : Int) + 1) = (cnt L 10 (p.w 10) : Int) + 1 := wrap_id (by omega)
      simp only [q1, q2, z4, Int.reduceToNat, push_cast, ↓reduceIte, reduceCtorEq, Nat.reduceBEq, Nat.reduceEqDiff, Nat.reduceAdd, Nat.reduceSub, Nat.reduceLT, Nat.reduceLeDiff, Nat.reduceMul]
      repeat refine And.intro (by first | decide | omega | exact fun _ => by decide | (simp +contextual; done) | kernel_rfl) ?_
      refine ⟨⟨10 + 1, by omega, rfl, ?_⟩, by decide⟩
      simp only [stOs, stg, Nat.reduceLT, Nat.reduceAdd, ↓reduceIte]
      rfl
    · have hcm := h.cm 11 (by decide)
      obtain ⟨q1, q2⟩ := cm_get hcm (p.w 11)
      have hw := (Pt.w_res hpo (show 11 < 13 by decide)).2.2
      have hk := hP 11 (by decide)
      have hf : (putN (nsP ns1 p 11) (p.ky 11)).2 = true := (nsP_new hpo (fun q hq => ⟨h.ok q hq, hn q hq⟩) h.tk (by omega) (show 11 < 13 by decide))
      simp only [stOs, stg, Nat.reduceLT, ↓reduceIte] at hpos
      subst hpos
      simp only [show decide ((11 : Int) < 13) = true from rfl, push_cast, ↓reduceIte, reduceCtorEq, Nat.reduceBEq, Nat.reduceEqDiff, Nat.reduceAdd, Nat.reduceSub, Nat.reduceLT, Nat.reduceLeDiff, Nat.reduceMul]
      refine call_as (as' := [p.av, int .i64 11]) rfl ?_
      refine call_mk (wordp_t p 11 hpo (by decide)) rfl trivial ?_
      simp only [Int.reduceToNat, uw, push_cast, ↓reduceIte, reduceCtorEq, Nat.reduceBEq, Nat.reduceEqDiff, Nat.reduceAdd, Nat.reduceSub, Nat.reduceLT, Nat.reduceLeDiff, Nat.reduceMul]
      repeat refine And.intro (by first | decide | omega | exact fun _ => by decide | (simp +contextual; done) | kernel_rfl) ?_
      refine call_as (as' := [.ptr 1000000 0 0, (p.ky 11).av]) rfl ?_
      refine call_mk (put_t hk.g (by rw [hk.l]; omega) (p.ky 11)) rfl ⟨tr_size _ _, trivial⟩ ?_
      have cle : cnt L 11 (p.w 11) ≤ 2000 := Nat.le_trans List.countP_le_length (by omega)
      have z4 : IntKind.i64.wrap ((cnt L 11 (p.w 11) : Int) + 1) = (cnt L 11 (p.w 11) : Int) + 1 := wrap_id (by omega)
      simp only [q1, q2, z4, Int.reduceToNat, push_cast, ↓reduceIte, reduceCtorEq, Nat.reduceBEq, Nat.reduceEqDiff, Nat.reduceAdd, Nat.reduceSub, Nat.reduceLT, Nat.reduceLeDiff, Nat.reduceMul]
      repeat refine And.intro (by first | decide | omega | exact fun _ => by decide | (simp +contextual; done) | kernel_rfl) ?_
      refine ⟨⟨11 + 1, by omega, rfl, ?_⟩, by decide⟩
      simp only [stOs, stg, Nat.reduceLT, Nat.reduceAdd, ↓reduceIte]
      rfl
    · have hcm := h.cm 12 (by decide)
      obtain ⟨q1, q2⟩ := cm_get hcm (p.w 12)
      have hw := (Pt.w_res hpo (show 12 < 13 by decide)).2.2
      have hk := hP 12 (by decide)
      have hf : (putN (nsP ns1 p 12) (p.ky 12)).2 = true := (nsP_new hpo (fun q hq => ⟨h.ok q hq, hn q hq⟩) h.tk (by omega) (show 12 < 13 by decide))
      simp only [stOs, stg, Nat.reduceLT, ↓reduceIte] at hpos
      subst hpos
      simp only [show decide ((12 : Int) < 13) = true from rfl, push_cast, ↓reduceIte, reduceCtorEq, Nat.reduceBEq, Nat.reduceEqDiff, Nat.reduceAdd, Nat.reduceSub, Nat.reduceLT, Nat.reduceLeDiff, Nat.reduceMul]
      refine call_as (as' := [p.av, int .i64 12]) rfl ?_
      refine call_mk (wordp_t p 12 hpo (by decide)) rfl trivial ?_
      simp only [Int.reduceToNat, uw, push_cast, ↓reduceIte, reduceCtorEq, Nat.reduceBEq, Nat.reduceEqDiff, Nat.reduceAdd, Nat.reduceSub, Nat.reduceLT, Nat.reduceLeDiff, Nat.reduceMul]
      repeat refine And.intro (by first | decide | omega | exact fun _ => by decide | (simp +contextual; done) | kernel_rfl) ?_
      refine call_as (as' := [.ptr 1000000 0 0, (p.ky 12).av]) rfl ?_
      refine call_mk (put_t hk.g (by rw [hk.l]; omega) (p.ky 12)) rfl ⟨tr_size _ _, trivial⟩ ?_
      have cle : cnt L 12 (p.w 12) ≤ 2000 := Nat.le_trans List.countP_le_length (by omega)
      have z4 : IntKind.i64.wrap ((cnt L 12 (p.w 12) : Int) + 1) = (cnt L 12 (p.w 12) : Int) + 1 := wrap_id (by omega)
      simp only [q1, q2, z4, Int.reduceToNat, push_cast, ↓reduceIte, reduceCtorEq, Nat.reduceBEq, Nat.reduceEqDiff, Nat.reduceAdd, Nat.reduceSub, Nat.reduceLT, Nat.reduceLeDiff, Nat.reduceMul]
      repeat refine And.intro (by first | decide | omega | exact fun _ => by decide | (simp +contextual; done) | kernel_rfl) ?_
      refine ⟨⟨12 + 1, by omega, rfl, ?_⟩, by decide⟩
      simp only [stOs, stg, Nat.reduceLT, Nat.reduceAdd, ↓reduceIte]
      rfl
    · have hlit : stOs (mputE es1 c1 (.int .i64 p.k) p.val) (mputC es1 c1 (.int .i64 p.k)) (nsP ns1 p 13) (stg (incE L p ce1 cc1) ce1 13) (stg (incC p ce1 cc1) cc1 13) = stOs (mputE es1 c1 (.int .i64 p.k) p.val) (mputC es1 c1 (.int .i64 p.k)) (nsP ns1 p 13) (incE L p ce1 cc1) (incC p ce1 cc1) := rfl
      rw [hlit] at hpos
      subst hpos
      simp only [stOs, show decide ((13 : Int) < 13) = false from rfl, push_cast, ↓reduceIte, reduceCtorEq, Nat.reduceBEq, Nat.reduceEqDiff, Nat.reduceAdd, Nat.reduceSub, Nat.reduceLT, Nat.reduceLeDiff, Nat.reduceMul]
end
end Go.Ev


namespace Go.Ev
open Go
set_option linter.unusedSectionVars false
set_option linter.unnecessarySimpa false
set_option linter.unusedSimpArgs false
set_option linter.unusedVariables false
section
variable {L : List Pt} {es : List MapEntry} {c : Nat} {ns : List (List Ky)} {ce : Nat → List MapEntry} {cc : Nat → Nat}
set_option maxHeartbeats 4000000 in
set_option maxRecDepth 100000 in
theorem put_bad {p : Pt} (hpo : ¬ p.ok) (g1 : okK es (.int .i64 p.k) = true) (g2 : ∃ v, lkR es (.int .i64 p.k) (.agg [.v (.int .i64 0), .v (.int .i64 0), .v (.int .i64 0), .v (.int .i64 0)]) = Pt.rv v) :
    Triple Go.Proofs.Try.prog 6 [.ptr 1000000 0 0, p.av] (stOs es c ns ce cc) (bl false) (stOs es c ns ce cc) := by
  obtain ⟨v, g2⟩ := g2
  refine stats_Stats_Put_triple rfl (by simp [stOs]) ?_
  simp only [stats_Stats_Put_pc, stOs, Pt.av, Pt.rv, List.length_cons, List.length_nil, g1, g2, push_cast, ↓reduceIte, reduceCtorEq, Nat.reduceBEq, Nat.reduceEqDiff, Nat.reduceAdd, Nat.reduceSub, Nat.reduceLT, Nat.reduceLeDiff, Nat.reduceMul]
  repeat refine And.intro (by first | decide | omega | exact fun _ => by decide | (simp +contextual; done) | kernel_rfl) ?_
  refine call_as (as' := [p.av]) rfl ?_
  refine call_mk (recok_t p) rfl trivial ?_
  rw [decide_eq_false hpo]
  simp only [push_cast, ↓reduceIte, reduceCtorEq, Nat.reduceBEq, Nat.reduceEqDiff, Nat.reduceAdd, Nat.reduceSub, Nat.reduceLT, Nat.reduceLeDiff, Nat.reduceMul]
set_option maxHeartbeats 4000000 in
set_option maxRecDepth 100000 in
theorem put_full {p : Pt} (hpo : p.ok) (g1 : okK es (.int .i64 p.k) = true) (g2 : ∃ v, lkR es (.int .i64 p.k) (.agg [.v (.int .i64 0), .v (.int .i64 0), .v (.int .i64 0), .v (.int .i64 0)]) = Pt.rv v)
    (g3 : lkB es (.int .i64 p.k) = false) (g4 : 2000 ≤ es.length) :
    Triple Go.Proofs.Try.prog 6 [.ptr 1000000 0 0, p.av] (stOs es c ns ce cc) (bl false) (stOs es c ns ce cc) := by
  obtain ⟨v, g2⟩ := g2
  refine stats_Stats_Put_triple rfl (by simp [stOs]) ?_
  simp only [stats_Stats_Put_pc, stOs, Pt.av, Pt.rv, List.length_cons, List.length_nil, g1, g2, push_cast, ↓reduceIte, reduceCtorEq, Nat.reduceBEq, Nat.reduceEqDiff, Nat.reduceAdd, Nat.reduceSub, Nat.reduceLT, Nat.reduceLeDiff, Nat.reduceMul]
  repeat refine And.intro (by first | decide | omega | exact fun _ => by decide | (simp +contextual; done) | kernel_rfl) ?_
  refine call_as (as' := [p.av]) rfl ?_
  refine call_mk (recok_t p) rfl trivial ?_
  rw [decide_eq_true hpo]
  simp only [push_cast, ↓reduceIte, reduceCtorEq, Nat.reduceBEq, Nat.reduceEqDiff, Nat.reduceAdd, Nat.reduceSub, Nat.reduceLT, Nat.reduceLeDiff, Nat.reduceMul]
  refine cnd_mk (fun hc => ?_) (fun hc => ?_)
  · simp only [push_cast, ↓reduceIte, reduceCtorEq, Nat.reduceBEq, Nat.reduceEqDiff, Nat.reduceAdd, Nat.reduceSub, Nat.reduceLT, Nat.reduceLeDiff, Nat.reduceMul]
  · exfalso
    simp [g3] at hc
    omega
end
/-- Stats holds these points. -/
def SS (L : List Pt) (os : List Ob) : Prop := ∃ es c ns ce cc, StL L es c ns ce cc ∧ os = stOs es c ns ce cc
def has (L : List Pt) (k : Int) : Bool := L.any fun q => q.k == k
def plusP (L : List Pt) (p : Pt) : List Pt := without p.k L ++ [p]
def canPut (L : List Pt) (p : Pt) : Bool := decide p.ok && (has L p.k || decide (L.length < 2000))
theorem has_iff {L : List Pt} {k : Int} : has L k = true ↔ ∃ p ∈ L, p.k = k := by simp [has]
theorem has_not {L : List Pt} {k : Int} : has L k = false ↔ ∀ p ∈ L, p.k ≠ k := by simp [has]
theorem without_no {L : List Pt} {k : Int} (h : has L k = false) : without k L = L := by
  rw [has_not] at h
  unfold without
  rw [List.filter_eq_self]
  intro q hq
  simpa using h q hq
theorem without_mem {L : List Pt} {k : Int} {q : Pt} : q ∈ without k L ↔ q ∈ L ∧ q.k ≠ k := by simp [without]
/-- Taking a point away. -/
theorem delS {L : List Pt} {os : List Ob} (h : SS L os) (k : Int) : ∃ os', SS (without k L) os' ∧ Triple Go.Proofs.Try.prog 8 [.ptr 1000000 0 0, int .i64 k] os (bl (has L k)) (os' ++ []) := by
  obtain ⟨es, c, ns, ce, cc, h, rfl⟩ := h
  cases hk : has L k with
  | true =>
    obtain ⟨p, hp, rfl⟩ := has_iff.1 hk
    exact ⟨_, ⟨_, _, _, _, _, h.del hp, rfl⟩, by rw [List.append_nil]; exact del_yes h hp⟩
  | false =>
    rw [without_no hk]
    exact ⟨_, ⟨_, _, _, _, _, h, rfl⟩, by rw [List.append_nil]; exact del_no h k (has_not.1 hk)⟩
theorem lk_any {L : List Pt} {es : List MapEntry} {c : Nat} (h : PM L es c) (k : Int) : okK es (.int .i64 k) = true ∧ (∃ v, lkR es (.int .i64 k) (.agg [.v (.int .i64 0), .v (.int .i64 0), .v (.int .i64 0), .v (.int .i64 0)]) = Pt.rv v) ∧ lkB es (.int .i64 k) = has L k := by
  cases hk : has L k with
  | true =>
    obtain ⟨p, hp, rfl⟩ := has_iff.1 hk
    obtain ⟨a, b, c, d⟩ := pm_yes h hp
    exact ⟨a, ⟨p, c _⟩, b⟩
  | false =>
    obtain ⟨a, b, c, d⟩ := pm_no h (has_not.1 hk)
    exact ⟨a, ⟨⟨0, 0, 0, 0⟩, c _⟩, b⟩
/-- Putting a point. -/
theorem putS {L : List Pt} {os : List Ob} (h : SS L os) (p : Pt) : ∃ os', SS (if canPut L p then plusP L p else L) os' ∧ Triple Go.Proofs.Try.prog 6 [.ptr 1000000 0 0, p.av] os (bl (canPut L p)) (os' ++ []) := by
  have h0 := h
  obtain ⟨es, c, ns, ce, cc, h, rfl⟩ := h
  obtain ⟨g1, g2, g3⟩ := lk_any h.pm p.k
  by_cases hpo : p.ok
  · by_cases hc : has L p.k = true ∨ L.length < 2000
    · have hcp : canPut L p = true := by simp [canPut, hpo, hc]
      rw [hcp, if_pos rfl]
      obtain ⟨os1, ⟨es1, c1, ns1, ce1, cc1, h1, rfl⟩, hT⟩ := delS h0 p.k
      rw [List.append_nil] at hT
      have hn : ∀ q ∈ without p.k L, q.k ≠ p.k := fun q hq => (without_mem.1 hq).2
      have hlt : (without p.k L).length < 2000 := by
        cases hk : has L p.k with
        | true =>
          obtain ⟨q, hq, e⟩ := has_iff.1 hk
          have := len_without h.pm.nd hq
          rw [e] at this
          have := h.le
          omega
        | false =>
          rw [without_no hk]
          simpa [hk] using hc
      refine ⟨_, ⟨_, _, _, _, _, h1.put hpo hn hlt, rfl⟩, ?_⟩
      rw [List.append_nil]
      refine put_core h1 hpo hn hlt hT g1 g2 ?_
      rw [g3, pm_len h.pm]
      cases hk : has L p.k with
      | true => exact .inl rfl
      | false => exact .inr ⟨rfl, by simpa [hk] using hc⟩
    · have hcp : canPut L p = false := by
        simp only [not_or] at hc
        simp [canPut, hc.1, hc.2]
      rw [hcp, if_neg (by simp)]
      simp only [not_or, Bool.not_eq_true] at hc
      exact ⟨_, h0, by rw [List.append_nil]; exact put_full hpo g1 g2 (g3.trans hc.1) (by rw [pm_len h.pm]; omega)⟩
  · have hcp : canPut L p = false := by simp [canPut, hpo]
    rw [hcp, if_neg (by simp)]
    exact ⟨_, h0, by rw [List.append_nil]; exact put_bad hpo g1 g2⟩
/-- Stats as one object. -/
def SF (L : List Pt) : Fam where
  S := SS L
  N := 16
  n := 15
  pos := by decide
  len := by rintro os ⟨es, c, ns, ce, cc, h, rfl⟩; rfl
  flat := by
    rintro os ⟨es, c, ns, ce, cc, h, rfl⟩ o ho
    simp only [stOs, List.mem_cons, List.not_mem_nil, or_false] at ho
    rcases ho with rfl | rfl | rfl | rfl | rfl | rfl | rfl | rfl | rfl | rfl | rfl | rfl | rfl | rfl | rfl | rfl
    · exact ⟨by simp [FlatO, Flats, Flat], rfl⟩
    all_goals exact ⟨trivial, rfl⟩
  shut := by
    rintro os ⟨es, c, ns, ce, cc, h, rfl⟩ o ho
    simp only [stOs, List.mem_cons, List.not_mem_nil, or_false] at ho
    rcases ho with rfl | rfl | rfl | rfl | rfl | rfl | rfl | rfl | rfl | rfl | rfl | rfl | rfl | rfl | rfl | rfl
    · simp [imO, imL, imV, keepF]
    all_goals rfl
  root := by
    rintro os ⟨es, c, ns, ce, cc, h, rfl⟩
    exact ⟨_, rfl, rfl⟩
/-- Stats with these points, one object. -/
def sT (L : List Pt) : AbsT := (SF L).T
theorem put_a (L : List Pt) (p : Pt) : Triple Go.Proofs.Try.prog 6 [.ptr 1000000 0 0, p.av] [.abs (sT L)] (bl (canPut L p)) [.abs (sT (if canPut L p then plusP L p else L))] :=
  pack (F := SF L) (F' := SF (if canPut L p then plusP L p else L)) rfl (fun os h => putS h p) rfl (by simp) (by simp [Flat, FlatR])
theorem del_a (L : List Pt) (k : Int) : Triple Go.Proofs.Try.prog 8 [.ptr 1000000 0 0, int .i64 k] [.abs (sT L)] (bl (has L k)) [.abs (sT (without k L))] :=
  pack (F := SF L) (F' := SF (without k L)) rfl (fun os h => delS h k) rfl (by simp) (by simp [Flat, FlatR])
end Go.Ev


namespace Go.Ev
open Go
set_option linter.unusedSectionVars false
set_option linter.unnecessarySimpa false
set_option linter.unusedSimpArgs false
set_option linter.unusedVariables false
noncomputable def stats_New_pc : PC :=
  (.seq (.reg [⟨(some 0), none, 0, .see (.mov (.c (.r (.v (.pointer none)))))⟩])
  (.seq (.reg [⟨(some 3), none, 0, .act (.mkm)⟩,
    ⟨(some 4), none, 1, .call 14 []⟩,
    ⟨(some 5), none, 0, .see (.build [(.r (.v (.map none))), (.r (.v (.pointer none))), (.r (.v (.map none))), (.r (.v (.map none))), (.r (.v (.map none))), (.r (.v (.map none))), (.r (.v (.map none))), (.r (.v (.map none))), (.r (.v (.map none))), (.r (.v (.map none))), (.r (.v (.map none))), (.r (.v (.map none))), (.r (.v (.map none))), (.r (.v (.map none))), (.r (.v (.map none)))] [(0, 1, (.t 3)), (1, 1, (.t 4))])⟩,
    ⟨(some 6), none, 0, .act (.box (.t 5))⟩,
    ⟨(some 1), none, 0, .see (.mov (.t 6))⟩])
  (.seq (.seq (.reg [⟨(some 7), none, 0, .see (.mov (.c (.r (.v (.int .i64 0)))))⟩])
  (.block 0 (.loop (.seq (.reg [⟨(some 8), none, 0, .see (.bin .lss (.t 7) (.c (.r (.v (.int .i64 13)))))⟩])
  (.seq (.cond (.t 8)
    .skip
    (.exit 0))
  (.seq (.block 1 (.seq (.reg [⟨(some 9), none, 0, .see (.mov (.t 7))⟩,
    ⟨(some 2), none, 0, .see (.mov (.t 9))⟩])
  (.reg [⟨(some 10), none, 0, .see (.mov (.t 1))⟩,
    ⟨(some 11), none, 0, .see (.mov (.t 2))⟩,
    ⟨(some 12), none, 0, .act (.mkm)⟩,
    ⟨(some 13), none, 0, .see (.nck (.t 10))⟩,
    ⟨(some 14), none, 0, .see (.fa 2 (.t 13))⟩,
    ⟨(some 15), none, 0, .see (.iaa 13 1 (.t 14) (.t 11))⟩,
    ⟨none, none, 0, .act (.st 1 (.t 15) (.t 12))⟩])))
  (.reg [⟨(some 16), none, 0, .see (.bin .add (.t 7) (.c (.r (.v (.int .i64 1)))))⟩,
    ⟨(some 7), none, 0, .see (.mov (.t 16))⟩])))))))
  (.seq (.reg [⟨(some 17), none, 0, .see (.mov (.t 1))⟩,
    ⟨(some 0), none, 0, .see (.mov (.t 17))⟩])
  .ret))))
noncomputable abbrev stats_New_code : Code := (Go.Proofs.Try.f5.body).getD .skip
theorem stats_New_chk : chkC Go.Proofs.Try.prog 18 stats_New_code stats_New_pc = true := by kernel_rfl
theorem stats_New_triple {args : List AV} {po ro : List Ob} {res : AV} (hal : args.length = 0) (hpo : po.length ≤ 1000)
    (h : run Go.Proofs.Try.prog po.length (RetP po.length [(0, false, none)] fun v os => v = res ∧ os = ro) [.c stats_New_pc] ⟨argE 0 args, ob0 po⟩) : Triple Go.Proofs.Try.prog 5 args po res ro :=
  triple_of_W (fn := Go.Proofs.Try.f5) (c := stats_New_code) (pc := stats_New_pc) (rs := [(0, false, none)]) Go.Proofs.Try.func5 rfl (by decide) (by have := stats_New_chk; exact this) (by rw [hal]; decide) rfl (by kernel_rfl) (by kernel_rfl) (by decide) hpo (W_of_run h)

/-- The objects when so many maps are made. -/
def newOs : Nat → List Ob
  | 0 => [.box [.mp 2000001 0, .ptr 2000002 0 0, .r (.v (.map none)), .r (.v (.map none)), .r (.v (.map none)), .r (.v (.map none)), .r (.v (.map none)), .r (.v (.map none)), .r (.v (.map none)), .r (.v (.map none)), .r (.v (.map none)), .r (.v (.map none)), .r (.v (.map none)), .r (.v (.map none)), .r (.v (.map none))], .map [] 0, .abs (tr [])]
  | 1 => [.box [.mp 2000001 0, .ptr 2000002 0 0, .mp 2000003 0, .r (.v (.map none)), .r (.v (.map none)), .r (.v (.map none)), .r (.v (.map none)), .r (.v (.map none)), .r (.v (.map none)), .r (.v (.map none)), .r (.v (.map none)), .r (.v (.map none)), .r (.v (.map none)), .r (.v (.map none)), .r (.v (.map none))], .map [] 0, .abs (tr []), .map [] 0]
  | 2 => [.box [.mp 2000001 0, .ptr 2000002 0 0, .mp 2000003 0, .mp 2000004 0, .r (.v (.map none)), .r (.v (.map none)), .r (.v (.map none)), .r (.v (.map none)), .r (.v (.map none)), .r (.v (.map none)), .r (.v (.map none)), .r (.v (.map none)), .r (.v (.map none)), .r (.v (.map none)), .r (.v (.map none))], .map [] 0, .abs (tr []), .map [] 0, .map [] 0]
  | 3 => [.box [.mp 2000001 0, .ptr 2000002 0 0, .mp 2000003 0, .mp 2000004 0, .mp 2000005 0, .r (.v (.map none)), .r (.v (.map none)), .r (.v (.map none)), .r (.v (.map none)), .r (.v (.map none)), .r (.v (.map none)), .r (.v (.map none)), .r (.v (.map none)), .r (.v (.map none)), .r (.v (.map none))], .map [] 0, .abs (tr []), .map [] 0, .map [] 0, .map [] 0]
  | 4 => [.box [.mp 2000001 0, .ptr 2000002 0 0, .mp 2000003 0, .mp 2000004 0, .mp 2000005 0, .mp 2000006 0, .r (.v (.map none)), .r (.v (.map none)), .r (.v (.map none)), .r (.v (.map none)), .r (.v (.map none)), .r (.v (.map none)), .r (.v (.map none)), .r (.v (.map none)), .r (.v (.map none))], .map [] 0, .abs (tr []), .map [] 0, .map [] 0, .map [] 0, .map [] 0]
  | 5 => [.box [.mp 2000001 0, .ptr 2000002 0 0, .mp 2000003 0, .mp 2000004 0, .mp 2000005 0, .mp 2000006 0, .mp 2000007 0, .r (.v (.map none)), .r (.v (.map none)), .r (.v (.map none)), .r (.v (.map none)), .r (.v (.map none)), .r (.v (.map none)), .r (.v (.map none)), .r (.v (.map none))], .map [] 0, .abs (tr []), .map [] 0, .map [] 0, .map [] 0, .map [] 0, .map [] 0]
  | 6 => [.box [.mp 2000001 0, .ptr 2000002 0 0, .mp 2000003 0, .mp 2000004 0, .mp 2000005 0, .mp 2000006 0, .mp 2000007 0, .mp 2000008 0, .r (.v (.map none)), .r (.v (.map none)), .r (.v (.map none)), .r (.v (.map none)), .r (.v (.map none)), .r (.v (.map none)), .r (.v (.map none))], .map [] 0, .abs (tr []), .map [] 0, .map [] 0, .map [] 0, .map [] 0, .map [] 0, .map [] 0]
  | 7 => [.box [.mp 2000001 0, .ptr 2000002 0 0, .mp 2000003 0, .mp 2000004 0, .mp 2000005 0, .mp 2000006 0, .mp 2000007 0, .mp 2000008 0, .mp 2000009 0, .r (.v (.map none)), .r (.v (.map none)), .r (.v (.map none)), .r (.v (.map none)), .r (.v (.map none)), .r (.v (.map none))], .map [] 0, .abs (tr []), .map [] 0, .map [] 0, .map [] 0, .map [] 0, .map [] 0, .map [] 0, .map [] 0]
  | 8 => [.box [.mp 2000001 0, .ptr 2000002 0 0, .mp 2000003 0, .mp 2000004 0, .mp 2000005 0, .mp 2000006 0, .mp 2000007 0, .mp 2000008 0, .mp 2000009 0, .mp 2000010 0, .r (.v (.map none)), .r (.v (.map none)), .r (.v (.map none)), .r (.v (.map none)), .r (.v (.map none))], .map [] 0, .abs (tr []), .map [] 0, .map [] 0, .map [] 0, .map [] 0, .map [] 0, .map [] 0, .map [] 0, .map [] 0]
  | 9 => [.box [.mp 2000001 0, .ptr 2000002 0 0, .mp 2000003 0, .mp 2000004 0, .mp 2000005 0, .mp 2000006 0, .mp 2000007 0, .mp 2000008 0, .mp 2000009 0, .mp 2000010 0, .mp 2000011 0, .r (.v (.map none)), .r (.v (.map none)), .r (.v (.map none)), .r (.v (.map none))], .map [] 0, .abs (tr []), .map [] 0, .map [] 0, .map [] 0, .map [] 0, .map [] 0, .map [] 0, .map [] 0, .map [] 0, .map [] 0]
  | 10 => [.box [.mp 2000001 0, .ptr 2000002 0 0, .mp 2000003 0, .mp 2000004 0, .mp 2000005 0, .mp 2000006 0, .mp 2000007 0, .mp 2000008 0, .mp 2000009 0, .mp 2000010 0, .mp 2000011 0, .mp 2000012 0, .r (.v (.map none)), .r (.v (.map none)), .r (.v (.map none))], .map [] 0, .abs (tr []), .map [] 0, .map [] 0, .map [] 0, .map [] 0, .map [] 0, .map [] 0, .map [] 0, .map [] 0, .map [] 0, .map [] 0]
  | 11 => [.box [.mp 2000001 0, .ptr 2000002 0 0, .mp 2000003 0, .mp 2000004 0, .mp 2000005 0, .mp 2000006 0, .mp 2000007 0, .mp 2000008 0, .mp 2000009 0, .mp 2000010 0, .mp 2000011 0, .mp 2000012 0, .mp 2000013 0, .r (.v (.map none)), .r (.v (.map none))], .map [] 0, .abs (tr []), .map [] 0, .map [] 0, .map [] 0, .map [] 0, .map [] 0, .map [] 0, .map [] 0, .map [] 0, .map [] 0, .map [] 0, .map [] 0]
  | 12 => [.box [.mp 2000001 0, .ptr 2000002 0 0, .mp 2000003 0, .mp 2000004 0, .mp 2000005 0, .mp 2000006 0, .mp 2000007 0, .mp 2000008 0, .mp 2000009 0, .mp 2000010 0, .mp 2000011 0, .mp 2000012 0, .mp 2000013 0, .mp 2000014 0, .r (.v (.map none))], .map [] 0, .abs (tr []), .map [] 0, .map [] 0, .map [] 0, .map [] 0, .map [] 0, .map [] 0, .map [] 0, .map [] 0, .map [] 0, .map [] 0, .map [] 0, .map [] 0]
  | _ => [.box [.mp 2000001 0, .ptr 2000002 0 0, .mp 2000003 0, .mp 2000004 0, .mp 2000005 0, .mp 2000006 0, .mp 2000007 0, .mp 2000008 0, .mp 2000009 0, .mp 2000010 0, .mp 2000011 0, .mp 2000012 0, .mp 2000013 0, .mp 2000014 0, .mp 2000015 0], .map [] 0, .abs (tr []), .map [] 0, .map [] 0, .map [] 0, .map [] 0, .map [] 0, .map [] 0, .map [] 0, .map [] 0, .map [] 0, .map [] 0, .map [] 0, .map [] 0, .map [] 0]
theorem pm_nil : PM [] [] 0 := ⟨mapL_nil, by simp⟩
theorem tk_nil : TK (KL []) 0 [] := ⟨⟨by simp, by simp [Srt]⟩, fun x => by simp [KL], rfl⟩
theorem stL_nil : StL [] [] 0 [] (fun _ => []) (fun _ => 0) :=
  ⟨by simp, by simp, pm_nil, tk_nil, fun r hr => by
    have : cnt [] r = fun _ => 0 := by funext w; simp [cnt]
    rw [this]; exact cm_nil⟩
set_option maxHeartbeats 4000000 in
set_option maxRecDepth 100000 in
theorem new_os : Triple Go.Proofs.Try.prog 5 [] [] (.ptr 1000000 0 0) (stOs [] 0 [] (fun _ => []) (fun _ => 0)) := by
  refine stats_New_triple rfl (by decide) ?_
  simp only [stats_New_pc, List.length_nil, push_cast, ↓reduceIte, reduceCtorEq, Nat.reduceBEq, Nat.reduceEqDiff, Nat.reduceAdd, Nat.reduceSub, Nat.reduceLT, Nat.reduceLeDiff, Nat.reduceMul]
  repeat refine And.intro (by first | decide | omega | exact fun _ => by decide | (simp +contextual; done) | kernel_rfl) ?_
  refine call_mk new_t rfl trivial ?_
  simp only [push_cast, ↓reduceIte, reduceCtorEq, Nat.reduceBEq, Nat.reduceEqDiff, Nat.reduceAdd, Nat.reduceSub, Nat.reduceLT, Nat.reduceLeDiff, Nat.reduceMul]
  repeat refine And.intro (by first | decide | omega | exact fun _ => by decide | (simp +contextual; done) | kernel_rfl) ?_
  refine run_loop [(7, false), (1, false)] (fun vs pos los => ∃ r : Nat, r ≤ 13 ∧ vs = [int .i64 r, .ptr 2000000 0 0] ∧ pos = [] ∧ los = newOs r)
    (fun vs _ _ => match vs with | .r (.v (.int _ j)) :: _ => (13 - j).toNat | _ => 0) rfl ?_ ?_
  · simp only [push_cast, ↓reduceIte, reduceCtorEq, Nat.reduceBEq, Nat.reduceEqDiff, Nat.reduceAdd, Nat.reduceSub, Nat.reduceLT, Nat.reduceLeDiff, Nat.reduceMul]
    refine ⟨0, by omega, ?_⟩
    simp only [newOs]
    exact ⟨rfl, trivial⟩
  · rintro vs pos los ⟨r, hr, rfl, rfl, hlos⟩
    rcases (show r = 0 ∨ r = 1 ∨ r = 2 ∨ r = 3 ∨ r = 4 ∨ r = 5 ∨ r = 6 ∨ r = 7 ∨ r = 8 ∨ r = 9 ∨ r = 10 ∨ r = 11 ∨ r = 12 ∨ r = 13 by omega) with rfl | rfl | rfl | rfl | rfl | rfl | rfl | rfl | rfl | rfl | rfl | rfl | rfl | rfl
    · simp only [newOs] at hlos
      subst hlos
      simp only [show decide ((0 : Int) < 13) = true from rfl, Int.reduceToNat, push_cast, ↓reduceIte, reduceCtorEq, Nat.reduceBEq, Nat.reduceEqDiff, Nat.reduceAdd, Nat.reduceSub, Nat.reduceLT, Nat.reduceLeDiff, Nat.reduceMul]
      repeat refine And.intro (by first | decide | omega | exact fun _ => by decide | (simp +contextual; done) | kernel_rfl) ?_
      refine ⟨⟨0 + 1, by omega, rfl, rfl⟩, by decide⟩
    · simp only [newOs] at hlos
      subst hlos
      simp only [show decide ((1 : Int) < 13) = true from rfl, Int.reduceToNat, push_cast, ↓reduceIte, reduceCtorEq, Nat.reduceBEq, Nat.reduceEqDiff, Nat.reduceAdd, Nat.reduceSub, Nat.reduceLT, Nat.reduceLeDiff, Nat.reduceMul]
      repeat refine And.intro (by first | decide | omega | exact fun _ => by decide | (simp +contextual; done) | kernel_rfl) ?_
      refine ⟨⟨1 + 1, by omega, rfl, rfl⟩, by decide⟩
    · simp only [newOs] at hlos
      subst hlos
      simp only [show decide ((2 : Int) < 13) = true from rfl, Int.reduceToNat, push_cast, ↓reduceIte, reduceCtorEq, Nat.reduceBEq, Nat.reduceEqDiff, Nat.reduceAdd, Nat.reduceSub, Nat.reduceLT, Nat.reduceLeDiff, Nat.reduceMul]
      repeat refine And.intro (by first | decide | omega | exact fun _ => by decide | (simp +contextual; done) | kernel_rfl) ?_
      refine ⟨⟨2 + 1, by omega, rfl, rfl⟩, by decide⟩
    · simp only [newOs] at hlos
      subst hlos
      simp only [show decide ((3 : Int) < 13) = true from rfl, Int.reduceToNat, push_cast, ↓reduceIte, reduceCtorEq, Nat.reduceBEq, Nat.reduceEqDiff, Nat.reduceAdd, Nat.reduceSub, Nat.reduceLT, Nat.reduceLeDiff, Nat.reduceMul]
      repeat refine And.intro (by first | decide | omega | exact fun _ => by decide | (simp +contextual; done) | kernel_rfl) ?_
      refine ⟨⟨3 + 1, by omega, rfl, rfl⟩, by decide⟩
    · simp only [newOs] at hlos
      subst hlos
      simp only [show decide ((4 : Int) < 13) = true from rfl, Int.reduceToNat, push_cast, ↓reduceIte, reduceCtorEq, Nat.reduceBEq, Nat.reduceEqDiff, Nat.reduceAdd, Nat.reduceSub, Nat.reduceLT, Nat.reduceLeDiff, Nat.reduceMul]
      repeat refine And.intro (by first | decide | omega | exact fun _ => by decide | (simp +contextual; done) | kernel_rfl) ?_
      refine ⟨⟨4 + 1, by omega, rfl, rfl⟩, by decide⟩
    · simp only [newOs] at hlos
      subst hlos
      simp only [show decide ((5 : Int) < 13) = true from rfl, Int.reduceToNat, push_cast, ↓reduceIte, reduceCtorEq, Nat.reduceBEq, Nat.reduceEqDiff, Nat.reduceAdd, Nat.reduceSub, Nat.reduceLT, Nat.reduceLeDiff, Nat.reduceMul]
      repeat refine And.intro (by first | decide | omega | exact fun _ => by decide | (simp +contextual; done) | kernel_rfl) ?_
      refine ⟨⟨5 + 1, by omega, rfl, rfl⟩, by decide⟩
    · simp only [newOs] at hlos
      subst hlos
      simp only [show decide ((6 : Int) < 13) = true from rfl, Int.reduceToNat, push_cast, ↓reduceIte, reduceCtorEq, Nat.reduceBEq, Nat.reduceEqDiff, Nat.reduceAdd, Nat.reduceSub, Nat.reduceLT, Nat.reduceLeDiff, Nat.reduceMul]
      repeat refine And.intro (by first | decide | omega | exact fun _ => by decide | (simp +contextual; done) | kernel_rfl) ?_
      refine ⟨⟨6 + 1, by omega, rfl, rfl⟩, by decide⟩
    · simp only [newOs] at hlos
      subst hlos
      simp only [show decide ((7 : Int) < 13) = true from rfl, Int.reduceToNat, push_cast, ↓reduceIte, reduceCtorEq, Nat.reduceBEq, Nat.reduceEqDiff, Nat.reduceAdd, Nat.reduceSub, Nat.reduceLT, Nat.reduceLeDiff, Nat.reduceMul]
      repeat refine And.intro (by first | decide | omega | exact fun _ => by decide | (simp +contextual; done) | kernel_rfl) ?_
      refine ⟨⟨7 + 1, by omega, rfl, rfl⟩, by decide⟩
    · simp only [newOs] at hlos
      subst hlos
      simp only [show decide ((8 : Int) < 13) = true from rfl, Int.reduceToNat, push_cast, ↓reduceIte, reduceCtorEq, Nat.reduceBEq, Nat.reduceEqDiff, Nat.reduceAdd, Nat.reduceSub, Nat.reduceLT, Nat.reduceLeDiff, Nat.reduceMul]
      repeat refine And.intro (by first | decide | omega | exact fun _ => by decide | (simp +contextual; done) | kernel_rfl) ?_
      refine ⟨⟨8 + 1, by omega, rfl, rfl⟩, by decide⟩
    · simp only [newOs] at hlos
      subst hlos
      simp only [show decide ((9 : Int) < 13) = true from rfl, Int.reduceToNat, push_cast, ↓reduceIte, reduceCtorEq, Nat.reduceBEq, Nat.reduceEqDiff, Nat.reduceAdd, Nat.reduceSub, Nat.reduceLT, Nat.reduceLeDiff, Nat.reduceMul]
      repeat refine And.intro (by first | decide | omega | exact fun _ => by decide | (simp +contextual; done) | kernel_rfl) ?_
      refine ⟨⟨9 + 1, by omega, rfl, rfl⟩, by decide⟩
    · simp only [newOs] at hlos
      subst hlos
      simp only [show decide ((10 : Int) < 13) = true from rfl, Int.reduceToNat, push_cast, ↓reduceIte, reduceCtorEq, Nat.reduceBEq, Nat.reduceEqDiff, Nat.reduceAdd, Nat.reduceSub, Nat.reduceLT, Nat.reduceLeDiff, Nat.reduceMul]
      repeat refine And.intro (by first | decide | omega | exact fun _ => by decide | (simp +contextual; done) | kernel_rfl) ?_
      refine ⟨⟨10 + 1, by omega, rfl, rfl⟩, by decide⟩
    · simp only [newOs] at hlos
      subst hlos
      simp only [show decide ((11 : Int) < 13) = true from rfl, Int.reduceToNat, push_cast, ↓reduceIte, reduceCtorEq, Nat.reduceBEq, Nat.reduceEqDiff, Nat.reduceAdd, Nat.reduceSub, Nat.reduceLT, Nat.reduceLeDiff, Nat.reduceMul]
      repeat refine And.intro (by first | decide | omega | exact fun _ => by decide | (simp +contextual; done) | kernel_rfl) ?_
      refine ⟨⟨11 + 1, by omega, rfl, rfl⟩, by decide⟩
    · simp only [newOs] at hlos
      subst hlos
      simp only [show decide ((12 : Int) < 13) = true from rfl, Int.reduceToNat, push_cast, ↓reduceIte, reduceCtorEq, Nat.reduceBEq, Nat.reduceEqDiff, Nat.reduceAdd, Nat.reduceSub, Nat.reduceLT, Nat.reduceLeDiff, Nat.reduceMul]
      repeat refine And.intro (by first | decide | omega | exact fun _ => by decide | (simp +contextual; done) | kernel_rfl) ?_
      refine ⟨⟨12 + 1, by omega, rfl, rfl⟩, by decide⟩
    · simp only [newOs] at hlos
      subst hlos
      simp only [show decide ((13 : Int) < 13) = false from rfl, push_cast, ↓reduceIte, reduceCtorEq, Nat.reduceBEq, Nat.reduceEqDiff, Nat.reduceAdd, Nat.reduceSub, Nat.reduceLT, Nat.reduceLeDiff, Nat.reduceMul]
      rfl
theorem new_a : Triple Go.Proofs.Try.prog 5 [] [] (.ptr 1000000 0 0) [.abs (sT [])] :=
  packNew (F := SF []) ⟨_, _, _, _, _, stL_nil, rfl⟩ new_os
end Go.Ev


namespace Go.Ev
open Go
set_option linter.unusedSectionVars false
set_option linter.unnecessarySimpa false
set_option linter.unusedSimpArgs false
set_option linter.unusedVariables false
noncomputable def stats_Stats_Cell_1_pc : PC :=
  (.seq (.reg [⟨(some 2), none, 0, .act (.box (.t 0))⟩])
  (.seq (.seq (.reg [⟨(some 3), none, 0, .see (.fa 1 (.t 1))⟩,
    ⟨(some 4), none, 0, .see (.ld none (.t 3))⟩,
    ⟨(some 5), none, 0, .see (.bin .eql (.t 4) (.c (.r (.v (.int .i64 0)))))⟩])
  (.cond (.t 5)
    (.reg [⟨(some 6), none, 0, .see (.fa 1 (.t 2))⟩,
    ⟨(some 7), none, 0, .see (.ld none (.t 6))⟩,
    ⟨(some 8), none, 0, .see (.fa 3 (.t 1))⟩,
    ⟨none, none, 0, .act (.st 1 (.t 8) (.t 7))⟩])
    .skip))
  (.seq (.reg [⟨(some 9), none, 0, .see (.fa 1 (.t 1))⟩,
    ⟨(some 10), none, 0, .see (.ld none (.t 9))⟩,
    ⟨(some 11), none, 0, .see (.bin .add (.t 10) (.c (.r (.v (.int .i64 1)))))⟩,
    ⟨(some 12), none, 0, .see (.fa 1 (.t 1))⟩,
    ⟨none, none, 0, .act (.st 1 (.t 12) (.t 11))⟩])
  (.seq (.reg [⟨(some 13), none, 0, .see (.fa 2 (.t 1))⟩,
    ⟨(some 14), none, 0, .see (.ld none (.t 13))⟩,
    ⟨(some 15), none, 0, .see (.fa 1 (.t 2))⟩,
    ⟨(some 16), none, 0, .see (.ld none (.t 15))⟩,
    ⟨(some 17), none, 0, .see (.bin .add (.t 14) (.t 16))⟩,
    ⟨(some 18), none, 0, .see (.fa 2 (.t 1))⟩,
    ⟨none, none, 0, .act (.st 1 (.t 18) (.t 17))⟩])
  (.reg [⟨(some 19), none, 0, .see (.fa 1 (.t 2))⟩,
    ⟨(some 20), none, 0, .see (.ld none (.t 19))⟩,
    ⟨(some 21), none, 0, .see (.fa 4 (.t 1))⟩,
    ⟨none, none, 0, .act (.st 1 (.t 21) (.t 20))⟩])))))
noncomputable abbrev stats_Stats_Cell_1_code : Code := (Go.Proofs.Try.f22.body).getD .skip
theorem stats_Stats_Cell_1_chk : chkC Go.Proofs.Try.prog 22 stats_Stats_Cell_1_code stats_Stats_Cell_1_pc = true := by kernel_rfl
theorem stats_Stats_Cell_1_triple {args : List AV} {po ro : List Ob} {res : AV} (hal : args.length = 2) (hpo : po.length ≤ 1000)
    (h : run Go.Proofs.Try.prog po.length (RetP po.length [] fun v os => v = res ∧ os = ro) [.c stats_Stats_Cell_1_pc] ⟨argE 0 args, ob0 po⟩) : Triple Go.Proofs.Try.prog 22 args po res ro :=
  triple_of_W (fn := Go.Proofs.Try.f22) (c := stats_Stats_Cell_1_code) (pc := stats_Stats_Cell_1_pc) (rs := []) Go.Proofs.Try.func22 rfl (by decide) (by have := stats_Stats_Cell_1_chk; exact this) (by rw [hal]; decide) rfl (by kernel_rfl) (by kernel_rfl) (by decide) hpo (W_of_run h)

noncomputable def tree_Tree_Walk_1_pc : PC :=
  (.seq (.reg [⟨(some 3), none, 0, .act (.box (.t 0))⟩,
    ⟨(some 4), none, 0, .see (.mov (.c (.r (.v (.bool false)))))⟩])
  (.seq (.seq (.reg [⟨(some 5), none, 0, .see (.fa 0 (.t 3))⟩,
    ⟨(some 6), none, 0, .see (.ld none (.t 5))⟩,
    ⟨(some 7), none, 0, .see (.ld none (.t 1))⟩,
    ⟨(some 8), none, 0, .see (.bin .neq (.t 6) (.t 7))⟩])
  (.cond (.t 8)
    (.seq (.reg [⟨(some 4), none, 0, .see (.mov (.c (.r (.v (.bool false)))))⟩])
    .ret)
    .skip))
  (.seq (.reg [⟨(some 9), none, 0, .see (.ld none (.t 2))⟩,
    ⟨(some 10), none, 0, .see (.ld (some 3) (.t 3))⟩,
    ⟨(some 11), none, 1, .callv (.t 9) [(.t 10)]⟩])
  (.seq (.reg [⟨(some 4), none, 0, .see (.mov (.c (.r (.v (.bool true)))))⟩])
  .ret))))
noncomputable abbrev tree_Tree_Walk_1_code : Code := (Go.Proofs.Try.f38.body).getD .skip
theorem tree_Tree_Walk_1_chk : chkC Go.Proofs.Try.prog 12 tree_Tree_Walk_1_code tree_Tree_Walk_1_pc = true := by kernel_rfl
theorem tree_Tree_Walk_1_triple {args : List AV} {po ro : List Ob} {res : AV} (hal : args.length = 3) (hpo : po.length ≤ 1000)
    (h : run Go.Proofs.Try.prog po.length (RetP po.length [(4, false, none)] fun v os => v = res ∧ os = ro) [.c tree_Tree_Walk_1_pc] ⟨argE 0 args, ob0 po⟩) : Triple Go.Proofs.Try.prog 38 args po res ro :=
  triple_of_W (fn := Go.Proofs.Try.f38) (c := tree_Tree_Walk_1_code) (pc := tree_Tree_Walk_1_pc) (rs := [(4, false, none)]) Go.Proofs.Try.func38 rfl (by decide) (by have := tree_Tree_Walk_1_chk; exact this) (by rw [hal]; decide) rfl (by kernel_rfl) (by kernel_rfl) (by decide) hpo (W_of_run h)

noncomputable def stats_Stats_Len_pc : PC :=
  (.seq (.reg [⟨(some 2), none, 0, .see (.mov (.c (.r (.v (.int .i64 0)))))⟩])
  (.seq (.reg [⟨(some 3), none, 0, .see (.mov (.t 0))⟩,
    ⟨(some 4), none, 0, .see (.nck (.t 3))⟩,
    ⟨(some 5), none, 0, .see (.fa 0 (.t 4))⟩,
    ⟨(some 6), none, 0, .see (.ld none (.t 5))⟩,
    ⟨(some 7), none, 0, .see (.lenm (.t 6))⟩,
    ⟨(some 2), none, 0, .see (.mov (.t 7))⟩])
  .ret))
noncomputable abbrev stats_Stats_Len_code : Code := (Go.Proofs.Try.f7.body).getD .skip
theorem stats_Stats_Len_chk : chkC Go.Proofs.Try.prog 8 stats_Stats_Len_code stats_Stats_Len_pc = true := by kernel_rfl
theorem stats_Stats_Len_triple {args : List AV} {po ro : List Ob} {res : AV} (hal : args.length = 1) (hpo : po.length ≤ 1000)
    (h : run Go.Proofs.Try.prog po.length (RetP po.length [(2, false, none)] fun v os => v = res ∧ os = ro) [.c stats_Stats_Len_pc] ⟨argE 0 args, ob0 po⟩) : Triple Go.Proofs.Try.prog 7 args po res ro :=
  triple_of_W (fn := Go.Proofs.Try.f7) (c := stats_Stats_Len_code) (pc := stats_Stats_Len_pc) (rs := [(2, false, none)]) Go.Proofs.Try.func7 rfl (by decide) (by have := stats_Stats_Len_chk; exact this) (by rw [hal]; decide) rfl (by kernel_rfl) (by kernel_rfl) (by decide) hpo (W_of_run h)

/-- A cell's answer. -/
structure Sa where
  w : Int
  n : Int
  s : Int
  lo : Int
  hi : Int
deriving DecidableEq
def Sa.cs (s : Sa) : List AV := [int .u64 s.w, int .i64 s.n, int .i64 s.s, int .i64 s.lo, int .i64 s.hi]
def Sa.rv (s : Sa) : RV := .agg [.v (.int .u64 s.w), .v (.int .i64 s.n), .v (.int .i64 s.s), .v (.int .i64 s.lo), .v (.int .i64 s.hi)]
/-- A value more. -/
def Sa.add (s : Sa) (v : Int) : Sa := ⟨s.w, IntKind.i64.wrap (s.n + 1), IntKind.i64.wrap (s.s + v), if s.n = 0 then v else s.lo, v⟩
set_option maxRecDepth 100000 in
theorem cell1_t (k : Ky) (s : Sa) : Triple Go.Proofs.Try.prog 22 [k.av, .ptr 1000000 0 0] [.box s.cs] (.tup []) [.box (s.add k.v).cs] := by
  refine stats_Stats_Cell_1_triple rfl (by simp) ?_
  simp only [stats_Stats_Cell_1_pc, Ky.av, Ky.rv, Sa.cs, Sa.add, List.length_cons, List.length_nil, push_cast, ↓reduceIte, reduceCtorEq, Nat.reduceBEq, Nat.reduceEqDiff, Nat.reduceAdd, Nat.reduceSub, Nat.reduceLT, Nat.reduceLeDiff, Nat.reduceMul]
  refine cnd_mk (fun h => ?_) (fun h => ?_)
  · have h' : s.n = 0 := by simpa using h
    simp only [h', if_true, push_cast, ↓reduceIte, reduceCtorEq, Nat.reduceBEq, Nat.reduceEqDiff, Nat.reduceAdd, Nat.reduceSub, Nat.reduceLT, Nat.reduceLeDiff, Nat.reduceMul]
  · have h' : s.n ≠ 0 := by simpa using h
    simp only [h', if_false, push_cast, ↓reduceIte, reduceCtorEq, Nat.reduceBEq, Nat.reduceEqDiff, Nat.reduceAdd, Nat.reduceSub, Nat.reduceLT, Nat.reduceLeDiff, Nat.reduceMul]
set_option maxRecDepth 100000 in
theorem walk1_t (k : Ky) (w : Int) (s : Sa) : Triple Go.Proofs.Try.prog 38 [k.av, .ptr 1000000 0 0, .ptr 1000001 0 0] [.box [int .u64 w], .box [.fn (.func 22) [.ptr 1000002 0 0] 0], .box s.cs] (bl (k.c == w)) [.box [int .u64 w], .box [.fn (.func 22) [.ptr 1000002 0 0] 0], .box (if k.c == w then s.add k.v else s).cs] := by
  refine tree_Tree_Walk_1_triple rfl (by simp) ?_
  simp only [tree_Tree_Walk_1_pc, Ky.av, Ky.rv, Sa.cs, List.length_cons, List.length_nil, push_cast, ↓reduceIte, reduceCtorEq, Nat.reduceBEq, Nat.reduceEqDiff, Nat.reduceAdd, Nat.reduceSub, Nat.reduceLT, Nat.reduceLeDiff, Nat.reduceMul]
  have hne : (k.c != w) = !(k.c == w) := rfl
  cases hk : (k.c == w) with
  | false =>
    simp only [hne, hk, Bool.not_false, Bool.false_eq_true, if_false, push_cast, ↓reduceIte, reduceCtorEq, Nat.reduceBEq, Nat.reduceEqDiff, Nat.reduceAdd, Nat.reduceSub, Nat.reduceLT, Nat.reduceLeDiff, Nat.reduceMul]
  | true =>
    simp only [hne, hk, Bool.not_true, if_true, push_cast, ↓reduceIte, reduceCtorEq, Nat.reduceBEq, Nat.reduceEqDiff, Nat.reduceAdd, Nat.reduceSub, Nat.reduceLT, Nat.reduceLeDiff, Nat.reduceMul]
    refine ⟨by kernel_rfl, ?_⟩
    refine call_as (as' := [k.av, .ptr 1000000 0 0]) rfl ?_
    refine call_mk (cell1_t k s) rfl ⟨rfl, trivial⟩ ?_
    simp only [Sa.cs, push_cast, ↓reduceIte, reduceCtorEq, Nat.reduceBEq, Nat.reduceEqDiff, Nat.reduceAdd, Nat.reduceSub, Nat.reduceLT, Nat.reduceLeDiff, Nat.reduceMul]
theorem slen_t {L : List Pt} {os : List Ob} (h : SS L os) : Triple Go.Proofs.Try.prog 7 [.ptr 1000000 0 0] os (int .i64 L.length) (os ++ []) := by
  obtain ⟨es, c, ns, ce, cc, h, rfl⟩ := h
  have hl := pm_len h.pm
  rw [List.append_nil]
  refine stats_Stats_Len_triple rfl (by simp [stOs]) ?_
  simp only [stats_Stats_Len_pc, stOs, hl, List.length_cons, List.length_nil, push_cast, ↓reduceIte, reduceCtorEq, Nat.reduceBEq, Nat.reduceEqDiff, Nat.reduceAdd, Nat.reduceSub, Nat.reduceLT, Nat.reduceLeDiff, Nat.reduceMul]
theorem len_a (L : List Pt) : Triple Go.Proofs.Try.prog 7 [.ptr 1000000 0 0] [.abs (sT L)] (int .i64 L.length) [.abs (sT L)] :=
  pack (F := SF L) (F' := SF L) rfl (fun os h => ⟨os, h, slen_t h⟩) rfl (by simp) (by simp [Flat, FlatR])
end Go.Ev


namespace Go.Ev
open Go
set_option linter.unusedSectionVars false
set_option linter.unnecessarySimpa false
set_option linter.unusedSimpArgs false
set_option linter.unusedVariables false
noncomputable def tree_Tree_from_pc : PC :=
  (.seq (.reg [⟨(some 4), none, 0, .act (.box (.t 1))⟩])
  (.seq (.seq (.reg [⟨(some 9), none, 0, .see (.mov (.t 0))⟩,
    ⟨(some 10), none, 0, .see (.nck (.t 9))⟩,
    ⟨(some 11), none, 0, .see (.fa 0 (.t 10))⟩,
    ⟨(some 12), none, 0, .see (.ld none (.t 11))⟩,
    ⟨(some 13), none, 0, .see (.len false (.t 12))⟩,
    ⟨(some 14), none, 0, .see (.bin .eql (.t 13) (.c (.r (.v (.int .i64 0)))))⟩])
  (.cond (.t 14)
    .ret
    .skip))
  (.seq (.reg [⟨(some 15), none, 0, .see (.mov (.t 0))⟩,
    ⟨(some 16), none, 0, .see (.ld (some 3) (.t 4))⟩,
    ⟨(some 17), none, 1, .call 25 [(.t 15), (.t 16)]⟩,
    ⟨(some 6), none, 0, .see (.mov (.t 17))⟩])
  (.block 0 (.loop (.seq (.seq (.reg [⟨(some 18), none, 0, .see (.mov (.t 6))⟩,
    ⟨(some 19), none, 0, .see (.mov (.t 0))⟩,
    ⟨(some 20), none, 0, .see (.nck (.t 19))⟩,
    ⟨(some 21), none, 0, .see (.fa 0 (.t 20))⟩,
    ⟨(some 22), none, 0, .see (.ld none (.t 21))⟩,
    ⟨(some 23), none, 0, .see (.len false (.t 22))⟩,
    ⟨(some 24), none, 0, .see (.bin .lss (.t 18) (.t 23))⟩])
  (.cond (.t 24)
    .skip
    (.exit 0)))
  (.seq (.block 1 (.seq (.reg [⟨(some 27), none, 0, .see (.mov (.t 0))⟩,
    ⟨(some 28), none, 0, .see (.nck (.t 27))⟩,
    ⟨(some 29), none, 0, .see (.fa 0 (.t 28))⟩,
    ⟨(some 30), none, 0, .see (.ld none (.t 29))⟩,
    ⟨(some 31), none, 0, .see (.mov (.t 6))⟩,
    ⟨(some 32), none, 0, .see (.ia 1 (.sl 3 []) (.t 30) (.t 31))⟩,
    ⟨(some 33), none, 0, .see (.ld none (.t 32))⟩,
    ⟨(some 34), none, 0, .see (.len false (.t 33))⟩,
    ⟨(some 35), none, 0, .see (.mov (.c (.r (.v (.int .i64 0)))))⟩])
  (.block 2 (.loop (.seq (.reg [⟨(some 36), none, 0, .see (.bin .lss (.t 35) (.t 34))⟩])
  (.seq (.cond (.t 36)
    .skip
    (.exit 2))
  (.seq (.block 3 (.seq (.reg [⟨(some 37), none, 0, .see (.ia 3 (.agg [(.v (.int .u64 0)), (.v (.int .i64 0)), (.v (.int .i64 0))]) (.t 33) (.t 35))⟩,
    ⟨(some 38), none, 0, .see (.ld (some 3) (.t 37))⟩,
    ⟨(some 8), none, 0, .act (.new [(.r (.v (.int .u64 0))), (.r (.v (.int .i64 0))), (.r (.v (.int .i64 0)))])⟩,
    ⟨none, none, 0, .act (.st 3 (.t 8) (.t 38))⟩])
  (.seq (.reg [⟨(some 39), none, 0, .see (.ld (some 3) (.t 8))⟩,
    ⟨(some 40), none, 0, .see (.ld (some 3) (.t 4))⟩,
    ⟨(some 41), none, 2, .call 41 [(.t 39), (.t 40)]⟩,
    ⟨(some 42), none, 0, .see (.un .not (.t 41))⟩,
    ⟨(some 43), none, 0, .see (.mov (.t 42))⟩,
    ⟨(some 44), (some (43, true)), 0, .see (.mov (.t 2))⟩,
    ⟨(some 45), (some (43, true)), 0, .see (.ld (some 3) (.t 8))⟩,
    ⟨(some 46), (some (43, true)), 3, .callv (.t 44) [(.t 45)]⟩,
    ⟨(some 47), (some (43, true)), 0, .see (.un .not (.t 46))⟩,
    ⟨(some 48), none, 0, .see (.pick (.t 43) (.t 47) (.c (.r (.v (.bool false)))))⟩])
  (.cond (.t 48)
    .ret
    .skip))))
  (.reg [⟨(some 49), none, 0, .see (.bin .add (.t 35) (.c (.r (.v (.int .i64 1)))))⟩,
    ⟨(some 35), none, 0, .see (.mov (.t 49))⟩]))))))))
  (.reg [⟨(some 25), none, 0, .see (.mov (.t 6))⟩,
    ⟨(some 26), none, 0, .see (.bin .add (.t 25) (.c (.r (.v (.int .i64 1)))))⟩,
    ⟨(some 6), none, 0, .see (.mov (.t 26))⟩]))))))))
noncomputable abbrev tree_Tree_from_code : Code := (Go.Proofs.Try.f37.body).getD .skip
theorem tree_Tree_from_chk : chkC Go.Proofs.Try.prog 50 tree_Tree_from_code tree_Tree_from_pc = true := by kernel_rfl
theorem tree_Tree_from_triple {args : List AV} {po ro : List Ob} {res : AV} (hal : args.length = 3) (hpo : po.length ≤ 1000)
    (h : run Go.Proofs.Try.prog po.length (RetP po.length [] fun v os => v = res ∧ os = ro) [.c tree_Tree_from_pc] ⟨argE 0 args, ob0 po⟩) : Triple Go.Proofs.Try.prog 37 args po res ro :=
  triple_of_W (fn := Go.Proofs.Try.f37) (c := tree_Tree_from_code) (pc := tree_Tree_from_pc) (rs := []) Go.Proofs.Try.func37 rfl (by decide) (by have := tree_Tree_from_chk; exact this) (by rw [hal]; decide) rfl (by kernel_rfl) (by kernel_rfl) (by decide) hpo (W_of_run h)

noncomputable def tree_Tree_Walk_pc : PC :=
  (.seq (.reg [⟨(some 4), none, 0, .act (.box (.t 1))⟩,
    ⟨(some 5), none, 0, .act (.box (.t 2))⟩])
  (.seq (.reg [⟨(some 7), none, 0, .see (.mov (.t 0))⟩,
    ⟨(some 8), none, 0, .see (.mkf (.func 37) [(.t 7)] 1)⟩,
    ⟨(some 6), none, 0, .see (.mov (.t 8))⟩])
  (.reg [⟨(some 9), none, 0, .see (.mov (.t 6))⟩,
    ⟨(some 10), none, 0, .see (.ld none (.t 4))⟩,
    ⟨(some 11), none, 0, .see (.build [(.r (.v (.int .u64 0))), (.r (.v (.int .i64 0))), (.r (.v (.int .i64 0)))] [(0, 1, (.t 10)), (1, 1, (.c (.r (.v (.int .i64 (-9223372036854775808)))))), (2, 1, (.c (.r (.v (.int .i64 (-9223372036854775808))))))])⟩,
    ⟨(some 12), none, 0, .see (.mkf (.func 38) [(.t 4), (.t 5)])⟩,
    ⟨(some 13), none, 1, .callv (.t 9) [(.t 11), (.t 12)]⟩])))
noncomputable abbrev tree_Tree_Walk_code : Code := (Go.Proofs.Try.f21.body).getD .skip
theorem tree_Tree_Walk_chk : chkC Go.Proofs.Try.prog 14 tree_Tree_Walk_code tree_Tree_Walk_pc = true := by kernel_rfl
theorem tree_Tree_Walk_triple {args : List AV} {po ro : List Ob} {res : AV} (hal : args.length = 3) (hpo : po.length ≤ 1000)
    (h : run Go.Proofs.Try.prog po.length (RetP po.length [] fun v os => v = res ∧ os = ro) [.c tree_Tree_Walk_pc] ⟨argE 0 args, ob0 po⟩) : Triple Go.Proofs.Try.prog 21 args po res ro :=
  triple_of_W (fn := Go.Proofs.Try.f21) (c := tree_Tree_Walk_code) (pc := tree_Tree_Walk_pc) (rs := []) Go.Proofs.Try.func21 rfl (by decide) (by have := tree_Tree_Walk_chk; exact this) (by rw [hal]; decide) rfl (by kernel_rfl) (by kernel_rfl) (by decide) hpo (W_of_run h)

noncomputable def stats_Stats_Cell_pc : PC :=
  (.seq (.reg [⟨(some 4), none, 0, .act (.new [(.r (.v (.int .u64 0))), (.r (.v (.int .i64 0))), (.r (.v (.int .i64 0))), (.r (.v (.int .i64 0))), (.r (.v (.int .i64 0)))])⟩,
    ⟨(some 5), none, 0, .see (.mov (.c (.r (.v (.bool false)))))⟩])
  (.seq (.reg [⟨(some 7), none, 0, .see (.mov (.t 1))⟩,
    ⟨(some 8), none, 0, .see (.build [(.r (.v (.int .u64 0))), (.r (.v (.int .i64 0))), (.r (.v (.int .i64 0))), (.r (.v (.int .i64 0))), (.r (.v (.int .i64 0)))] [(0, 1, (.t 7))])⟩,
    ⟨(some 6), none, 0, .act (.new [(.r (.v (.int .u64 0))), (.r (.v (.int .i64 0))), (.r (.v (.int .i64 0))), (.r (.v (.int .i64 0))), (.r (.v (.int .i64 0)))])⟩,
    ⟨none, none, 0, .act (.st 5 (.t 6) (.t 8))⟩])
  (.seq (.reg [⟨(some 9), none, 0, .see (.mov (.t 0))⟩,
    ⟨(some 10), none, 0, .see (.nck (.t 9))⟩,
    ⟨(some 11), none, 0, .see (.fa 1 (.t 10))⟩,
    ⟨(some 12), none, 0, .see (.ld none (.t 11))⟩,
    ⟨(some 13), none, 0, .see (.mov (.t 1))⟩,
    ⟨(some 14), none, 0, .see (.mkf (.func 22) [(.t 6)])⟩,
    ⟨(some 15), none, 1, .call 21 [(.t 12), (.t 13), (.t 14)]⟩])
  (.seq (.seq (.reg [⟨(some 16), none, 0, .see (.fa 1 (.t 6))⟩,
    ⟨(some 17), none, 0, .see (.ld none (.t 16))⟩,
    ⟨(some 18), none, 0, .see (.bin .eql (.t 17) (.c (.r (.v (.int .i64 0)))))⟩])
  (.cond (.t 18)
    (.seq (.reg [⟨(some 19), none, 0, .see (.build [(.r (.v (.int .u64 0))), (.r (.v (.int .i64 0))), (.r (.v (.int .i64 0))), (.r (.v (.int .i64 0))), (.r (.v (.int .i64 0)))] [])⟩,
    ⟨none, none, 0, .act (.st 5 (.t 4) (.t 19))⟩,
    ⟨(some 5), none, 0, .see (.mov (.c (.r (.v (.bool false)))))⟩])
    .ret)
    .skip))
  (.seq (.reg [⟨(some 20), none, 0, .see (.ld (some 5) (.t 6))⟩,
    ⟨none, none, 0, .act (.st 5 (.t 4) (.t 20))⟩,
    ⟨(some 5), none, 0, .see (.mov (.c (.r (.v (.bool true)))))⟩])
  .ret)))))
noncomputable abbrev stats_Stats_Cell_code : Code := (Go.Proofs.Try.f13.body).getD .skip
theorem stats_Stats_Cell_chk : chkC Go.Proofs.Try.prog 21 stats_Stats_Cell_code stats_Stats_Cell_pc = true := by kernel_rfl
theorem stats_Stats_Cell_triple {args : List AV} {po ro : List Ob} {res : AV} (hal : args.length = 2) (hpo : po.length ≤ 1000)
    (h : run Go.Proofs.Try.prog po.length (RetP po.length [(4, false, some (38, (some 5))), (5, false, none)] fun v os => v = res ∧ os = ro) [.c stats_Stats_Cell_pc] ⟨argE 0 args, ob0 po⟩) : Triple Go.Proofs.Try.prog 13 args po res ro :=
  triple_of_W (fn := Go.Proofs.Try.f13) (c := stats_Stats_Cell_code) (pc := stats_Stats_Cell_pc) (rs := [(4, false, some (38, (some 5))), (5, false, none)]) Go.Proofs.Try.func13 rfl (by decide) (by have := stats_Stats_Cell_chk; exact this) (by rw [hal]; decide) rfl (by kernel_rfl) (by kernel_rfl) (by decide) hpo (W_of_run h)

def kz : RV := .agg [.v (.int .u64 0), .v (.int .i64 0), .v (.int .i64 0)]
theorem keys_get {l : List Ky} {i : Nat} {k : Ky} (hk : l[i]? = some k) : (l.map Ky.rv).getD ((i : Int)).toNat (.agg [.v (.int .u64 0), .v (.int .i64 0), .v (.int .i64 0)]) = .agg [.v (.int .u64 k.c), .v (.int .i64 k.v), .v (.int .i64 k.d)] := by
  simp [List.getD, hk, Ky.rv]
/-- What is told of a cell. -/
def tc (lo : Ky) (w : Int) (r : List Ky) : List Ky := (r.filter fun k => !kl k lo).takeWhile fun k => k.c == w
theorem tc_skip {lo k : Ky} {w : Int} {r : List Ky} (h : kl k lo = true) : tc lo w (k :: r) = tc lo w r := by simp [tc, h]
theorem tc_take {lo k : Ky} {w : Int} {r : List Ky} (h : kl k lo = false) (h2 : (k.c == w) = true) : tc lo w (k :: r) = k :: tc lo w r := by simp [tc, h, h2]
theorem tc_stop {lo k : Ky} {w : Int} {r : List Ky} (h : kl k lo = false) (h2 : (k.c == w) = false) : tc lo w (k :: r) = [] := by simp [tc, h, h2]
def addL (s : Sa) (l : List Ky) : Sa := l.foldl (fun s k => s.add k.v) s
def ccO (w : Int) (s : Sa) : List Ob := [.box [int .u64 w], .box [.fn (.func 22) [.ptr 1000002 0 0] 0], .box s.cs]
def ccF : AV := .fn (.func 38) [.ptr 1000000 0 0, .ptr 1000001 0 0] 0
set_option maxRecDepth 100000 in
set_option maxHeartbeats 1000000 in
theorem fromC_t (ns : List (List Ky)) (n : Int) (lo : Ky) (r : Nat) (h : Nod ns lo r) (h0 : ns ≠ []) (hn : ns.flatten.length ≤ 100000) (w : Int) (s : Sa) :
    Triple Go.Proofs.Try.prog 37 [.rp (tview ns n), lo.av, ccF] (ccO w s) (.tup []) (ccO w (addL s (tc lo w (ns.drop (r - 1)).flatten))) := by
  refine tree_Tree_from_triple rfl (by simp [ccO]) ?_
  have hne : ((ns.length : Int) == 0) = false := by simp [h0]
  have hfn : isFn Go.Proofs.Try.prog 38 = true := rfl
  simp only [tree_Tree_from_pc, ccO, ccF, Sa.cs, tview, Ky.av, Ky.rv, Ky.cs, kz, List.length_cons, List.length_nil, List.length_map, hne, push_cast, ↓reduceIte, reduceCtorEq, Nat.reduceBEq, Nat.reduceEqDiff, Nat.reduceAdd, Nat.reduceSub, Nat.reduceLT, Nat.reduceLeDiff, Nat.reduceMul]
  refine call_mk (node_t ns n lo r h) rfl trivial ?_
  simp only [List.length_map, push_cast, ↓reduceIte, reduceCtorEq, Nat.reduceBEq, Nat.reduceEqDiff, Nat.reduceAdd, Nat.reduceSub, Nat.reduceLT, Nat.reduceLeDiff, Nat.reduceMul]
  generalize hR : addL s (tc lo w (ns.drop (r - 1)).flatten) = R
  refine run_loop [(0, false), (2, false), (4, false), (6, false)] (fun vs pos los => ∃ (a : Nat) (s' : Sa), a ≤ ns.length ∧ R = addL s' (tc lo w (ns.drop a).flatten) ∧
      vs = [.rp (tview ns n), ccF, .ptr 2000000 0 0, int .i64 a] ∧ pos = ccO w s' ∧ los = [.box lo.cs])
    (fun vs _ _ => match vs with | [_, _, _, .r (.v (.int _ a))] => (ns.length - a).toNat | _ => 0) rfl ?_ ?_
  · simp only [tview, ccO, ccF, Ky.cs, Sa.cs, kz, push_cast, ↓reduceIte, reduceCtorEq, Nat.reduceBEq, Nat.reduceEqDiff, Nat.reduceAdd, Nat.reduceSub, Nat.reduceLT, Nat.reduceLeDiff, Nat.reduceMul]
    have := h.le
    exact ⟨r - 1, s, by omega, hR.symm, by simp⟩
  · rintro vs pos los ⟨a, s1, ha, hf, rfl, rfl, rfl⟩
    simp only [tview, ccO, ccF, Sa.cs, Ky.cs, List.length_map, push_cast, ↓reduceIte, reduceCtorEq, Nat.reduceBEq, Nat.reduceEqDiff, Nat.reduceAdd, Nat.reduceSub, Nat.reduceLT, Nat.reduceLeDiff, Nat.reduceMul]
    refine cnd_mk (fun h1 => ?_) (fun h1 => ?_)
    · have h1' : a < ns.length := by simpa using h1
      obtain ⟨l, hl⟩ : ∃ l, ns[a]? = some l := ⟨ns[a], by simp [h1']⟩
      have hll := (h.ne a l hl).2
      have hd : ns.drop a = l :: ns.drop (a + 1) := by
        rw [List.drop_eq_getElem_cons h1', (List.getElem?_eq_some_iff.1 hl).2]
      rw [hd, List.flatten_cons] at hf
      have hg : (ns.map keys).getD ((a : Int)).toNat (.sl 3 []) = .sl 3 (l.map Ky.rv) := by simp [List.getD, hl, keys]
      have ha1 : IntKind.i64.wrap ((a : Int) + 1) = (a : Int) + 1 := wrap_id ⟨by omega, by have := h.len; simp only [maxLen] at this; omega⟩
      simp only [tview, List.length_map, hg, push_cast, ↓reduceIte, reduceCtorEq, Nat.reduceBEq, Nat.reduceEqDiff, Nat.reduceAdd, Nat.reduceSub, Nat.reduceLT, Nat.reduceLeDiff, Nat.reduceMul]
      refine And.intro ⟨by omega, by omega⟩ ?_
      refine run_loop [(0, false), (2, false), (4, false), (6, false), (33, false), (34, false), (35, false)] (fun vs pos los => ∃ (j : Nat) (s' : Sa), j ≤ l.length ∧ R = addL s' (tc lo w (l.drop j ++ (ns.drop (a + 1)).flatten)) ∧
          vs = [.rp (tview ns n), ccF, .ptr 2000000 0 0, int .i64 a, .r (keys l), int .i64 l.length, int .i64 j] ∧ pos = ccO w s' ∧ los = [.box lo.cs])
        (fun vs _ _ => match vs with | [_, _, _, _, _, _, .r (.v (.int _ a))] => (l.length - a).toNat | _ => 0) rfl ?_ ?_
      · simp only [tview, keys, ccO, ccF, Ky.cs, Sa.cs, push_cast, ↓reduceIte, reduceCtorEq, Nat.reduceBEq, Nat.reduceEqDiff, Nat.reduceAdd, Nat.reduceSub, Nat.reduceLT, Nat.reduceLeDiff, Nat.reduceMul]
        exact ⟨0, s1, by omega, hf, by simp⟩
      · rintro vs pos los ⟨j, s2, hj, hf2, rfl, rfl, rfl⟩
        simp only [tview, keys, ccO, ccF, Ky.cs, Sa.cs, List.length_map, push_cast, ↓reduceIte, reduceCtorEq, Nat.reduceBEq, Nat.reduceEqDiff, Nat.reduceAdd, Nat.reduceSub, Nat.reduceLT, Nat.reduceLeDiff, Nat.reduceMul]
        refine cnd_mk (fun h2 => ?_) (fun h2 => ?_)
        · have h2' : j < l.length := by simpa using h2
          have hj1 : IntKind.i64.wrap ((j : Int) + 1) = (j : Int) + 1 := wrap_id ⟨by omega, by simp only [maxLen] at hll; omega⟩
          obtain ⟨k, hk⟩ : ∃ k, l[j]? = some k := ⟨l[j], by simp [h2']⟩
          have hkd : l.drop j = k :: l.drop (j + 1) := by
            rw [List.drop_eq_getElem_cons h2', (List.getElem?_eq_some_iff.1 hk).2]
          rw [hkd, List.cons_append] at hf2
          simp only [tview, keys, List.length_map, keys_get hk, push_cast, ↓reduceIte, reduceCtorEq, Nat.reduceBEq, Nat.reduceEqDiff, Nat.reduceAdd, Nat.reduceSub, Nat.reduceLT, Nat.reduceLeDiff, Nat.reduceMul]
          refine And.intro ⟨by omega, by omega⟩ (call_mk (less_t k lo) rfl trivial ?_)
          rcases hkl : kl k lo with _ | _
          · simp only [tview, Ky.cs, Sa.cs, keys, List.length_map, keys_get hk, hfn, Bool.not_false, push_cast, ↓reduceIte, reduceCtorEq, Nat.reduceBEq, Nat.reduceEqDiff, Nat.reduceAdd, Nat.reduceSub, Nat.reduceLT, Nat.reduceLeDiff, Nat.reduceMul]
            refine call_as (as' := [k.av, .ptr 1000000 0 0, .ptr 1000001 0 0]) rfl ?_
            refine call_mk (walk1_t k w s2) rfl ⟨rfl, rfl, rfl, trivial⟩ ?_
            rcases hkw : (k.c == w) with _ | _
            · rw [tc_stop hkl hkw] at hf2
              simp only [tview, Ky.cs, Sa.cs, keys, kz, List.length_map, Bool.false_eq_true, if_false, push_cast, ↓reduceIte, reduceCtorEq, Nat.reduceBEq, Nat.reduceEqDiff, Nat.reduceAdd, Nat.reduceSub, Nat.reduceLT, Nat.reduceLeDiff, Nat.reduceMul]
              rw [hf2]
              rfl
            · rw [tc_take hkl hkw] at hf2
              simp only [tview, Ky.cs, Sa.cs, keys, kz, List.length_map, hj1, if_true, push_cast, ↓reduceIte, reduceCtorEq, Nat.reduceBEq, Nat.reduceEqDiff, Nat.reduceAdd, Nat.reduceSub, Nat.reduceLT, Nat.reduceLeDiff, Nat.reduceMul]
              exact ⟨⟨j + 1, s2.add k.v, by omega, hf2, by simp⟩, by omega⟩
          · rw [tc_skip hkl] at hf2
            simp only [tview, Ky.cs, Sa.cs, keys, List.length_map, Bool.not_true, hj1, push_cast, ↓reduceIte, reduceCtorEq, Nat.reduceBEq, Nat.reduceEqDiff, Nat.reduceAdd, Nat.reduceSub, Nat.reduceLT, Nat.reduceLeDiff, Nat.reduceMul]
            exact ⟨⟨j + 1, s2, by omega, hf2, by simp⟩, by omega⟩
        · have h2' : ¬ j < l.length := by simpa using h2
          rw [List.drop_eq_nil_of_le (by omega), List.nil_append] at hf2
          simp only [tview, keys, List.length_map, ha1, push_cast, ↓reduceIte, reduceCtorEq, Nat.reduceBEq, Nat.reduceEqDiff, Nat.reduceAdd, Nat.reduceSub, Nat.reduceLT, Nat.reduceLeDiff, Nat.reduceMul]
          exact ⟨⟨a + 1, s2, by omega, hf2, by simp⟩, by omega⟩
    · have h1' : ¬ a < ns.length := by simpa using h1
      rw [List.drop_eq_nil_of_le (by omega)] at hf
      simp only [tview, List.length_map, push_cast, ↓reduceIte, reduceCtorEq, Nat.reduceBEq, Nat.reduceEqDiff, Nat.reduceAdd, Nat.reduceSub, Nat.reduceLT, Nat.reduceLeDiff, Nat.reduceMul]
      rw [hf]
      rfl
end Go.Ev


namespace Go.Ev
open Go
set_option linter.unusedSectionVars false
set_option linter.unnecessarySimpa false
set_option linter.unusedSimpArgs false
set_option linter.unusedVariables false
set_option maxRecDepth 100000 in
theorem fromC_all {ns : List (List Ky)} (h : Good ns) (hn : ns.flatten.length ≤ 100000) (n : Int) (lo : Ky) (w : Int) (s : Sa) :
    Triple Go.Proofs.Try.prog 37 [.rp (tview ns n), lo.av, ccF] (ccO w s) (.tup []) (ccO w (addL s (tc lo w ns.flatten))) := by
  by_cases h0 : ns = []
  · subst h0
    refine tree_Tree_from_triple rfl (by simp [ccO]) ?_
    simp only [tree_Tree_from_pc, ccO, ccF, Sa.cs, tview, Ky.av, Ky.rv, Ky.cs, kz, List.length_nil, List.length_cons, List.map_nil, push_cast, ↓reduceIte, reduceCtorEq, Nat.reduceBEq, Nat.reduceEqDiff, Nat.reduceAdd, Nat.reduceSub, Nat.reduceLT, Nat.reduceLeDiff, Nat.reduceMul]
    rfl
  · have := fromC_t ns n lo _ (nodeIx_ok h (by omega) _) h0 hn w s
    obtain ⟨i, q, l, hs⟩ := spt h (by omega) lo h0
    rw [hs.nx] at this
    have hd : ns.drop i = l :: ns.drop (i + 1) := by
      rw [List.drop_eq_getElem_cons hs.lt, (List.getElem?_eq_some_iff.1 hs.at_).2]
    have e : tc lo w ns.flatten = tc lo w (ns.drop i).flatten := by
      rw [hs.all, hd, List.flatten_cons]
      unfold tc
      conv => lhs; rw [List.filter_append]
      have : List.filter (fun k => !kl k lo) (List.take i ns).flatten = [] := by
        rw [List.filter_eq_nil_iff]
        intro x hx
        simp [hs.ahead x hx]
      rw [this, List.nil_append]
    rw [e]
    exact this
/-- The same through the pointer. -/
def ccF1 : AV := .fn (.func 38) [.ptr 1000001 0 0, .ptr 1000002 0 0] 0
def ccO1 (w : Int) (s : Sa) : List Ob := [.box [int .u64 w], .box [.fn (.func 22) [.ptr 1000003 0 0] 0], .box s.cs]
theorem fromC_p {ns : List (List Ky)} (h : Good ns) (hn : ns.flatten.length ≤ 100000) (lo : Ky) (w : Int) (s : Sa) :
    Triple Go.Proofs.Try.prog 37 [.ptr 1000000 0 0, lo.av, ccF1] (.abs (tr ns) :: ccO1 w s) (.tup []) (.abs (tr ns) :: ccO1 w (addL s (tc lo w ns.flatten))) :=
  viewP (T := tr ns) (po := ccO w s) (fromC_all h hn ns.flatten.length lo w s) rfl rfl rfl rfl
    (by simp [ccO1, FlatO, Sa.cs, Flats, Flat, FlatR]) (by simp [ccO, FlatO, Sa.cs, Flats, Flat, FlatR]) (by simp [Flat, Flats])
set_option maxRecDepth 100000 in
theorem walkC_t {ns : List (List Ky)} (h : Good ns) (hn : ns.flatten.length ≤ 100000) (w : Int) (s : Sa) :
    Triple Go.Proofs.Try.prog 21 [.ptr 1000000 0 0, int .u64 w, .fn (.func 22) [.ptr 1000001 0 0] 0] [.abs (tr ns), .box s.cs] (.tup []) [.abs (tr ns), .box (addL s (tc ⟨w, -9223372036854775808, -9223372036854775808⟩ w ns.flatten)).cs] := by
  refine tree_Tree_Walk_triple rfl (by simp) ?_
  simp only [tree_Tree_Walk_pc, Sa.cs, List.length_cons, List.length_nil, push_cast, ↓reduceIte, reduceCtorEq, Nat.reduceBEq, Nat.reduceEqDiff, Nat.reduceAdd, Nat.reduceSub, Nat.reduceLT, Nat.reduceLeDiff, Nat.reduceMul]
  refine ⟨by kernel_rfl, ?_⟩
  refine call_as (as' := [.ptr 1000000 0 0, Ky.av ⟨w, -9223372036854775808, -9223372036854775808⟩, ccF1]) rfl ?_
  refine call_mk (fromC_p h hn _ w s) rfl ⟨rfl, rfl, rfl, rfl, trivial⟩ ?_
  simp only [ccO1, Sa.cs, push_cast, ↓reduceIte, reduceCtorEq, Nat.reduceBEq, Nat.reduceEqDiff, Nat.reduceAdd, Nat.reduceSub, Nat.reduceLT, Nat.reduceLeDiff, Nat.reduceMul]
end Go.Ev


namespace Go.Ev
open Go
set_option linter.unusedSectionVars false
set_option linter.unnecessarySimpa false
set_option linter.unusedSimpArgs false
set_option linter.unusedVariables false
/-- The answer of a cell. -/
def cellV (s : Sa) : AV := if s.n = 0 then .tup [.r (Sa.rv ⟨0, 0, 0, 0, 0⟩), bl false] else .tup [.r s.rv, bl true]
section
variable {L : List Pt} {es : List MapEntry} {c : Nat} {ns : List (List Ky)} {ce : Nat → List MapEntry} {cc : Nat → Nat}
def saOf (ns : List (List Ky)) (w : Int) : Sa := addL ⟨w, 0, 0, 0, 0⟩ (tc ⟨w, -9223372036854775808, -9223372036854775808⟩ w ns.flatten)
set_option maxRecDepth 100000 in
theorem cell_os (h : StL L es c ns ce cc) (w : Int) : Triple Go.Proofs.Try.prog 13 [.ptr 1000000 0 0, int .u64 w] (stOs es c ns ce cc) (cellV (saOf ns w)) (stOs es c ns ce cc) := by
  have hT := walkC_t h.tk.g (by rw [h.tk.l]; have := h.le; omega) w ⟨w, 0, 0, 0, 0⟩
  refine stats_Stats_Cell_triple rfl (by simp [stOs]) ?_
  simp only [stats_Stats_Cell_pc, stOs, List.length_cons, List.length_nil, push_cast, ↓reduceIte, reduceCtorEq, Nat.reduceBEq, Nat.reduceEqDiff, Nat.reduceAdd, Nat.reduceSub, Nat.reduceLT, Nat.reduceLeDiff, Nat.reduceMul]
  repeat refine And.intro (by first | decide | omega | exact fun _ => by decide | (simp +contextual; done) | kernel_rfl) ?_
  refine call_mk hT rfl ⟨rfl, rfl, trivial⟩ ?_
  unfold saOf
  generalize addL ⟨w, 0, 0, 0, 0⟩ (tc ⟨w, -9223372036854775808, -9223372036854775808⟩ w ns.flatten) = q
  simp only [Sa.cs, push_cast, ↓reduceIte, reduceCtorEq, Nat.reduceBEq, Nat.reduceEqDiff, Nat.reduceAdd, Nat.reduceSub, Nat.reduceLT, Nat.reduceLeDiff, Nat.reduceMul]
  refine cnd_mk (fun h0 => ?_) (fun h0 => ?_)
  · have h0' : q.n = 0 := by simpa using h0
    simp only [cellV, h0', if_true, Sa.rv, push_cast, ↓reduceIte, reduceCtorEq, Nat.reduceBEq, Nat.reduceEqDiff, Nat.reduceAdd, Nat.reduceSub, Nat.reduceLT, Nat.reduceLeDiff, Nat.reduceMul]
  · have h0' : q.n ≠ 0 := by simpa using h0
    simp only [cellV, h0', if_false, Sa.rv, push_cast, ↓reduceIte, reduceCtorEq, Nat.reduceBEq, Nat.reduceEqDiff, Nat.reduceAdd, Nat.reduceSub, Nat.reduceLT, Nat.reduceLeDiff, Nat.reduceMul]
/-- What a cell's answer is, of these points. -/
def CellIs (L : List Pt) (w : Int) (s : Sa) : Prop := ∃ ns, TK (KL L) (13 * L.length) ns ∧ s = saOf ns w
end
end Go.Ev


namespace Go.Ev
open Go
set_option linter.unusedSectionVars false
set_option linter.unnecessarySimpa false
set_option linter.unusedSimpArgs false
set_option linter.unusedVariables false
/-! The answer of a cell in plain words. -/
def inC (w : Nat) (p : Pt) : Bool := (List.range 13).any fun r => p.w r == w
def mem (L : List Pt) (w : Nat) : List Pt := L.filter (inC w)
def sumV (M : List Pt) : Int := (M.map (·.v)).sum
def loV : List Pt → Int
  | [] => 0
  | p :: l => l.foldl (fun a q => min a q.v) p.v
def hiV : List Pt → Int
  | [] => 0
  | p :: l => l.foldl (fun a q => max a q.v) p.v
theorem inC_iff {w : Nat} {p : Pt} : inC w p = true ↔ ∃ r, r < 13 ∧ p.w r = w := by simp [inC]
theorem min_fold : ∀ (l : List Pt) (a : Int), (l.foldl (fun a q => min a q.v) a ≤ a ∧ ∀ q ∈ l, l.foldl (fun a q => min a q.v) a ≤ q.v) ∧ (l.foldl (fun a q => min a q.v) a = a ∨ ∃ q ∈ l, l.foldl (fun a q => min a q.v) a = q.v)
  | [], a => by simp
  | p :: l, a => by
    obtain ⟨⟨h1, h2⟩, h3⟩ := min_fold l (min a p.v)
    simp only [List.foldl_cons]
    refine ⟨⟨by omega, fun q hq => ?_⟩, ?_⟩
    · rcases List.mem_cons.1 hq with rfl | hq
      · omega
      · exact h2 q hq
    · rcases h3 with h3 | ⟨q, hq, h3⟩
      · rcases (show min a p.v = a ∨ min a p.v = p.v by omega) with e | e
        · exact .inl (h3.trans e)
        · exact .inr ⟨p, by simp, h3.trans e⟩
      · exact .inr ⟨q, by simp [hq], h3⟩
theorem max_fold : ∀ (l : List Pt) (a : Int), (a ≤ l.foldl (fun a q => max a q.v) a ∧ ∀ q ∈ l, q.v ≤ l.foldl (fun a q => max a q.v) a) ∧ (l.foldl (fun a q => max a q.v) a = a ∨ ∃ q ∈ l, l.foldl (fun a q => max a q.v) a = q.v)
  | [], a => by simp
  | p :: l, a => by
    obtain ⟨⟨h1, h2⟩, h3⟩ := max_fold l (max a p.v)
    simp only [List.foldl_cons]
    refine ⟨⟨by omega, fun q hq => ?_⟩, ?_⟩
    · rcases List.mem_cons.1 hq with rfl | hq
      · omega
      · exact h2 q hq
    · rcases h3 with h3 | ⟨q, hq, h3⟩
      · rcases (show max a p.v = a ∨ max a p.v = p.v by omega) with e | e
        · exact .inl (h3.trans e)
        · exact .inr ⟨p, by simp, h3.trans e⟩
      · exact .inr ⟨q, by simp [hq], h3⟩
theorem loV_is {M : List Pt} (h : M ≠ []) : (∃ q ∈ M, q.v = loV M) ∧ ∀ q ∈ M, loV M ≤ q.v := by
  rcases M with _ | ⟨p, l⟩
  · exact absurd rfl h
  obtain ⟨⟨h1, h2⟩, h3⟩ := min_fold l p.v
  refine ⟨?_, fun q hq => ?_⟩
  · rcases h3 with h3 | ⟨q, hq, h3⟩
    · exact ⟨p, by simp, h3.symm⟩
    · exact ⟨q, by simp [hq], h3.symm⟩
  · rcases List.mem_cons.1 hq with rfl | hq
    · exact h1
    · exact h2 q hq
theorem hiV_is {M : List Pt} (h : M ≠ []) : (∃ q ∈ M, q.v = hiV M) ∧ ∀ q ∈ M, q.v ≤ hiV M := by
  rcases M with _ | ⟨p, l⟩
  · exact absurd rfl h
  obtain ⟨⟨h1, h2⟩, h3⟩ := max_fold l p.v
  refine ⟨?_, fun q hq => ?_⟩
  · rcases h3 with h3 | ⟨q, hq, h3⟩
    · exact ⟨p, by simp, h3.symm⟩
    · exact ⟨q, by simp [hq], h3.symm⟩
  · rcases List.mem_cons.1 hq with rfl | hq
    · exact h1
    · exact h2 q hq
theorem kl_iff {a b : Ky} : kl a b = true ↔ a.c < b.c ∨ (a.c = b.c ∧ (a.v < b.v ∨ (a.v = b.v ∧ a.d < b.d))) := by
  unfold kl
  split
  · rw [decide_eq_true_iff]; omega
  · split
    · rw [decide_eq_true_iff]; omega
    · rw [decide_eq_true_iff]; omega
theorem kl_no {a b : Ky} : kl a b = false ↔ ¬ (a.c < b.c ∨ (a.c = b.c ∧ (a.v < b.v ∨ (a.v = b.v ∧ a.d < b.d)))) := by
  rw [← kl_iff]; simp
theorem tw_c {w : Int} : ∀ {M : List Ky}, Srt M → (∀ k ∈ M, w ≤ k.c) → M.takeWhile (fun k => k.c == w) = M.filter fun k => k.c == w
  | [], _, _ => rfl
  | x :: M, h, hw => by
    have h1 := List.pairwise_cons.1 h
    rw [List.takeWhile_cons, List.filter_cons]
    rcases hx : (x.c == w) with _ | _
    · simp only [Bool.false_eq_true, if_false]
      rw [eq_comm, List.filter_eq_nil_iff]
      intro y hy hc
      have := kl_iff.1 (h1.1 y hy)
      have hxw := hw x (by simp)
      simp at hx hc
      omega
    · simp only [if_true]
      rw [tw_c h1.2 fun k hk => hw k (by simp [hk])]
theorem tc_eq {K : List Ky} (h : Srt K) (w : Int) (hb : ∀ k ∈ K, -9223372036854775808 ≤ k.v ∧ -9223372036854775808 ≤ k.d) : tc ⟨w, -9223372036854775808, -9223372036854775808⟩ w K = K.filter fun k => k.c == w := by
  unfold tc
  rw [tw_c (h.sublist List.filter_sublist), List.filter_filter]
  · apply List.filter_congr
    intro k hk
    have := hb k hk
    rcases hc : (k.c == w) with _ | _
    · rfl
    · simp at hc
      rw [Bool.true_and, Bool.not_eq_true', kl_no]
      simp only
      omega
  · intro k hk
    obtain ⟨h1, h2⟩ := List.mem_filter.1 hk
    have := hb k h1
    rw [Bool.not_eq_true', kl_no] at h2
    simp only at h2
    omega
def vSum (F : List Ky) : Int := (F.map (·.v)).sum
theorem addL_eq : ∀ (F : List Ky) (s : Sa), 0 ≤ s.n → s.n + F.length ≤ 100000 → -2147483648 * s.n ≤ s.s → s.s ≤ 2147483648 * s.n → (∀ k ∈ F, -2147483648 ≤ k.v ∧ k.v ≤ 2147483648) →
    addL s F = ⟨s.w, s.n + F.length, s.s + vSum F, if s.n = 0 then ((F.head?).map (·.v)).getD s.lo else s.lo, ((F.getLast?).map (·.v)).getD s.hi⟩
  | [], s, _, _, _, _, _ => by simp [addL, vSum]
  | k :: F, s, h1, h2, h3, h4, h5 => by
    have hk := h5 k (by simp)
    simp only [List.length_cons] at h2
    have e1 : IntKind.i64.wrap (s.n + 1) = s.n + 1 := wrap_id (by omega)
    have e2 : IntKind.i64.wrap (s.s + k.v) = s.s + k.v := wrap_id (by omega)
    have ih := addL_eq F (s.add k.v) (by simp only [Sa.add, e1]; omega) (by simp only [Sa.add, e1]; omega) (by simp only [Sa.add, e1, e2]; omega) (by simp only [Sa.add, e1, e2]; omega) fun q hq => h5 q (by simp [hq])
    have e3 : addL s (k :: F) = addL (s.add k.v) F := rfl
    rw [e3, ih]
    simp only [Sa.add, e1, e2, Sa.mk.injEq, List.length_cons, vSum, List.map_cons, List.sum_cons, List.head?_cons, Option.map_some, Option.getD_some, true_and]
    refine ⟨by omega, by omega, ?_, ?_⟩
    · rw [if_neg (by omega)]
    · rw [List.getLast?_cons]
      cases hF : F.getLast? <;> simp
theorem vSum_perm {F G : List Ky} (h : F.Perm G) : vSum F = vSum G := by
  induction h with
  | nil => rfl
  | cons x _ ih => simp only [vSum, List.map_cons, List.sum_cons] at ih ⊢; omega
  | swap x y l => simp only [vSum, List.map_cons, List.sum_cons]; omega
  | trans _ _ h1 h2 => exact h1.trans h2
/-- The answer of a cell. -/
def cellS (L : List Pt) (w : Nat) : Sa := if mem L w = [] then ⟨w, 0, 0, 0, 0⟩ else ⟨w, (mem L w).length, sumV (mem L w), loV (mem L w), hiV (mem L w)⟩
theorem nodup_map_k {M : List Pt} {w : Int} (h : (M.map (·.k)).Nodup) : (M.map fun p => (⟨w, p.v, p.k⟩ : Ky)).Nodup := by
  have : (M.map (·.k)) = (M.map fun p => (⟨w, p.v, p.k⟩ : Ky)).map (·.d) := by simp
  rw [this] at h
  exact (List.pairwise_map.1 h).imp fun {a b} hab e => hab (by rw [e])
theorem saOf_eq {L : List Pt} {es : List MapEntry} {c : Nat} {ns : List (List Ky)} {ce : Nat → List MapEntry} {cc : Nat → Nat} (h : StL L es c ns ce cc) (w : Nat) : saOf ns w = cellS L w := by
  have hK : ∀ k ∈ ns.flatten, ∃ p ∈ L, ∃ r, r < 13 ∧ k = p.ky r := fun k hk => (h.tk.m k).1 hk
  have hb : ∀ k ∈ ns.flatten, -2147483648 ≤ k.v ∧ k.v ≤ 2147483647 ∧ 1 ≤ k.d := fun k hk => by
    obtain ⟨p, hp, r, hr, rfl⟩ := hK k hk
    have := h.ok p hp
    exact ⟨this.2.2.1, this.2.2.2, this.1.1⟩
  unfold saOf
  rw [tc_eq h.tk.g.so w fun k hk => by have := hb k hk; omega]
  generalize hF : (ns.flatten.filter fun k => k.c == (w : Int)) = F
  have hsF : Srt F := by rw [← hF]; exact h.tk.g.so.sublist List.filter_sublist
  have hmF : ∀ k, k ∈ F ↔ k ∈ (mem L w).map fun p => (⟨w, p.v, p.k⟩ : Ky) := fun k => by
    rw [← hF, List.mem_filter, h.tk.m, List.mem_map]
    constructor
    · rintro ⟨⟨p, hp, r, hr, rfl⟩, hc⟩
      have hc' : p.w r = w := Int.ofNat.inj (by simpa [Pt.ky] using hc)
      exact ⟨p, List.mem_filter.2 ⟨hp, inC_iff.2 ⟨r, hr, hc'⟩⟩, by simp [Pt.ky, hc']⟩
    · rintro ⟨p, hp, rfl⟩
      obtain ⟨hp, hi⟩ := List.mem_filter.1 hp
      obtain ⟨r, hr, e⟩ := inC_iff.1 hi
      exact ⟨⟨p, hp, r, hr, by simp [Pt.ky, e]⟩, by simp⟩
  have hndM : ((mem L w).map (·.k)).Nodup := by
    have : ((mem L w).map (·.k)).Sublist (L.map (·.k)) := List.filter_sublist.map _
    exact this.nodup h.pm.nd
  have hndF : F.Nodup := hsF.imp fun {a b} hab e => by subst e; rw [kl_irr] at hab; cases hab
  have hP : F.Perm ((mem L w).map fun p => (⟨w, p.v, p.k⟩ : Ky)) := (List.perm_ext_iff_of_nodup hndF (nodup_map_k hndM)).2 hmF
  have hlen := hP.length_eq
  rw [List.length_map] at hlen
  have hle : (mem L w).length ≤ L.length := List.length_filter_le ..
  have := h.le
  have hbF : ∀ k ∈ F, -2147483648 ≤ k.v ∧ k.v ≤ 2147483648 := fun k hk => by
    rw [← hF] at hk
    have := hb k (List.mem_filter.1 hk).1
    omega
  rw [addL_eq F ⟨w, 0, 0, 0, 0⟩ (by simp) (by simp only; omega) (by simp) (by simp) hbF]
  have hsum : vSum F = sumV (mem L w) := by
    rw [vSum_perm hP]
    simp [vSum, sumV, List.map_map, Function.comp_def]
  unfold cellS
  by_cases hM : mem L w = []
  · have hF0 : F = [] := List.length_eq_zero_iff.1 (by rw [hlen, hM]; rfl)
    rw [if_pos hM]
    subst hF0
    simp [vSum]
  · rw [if_neg hM]
    have hF0 : F ≠ [] := fun e => hM (List.length_eq_zero_iff.1 (by rw [← hlen, e]; rfl))
    obtain ⟨x, F', rfl⟩ := List.exists_cons_of_ne_nil hF0
    obtain ⟨l1, l2⟩ := loV_is hM
    obtain ⟨u1, u2⟩ := hiV_is hM
    have hv : ∀ k ∈ x :: F', ∃ p ∈ mem L w, k.v = p.v := fun k hk => by
      obtain ⟨p, hp, rfl⟩ := List.mem_map.1 ((hmF k).1 hk)
      exact ⟨p, hp, rfl⟩
    have hv' : ∀ p ∈ mem L w, ∃ k ∈ x :: F', k.v = p.v := fun p hp => ⟨_, (hmF _).2 (List.mem_map.2 ⟨p, hp, rfl⟩), rfl⟩
    have hc : ∀ k ∈ x :: F', k.c = w := fun k hk => by
      obtain ⟨p, hp, rfl⟩ := List.mem_map.1 ((hmF k).1 hk)
      rfl
    have hs := List.pairwise_cons.1 hsF
    have hlo : x.v = loV (mem L w) := by
      obtain ⟨p, hp, e⟩ := hv x (by simp)
      obtain ⟨q, hq, e2⟩ := l1
      obtain ⟨k, hk, e3⟩ := hv' q hq
      have g1 := l2 p hp
      rcases List.mem_cons.1 hk with rfl | hk'
      · omega
      · have := kl_iff.1 (hs.1 k hk')
        have c1 := hc x (by simp)
        have c2 := hc k hk
        omega
    obtain ⟨y, hy⟩ : ∃ y, (x :: F').getLast? = some y := ⟨(x :: F').getLast (by simp), List.getLast?_eq_some_getLast (by simp)⟩
    have hym : y ∈ x :: F' := List.mem_of_getLast? hy
    have hhi : y.v = hiV (mem L w) := by
      obtain ⟨p, hp, e⟩ := hv y hym
      obtain ⟨q, hq, e2⟩ := u1
      obtain ⟨k, hk, e3⟩ := hv' q hq
      have g1 := u2 p hp
      obtain ⟨G, hG⟩ : ∃ G, x :: F' = G ++ [y] := ⟨(x :: F').dropLast, by
        have e := List.getLast?_eq_some_getLast (l := x :: F') (by simp)
        rw [hy] at e
        rw [Option.some.inj e]
        exact (List.dropLast_concat_getLast (by simp)).symm⟩
      have hsG := hsF
      rw [hG] at hsG hk
      rcases List.mem_append.1 hk with hk' | hk'
      · have := kl_iff.1 ((List.pairwise_append.1 hsG).2.2 k hk' y (by simp))
        have c1 := hc y hym
        have c2 := hc k (by rw [hG]; simp [hk'])
        omega
      · rw [List.mem_singleton.1 hk'] at e3
        omega
    rw [hy]
    simp only [Sa.mk.injEq, if_true, List.head?_cons, Option.map_some, Option.getD_some, hlo, hhi, hsum, hlen, true_and, Int.zero_add, and_true]
/-- The answer of a cell. -/
def cellR (L : List Pt) (w : Nat) : AV := if mem L w = [] then .tup [.r (Sa.rv ⟨0, 0, 0, 0, 0⟩), bl false] else .tup [.r (cellS L w).rv, bl true]
theorem cellV_eq (L : List Pt) (w : Nat) : cellV (cellS L w) = cellR L w := by
  unfold cellV cellR cellS
  by_cases hM : mem L w = []
  · simp [hM]
  · have : (mem L w).length ≠ 0 := fun e => hM (List.length_eq_zero_iff.1 e)
    rw [if_neg hM, if_neg (by simp only; omega), if_neg hM]
theorem cell_a (L : List Pt) (w : Nat) : Triple Go.Proofs.Try.prog 13 [.ptr 1000000 0 0, int .u64 w] [.abs (sT L)] (cellR L w) [.abs (sT L)] := by
  have := pack (P := Go.Proofs.Try.prog) (f := 13) (F := SF L) (F' := SF L) rfl («as» := [int .u64 w]) (res := cellR L w) (ex := []) (fun os h => by
    obtain ⟨es, c, ns, ce, cc, h, rfl⟩ := h
    refine ⟨_, ⟨_, _, _, _, _, h, rfl⟩, ?_⟩
    rw [List.append_nil, ← cellV_eq, ← saOf_eq h]
    exact cell_os h w) rfl (by simp) (by unfold cellR; split <;> simp [Flat, Flats, FlatR, FlatRs, Sa.rv])
  have e : ∀ F, imV F (cellR L w) = cellR L w := fun F => by unfold cellR; split <;> rfl
  rw [e] at this
  exact this
end Go.Ev


namespace Go.Ev
open Go
set_option linter.unusedSectionVars false
set_option linter.unnecessarySimpa false
set_option linter.unusedSimpArgs false
set_option linter.unusedVariables false
noncomputable def stats_Of_pc : PC :=
  (.seq (.reg [⟨(some 2), none, 0, .see (.mov (.c (.r (.v (.pointer none)))))⟩])
  (.seq (.reg [⟨(some 6), none, 1, .call 5 []⟩,
    ⟨(some 3), none, 0, .see (.mov (.t 6))⟩])
  (.seq (.seq (.reg [⟨(some 7), none, 0, .see (.mov (.t 0))⟩,
    ⟨(some 8), none, 0, .see (.len false (.t 7))⟩,
    ⟨(some 9), none, 0, .see (.mov (.c (.r (.v (.int .i64 0)))))⟩])
  (.block 0 (.loop (.seq (.reg [⟨(some 10), none, 0, .see (.bin .lss (.t 9) (.t 8))⟩])
  (.seq (.cond (.t 10)
    .skip
    (.exit 0))
  (.seq (.block 1 (.seq (.reg [⟨(some 11), none, 0, .see (.ia 4 (.agg [(.v (.int .i64 0)), (.v (.int .i64 0)), (.v (.int .i64 0)), (.v (.int .i64 0))]) (.t 7) (.t 9))⟩,
    ⟨(some 12), none, 0, .see (.ld (some 4) (.t 11))⟩,
    ⟨(some 5), none, 0, .act (.new [(.r (.v (.int .i64 0))), (.r (.v (.int .i64 0))), (.r (.v (.int .i64 0))), (.r (.v (.int .i64 0)))])⟩,
    ⟨none, none, 0, .act (.st 4 (.t 5) (.t 12))⟩])
  (.reg [⟨(some 13), none, 0, .see (.mov (.t 3))⟩,
    ⟨(some 14), none, 0, .see (.ld (some 4) (.t 5))⟩,
    ⟨(some 15), none, 2, .call 6 [(.t 13), (.t 14)]⟩])))
  (.reg [⟨(some 16), none, 0, .see (.bin .add (.t 9) (.c (.r (.v (.int .i64 1)))))⟩,
    ⟨(some 9), none, 0, .see (.mov (.t 16))⟩])))))))
  (.seq (.reg [⟨(some 17), none, 0, .see (.mov (.t 3))⟩,
    ⟨(some 2), none, 0, .see (.mov (.t 17))⟩])
  .ret))))
noncomputable abbrev stats_Of_code : Code := (Go.Proofs.Try.f11.body).getD .skip
theorem stats_Of_chk : chkC Go.Proofs.Try.prog 18 stats_Of_code stats_Of_pc = true := by kernel_rfl
theorem stats_Of_triple {args : List AV} {po ro : List Ob} {res : AV} (hal : args.length = 1) (hpo : po.length ≤ 1000)
    (h : run Go.Proofs.Try.prog po.length (RetP po.length [(2, false, none)] fun v os => v = res ∧ os = ro) [.c stats_Of_pc] ⟨argE 0 args, ob0 po⟩) : Triple Go.Proofs.Try.prog 11 args po res ro :=
  triple_of_W (fn := Go.Proofs.Try.f11) (c := stats_Of_code) (pc := stats_Of_pc) (rs := [(2, false, none)]) Go.Proofs.Try.func11 rfl (by decide) (by have := stats_Of_chk; exact this) (by rw [hal]; decide) rfl (by kernel_rfl) (by kernel_rfl) (by decide) hpo (W_of_run h)

def stepL (L : List Pt) (p : Pt) : List Pt := if canPut L p then plusP L p else L
def ofL (l : List Pt) : List Pt := l.foldl stepL []
def pts (l : List Pt) : RV := .sl 4 (l.map Pt.rv)
theorem pts_get {l : List Pt} {i : Nat} {p : Pt} (h : l[i]? = some p) (z : RV) : (l.map Pt.rv).getD ((i : Int)).toNat z = .agg [.v (.int .i64 p.k), .v (.int .i64 p.x), .v (.int .i64 p.y), .v (.int .i64 p.v)] := by
  simp [List.getD, h, Pt.rv]
set_option maxRecDepth 100000 in
theorem of_t (l : List Pt) (hl : l.length ≤ 100000) : Triple Go.Proofs.Try.prog 11 [.r (pts l)] [] (.ptr 1000000 0 0) [.abs (sT (ofL l))] := by
  refine stats_Of_triple rfl (by decide) ?_
  simp only [stats_Of_pc, pts, List.length_nil, List.length_map, push_cast, ↓reduceIte, reduceCtorEq, Nat.reduceBEq, Nat.reduceEqDiff, Nat.reduceAdd, Nat.reduceSub, Nat.reduceLT, Nat.reduceLeDiff, Nat.reduceMul]
  refine call_mk new_a rfl trivial ?_
  simp only [List.length_map, push_cast, ↓reduceIte, reduceCtorEq, Nat.reduceBEq, Nat.reduceEqDiff, Nat.reduceAdd, Nat.reduceSub, Nat.reduceLT, Nat.reduceLeDiff, Nat.reduceMul]
  refine run_loop [(3, false), (7, false), (8, false), (9, false)] (fun vs pos los => ∃ (i : Nat) (L : List Pt), i ≤ l.length ∧ ofL l = (l.drop i).foldl stepL L ∧ vs = [.ptr 2000000 0 0, .r (pts l), int .i64 l.length, int .i64 i] ∧ pos = [] ∧ los = [.abs (sT L)])
    (fun vs _ _ => match vs with | [_, _, _, .r (.v (.int _ j))] => (l.length - j).toNat | _ => 0) rfl ?_ ?_
  · simp only [pts, push_cast, ↓reduceIte, reduceCtorEq, Nat.reduceBEq, Nat.reduceEqDiff, Nat.reduceAdd, Nat.reduceSub, Nat.reduceLT, Nat.reduceLeDiff, Nat.reduceMul]
    exact ⟨0, [], by omega, rfl, by simp⟩
  · rintro vs pos los ⟨i, L, hi, hf, rfl, rfl, rfl⟩
    simp only [pts, List.length_map, push_cast, ↓reduceIte, reduceCtorEq, Nat.reduceBEq, Nat.reduceEqDiff, Nat.reduceAdd, Nat.reduceSub, Nat.reduceLT, Nat.reduceLeDiff, Nat.reduceMul]
    refine cnd_mk (fun h => ?_) (fun h => ?_)
    · have h' : i < l.length := by simpa using h
      obtain ⟨p, hp⟩ : ∃ p, l[i]? = some p := ⟨l[i], by simp [h']⟩
      have hd : l.drop i = p :: l.drop (i + 1) := by
        rw [List.drop_eq_getElem_cons h', (List.getElem?_eq_some_iff.1 hp).2]
      have hj1 : IntKind.i64.wrap ((i : Int) + 1) = (i : Int) + 1 := wrap_id ⟨by omega, by omega⟩
      simp only [pts_get hp, List.length_map, push_cast, ↓reduceIte, reduceCtorEq, Nat.reduceBEq, Nat.reduceEqDiff, Nat.reduceAdd, Nat.reduceSub, Nat.reduceLT, Nat.reduceLeDiff, Nat.reduceMul]
      refine And.intro ⟨by omega, by omega⟩ ?_
      refine call_as (as' := [.ptr 1000000 0 0, p.av]) rfl ?_
      refine call_mk (put_a L p) rfl ⟨rfl, trivial⟩ ?_
      simp only [hj1, push_cast, ↓reduceIte, reduceCtorEq, Nat.reduceBEq, Nat.reduceEqDiff, Nat.reduceAdd, Nat.reduceSub, Nat.reduceLT, Nat.reduceLeDiff, Nat.reduceMul]
      refine ⟨⟨i + 1, stepL L p, by omega, by rw [hf, hd]; rfl, rfl, by simp [stepL]⟩, by omega⟩
    · have h' : ¬ i < l.length := by simpa using h
      simp only [push_cast, ↓reduceIte, reduceCtorEq, Nat.reduceBEq, Nat.reduceEqDiff, Nat.reduceAdd, Nat.reduceSub, Nat.reduceLT, Nat.reduceLeDiff, Nat.reduceMul]
      rw [hf, List.drop_eq_nil_of_le (by omega)]
      rfl
end Go.Ev


namespace Go.Ev
open Go
set_option linter.unusedSectionVars false
set_option linter.unnecessarySimpa false
set_option linter.unusedSimpArgs false
set_option linter.unusedVariables false
noncomputable def apiarylaw18_Points_pc : PC :=
  (.seq (.reg [⟨(some 2), none, 0, .see (.mov (.c (.nils 4 (.agg [(.v (.int .i64 0)), (.v (.int .i64 0)), (.v (.int .i64 0)), (.v (.int .i64 0))]))))⟩])
  (.seq (.reg [⟨(some 3), none, 0, .see (.mov (.c (.nils 4 (.agg [(.v (.int .i64 0)), (.v (.int .i64 0)), (.v (.int .i64 0)), (.v (.int .i64 0))]))))⟩])
  (.seq (.seq (.reg [⟨(some 4), none, 0, .see (.mov (.c (.r (.v (.int .i64 0)))))⟩])
  (.block 0 (.loop (.seq (.seq (.reg [⟨(some 8), none, 0, .see (.mov (.t 4))⟩,
    ⟨(some 9), none, 0, .see (.bin .add (.t 8) (.c (.r (.v (.int .i64 1)))))⟩,
    ⟨(some 10), none, 0, .see (.mov (.t 0))⟩,
    ⟨(some 11), none, 0, .see (.len false (.t 10))⟩,
    ⟨(some 12), none, 0, .see (.bin .lss (.t 9) (.t 11))⟩,
    ⟨(some 13), none, 0, .see (.mov (.t 12))⟩,
    ⟨(some 14), (some (13, true)), 0, .see (.mov (.t 4))⟩,
    ⟨(some 15), (some (13, true)), 0, .see (.bin .lss (.t 14) (.c (.r (.v (.int .i64 80)))))⟩,
    ⟨(some 16), none, 0, .see (.pick (.t 13) (.t 15) (.c (.r (.v (.bool false)))))⟩])
  (.cond (.t 16)
    .skip
    (.exit 0)))
  (.seq (.block 1 (.seq (.drw [⟨(some 19), none, 0, .see (.mov (.t 0))⟩,
    ⟨(some 20), none, 0, .see (.mov (.t 4))⟩,
    ⟨(some 21), none, 0, .see (.ia 1 (.v (.int .i64 0)) (.t 19) (.t 20))⟩,
    ⟨(some 22), none, 0, .see (.ld none (.t 21))⟩,
    ⟨(some 23), none, 0, .see (.bin .and (.t 22) (.c (.r (.v (.int .i64 1073741823)))))⟩,
    ⟨(some 24), none, 0, .see (.mov (.t 0))⟩,
    ⟨(some 25), none, 0, .see (.mov (.t 4))⟩,
    ⟨(some 26), none, 0, .see (.bin .add (.t 25) (.c (.r (.v (.int .i64 1)))))⟩,
    ⟨(some 27), none, 0, .see (.ia 1 (.v (.int .i64 0)) (.t 24) (.t 26))⟩,
    ⟨(some 28), none, 0, .see (.ld none (.t 27))⟩,
    ⟨(some 29), none, 0, .see (.bin .and (.t 28) (.c (.r (.v (.int .i64 1073741823)))))⟩,
    ⟨(some 5), none, 0, .see (.mov (.t 23))⟩,
    ⟨(some 6), none, 0, .see (.mov (.t 29))⟩]
    [[], [], [0, 1], [0, 1, 2], [0, 1, 2, 3], [], [], [6], [5, 6, 7], [5, 6, 7, 8], [5, 6, 7, 8, 9], [0, 1, 2, 3, 4], [0, 1, 2, 3, 4, 5, 6, 7, 8, 9, 10, 11]])
  (.seq (.seq (.reg [⟨(some 30), none, 0, .see (.mov (.t 4))⟩,
    ⟨(some 31), none, 0, .see (.bin .gtr (.t 30) (.c (.r (.v (.int .i64 0)))))⟩,
    ⟨(some 32), none, 0, .see (.mov (.t 31))⟩,
    ⟨(some 33), (some (32, true)), 0, .see (.mov (.t 0))⟩,
    ⟨(some 34), (some (32, true)), 0, .see (.mov (.t 4))⟩,
    ⟨(some 35), (some (32, true)), 0, .see (.ia 1 (.v (.int .i64 0)) (.t 33) (.t 34))⟩,
    ⟨(some 36), (some (32, true)), 0, .see (.ld none (.t 35))⟩,
    ⟨(some 37), (some (32, true)), 0, .see (.bin .shr (.t 36) (.c (.r (.v (.int .u64 40)))))⟩,
    ⟨(some 38), (some (32, true)), 0, .see (.bin .and (.t 37) (.c (.r (.v (.int .i64 3)))))⟩,
    ⟨(some 39), (some (32, true)), 0, .see (.bin .neq (.t 38) (.c (.r (.v (.int .i64 0)))))⟩,
    ⟨(some 40), none, 0, .see (.pick (.t 32) (.t 39) (.c (.r (.v (.bool false)))))⟩])
  (.cond (.t 40)
    (.seq (.reg [⟨(some 41), none, 0, .see (.mov (.t 3))⟩,
    ⟨(some 42), none, 0, .see (.mov (.t 3))⟩,
    ⟨(some 43), none, 0, .see (.len false (.t 42))⟩,
    ⟨(some 44), none, 0, .see (.bin .sub (.t 43) (.c (.r (.v (.int .i64 1)))))⟩,
    ⟨(some 45), none, 0, .see (.ia 4 (.agg [(.v (.int .i64 0)), (.v (.int .i64 0)), (.v (.int .i64 0)), (.v (.int .i64 0))]) (.t 41) (.t 44))⟩,
    ⟨(some 46), none, 0, .see (.ld (some 4) (.t 45))⟩,
    ⟨(some 7), none, 0, .act (.new [(.r (.v (.int .i64 0))), (.r (.v (.int .i64 0))), (.r (.v (.int .i64 0))), (.r (.v (.int .i64 0)))])⟩,
    ⟨none, none, 0, .act (.st 4 (.t 7) (.t 46))⟩])
    (.drw [⟨(some 47), none, 0, .see (.fa 1 (.t 7))⟩,
    ⟨(some 48), none, 0, .see (.ld none (.t 47))⟩,
    ⟨(some 49), none, 0, .see (.mov (.t 0))⟩,
    ⟨(some 50), none, 0, .see (.mov (.t 4))⟩,
    ⟨(some 51), none, 0, .see (.ia 1 (.v (.int .i64 0)) (.t 49) (.t 50))⟩,
    ⟨(some 52), none, 0, .see (.ld none (.t 51))⟩,
    ⟨(some 53), none, 0, .see (.bin .and (.t 52) (.c (.r (.v (.int .i64 1023)))))⟩,
    ⟨(some 54), none, 0, .see (.bin .add (.t 48) (.t 53))⟩,
    ⟨(some 55), none, 0, .see (.mm false (.t 54) [(.c (.r (.v (.int .i64 1073741823))))])⟩,
    ⟨(some 56), none, 0, .see (.fa 2 (.t 7))⟩,
    ⟨(some 57), none, 0, .see (.ld none (.t 56))⟩,
    ⟨(some 58), none, 0, .see (.mov (.t 0))⟩,
    ⟨(some 59), none, 0, .see (.mov (.t 4))⟩,
    ⟨(some 60), none, 0, .see (.bin .add (.t 59) (.c (.r (.v (.int .i64 1)))))⟩,
    ⟨(some 61), none, 0, .see (.ia 1 (.v (.int .i64 0)) (.t 58) (.t 60))⟩,
    ⟨(some 62), none, 0, .see (.ld none (.t 61))⟩,
    ⟨(some 63), none, 0, .see (.bin .and (.t 62) (.c (.r (.v (.int .i64 1023)))))⟩,
    ⟨(some 64), none, 0, .see (.bin .add (.t 57) (.t 63))⟩,
    ⟨(some 65), none, 0, .see (.mm false (.t 64) [(.c (.r (.v (.int .i64 1073741823))))])⟩,
    ⟨(some 5), none, 0, .see (.mov (.t 55))⟩,
    ⟨(some 6), none, 0, .see (.mov (.t 65))⟩]
    [[], [0], [], [], [2, 3], [2, 3, 4], [2, 3, 4, 5], [0, 1, 2, 3, 4, 5, 6], [0, 1, 2, 3, 4, 5, 6, 7], [], [9], [], [], [12], [11, 12, 13], [11, 12, 13, 14], [11, 12, 13, 14, 15], [9, 10, 11, 12, 13, 14, 15, 16], [9, 10, 11, 12, 13, 14, 15, 16, 17], [0, 1, 2, 3, 4, 5, 6, 7, 8], [0, 1, 2, 3, 4, 5, 6, 7, 8, 9, 10, 11, 12, 13, 14, 15, 16, 17, 18, 19]]))
    .skip))
  (.reg [⟨(some 66), none, 0, .see (.mov (.t 3))⟩,
    ⟨(some 67), none, 0, .see (.mov (.t 4))⟩,
    ⟨(some 68), none, 0, .see (.bin .quo (.t 67) (.c (.r (.v (.int .i64 2)))))⟩,
    ⟨(some 69), none, 0, .see (.bin .add (.t 68) (.c (.r (.v (.int .i64 1)))))⟩,
    ⟨(some 70), none, 0, .see (.mov (.t 5))⟩,
    ⟨(some 71), none, 0, .see (.mov (.t 6))⟩,
    ⟨(some 72), none, 0, .see (.mov (.t 0))⟩,
    ⟨(some 73), none, 0, .see (.mov (.t 4))⟩,
    ⟨(some 74), none, 0, .see (.bin .add (.t 73) (.c (.r (.v (.int .i64 1)))))⟩,
    ⟨(some 75), none, 0, .see (.ia 1 (.v (.int .i64 0)) (.t 72) (.t 74))⟩,
    ⟨(some 76), none, 0, .see (.ld none (.t 75))⟩,
    ⟨(some 77), none, 0, .see (.bin .shr (.t 76) (.c (.r (.v (.int .u64 30)))))⟩,
    ⟨(some 78), none, 0, .see (.bin .and (.t 77) (.c (.r (.v (.int .i64 255)))))⟩,
    ⟨(some 79), none, 0, .see (.bin .sub (.t 78) (.c (.r (.v (.int .i64 99)))))⟩,
    ⟨(some 80), none, 0, .see (.build [(.r (.v (.int .i64 0))), (.r (.v (.int .i64 0))), (.r (.v (.int .i64 0))), (.r (.v (.int .i64 0)))] [(0, 1, (.t 69)), (1, 1, (.t 70)), (2, 1, (.t 71)), (3, 1, (.t 79))])⟩,
    ⟨(some 81), none, 0, .act (.bsl 4 (.agg [(.v (.int .i64 0)), (.v (.int .i64 0)), (.v (.int .i64 0)), (.v (.int .i64 0))]) [(.t 80)])⟩,
    ⟨(some 82), none, 0, .act (.app 4 (.agg [(.v (.int .i64 0)), (.v (.int .i64 0)), (.v (.int .i64 0)), (.v (.int .i64 0))]) 32 (.t 66) (.t 81))⟩,
    ⟨(some 3), none, 0, .see (.mov (.t 82))⟩]))))
  (.reg [⟨(some 17), none, 0, .see (.mov (.t 4))⟩,
    ⟨(some 18), none, 0, .see (.bin .add (.t 17) (.c (.r (.v (.int .i64 2)))))⟩,
    ⟨(some 4), none, 0, .see (.mov (.t 18))⟩]))))))
  (.seq (.reg [⟨(some 83), none, 0, .see (.mov (.t 3))⟩,
    ⟨(some 2), none, 0, .see (.mov (.t 83))⟩])
  .ret))))
noncomputable abbrev apiarylaw18_Points_code : Code := (Go.Proofs.Try.f10.body).getD .skip
theorem apiarylaw18_Points_chk : chkC Go.Proofs.Try.prog 84 apiarylaw18_Points_code apiarylaw18_Points_pc = true := by kernel_rfl
theorem apiarylaw18_Points_triple {args : List AV} {po ro : List Ob} {res : AV} (hal : args.length = 1) (hpo : po.length ≤ 1000)
    (h : run Go.Proofs.Try.prog po.length (RetP po.length [(2, false, none)] fun v os => v = res ∧ os = ro) [.c apiarylaw18_Points_pc] ⟨argE 0 args, ob0 po⟩) : Triple Go.Proofs.Try.prog 10 args po res ro :=
  triple_of_W (fn := Go.Proofs.Try.f10) (c := apiarylaw18_Points_code) (pc := apiarylaw18_Points_pc) (rs := [(2, false, none)]) Go.Proofs.Try.func10 rfl (by decide) (by have := apiarylaw18_Points_chk; exact this) (by rw [hal]; decide) rfl (by kernel_rfl) (by kernel_rfl) (by decide) hpo (W_of_run h)

def i64s (xs : List Int) : RV := .sl 1 (xs.map fun x => .v (.int .i64 x))
theorem i64s_get {xs : List Int} {i : Nat} {x : Int} (h : xs[i]? = some x) (z : RV) : (xs.map fun x => RV.v (.int .i64 x)).getD ((i : Int)).toNat z = .v (.int .i64 x) := by
  simp [List.getD, h]
def gPt (a b : Int) (l : List Pt) : Pt := match l.getLast? with
  | some p => if a / 1099511627776 % 4 ≠ 0 then ⟨l.length + 1, min (p.x + a % 1024) 1073741823, min (p.y + b % 1024) 1073741823, b / 1073741824 % 256 - 99⟩ else ⟨l.length + 1, a % 1073741824, b % 1073741824, b / 1073741824 % 256 - 99⟩
  | none => ⟨l.length + 1, a % 1073741824, b % 1073741824, b / 1073741824 % 256 - 99⟩
def genL : List Int → List Pt → List Pt
  | a :: b :: r, l => if l.length < 40 then genL r (l ++ [gPt a b l]) else l
  | _, l => l
/-- Points as they are made: keys in order, all of them good. -/
def GP (l : List Pt) : Prop := ∀ (j : Nat) (p : Pt), l[j]? = some p → p.k = (j : Int) + 1 ∧ p.ok
theorem gPt_k (a b : Int) (l : List Pt) : (gPt a b l).k = (l.length : Int) + 1 := by
  unfold gPt
  split
  · split <;> rfl
  · rfl
theorem gPt_ok {a b : Int} {l : List Pt} (h : GP l) (hl : l.length < 40) : (gPt a b l).ok := by
  unfold gPt
  split
  · rename_i p hp
    rw [List.getLast?_eq_getElem?] at hp
    have := (h _ p hp).2.2.1
    unfold inW at this
    split
    · refine ⟨by simp only; omega, ?_, by simp only; omega⟩
      simp only [inW]
      omega
    · refine ⟨by simp only; omega, ?_, by simp only; omega⟩
      simp only [inW]
      omega
  · refine ⟨by simp only; omega, ?_, by simp only; omega⟩
    simp only [inW]
    omega
theorem gp_add {a b : Int} {l : List Pt} (h : GP l) (hl : l.length < 40) : GP (l ++ [gPt a b l]) := by
  intro j p hp
  rcases Nat.lt_trichotomy j l.length with hj | hj | hj
  · rw [List.getElem?_append_left hj] at hp
    exact h j p hp
  · subst hj
    rw [List.getElem?_append_right (Nat.le_refl _), Nat.sub_self] at hp
    simp at hp
    subst hp
    exact ⟨gPt_k .., gPt_ok h hl⟩
  · rw [List.getElem?_eq_none (by simp; omega)] at hp
    cases hp
theorem m30 (a : Int) : IntKind.i64.wrap ((BitVec.ofInt IntKind.i64.bits a &&& BitVec.ofInt IntKind.i64.bits 1073741823).toNat) = a % 1073741824 := and_mask a 1073741823 30 (by decide) (by decide)
theorem m8 (a : Int) : IntKind.i64.wrap ((BitVec.ofInt IntKind.i64.bits a &&& BitVec.ofInt IntKind.i64.bits 255).toNat) = a % 256 := and_mask a 255 8 (by decide) (by decide)
theorem m2 (a : Int) : IntKind.i64.wrap ((BitVec.ofInt IntKind.i64.bits a &&& BitVec.ofInt IntKind.i64.bits 3).toNat) = a % 4 := and_mask a 3 2 (by decide) (by decide)
theorem m10 (a : Int) : IntKind.i64.wrap ((BitVec.ofInt IntKind.i64.bits a &&& BitVec.ofInt IntKind.i64.bits 1023).toNat) = a % 1024 := and_mask a 1023 10 (by decide) (by decide)
theorem sh30 (b : Int) : b.fdiv (2 ^ min (Int.toNat 30) IntKind.i64.bits) = b / 1073741824 := Int.fdiv_eq_ediv_of_nonneg b (by decide)
theorem sh40 (b : Int) : b.fdiv (2 ^ min (Int.toNat 40) IntKind.i64.bits) = b / 1099511627776 := Int.fdiv_eq_ediv_of_nonneg b (by decide)
theorem w99 (b : Int) : IntKind.i64.wrap (b % 256 - 99) = b % 256 - 99 := wrap_id (by omega)
set_option maxRecDepth 100000 in
theorem gen_t (xs : List Int) (hx : ∀ x ∈ xs, -9223372036854775808 ≤ x ∧ x ≤ 9223372036854775807) {res : AV} {ro : List Ob}
    (hres : (genL xs [] = [] ∧ res = .nils 4 (Pt.rv ⟨0, 0, 0, 0⟩) ∧ ro = []) ∨ (genL xs [] ≠ [] ∧ res = .own 1000000 0 0 (genL xs []).length ∧ ro = [.row 4 (Pt.rv ⟨0, 0, 0, 0⟩) true true ((genL xs []).map Pt.rv)])) :
    Triple Go.Proofs.Try.prog 10 [.r (i64s xs)] [] res ro := by
  refine apiarylaw18_Points_triple rfl (by decide) ?_
  have hml : 100 ≤ maxLen := by decide
  simp only [apiarylaw18_Points_pc, i64s, List.length_nil, List.length_map, push_cast, ↓reduceIte, reduceCtorEq, Nat.reduceBEq, Nat.reduceEqDiff, Nat.reduceAdd, Nat.reduceSub, Nat.reduceLT, Nat.reduceLeDiff, Nat.reduceMul]
  refine run_loop [(4, false), (0, false), (3, false)] (fun vs pos los => ∃ (i : Nat) (acc : List Pt), i = 2 * acc.length ∧ i ≤ 80 ∧ GP acc ∧ genL xs [] = genL (xs.drop i) acc ∧ (acc = [] ∧ vs = [int .i64 i, .r (i64s xs), .nils 4 (Pt.rv ⟨0, 0, 0, 0⟩)] ∧ pos = [] ∧ los = [] ∨
     acc ≠ [] ∧ vs = [int .i64 i, .r (i64s xs), .own 2000000 0 0 acc.length] ∧ pos = [] ∧ los = [.row 4 (Pt.rv ⟨0, 0, 0, 0⟩) true true (acc.map Pt.rv)]))
    (fun vs _ _ => match vs with | .r (.v (.int _ j)) :: _ => (80 - j).toNat | _ => 0) rfl ?_ ?_
  · simp only [i64s, Pt.rv, push_cast, ↓reduceIte, reduceCtorEq, Nat.reduceBEq, Nat.reduceEqDiff, Nat.reduceAdd, Nat.reduceSub, Nat.reduceLT, Nat.reduceLeDiff, Nat.reduceMul]
    exact ⟨0, [], rfl, by omega, by simp [GP], rfl, .inl ⟨rfl, rfl⟩⟩
  · rintro vs pos los ⟨i, acc, hi, h80, hgp, hg, hcase⟩
    have w1 : IntKind.i64.wrap ((i : Int) + 1) = (i : Int) + 1 := wrap_id (by omega)
    have w2 : IntKind.i64.wrap ((i : Int) + 2) = (i : Int) + 2 := wrap_id (by omega)
    rcases hcase with ⟨rfl, rfl, rfl, rfl⟩ | ⟨h0, rfl, rfl, rfl⟩
    · have hi' : i = 0 := hi
      have hi0 : decide ((i : Int) > 0) = false := by simp at hi ⊢; omega
      simp only [i64s, Pt.rv, List.length_map, w1, w2, hi0, push_cast, ↓reduceIte, reduceCtorEq, Nat.reduceBEq, Nat.reduceEqDiff, Nat.reduceAdd, Nat.reduceSub, Nat.reduceLT, Nat.reduceLeDiff, Nat.reduceMul]
      refine cnd_mk (fun h => ?_) (fun h => ?_)
      · have h8 : i < 80 := by
          simp at h
          omega
        have h' : i + 1 < xs.length := by
          simp at h
          omega
        obtain ⟨a, ha⟩ : ∃ a, xs[i]? = some a := ⟨xs[i], by simp⟩
        obtain ⟨b, hb⟩ : ∃ b, xs[i + 1]? = some b := ⟨xs[i + 1], by simp [h']⟩
        have ga : ∀ z, (xs.map fun x => RV.v (.int .i64 x)).getD ((i : Int)).toNat z = .v (.int .i64 a) := i64s_get ha
        have gb : ∀ z, (xs.map fun x => RV.v (.int .i64 x)).getD ((i : Int) + 1).toNat z = .v (.int .i64 b) := fun z => by simpa using i64s_get hb z
        have d1 : IntKind.i64.wrap (IntKind.i64.wrap ((i : Int).tdiv 2) + 1) = 1 := by simp at hi; subst hi; decide
        simp only [w1, w2, hi0, ga, gb, d1, m30, m8, sh30, w99, List.length_map, push_cast, ↓reduceIte, reduceCtorEq, Nat.reduceBEq, Nat.reduceEqDiff, Nat.reduceAdd, Nat.reduceSub, Nat.reduceLT, Nat.reduceLeDiff, Nat.reduceMul]
        have hd : xs.drop i = a :: b :: xs.drop (i + 2) := by
          rw [List.drop_eq_getElem_cons (by omega), (List.getElem?_eq_some_iff.1 ha).2, List.drop_eq_getElem_cons h', (List.getElem?_eq_some_iff.1 hb).2]
        repeat refine And.intro (by first | decide | omega | (simp +contextual; done) | kernel_rfl) ?_
        refine ⟨⟨i + 2, [gPt a b []], by rw [show i = 0 from hi]; rfl, by rw [show i = 0 from hi]; decide, gp_add hgp (by decide), ?_, .inr ⟨by simp, rfl, rfl⟩⟩, by omega⟩
        rw [hg, hd, genL, if_pos (by simp)]
        rfl
      · have h' : ¬ i + 1 < xs.length := by
          intro h'
          simp at h
          have := h (by omega)
          omega
        have hgn : genL xs [] = [] := by
          rw [hg]
          have : i = 0 := hi
          subst this
          rcases xs with _ | ⟨a, _ | ⟨b, r⟩⟩
          · rfl
          · rfl
          · simp at h'
        rcases hres with ⟨_, rfl, rfl⟩ | ⟨hn, _, _⟩
        · simp only [Pt.rv, push_cast, ↓reduceIte, reduceCtorEq, Nat.reduceBEq, Nat.reduceEqDiff, Nat.reduceAdd, Nat.reduceSub, Nat.reduceLT, Nat.reduceLeDiff, Nat.reduceMul]
        · exact absurd hgn hn
    · obtain ⟨q, hq⟩ : ∃ q, acc.getLast? = some q := ⟨acc.getLast h0, List.getLast?_eq_some_getLast h0⟩
      have hp0 : 0 < acc.length := List.length_pos_iff.2 h0
      have hi0 : decide ((i : Int) > 0) = true := by simp; omega
      have hqa : acc[acc.length - 1]? = some q := by rw [← List.getLast?_eq_getElem?]; exact hq
      have lw : IntKind.i64.wrap ((acc.length : Int) - 1) = ((acc.length - 1 : Nat) : Int) := by rw [wrap_id (by omega)]; omega
      have gq : ∀ z, (acc.map Pt.rv).getD (((acc.length - 1 : Nat) : Int)).toNat z = .agg [.v (.int .i64 q.k), .v (.int .i64 q.x), .v (.int .i64 q.y), .v (.int .i64 q.v)] := pts_get hqa
      have gq' : ∀ z, (acc.map Pt.rv).getD (0 + (((acc.length - 1 : Nat) : Int)).toNat) z = .agg [.v (.int .i64 q.k), .v (.int .i64 q.x), .v (.int .i64 q.y), .v (.int .i64 q.v)] := fun z => by rw [Nat.zero_add]; exact gq z
      simp only [i64s, Pt.rv, List.length_map, w1, w2, hi0, lw, gq, gq', push_cast, ↓reduceIte, reduceCtorEq, Nat.reduceBEq, Nat.reduceEqDiff, Nat.reduceAdd, Nat.reduceSub, Nat.reduceLT, Nat.reduceLeDiff, Nat.reduceMul]
      refine cnd_mk (fun h => ?_) (fun h => ?_)
      · have h8 : i < 80 := by
          simp at h
          omega
        have h' : i + 1 < xs.length := by
          simp at h
          omega
        obtain ⟨a, ha⟩ : ∃ a, xs[i]? = some a := ⟨xs[i], by simp⟩
        obtain ⟨b, hb⟩ : ∃ b, xs[i + 1]? = some b := ⟨xs[i + 1], by simp [h']⟩
        have ga : ∀ z, (xs.map fun x => RV.v (.int .i64 x)).getD ((i : Int)).toNat z = .v (.int .i64 a) := i64s_get ha
        have gb : ∀ z, (xs.map fun x => RV.v (.int .i64 x)).getD ((i : Int) + 1).toNat z = .v (.int .i64 b) := fun z => by simpa using i64s_get hb z
        have d1 : IntKind.i64.wrap (IntKind.i64.wrap ((i : Int).tdiv 2) + 1) = acc.length + 1 := by
          rw [show (i : Int).tdiv 2 = acc.length by rw [hi]; simp, show IntKind.i64.wrap (acc.length : Int) = acc.length from wrap_id (by omega)]
          exact wrap_id (by omega)
        have hd : xs.drop i = a :: b :: xs.drop (i + 2) := by
          rw [List.drop_eq_getElem_cons (by omega), (List.getElem?_eq_some_iff.1 ha).2, List.drop_eq_getElem_cons h', (List.getElem?_eq_some_iff.1 hb).2]
        simp only [w1, w2, hi0, ga, gb, d1, m30, m8, m2, sh30, sh40, w99, List.length_map, push_cast, ↓reduceIte, reduceCtorEq, Nat.reduceBEq, Nat.reduceEqDiff, Nat.reduceAdd, Nat.reduceSub, Nat.reduceLT, Nat.reduceLeDiff, Nat.reduceMul]
        repeat refine And.intro (by first | decide | omega | (simp +contextual; done) | kernel_rfl) ?_
        have hq1 := (hgp _ q hqa).2.2.1
        unfold inW at hq1
        have wx : IntKind.i64.wrap (q.x + a % 1024) = q.x + a % 1024 := wrap_id (by omega)
        have wy : IntKind.i64.wrap (q.y + b % 1024) = q.y + b % 1024 := wrap_id (by omega)
        refine cnd_mk (fun hc => ?_) (fun hc => ?_)
        · simp only [wx, wy, w1, w2, hi0, lw, gq, gq', ga, gb, d1, m30, m8, m2, m10, sh30, sh40, w99, List.length_map, push_cast, ↓reduceIte, reduceCtorEq, Nat.reduceBEq, Nat.reduceEqDiff, Nat.reduceAdd, Nat.reduceSub, Nat.reduceLT, Nat.reduceLeDiff, Nat.reduceMul]
          repeat refine And.intro (by first | decide | omega | (simp +contextual; done) | kernel_rfl) ?_
          refine ⟨⟨i + 2, acc ++ [gPt a b acc], by simp; omega, by omega, gp_add hgp (by omega), ?_, .inr ⟨by simp, ?_⟩⟩, by omega⟩
          · rw [hg, hd, genL, if_pos (by omega)]
          · have hcc : a / 1099511627776 % 4 ≠ 0 := by simpa using hc
            simp [gPt, hq, hcc, Pt.rv]
        · simp only [w1, w2, hi0, lw, gq, gq', ga, gb, d1, m30, m8, m2, sh30, sh40, w99, List.length_map, push_cast, ↓reduceIte, reduceCtorEq, Nat.reduceBEq, Nat.reduceEqDiff, Nat.reduceAdd, Nat.reduceSub, Nat.reduceLT, Nat.reduceLeDiff, Nat.reduceMul]
          repeat refine And.intro (by first | decide | omega | (simp +contextual; done) | kernel_rfl) ?_
          refine ⟨⟨i + 2, acc ++ [gPt a b acc], by simp; omega, by omega, gp_add hgp (by omega), ?_, .inr ⟨by simp, ?_⟩⟩, by omega⟩
          · rw [hg, hd, genL, if_pos (by omega)]
          · have hcc : ¬ a / 1099511627776 % 4 ≠ 0 := by simpa using hc
            simp [gPt, hq, hcc, Pt.rv]
      · have h' : ¬ (i + 1 < xs.length ∧ i < 80) := by
          rintro ⟨h1, h2⟩
          simp at h
          have := h (by omega)
          omega
        have hgn : genL xs [] = acc := by
          rw [hg]
          rcases hx' : xs.drop i with _ | ⟨a, _ | ⟨b, r⟩⟩
          · rfl
          · rfl
          · have := congrArg List.length hx'
            simp at this
            rw [genL, if_neg (by omega)]
        rcases hres with ⟨hn, _, _⟩ | ⟨_, rfl, rfl⟩
        · exact absurd (hgn.symm.trans hn) h0
        · rw [hgn]
          simp only [Pt.rv, push_cast, ↓reduceIte, reduceCtorEq, Nat.reduceBEq, Nat.reduceEqDiff, Nat.reduceAdd, Nat.reduceSub, Nat.reduceLT, Nat.reduceLeDiff, Nat.reduceMul]
theorem genL_gp : ∀ (xs : List Int) (l : List Pt), GP l → GP (genL xs l)
  | [], l, h => h
  | [_], l, h => h
  | a :: b :: r, l, h => by
    rw [genL]
    split
    · exact genL_gp r _ (gp_add h (by assumption))
    · exact h
theorem genL_le : ∀ (xs : List Int) (l : List Pt), l.length ≤ 40 → (genL xs l).length ≤ 40
  | [], l, h => h
  | [_], l, h => h
  | a :: b :: r, l, h => by
    rw [genL]
    split
    · exact genL_le r _ (by simp; omega)
    · exact h
/-- The points that a law makes of numbers. -/
theorem points_t (xs : List Int) (hx : ∀ x ∈ xs, -9223372036854775808 ≤ x ∧ x ≤ 9223372036854775807) :
    Triple Go.Proofs.Try.prog 10 [.r (i64s xs)] [] (.own 1000000 0 0 (genL xs []).length) [.row 4 (Pt.rv ⟨0, 0, 0, 0⟩) true true ((genL xs []).map Pt.rv)] := by
  by_cases h : genL xs [] = []
  · rw [h]
    exact nil_own (gen_t xs hx (.inl ⟨h, rfl, rfl⟩))
  · exact gen_t xs hx (.inr ⟨h, rfl, rfl⟩)
end Go.Ev


namespace Go.Ev
open Go
set_option linter.unusedSectionVars false
set_option linter.unnecessarySimpa false
set_option linter.unusedSimpArgs false
set_option linter.unusedVariables false
noncomputable def apiarylaw18_awake_pc : PC :=
  (.seq (.reg [⟨(some 0), none, 0, .see (.mov (.c (.r (.v (.bool false)))))⟩])
  (.seq (.reg [⟨(some 6), none, 1, .call 5 []⟩,
    ⟨(some 1), none, 0, .see (.mov (.t 6))⟩])
  (.seq (.seq (.reg [⟨(some 7), none, 0, .see (.mov (.t 1))⟩,
    ⟨(some 8), none, 0, .see (.eqn false (.t 7))⟩])
  (.cond (.t 8)
    (.seq (.reg [⟨(some 0), none, 0, .see (.mov (.c (.r (.v (.bool false)))))⟩])
    .ret)
    .skip))
  (.seq (.reg [⟨(some 9), none, 0, .see (.mov (.t 1))⟩,
    ⟨(some 10), none, 0, .see (.build [(.r (.v (.int .i64 0))), (.r (.v (.int .i64 0))), (.r (.v (.int .i64 0))), (.r (.v (.int .i64 0)))] [(0, 1, (.c (.r (.v (.int .i64 1))))), (1, 1, (.c (.r (.v (.int .i64 5))))), (2, 1, (.c (.r (.v (.int .i64 5))))), (3, 1, (.c (.r (.v (.int .i64 3)))))])⟩,
    ⟨(some 11), none, 2, .call 6 [(.t 9), (.t 10)]⟩,
    ⟨(some 2), none, 0, .see (.mov (.t 11))⟩])
  (.seq (.reg [⟨(some 12), none, 0, .see (.mov (.t 1))⟩,
    ⟨(some 13), none, 0, .see (.build [(.r (.v (.int .i64 0))), (.r (.v (.int .i64 0))), (.r (.v (.int .i64 0))), (.r (.v (.int .i64 0)))] [(0, 1, (.c (.r (.v (.int .i64 2))))), (1, 1, (.c (.r (.v (.int .i64 5))))), (2, 1, (.c (.r (.v (.int .i64 5))))), (3, 1, (.c (.r (.v (.int .i64 (-1))))))])⟩,
    ⟨(some 14), none, 3, .call 6 [(.t 12), (.t 13)]⟩,
    ⟨(some 3), none, 0, .see (.mov (.t 14))⟩])
  (.seq (.reg [⟨(some 16), none, 0, .see (.mov (.t 1))⟩,
    ⟨(some 17), none, 4, .call 12 [(.c (.r (.v (.int .i64 5)))), (.c (.r (.v (.int .i64 5)))), (.c (.r (.v (.int .i64 7))))]⟩,
    ⟨(some 18), none, 5, .call 13 [(.t 16), (.t 17)]⟩,
    ⟨(some 15), none, 0, .see (.mov (.t 18))⟩,
    ⟨(some 19), none, 0, .see (.ext (.t 15) 0)⟩,
    ⟨(some 20), none, 0, .see (.ext (.t 15) 1)⟩,
    ⟨(some 4), none, 0, .act (.new [(.r (.v (.int .u64 0))), (.r (.v (.int .i64 0))), (.r (.v (.int .i64 0))), (.r (.v (.int .i64 0))), (.r (.v (.int .i64 0)))])⟩,
    ⟨none, none, 0, .act (.st 5 (.t 4) (.t 19))⟩,
    ⟨(some 5), none, 0, .see (.mov (.t 20))⟩])
  (.seq (.reg [⟨(some 21), none, 0, .see (.mov (.t 2))⟩,
    ⟨(some 22), none, 0, .see (.mov (.t 21))⟩,
    ⟨(some 23), (some (22, true)), 0, .see (.mov (.t 3))⟩,
    ⟨(some 24), none, 0, .see (.pick (.t 22) (.t 23) (.c (.r (.v (.bool false)))))⟩,
    ⟨(some 25), none, 0, .see (.mov (.t 24))⟩,
    ⟨(some 26), (some (25, true)), 0, .see (.mov (.t 5))⟩,
    ⟨(some 27), none, 0, .see (.pick (.t 25) (.t 26) (.c (.r (.v (.bool false)))))⟩,
    ⟨(some 28), none, 0, .see (.mov (.t 27))⟩,
    ⟨(some 29), (some (28, true)), 0, .see (.fa 1 (.t 4))⟩,
    ⟨(some 30), (some (28, true)), 0, .see (.ld none (.t 29))⟩,
    ⟨(some 31), (some (28, true)), 0, .see (.bin .eql (.t 30) (.c (.r (.v (.int .i64 2)))))⟩,
    ⟨(some 32), none, 0, .see (.pick (.t 28) (.t 31) (.c (.r (.v (.bool false)))))⟩,
    ⟨(some 33), none, 0, .see (.mov (.t 32))⟩,
    ⟨(some 34), (some (33, true)), 0, .see (.fa 2 (.t 4))⟩,
    ⟨(some 35), (some (33, true)), 0, .see (.ld none (.t 34))⟩,
    ⟨(some 36), (some (33, true)), 0, .see (.bin .eql (.t 35) (.c (.r (.v (.int .i64 2)))))⟩,
    ⟨(some 37), none, 0, .see (.pick (.t 33) (.t 36) (.c (.r (.v (.bool false)))))⟩,
    ⟨(some 38), none, 0, .see (.mov (.t 37))⟩,
    ⟨(some 39), (some (38, true)), 0, .see (.fa 3 (.t 4))⟩,
    ⟨(some 40), (some (38, true)), 0, .see (.ld none (.t 39))⟩,
    ⟨(some 41), (some (38, true)), 0, .see (.bin .eql (.t 40) (.c (.r (.v (.int .i64 (-1))))))⟩,
    ⟨(some 42), none, 0, .see (.pick (.t 38) (.t 41) (.c (.r (.v (.bool false)))))⟩,
    ⟨(some 43), none, 0, .see (.mov (.t 42))⟩,
    ⟨(some 44), (some (43, true)), 0, .see (.fa 4 (.t 4))⟩,
    ⟨(some 45), (some (43, true)), 0, .see (.ld none (.t 44))⟩,
    ⟨(some 46), (some (43, true)), 0, .see (.bin .eql (.t 45) (.c (.r (.v (.int .i64 3)))))⟩,
    ⟨(some 47), none, 0, .see (.pick (.t 43) (.t 46) (.c (.r (.v (.bool false)))))⟩,
    ⟨(some 48), none, 0, .see (.mov (.t 47))⟩,
    ⟨(some 49), (some (48, true)), 0, .see (.mov (.t 1))⟩,
    ⟨(some 50), (some (48, true)), 6, .call 7 [(.t 49)]⟩,
    ⟨(some 51), (some (48, true)), 0, .see (.bin .eql (.t 50) (.c (.r (.v (.int .i64 2)))))⟩,
    ⟨(some 52), none, 0, .see (.pick (.t 48) (.t 51) (.c (.r (.v (.bool false)))))⟩,
    ⟨(some 0), none, 0, .see (.mov (.t 52))⟩])
  .ret)))))))
noncomputable abbrev apiarylaw18_awake_code : Code := (Go.Proofs.Try.f9.body).getD .skip
theorem apiarylaw18_awake_chk : chkC Go.Proofs.Try.prog 53 apiarylaw18_awake_code apiarylaw18_awake_pc = true := by kernel_rfl
theorem apiarylaw18_awake_triple {args : List AV} {po ro : List Ob} {res : AV} (hal : args.length = 0) (hpo : po.length ≤ 1000)
    (h : run Go.Proofs.Try.prog po.length (RetP po.length [(0, false, none)] fun v os => v = res ∧ os = ro) [.c apiarylaw18_awake_pc] ⟨argE 0 args, ob0 po⟩) : Triple Go.Proofs.Try.prog 9 args po res ro :=
  triple_of_W (fn := Go.Proofs.Try.f9) (c := apiarylaw18_awake_code) (pc := apiarylaw18_awake_pc) (rs := [(0, false, none)]) Go.Proofs.Try.func9 rfl (by decide) (by have := apiarylaw18_awake_chk; exact this) (by rw [hal]; decide) rfl (by kernel_rfl) (by kernel_rfl) (by decide) hpo (W_of_run h)

theorem put_yes (L : List Pt) (p : Pt) (h : canPut L p = true) : Triple Go.Proofs.Try.prog 6 [.ptr 1000000 0 0, p.av] [.abs (sT L)] (bl true) [.abs (sT (plusP L p))] := by
  have := put_a L p
  rw [h, if_pos rfl] at this
  exact this
theorem put_no (L : List Pt) (p : Pt) (h : canPut L p = false) : Triple Go.Proofs.Try.prog 6 [.ptr 1000000 0 0, p.av] [.abs (sT L)] (bl false) [.abs (sT L)] := by
  have := put_a L p
  rw [h, if_neg (by simp)] at this
  exact this
theorem cell_yes (L : List Pt) (w : Nat) (h : mem L w ≠ []) : Triple Go.Proofs.Try.prog 13 [.ptr 1000000 0 0, int .u64 w] [.abs (sT L)] (.tup [.r (.agg [.v (.int .u64 w), .v (.int .i64 (mem L w).length), .v (.int .i64 (sumV (mem L w))), .v (.int .i64 (loV (mem L w))), .v (.int .i64 (hiV (mem L w)))]), bl true]) [.abs (sT L)] := by
  have := cell_a L w
  unfold cellR cellS at this
  rw [if_neg h, if_neg h] at this
  exact this
theorem cell_no (L : List Pt) (w : Nat) (h : mem L w = []) : Triple Go.Proofs.Try.prog 13 [.ptr 1000000 0 0, int .u64 w] [.abs (sT L)] (.tup [.r (.agg [.v (.int .u64 0), .v (.int .i64 0), .v (.int .i64 0), .v (.int .i64 0), .v (.int .i64 0)]), bl false]) [.abs (sT L)] := by
  have := cell_a L w
  unfold cellR at this
  rw [if_pos h] at this
  exact this
set_option maxRecDepth 100000 in
theorem awake_t : Triple Go.Proofs.Try.prog 9 [] [] (bl true) [] := by
  refine apiarylaw18_awake_triple rfl (by decide) ?_
  simp only [apiarylaw18_awake_pc, List.length_nil, push_cast, ↓reduceIte, reduceCtorEq, Nat.reduceBEq, Nat.reduceEqDiff, Nat.reduceAdd, Nat.reduceSub, Nat.reduceLT, Nat.reduceLeDiff, Nat.reduceMul]
  refine call_mk new_a rfl trivial ?_
  simp only [push_cast, ↓reduceIte, reduceCtorEq, Nat.reduceBEq, Nat.reduceEqDiff, Nat.reduceAdd, Nat.reduceSub, Nat.reduceLT, Nat.reduceLeDiff, Nat.reduceMul]
  refine call_as (as' := [.ptr 1000000 0 0, Pt.av ⟨1, 5, 5, 3⟩]) rfl ?_
  refine call_mk (put_yes [] ⟨1, 5, 5, 3⟩ (by decide)) rfl ⟨rfl, trivial⟩ ?_
  simp only [push_cast, ↓reduceIte, reduceCtorEq, Nat.reduceBEq, Nat.reduceEqDiff, Nat.reduceAdd, Nat.reduceSub, Nat.reduceLT, Nat.reduceLeDiff, Nat.reduceMul]
  refine call_as (as' := [.ptr 1000000 0 0, Pt.av ⟨2, 5, 5, -1⟩]) rfl ?_
  refine call_mk (put_yes _ ⟨2, 5, 5, -1⟩ (by decide)) rfl ⟨rfl, trivial⟩ ?_
  simp only [push_cast, ↓reduceIte, reduceCtorEq, Nat.reduceBEq, Nat.reduceEqDiff, Nat.reduceAdd, Nat.reduceSub, Nat.reduceLT, Nat.reduceLeDiff, Nat.reduceMul]
  refine call_mk (rwordOf_t 5 5 7 (by decide) (by decide)) rfl trivial ?_
  simp only [uw, Int.reduceToNat, push_cast, ↓reduceIte, reduceCtorEq, Nat.reduceBEq, Nat.reduceEqDiff, Nat.reduceAdd, Nat.reduceSub, Nat.reduceLT, Nat.reduceLeDiff, Nat.reduceMul]
  have hL : plusP (plusP [] ⟨1, 5, 5, 3⟩) ⟨2, 5, 5, -1⟩ = [⟨1, 5, 5, 3⟩, ⟨2, 5, 5, -1⟩] := by decide
  rw [hL]
  have hm : mem [⟨1, 5, 5, 3⟩, ⟨2, 5, 5, -1⟩] (wordOf 5 5 7) = [⟨1, 5, 5, 3⟩, ⟨2, 5, 5, -1⟩] := by
    unfold mem
    rw [List.filter_eq_self]
    intro q hq
    rw [inC_iff]
    refine ⟨7, by decide, ?_⟩
    simp at hq
    rcases hq with rfl | rfl <;> rfl
  have hC := cell_yes [⟨1, 5, 5, 3⟩, ⟨2, 5, 5, -1⟩] (wordOf 5 5 7) (by rw [hm]; simp)
  rw [hm] at hC
  simp only [show ((List.length [(⟨1, 5, 5, 3⟩ : Pt), ⟨2, 5, 5, -1⟩] : Nat) : Int) = 2 from rfl, show sumV [⟨1, 5, 5, 3⟩, ⟨2, 5, 5, -1⟩] = 2 from rfl, show loV [⟨1, 5, 5, 3⟩, ⟨2, 5, 5, -1⟩] = -1 from rfl, show hiV [⟨1, 5, 5, 3⟩, ⟨2, 5, 5, -1⟩] = 3 from rfl] at hC
  refine call_mk hC rfl ⟨rfl, trivial⟩ ?_
  simp only [push_cast, ↓reduceIte, reduceCtorEq, Nat.reduceBEq, Nat.reduceEqDiff, Nat.reduceAdd, Nat.reduceSub, Nat.reduceLT, Nat.reduceLeDiff, Nat.reduceMul]
  refine call_mk (len_a _) rfl ⟨rfl, trivial⟩ ?_
  simp only [push_cast, ↓reduceIte, reduceCtorEq, Nat.reduceBEq, Nat.reduceEqDiff, Nat.reduceAdd, Nat.reduceSub, Nat.reduceLT, Nat.reduceLeDiff, Nat.reduceMul]
  rfl
end Go.Ev


namespace Go.Ev
open Go
set_option linter.unusedSectionVars false
set_option linter.unnecessarySimpa false
set_option linter.unusedSimpArgs false
set_option linter.unusedVariables false
noncomputable def apiarylaw18_StatsBounds_pc : PC :=
  (.seq (.reg [⟨(some 2), none, 0, .see (.mov (.c (.r (.v (.bool false)))))⟩])
  (.seq (.reg [⟨(some 6), none, 0, .see (.mov (.t 0))⟩,
    ⟨(some 7), none, 0, .see (.bin .and (.t 6) (.c (.r (.v (.int .i64 15)))))⟩,
    ⟨(some 8), none, 0, .see (.bin .add (.t 7) (.c (.r (.v (.int .i64 1993)))))⟩,
    ⟨(some 0), none, 0, .see (.mov (.t 8))⟩])
  (.seq (.reg [⟨(some 9), none, 1, .call 5 []⟩,
    ⟨(some 3), none, 0, .see (.mov (.t 9))⟩])
  (.seq (.seq (.reg [⟨(some 10), none, 0, .see (.mov (.t 3))⟩,
    ⟨(some 11), none, 0, .see (.eqn false (.t 10))⟩])
  (.cond (.t 11)
    (.seq (.reg [⟨(some 2), none, 0, .see (.mov (.c (.r (.v (.bool false)))))⟩])
    .ret)
    .skip))
  (.seq (.seq (.reg [⟨(some 4), none, 0, .see (.mov (.c (.r (.v (.int .i64 0)))))⟩])
  (.block 0 (.loop (.seq (.seq (.reg [⟨(some 12), none, 0, .see (.mov (.t 4))⟩,
    ⟨(some 13), none, 0, .see (.mov (.t 0))⟩,
    ⟨(some 14), none, 0, .see (.bin .lss (.t 12) (.t 13))⟩])
  (.cond (.t 14)
    .skip
    (.exit 0)))
  (.seq (.block 1 (.seq (.reg [⟨(some 17), none, 0, .see (.mov (.t 3))⟩,
    ⟨(some 18), none, 0, .see (.mov (.t 4))⟩,
    ⟨(some 19), none, 0, .see (.bin .add (.t 18) (.c (.r (.v (.int .i64 1)))))⟩,
    ⟨(some 20), none, 0, .see (.mov (.t 4))⟩,
    ⟨(some 21), none, 0, .see (.bin .mul (.t 20) (.c (.r (.v (.int .i64 1000)))))⟩,
    ⟨(some 22), none, 0, .see (.build [(.r (.v (.int .i64 0))), (.r (.v (.int .i64 0))), (.r (.v (.int .i64 0))), (.r (.v (.int .i64 0)))] [(0, 1, (.t 19)), (1, 1, (.t 21)), (2, 1, (.c (.r (.v (.int .i64 5))))), (3, 1, (.c (.r (.v (.int .i64 1)))))])⟩,
    ⟨(some 23), none, 2, .call 6 [(.t 17), (.t 22)]⟩,
    ⟨(some 24), none, 0, .see (.mov (.t 4))⟩,
    ⟨(some 25), none, 0, .see (.bin .lss (.t 24) (.c (.r (.v (.int .i64 2000)))))⟩,
    ⟨(some 26), none, 0, .see (.beq true (.t 23) (.t 25))⟩])
  (.cond (.t 26)
    (.seq (.reg [⟨(some 2), none, 0, .see (.mov (.c (.r (.v (.bool false)))))⟩])
    .ret)
    .skip)))
  (.reg [⟨(some 15), none, 0, .see (.mov (.t 4))⟩,
    ⟨(some 16), none, 0, .see (.bin .add (.t 15) (.c (.r (.v (.int .i64 1)))))⟩,
    ⟨(some 4), none, 0, .see (.mov (.t 16))⟩]))))))
  (.seq (.reg [⟨(some 27), none, 0, .see (.mov (.t 0))⟩,
    ⟨(some 28), none, 0, .see (.mm false (.t 27) [(.c (.r (.v (.int .i64 2000))))])⟩,
    ⟨(some 5), none, 0, .see (.mov (.t 28))⟩])
  (.seq (.reg [⟨(some 29), none, 0, .see (.mov (.t 3))⟩,
    ⟨(some 30), none, 3, .call 7 [(.t 29)]⟩,
    ⟨(some 31), none, 0, .see (.mov (.t 5))⟩,
    ⟨(some 32), none, 0, .see (.bin .eql (.t 30) (.t 31))⟩,
    ⟨(some 33), none, 0, .see (.mov (.t 32))⟩,
    ⟨(some 34), (some (33, true)), 0, .see (.mov (.t 3))⟩,
    ⟨(some 35), (some (33, true)), 0, .see (.build [(.r (.v (.int .i64 0))), (.r (.v (.int .i64 0))), (.r (.v (.int .i64 0))), (.r (.v (.int .i64 0)))] [(0, 1, (.c (.r (.v (.int .i64 7))))), (1, 1, (.c (.r (.v (.int .i64 3))))), (2, 1, (.c (.r (.v (.int .i64 3))))), (3, 1, (.c (.r (.v (.int .i64 9)))))])⟩,
    ⟨(some 36), (some (33, true)), 4, .call 6 [(.t 34), (.t 35)]⟩,
    ⟨(some 37), none, 0, .see (.pick (.t 33) (.t 36) (.c (.r (.v (.bool false)))))⟩,
    ⟨(some 38), none, 0, .see (.mov (.t 37))⟩,
    ⟨(some 39), (some (38, true)), 0, .see (.mov (.t 3))⟩,
    ⟨(some 40), (some (38, true)), 5, .call 7 [(.t 39)]⟩,
    ⟨(some 41), (some (38, true)), 0, .see (.mov (.t 5))⟩,
    ⟨(some 42), (some (38, true)), 0, .see (.bin .eql (.t 40) (.t 41))⟩,
    ⟨(some 43), none, 0, .see (.pick (.t 38) (.t 42) (.c (.r (.v (.bool false)))))⟩,
    ⟨(some 44), none, 0, .see (.mov (.t 43))⟩,
    ⟨(some 45), (some (44, true)), 0, .see (.mov (.t 3))⟩,
    ⟨(some 46), (some (44, true)), 0, .see (.build [(.r (.v (.int .i64 0))), (.r (.v (.int .i64 0))), (.r (.v (.int .i64 0))), (.r (.v (.int .i64 0)))] [(0, 1, (.c (.r (.v (.int .i64 0)))))])⟩,
    ⟨(some 47), (some (44, true)), 6, .call 6 [(.t 45), (.t 46)]⟩,
    ⟨(some 48), (some (44, true)), 0, .see (.un .not (.t 47))⟩,
    ⟨(some 49), none, 0, .see (.pick (.t 44) (.t 48) (.c (.r (.v (.bool false)))))⟩,
    ⟨(some 50), none, 0, .see (.mov (.t 49))⟩,
    ⟨(some 51), (some (50, true)), 0, .see (.mov (.t 3))⟩,
    ⟨(some 52), (some (50, true)), 0, .see (.build [(.r (.v (.int .i64 0))), (.r (.v (.int .i64 0))), (.r (.v (.int .i64 0))), (.r (.v (.int .i64 0)))] [(0, 1, (.c (.r (.v (.int .i64 5))))), (3, 1, (.c (.r (.v (.int .i64 2147483648)))))])⟩,
    ⟨(some 53), (some (50, true)), 7, .call 6 [(.t 51), (.t 52)]⟩,
    ⟨(some 54), (some (50, true)), 0, .see (.un .not (.t 53))⟩,
    ⟨(some 55), none, 0, .see (.pick (.t 50) (.t 54) (.c (.r (.v (.bool false)))))⟩,
    ⟨(some 56), none, 0, .see (.mov (.t 55))⟩,
    ⟨(some 57), (some (56, true)), 0, .see (.mov (.t 3))⟩,
    ⟨(some 58), (some (56, true)), 8, .call 8 [(.t 57), (.c (.r (.v (.int .i64 1099511627776))))]⟩,
    ⟨(some 59), (some (56, true)), 0, .see (.un .not (.t 58))⟩,
    ⟨(some 60), none, 0, .see (.pick (.t 56) (.t 59) (.c (.r (.v (.bool false)))))⟩,
    ⟨(some 61), none, 0, .see (.mov (.t 60))⟩,
    ⟨(some 62), (some (61, true)), 9, .call 9 []⟩,
    ⟨(some 63), none, 0, .see (.pick (.t 61) (.t 62) (.c (.r (.v (.bool false)))))⟩,
    ⟨(some 2), none, 0, .see (.mov (.t 63))⟩])
  .ret)))))))
noncomputable abbrev apiarylaw18_StatsBounds_code : Code := (Go.Proofs.Try.f3.body).getD .skip
theorem apiarylaw18_StatsBounds_chk : chkC Go.Proofs.Try.prog 64 apiarylaw18_StatsBounds_code apiarylaw18_StatsBounds_pc = true := by kernel_rfl
theorem apiarylaw18_StatsBounds_triple {args : List AV} {po ro : List Ob} {res : AV} (hal : args.length = 1) (hpo : po.length ≤ 1000)
    (h : run Go.Proofs.Try.prog po.length (RetP po.length [(2, false, none)] fun v os => v = res ∧ os = ro) [.c apiarylaw18_StatsBounds_pc] ⟨argE 0 args, ob0 po⟩) : Triple Go.Proofs.Try.prog 3 args po res ro :=
  triple_of_W (fn := Go.Proofs.Try.f3) (c := apiarylaw18_StatsBounds_code) (pc := apiarylaw18_StatsBounds_pc) (rs := [(2, false, none)]) Go.Proofs.Try.func3 rfl (by decide) (by have := apiarylaw18_StatsBounds_chk; exact this) (by rw [hal]; decide) rfl (by kernel_rfl) (by kernel_rfl) (by decide) hpo (W_of_run h)

/-- The points of the law. -/
def bp (i : Nat) : Pt := ⟨i + 1, i * 1000, 5, 1⟩
def bL (n : Nat) : List Pt := (List.range n).map bp
theorem bL_len (n : Nat) : (bL n).length = n := by simp [bL]
theorem bL_add (n : Nat) : bL (n + 1) = bL n ++ [bp n] := by simp [bL, List.range_succ]
theorem bp_ok (i : Nat) (h : i < 2100) : (bp i).ok := by
  unfold bp
  refine ⟨by simp only; omega, ?_, by simp only; omega⟩
  simp only [inW]
  omega
theorem bL_has (n k : Nat) (h : n ≤ k) : has (bL n) (bp k).k = false := by
  rw [has_not]
  intro p hp
  obtain ⟨j, hj, rfl⟩ := List.mem_map.1 hp
  simp at hj
  simp only [bp]
  omega
theorem bL_put (i : Nat) (h : i < 2000) : canPut (bL i) (bp i) = true ∧ plusP (bL i) (bp i) = bL (i + 1) := by
  constructor
  · simp [canPut, bp_ok i (by omega), bL_has i i (Nat.le_refl _), bL_len, h]
  · unfold plusP
    rw [without_no (bL_has i i (Nat.le_refl _)), bL_add]
theorem bL_full (i : Nat) (h : 2000 ≤ i) : canPut (bL 2000) (bp i) = false := by
  have : ¬ (2000 : Nat) < 2000 := by omega
  simp [canPut, bL_has 2000 i h, bL_len]
set_option maxHeartbeats 2000000 in
set_option maxRecDepth 100000 in
theorem bounds_t (n : Int) : Triple Go.Proofs.Try.prog 3 [int .i64 n] [] (bl true) [] := by
  refine apiarylaw18_StatsBounds_triple rfl (by decide) ?_
  obtain ⟨N, hN, hN1, hN2⟩ : ∃ N : Nat, n % 16 = N ∧ N < 16 ∧ 0 ≤ N := ⟨(n % 16).toNat, by omega, by omega, by omega⟩
  have e1 : IntKind.i64.wrap ((BitVec.ofInt IntKind.i64.bits n &&& BitVec.ofInt IntKind.i64.bits 15).toNat) = n % 16 := and_mask n 15 4 (by decide) (by decide)
  obtain ⟨K, hK⟩ : ∃ K, N + 1993 = K := ⟨_, rfl⟩
  have e2 : IntKind.i64.wrap ((N : Int) + 1993) = (K : Int) := by rw [wrap_id (by omega)]; omega
  simp only [apiarylaw18_StatsBounds_pc, e1, hN, List.length_nil, push_cast, ↓reduceIte, reduceCtorEq, Nat.reduceBEq, Nat.reduceEqDiff, Nat.reduceAdd, Nat.reduceSub, Nat.reduceLT, Nat.reduceLeDiff, Nat.reduceMul]
  rw [e2]
  refine call_mk new_a rfl trivial ?_
  simp only [push_cast, ↓reduceIte, reduceCtorEq, Nat.reduceBEq, Nat.reduceEqDiff, Nat.reduceAdd, Nat.reduceSub, Nat.reduceLT, Nat.reduceLeDiff, Nat.reduceMul]
  refine run_loop [(4, false), (0, false), (3, false)] (fun vs pos los => ∃ i : Nat, i ≤ K ∧ vs = [int .i64 i, int .i64 K, .ptr 2000000 0 0] ∧ pos = [] ∧ los = [.abs (sT (bL (min i 2000)))])
    (fun vs _ _ => match vs with | .r (.v (.int _ j)) :: _ => (K - j).toNat | _ => 0) rfl ?_ ?_
  · simp only [push_cast, ↓reduceIte, reduceCtorEq, Nat.reduceBEq, Nat.reduceEqDiff, Nat.reduceAdd, Nat.reduceSub, Nat.reduceLT, Nat.reduceLeDiff, Nat.reduceMul]
    exact ⟨0, by omega, rfl, rfl⟩
  · rintro vs pos los ⟨i, hi, rfl, rfl, rfl⟩
    simp only [push_cast, ↓reduceIte, reduceCtorEq, Nat.reduceBEq, Nat.reduceEqDiff, Nat.reduceAdd, Nat.reduceSub, Nat.reduceLT, Nat.reduceLeDiff, Nat.reduceMul]
    refine cnd_mk (fun h => ?_) (fun h => ?_)
    · have h' : i < K := by
        simp at h
        omega
      have w1 : IntKind.i64.wrap ((i : Int) + 1) = (i : Int) + 1 := wrap_id (by omega)
      have w2 : IntKind.i64.wrap ((i : Int) * 1000) = (i : Int) * 1000 := wrap_id (by omega)
      simp only [w1, w2, push_cast, ↓reduceIte, reduceCtorEq, Nat.reduceBEq, Nat.reduceEqDiff, Nat.reduceAdd, Nat.reduceSub, Nat.reduceLT, Nat.reduceLeDiff, Nat.reduceMul]
      refine call_as (as' := [.ptr 1000000 0 0, (bp i).av]) rfl ?_
      by_cases hb : i < 2000
      · rw [show min i 2000 = i by omega]
        have hT := put_yes (bL i) (bp i) (bL_put i hb).1
        rw [(bL_put i hb).2] at hT
        refine call_mk hT rfl ⟨rfl, trivial⟩ ?_
        have e3 : decide ((i : Int) < 2000) = true := by simp; omega
        simp only [e3, w1, push_cast, ↓reduceIte, reduceCtorEq, Nat.reduceBEq, Nat.reduceEqDiff, Nat.reduceAdd, Nat.reduceSub, Nat.reduceLT, Nat.reduceLeDiff, Nat.reduceMul]
        refine ⟨⟨i + 1, by omega, rfl, ?_⟩, by omega⟩
        rw [show min (i + 1) 2000 = i + 1 by omega]
      · rw [show min i 2000 = 2000 by omega]
        refine call_mk (put_no (bL 2000) (bp i) (bL_full i (by omega))) rfl ⟨rfl, trivial⟩ ?_
        have e3 : decide ((i : Int) < 2000) = false := by simp; omega
        simp only [e3, w1, push_cast, ↓reduceIte, reduceCtorEq, Nat.reduceBEq, Nat.reduceEqDiff, Nat.reduceAdd, Nat.reduceSub, Nat.reduceLT, Nat.reduceLeDiff, Nat.reduceMul]
        refine ⟨⟨i + 1, by omega, rfl, ?_⟩, by omega⟩
        rw [show min (i + 1) 2000 = 2000 by omega]
    · have h' : K = i := by
        simp at h
        omega
      subst h'
      simp only [push_cast, ↓reduceIte, reduceCtorEq, Nat.reduceBEq, Nat.reduceEqDiff, Nat.reduceAdd, Nat.reduceSub, Nat.reduceLT, Nat.reduceLeDiff, Nat.reduceMul]
      obtain ⟨M, hM⟩ : ∃ M, min (K) 2000 = M := ⟨_, rfl⟩
      have hM' : min ((K : Int)) 2000 = M := by omega
      have hml := bL_len M
      have h7 : (∃ q ∈ bL M, q.k = 7) := ⟨bp 6, List.mem_map.2 ⟨6, by simp; omega, rfl⟩, rfl⟩
      have hc7 : canPut (bL M) ⟨7, 3, 3, 9⟩ = true := by
        have : has (bL M) 7 = true := has_iff.2 h7
        have ok7 : (⟨7, 3, 3, 9⟩ : Pt).ok := by decide
        simp [canPut, this, ok7]
      have hl7 : (plusP (bL M) ⟨7, 3, 3, 9⟩).length = M := by
        obtain ⟨q, hq, e⟩ := h7
        have hnd : ((bL M).map (·.k)).Nodup := by
          have : (bL M).map (·.k) = (List.range M).map fun (i : Nat) => (i : Int) + 1 := by simp [bL, bp, Function.comp_def]
          rw [this]
          refine List.pairwise_map.2 (List.nodup_range.imp fun {a b} hab e => hab (by omega))
        have := len_without hnd hq
        rw [e, hml] at this
        unfold plusP
        rw [List.length_append, List.length_singleton]
        exact this
      have hn7 : has (plusP (bL M) ⟨7, 3, 3, 9⟩) 1099511627776 = false := by
        rw [has_not]
        intro p hp
        rcases List.mem_append.1 hp with hp | hp
        · obtain ⟨j, hj, rfl⟩ := List.mem_map.1 (without_mem.1 hp).1
          simp at hj
          simp only [bp]
          omega
        · rw [List.mem_singleton.1 hp]
          decide
      have hD := del_a (plusP (bL M) ⟨7, 3, 3, 9⟩) 1099511627776
      rw [hn7, without_no hn7] at hD
      simp only [hM, hM', push_cast, ↓reduceIte, reduceCtorEq, Nat.reduceBEq, Nat.reduceEqDiff, Nat.reduceAdd, Nat.reduceSub, Nat.reduceLT, Nat.reduceLeDiff, Nat.reduceMul]
      have hLn := len_a (bL M)
      rw [hml] at hLn
      refine call_mk hLn rfl ⟨rfl, trivial⟩ ?_
      have eq1 : ((M : Int) == M) = true := by simp
      simp only [hM', eq1, push_cast, ↓reduceIte, reduceCtorEq, Nat.reduceBEq, Nat.reduceEqDiff, Nat.reduceAdd, Nat.reduceSub, Nat.reduceLT, Nat.reduceLeDiff, Nat.reduceMul]
      refine call_as (as' := [.ptr 1000000 0 0, Pt.av ⟨7, 3, 3, 9⟩]) rfl ?_
      refine call_mk (put_yes _ _ hc7) rfl ⟨rfl, trivial⟩ ?_
      have hLn2 := len_a (plusP (bL M) ⟨7, 3, 3, 9⟩)
      rw [hl7] at hLn2
      simp only [hM', eq1, push_cast, ↓reduceIte, reduceCtorEq, Nat.reduceBEq, Nat.reduceEqDiff, Nat.reduceAdd, Nat.reduceSub, Nat.reduceLT, Nat.reduceLeDiff, Nat.reduceMul]
      refine call_mk hLn2 rfl ⟨rfl, trivial⟩ ?_
      simp only [hM', eq1, push_cast, ↓reduceIte, reduceCtorEq, Nat.reduceBEq, Nat.reduceEqDiff, Nat.reduceAdd, Nat.reduceSub, Nat.reduceLT, Nat.reduceLeDiff, Nat.reduceMul]
      refine call_as (as' := [.ptr 1000000 0 0, Pt.av ⟨0, 0, 0, 0⟩]) rfl ?_
      refine call_mk (put_no _ _ (by simp [canPut, show ¬ (⟨0, 0, 0, 0⟩ : Pt).ok by decide])) rfl ⟨rfl, trivial⟩ ?_
      simp only [hM', eq1, push_cast, ↓reduceIte, reduceCtorEq, Nat.reduceBEq, Nat.reduceEqDiff, Nat.reduceAdd, Nat.reduceSub, Nat.reduceLT, Nat.reduceLeDiff, Nat.reduceMul]
      refine call_as (as' := [.ptr 1000000 0 0, Pt.av ⟨5, 0, 0, 2147483648⟩]) rfl ?_
      refine call_mk (put_no _ _ (by simp [canPut, show ¬ (⟨5, 0, 0, 2147483648⟩ : Pt).ok by decide])) rfl ⟨rfl, trivial⟩ ?_
      simp only [hM', eq1, push_cast, ↓reduceIte, reduceCtorEq, Nat.reduceBEq, Nat.reduceEqDiff, Nat.reduceAdd, Nat.reduceSub, Nat.reduceLT, Nat.reduceLeDiff, Nat.reduceMul]
      refine call_mk hD rfl ⟨rfl, trivial⟩ ?_
      simp only [push_cast, ↓reduceIte, reduceCtorEq, Nat.reduceBEq, Nat.reduceEqDiff, Nat.reduceAdd, Nat.reduceSub, Nat.reduceLT, Nat.reduceLeDiff, Nat.reduceMul]
      refine call_mk awake_t rfl trivial ?_
      simp only [push_cast, ↓reduceIte, reduceCtorEq, Nat.reduceBEq, Nat.reduceEqDiff, Nat.reduceAdd, Nat.reduceSub, Nat.reduceLT, Nat.reduceLeDiff, Nat.reduceMul]
end Go.Ev


namespace Go.Ev
open Go
set_option linter.unusedSectionVars false
set_option linter.unnecessarySimpa false
set_option linter.unusedSimpArgs false
set_option linter.unusedVariables false
noncomputable def apiarylaw18_StatsMoves_pc : PC :=
  (.seq (.reg [⟨(some 12), none, 0, .see (.mov (.c (.r (.v (.bool false)))))⟩])
  (.seq (.reg [⟨(some 29), none, 0, .see (.mov (.t 0))⟩,
    ⟨(some 30), none, 1, .call 10 [(.t 29)]⟩,
    ⟨(some 13), none, 0, .see (.mov (.t 30))⟩])
  (.seq (.seq (.reg [⟨(some 31), none, 0, .see (.mov (.t 13))⟩,
    ⟨(some 32), none, 0, .see (.len false (.t 31))⟩,
    ⟨(some 33), none, 0, .see (.bin .eql (.t 32) (.c (.r (.v (.int .i64 0)))))⟩,
    ⟨(some 34), none, 0, .see (.mov (.t 33))⟩,
    ⟨(some 35), (some (34, false)), 0, .see (.mov (.t 0))⟩,
    ⟨(some 36), (some (34, false)), 0, .see (.len false (.t 35))⟩,
    ⟨(some 37), (some (34, false)), 0, .see (.bin .gtr (.t 36) (.c (.r (.v (.int .i64 80)))))⟩,
    ⟨(some 38), none, 0, .see (.pick (.t 34) (.c (.r (.v (.bool true)))) (.t 37))⟩])
  (.cond (.t 38)
    (.seq (.reg [⟨(some 39), none, 2, .call 9 []⟩,
    ⟨(some 12), none, 0, .see (.mov (.t 39))⟩])
    .ret)
    .skip))
  (.seq (.reg [⟨(some 40), none, 0, .see (.mov (.t 13))⟩,
    ⟨(some 41), none, 3, .call 11 [(.t 40)]⟩,
    ⟨(some 14), none, 0, .see (.mov (.t 41))⟩])
  (.seq (.seq (.reg [⟨(some 42), none, 0, .see (.mov (.t 14))⟩,
    ⟨(some 43), none, 0, .see (.eqn false (.t 42))⟩])
  (.cond (.t 43)
    (.seq (.reg [⟨(some 12), none, 0, .see (.mov (.c (.r (.v (.bool false)))))⟩])
    .ret)
    .skip))
  (.seq (.reg [⟨(some 44), none, 0, .see (.mov (.t 5))⟩,
    ⟨(some 45), none, 0, .see (.bin .rem (.t 44) (.c (.r (.v (.int .i64 13)))))⟩,
    ⟨(some 46), none, 0, .see (.bin .add (.t 45) (.c (.r (.v (.int .i64 13)))))⟩,
    ⟨(some 47), none, 0, .see (.bin .rem (.t 46) (.c (.r (.v (.int .i64 13)))))⟩,
    ⟨(some 5), none, 0, .see (.mov (.t 47))⟩])
  (.seq (.reg [⟨(some 48), none, 0, .see (.mov (.t 13))⟩,
    ⟨(some 49), none, 0, .see (.mov (.t 1))⟩,
    ⟨(some 50), none, 0, .see (.bin .and (.t 49) (.c (.r (.v (.int .i64 255)))))⟩,
    ⟨(some 51), none, 0, .see (.mov (.t 13))⟩,
    ⟨(some 52), none, 0, .see (.len false (.t 51))⟩,
    ⟨(some 53), none, 0, .see (.bin .rem (.t 50) (.t 52))⟩,
    ⟨(some 54), none, 0, .see (.ia 4 (.agg [(.v (.int .i64 0)), (.v (.int .i64 0)), (.v (.int .i64 0)), (.v (.int .i64 0))]) (.t 48) (.t 53))⟩,
    ⟨(some 55), none, 0, .see (.ld (some 4) (.t 54))⟩,
    ⟨(some 15), none, 0, .act (.new [(.r (.v (.int .i64 0))), (.r (.v (.int .i64 0))), (.r (.v (.int .i64 0))), (.r (.v (.int .i64 0)))])⟩,
    ⟨none, none, 0, .act (.st 4 (.t 15) (.t 55))⟩])
  (.seq (.reg [⟨(some 56), none, 0, .see (.fa 0 (.t 15))⟩,
    ⟨(some 57), none, 0, .see (.ld none (.t 56))⟩,
    ⟨(some 58), none, 0, .see (.mov (.t 2))⟩,
    ⟨(some 59), none, 0, .see (.bin .and (.t 58) (.c (.r (.v (.int .i64 1073741823)))))⟩,
    ⟨(some 60), none, 0, .see (.mov (.t 3))⟩,
    ⟨(some 61), none, 0, .see (.bin .and (.t 60) (.c (.r (.v (.int .i64 1073741823)))))⟩,
    ⟨(some 62), none, 0, .see (.mov (.t 4))⟩,
    ⟨(some 63), none, 0, .see (.bin .and (.t 62) (.c (.r (.v (.int .i64 65535)))))⟩,
    ⟨(some 64), none, 0, .see (.build [(.r (.v (.int .i64 0))), (.r (.v (.int .i64 0))), (.r (.v (.int .i64 0))), (.r (.v (.int .i64 0)))] [(0, 1, (.t 57)), (1, 1, (.t 59)), (2, 1, (.t 61)), (3, 1, (.t 63))])⟩,
    ⟨(some 16), none, 0, .act (.new [(.r (.v (.int .i64 0))), (.r (.v (.int .i64 0))), (.r (.v (.int .i64 0))), (.r (.v (.int .i64 0)))])⟩,
    ⟨none, none, 0, .act (.st 4 (.t 16) (.t 64))⟩])
  (.seq (.drw [⟨(some 65), none, 0, .see (.fa 1 (.t 15))⟩,
    ⟨(some 66), none, 0, .see (.ld none (.t 65))⟩,
    ⟨(some 67), none, 0, .see (.fa 2 (.t 15))⟩,
    ⟨(some 68), none, 0, .see (.ld none (.t 67))⟩,
    ⟨(some 69), none, 0, .see (.mov (.t 5))⟩,
    ⟨(some 70), none, 4, .call 12 [(.t 66), (.t 68), (.t 69)]⟩,
    ⟨(some 71), none, 0, .see (.fa 1 (.t 16))⟩,
    ⟨(some 72), none, 0, .see (.ld none (.t 71))⟩,
    ⟨(some 73), none, 0, .see (.fa 2 (.t 16))⟩,
    ⟨(some 74), none, 0, .see (.ld none (.t 73))⟩,
    ⟨(some 75), none, 0, .see (.mov (.t 5))⟩,
    ⟨(some 76), none, 5, .call 12 [(.t 72), (.t 74), (.t 75)]⟩,
    ⟨(some 17), none, 0, .see (.mov (.t 70))⟩,
    ⟨(some 18), none, 0, .see (.mov (.t 76))⟩]
    [[], [0], [], [2], [], [0, 1, 2, 3, 4], [], [6], [], [8], [], [0, 1, 2, 3, 4, 5, 6, 7, 8, 9, 10], [0, 1, 2, 3, 4, 5, 6, 7, 8, 9, 10, 11], [0, 1, 2, 3, 4, 5, 6, 7, 8, 9, 10, 11, 12]])
  (.seq (.reg [⟨(some 78), none, 0, .see (.mov (.t 14))⟩,
    ⟨(some 79), none, 0, .see (.mov (.t 17))⟩,
    ⟨(some 80), none, 6, .call 13 [(.t 78), (.t 79)]⟩,
    ⟨(some 77), none, 0, .see (.mov (.t 80))⟩,
    ⟨(some 81), none, 0, .see (.ext (.t 77) 0)⟩,
    ⟨(some 82), none, 0, .see (.ext (.t 77) 1)⟩,
    ⟨(some 19), none, 0, .act (.new [(.r (.v (.int .u64 0))), (.r (.v (.int .i64 0))), (.r (.v (.int .i64 0))), (.r (.v (.int .i64 0))), (.r (.v (.int .i64 0)))])⟩,
    ⟨none, none, 0, .act (.st 5 (.t 19) (.t 81))⟩,
    ⟨(some 20), none, 0, .see (.mov (.t 82))⟩])
  (.seq (.reg [⟨(some 84), none, 0, .see (.mov (.t 14))⟩,
    ⟨(some 85), none, 0, .see (.mov (.t 18))⟩,
    ⟨(some 86), none, 7, .call 13 [(.t 84), (.t 85)]⟩,
    ⟨(some 83), none, 0, .see (.mov (.t 86))⟩,
    ⟨(some 87), none, 0, .see (.ext (.t 83) 0)⟩,
    ⟨(some 88), none, 0, .see (.ext (.t 83) 1)⟩,
    ⟨(some 21), none, 0, .act (.new [(.r (.v (.int .u64 0))), (.r (.v (.int .i64 0))), (.r (.v (.int .i64 0))), (.r (.v (.int .i64 0))), (.r (.v (.int .i64 0)))])⟩,
    ⟨none, none, 0, .act (.st 5 (.t 21) (.t 87))⟩,
    ⟨(some 22), none, 0, .see (.mov (.t 88))⟩])
  (.seq (.seq (.reg [⟨(some 89), none, 0, .see (.mov (.t 14))⟩,
    ⟨(some 90), none, 0, .see (.ld (some 4) (.t 16))⟩,
    ⟨(some 91), none, 8, .call 6 [(.t 89), (.t 90)]⟩,
    ⟨(some 92), none, 0, .see (.un .not (.t 91))⟩,
    ⟨(some 93), none, 0, .see (.mov (.t 92))⟩,
    ⟨(some 94), (some (93, false)), 0, .see (.mov (.t 14))⟩,
    ⟨(some 95), (some (93, false)), 9, .call 7 [(.t 94)]⟩,
    ⟨(some 96), (some (93, false)), 0, .see (.mov (.t 13))⟩,
    ⟨(some 97), (some (93, false)), 0, .see (.len false (.t 96))⟩,
    ⟨(some 98), (some (93, false)), 0, .see (.bin .neq (.t 95) (.t 97))⟩,
    ⟨(some 99), none, 0, .see (.pick (.t 93) (.c (.r (.v (.bool true)))) (.t 98))⟩])
  (.cond (.t 99)
    (.seq (.reg [⟨(some 12), none, 0, .see (.mov (.c (.r (.v (.bool false)))))⟩])
    .ret)
    .skip))
  (.seq (.reg [⟨(some 101), none, 0, .see (.mov (.t 14))⟩,
    ⟨(some 102), none, 0, .see (.mov (.t 17))⟩,
    ⟨(some 103), none, 10, .call 13 [(.t 101), (.t 102)]⟩,
    ⟨(some 100), none, 0, .see (.mov (.t 103))⟩,
    ⟨(some 104), none, 0, .see (.ext (.t 100) 0)⟩,
    ⟨(some 105), none, 0, .see (.ext (.t 100) 1)⟩,
    ⟨(some 23), none, 0, .act (.new [(.r (.v (.int .u64 0))), (.r (.v (.int .i64 0))), (.r (.v (.int .i64 0))), (.r (.v (.int .i64 0))), (.r (.v (.int .i64 0)))])⟩,
    ⟨none, none, 0, .act (.st 5 (.t 23) (.t 104))⟩,
    ⟨(some 24), none, 0, .see (.mov (.t 105))⟩])
  (.seq (.reg [⟨(some 107), none, 0, .see (.mov (.t 14))⟩,
    ⟨(some 108), none, 0, .see (.mov (.t 18))⟩,
    ⟨(some 109), none, 11, .call 13 [(.t 107), (.t 108)]⟩,
    ⟨(some 106), none, 0, .see (.mov (.t 109))⟩,
    ⟨(some 110), none, 0, .see (.ext (.t 106) 0)⟩,
    ⟨(some 111), none, 0, .see (.ext (.t 106) 1)⟩,
    ⟨(some 25), none, 0, .act (.new [(.r (.v (.int .u64 0))), (.r (.v (.int .i64 0))), (.r (.v (.int .i64 0))), (.r (.v (.int .i64 0))), (.r (.v (.int .i64 0)))])⟩,
    ⟨none, none, 0, .act (.st 5 (.t 25) (.t 110))⟩,
    ⟨(some 26), none, 0, .see (.mov (.t 111))⟩])
  (.seq (.seq (.reg [⟨(some 112), none, 0, .see (.mov (.t 26))⟩,
    ⟨(some 113), none, 0, .see (.un .not (.t 112))⟩,
    ⟨(some 114), none, 0, .see (.mov (.t 113))⟩,
    ⟨(some 115), (some (114, false)), 0, .see (.mov (.t 17))⟩,
    ⟨(some 116), (some (114, false)), 0, .see (.mov (.t 18))⟩,
    ⟨(some 117), (some (114, false)), 0, .see (.bin .eql (.t 115) (.t 116))⟩,
    ⟨(some 118), (some (114, false)), 0, .see (.mov (.t 117))⟩,
    ⟨(some 119), (some (118, true)), 0, .see (.fa 1 (.t 23))⟩,
    ⟨(some 120), (some (118, true)), 0, .see (.ld none (.t 119))⟩,
    ⟨(some 121), (some (118, true)), 0, .see (.fa 1 (.t 19))⟩,
    ⟨(some 122), (some (118, true)), 0, .see (.ld none (.t 121))⟩,
    ⟨(some 123), (some (118, true)), 0, .see (.bin .neq (.t 120) (.t 122))⟩,
    ⟨(some 124), (some (118, true)), 0, .see (.mov (.t 123))⟩,
    ⟨(some 125), (some (124, false)), 0, .see (.fa 2 (.t 23))⟩,
    ⟨(some 126), (some (124, false)), 0, .see (.ld none (.t 125))⟩,
    ⟨(some 127), (some (124, false)), 0, .see (.fa 2 (.t 19))⟩,
    ⟨(some 128), (some (124, false)), 0, .see (.ld none (.t 127))⟩,
    ⟨(some 129), (some (124, false)), 0, .see (.fa 3 (.t 15))⟩,
    ⟨(some 130), (some (124, false)), 0, .see (.ld none (.t 129))⟩,
    ⟨(some 131), (some (124, false)), 0, .see (.bin .sub (.t 128) (.t 130))⟩,
    ⟨(some 132), (some (124, false)), 0, .see (.fa 3 (.t 16))⟩,
    ⟨(some 133), (some (124, false)), 0, .see (.ld none (.t 132))⟩,
    ⟨(some 134), (some (124, false)), 0, .see (.bin .add (.t 131) (.t 133))⟩,
    ⟨(some 135), (some (124, false)), 0, .see (.bin .neq (.t 126) (.t 134))⟩,
    ⟨(some 136), (some (118, true)), 0, .see (.pick (.t 124) (.c (.r (.v (.bool true)))) (.t 135))⟩,
    ⟨(some 137), (some (114, false)), 0, .see (.pick (.t 118) (.t 136) (.c (.r (.v (.bool false)))))⟩,
    ⟨(some 138), none, 0, .see (.pick (.t 114) (.c (.r (.v (.bool true)))) (.t 137))⟩,
    ⟨(some 139), none, 0, .see (.mov (.t 138))⟩,
    ⟨(some 140), (some (139, false)), 0, .see (.mov (.t 17))⟩,
    ⟨(some 141), (some (139, false)), 0, .see (.mov (.t 18))⟩,
    ⟨(some 142), (some (139, false)), 0, .see (.bin .neq (.t 140) (.t 141))⟩,
    ⟨(some 143), (some (139, false)), 0, .see (.mov (.t 142))⟩,
    ⟨(some 144), (some (143, true)), 0, .see (.fa 1 (.t 23))⟩,
    ⟨(some 145), (some (143, true)), 0, .see (.ld none (.t 144))⟩,
    ⟨(some 146), (some (143, true)), 0, .see (.fa 1 (.t 19))⟩,
    ⟨(some 147), (some (143, true)), 0, .see (.ld none (.t 146))⟩,
    ⟨(some 148), (some (143, true)), 0, .see (.bin .sub (.t 147) (.c (.r (.v (.int .i64 1)))))⟩,
    ⟨(some 149), (some (143, true)), 0, .see (.bin .neq (.t 145) (.t 148))⟩,
    ⟨(some 150), (some (143, true)), 0, .see (.mov (.t 149))⟩,
    ⟨(some 151), (some (150, false)), 0, .see (.fa 1 (.t 25))⟩,
    ⟨(some 152), (some (150, false)), 0, .see (.ld none (.t 151))⟩,
    ⟨(some 153), (some (150, false)), 0, .see (.fa 1 (.t 21))⟩,
    ⟨(some 154), (some (150, false)), 0, .see (.ld none (.t 153))⟩,
    ⟨(some 155), (some (150, false)), 0, .see (.bin .add (.t 154) (.c (.r (.v (.int .i64 1)))))⟩,
    ⟨(some 156), (some (150, false)), 0, .see (.bin .neq (.t 152) (.t 155))⟩,
    ⟨(some 157), (some (143, true)), 0, .see (.pick (.t 150) (.c (.r (.v (.bool true)))) (.t 156))⟩,
    ⟨(some 158), (some (143, true)), 0, .see (.mov (.t 157))⟩,
    ⟨(some 159), (some (158, false)), 0, .see (.fa 2 (.t 25))⟩,
    ⟨(some 160), (some (158, false)), 0, .see (.ld none (.t 159))⟩,
    ⟨(some 161), (some (158, false)), 0, .see (.fa 2 (.t 21))⟩,
    ⟨(some 162), (some (158, false)), 0, .see (.ld none (.t 161))⟩,
    ⟨(some 163), (some (158, false)), 0, .see (.fa 3 (.t 16))⟩,
    ⟨(some 164), (some (158, false)), 0, .see (.ld none (.t 163))⟩,
    ⟨(some 165), (some (158, false)), 0, .see (.bin .add (.t 162) (.t 164))⟩,
    ⟨(some 166), (some (158, false)), 0, .see (.bin .neq (.t 160) (.t 165))⟩,
    ⟨(some 167), (some (143, true)), 0, .see (.pick (.t 158) (.c (.r (.v (.bool true)))) (.t 166))⟩,
    ⟨(some 168), (some (139, false)), 0, .see (.pick (.t 143) (.t 167) (.c (.r (.v (.bool false)))))⟩,
    ⟨(some 169), none, 0, .see (.pick (.t 139) (.c (.r (.v (.bool true)))) (.t 168))⟩])
  (.cond (.t 169)
    (.seq (.reg [⟨(some 12), none, 0, .see (.mov (.c (.r (.v (.bool false)))))⟩])
    .ret)
    .skip))
  (.seq (.seq (.reg [⟨(some 170), none, 0, .see (.mov (.t 14))⟩,
    ⟨(some 171), none, 0, .see (.fa 0 (.t 15))⟩,
    ⟨(some 172), none, 0, .see (.ld none (.t 171))⟩,
    ⟨(some 173), none, 12, .call 8 [(.t 170), (.t 172)]⟩,
    ⟨(some 174), none, 0, .see (.un .not (.t 173))⟩,
    ⟨(some 175), none, 0, .see (.mov (.t 174))⟩,
    ⟨(some 176), (some (175, false)), 0, .see (.mov (.t 14))⟩,
    ⟨(some 177), (some (175, false)), 0, .see (.fa 0 (.t 15))⟩,
    ⟨(some 178), (some (175, false)), 0, .see (.ld none (.t 177))⟩,
    ⟨(some 179), (some (175, false)), 13, .call 8 [(.t 176), (.t 178)]⟩,
    ⟨(some 180), none, 0, .see (.pick (.t 175) (.c (.r (.v (.bool true)))) (.t 179))⟩,
    ⟨(some 181), none, 0, .see (.mov (.t 180))⟩,
    ⟨(some 182), (some (181, false)), 0, .see (.mov (.t 14))⟩,
    ⟨(some 183), (some (181, false)), 14, .call 7 [(.t 182)]⟩,
    ⟨(some 184), (some (181, false)), 0, .see (.mov (.t 13))⟩,
    ⟨(some 185), (some (181, false)), 0, .see (.len false (.t 184))⟩,
    ⟨(some 186), (some (181, false)), 0, .see (.bin .sub (.t 185) (.c (.r (.v (.int .i64 1)))))⟩,
    ⟨(some 187), (some (181, false)), 0, .see (.bin .neq (.t 183) (.t 186))⟩,
    ⟨(some 188), none, 0, .see (.pick (.t 181) (.c (.r (.v (.bool true)))) (.t 187))⟩])
  (.cond (.t 188)
    (.seq (.reg [⟨(some 12), none, 0, .see (.mov (.c (.r (.v (.bool false)))))⟩])
    .ret)
    .skip))
  (.seq (.reg [⟨(some 190), none, 0, .see (.mov (.t 14))⟩,
    ⟨(some 191), none, 0, .see (.mov (.t 18))⟩,
    ⟨(some 192), none, 15, .call 13 [(.t 190), (.t 191)]⟩,
    ⟨(some 189), none, 0, .see (.mov (.t 192))⟩,
    ⟨(some 193), none, 0, .see (.ext (.t 189) 0)⟩,
    ⟨(some 194), none, 0, .see (.ext (.t 189) 1)⟩,
    ⟨(some 27), none, 0, .act (.new [(.r (.v (.int .u64 0))), (.r (.v (.int .i64 0))), (.r (.v (.int .i64 0))), (.r (.v (.int .i64 0))), (.r (.v (.int .i64 0)))])⟩,
    ⟨none, none, 0, .act (.st 5 (.t 27) (.t 193))⟩,
    ⟨(some 28), none, 0, .see (.mov (.t 194))⟩])
  (.seq (.reg [⟨(some 195), none, 0, .see (.fa 1 (.t 27))⟩,
    ⟨(some 196), none, 0, .see (.ld none (.t 195))⟩,
    ⟨(some 197), none, 0, .see (.fa 1 (.t 25))⟩,
    ⟨(some 198), none, 0, .see (.ld none (.t 197))⟩,
    ⟨(some 199), none, 0, .see (.bin .sub (.t 198) (.c (.r (.v (.int .i64 1)))))⟩,
    ⟨(some 200), none, 0, .see (.bin .eql (.t 196) (.t 199))⟩,
    ⟨(some 201), none, 0, .see (.mov (.t 200))⟩,
    ⟨(some 202), (some (201, true)), 16, .call 9 []⟩,
    ⟨(some 203), none, 0, .see (.pick (.t 201) (.t 202) (.c (.r (.v (.bool false)))))⟩,
    ⟨(some 12), none, 0, .see (.mov (.t 203))⟩])
  .ret))))))))))))))))))
noncomputable abbrev apiarylaw18_StatsMoves_code : Code := (Go.Proofs.Try.f4.body).getD .skip
theorem apiarylaw18_StatsMoves_chk : chkC Go.Proofs.Try.prog 204 apiarylaw18_StatsMoves_code apiarylaw18_StatsMoves_pc = true := by kernel_rfl
theorem apiarylaw18_StatsMoves_triple {args : List AV} {po ro : List Ob} {res : AV} (hal : args.length = 6) (hpo : po.length ≤ 1000)
    (h : run Go.Proofs.Try.prog po.length (RetP po.length [(12, false, none)] fun v os => v = res ∧ os = ro) [.c apiarylaw18_StatsMoves_pc] ⟨argE 0 args, ob0 po⟩) : Triple Go.Proofs.Try.prog 4 args po res ro :=
  triple_of_W (fn := Go.Proofs.Try.f4) (c := apiarylaw18_StatsMoves_code) (pc := apiarylaw18_StatsMoves_pc) (rs := [(12, false, none)]) Go.Proofs.Try.func4 rfl (by decide) (by have := apiarylaw18_StatsMoves_chk; exact this) (by rw [hal]; decide) rfl (by kernel_rfl) (by kernel_rfl) (by decide) hpo (W_of_run h)

/-! The plain law: moving a point. -/
theorem gp_of {l : List Pt} (h : GP l) (hl : l.length ≤ 1000) : ofL l = l := by
  have key : ∀ (r acc : List Pt), l = acc ++ r → r.foldl stepL acc = l := by
    intro r
    induction r with
    | nil => intro acc e; simpa using e.symm
    | cons p r ih =>
      intro acc e
      have hp := h acc.length p (by rw [e]; simp)
      have hno : has acc p.k = false := by
        rw [has_not]
        intro q hq e2
        obtain ⟨j, hj⟩ := List.getElem?_of_mem hq
        have hjl := (List.getElem?_eq_some_iff.1 hj).1
        have := (h j q (by rw [e, List.getElem?_append_left hjl]; exact hj)).1
        omega
      have hlen : acc.length < 2000 := by rw [e] at hl; simp at hl; omega
      have hs : stepL acc p = acc ++ [p] := by
        unfold stepL
        rw [show canPut acc p = true by simp [canPut, hp.2, hlen], if_pos rfl]
        unfold plusP
        rw [without_no hno]
      rw [List.foldl_cons, hs]
      exact ih (acc ++ [p]) (by rw [e]; simp)
  exact key l [] rfl
theorem gp_nd {l : List Pt} (h : GP l) : (l.map (·.k)).Nodup := by
  refine List.pairwise_iff_getElem.2 fun i j hi hj hij e => ?_
  simp only [List.length_map] at hi hj
  simp only [List.getElem_map] at e
  have a := (h i l[i] (by simp [hi])).1
  have b := (h j l[j] (by simp [hj])).1
  omega
/-- One point is taken out of what a cell holds. -/
theorem mem_without {L : List Pt} (hnd : (L.map (·.k)).Nodup) {q : Pt} (hq : q ∈ L) (w : Nat) :
    (mem (without q.k L) w).length + (if inC w q then 1 else 0) = (mem L w).length ∧ sumV (mem (without q.k L) w) + (if inC w q then q.v else 0) = sumV (mem L w) := by
  induction L with
  | nil => cases hq
  | cons p L ih =>
    rw [List.map_cons, List.nodup_cons] at hnd
    by_cases e : p.k = q.k
    · have hpq : p = q := by
        rcases List.mem_cons.1 hq with rfl | hq
        · rfl
        · exact absurd (List.mem_map.2 ⟨q, hq, e.symm⟩) hnd.1
      subst hpq
      have hno : has L p.k = false := by
        rw [has_not]
        intro x hx ex
        exact hnd.1 (List.mem_map.2 ⟨x, hx, ex⟩)
      have h1 : without p.k (p :: L) = L := by
        have : without p.k (p :: L) = without p.k L := by simp [without]
        rw [this, without_no hno]
      rw [h1]
      have h2 : mem (p :: L) w = if inC w p then p :: mem L w else mem L w := by simp only [mem, List.filter_cons]
      rw [h2]
      cases hc : inC w p with
      | true => simp [sumV]; omega
      | false => simp
    · have hq' : q ∈ L := by
        rcases List.mem_cons.1 hq with rfl | hq
        · exact absurd rfl e
        · exact hq
      have h1 : without q.k (p :: L) = p :: without q.k L := by simp [without, e]
      rw [h1]
      have h2 : ∀ M, mem (p :: M) w = if inC w p then p :: mem M w else mem M w := fun M => by simp only [mem, List.filter_cons]
      obtain ⟨g1, g2⟩ := ih hnd.2 hq'
      rw [h2, h2]
      cases hc : inC w p with
      | true => simp only [if_true, List.length_cons, sumV, List.map_cons, List.sum_cons] at g1 g2 ⊢; constructor <;> omega
      | false => simpa using ⟨g1, g2⟩
theorem mem_plus {L : List Pt} (hnd : (L.map (·.k)).Nodup) {q : Pt} (hq : q ∈ L) {t : Pt} (ht : t.k = q.k) (w : Nat) :
    (mem (plusP L t) w).length + (if inC w q then 1 else 0) = (mem L w).length + (if inC w t then 1 else 0) ∧ sumV (mem (plusP L t) w) + (if inC w q then q.v else 0) = sumV (mem L w) + (if inC w t then t.v else 0) := by
  obtain ⟨g1, g2⟩ := mem_without hnd hq w
  unfold plusP
  rw [ht]
  have e : mem (without q.k L ++ [t]) w = mem (without q.k L) w ++ (if inC w t then [t] else []) := by
    simp only [mem, List.filter_append, List.filter_cons, List.filter_nil]
  rw [e]
  cases inC w t with
  | true => simp only [if_true, List.length_append, List.length_singleton, sumV, List.map_append, List.map_cons, List.map_nil, List.sum_append, List.sum_cons, List.sum_nil] at g2 ⊢; constructor <;> omega
  | false => simp only [Bool.false_eq_true, if_false, List.append_nil]; constructor <;> omega
theorem inC_word {p : Pt} (h : p.ok) {r : Nat} (hr : r < 13) {w : Nat} (hw : resW w = r) : inC w p = decide (p.w r = w) := by
  cases e : inC w p with
  | true =>
    obtain ⟨s, hs, e2⟩ := inC_iff.1 e
    have := (Pt.w_res h hs).2.1
    rw [e2, hw] at this
    subst this
    simp [e2]
  | false =>
    rw [eq_comm, decide_eq_false_iff_not]
    intro e2
    rw [inC_iff.2 ⟨r, hr, e2⟩] at e
    cases e
end Go.Ev


namespace Go.Ev
open Go
set_option linter.unusedSectionVars false
set_option linter.unnecessarySimpa false
set_option linter.unusedSimpArgs false
set_option linter.unusedVariables false
theorem r13 (r : Int) : ∃ R : Nat, R < 13 ∧ (IntKind.i64.wrap (r.tmod 13 + 13)).tmod 13 = R := by
  have h0 := Int.tmod_lt_of_pos r (show (0 : Int) < 13 by decide)
  have h1 : -13 < r.tmod 13 := by
    have := Int.tmod_lt_of_pos (-r) (show (0 : Int) < 13 by decide)
    rw [Int.neg_tmod] at this
    omega
  rw [show IntKind.i64.wrap (r.tmod 13 + 13) = r.tmod 13 + 13 from wrap_id (by omega), Int.tmod_eq_emod_of_nonneg (by omega)]
  exact ⟨((r.tmod 13 + 13) % 13).toNat, by omega, by omega⟩
theorem sum_bound : ∀ (M : List Pt), (∀ p ∈ M, p.ok) → -2147483648 * (M.length : Int) ≤ sumV M ∧ sumV M ≤ 2147483648 * (M.length : Int)
  | [], _ => by simp [sumV]
  | p :: M, h => by
    have hp := (h p (by simp)).2.2
    have ih := sum_bound M fun q hq => h q (by simp [hq])
    simp only [sumV, List.map_cons, List.sum_cons, List.length_cons] at ih ⊢
    omega
theorem cell_any (L : List Pt) (w : Nat) : ∃ (a lo hi : Int) (ok : Bool), (ok = true ↔ mem L w ≠ []) ∧ Triple Go.Proofs.Try.prog 13 [.ptr 1000000 0 0, int .u64 w] [.abs (sT L)] (.tup [.r (.agg [.v (.int .u64 a), .v (.int .i64 (mem L w).length), .v (.int .i64 (sumV (mem L w))), .v (.int .i64 lo), .v (.int .i64 hi)]), bl ok]) [.abs (sT L)] := by
  by_cases h : mem L w = []
  · have := cell_no L w h
    refine ⟨0, 0, 0, false, by simp [h], ?_⟩
    rw [h]
    exact this
  · exact ⟨_, _, _, true, by simp [h], cell_yes L w h⟩
theorem m16 (a : Int) : IntKind.i64.wrap ((BitVec.ofInt IntKind.i64.bits a &&& BitVec.ofInt IntKind.i64.bits 65535).toNat) = a % 65536 := and_mask a 65535 16 (by decide) (by decide)
set_option maxHeartbeats 4000000 in
set_option maxRecDepth 100000 in
theorem moves_t (xs : List Int) (hx : ∀ x ∈ xs, -9223372036854775808 ≤ x ∧ x ≤ 9223372036854775807) (at' x y v r : Int) :
    Triple Go.Proofs.Try.prog 4 [.r (i64s xs), int .i64 at', int .i64 x, int .i64 y, int .i64 v, int .i64 r] [] (bl true) [] := by
  refine apiarylaw18_StatsMoves_triple rfl (by decide) ?_
  obtain ⟨R, hR, eR⟩ := r13 r
  have hgp : GP (genL xs []) := genL_gp xs [] (by simp [GP])
  have hle := genL_le xs [] (by decide)
  have hPt := points_t xs hx
  simp only [apiarylaw18_StatsMoves_pc, i64s, eR, List.length_nil, push_cast, ↓reduceIte, reduceCtorEq, Nat.reduceBEq, Nat.reduceEqDiff, Nat.reduceAdd, Nat.reduceSub, Nat.reduceLT, Nat.reduceLeDiff, Nat.reduceMul]
  refine call_as (as' := [.r (i64s xs)]) rfl ?_
  refine call_mk hPt rfl trivial ?_
  generalize hG : genL xs [] = l at *
  simp only [i64s, List.length_map, eR, push_cast, ↓reduceIte, reduceCtorEq, Nat.reduceBEq, Nat.reduceEqDiff, Nat.reduceAdd, Nat.reduceSub, Nat.reduceLT, Nat.reduceLeDiff, Nat.reduceMul]
  by_cases h0 : l = []
  · have e0 : ((l.length : Int) == 0) = true := by simp [h0]
    simp only [e0, i64s, List.length_map, eR, push_cast, ↓reduceIte, reduceCtorEq, Nat.reduceBEq, Nat.reduceEqDiff, Nat.reduceAdd, Nat.reduceSub, Nat.reduceLT, Nat.reduceLeDiff, Nat.reduceMul]
    refine call_mk awake_t rfl trivial ?_
    simp only [push_cast, ↓reduceIte, reduceCtorEq, Nat.reduceBEq, Nat.reduceEqDiff, Nat.reduceAdd, Nat.reduceSub, Nat.reduceLT, Nat.reduceLeDiff, Nat.reduceMul]
  have e0 : ((l.length : Int) == 0) = false := by simp [h0]
  simp only [e0, i64s, List.length_map, eR, push_cast, ↓reduceIte, reduceCtorEq, Nat.reduceBEq, Nat.reduceEqDiff, Nat.reduceAdd, Nat.reduceSub, Nat.reduceLT, Nat.reduceLeDiff, Nat.reduceMul]
  by_cases h80 : xs.length > 80
  · have e1 : decide ((xs.length : Int) > 80) = true := by simp; omega
    simp only [e1, i64s, List.length_map, eR, push_cast, ↓reduceIte, reduceCtorEq, Nat.reduceBEq, Nat.reduceEqDiff, Nat.reduceAdd, Nat.reduceSub, Nat.reduceLT, Nat.reduceLeDiff, Nat.reduceMul]
    refine call_mk awake_t rfl trivial ?_
    simp only [push_cast, ↓reduceIte, reduceCtorEq, Nat.reduceBEq, Nat.reduceEqDiff, Nat.reduceAdd, Nat.reduceSub, Nat.reduceLT, Nat.reduceLeDiff, Nat.reduceMul]
  have e1 : decide ((xs.length : Int) > 80) = false := by simp; omega
  simp only [e1, i64s, List.length_map, eR, push_cast, ↓reduceIte, reduceCtorEq, Nat.reduceBEq, Nat.reduceEqDiff, Nat.reduceAdd, Nat.reduceSub, Nat.reduceLT, Nat.reduceLeDiff, Nat.reduceMul]
  obtain ⟨J, hJ, eJ⟩ : ∃ J : Nat, J < l.length ∧ (at' % 256).tmod (l.length : Int) = J := by
    have h1 := List.length_pos_iff.2 h0
    have h2 := Int.emod_nonneg at' (show (256 : Int) ≠ 0 by decide)
    rw [Int.tmod_eq_emod_of_nonneg h2]
    have h3 := Int.emod_nonneg (at' % 256) (show (l.length : Int) ≠ 0 by omega)
    have h4 := Int.emod_lt_of_pos (at' % 256) (show (0 : Int) < l.length by omega)
    exact ⟨((at' % 256) % (l.length : Int)).toNat, by omega, by omega⟩
  obtain ⟨q, hq⟩ : ∃ q, l[J]? = some q := ⟨l[J], by simp [hJ]⟩
  have gq : ∀ z, (l.map Pt.rv).getD ((J : Int)).toNat z = .agg [.v (.int .i64 q.k), .v (.int .i64 q.x), .v (.int .i64 q.y), .v (.int .i64 q.v)] := pts_get hq
  have gq' : ∀ z, (l.map Pt.rv).getD (0 + ((J : Int)).toNat) z = .agg [.v (.int .i64 q.k), .v (.int .i64 q.x), .v (.int .i64 q.y), .v (.int .i64 q.v)] := fun z => by rw [Nat.zero_add]; exact gq z
  have hO := of_t l (by omega)
  rw [gp_of hgp (by omega)] at hO
  refine callA_lend ?_
  simp only [push_cast, ↓reduceIte, reduceCtorEq, Nat.reduceBEq, Nat.reduceEqDiff, Nat.reduceAdd, Nat.reduceSub, Nat.reduceLT, Nat.reduceLeDiff, Nat.reduceMul]
  refine call_lend hO rfl trivial (by simp [Flat]) (by simp [FlatO]) ?_
  simp only [eR, m8, m16, m30, eJ, gq, gq', push_cast, ↓reduceIte, reduceCtorEq, Nat.reduceBEq, Nat.reduceEqDiff, Nat.reduceAdd, Nat.reduceSub, Nat.reduceLT, Nat.reduceLeDiff, Nat.reduceMul]
  repeat refine And.intro (by first | decide | omega | (simp +contextual; done) | kernel_rfl) ?_
  have hqo : q.ok := (hgp J q hq).2
  have hqm : q ∈ l := List.mem_of_getElem? hq
  have hnd := gp_nd hgp
  obtain ⟨tx, htx⟩ : ∃ tx, x % 1073741824 = tx := ⟨_, rfl⟩
  obtain ⟨ty, hty⟩ : ∃ ty, y % 1073741824 = ty := ⟨_, rfl⟩
  obtain ⟨tv, htv⟩ : ∃ tv, v % 65536 = tv := ⟨_, rfl⟩
  rw [htx, hty, htv]
  have hto : (⟨q.k, tx, ty, tv⟩ : Pt).ok := ⟨hqo.1, ⟨by simp only; omega, by simp only; omega⟩, by simp only; omega⟩
  refine dcall_mk (rwordOf_t q.x q.y R hqo.2.1 (by omega)) rfl trivial ?_
  simp only [Int.toNat_natCast, uw, push_cast, ↓reduceIte, reduceCtorEq, Nat.reduceBEq, Nat.reduceEqDiff, Nat.reduceAdd, Nat.reduceSub, Nat.reduceLT, Nat.reduceLeDiff, Nat.reduceMul]
  refine dcall_mk (rwordOf_t tx ty R hto.2.1 (by omega)) rfl trivial ?_
  have wa := Pt.w_res hqo hR
  have wb := Pt.w_res hto hR
  have qa : q.w R = wordOf q.x q.y R := rfl
  have qb : (⟨q.k, tx, ty, tv⟩ : Pt).w R = wordOf tx ty R := rfl
  rw [qa] at wa
  rw [qb] at wb
  simp only [Int.toNat_natCast, uw, push_cast, ↓reduceIte, reduceCtorEq, Nat.reduceBEq, Nat.reduceEqDiff, Nat.reduceAdd, Nat.reduceSub, Nat.reduceLT, Nat.reduceLeDiff, Nat.reduceMul]
  refine ⟨by kernel_rfl, ?_⟩
  generalize wordOf q.x q.y R = a at *
  generalize wordOf tx ty R = b at *
  obtain ⟨c1, lo1, hi1, ok1, k1, C1⟩ := cell_any l a
  refine call_mk C1 rfl ⟨rfl, trivial⟩ ?_
  simp only [push_cast, ↓reduceIte, reduceCtorEq, Nat.reduceBEq, Nat.reduceEqDiff, Nat.reduceAdd, Nat.reduceSub, Nat.reduceLT, Nat.reduceLeDiff, Nat.reduceMul]
  obtain ⟨c2, lo2, hi2, ok2, k2, C2⟩ := cell_any l b
  refine call_mk C2 rfl ⟨rfl, trivial⟩ ?_
  simp only [push_cast, ↓reduceIte, reduceCtorEq, Nat.reduceBEq, Nat.reduceEqDiff, Nat.reduceAdd, Nat.reduceSub, Nat.reduceLT, Nat.reduceLeDiff, Nat.reduceMul]
  refine call_as (as' := [.ptr 1000000 0 0, Pt.av ⟨q.k, tx, ty, tv⟩]) rfl ?_
  have hcan : canPut l ⟨q.k, tx, ty, tv⟩ = true := by
    have : has l q.k = true := has_iff.2 ⟨q, hqm, rfl⟩
    simp [canPut, hto, this]
  have hPY := put_yes l _ hcan
  have hl1 : (plusP l ⟨q.k, tx, ty, tv⟩).length = l.length := by
    have := len_without hnd hqm
    unfold plusP
    rw [List.length_append, List.length_singleton]
    exact this
  have hLn := len_a (plusP l ⟨q.k, tx, ty, tv⟩)
  rw [hl1] at hLn
  have iaq : inC a q = true := inC_iff.2 ⟨R, hR, qa⟩
  have ibt : inC b ⟨q.k, tx, ty, tv⟩ = true := inC_iff.2 ⟨R, hR, qb⟩
  have iat : inC a ⟨q.k, tx, ty, tv⟩ = decide (b = a) := by rw [inC_word hto hR wa.2.1, qb]
  have ibq : inC b q = decide (a = b) := by rw [inC_word hqo hR wb.2.1, qa]
  obtain ⟨pa1, pa2⟩ := mem_plus hnd hqm (t := ⟨q.k, tx, ty, tv⟩) rfl a
  obtain ⟨pb1, pb2⟩ := mem_plus hnd hqm (t := ⟨q.k, tx, ty, tv⟩) rfl b
  rw [iaq, iat] at pa1 pa2
  rw [ibt, ibq] at pb1 pb2
  have hokl : ∀ p ∈ l, p.ok := fun p hp => by
    obtain ⟨j, hj⟩ := List.getElem?_of_mem hp
    exact (hgp j p hj).2
  have sb : ∀ w, -2147483648 * ((mem l w).length : Int) ≤ sumV (mem l w) ∧ sumV (mem l w) ≤ 2147483648 * ((mem l w).length : Int) := fun w => sum_bound _ fun p hp => hokl p (List.mem_filter.1 hp).1
  have nb : ∀ w, (mem l w).length ≤ 40 := fun w => Nat.le_trans (List.length_filter_le ..) hle
  have sba := sb a
  have sbb := sb b
  have nba := nb a
  have nbb := nb b
  have hnd1 : ((plusP l ⟨q.k, tx, ty, tv⟩).map (·.k)).Nodup := by
    unfold plusP
    rw [List.map_append, List.nodup_append]
    refine ⟨(List.filter_sublist.map _).nodup hnd, by simp, ?_⟩
    intro u hu z hz e
    simp at hz
    obtain ⟨p, hp, rfl⟩ := List.mem_map.1 hu
    exact (without_mem.1 hp).2 (e.trans hz)
  have htm : (⟨q.k, tx, ty, tv⟩ : Pt) ∈ plusP l ⟨q.k, tx, ty, tv⟩ := by simp [plusP]
  obtain ⟨pg1, _⟩ := mem_without hnd1 htm b
  have hl2 := len_without hnd1 htm
  rw [ibt] at pg1
  have hmb : mem (plusP l ⟨q.k, tx, ty, tv⟩) b ≠ [] := fun e => by
    have : (⟨q.k, tx, ty, tv⟩ : Pt) ∈ mem (plusP l ⟨q.k, tx, ty, tv⟩) b := List.mem_filter.2 ⟨htm, ibt⟩
    rw [e] at this
    cases this
  have hD1 := del_a (plusP l ⟨q.k, tx, ty, tv⟩) q.k
  rw [has_iff.2 ⟨_, htm, rfl⟩] at hD1
  have hno2 : has (without q.k (plusP l ⟨q.k, tx, ty, tv⟩)) q.k = false := has_not.2 fun p hp => (without_mem.1 hp).2
  have hD2 := del_a (without q.k (plusP l ⟨q.k, tx, ty, tv⟩)) q.k
  rw [hno2, without_no hno2] at hD2
  have hLn2 := len_a (without q.k (plusP l ⟨q.k, tx, ty, tv⟩))
  refine call_mk hPY rfl ⟨rfl, trivial⟩ ?_
  generalize hL1 : plusP l ⟨q.k, tx, ty, tv⟩ = L1 at *
  generalize hL2 : without q.k L1 = L2 at *
  have e5 : ((l.length : Int) != l.length) = false := by simp
  simp only [push_cast, ↓reduceIte, reduceCtorEq, Nat.reduceBEq, Nat.reduceEqDiff, Nat.reduceAdd, Nat.reduceSub, Nat.reduceLT, Nat.reduceLeDiff, Nat.reduceMul]
  refine call_mk hLn rfl ⟨rfl, trivial⟩ ?_
  simp only [e5, push_cast, ↓reduceIte, reduceCtorEq, Nat.reduceBEq, Nat.reduceEqDiff, Nat.reduceAdd, Nat.reduceSub, Nat.reduceLT, Nat.reduceLeDiff, Nat.reduceMul]
  obtain ⟨c3, lo3, hi3, ok3, k3, C3⟩ := cell_any L1 a
  refine call_mk C3 rfl ⟨rfl, trivial⟩ ?_
  simp only [push_cast, ↓reduceIte, reduceCtorEq, Nat.reduceBEq, Nat.reduceEqDiff, Nat.reduceAdd, Nat.reduceSub, Nat.reduceLT, Nat.reduceLeDiff, Nat.reduceMul]
  obtain ⟨c4, lo4, hi4, ok4, k4, C4⟩ := cell_any L1 b
  obtain rfl : ok4 = true := k4.2 hmb
  refine call_mk C4 rfl ⟨rfl, trivial⟩ ?_
  have htvb : 0 ≤ tv ∧ tv < 65536 := by omega
  have hqv := hqo.2.2
  simp only [if_true] at pa1 pa2 pb1 pb2 pg1
  by_cases hab : a = b
  · subst hab
    simp only [decide_true, if_true] at pa1 pa2 pb1 pb2
    have f1 : ((a : Int) == a) = true := by simp
    have f1' : ((a : Int) != a) = false := by simp
    have f2 : (((mem L1 a).length : Int) != (mem l a).length) = false := by simp; omega
    have w1 : IntKind.i64.wrap (sumV (mem l a) - q.v) = sumV (mem l a) - q.v := wrap_id (by omega)
    have w2 : IntKind.i64.wrap (sumV (mem l a) - q.v + tv) = sumV (mem l a) - q.v + tv := wrap_id (by omega)
    have f3 : (sumV (mem L1 a) != sumV (mem l a) - q.v + tv) = false := by simp; omega
    simp only [f1, f1', f2, f3, w1, w2, push_cast, ↓reduceIte, reduceCtorEq, Nat.reduceBEq, Nat.reduceEqDiff, Nat.reduceAdd, Nat.reduceSub, Nat.reduceLT, Nat.reduceLeDiff, Nat.reduceMul]
    refine call_mk hD1 rfl ⟨rfl, trivial⟩ ?_
    simp only [push_cast, ↓reduceIte, reduceCtorEq, Nat.reduceBEq, Nat.reduceEqDiff, Nat.reduceAdd, Nat.reduceSub, Nat.reduceLT, Nat.reduceLeDiff, Nat.reduceMul]
    refine call_mk hD2 rfl ⟨rfl, trivial⟩ ?_
    simp only [push_cast, ↓reduceIte, reduceCtorEq, Nat.reduceBEq, Nat.reduceEqDiff, Nat.reduceAdd, Nat.reduceSub, Nat.reduceLT, Nat.reduceLeDiff, Nat.reduceMul]
    refine call_mk hLn2 rfl ⟨rfl, trivial⟩ ?_
    have w6 : IntKind.i64.wrap ((l.length : Int) - 1) = (l.length : Int) - 1 := wrap_id (by omega)
    have f6 : ((L2.length : Int) != (l.length : Int) - 1) = false := by simp; omega
    simp only [w6, f6, push_cast, ↓reduceIte, reduceCtorEq, Nat.reduceBEq, Nat.reduceEqDiff, Nat.reduceAdd, Nat.reduceSub, Nat.reduceLT, Nat.reduceLeDiff, Nat.reduceMul]
    obtain ⟨c5, lo5, hi5, ok5, k5, C5⟩ := cell_any L2 a
    refine call_mk C5 rfl ⟨rfl, trivial⟩ ?_
    have w7 : IntKind.i64.wrap (((mem L1 a).length : Int) - 1) = ((mem L1 a).length : Int) - 1 := wrap_id (by omega)
    have f7 : (((mem L2 a).length : Int) == ((mem L1 a).length : Int) - 1) = true := by simp; omega
    simp only [w7, f7, push_cast, ↓reduceIte, reduceCtorEq, Nat.reduceBEq, Nat.reduceEqDiff, Nat.reduceAdd, Nat.reduceSub, Nat.reduceLT, Nat.reduceLeDiff, Nat.reduceMul]
    refine call_mk awake_t rfl trivial ?_
    simp only [push_cast, ↓reduceIte, reduceCtorEq, Nat.reduceBEq, Nat.reduceEqDiff, Nat.reduceAdd, Nat.reduceSub, Nat.reduceLT, Nat.reduceLeDiff, Nat.reduceMul]
  · have hba : ¬ b = a := fun e => hab e.symm
    simp only [hab, hba, decide_false, Bool.false_eq_true, if_false] at pa1 pa2 pb1 pb2
    have f1 : ((a : Int) == b) = false := by simp; omega
    have f1' : ((a : Int) != b) = true := by simp; omega
    have w1 : IntKind.i64.wrap (((mem l a).length : Int) - 1) = ((mem l a).length : Int) - 1 := wrap_id (by omega)
    have f2 : (((mem L1 a).length : Int) != ((mem l a).length : Int) - 1) = false := by simp; omega
    have w2 : IntKind.i64.wrap (((mem l b).length : Int) + 1) = ((mem l b).length : Int) + 1 := wrap_id (by omega)
    have f3 : (((mem L1 b).length : Int) != ((mem l b).length : Int) + 1) = false := by simp; omega
    have w3 : IntKind.i64.wrap (sumV (mem l b) + tv) = sumV (mem l b) + tv := wrap_id (by omega)
    have f4 : (sumV (mem L1 b) != sumV (mem l b) + tv) = false := by simp; omega
    simp only [f1, f1', f2, f3, f4, w1, w2, w3, push_cast, ↓reduceIte, reduceCtorEq, Nat.reduceBEq, Nat.reduceEqDiff, Nat.reduceAdd, Nat.reduceSub, Nat.reduceLT, Nat.reduceLeDiff, Nat.reduceMul]
    refine call_mk hD1 rfl ⟨rfl, trivial⟩ ?_
    simp only [push_cast, ↓reduceIte, reduceCtorEq, Nat.reduceBEq, Nat.reduceEqDiff, Nat.reduceAdd, Nat.reduceSub, Nat.reduceLT, Nat.reduceLeDiff, Nat.reduceMul]
    refine call_mk hD2 rfl ⟨rfl, trivial⟩ ?_
    simp only [push_cast, ↓reduceIte, reduceCtorEq, Nat.reduceBEq, Nat.reduceEqDiff, Nat.reduceAdd, Nat.reduceSub, Nat.reduceLT, Nat.reduceLeDiff, Nat.reduceMul]
    refine call_mk hLn2 rfl ⟨rfl, trivial⟩ ?_
    have w6 : IntKind.i64.wrap ((l.length : Int) - 1) = (l.length : Int) - 1 := wrap_id (by omega)
    have f6 : ((L2.length : Int) != (l.length : Int) - 1) = false := by simp; omega
    simp only [w6, f6, push_cast, ↓reduceIte, reduceCtorEq, Nat.reduceBEq, Nat.reduceEqDiff, Nat.reduceAdd, Nat.reduceSub, Nat.reduceLT, Nat.reduceLeDiff, Nat.reduceMul]
    obtain ⟨c5, lo5, hi5, ok5, k5, C5⟩ := cell_any L2 b
    refine call_mk C5 rfl ⟨rfl, trivial⟩ ?_
    have w7 : IntKind.i64.wrap (((mem L1 b).length : Int) - 1) = ((mem L1 b).length : Int) - 1 := wrap_id (by omega)
    have f7 : (((mem L2 b).length : Int) == ((mem L1 b).length : Int) - 1) = true := by simp; omega
    simp only [w7, f7, push_cast, ↓reduceIte, reduceCtorEq, Nat.reduceBEq, Nat.reduceEqDiff, Nat.reduceAdd, Nat.reduceSub, Nat.reduceLT, Nat.reduceLeDiff, Nat.reduceMul]
    refine call_mk awake_t rfl trivial ?_
    simp only [push_cast, ↓reduceIte, reduceCtorEq, Nat.reduceBEq, Nat.reduceEqDiff, Nat.reduceAdd, Nat.reduceSub, Nat.reduceLT, Nat.reduceLeDiff, Nat.reduceMul]
end Go.Ev

