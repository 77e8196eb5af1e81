import Derived.Test.YtpjimnjfjopedaaTrH
namespace Go.Ev
open Go
set_option linter.unnecessarySimpa false
set_option linter.unusedSimpArgs false
set_option linter.unusedVariables false
noncomputable def apiarylaw17_TreeParts_pc : PC :=
  (.seq (.reg [⟨(some 3), none, 0, .act (.box (.t 1))⟩,
    ⟨(some 4), none, 0, .see (.mov (.c (.r (.v (.bool false)))))⟩])
  (.seq (.reg [⟨(some 13), none, 1, .call 11 []⟩,
    ⟨(some 5), none, 0, .see (.mov (.t 13))⟩])
  (.seq (.seq (.reg [⟨(some 14), none, 0, .see (.mov (.t 5))⟩,
    ⟨(some 15), none, 0, .see (.eqn false (.t 14))⟩,
    ⟨(some 16), none, 0, .see (.mov (.t 15))⟩,
    ⟨(some 17), (some (16, false)), 0, .see (.mov (.t 0))⟩,
    ⟨(some 18), (some (16, false)), 0, .see (.len false (.t 17))⟩,
    ⟨(some 19), (some (16, false)), 0, .see (.bin .gtr (.t 18) (.c (.r (.v (.int .i64 100)))))⟩,
    ⟨(some 20), none, 0, .see (.pick (.t 16) (.c (.r (.v (.bool true)))) (.t 19))⟩])
  (.cond (.t 20)
    (.seq (.reg [⟨(some 21), none, 0, .see (.mov (.t 5))⟩,
    ⟨(some 22), none, 0, .see (.eqn true (.t 21))⟩,
    ⟨(some 23), none, 0, .see (.mov (.t 22))⟩,
    ⟨(some 24), (some (23, true)), 2, .call 10 []⟩,
    ⟨(some 25), none, 0, .see (.pick (.t 23) (.t 24) (.c (.r (.v (.bool false)))))⟩,
    ⟨(some 4), none, 0, .see (.mov (.t 25))⟩])
    .ret)
    .skip))
  (.seq (.seq (.reg [⟨(some 6), none, 0, .see (.mov (.c (.r (.v (.int .i64 0)))))⟩])
  (.block 0 (.loop (.seq (.seq (.reg [⟨(some 26), none, 0, .see (.mov (.t 6))⟩,
    ⟨(some 27), none, 0, .see (.mov (.t 0))⟩,
    ⟨(some 28), none, 0, .see (.len false (.t 27))⟩,
    ⟨(some 29), none, 0, .see (.bin .lss (.t 26) (.t 28))⟩])
  (.cond (.t 29)
    .skip
    (.exit 0)))
  (.seq (.block 1 (.reg [⟨(some 32), none, 0, .see (.mov (.t 5))⟩,
    ⟨(some 33), none, 0, .see (.mov (.t 0))⟩,
    ⟨(some 34), none, 0, .see (.mov (.t 6))⟩,
    ⟨(some 35), none, 0, .see (.ia 3 (.agg [(.v (.int .u64 0)), (.v (.int .i64 0)), (.v (.int .i64 0))]) (.t 33) (.t 34))⟩,
    ⟨(some 36), none, 0, .see (.ld (some 3) (.t 35))⟩,
    ⟨(some 37), none, 3, .call 12 [(.t 32), (.t 36)]⟩]))
  (.reg [⟨(some 30), none, 0, .see (.mov (.t 6))⟩,
    ⟨(some 31), none, 0, .see (.bin .add (.t 30) (.c (.r (.v (.int .i64 1)))))⟩,
    ⟨(some 6), none, 0, .see (.mov (.t 31))⟩]))))))
  (.seq (.reg [⟨(some 38), none, 0, .see (.build [(.r (.v (.int .u64 0))), (.r (.v (.int .i64 0))), (.r (.v (.int .i64 0)))] [(1, 1, (.c (.r (.v (.int .i64 (-9223372036854775808)))))), (2, 1, (.c (.r (.v (.int .i64 (-9223372036854775808))))))])⟩,
    ⟨(some 39), none, 0, .see (.build [(.r (.v (.int .u64 0))), (.r (.v (.int .i64 0))), (.r (.v (.int .i64 0)))] [(0, 1, (.c (.r (.v (.int .u64 18446744073709551615))))), (1, 1, (.c (.r (.v (.int .i64 9223372036854775807))))), (2, 1, (.c (.r (.v (.int .i64 9223372036854775807)))))])⟩,
    ⟨(some 7), none, 0, .act (.new [(.r (.v (.int .u64 0))), (.r (.v (.int .i64 0))), (.r (.v (.int .i64 0)))])⟩,
    ⟨(some 8), none, 0, .act (.new [(.r (.v (.int .u64 0))), (.r (.v (.int .i64 0))), (.r (.v (.int .i64 0)))])⟩,
    ⟨none, none, 0, .act (.st 3 (.t 7) (.t 38))⟩,
    ⟨none, none, 0, .act (.st 3 (.t 8) (.t 39))⟩])
  (.seq (.drw [⟨(some 40), none, 0, .see (.mov (.t 5))⟩,
    ⟨(some 41), none, 0, .see (.ld (some 3) (.t 7))⟩,
    ⟨(some 42), none, 0, .see (.ld (some 3) (.t 3))⟩,
    ⟨(some 43), none, 4, .call 16 [(.t 40), (.t 41), (.t 42)]⟩,
    ⟨(some 44), none, 0, .see (.mov (.t 5))⟩,
    ⟨(some 45), none, 0, .see (.ld (some 3) (.t 3))⟩,
    ⟨(some 46), none, 0, .see (.ld (some 3) (.t 8))⟩,
    ⟨(some 47), none, 5, .call 16 [(.t 44), (.t 45), (.t 46)]⟩,
    ⟨(some 9), none, 0, .see (.mov (.t 43))⟩,
    ⟨(some 10), none, 0, .see (.mov (.t 47))⟩]
    [[], [], [], [0, 1, 2], [], [], [], [0, 1, 2, 3, 4, 5, 6], [0, 1, 2, 3, 4, 5, 6, 7], [0, 1, 2, 3, 4, 5, 6, 7, 8]])
  (.seq (.reg [⟨(some 11), none, 0, .see (.mov (.c (.r (.v (.int .i64 0)))))⟩])
  (.seq (.seq (.reg [⟨(some 48), none, 0, .see (.mov (.t 5))⟩,
    ⟨(some 49), none, 0, .see (.ld (some 3) (.t 3))⟩,
    ⟨(some 50), none, 6, .call 14 [(.t 48), (.t 49)]⟩])
  (.cond (.t 50)
    (.reg [⟨(some 11), none, 0, .see (.mov (.c (.r (.v (.int .i64 1)))))⟩])
    .skip))
  (.seq (.seq (.reg [⟨(some 51), none, 0, .see (.mov (.t 9))⟩,
    ⟨(some 52), none, 0, .see (.len false (.t 51))⟩,
    ⟨(some 53), none, 0, .see (.mov (.t 10))⟩,
    ⟨(some 54), none, 0, .see (.len false (.t 53))⟩,
    ⟨(some 55), none, 0, .see (.bin .add (.t 52) (.t 54))⟩,
    ⟨(some 56), none, 0, .see (.mov (.t 11))⟩,
    ⟨(some 57), none, 0, .see (.bin .sub (.t 55) (.t 56))⟩,
    ⟨(some 58), none, 0, .see (.mov (.t 5))⟩,
    ⟨(some 59), none, 7, .call 13 [(.t 58)]⟩,
    ⟨(some 60), none, 0, .see (.bin .neq (.t 57) (.t 59))⟩,
    ⟨(some 61), none, 0, .see (.mov (.t 60))⟩,
    ⟨(some 62), (some (61, false)), 0, .see (.mov (.t 5))⟩,
    ⟨(some 63), (some (61, false)), 0, .see (.ld (some 3) (.t 7))⟩,
    ⟨(some 64), (some (61, false)), 0, .see (.ld (some 3) (.t 8))⟩,
    ⟨(some 65), (some (61, false)), 8, .call 16 [(.t 62), (.t 63), (.t 64)]⟩,
    ⟨(some 66), (some (61, false)), 0, .see (.len false (.t 65))⟩,
    ⟨(some 67), (some (61, false)), 0, .see (.mov (.t 5))⟩,
    ⟨(some 68), (some (61, false)), 9, .call 13 [(.t 67)]⟩,
    ⟨(some 69), (some (61, false)), 0, .see (.bin .neq (.t 66) (.t 68))⟩,
    ⟨(some 70), none, 0, .see (.pick (.t 61) (.c (.r (.v (.bool true)))) (.t 69))⟩,
    ⟨(some 71), none, 0, .see (.mov (.t 70))⟩,
    ⟨(some 72), (some (71, false)), 0, .see (.mov (.t 5))⟩,
    ⟨(some 73), (some (71, false)), 0, .see (.ld (some 3) (.t 3))⟩,
    ⟨(some 74), (some (71, false)), 10, .call 17 [(.t 72), (.t 73)]⟩,
    ⟨(some 75), (some (71, false)), 0, .see (.mov (.t 9))⟩,
    ⟨(some 76), (some (71, false)), 0, .see (.len false (.t 75))⟩,
    ⟨(some 77), (some (71, false)), 0, .see (.mov (.t 11))⟩,
    ⟨(some 78), (some (71, false)), 0, .see (.bin .sub (.t 76) (.t 77))⟩,
    ⟨(some 79), (some (71, false)), 0, .see (.bin .neq (.t 74) (.t 78))⟩,
    ⟨(some 80), none, 0, .see (.pick (.t 71) (.c (.r (.v (.bool true)))) (.t 79))⟩,
    ⟨(some 81), none, 0, .see (.mov (.t 80))⟩,
    ⟨(some 82), (some (81, false)), 0, .see (.ld (some 3) (.t 7))⟩,
    ⟨(some 83), (some (81, false)), 0, .see (.ld (some 3) (.t 8))⟩,
    ⟨(some 84), (some (81, false)), 11, .call 9 [(.t 82), (.t 83)]⟩,
    ⟨(some 85), (some (81, false)), 0, .see (.un .not (.t 84))⟩,
    ⟨(some 86), none, 0, .see (.pick (.t 81) (.c (.r (.v (.bool true)))) (.t 85))⟩])
  (.cond (.t 86)
    (.seq (.reg [⟨(some 4), none, 0, .see (.mov (.c (.r (.v (.bool false)))))⟩])
    .ret)
    .skip))
  (.seq (.seq (.reg [⟨(some 12), none, 0, .see (.mov (.c (.r (.v (.int .i64 0)))))⟩])
  (.block 2 (.loop (.seq (.seq (.reg [⟨(some 87), none, 0, .see (.mov (.t 12))⟩,
    ⟨(some 88), none, 0, .see (.mov (.t 9))⟩,
    ⟨(some 89), none, 0, .see (.len false (.t 88))⟩,
    ⟨(some 90), none, 0, .see (.bin .lss (.t 87) (.t 89))⟩])
  (.cond (.t 90)
    .skip
    (.exit 2)))
  (.seq (.block 3 (.seq (.reg [⟨(some 93), none, 0, .see (.mov (.t 5))⟩,
    ⟨(some 94), none, 0, .see (.mov (.t 9))⟩,
    ⟨(some 95), none, 0, .see (.mov (.t 12))⟩,
    ⟨(some 96), none, 0, .see (.ia 3 (.agg [(.v (.int .u64 0)), (.v (.int .i64 0)), (.v (.int .i64 0))]) (.t 94) (.t 95))⟩,
    ⟨(some 97), none, 0, .see (.ld (some 3) (.t 96))⟩,
    ⟨(some 98), none, 12, .call 17 [(.t 93), (.t 97)]⟩,
    ⟨(some 99), none, 0, .see (.mov (.t 12))⟩,
    ⟨(some 100), none, 0, .see (.bin .neq (.t 98) (.t 99))⟩])
  (.cond (.t 100)
    (.seq (.reg [⟨(some 4), none, 0, .see (.mov (.c (.r (.v (.bool false)))))⟩])
    .ret)
    .skip)))
  (.reg [⟨(some 91), none, 0, .see (.mov (.t 12))⟩,
    ⟨(some 92), none, 0, .see (.bin .add (.t 91) (.c (.r (.v (.int .i64 1)))))⟩,
    ⟨(some 12), none, 0, .see (.mov (.t 92))⟩]))))))
  (.seq (.reg [⟨(some 101), none, 0, .see (.mov (.t 5))⟩,
    ⟨(some 102), none, 0, .see (.ld (some 3) (.t 8))⟩,
    ⟨(some 103), none, 0, .see (.ld (some 3) (.t 7))⟩,
    ⟨(some 104), none, 13, .call 16 [(.t 101), (.t 102), (.t 103)]⟩,
    ⟨(some 105), none, 0, .see (.len false (.t 104))⟩,
    ⟨(some 106), none, 0, .see (.bin .eql (.t 105) (.c (.r (.v (.int .i64 0)))))⟩,
    ⟨(some 107), none, 0, .see (.mov (.t 106))⟩,
    ⟨(some 108), (some (107, true)), 14, .call 10 []⟩,
    ⟨(some 109), none, 0, .see (.pick (.t 107) (.t 108) (.c (.r (.v (.bool false)))))⟩,
    ⟨(some 4), none, 0, .see (.mov (.t 109))⟩])
  .ret)))))))))))
noncomputable abbrev apiarylaw17_TreeParts_code : Code := (Go.Proofs.Try.f5.body).getD .skip
theorem apiarylaw17_TreeParts_chk : chkC Go.Proofs.Try.prog 110 apiarylaw17_TreeParts_code apiarylaw17_TreeParts_pc = true := by kernel_rfl
theorem apiarylaw17_TreeParts_triple {args : List AV} {po ro : List Ob} {res : AV} (hal : args.length = 2) (hpo : po.length ≤ 1000)
    (h : run Go.Proofs.Try.prog po.length (RetP po.length [(4, false, none)] fun v os => v = res ∧ os = ro) [.c apiarylaw17_TreeParts_pc] ⟨argE 0 args, ob0 po⟩) : Triple Go.Proofs.Try.prog 5 args po res ro :=
  triple_of_W (fn := Go.Proofs.Try.f5) (c := apiarylaw17_TreeParts_code) (pc := apiarylaw17_TreeParts_pc) (rs := [(4, false, none)]) Go.Proofs.Try.func5 rfl (by decide) (by have := apiarylaw17_TreeParts_chk; exact this) (by rw [hal]; decide) rfl (by kernel_rfl) (by kernel_rfl) (by decide) hpo (W_of_run h)

set_option maxRecDepth 100000 in
set_option maxHeartbeats 1000000 in
theorem treeParts_t (l : List Ky) (k : Ky) (hw : ∀ x ∈ l, x.Wf) : Triple Go.Proofs.Try.prog 5 [.r (keys l), k.av] [] (bl true) [] := by
  refine apiarylaw17_TreeParts_triple rfl (by decide) ?_
  simp only [apiarylaw17_TreeParts_pc, keys, Ky.av, Ky.rv, List.length_nil, List.length_map, push_cast, ↓reduceIte, reduceCtorEq, Nat.reduceBEq, Nat.reduceEqDiff, Nat.reduceAdd, Nat.reduceSub, Nat.reduceLT, Nat.reduceLeDiff, Nat.reduceMul]
  refine call_mk new_t rfl trivial ?_
  simp only [List.length_map, push_cast, ↓reduceIte, reduceCtorEq, Nat.reduceBEq, Nat.reduceEqDiff, Nat.reduceAdd, Nat.reduceSub, Nat.reduceLT, Nat.reduceLeDiff, Nat.reduceMul]
  refine cnd_mk (fun h1 => ?_) (fun h1 => ?_)
  · simp only [List.length_map, push_cast, ↓reduceIte, reduceCtorEq, Nat.reduceBEq, Nat.reduceEqDiff, Nat.reduceAdd, Nat.reduceSub, Nat.reduceLT, Nat.reduceLeDiff, Nat.reduceMul]
    refine call_mk awake_t rfl trivial ?_
    simp only [push_cast, ↓reduceIte, reduceCtorEq, Nat.reduceBEq, Nat.reduceEqDiff, Nat.reduceAdd, Nat.reduceSub, Nat.reduceLT, Nat.reduceLeDiff, Nat.reduceMul]
  · have hl : l.length ≤ 100 := by simp at h1; omega
    simp only [List.length_map, push_cast, ↓reduceIte, reduceCtorEq, Nat.reduceBEq, Nat.reduceEqDiff, Nat.reduceAdd, Nat.reduceSub, Nat.reduceLT, Nat.reduceLeDiff, Nat.reduceMul]
    refine run_loop [(0, false), (3, false), (5, false), (6, false)] (fun vs pos los => ∃ (i : Nat) (N : List (List Ky)), i ≤ l.length ∧ Good N ∧ N.flatten.length ≤ i ∧ (∀ x ∈ N.flatten, x ∈ l) ∧
      vs = [.r (keys l), .ptr 2000000 0 0, .ptr 2000001 0 0, int .i64 i] ∧ pos = [] ∧ los = [.box k.cs, .abs (tr N)])
      (fun vs _ _ => match vs with | [_, _, _, .r (.v (.int _ a))] => (l.length - a).toNat | _ => 0) rfl ?_ ?_
    · simp only [keys, Ky.cs, push_cast, ↓reduceIte, reduceCtorEq, Nat.reduceBEq, Nat.reduceEqDiff, Nat.reduceAdd, Nat.reduceSub, Nat.reduceLT, Nat.reduceLeDiff, Nat.reduceMul]
      exact ⟨0, [], by omega, good0, by simp, by simp, by simp⟩
    · rintro vs pos los ⟨i, N, hi, hG, hN, hmem, rfl, rfl, rfl⟩
      simp only [keys, Ky.cs, List.length_map, push_cast, ↓reduceIte, reduceCtorEq, Nat.reduceBEq, Nat.reduceEqDiff, Nat.reduceAdd, Nat.reduceSub, Nat.reduceLT, Nat.reduceLeDiff, Nat.reduceMul]
      refine cnd_mk (fun h2 => ?_) (fun h2 => ?_)
      · have h2' : i < l.length := by simpa using h2
        obtain ⟨q, hk⟩ : ∃ q, l[i]? = some q := ⟨l[i], by simp [h2']⟩
        have hL := put_law hG (by omega) q
        have hi1 : IntKind.i64.wrap ((i : Int) + 1) = (i : Int) + 1 := wrap_id ⟨by omega, by omega⟩
        simp only [keys, Ky.cs, List.length_map, keys_get hk, push_cast, ↓reduceIte, reduceCtorEq, Nat.reduceBEq, Nat.reduceEqDiff, Nat.reduceAdd, Nat.reduceSub, Nat.reduceLT, Nat.reduceLeDiff, Nat.reduceMul]
        refine And.intro ⟨by omega, by omega⟩ (call_mk (put_t hG (by omega) q) rfl ⟨rfl, trivial⟩ ?_)
        simp only [keys, List.length_map, hi1, push_cast, ↓reduceIte, reduceCtorEq, Nat.reduceBEq, Nat.reduceEqDiff, Nat.reduceAdd, Nat.reduceSub, Nat.reduceLT, Nat.reduceLeDiff, Nat.reduceMul]
        refine ⟨⟨i + 1, (putN N q).1, by omega, hL.good, ?_, fun x hx => ?_, by simp⟩, by omega⟩
        · have := hL.len
          have : (putN N q).2.toNat ≤ 1 := by cases (putN N q).2 <;> simp
          omega
        · rcases (hL.mem x).1 hx with rfl | hx
          · exact List.mem_of_getElem? hk
          · exact hmem x hx
      · have hP := parts hG.so (fun x hx => hw x (hmem x hx)) k
        have hlen : N.flatten.length ≤ 100 := by omega
        have rA := rangeP hG (by omega) kLo k
        have rB := rangeP hG (by omega) k kHi
        have rC := rangeP hG (by omega) kLo kHi
        have rD := rangeP hG (by omega) kHi kLo
        rw [hP.all] at rC
        rw [hP.none] at rD
        simp only [keys, Ky.cs, List.length_map, push_cast, ↓reduceIte, reduceCtorEq, Nat.reduceBEq, Nat.reduceEqDiff, Nat.reduceAdd, Nat.reduceSub, Nat.reduceLT, Nat.reduceLeDiff, Nat.reduceMul]
        refine dcall_mk rA rfl ⟨rfl, trivial⟩ ?_
        simp only [push_cast, ↓reduceIte, reduceCtorEq, Nat.reduceBEq, Nat.reduceEqDiff, Nat.reduceAdd, Nat.reduceSub, Nat.reduceLT, Nat.reduceLeDiff, Nat.reduceMul]
        refine dcall_mk rB rfl ⟨rfl, trivial⟩ ?_
        simp only [push_cast, ↓reduceIte, reduceCtorEq, Nat.reduceBEq, Nat.reduceEqDiff, Nat.reduceAdd, Nat.reduceSub, Nat.reduceLT, Nat.reduceLeDiff, Nat.reduceMul]
        refine ⟨by kernel_rfl, ?_⟩
        have hH := hasP hG (by omega) k
        have rK := rankP hG (by omega) k
        have hs := hP.sum
        have hr := hP.rank
        have he := hP.each
        have hAl : (rng N.flatten kLo k).length ≤ 100 := Nat.le_trans (List.filter_sublist).length_le hlen
        have hBl : (rng N.flatten k kHi).length ≤ 100 := Nat.le_trans (List.filter_sublist).length_le hlen
        generalize rng N.flatten kLo k = A at *
        generalize rng N.flatten k kHi = B at *
        have hw1 : IntKind.i64.wrap ((A.length : Int) + (B.length : Int)) = (A.length : Int) + (B.length : Int) := wrap_id ⟨by omega, by omega⟩
        have hlh : kl kLo kHi = true := rfl
        rcases hkm : decide (k ∈ N.flatten) with _ | _
        · rw [hkm] at hH hs hr
          simp only [Bool.toNat_false, Nat.add_zero] at hs hr
          refine call_mk hH rfl ⟨rfl, trivial⟩ ?_
          simp only [keys, kz, Ky.cs, List.length_map, push_cast, ↓reduceIte, reduceCtorEq, Nat.reduceBEq, Nat.reduceEqDiff, Nat.reduceAdd, Nat.reduceSub, Nat.reduceLT, Nat.reduceLeDiff, Nat.reduceMul]
          refine call_mk (lenP N) rfl ⟨rfl, trivial⟩ ?_
          have hw2 : IntKind.i64.wrap ((A.length : Int) + (B.length : Int) - 0) = (N.flatten.length : Int) := by rw [wrap_id ⟨by omega, by omega⟩]; omega
          have hw3 : IntKind.i64.wrap ((A.length : Int) - 0) = (rk N.flatten k : Int) := by rw [wrap_id ⟨by omega, by omega⟩]; omega
          simp only [keys, kz, Ky.cs, List.length_map, hw1, hw2, bne_self_eq_false, push_cast, ↓reduceIte, reduceCtorEq, Nat.reduceBEq, Nat.reduceEqDiff, Nat.reduceAdd, Nat.reduceSub, Nat.reduceLT, Nat.reduceLeDiff, Nat.reduceMul]
          refine call_mk rC rfl ⟨rfl, trivial⟩ ?_
          simp only [keys, kz, Ky.cs, List.length_map, hw1, hw2, bne_self_eq_false, push_cast, ↓reduceIte, reduceCtorEq, Nat.reduceBEq, Nat.reduceEqDiff, Nat.reduceAdd, Nat.reduceSub, Nat.reduceLT, Nat.reduceLeDiff, Nat.reduceMul]
          refine call_mk (lenP N) rfl ⟨rfl, trivial⟩ ?_
          simp only [keys, kz, Ky.cs, List.length_map, hw1, hw2, bne_self_eq_false, push_cast, ↓reduceIte, reduceCtorEq, Nat.reduceBEq, Nat.reduceEqDiff, Nat.reduceAdd, Nat.reduceSub, Nat.reduceLT, Nat.reduceLeDiff, Nat.reduceMul]
          refine call_mk rK rfl ⟨rfl, trivial⟩ ?_
          simp only [keys, kz, Ky.cs, List.length_map, hw1, hw2, hw3, bne_self_eq_false, push_cast, ↓reduceIte, reduceCtorEq, Nat.reduceBEq, Nat.reduceEqDiff, Nat.reduceAdd, Nat.reduceSub, Nat.reduceLT, Nat.reduceLeDiff, Nat.reduceMul]
          refine call_mk (keyLess_t kLo kHi) rfl trivial ?_
          simp only [keys, kz, Ky.cs, List.length_map, hw1, hw2, hw3, hlh, Bool.not_true, bne_self_eq_false, push_cast, ↓reduceIte, reduceCtorEq, Nat.reduceBEq, Nat.reduceEqDiff, Nat.reduceAdd, Nat.reduceSub, Nat.reduceLT, Nat.reduceLeDiff, Nat.reduceMul]
          refine run_loop [(5, false), (7, false), (8, false), (9, false), (12, false)] (fun vs pos los => ∃ (j : Nat), j ≤ A.length ∧
            vs = [.ptr 2000000 0 0, .ptr 2000001 0 0, .ptr 2000002 0 0, .own 2000003 0 0 A.length, int .i64 j] ∧ pos = [] ∧ los = [.abs (tr N), .box kLo.cs, .box kHi.cs, .row 3 kz true true (A.map Ky.rv)])
            (fun vs _ _ => match vs with | [_, _, _, _, .r (.v (.int _ a))] => (A.length - a).toNat | _ => 0) rfl ?_ ?_
          · simp only [keys, kz, Ky.cs, push_cast, ↓reduceIte, reduceCtorEq, Nat.reduceBEq, Nat.reduceEqDiff, Nat.reduceAdd, Nat.reduceSub, Nat.reduceLT, Nat.reduceLeDiff, Nat.reduceMul]
            exact ⟨0, by omega, by simp⟩
          · rintro vs pos los ⟨j, hj, rfl, rfl, rfl⟩
            simp only [keys, kz, Ky.cs, List.length_map, push_cast, ↓reduceIte, reduceCtorEq, Nat.reduceBEq, Nat.reduceEqDiff, Nat.reduceAdd, Nat.reduceSub, Nat.reduceLT, Nat.reduceLeDiff, Nat.reduceMul]
            refine cnd_mk (fun h5 => ?_) (fun h5 => ?_)
            · have h5' : j < A.length := by simpa using h5
              obtain ⟨q, hq⟩ : ∃ q, A[j]? = some q := ⟨A[j], by simp [h5']⟩
              have hj1 : IntKind.i64.wrap ((j : Int) + 1) = (j : Int) + 1 := wrap_id ⟨by omega, by omega⟩
              have rQ := rankP hG (by omega) q
              rw [he j q hq] at rQ
              simp only [keys, kz, List.length_map, keys_get0 hq, push_cast, ↓reduceIte, reduceCtorEq, Nat.reduceBEq, Nat.reduceEqDiff, Nat.reduceAdd, Nat.reduceSub, Nat.reduceLT, Nat.reduceLeDiff, Nat.reduceMul]
              repeat refine And.intro (by first | omega | (simp only [maxLen]; omega) | (simp; done) | (simp; omega)) ?_
              refine call_mk rQ rfl ⟨rfl, trivial⟩ ?_
              simp only [keys, kz, Ky.cs, List.length_map, hj1, bne_self_eq_false, push_cast, ↓reduceIte, reduceCtorEq, Nat.reduceBEq, Nat.reduceEqDiff, Nat.reduceAdd, Nat.reduceSub, Nat.reduceLT, Nat.reduceLeDiff, Nat.reduceMul]
              exact ⟨⟨j + 1, by omega, by simp⟩, by omega⟩
            · simp only [keys, kz, Ky.cs, List.length_map, push_cast, ↓reduceIte, reduceCtorEq, Nat.reduceBEq, Nat.reduceEqDiff, Nat.reduceAdd, Nat.reduceSub, Nat.reduceLT, Nat.reduceLeDiff, Nat.reduceMul]
              refine call_mk rD rfl ⟨rfl, trivial⟩ ?_
              simp only [keys, kz, Ky.cs, List.length_nil, push_cast, ↓reduceIte, reduceCtorEq, Nat.reduceBEq, Nat.reduceEqDiff, Nat.reduceAdd, Nat.reduceSub, Nat.reduceLT, Nat.reduceLeDiff, Nat.reduceMul]
              refine call_mk awake_t rfl trivial ?_
              simp only [push_cast, ↓reduceIte, reduceCtorEq, Nat.reduceBEq, Nat.reduceEqDiff, Nat.reduceAdd, Nat.reduceSub, Nat.reduceLT, Nat.reduceLeDiff, Nat.reduceMul]
        · rw [hkm] at hH hs hr
          simp only [Bool.toNat_true] at hs hr
          refine call_mk hH rfl ⟨rfl, trivial⟩ ?_
          simp only [keys, kz, Ky.cs, List.length_map, push_cast, ↓reduceIte, reduceCtorEq, Nat.reduceBEq, Nat.reduceEqDiff, Nat.reduceAdd, Nat.reduceSub, Nat.reduceLT, Nat.reduceLeDiff, Nat.reduceMul]
          refine call_mk (lenP N) rfl ⟨rfl, trivial⟩ ?_
          have hw2 : IntKind.i64.wrap ((A.length : Int) + (B.length : Int) - 1) = (N.flatten.length : Int) := by rw [wrap_id ⟨by omega, by omega⟩]; omega
          have hw3 : IntKind.i64.wrap ((A.length : Int) - 1) = (rk N.flatten k : Int) := by rw [wrap_id ⟨by omega, by omega⟩]; omega
          simp only [keys, kz, Ky.cs, List.length_map, hw1, hw2, bne_self_eq_false, push_cast, ↓reduceIte, reduceCtorEq, Nat.reduceBEq, Nat.reduceEqDiff, Nat.reduceAdd, Nat.reduceSub, Nat.reduceLT, Nat.reduceLeDiff, Nat.reduceMul]
          refine call_mk rC rfl ⟨rfl, trivial⟩ ?_
          simp only [keys, kz, Ky.cs, List.length_map, hw1, hw2, bne_self_eq_false, push_cast, ↓reduceIte, reduceCtorEq, Nat.reduceBEq, Nat.reduceEqDiff, Nat.reduceAdd, Nat.reduceSub, Nat.reduceLT, Nat.reduceLeDiff, Nat.reduceMul]
          refine call_mk (lenP N) rfl ⟨rfl, trivial⟩ ?_
          simp only [keys, kz, Ky.cs, List.length_map, hw1, hw2, bne_self_eq_false, push_cast, ↓reduceIte, reduceCtorEq, Nat.reduceBEq, Nat.reduceEqDiff, Nat.reduceAdd, Nat.reduceSub, Nat.reduceLT, Nat.reduceLeDiff, Nat.reduceMul]
          refine call_mk rK rfl ⟨rfl, trivial⟩ ?_
          simp only [keys, kz, Ky.cs, List.length_map, hw1, hw2, hw3, bne_self_eq_false, push_cast, ↓reduceIte, reduceCtorEq, Nat.reduceBEq, Nat.reduceEqDiff, Nat.reduceAdd, Nat.reduceSub, Nat.reduceLT, Nat.reduceLeDiff, Nat.reduceMul]
          refine call_mk (keyLess_t kLo kHi) rfl trivial ?_
          simp only [keys, kz, Ky.cs, List.length_map, hw1, hw2, hw3, hlh, Bool.not_true, bne_self_eq_false, push_cast, ↓reduceIte, reduceCtorEq, Nat.reduceBEq, Nat.reduceEqDiff, Nat.reduceAdd, Nat.reduceSub, Nat.reduceLT, Nat.reduceLeDiff, Nat.reduceMul]
          refine run_loop [(5, false), (7, false), (8, false), (9, false), (12, false)] (fun vs pos los => ∃ (j : Nat), j ≤ A.length ∧
            vs = [.ptr 2000000 0 0, .ptr 2000001 0 0, .ptr 2000002 0 0, .own 2000003 0 0 A.length, int .i64 j] ∧ pos = [] ∧ los = [.abs (tr N), .box kLo.cs, .box kHi.cs, .row 3 kz true true (A.map Ky.rv)])
            (fun vs _ _ => match vs with | [_, _, _, _, .r (.v (.int _ a))] => (A.length - a).toNat | _ => 0) rfl ?_ ?_
          · simp only [keys, kz, Ky.cs, push_cast, ↓reduceIte, reduceCtorEq, Nat.reduceBEq, Nat.reduceEqDiff, Nat.reduceAdd, Nat.reduceSub, Nat.reduceLT, Nat.reduceLeDiff, Nat.reduceMul]
            exact ⟨0, by omega, by simp⟩
          · rintro vs pos los ⟨j, hj, rfl, rfl, rfl⟩
            simp only [keys, kz, Ky.cs, List.length_map, push_cast, ↓reduceIte, reduceCtorEq, Nat.reduceBEq, Nat.reduceEqDiff, Nat.reduceAdd, Nat.reduceSub, Nat.reduceLT, Nat.reduceLeDiff, Nat.reduceMul]
            refine cnd_mk (fun h5 => ?_) (fun h5 => ?_)
            · have h5' : j < A.length := by simpa using h5
              obtain ⟨q, hq⟩ : ∃ q, A[j]? = some q := ⟨A[j], by simp [h5']⟩
              have hj1 : IntKind.i64.wrap ((j : Int) + 1) = (j : Int) + 1 := wrap_id ⟨by omega, by omega⟩
              have rQ := rankP hG (by omega) q
              rw [he j q hq] at rQ
              simp only [keys, kz, List.length_map, keys_get0 hq, push_cast, ↓reduceIte, reduceCtorEq, Nat.reduceBEq, Nat.reduceEqDiff, Nat.reduceAdd, Nat.reduceSub, Nat.reduceLT, Nat.reduceLeDiff, Nat.reduceMul]
              repeat refine And.intro (by first | omega | (simp only [maxLen]; omega) | (simp; done) | (simp; omega)) ?_
              refine call_mk rQ rfl ⟨rfl, trivial⟩ ?_
              simp only [keys, kz, Ky.cs, List.length_map, hj1, bne_self_eq_false, push_cast, ↓reduceIte, reduceCtorEq, Nat.reduceBEq, Nat.reduceEqDiff, Nat.reduceAdd, Nat.reduceSub, Nat.reduceLT, Nat.reduceLeDiff, Nat.reduceMul]
              exact ⟨⟨j + 1, by omega, by simp⟩, by omega⟩
            · simp only [keys, kz, Ky.cs, List.length_map, push_cast, ↓reduceIte, reduceCtorEq, Nat.reduceBEq, Nat.reduceEqDiff, Nat.reduceAdd, Nat.reduceSub, Nat.reduceLT, Nat.reduceLeDiff, Nat.reduceMul]
              refine call_mk rD rfl ⟨rfl, trivial⟩ ?_
              simp only [keys, kz, Ky.cs, List.length_nil, push_cast, ↓reduceIte, reduceCtorEq, Nat.reduceBEq, Nat.reduceEqDiff, Nat.reduceAdd, Nat.reduceSub, Nat.reduceLT, Nat.reduceLeDiff, Nat.reduceMul]
              refine call_mk awake_t rfl trivial ?_
              simp only [push_cast, ↓reduceIte, reduceCtorEq, Nat.reduceBEq, Nat.reduceEqDiff, Nat.reduceAdd, Nat.reduceSub, Nat.reduceLT, Nat.reduceLeDiff, Nat.reduceMul]
end Go.Ev
