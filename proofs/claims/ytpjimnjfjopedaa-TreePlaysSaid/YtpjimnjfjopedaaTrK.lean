import Derived.Test.YtpjimnjfjopedaaTrO
namespace Go.Ev
open Go
set_option linter.unnecessarySimpa false
set_option linter.unusedSimpArgs false
set_option linter.unusedVariables false
noncomputable def apiarylaw17_TreeBack_pc : PC :=
  (.seq (.reg [⟨(some 4), none, 0, .see (.mov (.c (.r (.v (.bool false)))))⟩])
  (.seq (.reg [⟨(some 12), none, 1, .call 11 []⟩,
    ⟨(some 5), none, 0, .see (.mov (.t 12))⟩])
  (.seq (.seq (.reg [⟨(some 13), none, 0, .see (.mov (.t 5))⟩,
    ⟨(some 14), none, 0, .see (.eqn false (.t 13))⟩,
    ⟨(some 15), none, 0, .see (.mov (.t 14))⟩,
    ⟨(some 16), (some (15, false)), 0, .see (.mov (.t 0))⟩,
    ⟨(some 17), (some (15, false)), 0, .see (.len false (.t 16))⟩,
    ⟨(some 18), (some (15, false)), 0, .see (.bin .gtr (.t 17) (.c (.r (.v (.int .i64 80)))))⟩,
    ⟨(some 19), none, 0, .see (.pick (.t 15) (.c (.r (.v (.bool true)))) (.t 18))⟩,
    ⟨(some 20), none, 0, .see (.mov (.t 19))⟩,
    ⟨(some 21), (some (20, false)), 0, .see (.mov (.t 1))⟩,
    ⟨(some 22), (some (20, false)), 0, .see (.len false (.t 21))⟩,
    ⟨(some 23), (some (20, false)), 0, .see (.bin .gtr (.t 22) (.c (.r (.v (.int .i64 80)))))⟩,
    ⟨(some 24), none, 0, .see (.pick (.t 20) (.c (.r (.v (.bool true)))) (.t 23))⟩])
  (.cond (.t 24)
    (.seq (.reg [⟨(some 25), none, 0, .see (.mov (.t 5))⟩,
    ⟨(some 26), none, 0, .see (.eqn true (.t 25))⟩,
    ⟨(some 27), none, 0, .see (.mov (.t 26))⟩,
    ⟨(some 28), (some (27, true)), 2, .call 10 []⟩,
    ⟨(some 29), none, 0, .see (.pick (.t 27) (.t 28) (.c (.r (.v (.bool false)))))⟩,
    ⟨(some 4), none, 0, .see (.mov (.t 29))⟩])
    .ret)
    .skip))
  (.seq (.seq (.reg [⟨(some 6), none, 0, .see (.mov (.c (.r (.v (.int .i64 0)))))⟩])
  (.block 0 (.loop (.seq (.seq (.reg [⟨(some 30), none, 0, .see (.mov (.t 6))⟩,
    ⟨(some 31), none, 0, .see (.mov (.t 0))⟩,
    ⟨(some 32), none, 0, .see (.len false (.t 31))⟩,
    ⟨(some 33), none, 0, .see (.bin .lss (.t 30) (.t 32))⟩])
  (.cond (.t 33)
    .skip
    (.exit 0)))
  (.seq (.block 1 (.reg [⟨(some 36), none, 0, .see (.mov (.t 5))⟩,
    ⟨(some 37), none, 0, .see (.mov (.t 0))⟩,
    ⟨(some 38), none, 0, .see (.mov (.t 6))⟩,
    ⟨(some 39), none, 0, .see (.ia 3 (.agg [(.v (.int .u64 0)), (.v (.int .i64 0)), (.v (.int .i64 0))]) (.t 37) (.t 38))⟩,
    ⟨(some 40), none, 0, .see (.ld (some 3) (.t 39))⟩,
    ⟨(some 41), none, 3, .call 12 [(.t 36), (.t 40)]⟩]))
  (.reg [⟨(some 34), none, 0, .see (.mov (.t 6))⟩,
    ⟨(some 35), none, 0, .see (.bin .add (.t 34) (.c (.r (.v (.int .i64 1)))))⟩,
    ⟨(some 6), none, 0, .see (.mov (.t 35))⟩]))))))
  (.seq (.reg [⟨(some 42), none, 0, .see (.mov (.t 5))⟩,
    ⟨(some 43), none, 4, .call 13 [(.t 42)]⟩,
    ⟨(some 7), none, 0, .see (.mov (.t 43))⟩])
  (.seq (.reg [⟨(some 8), none, 0, .see (.mov (.c (.nils 3 (.agg [(.v (.int .u64 0)), (.v (.int .i64 0)), (.v (.int .i64 0))]))))⟩])
  (.seq (.seq (.reg [⟨(some 9), none, 0, .see (.mov (.c (.r (.v (.int .i64 0)))))⟩])
  (.block 2 (.loop (.seq (.seq (.reg [⟨(some 44), none, 0, .see (.mov (.t 9))⟩,
    ⟨(some 45), none, 0, .see (.mov (.t 1))⟩,
    ⟨(some 46), none, 0, .see (.len false (.t 45))⟩,
    ⟨(some 47), none, 0, .see (.bin .lss (.t 44) (.t 46))⟩])
  (.cond (.t 47)
    .skip
    (.exit 2)))
  (.seq (.block 3 (.seq (.reg [⟨(some 50), none, 0, .see (.mov (.t 5))⟩,
    ⟨(some 51), none, 0, .see (.mov (.t 1))⟩,
    ⟨(some 52), none, 0, .see (.mov (.t 9))⟩,
    ⟨(some 53), none, 0, .see (.ia 3 (.agg [(.v (.int .u64 0)), (.v (.int .i64 0)), (.v (.int .i64 0))]) (.t 51) (.t 52))⟩,
    ⟨(some 54), none, 0, .see (.ld (some 3) (.t 53))⟩,
    ⟨(some 55), none, 5, .call 12 [(.t 50), (.t 54)]⟩])
  (.cond (.t 55)
    (.reg [⟨(some 56), none, 0, .see (.mov (.t 8))⟩,
    ⟨(some 57), none, 0, .see (.mov (.t 1))⟩,
    ⟨(some 58), none, 0, .see (.mov (.t 9))⟩,
    ⟨(some 59), none, 0, .see (.ia 3 (.agg [(.v (.int .u64 0)), (.v (.int .i64 0)), (.v (.int .i64 0))]) (.t 57) (.t 58))⟩,
    ⟨(some 60), none, 0, .see (.ld (some 3) (.t 59))⟩,
    ⟨(some 61), none, 0, .act (.bsl 3 (.agg [(.v (.int .u64 0)), (.v (.int .i64 0)), (.v (.int .i64 0))]) [(.t 60)])⟩,
    ⟨(some 62), none, 0, .act (.app 3 (.agg [(.v (.int .u64 0)), (.v (.int .i64 0)), (.v (.int .i64 0))]) 24 (.t 56) (.t 61))⟩,
    ⟨(some 8), none, 0, .see (.mov (.t 62))⟩])
    (.seq (.reg [⟨(some 63), none, 0, .see (.mov (.t 5))⟩,
    ⟨(some 64), none, 0, .see (.mov (.t 1))⟩,
    ⟨(some 65), none, 0, .see (.mov (.t 9))⟩,
    ⟨(some 66), none, 0, .see (.ia 3 (.agg [(.v (.int .u64 0)), (.v (.int .i64 0)), (.v (.int .i64 0))]) (.t 64) (.t 65))⟩,
    ⟨(some 67), none, 0, .see (.ld (some 3) (.t 66))⟩,
    ⟨(some 68), none, 6, .call 14 [(.t 63), (.t 67)]⟩,
    ⟨(some 69), none, 0, .see (.un .not (.t 68))⟩])
    (.cond (.t 69)
      (.seq (.reg [⟨(some 4), none, 0, .see (.mov (.c (.r (.v (.bool false)))))⟩])
      .ret)
      .skip)))))
  (.reg [⟨(some 48), none, 0, .see (.mov (.t 9))⟩,
    ⟨(some 49), none, 0, .see (.bin .add (.t 48) (.c (.r (.v (.int .i64 1)))))⟩,
    ⟨(some 9), none, 0, .see (.mov (.t 49))⟩]))))))
  (.seq (.seq (.reg [⟨(some 70), none, 0, .see (.mov (.t 5))⟩,
    ⟨(some 71), none, 7, .call 13 [(.t 70)]⟩,
    ⟨(some 72), none, 0, .see (.mov (.t 7))⟩,
    ⟨(some 73), none, 0, .see (.mov (.t 8))⟩,
    ⟨(some 74), none, 0, .see (.len false (.t 73))⟩,
    ⟨(some 75), none, 0, .see (.bin .add (.t 72) (.t 74))⟩,
    ⟨(some 76), none, 0, .see (.bin .neq (.t 71) (.t 75))⟩])
  (.cond (.t 76)
    (.seq (.reg [⟨(some 4), none, 0, .see (.mov (.c (.r (.v (.bool false)))))⟩])
    .ret)
    .skip))
  (.seq (.seq (.reg [⟨(some 10), none, 0, .see (.mov (.c (.r (.v (.int .i64 0)))))⟩])
  (.block 4 (.loop (.seq (.seq (.reg [⟨(some 77), none, 0, .see (.mov (.t 10))⟩,
    ⟨(some 78), none, 0, .see (.mov (.t 8))⟩,
    ⟨(some 79), none, 0, .see (.len false (.t 78))⟩,
    ⟨(some 80), none, 0, .see (.bin .lss (.t 77) (.t 79))⟩])
  (.cond (.t 80)
    .skip
    (.exit 4)))
  (.seq (.block 5 (.seq (.reg [⟨(some 83), none, 0, .see (.mov (.t 5))⟩,
    ⟨(some 84), none, 0, .see (.mov (.t 8))⟩,
    ⟨(some 85), none, 0, .see (.mov (.t 10))⟩,
    ⟨(some 86), none, 0, .see (.ia 3 (.agg [(.v (.int .u64 0)), (.v (.int .i64 0)), (.v (.int .i64 0))]) (.t 84) (.t 85))⟩,
    ⟨(some 87), none, 0, .see (.ld (some 3) (.t 86))⟩,
    ⟨(some 88), none, 8, .call 15 [(.t 83), (.t 87)]⟩,
    ⟨(some 89), none, 0, .see (.un .not (.t 88))⟩,
    ⟨(some 90), none, 0, .see (.mov (.t 89))⟩,
    ⟨(some 91), (some (90, false)), 0, .see (.mov (.t 5))⟩,
    ⟨(some 92), (some (90, false)), 0, .see (.mov (.t 8))⟩,
    ⟨(some 93), (some (90, false)), 0, .see (.mov (.t 10))⟩,
    ⟨(some 94), (some (90, false)), 0, .see (.ia 3 (.agg [(.v (.int .u64 0)), (.v (.int .i64 0)), (.v (.int .i64 0))]) (.t 92) (.t 93))⟩,
    ⟨(some 95), (some (90, false)), 0, .see (.ld (some 3) (.t 94))⟩,
    ⟨(some 96), (some (90, false)), 9, .call 15 [(.t 91), (.t 95)]⟩,
    ⟨(some 97), none, 0, .see (.pick (.t 90) (.c (.r (.v (.bool true)))) (.t 96))⟩])
  (.cond (.t 97)
    (.seq (.reg [⟨(some 4), none, 0, .see (.mov (.c (.r (.v (.bool false)))))⟩])
    .ret)
    .skip)))
  (.reg [⟨(some 81), none, 0, .see (.mov (.t 10))⟩,
    ⟨(some 82), none, 0, .see (.bin .add (.t 81) (.c (.r (.v (.int .i64 1)))))⟩,
    ⟨(some 10), none, 0, .see (.mov (.t 82))⟩]))))))
  (.seq (.seq (.reg [⟨(some 11), none, 0, .see (.mov (.c (.r (.v (.int .i64 0)))))⟩])
  (.block 6 (.loop (.seq (.seq (.reg [⟨(some 98), none, 0, .see (.mov (.t 11))⟩,
    ⟨(some 99), none, 0, .see (.mov (.t 0))⟩,
    ⟨(some 100), none, 0, .see (.len false (.t 99))⟩,
    ⟨(some 101), none, 0, .see (.bin .lss (.t 98) (.t 100))⟩])
  (.cond (.t 101)
    .skip
    (.exit 6)))
  (.seq (.block 7 (.seq (.reg [⟨(some 104), none, 0, .see (.mov (.t 5))⟩,
    ⟨(some 105), none, 0, .see (.mov (.t 0))⟩,
    ⟨(some 106), none, 0, .see (.mov (.t 11))⟩,
    ⟨(some 107), none, 0, .see (.ia 3 (.agg [(.v (.int .u64 0)), (.v (.int .i64 0)), (.v (.int .i64 0))]) (.t 105) (.t 106))⟩,
    ⟨(some 108), none, 0, .see (.ld (some 3) (.t 107))⟩,
    ⟨(some 109), none, 10, .call 14 [(.t 104), (.t 108)]⟩,
    ⟨(some 110), none, 0, .see (.un .not (.t 109))⟩])
  (.cond (.t 110)
    (.seq (.reg [⟨(some 4), none, 0, .see (.mov (.c (.r (.v (.bool false)))))⟩])
    .ret)
    .skip)))
  (.reg [⟨(some 102), none, 0, .see (.mov (.t 11))⟩,
    ⟨(some 103), none, 0, .see (.bin .add (.t 102) (.c (.r (.v (.int .i64 1)))))⟩,
    ⟨(some 11), none, 0, .see (.mov (.t 103))⟩]))))))
  (.seq (.reg [⟨(some 111), none, 0, .see (.mov (.t 5))⟩,
    ⟨(some 112), none, 11, .call 13 [(.t 111)]⟩,
    ⟨(some 113), none, 0, .see (.mov (.t 7))⟩,
    ⟨(some 114), none, 0, .see (.bin .eql (.t 112) (.t 113))⟩,
    ⟨(some 115), none, 0, .see (.mov (.t 114))⟩,
    ⟨(some 116), (some (115, true)), 12, .call 10 []⟩,
    ⟨(some 117), none, 0, .see (.pick (.t 115) (.t 116) (.c (.r (.v (.bool false)))))⟩,
    ⟨(some 4), none, 0, .see (.mov (.t 117))⟩])
  .ret)))))))))))
noncomputable abbrev apiarylaw17_TreeBack_code : Code := (Go.Proofs.Try.f4.body).getD .skip
theorem apiarylaw17_TreeBack_chk : chkC Go.Proofs.Try.prog 118 apiarylaw17_TreeBack_code apiarylaw17_TreeBack_pc = true := by kernel_rfl
theorem apiarylaw17_TreeBack_triple {args : List AV} {po ro : List Ob} {res : AV} (hal : args.length = 2) (hpo : po.length ≤ 1000)
    (h : run Go.Proofs.Try.prog po.length (RetP po.length [(4, false, none)] fun v os => v = res ∧ os = ro) [.c apiarylaw17_TreeBack_pc] ⟨argE 0 args, ob0 po⟩) : Triple Go.Proofs.Try.prog 4 args po res ro :=
  triple_of_W (fn := Go.Proofs.Try.f4) (c := apiarylaw17_TreeBack_code) (pc := apiarylaw17_TreeBack_pc) (rs := [(4, false, none)]) Go.Proofs.Try.func4 rfl (by decide) (by have := apiarylaw17_TreeBack_chk; exact this) (by rw [hal]; decide) rfl (by kernel_rfl) (by kernel_rfl) (by decide) hpo (W_of_run h)

theorem hasP {ns : List (List Ky)} (h : Good ns) (hn : ns.flatten.length ≤ 100000) (k : Ky) : Triple Go.Proofs.Try.prog 14 [.ptr 1000000 0 0, k.av] [.abs (tr ns)] (bl (decide (k ∈ ns.flatten))) [.abs (tr ns)] := by
  have hv : Triple Go.Proofs.Try.prog 14 [.rp (tr ns).view, k.av] [] (bl (decide (k ∈ ns.flatten))) [] := by
    by_cases h0 : ns = []
    · subst h0
      exact has_no_t _ k
    · obtain ⟨i, s, l, hs⟩ := spt h (by omega) k h0
      have := has_t ns ns.flatten.length k (nodeIx ns k) s l hs.nd (by rw [hs.nx]; exact hs.at_) hs.pl
      rw [show decide (k ∈ ns.flatten) = decide (l[s]? = some k) from decide_eq_decide.2 (hs.mem h).symm]
      exact this
  exact view0 (T := tr ns) hv rfl rfl (by simp [Flat, FlatR])
def kz : RV := .agg [.v (.int .u64 0), .v (.int .i64 0), .v (.int .i64 0)]
theorem keys_get {l : List Ky} {i : Nat} {k : Ky} (hk : l[i]? = some k) : (l.map Ky.rv).getD ((i : Int)).toNat (.agg [.v (.int .u64 0), .v (.int .i64 0), .v (.int .i64 0)]) = .agg [.v (.int .u64 k.c), .v (.int .i64 k.v), .v (.int .i64 k.d)] := by
  simp [List.getD, hk, Ky.rv]
theorem keys_get0 {l : List Ky} {i : Nat} {k : Ky} (hk : l[i]? = some k) : (l.map Ky.rv).getD (0 + ((i : Int)).toNat) (.agg [.v (.int .u64 0), .v (.int .i64 0), .v (.int .i64 0)]) = .agg [.v (.int .u64 k.c), .v (.int .i64 k.v), .v (.int .i64 k.d)] := by
  simp [List.getD, hk, Ky.rv]
theorem take_snoc {α : Type} {l : List α} {i : Nat} {x : α} (h : l[i]? = some x) : l.take (i + 1) = l.take i ++ [x] := by
  rw [List.take_add_one, h]
  rfl
set_option maxRecDepth 100000 in
set_option maxHeartbeats 1000000 in
theorem treeBack_t (l m : List Ky) : Triple Go.Proofs.Try.prog 4 [.r (keys l), .r (keys m)] [] (bl true) [] := by
  refine apiarylaw17_TreeBack_triple rfl (by decide) ?_
  simp only [apiarylaw17_TreeBack_pc, keys, List.length_nil, List.length_map, push_cast, ↓reduceIte, reduceCtorEq, Nat.reduceBEq, Nat.reduceEqDiff, Nat.reduceAdd, Nat.reduceSub, Nat.reduceLT, Nat.reduceLeDiff, Nat.reduceMul]
  refine call_mk new_t rfl trivial ?_
  simp only [List.length_map, push_cast, ↓reduceIte, reduceCtorEq, Nat.reduceBEq, Nat.reduceEqDiff, Nat.reduceAdd, Nat.reduceSub, Nat.reduceLT, Nat.reduceLeDiff, Nat.reduceMul]
  refine And.intro (by simp +contextual) ?_
  refine cnd_mk (fun h1 => ?_) (fun h1 => ?_)
  · simp only [List.length_map, push_cast, ↓reduceIte, reduceCtorEq, Nat.reduceBEq, Nat.reduceEqDiff, Nat.reduceAdd, Nat.reduceSub, Nat.reduceLT, Nat.reduceLeDiff, Nat.reduceMul]
    refine call_mk awake_t rfl trivial ?_
    simp only [push_cast, ↓reduceIte, reduceCtorEq, Nat.reduceBEq, Nat.reduceEqDiff, Nat.reduceAdd, Nat.reduceSub, Nat.reduceLT, Nat.reduceLeDiff, Nat.reduceMul]
  · have hl : l.length ≤ 80 := by simp at h1; omega
    have hm : m.length ≤ 80 := by simp at h1; omega
    simp only [List.length_map, push_cast, ↓reduceIte, reduceCtorEq, Nat.reduceBEq, Nat.reduceEqDiff, Nat.reduceAdd, Nat.reduceSub, Nat.reduceLT, Nat.reduceLeDiff, Nat.reduceMul]
    refine run_loop [(0, false), (1, false), (5, false), (6, false)] (fun vs pos los => ∃ (i : Nat) (N : List (List Ky)), i ≤ l.length ∧ Good N ∧ N.flatten.length ≤ i ∧ (∀ x, x ∈ N.flatten ↔ x ∈ l.take i) ∧
      vs = [.r (keys l), .r (keys m), .ptr 2000000 0 0, int .i64 i] ∧ pos = [] ∧ los = [.abs (tr N)])
      (fun vs _ _ => match vs with | [_, _, _, .r (.v (.int _ a))] => (l.length - a).toNat | _ => 0) rfl ?_ ?_
    · simp only [keys, push_cast, ↓reduceIte, reduceCtorEq, Nat.reduceBEq, Nat.reduceEqDiff, Nat.reduceAdd, Nat.reduceSub, Nat.reduceLT, Nat.reduceLeDiff, Nat.reduceMul]
      exact ⟨0, [], by omega, good0, by simp, by simp, by simp⟩
    · rintro vs pos los ⟨i, N, hi, hG, hN, hmem, rfl, rfl, rfl⟩
      simp only [keys, List.length_map, push_cast, ↓reduceIte, reduceCtorEq, Nat.reduceBEq, Nat.reduceEqDiff, Nat.reduceAdd, Nat.reduceSub, Nat.reduceLT, Nat.reduceLeDiff, Nat.reduceMul]
      refine cnd_mk (fun h2 => ?_) (fun h2 => ?_)
      · have h2' : i < l.length := by simpa using h2
        obtain ⟨k, hk⟩ : ∃ k, l[i]? = some k := ⟨l[i], by simp [h2']⟩
        have hL := put_law hG (by omega) k
        have hi1 : IntKind.i64.wrap ((i : Int) + 1) = (i : Int) + 1 := wrap_id ⟨by omega, by omega⟩
        simp only [keys, List.length_map, keys_get hk, push_cast, ↓reduceIte, reduceCtorEq, Nat.reduceBEq, Nat.reduceEqDiff, Nat.reduceAdd, Nat.reduceSub, Nat.reduceLT, Nat.reduceLeDiff, Nat.reduceMul]
        refine And.intro ⟨by omega, by omega⟩ (call_mk (put_t hG (by omega) k) rfl ⟨rfl, trivial⟩ ?_)
        simp only [keys, List.length_map, hi1, push_cast, ↓reduceIte, reduceCtorEq, Nat.reduceBEq, Nat.reduceEqDiff, Nat.reduceAdd, Nat.reduceSub, Nat.reduceLT, Nat.reduceLeDiff, Nat.reduceMul]
        refine ⟨⟨i + 1, (putN N k).1, by omega, hL.good, ?_, fun x => ?_, by simp⟩, by omega⟩
        · have := hL.len
          have : (putN N k).2.toNat ≤ 1 := by cases (putN N k).2 <;> simp
          omega
        · rw [hL.mem, hmem, take_snoc hk]
          simp
          exact Or.comm
      · have h2' : ¬ i < l.length := by simpa using h2
        have hall : ∀ x, x ∈ N.flatten ↔ x ∈ l := fun x => by rw [hmem, List.take_of_length_le (by omega)]
        clear hmem
        simp only [keys, List.length_map, push_cast, ↓reduceIte, reduceCtorEq, Nat.reduceBEq, Nat.reduceEqDiff, Nat.reduceAdd, Nat.reduceSub, Nat.reduceLT, Nat.reduceLeDiff, Nat.reduceMul]
        refine call_mk (lenP N) rfl ⟨rfl, trivial⟩ ?_
        simp only [keys, List.length_map, push_cast, ↓reduceIte, reduceCtorEq, Nat.reduceBEq, Nat.reduceEqDiff, Nat.reduceAdd, Nat.reduceSub, Nat.reduceLT, Nat.reduceLeDiff, Nat.reduceMul]
        refine run_loop [(0, false), (1, false), (5, false), (7, false), (8, true), (9, false)] (fun vs pos los => ∃ (j : Nat) (M : List (List Ky)) (own : List Ky), j ≤ m.length ∧ Good M ∧ own.length ≤ j ∧ own.Nodup ∧ (∀ x ∈ own, x ∉ l) ∧ (∀ x, x ∈ M.flatten ↔ x ∈ l ∨ x ∈ own) ∧ M.flatten.length = N.flatten.length + own.length ∧
          vs = [.r (keys l), .r (keys m), .ptr 2000000 0 0, int .i64 N.flatten.length, .own 2000001 0 0 own.length, int .i64 j] ∧ pos = [] ∧ los = [.abs (tr M), .row 3 kz true true (own.map Ky.rv)])
          (fun vs _ _ => match vs with | [_, _, _, _, _, .r (.v (.int _ a))] => (m.length - a).toNat | _ => 0) rfl ?_ ?_
        · simp only [keys, kz, push_cast, ↓reduceIte, reduceCtorEq, Nat.reduceBEq, Nat.reduceEqDiff, Nat.reduceAdd, Nat.reduceSub, Nat.reduceLT, Nat.reduceLeDiff, Nat.reduceMul]
          exact ⟨0, N, [], by omega, hG, by simp, by simp, by simp, by simpa using hall, by simp, by simp⟩
        · rintro vs pos los ⟨j, M, own, hj, hGM, hoj, hnd, hdis, hmM, hlM, rfl, rfl, rfl⟩
          simp only [keys, kz, List.length_map, push_cast, ↓reduceIte, reduceCtorEq, Nat.reduceBEq, Nat.reduceEqDiff, Nat.reduceAdd, Nat.reduceSub, Nat.reduceLT, Nat.reduceLeDiff, Nat.reduceMul]
          refine cnd_mk (fun h3 => ?_) (fun h3 => ?_)
          · have h3' : j < m.length := by simpa using h3
            obtain ⟨k, hk⟩ : ∃ k, m[j]? = some k := ⟨m[j], by simp [h3']⟩
            have hL := put_law hGM (by omega) k
            have hj1 : IntKind.i64.wrap ((j : Int) + 1) = (j : Int) + 1 := wrap_id ⟨by omega, by omega⟩
            have hfl := hL.flag
            have hp := put_t hGM (by omega) k
            simp only [keys, List.length_map, keys_get hk, push_cast, ↓reduceIte, reduceCtorEq, Nat.reduceBEq, Nat.reduceEqDiff, Nat.reduceAdd, Nat.reduceSub, Nat.reduceLT, Nat.reduceLeDiff, Nat.reduceMul]
            refine And.intro ⟨by omega, by omega⟩ ?_
            rcases hkm : decide (k ∈ M.flatten) with _ | _
            · rw [hkm, Bool.not_false] at hfl
              rw [hfl] at hp
              refine call_mk hp rfl ⟨rfl, trivial⟩ ?_
              simp only [keys, kz, List.length_map, keys_get hk, push_cast, ↓reduceIte, reduceCtorEq, Nat.reduceBEq, Nat.reduceEqDiff, Nat.reduceAdd, Nat.reduceSub, Nat.reduceLT, Nat.reduceLeDiff, Nat.reduceMul]
              have hkm' : k ∉ M.flatten := by simpa using hkm
              have hko : k ∉ own := fun q => hkm' ((hmM k).2 (.inr q))
              have hkl : k ∉ l := fun q => hkm' ((hmM k).2 (.inl q))
              refine And.intro ⟨by omega, by omega⟩ ?_
              repeat refine And.intro (by first | omega | (simp only [maxLen]; omega) | (simp; done) | (simp; omega)) ?_
              refine ⟨⟨j + 1, (putN M k).1, own ++ [k], by omega, hL.good, by simp; omega, ?_, fun x hx => ?_, fun x => ?_, ?_, ?_⟩, by rw [hj1]; omega⟩
              · rw [List.nodup_append]
                refine ⟨hnd, by simp, fun a ha b hb => ?_⟩
                simp at hb
                subst hb
                rintro rfl
                exact hko ha
              · rcases List.mem_append.1 hx with q | q
                · exact hdis x q
                · simp at q; subst q; exact hkl
              · rw [hL.mem, hmM]
                simp only [List.mem_append, List.mem_singleton]
                constructor
                · rintro (q | q | q) <;> simp [q]
                · rintro (q | q | q) <;> simp [q]
              · have := hL.len
                rw [hfl] at this
                simp only [Bool.toNat_true] at this
                rw [List.length_append, List.length_singleton]
                omega
              · rw [hj1]
                simp [Ky.rv]
            · rw [hkm, Bool.not_true] at hfl
              rw [hfl] at hp
              refine call_mk hp rfl ⟨rfl, trivial⟩ ?_
              simp only [keys, kz, List.length_map, keys_get hk, push_cast, ↓reduceIte, reduceCtorEq, Nat.reduceBEq, Nat.reduceEqDiff, Nat.reduceAdd, Nat.reduceSub, Nat.reduceLT, Nat.reduceLeDiff, Nat.reduceMul]
              have hkm' : k ∈ M.flatten := by simpa using hkm
              have hin : k ∈ (putN M k).1.flatten := (hL.mem k).2 (.inl rfl)
              have hlen := hL.len
              rw [hfl] at hlen
              simp only [Bool.toNat_false, Nat.add_zero] at hlen
              have hp2 := hasP hL.good (by omega) k
              rw [decide_eq_true hin] at hp2
              refine And.intro ⟨by omega, by omega⟩ (call_mk hp2 rfl ⟨rfl, trivial⟩ ?_)
              simp only [keys, kz, List.length_map, keys_get hk, hj1, push_cast, ↓reduceIte, reduceCtorEq, Nat.reduceBEq, Nat.reduceEqDiff, Nat.reduceAdd, Nat.reduceSub, Nat.reduceLT, Nat.reduceLeDiff, Nat.reduceMul]
              refine ⟨⟨j + 1, (putN M k).1, own, by omega, hL.good, by omega, hnd, hdis, fun x => ?_, by omega, by simp⟩, by omega⟩
              rw [hL.mem]
              constructor
              · rintro (rfl | q)
                · exact (hmM x).1 hkm'
                · exact (hmM x).1 q
              · exact fun q => .inr ((hmM x).2 q)
          · have h3' : ¬ j < m.length := by simpa using h3
            simp only [keys, kz, List.length_map, push_cast, ↓reduceIte, reduceCtorEq, Nat.reduceBEq, Nat.reduceEqDiff, Nat.reduceAdd, Nat.reduceSub, Nat.reduceLT, Nat.reduceLeDiff, Nat.reduceMul]
            refine call_mk (lenP M) rfl ⟨rfl, trivial⟩ ?_
            have hwl : IntKind.i64.wrap ((N.flatten.length : Int) + (own.length : Int)) = (M.flatten.length : Int) := by rw [wrap_id ⟨by omega, by omega⟩]; omega
            simp only [keys, kz, List.length_map, hwl, push_cast, ↓reduceIte, reduceCtorEq, Nat.reduceBEq, Nat.reduceEqDiff, Nat.reduceAdd, Nat.reduceSub, Nat.reduceLT, Nat.reduceLeDiff, Nat.reduceMul]
            rw [bne_self_eq_false]
            refine cnd_mk (fun h4 => by cases h4) (fun _ => ?_)
            simp only [keys, kz, List.length_map, push_cast, ↓reduceIte, reduceCtorEq, Nat.reduceBEq, Nat.reduceEqDiff, Nat.reduceAdd, Nat.reduceSub, Nat.reduceLT, Nat.reduceLeDiff, Nat.reduceMul]
            refine run_loop [(0, false), (5, false), (7, false), (8, false), (10, false)] (fun vs pos los => ∃ (c : Nat) (Q : List (List Ky)), c ≤ own.length ∧ Good Q ∧ (∀ x, x ∈ Q.flatten ↔ x ∈ l ∨ x ∈ own.drop c) ∧ Q.flatten.length + c = N.flatten.length + own.length ∧
              vs = [.r (keys l), .ptr 2000000 0 0, int .i64 N.flatten.length, .own 2000001 0 0 own.length, int .i64 c] ∧ pos = [] ∧ los = [.abs (tr Q), .row 3 kz true true (own.map Ky.rv)])
              (fun vs _ _ => match vs with | [_, _, _, _, .r (.v (.int _ a))] => (own.length - a).toNat | _ => 0) rfl ?_ ?_
            · simp only [keys, kz, push_cast, ↓reduceIte, reduceCtorEq, Nat.reduceBEq, Nat.reduceEqDiff, Nat.reduceAdd, Nat.reduceSub, Nat.reduceLT, Nat.reduceLeDiff, Nat.reduceMul]
              exact ⟨0, M, by omega, hGM, by simpa using hmM, by omega, by simp⟩
            · rintro vs pos los ⟨c, Q, hc, hGQ, hmQ, hlQ, rfl, rfl, rfl⟩
              simp only [keys, kz, List.length_map, push_cast, ↓reduceIte, reduceCtorEq, Nat.reduceBEq, Nat.reduceEqDiff, Nat.reduceAdd, Nat.reduceSub, Nat.reduceLT, Nat.reduceLeDiff, Nat.reduceMul]
              refine cnd_mk (fun h5 => ?_) (fun h5 => ?_)
              · have h5' : c < own.length := by simpa using h5
                obtain ⟨k, hk⟩ : ∃ k, own[c]? = some k := ⟨own[c], by simp [h5']⟩
                have hkd : own.drop c = k :: own.drop (c + 1) := by
                  rw [List.drop_eq_getElem_cons h5', (List.getElem?_eq_some_iff.1 hk).2]
                have hc1 : IntKind.i64.wrap ((c : Int) + 1) = (c : Int) + 1 := wrap_id ⟨by omega, by omega⟩
                have hko : k ∈ own := List.mem_of_getElem? hk
                have hD := del_law hGQ (by omega) k
                have hin : k ∈ Q.flatten := (hmQ k).2 (.inr (by rw [hkd]; simp))
                have hf := hD.flag
                rw [decide_eq_true hin] at hf
                have hp := del_t hGQ (by omega) k
                rw [hf] at hp
                have hdl := hD.len
                rw [hf, Bool.toNat_true] at hdl
                have hout : k ∉ (delN Q k).1.flatten := fun q => ((hD.mem k).1 q).1 rfl
                have hD2 := del_law hD.good (by omega) k
                have hf2 := hD2.flag
                rw [decide_eq_false hout] at hf2
                have hp2 := del_t hD.good (by omega) k
                rw [hf2] at hp2
                have hdl2 := hD2.len
                rw [hf2, Bool.toNat_false, Nat.add_zero] at hdl2
                simp only [keys, kz, List.length_map, keys_get0 hk, push_cast, ↓reduceIte, reduceCtorEq, Nat.reduceBEq, Nat.reduceEqDiff, Nat.reduceAdd, Nat.reduceSub, Nat.reduceLT, Nat.reduceLeDiff, Nat.reduceMul]
                repeat refine And.intro (by first | omega | (simp only [maxLen]; omega) | (simp; done) | (simp; omega)) ?_
                refine call_mk hp rfl ⟨rfl, trivial⟩ ?_
                simp only [keys, kz, List.length_map, keys_get0 hk, push_cast, ↓reduceIte, reduceCtorEq, Nat.reduceBEq, Nat.reduceEqDiff, Nat.reduceAdd, Nat.reduceSub, Nat.reduceLT, Nat.reduceLeDiff, Nat.reduceMul]
                repeat refine And.intro (by first | omega | (simp only [maxLen]; omega) | (simp; done) | (simp; omega)) ?_
                refine call_mk hp2 rfl ⟨rfl, trivial⟩ ?_
                simp only [keys, kz, List.length_map, keys_get0 hk, hc1, push_cast, ↓reduceIte, reduceCtorEq, Nat.reduceBEq, Nat.reduceEqDiff, Nat.reduceAdd, Nat.reduceSub, Nat.reduceLT, Nat.reduceLeDiff, Nat.reduceMul]
                refine ⟨⟨c + 1, (delN (delN Q k).1 k).1, by omega, hD2.good, fun x => ?_, by omega, by simp⟩, by omega⟩
                rw [hD2.mem, hD.mem, hmQ, hkd]
                have hnd2 : k ∉ own.drop (c + 1) := fun q => by
                  have := hnd.sublist (List.drop_sublist c own)
                  rw [hkd, List.nodup_cons] at this
                  exact this.1 q
                simp only [List.mem_cons]
                constructor
                · rintro ⟨n1, _, q | q | q⟩
                  · exact .inl q
                  · exact absurd q n1
                  · exact .inr q
                · rintro (q | q)
                  · have : x ≠ k := fun e => hdis k hko (e ▸ q)
                    exact ⟨this, this, .inl q⟩
                  · have : x ≠ k := fun e => hnd2 (e ▸ q)
                    exact ⟨this, this, .inr (.inr q)⟩
              · have h5' : ¬ c < own.length := by simpa using h5
                rw [List.drop_eq_nil_of_le (by omega)] at hmQ
                simp only [keys, kz, List.length_map, push_cast, ↓reduceIte, reduceCtorEq, Nat.reduceBEq, Nat.reduceEqDiff, Nat.reduceAdd, Nat.reduceSub, Nat.reduceLT, Nat.reduceLeDiff, Nat.reduceMul]
                refine run_loop [(0, false), (5, false), (7, false), (11, false)] (fun vs pos los => ∃ (c : Nat), c ≤ l.length ∧
                  vs = [.r (keys l), .ptr 2000000 0 0, int .i64 N.flatten.length, int .i64 c] ∧ pos = [] ∧ los = [.abs (tr Q)])
                  (fun vs _ _ => match vs with | [_, _, _, .r (.v (.int _ a))] => (l.length - a).toNat | _ => 0) rfl ?_ ?_
                · simp only [keys, kz, push_cast, ↓reduceIte, reduceCtorEq, Nat.reduceBEq, Nat.reduceEqDiff, Nat.reduceAdd, Nat.reduceSub, Nat.reduceLT, Nat.reduceLeDiff, Nat.reduceMul]
                  exact ⟨0, by omega, by simp⟩
                · rintro vs pos los ⟨a, ha, rfl, rfl, rfl⟩
                  simp only [keys, kz, List.length_map, push_cast, ↓reduceIte, reduceCtorEq, Nat.reduceBEq, Nat.reduceEqDiff, Nat.reduceAdd, Nat.reduceSub, Nat.reduceLT, Nat.reduceLeDiff, Nat.reduceMul]
                  refine cnd_mk (fun h6 => ?_) (fun h6 => ?_)
                  · have h6' : a < l.length := by simpa using h6
                    obtain ⟨k, hk⟩ : ∃ k, l[a]? = some k := ⟨l[a], by simp [h6']⟩
                    have ha1 : IntKind.i64.wrap ((a : Int) + 1) = (a : Int) + 1 := wrap_id ⟨by omega, by omega⟩
                    have hin : k ∈ Q.flatten := (hmQ k).2 (.inl (List.mem_of_getElem? hk))
                    have hp := hasP hGQ (by omega) k
                    rw [decide_eq_true hin] at hp
                    simp only [keys, kz, List.length_map, keys_get hk, push_cast, ↓reduceIte, reduceCtorEq, Nat.reduceBEq, Nat.reduceEqDiff, Nat.reduceAdd, Nat.reduceSub, Nat.reduceLT, Nat.reduceLeDiff, Nat.reduceMul]
                    refine And.intro ⟨by omega, by omega⟩ (call_mk hp rfl ⟨rfl, trivial⟩ ?_)
                    simp only [keys, kz, List.length_map, ha1, push_cast, ↓reduceIte, reduceCtorEq, Nat.reduceBEq, Nat.reduceEqDiff, Nat.reduceAdd, Nat.reduceSub, Nat.reduceLT, Nat.reduceLeDiff, Nat.reduceMul]
                    exact ⟨⟨a + 1, by omega, by simp⟩, by omega⟩
                  · simp only [keys, kz, List.length_map, push_cast, ↓reduceIte, reduceCtorEq, Nat.reduceBEq, Nat.reduceEqDiff, Nat.reduceAdd, Nat.reduceSub, Nat.reduceLT, Nat.reduceLeDiff, Nat.reduceMul]
                    refine call_mk (lenP Q) rfl ⟨rfl, trivial⟩ ?_
                    have hQN : (Q.flatten.length : Int) = (N.flatten.length : Int) := by omega
                    simp only [keys, kz, List.length_map, hQN, beq_self_eq_true, push_cast, ↓reduceIte, reduceCtorEq, Nat.reduceBEq, Nat.reduceEqDiff, Nat.reduceAdd, Nat.reduceSub, Nat.reduceLT, Nat.reduceLeDiff, Nat.reduceMul]
                    refine call_mk awake_t rfl trivial ?_
                    simp only [push_cast, ↓reduceIte, reduceCtorEq, Nat.reduceBEq, Nat.reduceEqDiff, Nat.reduceAdd, Nat.reduceSub, Nat.reduceLT, Nat.reduceLeDiff, Nat.reduceMul]
end Go.Ev
