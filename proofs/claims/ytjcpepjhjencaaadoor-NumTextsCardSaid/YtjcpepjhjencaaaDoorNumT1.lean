import Derived.Test.YtjcpepjhjencaaaDoorNum7
import Derived.Test.YtjcpepjhjencaaaDoorNumQ
namespace Go.Ev
open Go Go.RowKit
set_option linter.unnecessarySimpa false
set_option linter.unusedSimpArgs false
set_option linter.unusedVariables false
noncomputable def apiaryref1_Text_pc : PC :=
  (.seq (.reg [⟨(some 2), none, 0, .see (.mov (.c (.r (.v (.string ⟨#[]⟩)))))⟩])
  (.seq (.reg [⟨(some 8), none, 0, .see (.mov (.t 0))⟩,
    ⟨(some 9), none, 0, .see (.conv .u64 (.t 8))⟩,
    ⟨(some 3), none, 0, .see (.mov (.t 9))⟩])
  (.seq (.reg [⟨(some 4), none, 0, .see (.mov (.c (.r (.v (.string ⟨#[]⟩)))))⟩])
  (.seq (.seq (.reg [⟨(some 10), none, 0, .see (.mov (.t 0))⟩,
    ⟨(some 11), none, 0, .see (.bin .lss (.t 10) (.c (.r (.v (.int .i64 0)))))⟩])
  (.cond (.t 11)
    (.seq (.reg [⟨(some 12), none, 0, .see (.mov (.t 3))⟩,
    ⟨(some 13), none, 0, .see (.un .neg (.t 12))⟩,
    ⟨(some 3), none, 0, .see (.mov (.t 13))⟩])
    (.reg [⟨(some 4), none, 0, .see (.mov (.c (.r (.v (.string ⟨#[45]⟩)))))⟩]))
    .skip))
  (.seq (.reg [⟨(some 5), none, 0, .see (.mov (.c (.r (.v (.string ⟨#[]⟩)))))⟩])
  (.seq (.block 0 (.loop (.seq (.seq (.reg [⟨(some 14), none, 0, .see (.mov (.t 3))⟩,
    ⟨(some 15), none, 0, .see (.bin .gtr (.t 14) (.c (.r (.v (.int .u64 9)))))⟩])
  (.cond (.t 15)
    .skip
    (.exit 0)))
  (.block 1 (.seq (.reg [⟨(some 16), none, 0, .see (.mov (.t 3))⟩,
    ⟨(some 17), none, 0, .see (.bin .rem (.t 16) (.c (.r (.v (.int .u64 10)))))⟩,
    ⟨(some 18), none, 0, .see (.conv .i64 (.t 17))⟩,
    ⟨(some 6), none, 0, .see (.mov (.t 18))⟩])
  (.seq (.reg [⟨(some 19), none, 0, .see (.mov (.t 6))⟩,
    ⟨(some 20), none, 0, .see (.mov (.t 6))⟩,
    ⟨(some 21), none, 0, .see (.bin .add (.t 20) (.c (.r (.v (.int .i64 1)))))⟩,
    ⟨(some 22), none, 0, .see (.sls (.c (.r (.v (.string ⟨#[48, 49, 50, 51, 52, 53, 54, 55, 56, 57]⟩)))) (some (.t 19)) (some (.t 21)))⟩,
    ⟨(some 23), none, 0, .see (.mov (.t 5))⟩,
    ⟨(some 24), none, 0, .see (.bin .add (.t 22) (.t 23))⟩,
    ⟨(some 5), none, 0, .see (.mov (.t 24))⟩])
  (.reg [⟨(some 25), none, 0, .see (.mov (.t 3))⟩,
    ⟨(some 26), none, 0, .see (.bin .quo (.t 25) (.c (.r (.v (.int .u64 10)))))⟩,
    ⟨(some 3), none, 0, .see (.mov (.t 26))⟩])))))))
  (.seq (.reg [⟨(some 27), none, 0, .see (.mov (.t 3))⟩,
    ⟨(some 28), none, 0, .see (.conv .i64 (.t 27))⟩,
    ⟨(some 7), none, 0, .see (.mov (.t 28))⟩])
  (.seq (.reg [⟨(some 29), none, 0, .see (.mov (.t 4))⟩,
    ⟨(some 30), none, 0, .see (.mov (.t 7))⟩,
    ⟨(some 31), none, 0, .see (.mov (.t 7))⟩,
    ⟨(some 32), none, 0, .see (.bin .add (.t 31) (.c (.r (.v (.int .i64 1)))))⟩,
    ⟨(some 33), none, 0, .see (.sls (.c (.r (.v (.string ⟨#[48, 49, 50, 51, 52, 53, 54, 55, 56, 57]⟩)))) (some (.t 30)) (some (.t 32)))⟩,
    ⟨(some 34), none, 0, .see (.bin .add (.t 29) (.t 33))⟩,
    ⟨(some 35), none, 0, .see (.mov (.t 5))⟩,
    ⟨(some 36), none, 0, .see (.bin .add (.t 34) (.t 35))⟩,
    ⟨(some 2), none, 0, .see (.mov (.t 36))⟩])
  .ret))))))))
noncomputable abbrev apiaryref1_Text_code : Code := (Go.Proofs.Tryd.f29.body).getD .skip
theorem apiaryref1_Text_chk : chkC Go.Proofs.Tryd.prog 37 apiaryref1_Text_code apiaryref1_Text_pc = true := by kernel_rfl
theorem apiaryref1_Text_triple {args : List AV} {po ro : List Ob} {res : AV} (hal : args.length = 1) (hpo : po.length ≤ 1000)
    (h : run Go.Proofs.Tryd.prog po.length (RetP po.length [(2, false, none)] fun v os => v = res ∧ os = ro) [.c apiaryref1_Text_pc] ⟨argE 0 args, ob0 po⟩) : Triple Go.Proofs.Tryd.prog 29 args po res ro :=
  triple_of_W (fn := Go.Proofs.Tryd.f29) (c := apiaryref1_Text_code) (pc := apiaryref1_Text_pc) (rs := [(2, false, none)]) Go.Proofs.Tryd.func29 rfl (by decide) (by have := apiaryref1_Text_chk; exact this) (by rw [hal]; decide) rfl (by kernel_rfl) (by kernel_rfl) (by decide) hpo (W_of_run h)

noncomputable def apiaryref1_Parse_pc : PC :=
  (.seq (.reg [⟨(some 2), none, 0, .see (.mov (.c (.r (.v (.int .i64 0)))))⟩,
    ⟨(some 3), none, 0, .see (.mov (.c (.r (.v (.bool false)))))⟩])
  (.seq (.reg [⟨(some 8), none, 0, .see (.mov (.t 0))⟩,
    ⟨(some 9), none, 0, .see (.len true (.t 8))⟩,
    ⟨(some 10), none, 0, .see (.bin .gtr (.t 9) (.c (.r (.v (.int .i64 0)))))⟩,
    ⟨(some 11), none, 0, .see (.mov (.t 10))⟩,
    ⟨(some 12), (some (11, true)), 0, .see (.mov (.t 0))⟩,
    ⟨(some 13), (some (11, true)), 0, .see (.ixs (.t 12) (.c (.r (.v (.int .i64 0)))))⟩,
    ⟨(some 14), (some (11, true)), 0, .see (.bin .eql (.t 13) (.c (.r (.v (.int .u8 45)))))⟩,
    ⟨(some 15), none, 0, .see (.pick (.t 11) (.t 14) (.c (.r (.v (.bool false)))))⟩,
    ⟨(some 4), none, 0, .see (.mov (.t 15))⟩])
  (.seq (.reg [⟨(some 16), none, 0, .see (.mov (.t 0))⟩,
    ⟨(some 5), none, 0, .see (.mov (.t 16))⟩])
  (.seq (.seq (.reg [⟨(some 17), none, 0, .see (.mov (.t 4))⟩])
  (.cond (.t 17)
    (.reg [⟨(some 18), none, 0, .see (.mov (.t 0))⟩,
    ⟨(some 19), none, 0, .see (.sls (.t 18) (some (.c (.r (.v (.int .i64 1))))) none)⟩,
    ⟨(some 5), none, 0, .see (.mov (.t 19))⟩])
    .skip))
  (.seq (.seq (.reg [⟨(some 20), none, 0, .see (.mov (.t 5))⟩,
    ⟨(some 21), none, 0, .see (.bin .eql (.t 20) (.c (.r (.v (.string ⟨#[]⟩)))))⟩,
    ⟨(some 22), none, 0, .see (.mov (.t 21))⟩,
    ⟨(some 23), (some (22, false)), 0, .see (.mov (.t 5))⟩,
    ⟨(some 24), (some (22, false)), 0, .see (.len true (.t 23))⟩,
    ⟨(some 25), (some (22, false)), 0, .see (.bin .gtr (.t 24) (.c (.r (.v (.int .i64 19)))))⟩,
    ⟨(some 26), none, 0, .see (.pick (.t 22) (.c (.r (.v (.bool true)))) (.t 25))⟩,
    ⟨(some 27), none, 0, .see (.mov (.t 26))⟩,
    ⟨(some 28), (some (27, false)), 0, .see (.mov (.t 5))⟩,
    ⟨(some 29), (some (27, false)), 0, .see (.ixs (.t 28) (.c (.r (.v (.int .i64 0)))))⟩,
    ⟨(some 30), (some (27, false)), 0, .see (.bin .eql (.t 29) (.c (.r (.v (.int .u8 48)))))⟩,
    ⟨(some 31), (some (27, false)), 0, .see (.mov (.t 30))⟩,
    ⟨(some 32), (some (31, true)), 0, .see (.mov (.t 5))⟩,
    ⟨(some 33), (some (31, true)), 0, .see (.len true (.t 32))⟩,
    ⟨(some 34), (some (31, true)), 0, .see (.bin .gtr (.t 33) (.c (.r (.v (.int .i64 1)))))⟩,
    ⟨(some 35), (some (31, true)), 0, .see (.mov (.t 34))⟩,
    ⟨(some 36), (some (35, false)), 0, .see (.mov (.t 4))⟩,
    ⟨(some 37), (some (31, true)), 0, .see (.pick (.t 35) (.c (.r (.v (.bool true)))) (.t 36))⟩,
    ⟨(some 38), (some (27, false)), 0, .see (.pick (.t 31) (.t 37) (.c (.r (.v (.bool false)))))⟩,
    ⟨(some 39), none, 0, .see (.pick (.t 27) (.c (.r (.v (.bool true)))) (.t 38))⟩])
  (.cond (.t 39)
    (.seq (.reg [⟨(some 2), none, 0, .see (.mov (.c (.r (.v (.int .i64 0)))))⟩,
    ⟨(some 3), none, 0, .see (.mov (.c (.r (.v (.bool false)))))⟩])
    .ret)
    .skip))
  (.seq (.reg [⟨(some 6), none, 0, .see (.mov (.c (.r (.v (.int .u64 0)))))⟩])
  (.seq (.seq (.reg [⟨(some 7), none, 0, .see (.mov (.c (.r (.v (.int .i64 0)))))⟩])
  (.block 0 (.loop (.seq (.seq (.reg [⟨(some 40), none, 0, .see (.mov (.t 7))⟩,
    ⟨(some 41), none, 0, .see (.mov (.t 5))⟩,
    ⟨(some 42), none, 0, .see (.len true (.t 41))⟩,
    ⟨(some 43), none, 0, .see (.bin .lss (.t 40) (.t 42))⟩])
  (.cond (.t 43)
    .skip
    (.exit 0)))
  (.seq (.block 1 (.seq (.seq (.reg [⟨(some 46), none, 0, .see (.mov (.t 5))⟩,
    ⟨(some 47), none, 0, .see (.mov (.t 7))⟩,
    ⟨(some 48), none, 0, .see (.ixs (.t 46) (.t 47))⟩,
    ⟨(some 49), none, 0, .see (.bin .lss (.t 48) (.c (.r (.v (.int .u8 48)))))⟩,
    ⟨(some 50), none, 0, .see (.mov (.t 49))⟩,
    ⟨(some 51), (some (50, false)), 0, .see (.mov (.t 5))⟩,
    ⟨(some 52), (some (50, false)), 0, .see (.mov (.t 7))⟩,
    ⟨(some 53), (some (50, false)), 0, .see (.ixs (.t 51) (.t 52))⟩,
    ⟨(some 54), (some (50, false)), 0, .see (.bin .gtr (.t 53) (.c (.r (.v (.int .u8 57)))))⟩,
    ⟨(some 55), none, 0, .see (.pick (.t 50) (.c (.r (.v (.bool true)))) (.t 54))⟩])
  (.cond (.t 55)
    (.seq (.reg [⟨(some 2), none, 0, .see (.mov (.c (.r (.v (.int .i64 0)))))⟩,
    ⟨(some 3), none, 0, .see (.mov (.c (.r (.v (.bool false)))))⟩])
    .ret)
    .skip))
  (.reg [⟨(some 56), none, 0, .see (.mov (.t 6))⟩,
    ⟨(some 57), none, 0, .see (.bin .mul (.c (.r (.v (.int .u64 10)))) (.t 56))⟩,
    ⟨(some 58), none, 0, .see (.mov (.t 5))⟩,
    ⟨(some 59), none, 0, .see (.mov (.t 7))⟩,
    ⟨(some 60), none, 0, .see (.ixs (.t 58) (.t 59))⟩,
    ⟨(some 61), none, 0, .see (.bin .sub (.t 60) (.c (.r (.v (.int .u8 48)))))⟩,
    ⟨(some 62), none, 0, .see (.conv .u64 (.t 61))⟩,
    ⟨(some 63), none, 0, .see (.bin .add (.t 57) (.t 62))⟩,
    ⟨(some 6), none, 0, .see (.mov (.t 63))⟩])))
  (.reg [⟨(some 44), none, 0, .see (.mov (.t 7))⟩,
    ⟨(some 45), none, 0, .see (.bin .add (.t 44) (.c (.r (.v (.int .i64 1)))))⟩,
    ⟨(some 7), none, 0, .see (.mov (.t 45))⟩]))))))
  (.seq (.seq (.reg [⟨(some 64), none, 0, .see (.mov (.t 4))⟩,
    ⟨(some 65), none, 0, .see (.mov (.t 64))⟩,
    ⟨(some 66), (some (65, true)), 0, .see (.mov (.t 6))⟩,
    ⟨(some 67), (some (65, true)), 0, .see (.bin .leq (.t 66) (.c (.r (.v (.int .u64 9223372036854775808)))))⟩,
    ⟨(some 68), none, 0, .see (.pick (.t 65) (.t 67) (.c (.r (.v (.bool false)))))⟩])
  (.cond (.t 68)
    (.seq (.reg [⟨(some 69), none, 0, .see (.mov (.t 6))⟩,
    ⟨(some 70), none, 0, .see (.un .neg (.t 69))⟩,
    ⟨(some 71), none, 0, .see (.conv .i64 (.t 70))⟩,
    ⟨(some 2), none, 0, .see (.mov (.t 71))⟩,
    ⟨(some 3), none, 0, .see (.mov (.c (.r (.v (.bool true)))))⟩])
    .ret)
    .skip))
  (.seq (.seq (.reg [⟨(some 72), none, 0, .see (.mov (.t 4))⟩,
    ⟨(some 73), none, 0, .see (.mov (.t 72))⟩,
    ⟨(some 74), (some (73, false)), 0, .see (.mov (.t 6))⟩,
    ⟨(some 75), (some (73, false)), 0, .see (.bin .geq (.t 74) (.c (.r (.v (.int .u64 9223372036854775808)))))⟩,
    ⟨(some 76), none, 0, .see (.pick (.t 73) (.c (.r (.v (.bool true)))) (.t 75))⟩])
  (.cond (.t 76)
    (.seq (.reg [⟨(some 2), none, 0, .see (.mov (.c (.r (.v (.int .i64 0)))))⟩,
    ⟨(some 3), none, 0, .see (.mov (.c (.r (.v (.bool false)))))⟩])
    .ret)
    .skip))
  (.seq (.reg [⟨(some 77), none, 0, .see (.mov (.t 6))⟩,
    ⟨(some 78), none, 0, .see (.conv .i64 (.t 77))⟩,
    ⟨(some 2), none, 0, .see (.mov (.t 78))⟩,
    ⟨(some 3), none, 0, .see (.mov (.c (.r (.v (.bool true)))))⟩])
  .ret))))))))))
noncomputable abbrev apiaryref1_Parse_code : Code := (Go.Proofs.Tryd.f27.body).getD .skip
theorem apiaryref1_Parse_chk : chkC Go.Proofs.Tryd.prog 79 apiaryref1_Parse_code apiaryref1_Parse_pc = true := by kernel_rfl
theorem apiaryref1_Parse_triple {args : List AV} {po ro : List Ob} {res : AV} (hal : args.length = 1) (hpo : po.length ≤ 1000)
    (h : run Go.Proofs.Tryd.prog po.length (RetP po.length [(2, false, none), (3, false, none)] fun v os => v = res ∧ os = ro) [.c apiaryref1_Parse_pc] ⟨argE 0 args, ob0 po⟩) : Triple Go.Proofs.Tryd.prog 27 args po res ro :=
  triple_of_W (fn := Go.Proofs.Tryd.f27) (c := apiaryref1_Parse_code) (pc := apiaryref1_Parse_pc) (rs := [(2, false, none), (3, false, none)]) Go.Proofs.Tryd.func27 rfl (by decide) (by have := apiaryref1_Parse_chk; exact this) (by rw [hal]; decide) rfl (by kernel_rfl) (by kernel_rfl) (by decide) hpo (W_of_run h)

/-- A text of these bytes. -/
def bstr (l : List UInt8) : ByteArray := ⟨l.toArray⟩
theorem bstr_size (l : List UInt8) : (bstr l).size = l.length := by simp [bstr, ByteArray.size]
theorem bstr_app (l r : List UInt8) : bstr l ++ bstr r = bstr (l ++ r) := by
  apply ByteArray.ext
  simp [bstr]
theorem bstr_sub (l : List UInt8) (a b : Nat) (hb : b ≤ l.length) : (bstr l).extract a b = bstr ((l.take b).drop a) := by
  apply ByteArray.ext
  simp [bstr, List.extract_eq_take_drop, List.drop_take]
theorem bstr_of (s : ByteArray) : s = bstr s.data.toList := by
  apply ByteArray.ext
  simp [bstr]
theorem bstr_inj {l r : List UInt8} (h : bstr l = bstr r) : l = r := by
  have := congrArg ByteArray.data h
  simpa [bstr] using this
theorem bstr_list (l : List UInt8) : (bstr l).toList = l := by rw [ByteArray.toList_eq]; simp [bstr]
theorem dig_at : ∀ k : Fin 10, (bstr [48, 49, 50, 51, 52, 53, 54, 55, 56, 57]).extract k.val (k.val + 1) = bstr [UInt8.ofNat (48 + k.val)] := by decide +kernel
theorem txt_eq (n : Int) : txt n = bstr (Lib.itoa n) := rfl
set_option maxRecDepth 100000 in
theorem rtext_t (n : Int) (hn : in64 n) : Triple Go.Proofs.Tryd.prog 29 [int .i64 n] [] (strv (txt n)) [] := by
  refine apiaryref1_Text_triple rfl (by decide) ?_
  simp only [apiaryref1_Text_pc, List.length_nil, push_cast, ↓reduceIte, reduceCtorEq, Nat.reduceBEq, Nat.reduceEqDiff, Nat.reduceAdd, Nat.reduceSub, Nat.reduceLT, Nat.reduceLeDiff, Nat.reduceMul]
  refine cnd_join (fun e ob => e 3 = int .u64 n.natAbs ∧ e 4 = strv (bstr (if n < 0 then [45] else [])) ∧ ob = fun _ => none) ?_ (fun h => ?_) (fun h => ?_)
  · rintro e ob ⟨h3, h4, rfl⟩
    simp only [h3, h4, push_cast, ↓reduceIte, reduceCtorEq, Nat.reduceBEq, Nat.reduceEqDiff, Nat.reduceAdd, Nat.reduceSub, Nat.reduceLT, Nat.reduceLeDiff, Nat.reduceMul]
    have hu : n.natAbs ≤ 9223372036854775808 := by unfold in64 at hn; omega
    refine run_loop [(3, false), (4, false), (5, false)] (fun vs pos los => ∃ (U : Int) (r : List UInt8), 0 ≤ U ∧ U ≤ 9223372036854775808 ∧ Lib.decDigits U.toNat ++ r = Lib.decDigits n.natAbs ∧ vs = [int .u64 U, strv (bstr (if n < 0 then [45] else [])), strv (bstr r)] ∧ pos = [] ∧ los = [])
      (fun vs _ _ => match vs with | .r (.v (.int _ j)) :: _ => j.toNat | _ => 0) rfl ?_ ?_
    · simp only [h3, h4, push_cast, ↓reduceIte, reduceCtorEq, Nat.reduceBEq, Nat.reduceEqDiff, Nat.reduceAdd, Nat.reduceSub, Nat.reduceLT, Nat.reduceLeDiff, Nat.reduceMul]
      exact ⟨n.natAbs, [], by omega, by omega, by simp, rfl⟩
    · rintro vs pos los ⟨U, r, U0, U1, hr, rfl, rfl, rfl⟩
      have hrl2 : r.length ≤ 19 := by
        have := congrArg List.length hr
        rw [List.length_append] at this
        have := dec_len (u := n.natAbs) (k := 19) (by omega) (by decide)
        omega
      have dig : ∀ D : Int, 0 ≤ D → D < 10 → ({ data := #[48, 49, 50, 51, 52, 53, 54, 55, 56, 57] } : ByteArray).extract D.toNat (D + 1).toNat = bstr [UInt8.ofNat (48 + D.toNat)] := fun D h0 h1 => by
        have := dig_at ⟨D.toNat, by omega⟩
        rw [show (D + 1).toNat = D.toNat + 1 by omega]
        exact this
      have hsg : (bstr (if n < 0 then [45] else [])).size ≤ 1 := by rw [bstr_size]; split <;> simp
      have sz : ({ data := #[48, 49, 50, 51, 52, 53, 54, 55, 56, 57] } : ByteArray).size = 10 := rfl
      simp only [push_cast, ↓reduceIte, reduceCtorEq, Nat.reduceBEq, Nat.reduceEqDiff, Nat.reduceAdd, Nat.reduceSub, Nat.reduceLT, Nat.reduceLeDiff, Nat.reduceMul]
      refine cnd_mk (fun h => ?_) (fun h => ?_)
      · have h9 : 9 < U := by simpa using h
        obtain ⟨D, hD, D0, D1⟩ : ∃ D, U % 10 = D ∧ 0 ≤ D ∧ D < 10 := ⟨_, rfl, by omega, by omega⟩
        have e1 : U.tmod 10 = D := by rw [Int.tmod_eq_emod_of_nonneg (by omega), hD]
        have e2 : IntKind.i64.wrap D = D := wrap_id (by omega)
        have e3 : IntKind.i64.wrap (D + 1) = D + 1 := wrap_id (by omega)
        have e4 : IntKind.u64.wrap (U.tdiv 10) = U / 10 := by
          rw [Int.tdiv_eq_ediv_of_nonneg (by omega), IntKind.wrap_u64]; omega
        simp only [e1, e2, e3, e4, dig D D0 D1, bstr_app, bstr_size, sz, push_cast, ↓reduceIte, reduceCtorEq, Nat.reduceBEq, Nat.reduceEqDiff, Nat.reduceAdd, Nat.reduceSub, Nat.reduceLT, Nat.reduceLeDiff, Nat.reduceMul]
        refine ⟨by omega, by omega, by omega, by omega, ⟨U / 10, _, by omega, by omega, ?_, rfl⟩, by omega⟩
        rw [← hr, Lib.decDigits.eq_1 U.toNat, dif_neg (by omega), show U.toNat / 10 = (U / 10).toNat by omega, show U.toNat % 10 = D.toNat by omega, List.append_assoc]
        rfl
      · have h9 : U < 10 := by have : ¬ (U > 9) := by simpa using h
                               omega
        have e2 : IntKind.i64.wrap U = U := wrap_id (by omega)
        have e3 : IntKind.i64.wrap (U + 1) = U + 1 := wrap_id (by omega)
        simp only [e2, e3, dig U U0 h9, sz, push_cast, ↓reduceIte, reduceCtorEq, Nat.reduceBEq, Nat.reduceEqDiff, Nat.reduceAdd, Nat.reduceSub, Nat.reduceLT, Nat.reduceLeDiff, Nat.reduceMul]
        have hd : Lib.decDigits n.natAbs = UInt8.ofNat (48 + U.toNat) :: r := by rw [← hr, Lib.decDigits_one (by omega)]; rfl
        refine ⟨by omega, by rw [bstr_size [_]]; simp; omega, ?_, ?_⟩
        · rw [bstr_app, bstr_size, bstr_size]
          rw [bstr_size] at hsg
          simp
          omega
        · rw [bstr_app, bstr_app, txt_eq, List.append_assoc]
          refine congrArg (fun l => strv (bstr l)) ?_
          unfold Lib.itoa
          by_cases hn0 : n < 0
          · rw [if_pos hn0, if_pos hn0, hd]; rfl
          · rw [if_neg hn0, if_neg hn0, show n.toNat = n.natAbs by omega, hd]; rfl
  · simp only [push_cast, ↓reduceIte, reduceCtorEq, Nat.reduceBEq, Nat.reduceEqDiff, Nat.reduceAdd, Nat.reduceSub, Nat.reduceLT, Nat.reduceLeDiff, Nat.reduceMul]
    have h : n < 0 := by simpa using h
    refine ⟨?_, ?_⟩
    · rw [IntKind.wrap_u64, IntKind.wrap_u64]; unfold in64 at hn; congr 3; omega
    · rw [if_pos h]; rfl
  · simp only [push_cast, ↓reduceIte, reduceCtorEq, Nat.reduceBEq, Nat.reduceEqDiff, Nat.reduceAdd, Nat.reduceSub, Nat.reduceLT, Nat.reduceLeDiff, Nat.reduceMul]
    have h : ¬ n < 0 := by simpa using h
    refine ⟨?_, ?_⟩
    · rw [IntKind.wrap_u64]; unfold in64 at hn; congr 3; omega
    · rw [if_neg h]; rfl
end Go.Ev
