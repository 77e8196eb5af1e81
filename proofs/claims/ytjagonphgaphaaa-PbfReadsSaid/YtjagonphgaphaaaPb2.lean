import Derived.Test.YtjagonphgaphaaaPb1
namespace Go.Ev
open Go Go.RowKit
set_option linter.unnecessarySimpa false
set_option linter.unusedSimpArgs false
set_option linter.unusedVariables false
set_option maxRecDepth 100000 in
theorem wvarN_t (n : Int) (n0 : 0 ≤ n) (hn : n < 18446744073709551616) :
    Triple Go.Proofs.Try.prog 31 [.ptr 1000000 0 0, int .u64 n] [.box [.nils 1 (.v (.int .u8 0))]] (.tup []) [.box [.own 1000001 0 0 (varL n.toNat).length], rowB (varL n.toNat)] := by
  refine pbf_Writer_Var_triple rfl (by simp) ?_
  simp only [pbf_Writer_Var_pc, List.length_nil, push_cast, ↓reduceIte, reduceCtorEq, Nat.reduceBEq, Nat.reduceEqDiff, Nat.reduceAdd, Nat.reduceSub, Nat.reduceLT, Nat.reduceLeDiff, Nat.reduceMul]
  have hmax := maxLen_big
  refine run_loop [(0, false), (1, false)] (fun vs pos los => ∃ (U : Int) (f : Nat) (r : List UInt8), 0 ≤ U ∧ U < 18446744073709551616 ∧ 1 ≤ f ∧ f ≤ 10 ∧ U.toNat < 128 ^ f ∧ r ++ varF f U.toNat = varL n.toNat ∧
    vs = [.ptr 1000000 0 0, int .u64 U] ∧ ((r = [] ∧ pos = [.box [.nils 1 (.v (.int .u8 0))]] ∧ los = []) ∨ (pos = [.box [.own 2000000 0 0 r.length]] ∧ los = [rowB r])))
    (fun vs _ _ => match vs with | [_, .r (.v (.int _ j))] => j.toNat | _ => 0) rfl ?_ ?_
  · simp only [push_cast, ↓reduceIte, reduceCtorEq, Nat.reduceBEq, Nat.reduceEqDiff, Nat.reduceAdd, Nat.reduceSub, Nat.reduceLT, Nat.reduceLeDiff, Nat.reduceMul]
    exact ⟨n, 10, [], n0, hn, by decide, by decide, by omega, rfl, rfl, .inl rfl⟩
  · rintro vs pos los ⟨U, f, r, U0, U1, f1, f10, Uf, hr, rfl, hc⟩
    have hrl : r.length ≤ 10 := by
      have h1 := congrArg List.length hr
      have h2 := varL_len n.toNat
      rw [List.length_append] at h1
      omega
    have hs : U.fdiv (2 ^ min (Int.toNat 7) IntKind.u64.bits) = U / 128 := shr_u U 7 (by decide)
    have hU : (U / 128).toNat = U.toNat / 128 := by omega
    rcases hc with ⟨rfl, rfl, rfl⟩ | ⟨rfl, rfl⟩
    · simp only [push_cast, ↓reduceIte, reduceCtorEq, Nat.reduceBEq, Nat.reduceEqDiff, Nat.reduceAdd, Nat.reduceSub, Nat.reduceLT, Nat.reduceLeDiff, Nat.reduceMul]
      refine cnd_mk (fun h => ?_) (fun h => ?_)
      · have h1 : 127 < U := by simpa using h
        obtain ⟨f', rfl, hf', hUf, hv⟩ := varF_big (f := f) (n := U.toNat) (by omega) Uf
        simp only [hs, push_cast, ↓reduceIte, reduceCtorEq, Nat.reduceBEq, Nat.reduceEqDiff, Nat.reduceAdd, Nat.reduceSub, Nat.reduceLT, Nat.reduceLeDiff, Nat.reduceMul]
        rw [more_byte U U0 U1]
        refine ⟨by simp, by omega, by omega, ⟨U / 128, f', [UInt8.ofNat (U.toNat % 128 + 128)], by omega, by omega, hf', by omega, by rw [hU]; exact hUf, ?_, rfl, .inr ⟨rfl, rfl⟩⟩, by omega⟩
        rw [← hr, hv, hU]; rfl
      · have h1 : U ≤ 127 := by have : ¬ (U > 127) := by simpa using h
                                omega
        have hv := varF_small (f := f) (n := U.toNat) (by omega) f1
        rw [hv] at hr
        simp only [← hr, push_cast, ↓reduceIte, reduceCtorEq, Nat.reduceBEq, Nat.reduceEqDiff, Nat.reduceAdd, Nat.reduceSub, Nat.reduceLT, Nat.reduceLeDiff, Nat.reduceMul]
        rw [last_byte U U0 h1]
        refine ⟨by simp, by omega, ?_⟩
        simp
    · simp only [push_cast, ↓reduceIte, reduceCtorEq, Nat.reduceBEq, Nat.reduceEqDiff, Nat.reduceAdd, Nat.reduceSub, Nat.reduceLT, Nat.reduceLeDiff, Nat.reduceMul]
      refine cnd_mk (fun h => ?_) (fun h => ?_)
      · have h1 : 127 < U := by simpa using h
        obtain ⟨f', rfl, hf', hUf, hv⟩ := varF_big (f := f) (n := U.toNat) (by omega) Uf
        simp only [hs, push_cast, ↓reduceIte, reduceCtorEq, Nat.reduceBEq, Nat.reduceEqDiff, Nat.reduceAdd, Nat.reduceSub, Nat.reduceLT, Nat.reduceLeDiff, Nat.reduceMul]
        rw [more_byte U U0 U1]
        refine ⟨by simp, by omega, by omega, ⟨U / 128, f', r ++ [UInt8.ofNat (U.toNat % 128 + 128)], by omega, by omega, hf', by omega, by rw [hU]; exact hUf, ?_, rfl, .inr ⟨by simp, by simp⟩⟩, by omega⟩
        rw [← hr, hv, hU, List.append_assoc]; rfl
      · have h1 : U ≤ 127 := by have : ¬ (U > 127) := by simpa using h
                                omega
        have hv := varF_small (f := f) (n := U.toNat) (by omega) f1
        rw [hv] at hr
        simp only [← hr, push_cast, ↓reduceIte, reduceCtorEq, Nat.reduceBEq, Nat.reduceEqDiff, Nat.reduceAdd, Nat.reduceSub, Nat.reduceLT, Nat.reduceLeDiff, Nat.reduceMul]
        rw [last_byte U U0 h1]
        refine ⟨by simp, by omega, ?_⟩
        simp
set_option maxRecDepth 100000 in
theorem var_t (l : List UInt8) (n : Int) (n0 : 0 ≤ n) (hn : n < 18446744073709551616) (hl : l.length ≤ 140000000000000) :
    Triple Go.Proofs.Try.prog 19 [sb l, int .u64 n] [] (.own 1000000 0 0 (l ++ varL n.toNat).length) [rowB (l ++ varL n.toNat)] := by
  refine pbf_Var_triple rfl (by decide) ?_
  simp only [pbf_Var_pc, List.length_nil, push_cast, ↓reduceIte, reduceCtorEq, Nat.reduceBEq, Nat.reduceEqDiff, Nat.reduceAdd, Nat.reduceSub, Nat.reduceLT, Nat.reduceLeDiff, Nat.reduceMul]
  refine call_mk (own_t l (by omega)) rfl trivial ?_
  simp only [push_cast, ↓reduceIte, reduceCtorEq, Nat.reduceBEq, Nat.reduceEqDiff, Nat.reduceAdd, Nat.reduceSub, Nat.reduceLT, Nat.reduceLeDiff, Nat.reduceMul]
  refine call_mk (wvar_t l n n0 hn hl) rfl ⟨rfl, trivial⟩ ?_
  simp only [push_cast, ↓reduceIte, reduceCtorEq, Nat.reduceBEq, Nat.reduceEqDiff, Nat.reduceAdd, Nat.reduceSub, Nat.reduceLT, Nat.reduceLeDiff, Nat.reduceMul]
theorem zigV (n : Int) (hn : in64 n) : IntKind.u64.wrap ((BitVec.ofInt IntKind.u64.bits (IntKind.u64.wrap (IntKind.i64.wrap (n * 2))) ^^^ BitVec.ofInt IntKind.u64.bits (IntKind.u64.wrap (n / 9223372036854775808))).toNat) = zig n := by
  have := zig_bits n hn.1 hn.2
  rw [show wrap64 (n * 2) = IntKind.i64.wrap (n * 2) by rw [IntKind.wrap_i64]; unfold wrap64; omega] at this
  exact this
set_option maxRecDepth 100000 in
theorem zig_t (n : Int) (hn : in64 n) : Triple Go.Proofs.Try.prog 9 [int .i64 n] [] (int .u64 (zig n)) [] := by
  refine pbf_Zig_triple rfl (by decide) ?_
  simp only [pbf_Zig_pc, List.length_nil, push_cast, ↓reduceIte, reduceCtorEq, Nat.reduceBEq, Nat.reduceEqDiff, Nat.reduceAdd, Nat.reduceSub, Nat.reduceLT, Nat.reduceLeDiff, Nat.reduceMul]
  have e1 : n.fdiv (2 ^ min (Int.toNat 63) IntKind.i64.bits) = n / 9223372036854775808 := shr_i n 63 (by decide)
  have e2 : n * 2 ^ min (Int.toNat 1) IntKind.i64.bits = n * 2 := rfl
  refine ⟨by decide, by decide, ?_⟩
  rw [e1, e2, zigV n hn]
/-- A field of a number. -/
def numL (f n : Int) : List UInt8 := if okB f then varL (f * 8).toNat ++ varL n.toNat else []
def zag (n : Int) : Int := if n % 2 = 0 then n / 2 else -(n / 2) - 1
theorem zagV (n : Int) (h0 : 0 ≤ n) (h1 : n < 18446744073709551616) : IntKind.i64.wrap ((BitVec.ofInt IntKind.i64.bits (IntKind.i64.wrap (n / 2)) ^^^ BitVec.ofInt IntKind.i64.bits (IntKind.i64.wrap (0 - IntKind.i64.wrap (n % 2)))).toNat) = zag n := by
  rw [show IntKind.i64.bits = 64 from rfl, wrap_id (x := n / 2) (by omega), wrap_id (x := n % 2) (by omega), wrap_id (x := 0 - n % 2) (by omega)]
  unfold zag
  split
  · rename_i h
    rw [h, show (0 : Int) - 0 = 0 by omega, show BitVec.ofInt 64 0 = 0#64 from rfl, BitVec.xor_zero, BitVec.toNat_ofInt, IntKind.wrap_i64]
    omega
  · rename_i h
    rw [show n % 2 = 1 by omega, show BitVec.ofInt 64 (0 - 1) = BitVec.ofInt 64 18446744073709551615 by decide, xor_ones, BitVec.toNat_ofInt, IntKind.wrap_i64]
    omega
set_option maxRecDepth 100000 in
theorem zag_t (n : Int) (h0 : 0 ≤ n) (h1 : n < 18446744073709551616) : Triple Go.Proofs.Try.prog 25 [int .u64 n] [] (int .i64 (zag n)) [] := by
  refine pbf_Zag_triple rfl (by decide) ?_
  simp only [pbf_Zag_pc, List.length_nil, push_cast, ↓reduceIte, reduceCtorEq, Nat.reduceBEq, Nat.reduceEqDiff, Nat.reduceAdd, Nat.reduceSub, Nat.reduceLT, Nat.reduceLeDiff, Nat.reduceMul]
  have e1 : n.fdiv (2 ^ min (Int.toNat 1) IntKind.u64.bits) = n / 2 := shr_u n 1 (by decide)
  have e2 := and_mask_u n 1 1 (by decide) (by decide) h0 h1
  rw [show (2 : Int) ^ 1 = 2 from rfl] at e2
  refine ⟨by decide, ?_⟩
  rw [e1, e2, zagV n h0 h1]
theorem zag_zig (n : Int) : zag (zig n) = n := by unfold zag zig; split <;> split <;> omega
theorem zig_zag (n : Int) (h0 : 0 ≤ n) : zig (zag n) = n := by unfold zag zig; split <;> split <;> omega
theorem zag_in (n : Int) (h0 : 0 ≤ n) (h1 : n < 18446744073709551616) : in64 (zag n) := by unfold zag in64; split <;> omega
set_option maxRecDepth 100000 in
theorem num_t (l : List UInt8) (f n : Int) (hf : in64 f) (n0 : 0 ≤ n) (hn : n < 18446744073709551616) (hl : l.length ≤ 130000000000000) :
    Triple Go.Proofs.Try.prog 20 [sb l, int .i64 f, int .u64 n] [] (.own 1000000 0 0 (l ++ numL f n).length) [rowB (l ++ numL f n)] := by
  refine pbf_Num_triple rfl (by decide) ?_
  simp only [pbf_Num_pc, List.length_nil, push_cast, ↓reduceIte, reduceCtorEq, Nat.reduceBEq, Nat.reduceEqDiff, Nat.reduceAdd, Nat.reduceSub, Nat.reduceLT, Nat.reduceLeDiff, Nat.reduceMul]
  refine call_mk (own_t l (by omega)) rfl trivial ?_
  simp only [push_cast, ↓reduceIte, reduceCtorEq, Nat.reduceBEq, Nat.reduceEqDiff, Nat.reduceAdd, Nat.reduceSub, Nat.reduceLT, Nat.reduceLeDiff, Nat.reduceMul]
  refine call_mk (ok_t f) rfl trivial ?_
  cases hk : okB f with
  | false =>
    simp only [numL, hk, push_cast, ↓reduceIte, reduceCtorEq, Nat.reduceBEq, Nat.reduceEqDiff, Nat.reduceAdd, Nat.reduceSub, Nat.reduceLT, Nat.reduceLeDiff, Nat.reduceMul]
    rw [Nat.add_zero]
  | true =>
    have h1 : 1 ≤ f ∧ f ≤ 1000 := by simpa [okB] using hk
    have e1 : IntKind.u64.wrap f = f := by rw [IntKind.wrap_u64]; omega
    have e2 : IntKind.u64.wrap (f * 8) = f * 8 := by rw [IntKind.wrap_u64]; omega
    simp only [numL, hk, e1, e2, push_cast, ↓reduceIte, reduceCtorEq, Nat.reduceBEq, Nat.reduceEqDiff, Nat.reduceAdd, Nat.reduceSub, Nat.reduceLT, Nat.reduceLeDiff, Nat.reduceMul]
    refine ⟨by kernel_rfl, ?_⟩
    refine call_mk (wvar_t l (f * 8) (by omega) (by omega) (by omega)) rfl ⟨rfl, trivial⟩ ?_
    have h2 := varL_len (f * 8).toNat
    have h3 : (l ++ varL (f * 8).toNat).length ≤ 140000000000000 := by rw [List.length_append]; omega
    generalize hm : l ++ varL (f * 8).toNat = m at h3
    simp only [hk, e1, e2, push_cast, ↓reduceIte, reduceCtorEq, Nat.reduceBEq, Nat.reduceEqDiff, Nat.reduceAdd, Nat.reduceSub, Nat.reduceLT, Nat.reduceLeDiff, Nat.reduceMul]
    refine ⟨by kernel_rfl, ?_⟩
    refine call_mk (wvar_t m n n0 hn (by omega)) rfl ⟨rfl, trivial⟩ ?_
    rw [← hm, List.append_assoc]
    simp only [push_cast, ↓reduceIte, reduceCtorEq, Nat.reduceBEq, Nat.reduceEqDiff, Nat.reduceAdd, Nat.reduceSub, Nat.reduceLT, Nat.reduceLeDiff, Nat.reduceMul]
/-- A field of bytes. -/
def bytesL (f : Int) (x : List UInt8) : List UInt8 := if okB f then varL (f * 8 + 2).toNat ++ (varL x.length ++ x) else []
set_option maxRecDepth 100000 in
theorem bytes_t (l : List UInt8) (f : Int) (x : List UInt8) (hf : in64 f) (hx : x.length ≤ 1000000000000) (hl : l.length ≤ 130000000000000) :
    Triple Go.Proofs.Try.prog 21 [sb l, int .i64 f, sb x] [] (.own 1000000 0 0 (l ++ bytesL f x).length) [rowB (l ++ bytesL f x)] := by
  refine pbf_Bytes_triple rfl (by decide) ?_
  simp only [pbf_Bytes_pc, List.length_nil, push_cast, ↓reduceIte, reduceCtorEq, Nat.reduceBEq, Nat.reduceEqDiff, Nat.reduceAdd, Nat.reduceSub, Nat.reduceLT, Nat.reduceLeDiff, Nat.reduceMul]
  refine call_mk (own_t l (by omega)) rfl trivial ?_
  simp only [push_cast, ↓reduceIte, reduceCtorEq, Nat.reduceBEq, Nat.reduceEqDiff, Nat.reduceAdd, Nat.reduceSub, Nat.reduceLT, Nat.reduceLeDiff, Nat.reduceMul]
  refine call_mk (ok_t f) rfl trivial ?_
  have hmax := maxLen_big
  cases hk : okB f with
  | false =>
    simp only [bytesL, hk, push_cast, ↓reduceIte, reduceCtorEq, Nat.reduceBEq, Nat.reduceEqDiff, Nat.reduceAdd, Nat.reduceSub, Nat.reduceLT, Nat.reduceLeDiff, Nat.reduceMul]
    rw [Nat.add_zero]
  | true =>
    have h1 : 1 ≤ f ∧ f ≤ 1000 := by simpa [okB] using hk
    have e1 : IntKind.u64.wrap f = f := by rw [IntKind.wrap_u64]; omega
    have e2 : IntKind.u64.wrap (f * 8) = f * 8 := by rw [IntKind.wrap_u64]; omega
    have e3 : IntKind.u64.wrap (f * 8 + 2) = f * 8 + 2 := by rw [IntKind.wrap_u64]; omega
    obtain ⟨X, hX, X0, X1⟩ : ∃ X : Int, X = x.length ∧ 0 ≤ X ∧ X ≤ 1000000000000 := ⟨_, rfl, by omega, by omega⟩
    have e4 : IntKind.u64.wrap X = X := by rw [IntKind.wrap_u64]; omega
    have eX : varL x.length = varL X.toNat := by rw [hX]; rfl
    simp only [bytesL, hk, e1, e2, e3, eX, ← hX, push_cast, ↓reduceIte, reduceCtorEq, Nat.reduceBEq, Nat.reduceEqDiff, Nat.reduceAdd, Nat.reduceSub, Nat.reduceLT, Nat.reduceLeDiff, Nat.reduceMul]
    refine ⟨by kernel_rfl, ?_⟩
    refine call_mk (wvar_t l (f * 8 + 2) (by omega) (by omega) (by omega)) rfl ⟨rfl, trivial⟩ ?_
    have h2 := varL_len (f * 8 + 2).toNat
    have h3 : (l ++ varL (f * 8 + 2).toNat).length ≤ 130000000000010 := by rw [List.length_append]; omega
    rw [← List.append_assoc l]
    generalize hm : l ++ varL (f * 8 + 2).toNat = m at h3
    have hm' := congrArg List.length hm
    rw [List.length_append] at hm'
    clear hm
    simp only [hk, e1, e2, e4, ← hX, push_cast, ↓reduceIte, reduceCtorEq, Nat.reduceBEq, Nat.reduceEqDiff, Nat.reduceAdd, Nat.reduceSub, Nat.reduceLT, Nat.reduceLeDiff, Nat.reduceMul]
    refine ⟨by kernel_rfl, ?_⟩
    refine call_mk (wvar_t m X X0 (by omega) (by omega)) rfl ⟨rfl, trivial⟩ ?_
    have h4 := varL_len X.toNat
    have h5 : (m ++ varL X.toNat).length ≤ 130000000000020 := by rw [List.length_append]; omega
    rw [← List.append_assoc m]
    generalize hm2 : m ++ varL X.toNat = m2 at h5
    have hm2' := congrArg List.length hm2
    rw [List.length_append] at hm2'
    clear hm2
    simp only [← hX, push_cast, ↓reduceIte, reduceCtorEq, Nat.reduceBEq, Nat.reduceEqDiff, Nat.reduceAdd, Nat.reduceSub, Nat.reduceLT, Nat.reduceLeDiff, Nat.reduceMul]
    refine ⟨by omega, ?_⟩
    simp
    omega
set_option maxRecDepth 100000 in
theorem pack_t (l : List UInt8) (f : Int) (ns : List Int) (hf : in64 f) (hn : ∀ n ∈ ns, 0 ≤ n ∧ n < 18446744073709551616) (hns : ns.length ≤ 1000000000) (hl : l.length ≤ 130000000000000) :
    Triple Go.Proofs.Try.prog 22 [sb l, int .i64 f, .r (.sl 1 (ns.map fun n => .v (.int .u64 n)))] [] (.own 1000000 0 0 (l ++ bytesL f (ns.flatMap fun n => varL n.toNat)).length) [rowB (l ++ bytesL f (ns.flatMap fun n => varL n.toNat))] := by
  refine pbf_Pack_triple rfl (by decide) ?_
  simp only [pbf_Pack_pc, List.length_nil, push_cast, ↓reduceIte, reduceCtorEq, Nat.reduceBEq, Nat.reduceEqDiff, Nat.reduceAdd, Nat.reduceSub, Nat.reduceLT, Nat.reduceLeDiff, Nat.reduceMul]
  have hmax := maxLen_big
  obtain ⟨N, hN, N0, N1⟩ : ∃ N : Int, N = ns.length ∧ 0 ≤ N ∧ N ≤ 1000000000 := ⟨_, rfl, by omega, by omega⟩
  simp only [← hN]
  have hlen : ∀ i : Nat, ((ns.take i).flatMap fun n => varL n.toNat).length ≤ 10 * i := fun i => by
    induction i with
    | zero => simp
    | succ i ih =>
      rw [List.take_add_one, List.flatMap_append, List.length_append]
      have : ((ns[i]?.toList).flatMap fun n => varL n.toNat).length ≤ 10 := by
        cases ns[i]? with
        | none => simp
        | some n => simpa using varL_len n.toNat
      omega
  refine run_loop [(0, false), (1, false), (7, false), (12, false), (13, false), (14, false)] (fun vs pos los => ∃ (i : Int) (r : List UInt8), 0 ≤ i ∧ i ≤ N ∧ r = (ns.take i.toNat).flatMap (fun n => varL n.toNat) ∧
    vs = [sb l, int .i64 f, .ptr 2000000 0 0, .r (.sl 1 (ns.map fun n => .v (.int .u64 n))), int .i64 N, int .i64 i] ∧ pos = [] ∧
    ((r = [] ∧ los = [.box [.nils 1 (.v (.int .u8 0))]]) ∨ los = [.box [.own 2000001 0 0 r.length], rowB r]))
    (fun vs _ _ => match vs with | [_, _, _, _, _, .r (.v (.int _ j))] => (N - j).toNat | _ => 0) rfl ?_ ?_
  · simp only [push_cast, ↓reduceIte, reduceCtorEq, Nat.reduceBEq, Nat.reduceEqDiff, Nat.reduceAdd, Nat.reduceSub, Nat.reduceLT, Nat.reduceLeDiff, Nat.reduceMul]
    exact ⟨0, [], by omega, by omega, rfl, rfl, .inl rfl⟩
  · rintro vs pos los ⟨i, r, i0, iN, hr, rfl, rfl, hc⟩
    have hrl := hlen i.toNat
    rw [← hr] at hrl
    rcases hc with ⟨rfl, rfl⟩ | rfl
    · simp only [push_cast, ↓reduceIte, reduceCtorEq, Nat.reduceBEq, Nat.reduceEqDiff, Nat.reduceAdd, Nat.reduceSub, Nat.reduceLT, Nat.reduceLeDiff, Nat.reduceMul]
      refine cnd_mk (fun h => ?_) (fun h => ?_)
      · have hi : i < N := by simpa using h
        have hin : i.toNat < ns.length := by omega
        have hb := hn _ (List.getElem_mem hin)
        have hg : (List.map (fun n => RV.v (.int .u64 n)) ns).getD i.toNat (.v (.int .u64 0)) = .v (.int .u64 ns[i.toNat]) := by simp [List.getD, hin]
        have w4 : IntKind.i64.wrap (i + 1) = i + 1 := wrap_id (by omega)
        simp only [hg, ← hN, push_cast, ↓reduceIte, reduceCtorEq, Nat.reduceBEq, Nat.reduceEqDiff, Nat.reduceAdd, Nat.reduceSub, Nat.reduceLT, Nat.reduceLeDiff, Nat.reduceMul]
        refine ⟨⟨i0, hi⟩, ?_⟩
        refine call_mk (wvarN_t _ hb.1 hb.2) rfl ⟨rfl, trivial⟩ ?_
        simp only [w4, push_cast, ↓reduceIte, reduceCtorEq, Nat.reduceBEq, Nat.reduceEqDiff, Nat.reduceAdd, Nat.reduceSub, Nat.reduceLT, Nat.reduceLeDiff, Nat.reduceMul]
        refine ⟨⟨i + 1, varL (ns[i.toNat]).toNat, by omega, by omega, ?_, rfl, .inr rfl⟩, by omega⟩
        rw [show (i + 1).toNat = i.toNat + 1 by omega, List.take_succ_eq_append_getElem hin, List.flatMap_append, ← hr]
        simp
      · have hi : i = N := by have : ¬ i < N := by simpa using h
                              omega
        rw [hi, show N.toNat = ns.length by omega, List.take_length] at hr
        simp only [push_cast, ↓reduceIte, reduceCtorEq, Nat.reduceBEq, Nat.reduceEqDiff, Nat.reduceAdd, Nat.reduceSub, Nat.reduceLT, Nat.reduceLeDiff, Nat.reduceMul]
        refine call_as (as' := [sb l, int .i64 f, sb []]) rfl ?_
        refine call_mk (bytes_t l f [] hf (by simp) hl) rfl trivial ?_
        rw [← hr]
        simp only [push_cast, ↓reduceIte, reduceCtorEq, Nat.reduceBEq, Nat.reduceEqDiff, Nat.reduceAdd, Nat.reduceSub, Nat.reduceLT, Nat.reduceLeDiff, Nat.reduceMul]
    · simp only [push_cast, ↓reduceIte, reduceCtorEq, Nat.reduceBEq, Nat.reduceEqDiff, Nat.reduceAdd, Nat.reduceSub, Nat.reduceLT, Nat.reduceLeDiff, Nat.reduceMul]
      refine cnd_mk (fun h => ?_) (fun h => ?_)
      · have hi : i < N := by simpa using h
        have hin : i.toNat < ns.length := by omega
        have hb := hn _ (List.getElem_mem hin)
        have hg : (List.map (fun n => RV.v (.int .u64 n)) ns).getD i.toNat (.v (.int .u64 0)) = .v (.int .u64 ns[i.toNat]) := by simp [List.getD, hin]
        have w4 : IntKind.i64.wrap (i + 1) = i + 1 := wrap_id (by omega)
        simp only [hg, ← hN, push_cast, ↓reduceIte, reduceCtorEq, Nat.reduceBEq, Nat.reduceEqDiff, Nat.reduceAdd, Nat.reduceSub, Nat.reduceLT, Nat.reduceLeDiff, Nat.reduceMul]
        refine ⟨⟨i0, hi⟩, ?_⟩
        refine call_mk (wvar_t r _ hb.1 hb.2 (by omega)) rfl ⟨rfl, trivial⟩ ?_
        generalize hq : r ++ varL (ns[i.toNat]).toNat = q
        simp only [w4, push_cast, ↓reduceIte, reduceCtorEq, Nat.reduceBEq, Nat.reduceEqDiff, Nat.reduceAdd, Nat.reduceSub, Nat.reduceLT, Nat.reduceLeDiff, Nat.reduceMul]
        refine ⟨⟨i + 1, q, by omega, by omega, ?_, rfl, .inr rfl⟩, by omega⟩
        rw [show (i + 1).toNat = i.toNat + 1 by omega, List.take_succ_eq_append_getElem hin, List.flatMap_append, ← hr, ← hq]
        simp
      · have hi : i = N := by have : ¬ i < N := by simpa using h
                              omega
        rw [hi, show N.toNat = ns.length by omega, List.take_length] at hr
        simp only [← hr, push_cast, ↓reduceIte, reduceCtorEq, Nat.reduceBEq, Nat.reduceEqDiff, Nat.reduceAdd, Nat.reduceSub, Nat.reduceLT, Nat.reduceLeDiff, Nat.reduceMul]
        refine callA_give ?_
        simp only [push_cast, ↓reduceIte, reduceCtorEq, Nat.reduceBEq, Nat.reduceEqDiff, Nat.reduceAdd, Nat.reduceSub, Nat.reduceLT, Nat.reduceLeDiff, Nat.reduceMul]
        refine call_as (as' := [sb l, int .i64 f, sb r]) rfl ?_
        refine call_mk (bytes_t l f r hf (by omega) hl) rfl trivial ?_
        simp only [push_cast, ↓reduceIte, reduceCtorEq, Nat.reduceBEq, Nat.reduceEqDiff, Nat.reduceAdd, Nat.reduceSub, Nat.reduceLT, Nat.reduceLeDiff, Nat.reduceMul]
end Go.Ev
