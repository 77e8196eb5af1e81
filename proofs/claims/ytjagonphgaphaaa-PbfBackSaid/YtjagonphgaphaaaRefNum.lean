/- The document's fields: what their strings are. -/
import Derived.Test.YtjagonphgaphaaaRefVar
import Derived.Test.YtjagonphgaphaaaVars
namespace Go.Proofs.Ytjagonphgaphaaa
open Go.RowKit
set_option linter.unusedVariables false

theorem bytes_append (l m : List UInt8) : (⟨l.toArray⟩ : ByteArray) ++ ⟨m.toArray⟩ = ⟨(l ++ m).toArray⟩ := by
  apply ByteArray.ext
  simp
abbrev strV (l : List UInt8) : Value := .string ⟨l.toArray⟩
theorem okB_yes' {f : Int} (h1 : 1 ≤ f) (h2 : f ≤ 1000) : okB f = true := by unfold okB; simp [h1, h2]

set_option maxRecDepth 100000 in
theorem rnum_no (f n : Int) (w : World) (g0 : -9223372036854775808 ≤ f) (g1 : f ≤ 9223372036854775807) (hf : okB f = false) :
    Calls Try.prog 13 #[.int .i64 f, .int .u64 n] w fun e w' => e = .returned (strV []) ∧ w = w' := by
  go_enter Try.func13, Try.ntmps13
  go_wp2_with fail
  refine (fieldOk_any f w g0 g1).mono ?_
  rintro e w1 ⟨rfl, rfl⟩
  rw [hf]
  go_wp2_with fail
  go_ret
  exact ⟨rfl, rfl⟩
set_option maxRecDepth 100000 in
theorem rnum_yes (f n : Int) (w : World) (g0 : 1 ≤ f) (g1 : f ≤ 1000) (h0 : 0 ≤ n) (h1 : n < 18446744073709551616) :
    Calls Try.prog 13 #[.int .i64 f, .int .u64 n] w fun e w' => e = .returned (strV (varL (8 * f).toNat ++ varL n.toNat)) ∧ Below w.heap.size w w' := by
  go_enter Try.func13, Try.ntmps13
  go_wp2_with fail
  refine (fieldOk_any f w (by omega) (by omega)).mono ?_
  rintro e w1 ⟨rfl, rfl⟩
  rw [okB_yes' g0 g1]
  go_wp2_with fail
  refine (rvar_any _ w (by omega) (by omega)).mono ?_
  rintro e w1 ⟨rfl, hb1⟩
  go_wp2_with fail
  refine (rvar_any n w1 (by omega) (by omega)).mono ?_
  rintro e w2 ⟨rfl, hb2⟩
  have hl1 := varL_len (8 * f).toNat
  have hl2 := varL_len n.toNat
  go_wp2_with fail
  go_ret
  exact ⟨congrArg (fun s => Ending.returned (.string s)) (bytes_append _ _), hb1.trans (hb2.mono hb1.size)⟩

set_option maxRecDepth 100000 in
theorem rbytes_no (f : Int) (x : List UInt8) (w : World) (g0 : -9223372036854775808 ≤ f) (g1 : f ≤ 9223372036854775807) (hf : okB f = false) :
    Calls Try.prog 12 #[.int .i64 f, strV x] w fun e w' => e = .returned (strV []) ∧ w = w' := by
  go_enter Try.func12, Try.ntmps12
  go_wp2_with fail
  refine (fieldOk_any f w g0 g1).mono ?_
  rintro e w1 ⟨rfl, rfl⟩
  rw [hf]
  go_wp2_with fail
  go_ret
  exact ⟨rfl, rfl⟩
def bytesL (f : Int) (x : List UInt8) : List UInt8 := varL (8 * f + 2).toNat ++ varL x.length ++ x
set_option maxRecDepth 100000 in
theorem rbytes_yes (f : Int) (x : List UInt8) (w : World) (g0 : 1 ≤ f) (g1 : f ≤ 1000) (hx : x.length ≤ 140737488355328) :
    Calls Try.prog 12 #[.int .i64 f, strV x] w fun e w' => e = .returned (strV (bytesL f x)) ∧ Below w.heap.size w w' := by
  go_enter Try.func12, Try.ntmps12
  go_wp2_with fail
  refine (fieldOk_any f w (by omega) (by omega)).mono ?_
  rintro e w1 ⟨rfl, rfl⟩
  rw [okB_yes' g0 g1]
  go_wp2_with fail
  refine (rvar_any _ w (by omega) (by omega)).mono ?_
  rintro e w1 ⟨rfl, hb1⟩
  go_wp2_with fail
  refine (rvar_any _ w1 (by omega) (by omega)).mono ?_
  rintro e w2 ⟨rfl, hb2⟩
  rw [Int.toNat_natCast]
  have hl1 := varL_len (8 * f + 2).toNat
  have hl2 := varL_len x.length
  go_wp2_with fail
  go_ret
  exact ⟨congrArg (fun s => Ending.returned (.string s)) ((congrArg (· ++ (⟨x.toArray⟩ : ByteArray)) (bytes_append _ _)).trans (bytes_append _ _)), hb1.trans (hb2.mono hb1.size)⟩

theorem reads_u64 {w : World} {B : Nat} {A : Option Addr} {l : List Nat} (h : Reads w B 1 A l.length (l.map u64v)) {k : Nat} (hk : k < l.length) :
    ∃ ad, A = some ad ∧ w.cell? (ad.add k) = some (.int .u64 (l[k] : Int)) := by
  obtain ⟨ad, u, e, _, hx, hc⟩ := h.at_ hk
  refine ⟨ad, e, ?_⟩
  rw [hc, ← hx]
  simp [hk]
theorem flat_take {l : List Nat} {k : Nat} (h : k < l.length) : (l.take (k + 1)).flatMap varL = (l.take k).flatMap varL ++ varL l[k] := by
  rw [List.take_succ_eq_append_getElem h, List.flatMap_append]
  simp
theorem flat_len (l : List Nat) : (l.flatMap varL).length ≤ 10 * l.length := by
  induction l with
  | nil => simp
  | cons n l ih =>
    have := varL_len n
    rw [List.flatMap_cons, List.length_append, List.length_cons]
    omega

def packS (f : Int) (l : List Nat) : List UInt8 := if okB f then bytesL f (l.flatMap varL) else []
theorem packS_no {f : Int} (h : okB f = false) (l : List Nat) : packS f l = [] := by unfold packS; rw [h]; rfl
theorem packS_yes {f : Int} (h : okB f = true) (l : List Nat) : packS f l = bytesL f (l.flatMap varL) := by unfold packS; rw [h]; rfl
set_option maxRecDepth 100000 in
theorem rpack_any {B : Nat} (f : Int) (A : Option Addr) (c : Nat) (l : List Nat) (w : World) (g0 : -9223372036854775808 ≤ f) (g1 : f ≤ 9223372036854775807) (hB : B ≤ w.heap.size)
    (hr : Reads w B 1 A l.length (l.map u64v)) (hl : l.length ≤ 1048576) (hn : ∀ n ∈ l, n < 18446744073709551616) :
    Calls Try.prog 11 #[.int .i64 f, .slice A l.length c] w fun e w' => e = .returned (strV (packS f l)) ∧ Below w.heap.size w w' := by
  go_enter Try.func11, Try.ntmps11
  go_wp2_with fail
  go_loopw [5, 6] (fun s i wr => ∃ k : Nat, k ≤ l.length ∧ i = .int .i64 (k : Int) ∧ s = strV ((l.take k).flatMap varL) ∧ Below w.heap.size w wr) (fun _ i _ => l.length - (intOf i).toNat)
  case atStart => exact ⟨0, by omega, rfl, rfl, Below.refl _ _⟩
  case round =>
    obtain ⟨k, hk, rfl, rfl, hnx⟩ := hrel
    by_cases hlt : k < l.length
    · obtain ⟨ad, rfl, hcell⟩ := reads_u64 (hr.below (hnx.mono hB)) hlt
      have hlk := hn l[k] (List.getElem_mem hlt)
      have hf := flat_take hlt
      have Hf := hide hf
      have hfl := flat_len (l.take k)
      rw [List.length_take] at hfl
      generalize (l.take k).flatMap varL = s at *
      generalize l[k] = n at *
      clear hf
      go_wp2_with fail
      refine (rvar_any _ wr (by omega) (by omega)).mono ?_
      rintro e w2 ⟨rfl, hb2⟩
      rw [Int.toNat_natCast]
      have hl2 := varL_len n
      go_wp2_with fail
      refine ⟨⟨k + 1, by omega, by go_num, ?_, hnx.trans (hb2.mono hnx.size)⟩, by simp [intOf]; omega⟩
      rw [Hf.out]
      exact congrArg Value.string (bytes_append _ _)
    · have hkl : l.take k = l := List.take_of_length_le (by omega)
      rw [hkl]
      clear hkl
      have hfl := flat_len l
      rcases hok : okB f with _ | _
      · have hps := hide (packS_no hok l)
        generalize l.flatMap varL = s at *
        go_wp2_with fail
        refine (rbytes_no f s wr g0 g1 hok).mono ?_
        rintro e w2 ⟨rfl, rfl⟩
        go_wp2_with fail
        go_ret
        rw [hps.out]
        exact ⟨rfl, hnx⟩
      · have hps := hide (packS_yes hok l)
        generalize l.flatMap varL = s at *
        have hok' := hok
        unfold okB at hok'
        simp only [Bool.and_eq_true, decide_eq_true_eq] at hok'
        go_wp2_with fail
        refine (rbytes_yes f s wr hok'.1 hok'.2 (by omega)).mono ?_
        rintro e w2 ⟨rfl, hb2⟩
        go_wp2_with fail
        go_ret
        rw [hps.out]
        exact ⟨rfl, hnx.trans (hb2.mono hnx.size)⟩
end Go.Proofs.Ytjagonphgaphaaa
