import Derived.Test.YtjcpepjhjencaaaDoorNum6
namespace Go.Ev
open Go Go.RowKit Go.Sort
set_option linter.unnecessarySimpa false
set_option linter.unusedSimpArgs false
set_option linter.unusedVariables false
/-- The text of a number. -/
def txt (n : Int) : ByteArray := ⟨(Lib.itoa n).toArray⟩
theorem var_of {P : Program} {w : World} {I : Nat → Prop} {name : String} {ok : Array Value → Prop} (h : GlAt P w I name ok) {g : Nat} (hg : P.globalNamed name = some g) : ∃ cs, w.var? P name = some cs ∧ ok cs := by
  obtain ⟨_, cs, e, fr, h2, h3⟩ := h g hg
  exact ⟨cs, by simp [World.var?, hg, h2], h3⟩
theorem below_grow (w : World) (k : Nat) (os : Array Obj) : Below w.heap.size w (grow (w.drewN k) os) :=
  ⟨rfl, rfl, rfl, by simp [grow, World.drewN], fun i hi => by simp [grow, World.drewN, Array.getElem?_append_left hi]⟩
theorem glob_pow : (Go.Proofs.Tryd.prog).globalNamed "internal/strconv.uint64pow10" = some 2 := by kernel_rfl
set_option maxRecDepth 100000 in
theorem formatInt_t (n : Int) (hn : in64 n) : Triple Go.Proofs.Tryd.prog 35 [int .i64 n, int .i64 10] [] (strv (txt n)) [] := by
  refine triple_of_calls (vs := [.int .i64 n, .int .i64 10]) (r := .v (.string (txt n))) fun w hgl => ?_
  obtain ⟨cs, h1, h2⟩ := var_of hgl.pow glob_pow
  subst h2
  have htab : Lib.TabIs Go.Proofs.Tryd.prog w "internal/strconv.uint64pow10" .u64 Lib.pow10Tab := by
    unfold Lib.TabIs
    rw [h1]
    simp [pow10s, Lib.pow10Tab]
  refine (Go.Proofs.Any.strconv_FormatInt_10 Go.Proofs.Tryd.laysM173 n hn.1 hn.2 w htab).mono ?_
  rintro e w' ⟨rfl, k, os, rfl⟩
  exact ⟨_, rfl, below_grow _ _ _, fun R => .v _⟩
set_option maxRecDepth 100000 in
theorem text_t (n : Int) (hn : in64 n) : Triple Go.Proofs.Tryd.prog 28 [int .i64 n] [] (strv (txt n)) [] := by
  refine num_Text_triple rfl (by decide) ?_
  simp only [num_Text_pc, List.length_nil, push_cast, ↓reduceIte, reduceCtorEq, Nat.reduceBEq, Nat.reduceEqDiff, Nat.reduceAdd, Nat.reduceSub, Nat.reduceLT, Nat.reduceLeDiff, Nat.reduceMul]
  refine call_mk (formatInt_t n hn) rfl trivial ?_
  simp only [push_cast, ↓reduceIte, reduceCtorEq, Nat.reduceBEq, Nat.reduceEqDiff, Nat.reduceAdd, Nat.reduceSub, Nat.reduceLT, Nat.reduceLeDiff, Nat.reduceMul]
set_option maxRecDepth 100000 in
theorem awake1_t : Triple Go.Proofs.Tryd.prog 14 [] [] (bl true) [] := by
  refine apiarylaw1_awake_triple rfl (by decide) ?_
  simp only [apiarylaw1_awake_pc, List.length_nil, push_cast, ↓reduceIte, reduceCtorEq, Nat.reduceBEq, Nat.reduceEqDiff, Nat.reduceAdd, Nat.reduceSub, Nat.reduceLT, Nat.reduceLeDiff, Nat.reduceMul]
  refine call_mk (floor_t (-7) 3 (by decide) (by decide)) rfl trivial ?_
  simp only [push_cast, ↓reduceIte, reduceCtorEq, Nat.reduceBEq, Nat.reduceEqDiff, Nat.reduceAdd, Nat.reduceSub, Nat.reduceLT, Nat.reduceLeDiff, Nat.reduceMul]
  refine call_mk (add_t 9223372036854775807 1 (by decide) (by decide)) rfl trivial ?_
  have e1 : decide (in64 (9223372036854775807 + 1)) = false := by decide
  have e2 : ((if (0 : Int) < 3 then (-7 : Int) / 3 else 0) == -3) = true := by decide
  have e3 : ((if (0 : Int) < 3 then (-7 : Int) % 3 else 0) == 2) = true := by decide
  have e4 : decide ((0 : Int) < 3) = true := by decide
  simp only [sm, e1, e2, e3, e4, push_cast, ↓reduceIte, reduceCtorEq, Nat.reduceBEq, Nat.reduceEqDiff, Nat.reduceAdd, Nat.reduceSub, Nat.reduceLT, Nat.reduceLeDiff, Nat.reduceMul]
  refine call_mk (text_t (-5) (by decide)) rfl trivial ?_
  simp only [push_cast, ↓reduceIte, reduceCtorEq, Nat.reduceBEq, Nat.reduceEqDiff, Nat.reduceAdd, Nat.reduceSub, Nat.reduceLT, Nat.reduceLeDiff, Nat.reduceMul]
  simp only [txt, Lib.itoa, show ((-5 : Int) < 0) = True by simp, if_true, show (-5 : Int).natAbs = 5 from rfl, Lib.decDigits_one (show 5 < 10 by decide)]
  refine congrArg (fun b => AV.r (RV.v (Value.bool b))) ?_
  kernel_rfl
end Go.Ev
