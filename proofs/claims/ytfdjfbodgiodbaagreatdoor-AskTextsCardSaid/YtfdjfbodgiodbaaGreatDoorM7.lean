import Derived.Test.YtfdjfbodgiodbaaGreatDoorShelf
import Derived.Test.YtfdjfbodgiodbaaGreatDoorM6
open Nat renaming reduceBEq → zB, reduceEqDiff → zE, reduceAdd → zA, reduceSub → zS, reduceLT → zL, reduceLeDiff → zD, reduceMul → zM
open Go.Proofs.Tryz renaming prog → P0
namespace Go.Ev
set_option maxRecDepth 100000
open Go
set_option linter.unusedSectionVars false
set_option linter.unnecessarySimpa false
set_option linter.unusedSimpArgs false
set_option linter.unusedVariables false
noncomputable def num_Text_pc : PC :=
  (.seq (.reg [p_s 2 (.mov (.c (.r (.v (.string ⟨#[]⟩)))))])
 (.seq (.reg [p_m 3 0, p_c 4 1 98 [(.t 3), (o_i 10)], p_m 2 4])
 .ret))
theorem num_Text_triple : Fun P0 69 1 [(2, false, none)] num_Text_pc := fun_mk Go.Proofs.Tryz.func69 rfl (by decide) (by kernel_rfl) (by decide) rfl (by kernel_rfl) (by kernel_rfl) (by decide)

open Go Go.RowKit Go.Sort
def txt (n : Int) : ByteArray := ⟨(Lib.itoa n).toArray⟩
theorem var_of {P : Program} {w : World} {I : Nat → Prop} {name : String} {ok : Array Value → Prop} (h : GlAt P w I name ok) {g : Nat} (hg : P.globalNamed name = some g) : ∃ cs, w.var? P name = some cs ∧ ok cs := by
 obtain ⟨_, cs, e, fr, h2, h3⟩ := h g hg
 exact ⟨cs, by simp [World.var?, hg, h2], h3⟩
theorem below_grow (w : World) (k : Nat) (os : Array Obj) : Below w.heap.size w (grow (w.drewN k) os) :=
 ⟨rfl, rfl, rfl, by simp [grow, World.drewN], fun i hi => by simp [grow, World.drewN, Array.getElem?_append_left hi]⟩
theorem glob_pow : (P0).globalNamed "internal/strconv.uint64pow10" = some 2 := by kernel_rfl
theorem formatInt_t (n : Int) (hn : in64 n) : Triple P0 98 [int .i64 n, int .i64 10] [] (strv (txt n)) [] := by
 refine triple_of_calls (vs := [.int .i64 n, .int .i64 10]) (r := .v (.string (txt n))) fun w hgl => ?_
 obtain ⟨cs, h1, h2⟩ := var_of hgl.pow glob_pow
 subst h2
 have htab : Lib.TabIs P0 w "internal/strconv.uint64pow10" .u64 Lib.pow10Tab := by
  unfold Lib.TabIs
  rw [h1]
  simp [pow10s, Lib.pow10Tab]
 refine (Go.Proofs.Any.strconv_FormatInt_10 Go.Proofs.Tryz.laysM173 n hn.1 hn.2 w htab).mono ?_
 rintro e w' ⟨rfl, k, os, rfl⟩
 exact ⟨_, rfl, below_grow _ _ _, fun R => .v _⟩
theorem text_t (n : Int) (hn : in64 n) : Triple P0 69 [int .i64 n] [] (strv (txt n)) [] := by
 refine num_Text_triple rfl (by decide) ?_
 simp only [num_Text_pc, push_cast, ↓reduceIte, reduceCtorEq, zB, zE, zA, zS, zL, zD, zM]
 refine call_mk (formatInt_t n hn) rfl trivial ?_
 simp only [push_cast, ↓reduceIte, reduceCtorEq, zB, zE, zA, zS, zL, zD, zM]

end Go.Ev
