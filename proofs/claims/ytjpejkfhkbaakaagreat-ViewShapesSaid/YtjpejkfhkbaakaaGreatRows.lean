/-
  No cell of these rows narrows 'for every input' (looked for: loops, veiled, ifaces, maps, wideKeys, modest, calm, conditions, laid).
  DERIVED. THE GIVEN ROWS OF THIS SEAT. 3 by the template 'for every input the law returns true; each argument reads behind the call as it read before'; 0 by the template 'total and deterministic' (their statements: YtjpejkfhkbaakaaGreatTotals.lean).
  GIVEN WITH THE SEED: the statements are not yours to turn. If you find one false, say at which input.
  Laid BY PROGRAM, IN A SANDBOX (cutbox-rows.mjs): the forced cells as the released guide's own fill.sh prints them over the translation 165b38f20dd635f7… (all of the seat's roots in one cut). By AI agents, Wed Nov 11 2026. No macro, syntax, notation, axiom, sorry.
-/
import Derived.Test.YtjpejkfhkbaakaaGreatChecked
import GoSem.Claim
import GoSem.ClaimJoined
import GoSem.ClaimMapViews
import Derived.JoinedTies
import Derived.KernelRfl
namespace Go.Proofs.YtjpejkfhkbaakaaGreat
/- THE CELL 'sum', in the pinned program and in every row, IS THE sha256 OF THE DUMP (.gsa) THAT YtjpejkfhkbaakaaGreatProg.lean LOADS. Nothing in Lean hashes anything: it is a label: what it is worth is what the hold of that sum in a sandbox is worth. -/
noncomputable def Tryz.pinned : Pinned := { name := "ytjpejkfhkbaakaagreat", sum := "165b38f20dd635f77d3f8f202a9f54f5e0e919612a786e2204995987a548738d", checked := Tryz.checked }
namespace Rows
def none {H : Type} : Left H := { results := [], args := [] }

/-- 'apiarylaw22.ViewNeighbours': WHATEVER THE INPUT: true; the input reads as it did. -/
def viewNeighboursSpec : ChangeSpec := { name := "viewNeighbours", fn := fun _ => fun
  | [d1, d2, d3, d4] => { results := [.lit (.bool true)], args := [d1, d2, d3, d4] }
  | _ => none }
def viewNeighboursRow : OpenClaim := { program := "ytjpejkfhkbaakaagreat", sum := "165b38f20dd635f77d3f8f202a9f54f5e0e919612a786e2204995987a548738d", func := "apiary/apiarylaw22.ViewNeighbours", spec := "viewNeighbours", inPlace := ["math/bits.Add64", "math/bits.Sub64"], unfollowed := true, recurses := true, apart := false }
def ViewNeighboursSaid : Prop := viewNeighboursRow.holds Tryz.pinned (OpenSpec.ofChange viewNeighboursSpec)

/-- ITS FALSE NEIGHBOUR: 'it returns false'. Refute it at one input. -/
def viewNeighboursWrong : ChangeSpec := { name := "viewNeighbours", fn := fun _ => fun
  | [d1, d2, d3, d4] => { results := [.lit (.bool false)], args := [d1, d2, d3, d4] }
  | _ => none }
def ViewNeighboursWrongFalsely : Prop := viewNeighboursRow.holds Tryz.pinned (OpenSpec.ofChange viewNeighboursWrong)

/-- 'apiarylaw22.ViewShapes': WHATEVER THE INPUT: true; the input reads as it did. -/
def viewShapesSpec : ChangeSpec := { name := "viewShapes", fn := fun _ => fun
  | [d1, d2, d3, d4] => { results := [.lit (.bool true)], args := [d1, d2, d3, d4] }
  | _ => none }
def viewShapesRow : OpenClaim := { program := "ytjpejkfhkbaakaagreat", sum := "165b38f20dd635f77d3f8f202a9f54f5e0e919612a786e2204995987a548738d", func := "apiary/apiarylaw22.ViewShapes", spec := "viewShapes", inPlace := ["math/bits.Add64", "math/bits.Sub64"], unfollowed := true, recurses := true, apart := false }
def ViewShapesSaid : Prop := viewShapesRow.holds Tryz.pinned (OpenSpec.ofChange viewShapesSpec)

/-- ITS FALSE NEIGHBOUR: 'it returns false'. Refute it at one input. -/
def viewShapesWrong : ChangeSpec := { name := "viewShapes", fn := fun _ => fun
  | [d1, d2, d3, d4] => { results := [.lit (.bool false)], args := [d1, d2, d3, d4] }
  | _ => none }
def ViewShapesWrongFalsely : Prop := viewShapesRow.holds Tryz.pinned (OpenSpec.ofChange viewShapesWrong)

/-- 'apiarylaw22.ViewKids': WHATEVER THE INPUT: true; the input reads as it did. -/
def viewKidsSpec : ChangeSpec := { name := "viewKids", fn := fun _ => fun
  | [d1, d2, d3] => { results := [.lit (.bool true)], args := [d1, d2, d3] }
  | _ => none }
def viewKidsRow : OpenClaim := { program := "ytjpejkfhkbaakaagreat", sum := "165b38f20dd635f77d3f8f202a9f54f5e0e919612a786e2204995987a548738d", func := "apiary/apiarylaw22.ViewKids", spec := "viewKids", inPlace := ["math/bits.Add64", "math/bits.Sub64"], unfollowed := true, recurses := true, apart := false }
def ViewKidsSaid : Prop := viewKidsRow.holds Tryz.pinned (OpenSpec.ofChange viewKidsSpec)

/-- ITS FALSE NEIGHBOUR: 'it returns false'. Refute it at one input. -/
def viewKidsWrong : ChangeSpec := { name := "viewKids", fn := fun _ => fun
  | [d1, d2, d3] => { results := [.lit (.bool false)], args := [d1, d2, d3] }
  | _ => none }
def ViewKidsWrongFalsely : Prop := viewKidsRow.holds Tryz.pinned (OpenSpec.ofChange viewKidsWrong)

/- THE SECOND FORM. 'bulk': how many values and letters a reading holds, each counted each time it is reached (what is shared counts as often as it is met; a slice's spare places count too). A statement '..UptoSaid' is the law's where the arguments, and the package variables that the reading takes, are together of bulk at most 1048576: NARROWER than '..Said'. Prove '..Said' where nothing that the law and all that it calls make is longer than what came in: it says more and counts as full. Else prove '..UptoSaid'. A law counts once. -/
mutual
def uptoBulk {H : Type} : DataW H → Nat
  | .lit (.string bytes) => bytes.length + 1
  | .lit _ => 1
  | .nil => 1
  | .ptr d => uptoBulk d + 1
  | .slice elems spare => uptoBulkAll elems + uptoBulkAll spare + 1
  | .agg parts => uptoBulkAll parts + 1
  | .iface _ d => uptoBulk d + 1
  | .map entries => uptoBulkEntries entries + 1
  | .held _ => 1
def uptoBulkAll {H : Type} : List (DataW H) → Nat
  | [] => 0
  | d :: r => uptoBulk d + uptoBulkAll r
def uptoBulkEntries {H : Type} : List (Lit × DataW H) → Nat
  | [] => 0
  | x :: r => uptoBulkEntry x + uptoBulkEntries r
def uptoBulkEntry {H : Type} : Lit × DataW H → Nat
  | (.string bytes, d) => bytes.length + uptoBulk d + 1
  | (_, d) => uptoBulk d + 1
 end
def uptoSmall : (H : Type) → List (DataW H) → Bool := fun _ ds => decide (uptoBulkAll ds ≤ 1048576)
def OpenSpec.upto (s : _root_.Go.ChangeSpec) : _root_.Go.OpenSpec := { _root_.Go.OpenSpec.ofChange s with cond := some uptoSmall }

/-- 'apiarylaw22.ViewNeighbours', WHERE WHAT IT READS IS OF BULK AT MOST 1048576: true; the input reads as it did. -/
def viewNeighboursUptoRow : OpenClaim := { program := "ytjpejkfhkbaakaagreat", sum := "165b38f20dd635f77d3f8f202a9f54f5e0e919612a786e2204995987a548738d", func := "apiary/apiarylaw22.ViewNeighbours", spec := "viewNeighbours", inPlace := ["math/bits.Add64", "math/bits.Sub64"], unfollowed := true, recurses := true, apart := false, narrowed := true }
def ViewNeighboursUptoSaid : Prop := viewNeighboursUptoRow.holds Tryz.pinned (OpenSpec.upto viewNeighboursSpec)

/-- 'apiarylaw22.ViewShapes', WHERE WHAT IT READS IS OF BULK AT MOST 1048576: true; the input reads as it did. -/
def viewShapesUptoRow : OpenClaim := { program := "ytjpejkfhkbaakaagreat", sum := "165b38f20dd635f77d3f8f202a9f54f5e0e919612a786e2204995987a548738d", func := "apiary/apiarylaw22.ViewShapes", spec := "viewShapes", inPlace := ["math/bits.Add64", "math/bits.Sub64"], unfollowed := true, recurses := true, apart := false, narrowed := true }
def ViewShapesUptoSaid : Prop := viewShapesUptoRow.holds Tryz.pinned (OpenSpec.upto viewShapesSpec)

/-- 'apiarylaw22.ViewKids', WHERE WHAT IT READS IS OF BULK AT MOST 1048576: true; the input reads as it did. -/
def viewKidsUptoRow : OpenClaim := { program := "ytjpejkfhkbaakaagreat", sum := "165b38f20dd635f77d3f8f202a9f54f5e0e919612a786e2204995987a548738d", func := "apiary/apiarylaw22.ViewKids", spec := "viewKids", inPlace := ["math/bits.Add64", "math/bits.Sub64"], unfollowed := true, recurses := true, apart := false, narrowed := true }
def ViewKidsUptoSaid : Prop := viewKidsUptoRow.holds Tryz.pinned (OpenSpec.upto viewKidsSpec)

end Rows
end Go.Proofs.YtjpejkfhkbaakaaGreat
