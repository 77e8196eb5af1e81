/-
  No cell of these rows narrows 'for every input' (looked for: loops, veiled, ifaces, maps, wideKeys, modest, calm, conditions, laid).
  DERIVED. THE GIVEN ROWS OF THIS SEAT. 2 by the template 'for every input the law returns true; each argument reads behind the call as it read before'; 0 by the template 'total and deterministic' (their statements: YtocfnfcflljooaaTotals.lean).
  GIVEN WITH THE SEED: the statements are not yours to turn. If you find one false, say at which input.
  Laid BY PROGRAM, IN A SANDBOX (cutbox-rows.mjs): the forced cells as the released guide's own fill.sh prints them over the translation 1caa208a2adcf706… (all of the seat's roots in one cut). By AI agents, Wed Nov 11 2026. No macro, syntax, notation, axiom, sorry.
-/
import Derived.Test.YtocfnfcflljooaaChecked
import GoSem.Claim
import GoSem.ClaimJoined
import GoSem.ClaimMapViews
import Derived.JoinedTies
import Derived.KernelRfl
namespace Go.Proofs.Ytocfnfcflljooaa
/- THE CELL 'sum', in the pinned program and in every row, IS THE sha256 OF THE DUMP (.gsa) THAT YtocfnfcflljooaaProg.lean LOADS. Nothing in Lean hashes anything: it is a label: what it is worth is what the hold of that sum in a sandbox is worth. -/
noncomputable def Try.pinned : Pinned := { name := "ytocfnfcflljooaa", sum := "1caa208a2adcf70651206770d80bf07ac4b15697a2cac5854763faca8ae7efcc", checked := Try.checked }
namespace Rows
def none {H : Type} : Left H := { results := [], args := [] }

/-- 'apiarylaw18.StatsBounds': WHATEVER THE INPUT: true; the input reads as it did. -/
def statsBoundsSpec : ChangeSpec := { name := "statsBounds", fn := fun _ => fun
  | [d] => { results := [.lit (.bool true)], args := [d] }
  | _ => none }
def statsBoundsRow : OpenClaim := { program := "ytocfnfcflljooaa", sum := "1caa208a2adcf70651206770d80bf07ac4b15697a2cac5854763faca8ae7efcc", func := "apiary/apiarylaw18.StatsBounds", spec := "statsBounds", inPlace := ["math/bits.Add64", "math/bits.Sub64"], unfollowed := true, recurses := true, apart := false }
def StatsBoundsSaid : Prop := statsBoundsRow.holds Try.pinned (OpenSpec.ofChange statsBoundsSpec)

/-- ITS FALSE NEIGHBOUR: 'it returns false'. Refute it at one input. -/
def statsBoundsWrong : ChangeSpec := { name := "statsBounds", fn := fun _ => fun
  | [d] => { results := [.lit (.bool false)], args := [d] }
  | _ => none }
def StatsBoundsWrongFalsely : Prop := statsBoundsRow.holds Try.pinned (OpenSpec.ofChange statsBoundsWrong)

/-- 'apiarylaw18.StatsMoves': WHATEVER THE INPUT: true; the input reads as it did. -/
def statsMovesSpec : ChangeSpec := { name := "statsMoves", fn := fun _ => fun
  | [d1, d2, d3, d4, d5, d6] => { results := [.lit (.bool true)], args := [d1, d2, d3, d4, d5, d6] }
  | _ => none }
def statsMovesRow : OpenClaim := { program := "ytocfnfcflljooaa", sum := "1caa208a2adcf70651206770d80bf07ac4b15697a2cac5854763faca8ae7efcc", func := "apiary/apiarylaw18.StatsMoves", spec := "statsMoves", inPlace := ["math/bits.Add64", "math/bits.Sub64"], unfollowed := true, recurses := true, apart := false }
def StatsMovesSaid : Prop := statsMovesRow.holds Try.pinned (OpenSpec.ofChange statsMovesSpec)

/-- ITS FALSE NEIGHBOUR: 'it returns false'. Refute it at one input. -/
def statsMovesWrong : ChangeSpec := { name := "statsMoves", fn := fun _ => fun
  | [d1, d2, d3, d4, d5, d6] => { results := [.lit (.bool false)], args := [d1, d2, d3, d4, d5, d6] }
  | _ => none }
def StatsMovesWrongFalsely : Prop := statsMovesRow.holds Try.pinned (OpenSpec.ofChange statsMovesWrong)

/- THE SECOND FORM. 'bulk': how many values and letters a reading holds, each counted each time it is reached (what is shared counts as often as it is met; a slice's spare places count too). A statement '..UptoSaid' is the law's where the arguments, and the package variables that the reading takes, are together of bulk at most 1048576: NARROWER than '..Said'. Prove '..Said' where nothing that the law and all that it calls make is longer than what came in: it says more and counts as full. Else prove '..UptoSaid'. A law counts once. -/
mutual
def uptoBulk {H : Type} : DataW H → Nat
  | .lit (.string bytes) => bytes.length + 1
  | .lit _ => 1
  | .nil => 1
  | .ptr d => uptoBulk d + 1
  | .slice elems spare => uptoBulkAll elems + uptoBulkAll spare + 1
  | .agg parts => uptoBulkAll parts + 1
  | .iface _ d => uptoBulk d + 1
  | .map entries => uptoBulkEntries entries + 1
  | .held _ => 1
def uptoBulkAll {H : Type} : List (DataW H) → Nat
  | [] => 0
  | d :: r => uptoBulk d + uptoBulkAll r
def uptoBulkEntries {H : Type} : List (Lit × DataW H) → Nat
  | [] => 0
  | x :: r => uptoBulkEntry x + uptoBulkEntries r
def uptoBulkEntry {H : Type} : Lit × DataW H → Nat
  | (.string bytes, d) => bytes.length + uptoBulk d + 1
  | (_, d) => uptoBulk d + 1
 end
def uptoSmall : (H : Type) → List (DataW H) → Bool := fun _ ds => decide (uptoBulkAll ds ≤ 1048576)
def OpenSpec.upto (s : _root_.Go.ChangeSpec) : _root_.Go.OpenSpec := { _root_.Go.OpenSpec.ofChange s with cond := some uptoSmall }

/-- 'apiarylaw18.StatsBounds', WHERE WHAT IT READS IS OF BULK AT MOST 1048576: true; the input reads as it did. -/
def statsBoundsUptoRow : OpenClaim := { program := "ytocfnfcflljooaa", sum := "1caa208a2adcf70651206770d80bf07ac4b15697a2cac5854763faca8ae7efcc", func := "apiary/apiarylaw18.StatsBounds", spec := "statsBounds", inPlace := ["math/bits.Add64", "math/bits.Sub64"], unfollowed := true, recurses := true, apart := false, narrowed := true }
def StatsBoundsUptoSaid : Prop := statsBoundsUptoRow.holds Try.pinned (OpenSpec.upto statsBoundsSpec)

/-- 'apiarylaw18.StatsMoves', WHERE WHAT IT READS IS OF BULK AT MOST 1048576: true; the input reads as it did. -/
def statsMovesUptoRow : OpenClaim := { program := "ytocfnfcflljooaa", sum := "1caa208a2adcf70651206770d80bf07ac4b15697a2cac5854763faca8ae7efcc", func := "apiary/apiarylaw18.StatsMoves", spec := "statsMoves", inPlace := ["math/bits.Add64", "math/bits.Sub64"], unfollowed := true, recurses := true, apart := false, narrowed := true }
def StatsMovesUptoSaid : Prop := statsMovesUptoRow.holds Try.pinned (OpenSpec.upto statsMovesSpec)

end Rows
end Go.Proofs.Ytocfnfcflljooaa
