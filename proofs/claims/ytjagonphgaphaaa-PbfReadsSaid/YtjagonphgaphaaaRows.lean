/-
  No cell of these rows narrows 'for every input' (looked for: loops, veiled, ifaces, maps, wideKeys, modest, calm, conditions, laid).
  DERIVED. THE GIVEN ROWS OF THIS SEAT. 6 by the template 'for every input the law returns true; each argument reads behind the call as it read before'; 0 by the template 'total and deterministic' (their statements: YtjagonphgaphaaaTotals.lean).
  GIVEN WITH THE SEED: the statements are not yours to turn. If you find one false, say at which input.
  Laid BY PROGRAM, IN A SANDBOX (cutbox-rows.mjs): the forced cells as the released guide's own fill.sh prints them over the translation b104d6abf9f847af… (all of the seat's roots in one cut). By AI agents, Wed Nov 11 2026. No macro, syntax, notation, axiom, sorry.
-/
import Derived.Test.YtjagonphgaphaaaChecked
import GoSem.Claim
import GoSem.ClaimJoined
import GoSem.ClaimMapViews
import Derived.JoinedTies
import Derived.KernelRfl
namespace Go.Proofs.Ytjagonphgaphaaa
/- THE CELL 'sum', in the pinned program and in every row, IS THE sha256 OF THE DUMP (.gsa) THAT YtjagonphgaphaaaProg.lean LOADS. Nothing in Lean hashes anything: it is a label: what it is worth is what the hold of that sum in a sandbox is worth. -/
noncomputable def Try.pinned : Pinned := { name := "ytjagonphgaphaaa", sum := "b104d6abf9f847af9c6652a2d9ad20acb39e3cb52e33c6d93427857b266bab95", checked := Try.checked }
namespace Rows
def none {H : Type} : Left H := { results := [], args := [] }

/-- 'apiarylaw21.PbfZig': WHATEVER THE INPUT: true; the input reads as it did. -/
def pbfZigSpec : ChangeSpec := { name := "pbfZig", fn := fun _ => fun
  | [d1, d2] => { results := [.lit (.bool true)], args := [d1, d2] }
  | _ => none }
def pbfZigRow : OpenClaim := { program := "ytjagonphgaphaaa", sum := "b104d6abf9f847af9c6652a2d9ad20acb39e3cb52e33c6d93427857b266bab95", func := "apiary/apiarylaw21.PbfZig", spec := "pbfZig", unfollowed := true, recurses := true, apart := false }
def PbfZigSaid : Prop := pbfZigRow.holds Try.pinned (OpenSpec.ofChange pbfZigSpec)

/-- ITS FALSE NEIGHBOUR: 'it returns false'. Refute it at one input. -/
def pbfZigWrong : ChangeSpec := { name := "pbfZig", fn := fun _ => fun
  | [d1, d2] => { results := [.lit (.bool false)], args := [d1, d2] }
  | _ => none }
def PbfZigWrongFalsely : Prop := pbfZigRow.holds Try.pinned (OpenSpec.ofChange pbfZigWrong)

/-- 'apiarylaw21.PbfReads': WHATEVER THE INPUT: true; the input reads as it did. -/
def pbfReadsSpec : ChangeSpec := { name := "pbfReads", fn := fun _ => fun
  | [d1, d2, d3, d4, d5, d6, d7] => { results := [.lit (.bool true)], args := [d1, d2, d3, d4, d5, d6, d7] }
  | _ => none }
def pbfReadsRow : OpenClaim := { program := "ytjagonphgaphaaa", sum := "b104d6abf9f847af9c6652a2d9ad20acb39e3cb52e33c6d93427857b266bab95", func := "apiary/apiarylaw21.PbfReads", spec := "pbfReads", unfollowed := true, recurses := true, apart := false }
def PbfReadsSaid : Prop := pbfReadsRow.holds Try.pinned (OpenSpec.ofChange pbfReadsSpec)

/-- ITS FALSE NEIGHBOUR: 'it returns false'. Refute it at one input. -/
def pbfReadsWrong : ChangeSpec := { name := "pbfReads", fn := fun _ => fun
  | [d1, d2, d3, d4, d5, d6, d7] => { results := [.lit (.bool false)], args := [d1, d2, d3, d4, d5, d6, d7] }
  | _ => none }
def PbfReadsWrongFalsely : Prop := pbfReadsRow.holds Try.pinned (OpenSpec.ofChange pbfReadsWrong)

/-- 'apiarylaw21.PbfSmall': WHATEVER THE INPUT: true; the input reads as it did. -/
def pbfSmallSpec : ChangeSpec := { name := "pbfSmall", fn := fun _ => fun
  | [d] => { results := [.lit (.bool true)], args := [d] }
  | _ => none }
def pbfSmallRow : OpenClaim := { program := "ytjagonphgaphaaa", sum := "b104d6abf9f847af9c6652a2d9ad20acb39e3cb52e33c6d93427857b266bab95", func := "apiary/apiarylaw21.PbfSmall", spec := "pbfSmall", unfollowed := true, recurses := true, apart := false }
def PbfSmallSaid : Prop := pbfSmallRow.holds Try.pinned (OpenSpec.ofChange pbfSmallSpec)

/-- ITS FALSE NEIGHBOUR: 'it returns false'. Refute it at one input. -/
def pbfSmallWrong : ChangeSpec := { name := "pbfSmall", fn := fun _ => fun
  | [d] => { results := [.lit (.bool false)], args := [d] }
  | _ => none }
def PbfSmallWrongFalsely : Prop := pbfSmallRow.holds Try.pinned (OpenSpec.ofChange pbfSmallWrong)

/-- 'apiarylaw21.PbfWrites': WHATEVER THE INPUT: true; the input reads as it did. -/
def pbfWritesSpec : ChangeSpec := { name := "pbfWrites", fn := fun _ => fun
  | [d1, d2, d3, d4, d5, d6] => { results := [.lit (.bool true)], args := [d1, d2, d3, d4, d5, d6] }
  | _ => none }
def pbfWritesRow : OpenClaim := { program := "ytjagonphgaphaaa", sum := "b104d6abf9f847af9c6652a2d9ad20acb39e3cb52e33c6d93427857b266bab95", func := "apiary/apiarylaw21.PbfWrites", spec := "pbfWrites", unfollowed := true, recurses := true, apart := false }
def PbfWritesSaid : Prop := pbfWritesRow.holds Try.pinned (OpenSpec.ofChange pbfWritesSpec)

/-- ITS FALSE NEIGHBOUR: 'it returns false'. Refute it at one input. -/
def pbfWritesWrong : ChangeSpec := { name := "pbfWrites", fn := fun _ => fun
  | [d1, d2, d3, d4, d5, d6] => { results := [.lit (.bool false)], args := [d1, d2, d3, d4, d5, d6] }
  | _ => none }
def PbfWritesWrongFalsely : Prop := pbfWritesRow.holds Try.pinned (OpenSpec.ofChange pbfWritesWrong)

/-- 'apiarylaw21.PbfEnds': WHATEVER THE INPUT: true; the input reads as it did. -/
def pbfEndsSpec : ChangeSpec := { name := "pbfEnds", fn := fun _ => fun
  | [d1, d2, d3] => { results := [.lit (.bool true)], args := [d1, d2, d3] }
  | _ => none }
def pbfEndsRow : OpenClaim := { program := "ytjagonphgaphaaa", sum := "b104d6abf9f847af9c6652a2d9ad20acb39e3cb52e33c6d93427857b266bab95", func := "apiary/apiarylaw21.PbfEnds", spec := "pbfEnds", unfollowed := true, recurses := true, apart := false }
def PbfEndsSaid : Prop := pbfEndsRow.holds Try.pinned (OpenSpec.ofChange pbfEndsSpec)

/-- ITS FALSE NEIGHBOUR: 'it returns false'. Refute it at one input. -/
def pbfEndsWrong : ChangeSpec := { name := "pbfEnds", fn := fun _ => fun
  | [d1, d2, d3] => { results := [.lit (.bool false)], args := [d1, d2, d3] }
  | _ => none }
def PbfEndsWrongFalsely : Prop := pbfEndsRow.holds Try.pinned (OpenSpec.ofChange pbfEndsWrong)

/-- 'apiarylaw21.PbfBack': WHATEVER THE INPUT: true; the input reads as it did. -/
def pbfBackSpec : ChangeSpec := { name := "pbfBack", fn := fun _ => fun
  | [d1, d2] => { results := [.lit (.bool true)], args := [d1, d2] }
  | _ => none }
def pbfBackRow : OpenClaim := { program := "ytjagonphgaphaaa", sum := "b104d6abf9f847af9c6652a2d9ad20acb39e3cb52e33c6d93427857b266bab95", func := "apiary/apiarylaw21.PbfBack", spec := "pbfBack", unfollowed := true, recurses := true, apart := false }
def PbfBackSaid : Prop := pbfBackRow.holds Try.pinned (OpenSpec.ofChange pbfBackSpec)

/-- ITS FALSE NEIGHBOUR: 'it returns false'. Refute it at one input. -/
def pbfBackWrong : ChangeSpec := { name := "pbfBack", fn := fun _ => fun
  | [d1, d2] => { results := [.lit (.bool false)], args := [d1, d2] }
  | _ => none }
def PbfBackWrongFalsely : Prop := pbfBackRow.holds Try.pinned (OpenSpec.ofChange pbfBackWrong)

/- THE SECOND FORM. 'bulk': how many values and letters a reading holds, each counted each time it is reached (what is shared counts as often as it is met; a slice's spare places count too). A statement '..UptoSaid' is the law's where the arguments, and the package variables that the reading takes, are together of bulk at most 1048576: NARROWER than '..Said'. Prove '..Said' where nothing that the law and all that it calls make is longer than what came in: it says more and counts as full. Else prove '..UptoSaid'. A law counts once. -/
mutual
def uptoBulk {H : Type} : DataW H → Nat
  | .lit (.string bytes) => bytes.length + 1
  | .lit _ => 1
  | .nil => 1
  | .ptr d => uptoBulk d + 1
  | .slice elems spare => uptoBulkAll elems + uptoBulkAll spare + 1
  | .agg parts => uptoBulkAll parts + 1
  | .iface _ d => uptoBulk d + 1
  | .map entries => uptoBulkEntries entries + 1
  | .held _ => 1
def uptoBulkAll {H : Type} : List (DataW H) → Nat
  | [] => 0
  | d :: r => uptoBulk d + uptoBulkAll r
def uptoBulkEntries {H : Type} : List (Lit × DataW H) → Nat
  | [] => 0
  | x :: r => uptoBulkEntry x + uptoBulkEntries r
def uptoBulkEntry {H : Type} : Lit × DataW H → Nat
  | (.string bytes, d) => bytes.length + uptoBulk d + 1
  | (_, d) => uptoBulk d + 1
 end
def uptoSmall : (H : Type) → List (DataW H) → Bool := fun _ ds => decide (uptoBulkAll ds ≤ 1048576)
def OpenSpec.upto (s : _root_.Go.ChangeSpec) : _root_.Go.OpenSpec := { _root_.Go.OpenSpec.ofChange s with cond := some uptoSmall }

/-- 'apiarylaw21.PbfZig', WHERE WHAT IT READS IS OF BULK AT MOST 1048576: true; the input reads as it did. -/
def pbfZigUptoRow : OpenClaim := { program := "ytjagonphgaphaaa", sum := "b104d6abf9f847af9c6652a2d9ad20acb39e3cb52e33c6d93427857b266bab95", func := "apiary/apiarylaw21.PbfZig", spec := "pbfZig", unfollowed := true, recurses := true, apart := false, narrowed := true }
def PbfZigUptoSaid : Prop := pbfZigUptoRow.holds Try.pinned (OpenSpec.upto pbfZigSpec)

/-- 'apiarylaw21.PbfReads', WHERE WHAT IT READS IS OF BULK AT MOST 1048576: true; the input reads as it did. -/
def pbfReadsUptoRow : OpenClaim := { program := "ytjagonphgaphaaa", sum := "b104d6abf9f847af9c6652a2d9ad20acb39e3cb52e33c6d93427857b266bab95", func := "apiary/apiarylaw21.PbfReads", spec := "pbfReads", unfollowed := true, recurses := true, apart := false, narrowed := true }
def PbfReadsUptoSaid : Prop := pbfReadsUptoRow.holds Try.pinned (OpenSpec.upto pbfReadsSpec)

/-- 'apiarylaw21.PbfSmall', WHERE WHAT IT READS IS OF BULK AT MOST 1048576: true; the input reads as it did. -/
def pbfSmallUptoRow : OpenClaim := { program := "ytjagonphgaphaaa", sum := "b104d6abf9f847af9c6652a2d9ad20acb39e3cb52e33c6d93427857b266bab95", func := "apiary/apiarylaw21.PbfSmall", spec := "pbfSmall", unfollowed := true, recurses := true, apart := false, narrowed := true }
def PbfSmallUptoSaid : Prop := pbfSmallUptoRow.holds Try.pinned (OpenSpec.upto pbfSmallSpec)

/-- 'apiarylaw21.PbfWrites', WHERE WHAT IT READS IS OF BULK AT MOST 1048576: true; the input reads as it did. -/
def pbfWritesUptoRow : OpenClaim := { program := "ytjagonphgaphaaa", sum := "b104d6abf9f847af9c6652a2d9ad20acb39e3cb52e33c6d93427857b266bab95", func := "apiary/apiarylaw21.PbfWrites", spec := "pbfWrites", unfollowed := true, recurses := true, apart := false, narrowed := true }
def PbfWritesUptoSaid : Prop := pbfWritesUptoRow.holds Try.pinned (OpenSpec.upto pbfWritesSpec)

/-- 'apiarylaw21.PbfEnds', WHERE WHAT IT READS IS OF BULK AT MOST 1048576: true; the input reads as it did. -/
def pbfEndsUptoRow : OpenClaim := { program := "ytjagonphgaphaaa", sum := "b104d6abf9f847af9c6652a2d9ad20acb39e3cb52e33c6d93427857b266bab95", func := "apiary/apiarylaw21.PbfEnds", spec := "pbfEnds", unfollowed := true, recurses := true, apart := false, narrowed := true }
def PbfEndsUptoSaid : Prop := pbfEndsUptoRow.holds Try.pinned (OpenSpec.upto pbfEndsSpec)

/-- 'apiarylaw21.PbfBack', WHERE WHAT IT READS IS OF BULK AT MOST 1048576: true; the input reads as it did. -/
def pbfBackUptoRow : OpenClaim := { program := "ytjagonphgaphaaa", sum := "b104d6abf9f847af9c6652a2d9ad20acb39e3cb52e33c6d93427857b266bab95", func := "apiary/apiarylaw21.PbfBack", spec := "pbfBack", unfollowed := true, recurses := true, apart := false, narrowed := true }
def PbfBackUptoSaid : Prop := pbfBackUptoRow.holds Try.pinned (OpenSpec.upto pbfBackSpec)

end Rows
end Go.Proofs.Ytjagonphgaphaaa
