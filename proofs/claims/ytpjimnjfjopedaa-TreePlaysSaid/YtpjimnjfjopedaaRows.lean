/-
  No cell of these rows narrows 'for every input' (looked for: loops, veiled, ifaces, maps, wideKeys, modest, calm, conditions, laid).
  DERIVED. THE GIVEN ROWS OF THIS SEAT. 5 by the template 'for every input the law returns true; each argument reads behind the call as it read before'; 0 by the template 'total and deterministic' (their statements: YtpjimnjfjopedaaTotals.lean).
  GIVEN WITH THE SEED: the statements are not yours to turn. If you find one false, say at which input.
  Laid BY PROGRAM, IN A SANDBOX (cutbox-rows.mjs): the forced cells as the released guide's own fill.sh prints them over the translation 87d100420da1748b… (all of the seat's roots in one cut). By AI agents, Wed Nov 11 2026. No macro, syntax, notation, axiom, sorry.
-/
import Derived.Test.YtpjimnjfjopedaaChecked
import GoSem.Claim
import GoSem.ClaimJoined
import GoSem.ClaimMapViews
import Derived.JoinedTies
import Derived.KernelRfl
namespace Go.Proofs.Ytpjimnjfjopedaa
/- THE CELL 'sum', in the pinned program and in every row, IS THE sha256 OF THE DUMP (.gsa) THAT YtpjimnjfjopedaaProg.lean LOADS. Nothing in Lean hashes anything: it is a label: what it is worth is what the hold of that sum in a sandbox is worth. -/
noncomputable def Try.pinned : Pinned := { name := "ytpjimnjfjopedaa", sum := "87d100420da1748b680c5d98d466c0b722045985d9852d6b3fb6c5725dce94c1", checked := Try.checked }
namespace Rows
def none {H : Type} : Left H := { results := [], args := [] }

/-- 'apiarylaw17.TreeLess': WHATEVER THE INPUT: true; the input reads as it did. -/
def treeLessSpec : ChangeSpec := { name := "treeLess", fn := fun _ => fun
  | [d1, d2, d3] => { results := [.lit (.bool true)], args := [d1, d2, d3] }
  | _ => none }
def treeLessRow : OpenClaim := { program := "ytpjimnjfjopedaa", sum := "87d100420da1748b680c5d98d466c0b722045985d9852d6b3fb6c5725dce94c1", func := "apiary/apiarylaw17.TreeLess", spec := "treeLess", unfollowed := true, recurses := true, apart := false }
def TreeLessSaid : Prop := treeLessRow.holds Try.pinned (OpenSpec.ofChange treeLessSpec)

/-- ITS FALSE NEIGHBOUR: 'it returns false'. Refute it at one input. -/
def treeLessWrong : ChangeSpec := { name := "treeLess", fn := fun _ => fun
  | [d1, d2, d3] => { results := [.lit (.bool false)], args := [d1, d2, d3] }
  | _ => none }
def TreeLessWrongFalsely : Prop := treeLessRow.holds Try.pinned (OpenSpec.ofChange treeLessWrong)

/-- 'apiarylaw17.TreeBack': WHATEVER THE INPUT: true; the input reads as it did. -/
def treeBackSpec : ChangeSpec := { name := "treeBack", fn := fun _ => fun
  | [d1, d2] => { results := [.lit (.bool true)], args := [d1, d2] }
  | _ => none }
def treeBackRow : OpenClaim := { program := "ytpjimnjfjopedaa", sum := "87d100420da1748b680c5d98d466c0b722045985d9852d6b3fb6c5725dce94c1", func := "apiary/apiarylaw17.TreeBack", spec := "treeBack", unfollowed := true, recurses := true, apart := false }
def TreeBackSaid : Prop := treeBackRow.holds Try.pinned (OpenSpec.ofChange treeBackSpec)

/-- ITS FALSE NEIGHBOUR: 'it returns false'. Refute it at one input. -/
def treeBackWrong : ChangeSpec := { name := "treeBack", fn := fun _ => fun
  | [d1, d2] => { results := [.lit (.bool false)], args := [d1, d2] }
  | _ => none }
def TreeBackWrongFalsely : Prop := treeBackRow.holds Try.pinned (OpenSpec.ofChange treeBackWrong)

/-- 'apiarylaw17.TreeParts': WHATEVER THE INPUT: true; the input reads as it did. -/
def treePartsSpec : ChangeSpec := { name := "treeParts", fn := fun _ => fun
  | [d1, d2] => { results := [.lit (.bool true)], args := [d1, d2] }
  | _ => none }
def treePartsRow : OpenClaim := { program := "ytpjimnjfjopedaa", sum := "87d100420da1748b680c5d98d466c0b722045985d9852d6b3fb6c5725dce94c1", func := "apiary/apiarylaw17.TreeParts", spec := "treeParts", unfollowed := true, recurses := true, apart := false }
def TreePartsSaid : Prop := treePartsRow.holds Try.pinned (OpenSpec.ofChange treePartsSpec)

/-- ITS FALSE NEIGHBOUR: 'it returns false'. Refute it at one input. -/
def treePartsWrong : ChangeSpec := { name := "treeParts", fn := fun _ => fun
  | [d1, d2] => { results := [.lit (.bool false)], args := [d1, d2] }
  | _ => none }
def TreePartsWrongFalsely : Prop := treePartsRow.holds Try.pinned (OpenSpec.ofChange treePartsWrong)

/-- 'apiarylaw17.TreeMany': WHATEVER THE INPUT: true; the input reads as it did. -/
def treeManySpec : ChangeSpec := { name := "treeMany", fn := fun _ => fun
  | [d1, d2, d3] => { results := [.lit (.bool true)], args := [d1, d2, d3] }
  | _ => none }
def treeManyRow : OpenClaim := { program := "ytpjimnjfjopedaa", sum := "87d100420da1748b680c5d98d466c0b722045985d9852d6b3fb6c5725dce94c1", func := "apiary/apiarylaw17.TreeMany", spec := "treeMany", unfollowed := true, recurses := true, apart := false }
def TreeManySaid : Prop := treeManyRow.holds Try.pinned (OpenSpec.ofChange treeManySpec)

/-- ITS FALSE NEIGHBOUR: 'it returns false'. Refute it at one input. -/
def treeManyWrong : ChangeSpec := { name := "treeMany", fn := fun _ => fun
  | [d1, d2, d3] => { results := [.lit (.bool false)], args := [d1, d2, d3] }
  | _ => none }
def TreeManyWrongFalsely : Prop := treeManyRow.holds Try.pinned (OpenSpec.ofChange treeManyWrong)

/-- 'apiarylaw17.TreePlays': WHATEVER THE INPUT: true; the input reads as it did. -/
def treePlaysSpec : ChangeSpec := { name := "treePlays", fn := fun _ => fun
  | [d1, d2] => { results := [.lit (.bool true)], args := [d1, d2] }
  | _ => none }
def treePlaysRow : OpenClaim := { program := "ytpjimnjfjopedaa", sum := "87d100420da1748b680c5d98d466c0b722045985d9852d6b3fb6c5725dce94c1", func := "apiary/apiarylaw17.TreePlays", spec := "treePlays", unfollowed := true, recurses := true, apart := false }
def TreePlaysSaid : Prop := treePlaysRow.holds Try.pinned (OpenSpec.ofChange treePlaysSpec)

/-- ITS FALSE NEIGHBOUR: 'it returns false'. Refute it at one input. -/
def treePlaysWrong : ChangeSpec := { name := "treePlays", fn := fun _ => fun
  | [d1, d2] => { results := [.lit (.bool false)], args := [d1, d2] }
  | _ => none }
def TreePlaysWrongFalsely : Prop := treePlaysRow.holds Try.pinned (OpenSpec.ofChange treePlaysWrong)

/- THE SECOND FORM. 'bulk': how many values and letters a reading holds, each counted each time it is reached (what is shared counts as often as it is met; a slice's spare places count too). A statement '..UptoSaid' is the law's where the arguments, and the package variables that the reading takes, are together of bulk at most 1048576: NARROWER than '..Said'. Prove '..Said' where nothing that the law and all that it calls make is longer than what came in: it says more and counts as full. Else prove '..UptoSaid'. A law counts once. -/
mutual
def uptoBulk {H : Type} : DataW H → Nat
  | .lit (.string bytes) => bytes.length + 1
  | .lit _ => 1
  | .nil => 1
  | .ptr d => uptoBulk d + 1
  | .slice elems spare => uptoBulkAll elems + uptoBulkAll spare + 1
  | .agg parts => uptoBulkAll parts + 1
  | .iface _ d => uptoBulk d + 1
  | .map entries => uptoBulkEntries entries + 1
  | .held _ => 1
def uptoBulkAll {H : Type} : List (DataW H) → Nat
  | [] => 0
  | d :: r => uptoBulk d + uptoBulkAll r
def uptoBulkEntries {H : Type} : List (Lit × DataW H) → Nat
  | [] => 0
  | x :: r => uptoBulkEntry x + uptoBulkEntries r
def uptoBulkEntry {H : Type} : Lit × DataW H → Nat
  | (.string bytes, d) => bytes.length + uptoBulk d + 1
  | (_, d) => uptoBulk d + 1
 end
def uptoSmall : (H : Type) → List (DataW H) → Bool := fun _ ds => decide (uptoBulkAll ds ≤ 1048576)
def OpenSpec.upto (s : _root_.Go.ChangeSpec) : _root_.Go.OpenSpec := { _root_.Go.OpenSpec.ofChange s with cond := some uptoSmall }

/-- 'apiarylaw17.TreeLess', WHERE WHAT IT READS IS OF BULK AT MOST 1048576: true; the input reads as it did. -/
def treeLessUptoRow : OpenClaim := { program := "ytpjimnjfjopedaa", sum := "87d100420da1748b680c5d98d466c0b722045985d9852d6b3fb6c5725dce94c1", func := "apiary/apiarylaw17.TreeLess", spec := "treeLess", unfollowed := true, recurses := true, apart := false, narrowed := true }
def TreeLessUptoSaid : Prop := treeLessUptoRow.holds Try.pinned (OpenSpec.upto treeLessSpec)

/-- 'apiarylaw17.TreeBack', WHERE WHAT IT READS IS OF BULK AT MOST 1048576: true; the input reads as it did. -/
def treeBackUptoRow : OpenClaim := { program := "ytpjimnjfjopedaa", sum := "87d100420da1748b680c5d98d466c0b722045985d9852d6b3fb6c5725dce94c1", func := "apiary/apiarylaw17.TreeBack", spec := "treeBack", unfollowed := true, recurses := true, apart := false, narrowed := true }
def TreeBackUptoSaid : Prop := treeBackUptoRow.holds Try.pinned (OpenSpec.upto treeBackSpec)

/-- 'apiarylaw17.TreeParts', WHERE WHAT IT READS IS OF BULK AT MOST 1048576: true; the input reads as it did. -/
def treePartsUptoRow : OpenClaim := { program := "ytpjimnjfjopedaa", sum := "87d100420da1748b680c5d98d466c0b722045985d9852d6b3fb6c5725dce94c1", func := "apiary/apiarylaw17.TreeParts", spec := "treeParts", unfollowed := true, recurses := true, apart := false, narrowed := true }
def TreePartsUptoSaid : Prop := treePartsUptoRow.holds Try.pinned (OpenSpec.upto treePartsSpec)

/-- 'apiarylaw17.TreeMany', WHERE WHAT IT READS IS OF BULK AT MOST 1048576: true; the input reads as it did. -/
def treeManyUptoRow : OpenClaim := { program := "ytpjimnjfjopedaa", sum := "87d100420da1748b680c5d98d466c0b722045985d9852d6b3fb6c5725dce94c1", func := "apiary/apiarylaw17.TreeMany", spec := "treeMany", unfollowed := true, recurses := true, apart := false, narrowed := true }
def TreeManyUptoSaid : Prop := treeManyUptoRow.holds Try.pinned (OpenSpec.upto treeManySpec)

/-- 'apiarylaw17.TreePlays', WHERE WHAT IT READS IS OF BULK AT MOST 1048576: true; the input reads as it did. -/
def treePlaysUptoRow : OpenClaim := { program := "ytpjimnjfjopedaa", sum := "87d100420da1748b680c5d98d466c0b722045985d9852d6b3fb6c5725dce94c1", func := "apiary/apiarylaw17.TreePlays", spec := "treePlays", unfollowed := true, recurses := true, apart := false, narrowed := true }
def TreePlaysUptoSaid : Prop := treePlaysUptoRow.holds Try.pinned (OpenSpec.upto treePlaysSpec)

end Rows
end Go.Proofs.Ytpjimnjfjopedaa
