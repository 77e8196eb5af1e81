/-
  No cell of these rows narrows 'for every input' (looked for: loops, veiled, ifaces, maps, wideKeys, modest, calm, conditions, laid).
  DERIVED. THE GIVEN ROWS OF THIS SEAT. 7 by the template 'for every input the law returns true; each argument reads behind the call as it read before'; 0 by the template 'total and deterministic' (their statements: YtpibfnekkfhkmaaGreatTotals.lean).
  GIVEN WITH THE SEED: the statements are not yours to turn. If you find one false, say at which input.
  Laid BY PROGRAM, IN A SANDBOX (cutbox-rows.mjs): the forced cells as the released guide's own fill.sh prints them over the translation aff469c30544d81f… (all of the seat's roots in one cut). By AI agents, Wed Nov 11 2026. No macro, syntax, notation, axiom, sorry.
-/
import Derived.Test.YtpibfnekkfhkmaaGreatChecked
import GoSem.Claim
import GoSem.ClaimJoined
import GoSem.ClaimMapViews
import Derived.JoinedTies
import Derived.KernelRfl
namespace Go.Proofs.YtpibfnekkfhkmaaGreat
/- THE CELL 'sum', in the pinned program and in every row, IS THE sha256 OF THE DUMP (.gsa) THAT YtpibfnekkfhkmaaGreatProg.lean LOADS. Nothing in Lean hashes anything: it is a label: what it is worth is what the hold of that sum in a sandbox is worth. -/
noncomputable def Tryz.pinned : Pinned := { name := "ytpibfnekkfhkmaagreat", sum := "aff469c30544d81f27b000229f732070814ed40790cdc4f2da083dd2b5918953", checked := Tryz.checked }
namespace Rows
def none {H : Type} : Left H := { results := [], args := [] }

/-- 'apiarylaw23.TileTurns': WHATEVER THE INPUT: true; the input reads as it did. -/
def tileTurnsSpec : ChangeSpec := { name := "tileTurns", fn := fun _ => fun
  | [d1, d2, d3] => { results := [.lit (.bool true)], args := [d1, d2, d3] }
  | _ => none }
def tileTurnsRow : OpenClaim := { program := "ytpibfnekkfhkmaagreat", sum := "aff469c30544d81f27b000229f732070814ed40790cdc4f2da083dd2b5918953", func := "apiary/apiarylaw23.TileTurns", spec := "tileTurns", inPlace := ["math/bits.Add64", "math/bits.Sub64"], unfollowed := true, recurses := true, apart := false }
def TileTurnsSaid : Prop := tileTurnsRow.holds Tryz.pinned (OpenSpec.ofChange tileTurnsSpec)

/-- ITS FALSE NEIGHBOUR: 'it returns false'. Refute it at one input. -/
def tileTurnsWrong : ChangeSpec := { name := "tileTurns", fn := fun _ => fun
  | [d1, d2, d3] => { results := [.lit (.bool false)], args := [d1, d2, d3] }
  | _ => none }
def TileTurnsWrongFalsely : Prop := tileTurnsRow.holds Tryz.pinned (OpenSpec.ofChange tileTurnsWrong)

/-- 'apiarylaw23.TileShapes': WHATEVER THE INPUT: true; the input reads as it did. -/
def tileShapesSpec : ChangeSpec := { name := "tileShapes", fn := fun _ => fun
  | [d1, d2, d3, d4, d5] => { results := [.lit (.bool true)], args := [d1, d2, d3, d4, d5] }
  | _ => none }
def tileShapesRow : OpenClaim := { program := "ytpibfnekkfhkmaagreat", sum := "aff469c30544d81f27b000229f732070814ed40790cdc4f2da083dd2b5918953", func := "apiary/apiarylaw23.TileShapes", spec := "tileShapes", inPlace := ["math/bits.Add64", "math/bits.Sub64"], unfollowed := true, recurses := true, apart := false }
def TileShapesSaid : Prop := tileShapesRow.holds Tryz.pinned (OpenSpec.ofChange tileShapesSpec)

/-- ITS FALSE NEIGHBOUR: 'it returns false'. Refute it at one input. -/
def tileShapesWrong : ChangeSpec := { name := "tileShapes", fn := fun _ => fun
  | [d1, d2, d3, d4, d5] => { results := [.lit (.bool false)], args := [d1, d2, d3, d4, d5] }
  | _ => none }
def TileShapesWrongFalsely : Prop := tileShapesRow.holds Tryz.pinned (OpenSpec.ofChange tileShapesWrong)

/-- 'apiarylaw23.TileDraws': WHATEVER THE INPUT: true; the input reads as it did. -/
def tileDrawsSpec : ChangeSpec := { name := "tileDraws", fn := fun _ => fun
  | [d1, d2, d3, d4] => { results := [.lit (.bool true)], args := [d1, d2, d3, d4] }
  | _ => none }
def tileDrawsRow : OpenClaim := { program := "ytpibfnekkfhkmaagreat", sum := "aff469c30544d81f27b000229f732070814ed40790cdc4f2da083dd2b5918953", func := "apiary/apiarylaw23.TileDraws", spec := "tileDraws", inPlace := ["math/bits.Add64", "math/bits.Sub64"], unfollowed := true, recurses := true, apart := false }
def TileDrawsSaid : Prop := tileDrawsRow.holds Tryz.pinned (OpenSpec.ofChange tileDrawsSpec)

/-- ITS FALSE NEIGHBOUR: 'it returns false'. Refute it at one input. -/
def tileDrawsWrong : ChangeSpec := { name := "tileDraws", fn := fun _ => fun
  | [d1, d2, d3, d4] => { results := [.lit (.bool false)], args := [d1, d2, d3, d4] }
  | _ => none }
def TileDrawsWrongFalsely : Prop := tileDrawsRow.holds Tryz.pinned (OpenSpec.ofChange tileDrawsWrong)

/-- 'apiarylaw23.TileReads': WHATEVER THE INPUT: true; the input reads as it did. -/
def tileReadsSpec : ChangeSpec := { name := "tileReads", fn := fun _ => fun
  | [d1, d2, d3, d4, d5, d6, d7, d8] => { results := [.lit (.bool true)], args := [d1, d2, d3, d4, d5, d6, d7, d8] }
  | _ => none }
def tileReadsRow : OpenClaim := { program := "ytpibfnekkfhkmaagreat", sum := "aff469c30544d81f27b000229f732070814ed40790cdc4f2da083dd2b5918953", func := "apiary/apiarylaw23.TileReads", spec := "tileReads", inPlace := ["math/bits.Add64", "math/bits.Sub64"], unfollowed := true, recurses := true, apart := false }
def TileReadsSaid : Prop := tileReadsRow.holds Tryz.pinned (OpenSpec.ofChange tileReadsSpec)

/-- ITS FALSE NEIGHBOUR: 'it returns false'. Refute it at one input. -/
def tileReadsWrong : ChangeSpec := { name := "tileReads", fn := fun _ => fun
  | [d1, d2, d3, d4, d5, d6, d7, d8] => { results := [.lit (.bool false)], args := [d1, d2, d3, d4, d5, d6, d7, d8] }
  | _ => none }
def TileReadsWrongFalsely : Prop := tileReadsRow.holds Tryz.pinned (OpenSpec.ofChange tileReadsWrong)

/-- 'apiarylaw23.TileSums': WHATEVER THE INPUT: true; the input reads as it did. -/
def tileSumsSpec : ChangeSpec := { name := "tileSums", fn := fun _ => fun
  | [d1, d2, d3] => { results := [.lit (.bool true)], args := [d1, d2, d3] }
  | _ => none }
def tileSumsRow : OpenClaim := { program := "ytpibfnekkfhkmaagreat", sum := "aff469c30544d81f27b000229f732070814ed40790cdc4f2da083dd2b5918953", func := "apiary/apiarylaw23.TileSums", spec := "tileSums", inPlace := ["math/bits.Add64", "math/bits.Sub64"], unfollowed := true, recurses := true, apart := false }
def TileSumsSaid : Prop := tileSumsRow.holds Tryz.pinned (OpenSpec.ofChange tileSumsSpec)

/-- ITS FALSE NEIGHBOUR: 'it returns false'. Refute it at one input. -/
def tileSumsWrong : ChangeSpec := { name := "tileSums", fn := fun _ => fun
  | [d1, d2, d3] => { results := [.lit (.bool false)], args := [d1, d2, d3] }
  | _ => none }
def TileSumsWrongFalsely : Prop := tileSumsRow.holds Tryz.pinned (OpenSpec.ofChange tileSumsWrong)

/-- 'apiarylaw23.TileFeatures': WHATEVER THE INPUT: true; the input reads as it did. -/
def tileFeaturesSpec : ChangeSpec := { name := "tileFeatures", fn := fun _ => fun
  | [d1, d2, d3] => { results := [.lit (.bool true)], args := [d1, d2, d3] }
  | _ => none }
def tileFeaturesRow : OpenClaim := { program := "ytpibfnekkfhkmaagreat", sum := "aff469c30544d81f27b000229f732070814ed40790cdc4f2da083dd2b5918953", func := "apiary/apiarylaw23.TileFeatures", spec := "tileFeatures", inPlace := ["math/bits.Add64", "math/bits.Sub64"], unfollowed := true, recurses := true, apart := false }
def TileFeaturesSaid : Prop := tileFeaturesRow.holds Tryz.pinned (OpenSpec.ofChange tileFeaturesSpec)

/-- ITS FALSE NEIGHBOUR: 'it returns false'. Refute it at one input. -/
def tileFeaturesWrong : ChangeSpec := { name := "tileFeatures", fn := fun _ => fun
  | [d1, d2, d3] => { results := [.lit (.bool false)], args := [d1, d2, d3] }
  | _ => none }
def TileFeaturesWrongFalsely : Prop := tileFeaturesRow.holds Tryz.pinned (OpenSpec.ofChange tileFeaturesWrong)

/-- 'apiarylaw23.TileOne': WHATEVER THE INPUT: true; the input reads as it did. -/
def tileOneSpec : ChangeSpec := { name := "tileOne", fn := fun _ => fun
  | [d1, d2, d3] => { results := [.lit (.bool true)], args := [d1, d2, d3] }
  | _ => none }
def tileOneRow : OpenClaim := { program := "ytpibfnekkfhkmaagreat", sum := "aff469c30544d81f27b000229f732070814ed40790cdc4f2da083dd2b5918953", func := "apiary/apiarylaw23.TileOne", spec := "tileOne", inPlace := ["math/bits.Add64", "math/bits.Sub64"], unfollowed := true, recurses := true, apart := false }
def TileOneSaid : Prop := tileOneRow.holds Tryz.pinned (OpenSpec.ofChange tileOneSpec)

/-- ITS FALSE NEIGHBOUR: 'it returns false'. Refute it at one input. -/
def tileOneWrong : ChangeSpec := { name := "tileOne", fn := fun _ => fun
  | [d1, d2, d3] => { results := [.lit (.bool false)], args := [d1, d2, d3] }
  | _ => none }
def TileOneWrongFalsely : Prop := tileOneRow.holds Tryz.pinned (OpenSpec.ofChange tileOneWrong)

/- THE SECOND FORM. 'bulk': how many values and letters a reading holds, each counted each time it is reached (what is shared counts as often as it is met; a slice's spare places count too). A statement '..UptoSaid' is the law's where the arguments, and the package variables that the reading takes, are together of bulk at most 1048576: NARROWER than '..Said'. Prove '..Said' where nothing that the law and all that it calls make is longer than what came in: it says more and counts as full. Else prove '..UptoSaid'. A law counts once. -/
mutual
def uptoBulk {H : Type} : DataW H → Nat
  | .lit (.string bytes) => bytes.length + 1
  | .lit _ => 1
  | .nil => 1
  | .ptr d => uptoBulk d + 1
  | .slice elems spare => uptoBulkAll elems + uptoBulkAll spare + 1
  | .agg parts => uptoBulkAll parts + 1
  | .iface _ d => uptoBulk d + 1
  | .map entries => uptoBulkEntries entries + 1
  | .held _ => 1
def uptoBulkAll {H : Type} : List (DataW H) → Nat
  | [] => 0
  | d :: r => uptoBulk d + uptoBulkAll r
def uptoBulkEntries {H : Type} : List (Lit × DataW H) → Nat
  | [] => 0
  | x :: r => uptoBulkEntry x + uptoBulkEntries r
def uptoBulkEntry {H : Type} : Lit × DataW H → Nat
  | (.string bytes, d) => bytes.length + uptoBulk d + 1
  | (_, d) => uptoBulk d + 1
 end
def uptoSmall : (H : Type) → List (DataW H) → Bool := fun _ ds => decide (uptoBulkAll ds ≤ 1048576)
def OpenSpec.upto (s : _root_.Go.ChangeSpec) : _root_.Go.OpenSpec := { _root_.Go.OpenSpec.ofChange s with cond := some uptoSmall }

/-- 'apiarylaw23.TileTurns', WHERE WHAT IT READS IS OF BULK AT MOST 1048576: true; the input reads as it did. -/
def tileTurnsUptoRow : OpenClaim := { program := "ytpibfnekkfhkmaagreat", sum := "aff469c30544d81f27b000229f732070814ed40790cdc4f2da083dd2b5918953", func := "apiary/apiarylaw23.TileTurns", spec := "tileTurns", inPlace := ["math/bits.Add64", "math/bits.Sub64"], unfollowed := true, recurses := true, apart := false, narrowed := true }
def TileTurnsUptoSaid : Prop := tileTurnsUptoRow.holds Tryz.pinned (OpenSpec.upto tileTurnsSpec)

/-- 'apiarylaw23.TileShapes', WHERE WHAT IT READS IS OF BULK AT MOST 1048576: true; the input reads as it did. -/
def tileShapesUptoRow : OpenClaim := { program := "ytpibfnekkfhkmaagreat", sum := "aff469c30544d81f27b000229f732070814ed40790cdc4f2da083dd2b5918953", func := "apiary/apiarylaw23.TileShapes", spec := "tileShapes", inPlace := ["math/bits.Add64", "math/bits.Sub64"], unfollowed := true, recurses := true, apart := false, narrowed := true }
def TileShapesUptoSaid : Prop := tileShapesUptoRow.holds Tryz.pinned (OpenSpec.upto tileShapesSpec)

/-- 'apiarylaw23.TileDraws', WHERE WHAT IT READS IS OF BULK AT MOST 1048576: true; the input reads as it did. -/
def tileDrawsUptoRow : OpenClaim := { program := "ytpibfnekkfhkmaagreat", sum := "aff469c30544d81f27b000229f732070814ed40790cdc4f2da083dd2b5918953", func := "apiary/apiarylaw23.TileDraws", spec := "tileDraws", inPlace := ["math/bits.Add64", "math/bits.Sub64"], unfollowed := true, recurses := true, apart := false, narrowed := true }
def TileDrawsUptoSaid : Prop := tileDrawsUptoRow.holds Tryz.pinned (OpenSpec.upto tileDrawsSpec)

/-- 'apiarylaw23.TileReads', WHERE WHAT IT READS IS OF BULK AT MOST 1048576: true; the input reads as it did. -/
def tileReadsUptoRow : OpenClaim := { program := "ytpibfnekkfhkmaagreat", sum := "aff469c30544d81f27b000229f732070814ed40790cdc4f2da083dd2b5918953", func := "apiary/apiarylaw23.TileReads", spec := "tileReads", inPlace := ["math/bits.Add64", "math/bits.Sub64"], unfollowed := true, recurses := true, apart := false, narrowed := true }
def TileReadsUptoSaid : Prop := tileReadsUptoRow.holds Tryz.pinned (OpenSpec.upto tileReadsSpec)

/-- 'apiarylaw23.TileSums', WHERE WHAT IT READS IS OF BULK AT MOST 1048576: true; the input reads as it did. -/
def tileSumsUptoRow : OpenClaim := { program := "ytpibfnekkfhkmaagreat", sum := "aff469c30544d81f27b000229f732070814ed40790cdc4f2da083dd2b5918953", func := "apiary/apiarylaw23.TileSums", spec := "tileSums", inPlace := ["math/bits.Add64", "math/bits.Sub64"], unfollowed := true, recurses := true, apart := false, narrowed := true }
def TileSumsUptoSaid : Prop := tileSumsUptoRow.holds Tryz.pinned (OpenSpec.upto tileSumsSpec)

/-- 'apiarylaw23.TileFeatures', WHERE WHAT IT READS IS OF BULK AT MOST 1048576: true; the input reads as it did. -/
def tileFeaturesUptoRow : OpenClaim := { program := "ytpibfnekkfhkmaagreat", sum := "aff469c30544d81f27b000229f732070814ed40790cdc4f2da083dd2b5918953", func := "apiary/apiarylaw23.TileFeatures", spec := "tileFeatures", inPlace := ["math/bits.Add64", "math/bits.Sub64"], unfollowed := true, recurses := true, apart := false, narrowed := true }
def TileFeaturesUptoSaid : Prop := tileFeaturesUptoRow.holds Tryz.pinned (OpenSpec.upto tileFeaturesSpec)

/-- 'apiarylaw23.TileOne', WHERE WHAT IT READS IS OF BULK AT MOST 1048576: true; the input reads as it did. -/
def tileOneUptoRow : OpenClaim := { program := "ytpibfnekkfhkmaagreat", sum := "aff469c30544d81f27b000229f732070814ed40790cdc4f2da083dd2b5918953", func := "apiary/apiarylaw23.TileOne", spec := "tileOne", inPlace := ["math/bits.Add64", "math/bits.Sub64"], unfollowed := true, recurses := true, apart := false, narrowed := true }
def TileOneUptoSaid : Prop := tileOneUptoRow.holds Tryz.pinned (OpenSpec.upto tileOneSpec)

end Rows
end Go.Proofs.YtpibfnekkfhkmaaGreat
