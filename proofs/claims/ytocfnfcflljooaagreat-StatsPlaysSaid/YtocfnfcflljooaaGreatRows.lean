/-
  No cell of these rows narrows 'for every input' (looked for: loops, veiled, ifaces, maps, wideKeys, modest, calm, conditions, laid).
  DERIVED. THE GIVEN ROWS OF THIS SEAT. 4 by the template 'for every input the law returns true; each argument reads behind the call as it read before'; 0 by the template 'total and deterministic' (their statements: YtocfnfcflljooaaGreatTotals.lean).
  GIVEN WITH THE SEED: the statements are not yours to turn. If you find one false, say at which input.
  Laid BY PROGRAM, IN A SANDBOX (cutbox-rows.mjs): the forced cells as the released guide's own fill.sh prints them over the translation 4148732287c02779… (all of the seat's roots in one cut). By AI agents, Wed Nov 11 2026. No macro, syntax, notation, axiom, sorry.
-/
import Derived.Test.YtocfnfcflljooaaGreatChecked
import GoSem.Claim
import GoSem.ClaimJoined
import GoSem.ClaimMapViews
import Derived.JoinedTies
import Derived.KernelRfl
namespace Go.Proofs.YtocfnfcflljooaaGreat
/- THE CELL 'sum', in the pinned program and in every row, IS THE sha256 OF THE DUMP (.gsa) THAT YtocfnfcflljooaaGreatProg.lean LOADS. Nothing in Lean hashes anything: it is a label: what it is worth is what the hold of that sum in a sandbox is worth. -/
noncomputable def Tryz.pinned : Pinned := { name := "ytocfnfcflljooaagreat", sum := "4148732287c02779a866b6aaea71dd60edd7cb2dc9e901ccf5757db3beb6afd7", checked := Tryz.checked }
namespace Rows
def none {H : Type} : Left H := { results := [], args := [] }

/-- 'apiarylaw18.StatsOrder': WHATEVER THE INPUT: true; the input reads as it did. -/
def statsOrderSpec : ChangeSpec := { name := "statsOrder", fn := fun _ => fun
  | [d1, d2, d3] => { results := [.lit (.bool true)], args := [d1, d2, d3] }
  | _ => none }
def statsOrderRow : OpenClaim := { program := "ytocfnfcflljooaagreat", sum := "4148732287c02779a866b6aaea71dd60edd7cb2dc9e901ccf5757db3beb6afd7", func := "apiary/apiarylaw18.StatsOrder", spec := "statsOrder", inPlace := ["math/bits.Add64", "math/bits.Sub64"], unfollowed := true, recurses := true, apart := false }
def StatsOrderSaid : Prop := statsOrderRow.holds Tryz.pinned (OpenSpec.ofChange statsOrderSpec)

/-- ITS FALSE NEIGHBOUR: 'it returns false'. Refute it at one input. -/
def statsOrderWrong : ChangeSpec := { name := "statsOrder", fn := fun _ => fun
  | [d1, d2, d3] => { results := [.lit (.bool false)], args := [d1, d2, d3] }
  | _ => none }
def StatsOrderWrongFalsely : Prop := statsOrderRow.holds Tryz.pinned (OpenSpec.ofChange statsOrderWrong)

/-- 'apiarylaw18.StatsOnce': WHATEVER THE INPUT: true; the input reads as it did. -/
def statsOnceSpec : ChangeSpec := { name := "statsOnce", fn := fun _ => fun
  | [d1, d2] => { results := [.lit (.bool true)], args := [d1, d2] }
  | _ => none }
def statsOnceRow : OpenClaim := { program := "ytocfnfcflljooaagreat", sum := "4148732287c02779a866b6aaea71dd60edd7cb2dc9e901ccf5757db3beb6afd7", func := "apiary/apiarylaw18.StatsOnce", spec := "statsOnce", inPlace := ["math/bits.Add64", "math/bits.Sub64"], unfollowed := true, recurses := true, apart := false }
def StatsOnceSaid : Prop := statsOnceRow.holds Tryz.pinned (OpenSpec.ofChange statsOnceSpec)

/-- ITS FALSE NEIGHBOUR: 'it returns false'. Refute it at one input. -/
def statsOnceWrong : ChangeSpec := { name := "statsOnce", fn := fun _ => fun
  | [d1, d2] => { results := [.lit (.bool false)], args := [d1, d2] }
  | _ => none }
def StatsOnceWrongFalsely : Prop := statsOnceRow.holds Tryz.pinned (OpenSpec.ofChange statsOnceWrong)

/-- 'apiarylaw18.StatsTop': WHATEVER THE INPUT: true; the input reads as it did. -/
def statsTopSpec : ChangeSpec := { name := "statsTop", fn := fun _ => fun
  | [d1, d2, d3] => { results := [.lit (.bool true)], args := [d1, d2, d3] }
  | _ => none }
def statsTopRow : OpenClaim := { program := "ytocfnfcflljooaagreat", sum := "4148732287c02779a866b6aaea71dd60edd7cb2dc9e901ccf5757db3beb6afd7", func := "apiary/apiarylaw18.StatsTop", spec := "statsTop", inPlace := ["math/bits.Add64", "math/bits.Sub64"], unfollowed := true, recurses := true, apart := false }
def StatsTopSaid : Prop := statsTopRow.holds Tryz.pinned (OpenSpec.ofChange statsTopSpec)

/-- ITS FALSE NEIGHBOUR: 'it returns false'. Refute it at one input. -/
def statsTopWrong : ChangeSpec := { name := "statsTop", fn := fun _ => fun
  | [d1, d2, d3] => { results := [.lit (.bool false)], args := [d1, d2, d3] }
  | _ => none }
def StatsTopWrongFalsely : Prop := statsTopRow.holds Tryz.pinned (OpenSpec.ofChange statsTopWrong)

/-- 'apiarylaw18.StatsPlays': WHATEVER THE INPUT: true; the input reads as it did. -/
def statsPlaysSpec : ChangeSpec := { name := "statsPlays", fn := fun _ => fun
  | [d1, d2, d3, d4, d5, d6] => { results := [.lit (.bool true)], args := [d1, d2, d3, d4, d5, d6] }
  | _ => none }
def statsPlaysRow : OpenClaim := { program := "ytocfnfcflljooaagreat", sum := "4148732287c02779a866b6aaea71dd60edd7cb2dc9e901ccf5757db3beb6afd7", func := "apiary/apiarylaw18.StatsPlays", spec := "statsPlays", inPlace := ["math/bits.Add64", "math/bits.Sub64", "slices.overlaps[apiary/api.Point]"], unfollowed := true, recurses := true, apart := false }
def StatsPlaysSaid : Prop := statsPlaysRow.holds Tryz.pinned (OpenSpec.ofChange statsPlaysSpec)

/-- ITS FALSE NEIGHBOUR: 'it returns false'. Refute it at one input. -/
def statsPlaysWrong : ChangeSpec := { name := "statsPlays", fn := fun _ => fun
  | [d1, d2, d3, d4, d5, d6] => { results := [.lit (.bool false)], args := [d1, d2, d3, d4, d5, d6] }
  | _ => none }
def StatsPlaysWrongFalsely : Prop := statsPlaysRow.holds Tryz.pinned (OpenSpec.ofChange statsPlaysWrong)

/- THE SECOND FORM. 'bulk': how many values and letters a reading holds, each counted each time it is reached (what is shared counts as often as it is met; a slice's spare places count too). A statement '..UptoSaid' is the law's where the arguments, and the package variables that the reading takes, are together of bulk at most 1048576: NARROWER than '..Said'. Prove '..Said' where nothing that the law and all that it calls make is longer than what came in: it says more and counts as full. Else prove '..UptoSaid'. A law counts once. -/
mutual
def uptoBulk {H : Type} : DataW H → Nat
  | .lit (.string bytes) => bytes.length + 1
  | .lit _ => 1
  | .nil => 1
  | .ptr d => uptoBulk d + 1
  | .slice elems spare => uptoBulkAll elems + uptoBulkAll spare + 1
  | .agg parts => uptoBulkAll parts + 1
  | .iface _ d => uptoBulk d + 1
  | .map entries => uptoBulkEntries entries + 1
  | .held _ => 1
def uptoBulkAll {H : Type} : List (DataW H) → Nat
  | [] => 0
  | d :: r => uptoBulk d + uptoBulkAll r
def uptoBulkEntries {H : Type} : List (Lit × DataW H) → Nat
  | [] => 0
  | x :: r => uptoBulkEntry x + uptoBulkEntries r
def uptoBulkEntry {H : Type} : Lit × DataW H → Nat
  | (.string bytes, d) => bytes.length + uptoBulk d + 1
  | (_, d) => uptoBulk d + 1
 end
def uptoSmall : (H : Type) → List (DataW H) → Bool := fun _ ds => decide (uptoBulkAll ds ≤ 1048576)
def OpenSpec.upto (s : _root_.Go.ChangeSpec) : _root_.Go.OpenSpec := { _root_.Go.OpenSpec.ofChange s with cond := some uptoSmall }

/-- 'apiarylaw18.StatsOrder', WHERE WHAT IT READS IS OF BULK AT MOST 1048576: true; the input reads as it did. -/
def statsOrderUptoRow : OpenClaim := { program := "ytocfnfcflljooaagreat", sum := "4148732287c02779a866b6aaea71dd60edd7cb2dc9e901ccf5757db3beb6afd7", func := "apiary/apiarylaw18.StatsOrder", spec := "statsOrder", inPlace := ["math/bits.Add64", "math/bits.Sub64"], unfollowed := true, recurses := true, apart := false, narrowed := true }
def StatsOrderUptoSaid : Prop := statsOrderUptoRow.holds Tryz.pinned (OpenSpec.upto statsOrderSpec)

/-- 'apiarylaw18.StatsOnce', WHERE WHAT IT READS IS OF BULK AT MOST 1048576: true; the input reads as it did. -/
def statsOnceUptoRow : OpenClaim := { program := "ytocfnfcflljooaagreat", sum := "4148732287c02779a866b6aaea71dd60edd7cb2dc9e901ccf5757db3beb6afd7", func := "apiary/apiarylaw18.StatsOnce", spec := "statsOnce", inPlace := ["math/bits.Add64", "math/bits.Sub64"], unfollowed := true, recurses := true, apart := false, narrowed := true }
def StatsOnceUptoSaid : Prop := statsOnceUptoRow.holds Tryz.pinned (OpenSpec.upto statsOnceSpec)

/-- 'apiarylaw18.StatsTop', WHERE WHAT IT READS IS OF BULK AT MOST 1048576: true; the input reads as it did. -/
def statsTopUptoRow : OpenClaim := { program := "ytocfnfcflljooaagreat", sum := "4148732287c02779a866b6aaea71dd60edd7cb2dc9e901ccf5757db3beb6afd7", func := "apiary/apiarylaw18.StatsTop", spec := "statsTop", inPlace := ["math/bits.Add64", "math/bits.Sub64"], unfollowed := true, recurses := true, apart := false, narrowed := true }
def StatsTopUptoSaid : Prop := statsTopUptoRow.holds Tryz.pinned (OpenSpec.upto statsTopSpec)

/-- 'apiarylaw18.StatsPlays', WHERE WHAT IT READS IS OF BULK AT MOST 1048576: true; the input reads as it did. -/
def statsPlaysUptoRow : OpenClaim := { program := "ytocfnfcflljooaagreat", sum := "4148732287c02779a866b6aaea71dd60edd7cb2dc9e901ccf5757db3beb6afd7", func := "apiary/apiarylaw18.StatsPlays", spec := "statsPlays", inPlace := ["math/bits.Add64", "math/bits.Sub64", "slices.overlaps[apiary/api.Point]"], unfollowed := true, recurses := true, apart := false, narrowed := true }
def StatsPlaysUptoSaid : Prop := statsPlaysUptoRow.holds Tryz.pinned (OpenSpec.upto statsPlaysSpec)

end Rows
end Go.Proofs.YtocfnfcflljooaaGreat
