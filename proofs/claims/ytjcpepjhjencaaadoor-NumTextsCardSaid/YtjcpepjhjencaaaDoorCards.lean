/-
  DERIVED. GIVEN WITH THE SEED: THE CARDS: each row of YtjcpepjhjencaaaDoorRows.lean that lists a variable, with what it lists TIED to the program's text (the seventh form; the later family's looks); each row that meets fmt, with fmt's text TOLD by the authors' own Lean function (tested against real Go, not proved from fmt's source: count such statements apart). THE CARD IS WHAT COUNTS. Prove the row's statement (the work); the ties are given (YtjcpepjhjencaaaDoorTie.lean); close each card by the builder's one call (the guide's Derived/Test/ToyasCard.lean, 'card_holds'). Laid BY PROGRAM, IN A SANDBOX (cutbox-door.mjs). By AI agents, Wed Nov 11 2026. No macro, syntax, notation, axiom, sorry.
-/
import Derived.Test.YtjcpepjhjencaaaDoorRows
import GoSem.ClaimSeven
namespace Go.Proofs.YtjcpepjhjencaaaDoor
namespace Rows

/-- THE TIED CARD OF 'apiarylaw1.NumOrder'. -/
def numOrderCard : Claim7 := { stood := { row := numOrderRow, standIns := [], harness := (true, "e4373bd58d6efaa02d295329af1addb0d7ae2410171719146fda43c5508fdbc2"), looks := true }, kinds := [], alts := [], laidByText := true, laidKinds := [.data, .data, .data], laidTests := true, laidLooks := .later }
def NumOrderCardSaid : Prop := Claim7.holds Tryd.pinned (.plain (OpenSpec.ofChange numOrderSpec)) numOrderCard

/-- THE TIED CARD OF 'apiarylaw1.NumPowers'. -/
def numPowersCard : Claim7 := { stood := { row := numPowersRow, standIns := [], harness := (true, "e4373bd58d6efaa02d295329af1addb0d7ae2410171719146fda43c5508fdbc2"), looks := true }, kinds := [], alts := [], laidByText := true, laidKinds := [.data, .data, .data], laidTests := true, laidLooks := .later }
def NumPowersCardSaid : Prop := Claim7.holds Tryd.pinned (.plain (OpenSpec.ofChange numPowersSpec)) numPowersCard

/-- THE TIED CARD OF 'apiarylaw1.NumReckons'. -/
def numReckonsCard : Claim7 := { stood := { row := numReckonsRow, standIns := [], harness := (true, "e4373bd58d6efaa02d295329af1addb0d7ae2410171719146fda43c5508fdbc2"), looks := true }, kinds := [], alts := [], laidByText := true, laidKinds := [.data, .data, .data], laidTests := true, laidLooks := .later }
def NumReckonsCardSaid : Prop := Claim7.holds Tryd.pinned (.plain (OpenSpec.ofChange numReckonsSpec)) numReckonsCard

/-- THE TIED CARD OF 'apiarylaw1.NumEnds'. -/
def numEndsCard : Claim7 := { stood := { row := numEndsRow, standIns := [], harness := (true, "e4373bd58d6efaa02d295329af1addb0d7ae2410171719146fda43c5508fdbc2"), looks := true }, kinds := [], alts := [], laidByText := true, laidKinds := [.data, .data, .data], laidTests := true, laidLooks := .later }
def NumEndsCardSaid : Prop := Claim7.holds Tryd.pinned (.plain (OpenSpec.ofChange numEndsSpec)) numEndsCard

/-- THE TIED CARD OF 'apiarylaw1.NumBack'. -/
def numBackCard : Claim7 := { stood := { row := numBackRow, standIns := [], harness := (true, "e4373bd58d6efaa02d295329af1addb0d7ae2410171719146fda43c5508fdbc2"), looks := true }, kinds := [], alts := [], laidByText := true, laidKinds := [.data, .data, .data], laidTests := true, laidLooks := .later }
def NumBackCardSaid : Prop := Claim7.holds Tryd.pinned (.plain (OpenSpec.ofChange numBackSpec)) numBackCard

/-- THE TIED CARD OF 'apiarylaw1.NumFloors'. -/
def numFloorsCard : Claim7 := { stood := { row := numFloorsRow, standIns := [], harness := (true, "e4373bd58d6efaa02d295329af1addb0d7ae2410171719146fda43c5508fdbc2"), looks := true }, kinds := [], alts := [], laidByText := true, laidKinds := [.data, .data, .data], laidTests := true, laidLooks := .later }
def NumFloorsCardSaid : Prop := Claim7.holds Tryd.pinned (.plain (OpenSpec.ofChange numFloorsSpec)) numFloorsCard

/-- THE TIED CARD OF 'apiarylaw1.NumTexts'. -/
def numTextsCard : Claim7 := { stood := { row := numTextsRow, standIns := [], harness := (true, "e4373bd58d6efaa02d295329af1addb0d7ae2410171719146fda43c5508fdbc2"), looks := true }, kinds := [], alts := [], laidByText := true, laidKinds := [.data, .data, .data, .sentinel, .sentinel], laidTests := true, laidLooks := .later }
def NumTextsCardSaid : Prop := Claim7.holds Tryd.pinned (.plain (OpenSpec.ofChange numTextsSpec)) numTextsCard

/-- THE SECOND FORM's CARD OF 'apiarylaw1.NumOrder'. -/
def numOrderUptoCard : Claim7 := { stood := { row := numOrderUptoRow, standIns := [], harness := (true, "e4373bd58d6efaa02d295329af1addb0d7ae2410171719146fda43c5508fdbc2"), looks := true }, kinds := [], alts := [], laidByText := true, laidKinds := [.data, .data, .data], laidTests := true, laidLooks := .later }
def NumOrderUptoCardSaid : Prop := Claim7.holds Tryd.pinned (.plain (OpenSpec.upto numOrderSpec)) numOrderUptoCard

/-- THE SECOND FORM's CARD OF 'apiarylaw1.NumPowers'. -/
def numPowersUptoCard : Claim7 := { stood := { row := numPowersUptoRow, standIns := [], harness := (true, "e4373bd58d6efaa02d295329af1addb0d7ae2410171719146fda43c5508fdbc2"), looks := true }, kinds := [], alts := [], laidByText := true, laidKinds := [.data, .data, .data], laidTests := true, laidLooks := .later }
def NumPowersUptoCardSaid : Prop := Claim7.holds Tryd.pinned (.plain (OpenSpec.upto numPowersSpec)) numPowersUptoCard

/-- THE SECOND FORM's CARD OF 'apiarylaw1.NumReckons'. -/
def numReckonsUptoCard : Claim7 := { stood := { row := numReckonsUptoRow, standIns := [], harness := (true, "e4373bd58d6efaa02d295329af1addb0d7ae2410171719146fda43c5508fdbc2"), looks := true }, kinds := [], alts := [], laidByText := true, laidKinds := [.data, .data, .data], laidTests := true, laidLooks := .later }
def NumReckonsUptoCardSaid : Prop := Claim7.holds Tryd.pinned (.plain (OpenSpec.upto numReckonsSpec)) numReckonsUptoCard

/-- THE SECOND FORM's CARD OF 'apiarylaw1.NumEnds'. -/
def numEndsUptoCard : Claim7 := { stood := { row := numEndsUptoRow, standIns := [], harness := (true, "e4373bd58d6efaa02d295329af1addb0d7ae2410171719146fda43c5508fdbc2"), looks := true }, kinds := [], alts := [], laidByText := true, laidKinds := [.data, .data, .data], laidTests := true, laidLooks := .later }
def NumEndsUptoCardSaid : Prop := Claim7.holds Tryd.pinned (.plain (OpenSpec.upto numEndsSpec)) numEndsUptoCard

/-- THE SECOND FORM's CARD OF 'apiarylaw1.NumBack'. -/
def numBackUptoCard : Claim7 := { stood := { row := numBackUptoRow, standIns := [], harness := (true, "e4373bd58d6efaa02d295329af1addb0d7ae2410171719146fda43c5508fdbc2"), looks := true }, kinds := [], alts := [], laidByText := true, laidKinds := [.data, .data, .data], laidTests := true, laidLooks := .later }
def NumBackUptoCardSaid : Prop := Claim7.holds Tryd.pinned (.plain (OpenSpec.upto numBackSpec)) numBackUptoCard

/-- THE SECOND FORM's CARD OF 'apiarylaw1.NumFloors'. -/
def numFloorsUptoCard : Claim7 := { stood := { row := numFloorsUptoRow, standIns := [], harness := (true, "e4373bd58d6efaa02d295329af1addb0d7ae2410171719146fda43c5508fdbc2"), looks := true }, kinds := [], alts := [], laidByText := true, laidKinds := [.data, .data, .data], laidTests := true, laidLooks := .later }
def NumFloorsUptoCardSaid : Prop := Claim7.holds Tryd.pinned (.plain (OpenSpec.upto numFloorsSpec)) numFloorsUptoCard

/-- THE SECOND FORM's CARD OF 'apiarylaw1.NumTexts'. -/
def numTextsUptoCard : Claim7 := { stood := { row := numTextsUptoRow, standIns := [], harness := (true, "e4373bd58d6efaa02d295329af1addb0d7ae2410171719146fda43c5508fdbc2"), looks := true }, kinds := [], alts := [], laidByText := true, laidKinds := [.data, .data, .data, .sentinel, .sentinel], laidTests := true, laidLooks := .later }
def NumTextsUptoCardSaid : Prop := Claim7.holds Tryd.pinned (.plain (OpenSpec.upto numTextsSpec)) numTextsUptoCard
end Rows
end Go.Proofs.YtjcpepjhjencaaaDoor
