/-
  DERIVED. GIVEN WITH THE SEED: THE CARDS: each row of YtfdjfbodgiodbaaGreatDoorRows.lean that lists a variable, with what it lists TIED to the program's text (the seventh form; the later family's looks); each row that meets fmt, with fmt's text TOLD by the authors' own Lean function (tested against real Go, not proved from fmt's source: count such statements apart). THE CARD IS WHAT COUNTS. Prove the row's statement (the work); the ties are given (YtfdjfbodgiodbaaGreatDoorTie.lean); close each card by the builder's one call (the guide's Derived/Test/ToyasCard.lean, 'card_holds'). Laid BY PROGRAM, IN A SANDBOX (cutbox-door.mjs). By AI agents, Wed Nov 11 2026. No macro, syntax, notation, axiom, sorry.
-/
import Derived.Test.YtfdjfbodgiodbaaGreatDoorRows
import GoSem.ClaimSeven
namespace Go.Proofs.YtfdjfbodgiodbaaGreatDoor
namespace Rows

/-- THE TIED CARD OF 'apiarylaw25.AskPaths'. -/
def askPathsCard : Claim7 := { stood := { row := askPathsRow, standIns := [], harness := (true, "927782f7e6ec46ce57a493ea4820c989b488c77b084c8f3e98f578f306e088a1"), looks := true }, kinds := [], alts := [], laidByText := true, laidKinds := [.data, .data, .data, .data, .sentinel, .sentinel, .pinned], laidTests := true, laidLooks := .later }
def AskPathsCardSaid : Prop := Claim7.holds Tryz.pinned (.plain (OpenSpec.ofChange askPathsSpec)) askPathsCard

/-- THE TIED CARD OF 'apiarylaw25.AskNumbers'. -/
def askNumbersCard : Claim7 := { stood := { row := askNumbersRow, standIns := [], harness := (true, "927782f7e6ec46ce57a493ea4820c989b488c77b084c8f3e98f578f306e088a1"), looks := true }, kinds := [], alts := [], laidByText := true, laidKinds := [.data, .data, .data, .data, .sentinel, .sentinel, .pinned], laidTests := true, laidLooks := .later }
def AskNumbersCardSaid : Prop := Claim7.holds Tryz.pinned (.plain (OpenSpec.ofChange askNumbersSpec)) askNumbersCard

/-- THE TIED CARD OF 'apiarylaw25.AskParses'. -/
def askParsesCard : Claim7 := { stood := { row := askParsesRow, standIns := [], harness := (true, "927782f7e6ec46ce57a493ea4820c989b488c77b084c8f3e98f578f306e088a1"), looks := true }, kinds := [], alts := [], laidByText := true, laidKinds := [.data, .data, .data, .data, .sentinel, .sentinel, .pinned], laidTests := true, laidLooks := .later }
def AskParsesCardSaid : Prop := Claim7.holds Tryz.pinned (.plain (OpenSpec.ofChange askParsesSpec)) askParsesCard

/-- THE TIED CARD OF 'apiarylaw25.AskOrder'. -/
def askOrderCard : Claim7 := { stood := { row := askOrderRow, standIns := [], harness := (true, "927782f7e6ec46ce57a493ea4820c989b488c77b084c8f3e98f578f306e088a1"), looks := true }, kinds := [], alts := [], laidByText := true, laidKinds := [.data, .data, .data, .data, .sentinel, .sentinel, .pinned], laidTests := true, laidLooks := .later }
def AskOrderCardSaid : Prop := Claim7.holds Tryz.pinned (.plain (OpenSpec.ofChange askOrderSpec)) askOrderCard

/-- THE TIED CARD OF 'apiarylaw25.AskBounds'. -/
def askBoundsCard : Claim7 := { stood := { row := askBoundsRow, standIns := [], harness := (true, "927782f7e6ec46ce57a493ea4820c989b488c77b084c8f3e98f578f306e088a1"), looks := true }, kinds := [], alts := [], laidByText := true, laidKinds := [.data, .data, .data, .data, .sentinel, .sentinel, .pinned], laidTests := true, laidLooks := .later }
def AskBoundsCardSaid : Prop := Claim7.holds Tryz.pinned (.plain (OpenSpec.ofChange askBoundsSpec)) askBoundsCard

/-- THE TIED CARD OF 'apiarylaw25.AskTexts'. -/
def askTextsCard : Claim7 := { stood := { row := askTextsRow, standIns := [], harness := (true, "927782f7e6ec46ce57a493ea4820c989b488c77b084c8f3e98f578f306e088a1"), looks := true }, kinds := [], alts := [], laidByText := true, laidKinds := [.data, .data, .data, .data, .sentinel, .sentinel, .pinned], laidTests := true, laidLooks := .later }
def AskTextsCardSaid : Prop := Claim7.holds Tryz.pinned (.plain (OpenSpec.ofChange askTextsSpec)) askTextsCard

/-- THE SECOND FORM's CARD OF 'apiarylaw25.AskPaths'. -/
def askPathsUptoCard : Claim7 := { stood := { row := askPathsUptoRow, standIns := [], harness := (true, "927782f7e6ec46ce57a493ea4820c989b488c77b084c8f3e98f578f306e088a1"), looks := true }, kinds := [], alts := [], laidByText := true, laidKinds := [.data, .data, .data, .data, .sentinel, .sentinel, .pinned], laidTests := true, laidLooks := .later }
def AskPathsUptoCardSaid : Prop := Claim7.holds Tryz.pinned (.plain (OpenSpec.upto askPathsSpec)) askPathsUptoCard

/-- THE SECOND FORM's CARD OF 'apiarylaw25.AskNumbers'. -/
def askNumbersUptoCard : Claim7 := { stood := { row := askNumbersUptoRow, standIns := [], harness := (true, "927782f7e6ec46ce57a493ea4820c989b488c77b084c8f3e98f578f306e088a1"), looks := true }, kinds := [], alts := [], laidByText := true, laidKinds := [.data, .data, .data, .data, .sentinel, .sentinel, .pinned], laidTests := true, laidLooks := .later }
def AskNumbersUptoCardSaid : Prop := Claim7.holds Tryz.pinned (.plain (OpenSpec.upto askNumbersSpec)) askNumbersUptoCard

/-- THE SECOND FORM's CARD OF 'apiarylaw25.AskParses'. -/
def askParsesUptoCard : Claim7 := { stood := { row := askParsesUptoRow, standIns := [], harness := (true, "927782f7e6ec46ce57a493ea4820c989b488c77b084c8f3e98f578f306e088a1"), looks := true }, kinds := [], alts := [], laidByText := true, laidKinds := [.data, .data, .data, .data, .sentinel, .sentinel, .pinned], laidTests := true, laidLooks := .later }
def AskParsesUptoCardSaid : Prop := Claim7.holds Tryz.pinned (.plain (OpenSpec.upto askParsesSpec)) askParsesUptoCard

/-- THE SECOND FORM's CARD OF 'apiarylaw25.AskOrder'. -/
def askOrderUptoCard : Claim7 := { stood := { row := askOrderUptoRow, standIns := [], harness := (true, "927782f7e6ec46ce57a493ea4820c989b488c77b084c8f3e98f578f306e088a1"), looks := true }, kinds := [], alts := [], laidByText := true, laidKinds := [.data, .data, .data, .data, .sentinel, .sentinel, .pinned], laidTests := true, laidLooks := .later }
def AskOrderUptoCardSaid : Prop := Claim7.holds Tryz.pinned (.plain (OpenSpec.upto askOrderSpec)) askOrderUptoCard

/-- THE SECOND FORM's CARD OF 'apiarylaw25.AskBounds'. -/
def askBoundsUptoCard : Claim7 := { stood := { row := askBoundsUptoRow, standIns := [], harness := (true, "927782f7e6ec46ce57a493ea4820c989b488c77b084c8f3e98f578f306e088a1"), looks := true }, kinds := [], alts := [], laidByText := true, laidKinds := [.data, .data, .data, .data, .sentinel, .sentinel, .pinned], laidTests := true, laidLooks := .later }
def AskBoundsUptoCardSaid : Prop := Claim7.holds Tryz.pinned (.plain (OpenSpec.upto askBoundsSpec)) askBoundsUptoCard

/-- THE SECOND FORM's CARD OF 'apiarylaw25.AskTexts'. -/
def askTextsUptoCard : Claim7 := { stood := { row := askTextsUptoRow, standIns := [], harness := (true, "927782f7e6ec46ce57a493ea4820c989b488c77b084c8f3e98f578f306e088a1"), looks := true }, kinds := [], alts := [], laidByText := true, laidKinds := [.data, .data, .data, .data, .sentinel, .sentinel, .pinned], laidTests := true, laidLooks := .later }
def AskTextsUptoCardSaid : Prop := Claim7.holds Tryz.pinned (.plain (OpenSpec.upto askTextsSpec)) askTextsUptoCard
end Rows
end Go.Proofs.YtfdjfbodgiodbaaGreatDoor
