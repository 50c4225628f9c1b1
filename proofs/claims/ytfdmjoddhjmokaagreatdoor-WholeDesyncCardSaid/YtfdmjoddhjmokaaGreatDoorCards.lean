/-
  DERIVED. GIVEN WITH THE SEED: THE CARDS: each row of YtfdmjoddhjmokaaGreatDoorRows.lean that lists a variable, with what it lists TIED to the program's text (the seventh form; the later family's looks); each row that meets fmt, with fmt's text TOLD by the authors' own Lean function (tested against real Go, not proved from fmt's source: count such statements apart). THE CARD IS WHAT COUNTS. Prove the row's statement (the work); the ties are given (YtfdmjoddhjmokaaGreatDoorTie.lean); close each card by the builder's one call (the guide's Derived/Test/ToyasCard.lean, 'card_holds'). Laid BY PROGRAM, IN A SANDBOX (cutbox-door.mjs). By AI agents, Wed Nov 11 2026. No macro, syntax, notation, axiom, sorry.
-/
import Derived.Test.YtfdmjoddhjmokaaGreatDoorRows
import GoSem.ClaimSeven
namespace Go.Proofs.YtfdmjoddhjmokaaGreatDoor
namespace Rows

/-- THE TIED CARD OF 'promptbooktop.WholeComes'. -/
def wholeComesCard : Claim7 := { stood := { row := wholeComesRow, standIns := [], harness := (true, "b5862e8692bfb83a5f7a9557f363c98c97824aed3f3565c659d284f4c031449f"), looks := false }, kinds := [], alts := [], laidByText := true, laidKinds := [.data], laidTests := true, laidLooks := .later }
def WholeComesCardSaid : Prop := Claim7.holds Tryz.pinned (.plain (OpenSpec.ofChange wholeComesSpec)) wholeComesCard

/-- THE TIED CARD OF 'promptbooktop.WholeDesync'. -/
def wholeDesyncCard : Claim7 := { stood := { row := wholeDesyncRow, standIns := [], harness := (true, "b5862e8692bfb83a5f7a9557f363c98c97824aed3f3565c659d284f4c031449f"), looks := false }, kinds := [], alts := [], laidByText := true, laidKinds := [.data], laidTests := true, laidLooks := .later }
def WholeDesyncCardSaid : Prop := Claim7.holds Tryz.pinned (.plain (OpenSpec.ofChange wholeDesyncSpec)) wholeDesyncCard

/-- THE TIED CARD OF 'promptbooktop.WholeHalts'. -/
def wholeHaltsCard : Claim7 := { stood := { row := wholeHaltsRow, standIns := [], harness := (true, "b5862e8692bfb83a5f7a9557f363c98c97824aed3f3565c659d284f4c031449f"), looks := false }, kinds := [], alts := [], laidByText := true, laidKinds := [.data], laidTests := true, laidLooks := .later }
def WholeHaltsCardSaid : Prop := Claim7.holds Tryz.pinned (.plain (OpenSpec.ofChange wholeHaltsSpec)) wholeHaltsCard

/-- THE SECOND FORM's CARD OF 'promptbooktop.WholeComes'. -/
def wholeComesUptoCard : Claim7 := { stood := { row := wholeComesUptoRow, standIns := [], harness := (true, "b5862e8692bfb83a5f7a9557f363c98c97824aed3f3565c659d284f4c031449f"), looks := false }, kinds := [], alts := [], laidByText := true, laidKinds := [.data], laidTests := true, laidLooks := .later }
def WholeComesUptoCardSaid : Prop := Claim7.holds Tryz.pinned (.plain (OpenSpec.upto wholeComesSpec)) wholeComesUptoCard

/-- THE SECOND FORM's CARD OF 'promptbooktop.WholeDesync'. -/
def wholeDesyncUptoCard : Claim7 := { stood := { row := wholeDesyncUptoRow, standIns := [], harness := (true, "b5862e8692bfb83a5f7a9557f363c98c97824aed3f3565c659d284f4c031449f"), looks := false }, kinds := [], alts := [], laidByText := true, laidKinds := [.data], laidTests := true, laidLooks := .later }
def WholeDesyncUptoCardSaid : Prop := Claim7.holds Tryz.pinned (.plain (OpenSpec.upto wholeDesyncSpec)) wholeDesyncUptoCard

/-- THE SECOND FORM's CARD OF 'promptbooktop.WholeHalts'. -/
def wholeHaltsUptoCard : Claim7 := { stood := { row := wholeHaltsUptoRow, standIns := [], harness := (true, "b5862e8692bfb83a5f7a9557f363c98c97824aed3f3565c659d284f4c031449f"), looks := false }, kinds := [], alts := [], laidByText := true, laidKinds := [.data], laidTests := true, laidLooks := .later }
def WholeHaltsUptoCardSaid : Prop := Claim7.holds Tryz.pinned (.plain (OpenSpec.upto wholeHaltsSpec)) wholeHaltsUptoCard
end Rows
end Go.Proofs.YtfdmjoddhjmokaaGreatDoor
