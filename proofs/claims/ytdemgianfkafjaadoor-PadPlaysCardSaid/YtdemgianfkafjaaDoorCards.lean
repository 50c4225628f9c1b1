/-
  DERIVED. GIVEN WITH THE SEED: THE CARDS: each row of YtdemgianfkafjaaDoorRows.lean that lists a variable, with what it lists TIED to the program's text (the seventh form; the later family's looks); each row that meets fmt, with fmt's text TOLD by the authors' own Lean function (tested against real Go, not proved from fmt's source: count such statements apart). THE CARD IS WHAT COUNTS. Prove the row's statement (the work); the ties are given (YtdemgianfkafjaaDoorTie.lean); close each card by the builder's one call (the guide's Derived/Test/ToyasCard.lean, 'card_holds'). Laid BY PROGRAM, IN A SANDBOX (cutbox-door.mjs). By AI agents, Wed Nov 11 2026. No macro, syntax, notation, axiom, sorry.
-/
import Derived.Test.YtdemgianfkafjaaDoorRows
import GoSem.ClaimSeven
namespace Go.Proofs.YtdemgianfkafjaaDoor
namespace Rows

/-- THE TIED CARD OF 'promptbooklaw36.PadSticks'. -/
def padSticksCard : Claim7 := { stood := { row := padSticksRow, standIns := [], harness := (true, "921bdaff0502f05929c149c206a90fdda138bc5a788e162d6faeb71c21532cef"), looks := false }, kinds := [], alts := [], laidByText := true, laidKinds := [.widerDeep], laidTests := true, laidLooks := .later }
def PadSticksCardSaid : Prop := Claim7.holds Tryd.pinned (.plain (OpenSpec.ofChange padSticksSpec)) padSticksCard

/-- THE TIED CARD OF 'promptbooklaw36.PadMacros'. -/
def padMacrosCard : Claim7 := { stood := { row := padMacrosRow, standIns := [], harness := (true, "921bdaff0502f05929c149c206a90fdda138bc5a788e162d6faeb71c21532cef"), looks := false }, kinds := [], alts := [], laidByText := true, laidKinds := [.widerDeep], laidTests := true, laidLooks := .later }
def PadMacrosCardSaid : Prop := Claim7.holds Tryd.pinned (.plain (OpenSpec.ofChange padMacrosSpec)) padMacrosCard

/-- THE TIED CARD OF 'promptbooklaw36.PadPlays'. -/
def padPlaysCard : Claim7 := { stood := { row := padPlaysRow, standIns := [], harness := (true, "921bdaff0502f05929c149c206a90fdda138bc5a788e162d6faeb71c21532cef"), looks := false }, kinds := [], alts := [], laidByText := true, laidKinds := [.widerDeep], laidTests := true, laidLooks := .later }
def PadPlaysCardSaid : Prop := Claim7.holds Tryd.pinned (.plain (OpenSpec.ofChange padPlaysSpec)) padPlaysCard

/-- THE TIED CARD OF 'promptbooklaw36.PadNil'. -/
def padNilCard : Claim7 := { stood := { row := padNilRow, standIns := [], harness := (true, "921bdaff0502f05929c149c206a90fdda138bc5a788e162d6faeb71c21532cef"), looks := false }, kinds := [], alts := [], laidByText := true, laidKinds := [.widerDeep], laidTests := true, laidLooks := .later }
def PadNilCardSaid : Prop := Claim7.holds Tryd.pinned (.plain (OpenSpec.ofChange padNilSpec)) padNilCard

/-- THE SECOND FORM's CARD OF 'promptbooklaw36.PadSticks'. -/
def padSticksUptoCard : Claim7 := { stood := { row := padSticksUptoRow, standIns := [], harness := (true, "921bdaff0502f05929c149c206a90fdda138bc5a788e162d6faeb71c21532cef"), looks := false }, kinds := [], alts := [], laidByText := true, laidKinds := [.widerDeep], laidTests := true, laidLooks := .later }
def PadSticksUptoCardSaid : Prop := Claim7.holds Tryd.pinned (.plain (OpenSpec.upto padSticksSpec)) padSticksUptoCard

/-- THE SECOND FORM's CARD OF 'promptbooklaw36.PadMacros'. -/
def padMacrosUptoCard : Claim7 := { stood := { row := padMacrosUptoRow, standIns := [], harness := (true, "921bdaff0502f05929c149c206a90fdda138bc5a788e162d6faeb71c21532cef"), looks := false }, kinds := [], alts := [], laidByText := true, laidKinds := [.widerDeep], laidTests := true, laidLooks := .later }
def PadMacrosUptoCardSaid : Prop := Claim7.holds Tryd.pinned (.plain (OpenSpec.upto padMacrosSpec)) padMacrosUptoCard

/-- THE SECOND FORM's CARD OF 'promptbooklaw36.PadPlays'. -/
def padPlaysUptoCard : Claim7 := { stood := { row := padPlaysUptoRow, standIns := [], harness := (true, "921bdaff0502f05929c149c206a90fdda138bc5a788e162d6faeb71c21532cef"), looks := false }, kinds := [], alts := [], laidByText := true, laidKinds := [.widerDeep], laidTests := true, laidLooks := .later }
def PadPlaysUptoCardSaid : Prop := Claim7.holds Tryd.pinned (.plain (OpenSpec.upto padPlaysSpec)) padPlaysUptoCard

/-- THE SECOND FORM's CARD OF 'promptbooklaw36.PadNil'. -/
def padNilUptoCard : Claim7 := { stood := { row := padNilUptoRow, standIns := [], harness := (true, "921bdaff0502f05929c149c206a90fdda138bc5a788e162d6faeb71c21532cef"), looks := false }, kinds := [], alts := [], laidByText := true, laidKinds := [.widerDeep], laidTests := true, laidLooks := .later }
def PadNilUptoCardSaid : Prop := Claim7.holds Tryd.pinned (.plain (OpenSpec.upto padNilSpec)) padNilUptoCard
end Rows
end Go.Proofs.YtdemgianfkafjaaDoor
