/-
  DERIVED. GIVEN WITH THE SEED: THE CARDS: each row of YtoanempchbejhaaDoorRows.lean that lists a variable, with what it lists TIED to the program's text (the seventh form; the later family's looks); each row that meets fmt, with fmt's text TOLD by the authors' own Lean function (tested against real Go, not proved from fmt's source: count such statements apart). THE CARD IS WHAT COUNTS. Prove the row's statement (the work); the ties are given (YtoanempchbejhaaDoorTie.lean); close each card by the builder's one call (the guide's Derived/Test/ToyasCard.lean, 'card_holds'). Laid BY PROGRAM, IN A SANDBOX (cutbox-door.mjs). By AI agents, Wed Nov 11 2026. No macro, syntax, notation, axiom, sorry.
-/
import Derived.Test.YtoanempchbejhaaDoorRows
import GoSem.ClaimSeven
namespace Go.Proofs.YtoanempchbejhaaDoor
namespace Rows

/-- THE TIED CARD OF 'promptbooklaw21.FeelEnds'. -/
def feelEndsCard : Claim7 := { stood := { row := feelEndsRow, standIns := [], harness := (true, "711e92614b694c3067d1eccc0f36400ffe33942c2787e57d7a9c82eb7cc986df"), looks := false }, kinds := [], alts := [], laidByText := true, laidKinds := [.data], laidTests := true, laidLooks := .later }
def FeelEndsCardSaid : Prop := Claim7.holds Tryd.pinned (.plain (OpenSpec.ofChange feelEndsSpec)) feelEndsCard

/-- THE TIED CARD OF 'promptbooklaw21.FeelFalls'. -/
def feelFallsCard : Claim7 := { stood := { row := feelFallsRow, standIns := [], harness := (true, "711e92614b694c3067d1eccc0f36400ffe33942c2787e57d7a9c82eb7cc986df"), looks := false }, kinds := [], alts := [], laidByText := true, laidKinds := [.data], laidTests := true, laidLooks := .later }
def FeelFallsCardSaid : Prop := Claim7.holds Tryd.pinned (.plain (OpenSpec.ofChange feelFallsSpec)) feelFallsCard

/-- THE TIED CARD OF 'promptbooklaw21.FeelNil'. -/
def feelNilCard : Claim7 := { stood := { row := feelNilRow, standIns := [], harness := (true, "711e92614b694c3067d1eccc0f36400ffe33942c2787e57d7a9c82eb7cc986df"), looks := false }, kinds := [], alts := [], laidByText := true, laidKinds := [.data], laidTests := true, laidLooks := .later }
def FeelNilCardSaid : Prop := Claim7.holds Tryd.pinned (.plain (OpenSpec.ofChange feelNilSpec)) feelNilCard

/-- THE TIED CARD OF 'promptbooklaw21.FeelPlays'. -/
def feelPlaysCard : Claim7 := { stood := { row := feelPlaysRow, standIns := [], harness := (true, "711e92614b694c3067d1eccc0f36400ffe33942c2787e57d7a9c82eb7cc986df"), looks := false }, kinds := [], alts := [], laidByText := true, laidKinds := [.data], laidTests := true, laidLooks := .later }
def FeelPlaysCardSaid : Prop := Claim7.holds Tryd.pinned (.plain (OpenSpec.ofChange feelPlaysSpec)) feelPlaysCard

/-- THE SECOND FORM's CARD OF 'promptbooklaw21.FeelEnds'. -/
def feelEndsUptoCard : Claim7 := { stood := { row := feelEndsUptoRow, standIns := [], harness := (true, "711e92614b694c3067d1eccc0f36400ffe33942c2787e57d7a9c82eb7cc986df"), looks := false }, kinds := [], alts := [], laidByText := true, laidKinds := [.data], laidTests := true, laidLooks := .later }
def FeelEndsUptoCardSaid : Prop := Claim7.holds Tryd.pinned (.plain (OpenSpec.upto feelEndsSpec)) feelEndsUptoCard

/-- THE SECOND FORM's CARD OF 'promptbooklaw21.FeelFalls'. -/
def feelFallsUptoCard : Claim7 := { stood := { row := feelFallsUptoRow, standIns := [], harness := (true, "711e92614b694c3067d1eccc0f36400ffe33942c2787e57d7a9c82eb7cc986df"), looks := false }, kinds := [], alts := [], laidByText := true, laidKinds := [.data], laidTests := true, laidLooks := .later }
def FeelFallsUptoCardSaid : Prop := Claim7.holds Tryd.pinned (.plain (OpenSpec.upto feelFallsSpec)) feelFallsUptoCard

/-- THE SECOND FORM's CARD OF 'promptbooklaw21.FeelNil'. -/
def feelNilUptoCard : Claim7 := { stood := { row := feelNilUptoRow, standIns := [], harness := (true, "711e92614b694c3067d1eccc0f36400ffe33942c2787e57d7a9c82eb7cc986df"), looks := false }, kinds := [], alts := [], laidByText := true, laidKinds := [.data], laidTests := true, laidLooks := .later }
def FeelNilUptoCardSaid : Prop := Claim7.holds Tryd.pinned (.plain (OpenSpec.upto feelNilSpec)) feelNilUptoCard

/-- THE SECOND FORM's CARD OF 'promptbooklaw21.FeelPlays'. -/
def feelPlaysUptoCard : Claim7 := { stood := { row := feelPlaysUptoRow, standIns := [], harness := (true, "711e92614b694c3067d1eccc0f36400ffe33942c2787e57d7a9c82eb7cc986df"), looks := false }, kinds := [], alts := [], laidByText := true, laidKinds := [.data], laidTests := true, laidLooks := .later }
def FeelPlaysUptoCardSaid : Prop := Claim7.holds Tryd.pinned (.plain (OpenSpec.upto feelPlaysSpec)) feelPlaysUptoCard
end Rows
end Go.Proofs.YtoanempchbejhaaDoor
