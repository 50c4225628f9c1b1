/-
  NARROWER THAN 'FOR EVERY INPUT', by the rows' own cells (each row's printed sentence says how): PadSticks: laid · PadMacros: laid · PadPlays: laid · PadNil: laid.
  DERIVED. THE GIVEN ROWS OF THIS SEAT. 4 by the template 'for every input the law returns true; each argument reads behind the call as it read before'; 0 by the template 'total and deterministic' (their statements: YtdemgianfkafjaaDoorTotals.lean).
  GIVEN WITH THE SEED: the statements are not yours to turn. If you find one false, say at which input.
  Laid BY PROGRAM, IN A SANDBOX (cutbox-rows.mjs): the forced cells as the released guide's own fill.sh prints them over the translation a18c70ab6f76a079… (all of the seat's roots in one cut). By AI agents, Wed Nov 11 2026. No macro, syntax, notation, axiom, sorry.
-/
import Derived.Test.YtdemgianfkafjaaDoorChecked
import GoSem.Claim
import GoSem.ClaimJoined
import GoSem.ClaimMapViews
import Derived.JoinedTies
import Derived.KernelRfl
namespace Go.Proofs.YtdemgianfkafjaaDoor
/- THE CELL 'sum', in the pinned program and in every row, IS THE sha256 OF THE DUMP (.gsa) THAT YtdemgianfkafjaaDoorProg.lean LOADS. Nothing in Lean hashes anything: it is a label: what it is worth is what the hold of that sum in a sandbox is worth. -/
noncomputable def Tryd.pinned : Pinned := { name := "ytdemgianfkafjaadoor", sum := "a18c70ab6f76a0799342c9e58dde5747befe207897358ce347b77dc4c5610803", checked := Tryd.checked }
namespace Rows
def none {H : Type} : Left H := { results := [], args := [] }

/- WHAT THE LISTED PACKAGE-LEVEL VARIABLES READ AS WHEN THE CALL BEGINS. Each datum BY PROGRAM (the guide's laid-datum.mjs) off the statement by which the dump's own 'gosem.cut.vars' lays the variable. In a bare row this is a premise. The card (YtdemgianfkafjaaDoorCards.lean) ties it to the program's text. -/
def laid_promptbook_pad_buttons {H : Type} : DataW H := .agg [.lit (.int .u8 16), .lit (.int .u8 32), .lit (.int .u8 8)]

/-- 'promptbooklaw36.PadSticks': WHATEVER THE INPUT: true; the input reads as it did. -/
def padSticksSpec : ChangeSpec := { name := "padSticks", fn := fun _ => fun
  | [d1, d2, d3] => { results := [.lit (.bool true)], args := [d1, d2, d3] }
  | _ => none }
def padSticksRow : OpenClaim := { program := "ytdemgianfkafjaadoor", sum := "a18c70ab6f76a0799342c9e58dde5747befe207897358ce347b77dc4c5610803", func := "promptbook/promptbooklaw36.PadSticks", spec := "padSticks", unfollowed := true, recurses := true, named := ["promptbook/pad.buttons"], apart := false, laid := [("promptbook/pad.buttons", laid_promptbook_pad_buttons)] }
def PadSticksSaid : Prop := padSticksRow.holds Tryd.pinned (OpenSpec.ofChange padSticksSpec)

/-- ITS FALSE NEIGHBOUR: 'it returns false'. Refute it at one input. -/
def padSticksWrong : ChangeSpec := { name := "padSticks", fn := fun _ => fun
  | [d1, d2, d3] => { results := [.lit (.bool false)], args := [d1, d2, d3] }
  | _ => none }
def PadSticksWrongFalsely : Prop := padSticksRow.holds Tryd.pinned (OpenSpec.ofChange padSticksWrong)

/-- 'promptbooklaw36.PadMacros': WHATEVER THE INPUT: true; the input reads as it did. -/
def padMacrosSpec : ChangeSpec := { name := "padMacros", fn := fun _ => fun
  | [d1, d2, d3, d4, d5, d6, d7] => { results := [.lit (.bool true)], args := [d1, d2, d3, d4, d5, d6, d7] }
  | _ => none }
def padMacrosRow : OpenClaim := { program := "ytdemgianfkafjaadoor", sum := "a18c70ab6f76a0799342c9e58dde5747befe207897358ce347b77dc4c5610803", func := "promptbook/promptbooklaw36.PadMacros", spec := "padMacros", unfollowed := true, recurses := true, named := ["promptbook/pad.buttons"], apart := false, laid := [("promptbook/pad.buttons", laid_promptbook_pad_buttons)] }
def PadMacrosSaid : Prop := padMacrosRow.holds Tryd.pinned (OpenSpec.ofChange padMacrosSpec)

/-- ITS FALSE NEIGHBOUR: 'it returns false'. Refute it at one input. -/
def padMacrosWrong : ChangeSpec := { name := "padMacros", fn := fun _ => fun
  | [d1, d2, d3, d4, d5, d6, d7] => { results := [.lit (.bool false)], args := [d1, d2, d3, d4, d5, d6, d7] }
  | _ => none }
def PadMacrosWrongFalsely : Prop := padMacrosRow.holds Tryd.pinned (OpenSpec.ofChange padMacrosWrong)

/-- 'promptbooklaw36.PadPlays': WHATEVER THE INPUT: true; the input reads as it did. -/
def padPlaysSpec : ChangeSpec := { name := "padPlays", fn := fun _ => fun
  | [d1, d2, d3, d4] => { results := [.lit (.bool true)], args := [d1, d2, d3, d4] }
  | _ => none }
def padPlaysRow : OpenClaim := { program := "ytdemgianfkafjaadoor", sum := "a18c70ab6f76a0799342c9e58dde5747befe207897358ce347b77dc4c5610803", func := "promptbook/promptbooklaw36.PadPlays", spec := "padPlays", unfollowed := true, recurses := true, named := ["promptbook/pad.buttons"], apart := false, laid := [("promptbook/pad.buttons", laid_promptbook_pad_buttons)] }
def PadPlaysSaid : Prop := padPlaysRow.holds Tryd.pinned (OpenSpec.ofChange padPlaysSpec)

/-- ITS FALSE NEIGHBOUR: 'it returns false'. Refute it at one input. -/
def padPlaysWrong : ChangeSpec := { name := "padPlays", fn := fun _ => fun
  | [d1, d2, d3, d4] => { results := [.lit (.bool false)], args := [d1, d2, d3, d4] }
  | _ => none }
def PadPlaysWrongFalsely : Prop := padPlaysRow.holds Tryd.pinned (OpenSpec.ofChange padPlaysWrong)

/-- 'promptbooklaw36.PadNil': WHATEVER THE INPUT: true; the input reads as it did. -/
def padNilSpec : ChangeSpec := { name := "padNil", fn := fun _ => fun
  | [d] => { results := [.lit (.bool true)], args := [d] }
  | _ => none }
def padNilRow : OpenClaim := { program := "ytdemgianfkafjaadoor", sum := "a18c70ab6f76a0799342c9e58dde5747befe207897358ce347b77dc4c5610803", func := "promptbook/promptbooklaw36.PadNil", spec := "padNil", unfollowed := true, recurses := true, named := ["promptbook/pad.buttons"], apart := false, laid := [("promptbook/pad.buttons", laid_promptbook_pad_buttons)] }
def PadNilSaid : Prop := padNilRow.holds Tryd.pinned (OpenSpec.ofChange padNilSpec)

/-- ITS FALSE NEIGHBOUR: 'it returns false'. Refute it at one input. -/
def padNilWrong : ChangeSpec := { name := "padNil", fn := fun _ => fun
  | [d] => { results := [.lit (.bool false)], args := [d] }
  | _ => none }
def PadNilWrongFalsely : Prop := padNilRow.holds Tryd.pinned (OpenSpec.ofChange padNilWrong)

/- THE SECOND FORM. 'bulk': how many values and letters a reading holds, each counted each time it is reached (what is shared counts as often as it is met; a slice's spare places count too). A statement '..UptoSaid' is the law's where the arguments, and the package variables that the reading takes, are together of bulk at most 1048576: NARROWER than '..Said'. Prove '..Said' where nothing that the law and all that it calls make is longer than what came in: it says more and counts as full. Else prove '..UptoSaid'. A law counts once. -/
mutual
def uptoBulk {H : Type} : DataW H → Nat
  | .lit (.string bytes) => bytes.length + 1
  | .lit _ => 1
  | .nil => 1
  | .ptr d => uptoBulk d + 1
  | .slice elems spare => uptoBulkAll elems + uptoBulkAll spare + 1
  | .agg parts => uptoBulkAll parts + 1
  | .iface _ d => uptoBulk d + 1
  | .map entries => uptoBulkEntries entries + 1
  | .held _ => 1
def uptoBulkAll {H : Type} : List (DataW H) → Nat
  | [] => 0
  | d :: r => uptoBulk d + uptoBulkAll r
def uptoBulkEntries {H : Type} : List (Lit × DataW H) → Nat
  | [] => 0
  | x :: r => uptoBulkEntry x + uptoBulkEntries r
def uptoBulkEntry {H : Type} : Lit × DataW H → Nat
  | (.string bytes, d) => bytes.length + uptoBulk d + 1
  | (_, d) => uptoBulk d + 1
 end
def uptoSmall : (H : Type) → List (DataW H) → Bool := fun _ ds => decide (uptoBulkAll ds ≤ 1048576)
def OpenSpec.upto (s : _root_.Go.ChangeSpec) : _root_.Go.OpenSpec := { _root_.Go.OpenSpec.ofChange s with cond := some uptoSmall }

/-- 'promptbooklaw36.PadSticks', WHERE WHAT IT READS IS OF BULK AT MOST 1048576: true; the input reads as it did. -/
def padSticksUptoRow : OpenClaim := { program := "ytdemgianfkafjaadoor", sum := "a18c70ab6f76a0799342c9e58dde5747befe207897358ce347b77dc4c5610803", func := "promptbook/promptbooklaw36.PadSticks", spec := "padSticks", unfollowed := true, recurses := true, named := ["promptbook/pad.buttons"], apart := false, laid := [("promptbook/pad.buttons", laid_promptbook_pad_buttons)], narrowed := true }
def PadSticksUptoSaid : Prop := padSticksUptoRow.holds Tryd.pinned (OpenSpec.upto padSticksSpec)

/-- 'promptbooklaw36.PadMacros', WHERE WHAT IT READS IS OF BULK AT MOST 1048576: true; the input reads as it did. -/
def padMacrosUptoRow : OpenClaim := { program := "ytdemgianfkafjaadoor", sum := "a18c70ab6f76a0799342c9e58dde5747befe207897358ce347b77dc4c5610803", func := "promptbook/promptbooklaw36.PadMacros", spec := "padMacros", unfollowed := true, recurses := true, named := ["promptbook/pad.buttons"], apart := false, laid := [("promptbook/pad.buttons", laid_promptbook_pad_buttons)], narrowed := true }
def PadMacrosUptoSaid : Prop := padMacrosUptoRow.holds Tryd.pinned (OpenSpec.upto padMacrosSpec)

/-- 'promptbooklaw36.PadPlays', WHERE WHAT IT READS IS OF BULK AT MOST 1048576: true; the input reads as it did. -/
def padPlaysUptoRow : OpenClaim := { program := "ytdemgianfkafjaadoor", sum := "a18c70ab6f76a0799342c9e58dde5747befe207897358ce347b77dc4c5610803", func := "promptbook/promptbooklaw36.PadPlays", spec := "padPlays", unfollowed := true, recurses := true, named := ["promptbook/pad.buttons"], apart := false, laid := [("promptbook/pad.buttons", laid_promptbook_pad_buttons)], narrowed := true }
def PadPlaysUptoSaid : Prop := padPlaysUptoRow.holds Tryd.pinned (OpenSpec.upto padPlaysSpec)

/-- 'promptbooklaw36.PadNil', WHERE WHAT IT READS IS OF BULK AT MOST 1048576: true; the input reads as it did. -/
def padNilUptoRow : OpenClaim := { program := "ytdemgianfkafjaadoor", sum := "a18c70ab6f76a0799342c9e58dde5747befe207897358ce347b77dc4c5610803", func := "promptbook/promptbooklaw36.PadNil", spec := "padNil", unfollowed := true, recurses := true, named := ["promptbook/pad.buttons"], apart := false, laid := [("promptbook/pad.buttons", laid_promptbook_pad_buttons)], narrowed := true }
def PadNilUptoSaid : Prop := padNilUptoRow.holds Tryd.pinned (OpenSpec.upto padNilSpec)

end Rows
end Go.Proofs.YtdemgianfkafjaaDoor
