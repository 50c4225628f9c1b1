/-
  NARROWER THAN 'FOR EVERY INPUT', by the rows' own cells (each row's printed sentence says how): WholeComes: laid · WholeDesync: laid · WholeHalts: laid.
  DERIVED. THE GIVEN ROWS OF THIS SEAT. 3 by the template 'for every input the law returns true; each argument reads behind the call as it read before'; 0 by the template 'total and deterministic' (their statements: YtfdmjoddhjmokaaGreatDoorTotals.lean).
  GIVEN WITH THE SEED: the statements are not yours to turn. If you find one false, say at which input.
  Laid BY PROGRAM, IN A SANDBOX (cutbox-rows.mjs): the forced cells as the released guide's own fill.sh prints them over the translation 666eeb7d4b2aba5f… (all of the seat's roots in one cut). By AI agents, Wed Nov 11 2026. No macro, syntax, notation, axiom, sorry.
-/
import Derived.Test.YtfdmjoddhjmokaaGreatDoorChecked
import GoSem.Claim
import GoSem.ClaimJoined
import GoSem.ClaimMapViews
import Derived.JoinedTies
import Derived.KernelRfl
namespace Go.Proofs.YtfdmjoddhjmokaaGreatDoor
/- THE CELL 'sum', in the pinned program and in every row, IS THE sha256 OF THE DUMP (.gsa) THAT YtfdmjoddhjmokaaGreatDoorProg.lean LOADS. Nothing in Lean hashes anything: it is a label: what it is worth is what the hold of that sum in a sandbox is worth. -/
noncomputable def Tryz.pinned : Pinned := { name := "ytfdmjoddhjmokaagreatdoor", sum := "666eeb7d4b2aba5fa08d4ce2a8b97f2a67803c9e33a914146581d115b9684d44", checked := Tryz.checked }
namespace Rows
def none {H : Type} : Left H := { results := [], args := [] }

/- WHAT THE LISTED PACKAGE-LEVEL VARIABLES READ AS WHEN THE CALL BEGINS. Each datum BY PROGRAM (the guide's laid-datum.mjs) off the statement by which the dump's own 'gosem.cut.vars' lays the variable. In a bare row this is a premise. The card (YtfdmjoddhjmokaaGreatDoorCards.lean) ties it to the program's text. -/
def laid_promptbook_feel_kinds {H : Type} : DataW H := .agg [.agg [.lit (.int .i64 0), .lit (.int .i64 0), .lit (.int .i64 0), .lit (.int .i64 0)], .agg [.lit (.int .i64 0), .lit (.int .i64 6000), .lit (.int .i64 3), .lit (.int .i64 0)], .agg [.lit (.int .i64 24000), .lit (.int .i64 12000), .lit (.int .i64 12), .lit (.int .i64 6)], .agg [.lit (.int .i64 8000), .lit (.int .i64 0), .lit (.int .i64 4), .lit (.int .i64 0)], .agg [.lit (.int .i64 16000), .lit (.int .i64 8000), .lit (.int .i64 8), .lit (.int .i64 4)], .agg [.lit (.int .i64 32768), .lit (.int .i64 32768), .lit (.int .i64 30), .lit (.int .i64 24)], .agg [.lit (.int .i64 0), .lit (.int .i64 4000), .lit (.int .i64 6), .lit (.int .i64 8)], .agg [.lit (.int .i64 0), .lit (.int .i64 0), .lit (.int .i64 0), .lit (.int .i64 0)], .agg [.lit (.int .i64 0), .lit (.int .i64 0), .lit (.int .i64 0), .lit (.int .i64 0)], .agg [.lit (.int .i64 0), .lit (.int .i64 0), .lit (.int .i64 0), .lit (.int .i64 0)]]

/-- 'promptbooktop.WholeComes': WHATEVER THE INPUT: true; the input reads as it did. -/
def wholeComesSpec : ChangeSpec := { name := "wholeComes", fn := fun _ => fun
  | [d1, d2, d3] => { results := [.lit (.bool true)], args := [d1, d2, d3] }
  | _ => none }
def wholeComesRow : OpenClaim := { program := "ytfdmjoddhjmokaagreatdoor", sum := "666eeb7d4b2aba5fa08d4ce2a8b97f2a67803c9e33a914146581d115b9684d44", func := "promptbook/promptbooktop.WholeComes", spec := "wholeComes", inPlace := ["slices.overlaps[promptbook/api.Event]"], unfollowed := true, recurses := true, named := ["promptbook/feel.kinds"], plainKeys := false, apart := false, laid := [("promptbook/feel.kinds", laid_promptbook_feel_kinds)] }
def WholeComesSaid : Prop := wholeComesRow.holds Tryz.pinned (OpenSpec.ofChange wholeComesSpec)

/-- ITS FALSE NEIGHBOUR: 'it returns false'. Refute it at one input. -/
def wholeComesWrong : ChangeSpec := { name := "wholeComes", fn := fun _ => fun
  | [d1, d2, d3] => { results := [.lit (.bool false)], args := [d1, d2, d3] }
  | _ => none }
def WholeComesWrongFalsely : Prop := wholeComesRow.holds Tryz.pinned (OpenSpec.ofChange wholeComesWrong)

/-- 'promptbooktop.WholeDesync': WHATEVER THE INPUT: true; the input reads as it did. -/
def wholeDesyncSpec : ChangeSpec := { name := "wholeDesync", fn := fun _ => fun
  | [d1, d2] => { results := [.lit (.bool true)], args := [d1, d2] }
  | _ => none }
def wholeDesyncRow : OpenClaim := { program := "ytfdmjoddhjmokaagreatdoor", sum := "666eeb7d4b2aba5fa08d4ce2a8b97f2a67803c9e33a914146581d115b9684d44", func := "promptbook/promptbooktop.WholeDesync", spec := "wholeDesync", inPlace := ["slices.overlaps[promptbook/api.Event]"], unfollowed := true, recurses := true, named := ["promptbook/feel.kinds"], plainKeys := false, apart := false, laid := [("promptbook/feel.kinds", laid_promptbook_feel_kinds)] }
def WholeDesyncSaid : Prop := wholeDesyncRow.holds Tryz.pinned (OpenSpec.ofChange wholeDesyncSpec)

/-- ITS FALSE NEIGHBOUR: 'it returns false'. Refute it at one input. -/
def wholeDesyncWrong : ChangeSpec := { name := "wholeDesync", fn := fun _ => fun
  | [d1, d2] => { results := [.lit (.bool false)], args := [d1, d2] }
  | _ => none }
def WholeDesyncWrongFalsely : Prop := wholeDesyncRow.holds Tryz.pinned (OpenSpec.ofChange wholeDesyncWrong)

/-- 'promptbooktop.WholeHalts': WHATEVER THE INPUT: true; the input reads as it did. -/
def wholeHaltsSpec : ChangeSpec := { name := "wholeHalts", fn := fun _ => fun
  | [d1, d2, d3, d4] => { results := [.lit (.bool true)], args := [d1, d2, d3, d4] }
  | _ => none }
def wholeHaltsRow : OpenClaim := { program := "ytfdmjoddhjmokaagreatdoor", sum := "666eeb7d4b2aba5fa08d4ce2a8b97f2a67803c9e33a914146581d115b9684d44", func := "promptbook/promptbooktop.WholeHalts", spec := "wholeHalts", inPlace := ["slices.overlaps[promptbook/api.Event]"], unfollowed := true, recurses := true, named := ["promptbook/feel.kinds"], plainKeys := false, apart := false, laid := [("promptbook/feel.kinds", laid_promptbook_feel_kinds)] }
def WholeHaltsSaid : Prop := wholeHaltsRow.holds Tryz.pinned (OpenSpec.ofChange wholeHaltsSpec)

/-- ITS FALSE NEIGHBOUR: 'it returns false'. Refute it at one input. -/
def wholeHaltsWrong : ChangeSpec := { name := "wholeHalts", fn := fun _ => fun
  | [d1, d2, d3, d4] => { results := [.lit (.bool false)], args := [d1, d2, d3, d4] }
  | _ => none }
def WholeHaltsWrongFalsely : Prop := wholeHaltsRow.holds Tryz.pinned (OpenSpec.ofChange wholeHaltsWrong)

/- THE SECOND FORM. 'bulk': how many values and letters a reading holds, each counted each time it is reached (what is shared counts as often as it is met; a slice's spare places count too). A statement '..UptoSaid' is the law's where the arguments, and the package variables that the reading takes, are together of bulk at most 1048576: NARROWER than '..Said'. Prove '..Said' where nothing that the law and all that it calls make is longer than what came in: it says more and counts as full. Else prove '..UptoSaid'. A law counts once. -/
mutual
def uptoBulk {H : Type} : DataW H → Nat
  | .lit (.string bytes) => bytes.length + 1
  | .lit _ => 1
  | .nil => 1
  | .ptr d => uptoBulk d + 1
  | .slice elems spare => uptoBulkAll elems + uptoBulkAll spare + 1
  | .agg parts => uptoBulkAll parts + 1
  | .iface _ d => uptoBulk d + 1
  | .map entries => uptoBulkEntries entries + 1
  | .held _ => 1
def uptoBulkAll {H : Type} : List (DataW H) → Nat
  | [] => 0
  | d :: r => uptoBulk d + uptoBulkAll r
def uptoBulkEntries {H : Type} : List (Lit × DataW H) → Nat
  | [] => 0
  | x :: r => uptoBulkEntry x + uptoBulkEntries r
def uptoBulkEntry {H : Type} : Lit × DataW H → Nat
  | (.string bytes, d) => bytes.length + uptoBulk d + 1
  | (_, d) => uptoBulk d + 1
 end
def uptoSmall : (H : Type) → List (DataW H) → Bool := fun _ ds => decide (uptoBulkAll ds ≤ 1048576)
def OpenSpec.upto (s : _root_.Go.ChangeSpec) : _root_.Go.OpenSpec := { _root_.Go.OpenSpec.ofChange s with cond := some uptoSmall }

/-- 'promptbooktop.WholeComes', WHERE WHAT IT READS IS OF BULK AT MOST 1048576: true; the input reads as it did. -/
def wholeComesUptoRow : OpenClaim := { program := "ytfdmjoddhjmokaagreatdoor", sum := "666eeb7d4b2aba5fa08d4ce2a8b97f2a67803c9e33a914146581d115b9684d44", func := "promptbook/promptbooktop.WholeComes", spec := "wholeComes", inPlace := ["slices.overlaps[promptbook/api.Event]"], unfollowed := true, recurses := true, named := ["promptbook/feel.kinds"], plainKeys := false, apart := false, laid := [("promptbook/feel.kinds", laid_promptbook_feel_kinds)], narrowed := true }
def WholeComesUptoSaid : Prop := wholeComesUptoRow.holds Tryz.pinned (OpenSpec.upto wholeComesSpec)

/-- 'promptbooktop.WholeDesync', WHERE WHAT IT READS IS OF BULK AT MOST 1048576: true; the input reads as it did. -/
def wholeDesyncUptoRow : OpenClaim := { program := "ytfdmjoddhjmokaagreatdoor", sum := "666eeb7d4b2aba5fa08d4ce2a8b97f2a67803c9e33a914146581d115b9684d44", func := "promptbook/promptbooktop.WholeDesync", spec := "wholeDesync", inPlace := ["slices.overlaps[promptbook/api.Event]"], unfollowed := true, recurses := true, named := ["promptbook/feel.kinds"], plainKeys := false, apart := false, laid := [("promptbook/feel.kinds", laid_promptbook_feel_kinds)], narrowed := true }
def WholeDesyncUptoSaid : Prop := wholeDesyncUptoRow.holds Tryz.pinned (OpenSpec.upto wholeDesyncSpec)

/-- 'promptbooktop.WholeHalts', WHERE WHAT IT READS IS OF BULK AT MOST 1048576: true; the input reads as it did. -/
def wholeHaltsUptoRow : OpenClaim := { program := "ytfdmjoddhjmokaagreatdoor", sum := "666eeb7d4b2aba5fa08d4ce2a8b97f2a67803c9e33a914146581d115b9684d44", func := "promptbook/promptbooktop.WholeHalts", spec := "wholeHalts", inPlace := ["slices.overlaps[promptbook/api.Event]"], unfollowed := true, recurses := true, named := ["promptbook/feel.kinds"], plainKeys := false, apart := false, laid := [("promptbook/feel.kinds", laid_promptbook_feel_kinds)], narrowed := true }
def WholeHaltsUptoSaid : Prop := wholeHaltsUptoRow.holds Tryz.pinned (OpenSpec.upto wholeHaltsSpec)

end Rows
end Go.Proofs.YtfdmjoddhjmokaaGreatDoor
