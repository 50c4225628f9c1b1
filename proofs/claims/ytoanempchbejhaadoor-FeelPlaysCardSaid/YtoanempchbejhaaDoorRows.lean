/-
  NARROWER THAN 'FOR EVERY INPUT', by the rows' own cells (each row's printed sentence says how): FeelEnds: laid · FeelFalls: laid · FeelNil: laid · FeelPlays: laid.
  DERIVED. THE GIVEN ROWS OF THIS SEAT. 4 by the template 'for every input the law returns true; each argument reads behind the call as it read before'; 0 by the template 'total and deterministic' (their statements: YtoanempchbejhaaDoorTotals.lean).
  GIVEN WITH THE SEED: the statements are not yours to turn. If you find one false, say at which input.
  Laid BY PROGRAM, IN A SANDBOX (cutbox-rows.mjs): the forced cells as the released guide's own fill.sh prints them over the translation 2bbdff2f763b6e43… (all of the seat's roots in one cut). By AI agents, Wed Nov 11 2026. No macro, syntax, notation, axiom, sorry.
-/
import Derived.Test.YtoanempchbejhaaDoorChecked
import GoSem.Claim
import GoSem.ClaimJoined
import GoSem.ClaimMapViews
import Derived.JoinedTies
import Derived.KernelRfl
namespace Go.Proofs.YtoanempchbejhaaDoor
/- THE CELL 'sum', in the pinned program and in every row, IS THE sha256 OF THE DUMP (.gsa) THAT YtoanempchbejhaaDoorProg.lean LOADS. Nothing in Lean hashes anything: it is a label: what it is worth is what the hold of that sum in a sandbox is worth. -/
noncomputable def Tryd.pinned : Pinned := { name := "ytoanempchbejhaadoor", sum := "2bbdff2f763b6e437edc64b1886a49e7d2923e32f6d3706e7bd003dc4f259aba", checked := Tryd.checked }
namespace Rows
def none {H : Type} : Left H := { results := [], args := [] }

/- WHAT THE LISTED PACKAGE-LEVEL VARIABLES READ AS WHEN THE CALL BEGINS. Each datum BY PROGRAM (the guide's laid-datum.mjs) off the statement by which the dump's own 'gosem.cut.vars' lays the variable. In a bare row this is a premise. The card (YtoanempchbejhaaDoorCards.lean) ties it to the program's text. -/
def laid_promptbook_feel_kinds {H : Type} : DataW H := .agg [.agg [.lit (.int .i64 0), .lit (.int .i64 0), .lit (.int .i64 0), .lit (.int .i64 0)], .agg [.lit (.int .i64 0), .lit (.int .i64 6000), .lit (.int .i64 3), .lit (.int .i64 0)], .agg [.lit (.int .i64 24000), .lit (.int .i64 12000), .lit (.int .i64 12), .lit (.int .i64 6)], .agg [.lit (.int .i64 8000), .lit (.int .i64 0), .lit (.int .i64 4), .lit (.int .i64 0)], .agg [.lit (.int .i64 16000), .lit (.int .i64 8000), .lit (.int .i64 8), .lit (.int .i64 4)], .agg [.lit (.int .i64 32768), .lit (.int .i64 32768), .lit (.int .i64 30), .lit (.int .i64 24)], .agg [.lit (.int .i64 0), .lit (.int .i64 4000), .lit (.int .i64 6), .lit (.int .i64 8)], .agg [.lit (.int .i64 0), .lit (.int .i64 0), .lit (.int .i64 0), .lit (.int .i64 0)], .agg [.lit (.int .i64 0), .lit (.int .i64 0), .lit (.int .i64 0), .lit (.int .i64 0)], .agg [.lit (.int .i64 0), .lit (.int .i64 0), .lit (.int .i64 0), .lit (.int .i64 0)]]

/-- 'promptbooklaw21.FeelEnds': WHATEVER THE INPUT: true; the input reads as it did. -/
def feelEndsSpec : ChangeSpec := { name := "feelEnds", fn := fun _ => fun
  | [d1, d2] => { results := [.lit (.bool true)], args := [d1, d2] }
  | _ => none }
def feelEndsRow : OpenClaim := { program := "ytoanempchbejhaadoor", sum := "2bbdff2f763b6e437edc64b1886a49e7d2923e32f6d3706e7bd003dc4f259aba", func := "promptbook/promptbooklaw21.FeelEnds", spec := "feelEnds", unfollowed := true, recurses := true, named := ["promptbook/feel.kinds"], apart := false, laid := [("promptbook/feel.kinds", laid_promptbook_feel_kinds)] }
def FeelEndsSaid : Prop := feelEndsRow.holds Tryd.pinned (OpenSpec.ofChange feelEndsSpec)

/-- ITS FALSE NEIGHBOUR: 'it returns false'. Refute it at one input. -/
def feelEndsWrong : ChangeSpec := { name := "feelEnds", fn := fun _ => fun
  | [d1, d2] => { results := [.lit (.bool false)], args := [d1, d2] }
  | _ => none }
def FeelEndsWrongFalsely : Prop := feelEndsRow.holds Tryd.pinned (OpenSpec.ofChange feelEndsWrong)

/-- 'promptbooklaw21.FeelFalls': WHATEVER THE INPUT: true; the input reads as it did. -/
def feelFallsSpec : ChangeSpec := { name := "feelFalls", fn := fun _ => fun
  | [d1, d2, d3] => { results := [.lit (.bool true)], args := [d1, d2, d3] }
  | _ => none }
def feelFallsRow : OpenClaim := { program := "ytoanempchbejhaadoor", sum := "2bbdff2f763b6e437edc64b1886a49e7d2923e32f6d3706e7bd003dc4f259aba", func := "promptbook/promptbooklaw21.FeelFalls", spec := "feelFalls", unfollowed := true, recurses := true, named := ["promptbook/feel.kinds"], apart := false, laid := [("promptbook/feel.kinds", laid_promptbook_feel_kinds)] }
def FeelFallsSaid : Prop := feelFallsRow.holds Tryd.pinned (OpenSpec.ofChange feelFallsSpec)

/-- ITS FALSE NEIGHBOUR: 'it returns false'. Refute it at one input. -/
def feelFallsWrong : ChangeSpec := { name := "feelFalls", fn := fun _ => fun
  | [d1, d2, d3] => { results := [.lit (.bool false)], args := [d1, d2, d3] }
  | _ => none }
def FeelFallsWrongFalsely : Prop := feelFallsRow.holds Tryd.pinned (OpenSpec.ofChange feelFallsWrong)

/-- 'promptbooklaw21.FeelNil': WHATEVER THE INPUT: true; the input reads as it did. -/
def feelNilSpec : ChangeSpec := { name := "feelNil", fn := fun _ => fun
  | [d] => { results := [.lit (.bool true)], args := [d] }
  | _ => none }
def feelNilRow : OpenClaim := { program := "ytoanempchbejhaadoor", sum := "2bbdff2f763b6e437edc64b1886a49e7d2923e32f6d3706e7bd003dc4f259aba", func := "promptbook/promptbooklaw21.FeelNil", spec := "feelNil", unfollowed := true, recurses := true, named := ["promptbook/feel.kinds"], apart := false, laid := [("promptbook/feel.kinds", laid_promptbook_feel_kinds)] }
def FeelNilSaid : Prop := feelNilRow.holds Tryd.pinned (OpenSpec.ofChange feelNilSpec)

/-- ITS FALSE NEIGHBOUR: 'it returns false'. Refute it at one input. -/
def feelNilWrong : ChangeSpec := { name := "feelNil", fn := fun _ => fun
  | [d] => { results := [.lit (.bool false)], args := [d] }
  | _ => none }
def FeelNilWrongFalsely : Prop := feelNilRow.holds Tryd.pinned (OpenSpec.ofChange feelNilWrong)

/-- 'promptbooklaw21.FeelPlays': WHATEVER THE INPUT: true; the input reads as it did. -/
def feelPlaysSpec : ChangeSpec := { name := "feelPlays", fn := fun _ => fun
  | [d1, d2, d3] => { results := [.lit (.bool true)], args := [d1, d2, d3] }
  | _ => none }
def feelPlaysRow : OpenClaim := { program := "ytoanempchbejhaadoor", sum := "2bbdff2f763b6e437edc64b1886a49e7d2923e32f6d3706e7bd003dc4f259aba", func := "promptbook/promptbooklaw21.FeelPlays", spec := "feelPlays", unfollowed := true, recurses := true, named := ["promptbook/feel.kinds"], apart := false, laid := [("promptbook/feel.kinds", laid_promptbook_feel_kinds)] }
def FeelPlaysSaid : Prop := feelPlaysRow.holds Tryd.pinned (OpenSpec.ofChange feelPlaysSpec)

/-- ITS FALSE NEIGHBOUR: 'it returns false'. Refute it at one input. -/
def feelPlaysWrong : ChangeSpec := { name := "feelPlays", fn := fun _ => fun
  | [d1, d2, d3] => { results := [.lit (.bool false)], args := [d1, d2, d3] }
  | _ => none }
def FeelPlaysWrongFalsely : Prop := feelPlaysRow.holds Tryd.pinned (OpenSpec.ofChange feelPlaysWrong)

/- THE SECOND FORM. 'bulk': how many values and letters a reading holds, each counted each time it is reached (what is shared counts as often as it is met; a slice's spare places count too). A statement '..UptoSaid' is the law's where the arguments, and the package variables that the reading takes, are together of bulk at most 1048576: NARROWER than '..Said'. Prove '..Said' where nothing that the law and all that it calls make is longer than what came in: it says more and counts as full. Else prove '..UptoSaid'. A law counts once. -/
mutual
def uptoBulk {H : Type} : DataW H → Nat
  | .lit (.string bytes) => bytes.length + 1
  | .lit _ => 1
  | .nil => 1
  | .ptr d => uptoBulk d + 1
  | .slice elems spare => uptoBulkAll elems + uptoBulkAll spare + 1
  | .agg parts => uptoBulkAll parts + 1
  | .iface _ d => uptoBulk d + 1
  | .map entries => uptoBulkEntries entries + 1
  | .held _ => 1
def uptoBulkAll {H : Type} : List (DataW H) → Nat
  | [] => 0
  | d :: r => uptoBulk d + uptoBulkAll r
def uptoBulkEntries {H : Type} : List (Lit × DataW H) → Nat
  | [] => 0
  | x :: r => uptoBulkEntry x + uptoBulkEntries r
def uptoBulkEntry {H : Type} : Lit × DataW H → Nat
  | (.string bytes, d) => bytes.length + uptoBulk d + 1
  | (_, d) => uptoBulk d + 1
 end
def uptoSmall : (H : Type) → List (DataW H) → Bool := fun _ ds => decide (uptoBulkAll ds ≤ 1048576)
def OpenSpec.upto (s : _root_.Go.ChangeSpec) : _root_.Go.OpenSpec := { _root_.Go.OpenSpec.ofChange s with cond := some uptoSmall }

/-- 'promptbooklaw21.FeelEnds', WHERE WHAT IT READS IS OF BULK AT MOST 1048576: true; the input reads as it did. -/
def feelEndsUptoRow : OpenClaim := { program := "ytoanempchbejhaadoor", sum := "2bbdff2f763b6e437edc64b1886a49e7d2923e32f6d3706e7bd003dc4f259aba", func := "promptbook/promptbooklaw21.FeelEnds", spec := "feelEnds", unfollowed := true, recurses := true, named := ["promptbook/feel.kinds"], apart := false, laid := [("promptbook/feel.kinds", laid_promptbook_feel_kinds)], narrowed := true }
def FeelEndsUptoSaid : Prop := feelEndsUptoRow.holds Tryd.pinned (OpenSpec.upto feelEndsSpec)

/-- 'promptbooklaw21.FeelFalls', WHERE WHAT IT READS IS OF BULK AT MOST 1048576: true; the input reads as it did. -/
def feelFallsUptoRow : OpenClaim := { program := "ytoanempchbejhaadoor", sum := "2bbdff2f763b6e437edc64b1886a49e7d2923e32f6d3706e7bd003dc4f259aba", func := "promptbook/promptbooklaw21.FeelFalls", spec := "feelFalls", unfollowed := true, recurses := true, named := ["promptbook/feel.kinds"], apart := false, laid := [("promptbook/feel.kinds", laid_promptbook_feel_kinds)], narrowed := true }
def FeelFallsUptoSaid : Prop := feelFallsUptoRow.holds Tryd.pinned (OpenSpec.upto feelFallsSpec)

/-- 'promptbooklaw21.FeelNil', WHERE WHAT IT READS IS OF BULK AT MOST 1048576: true; the input reads as it did. -/
def feelNilUptoRow : OpenClaim := { program := "ytoanempchbejhaadoor", sum := "2bbdff2f763b6e437edc64b1886a49e7d2923e32f6d3706e7bd003dc4f259aba", func := "promptbook/promptbooklaw21.FeelNil", spec := "feelNil", unfollowed := true, recurses := true, named := ["promptbook/feel.kinds"], apart := false, laid := [("promptbook/feel.kinds", laid_promptbook_feel_kinds)], narrowed := true }
def FeelNilUptoSaid : Prop := feelNilUptoRow.holds Tryd.pinned (OpenSpec.upto feelNilSpec)

/-- 'promptbooklaw21.FeelPlays', WHERE WHAT IT READS IS OF BULK AT MOST 1048576: true; the input reads as it did. -/
def feelPlaysUptoRow : OpenClaim := { program := "ytoanempchbejhaadoor", sum := "2bbdff2f763b6e437edc64b1886a49e7d2923e32f6d3706e7bd003dc4f259aba", func := "promptbook/promptbooklaw21.FeelPlays", spec := "feelPlays", unfollowed := true, recurses := true, named := ["promptbook/feel.kinds"], apart := false, laid := [("promptbook/feel.kinds", laid_promptbook_feel_kinds)], narrowed := true }
def FeelPlaysUptoSaid : Prop := feelPlaysUptoRow.holds Tryd.pinned (OpenSpec.upto feelPlaysSpec)

end Rows
end Go.Proofs.YtoanempchbejhaaDoor
