/-
  No cell of these rows narrows 'for every input' (looked for: loops, veiled, ifaces, maps, wideKeys, modest, calm, conditions, laid).
  DERIVED. THE GIVEN ROWS OF THIS SEAT. 3 by the template 'for every input the law returns true; each argument reads behind the call as it read before'; 0 by the template 'total and deterministic' (their statements: YtkfcajgingmneaaTotals.lean).
  GIVEN WITH THE SEED: the statements are not yours to turn. If you find one false, say at which input.
  Laid BY PROGRAM, IN A SANDBOX (cutbox-rows.mjs): the forced cells as the released guide's own fill.sh prints them over the translation 3fcb0b4e64406d35… (all of the seat's roots in one cut). By AI agents, Wed Nov 11 2026. No macro, syntax, notation, axiom, sorry.
-/
import Derived.Test.YtkfcajgingmneaaChecked
import GoSem.Claim
import GoSem.ClaimJoined
import GoSem.ClaimMapViews
import Derived.JoinedTies
import Derived.KernelRfl
namespace Go.Proofs.Ytkfcajgingmneaa
/- THE CELL 'sum', in the pinned program and in every row, IS THE sha256 OF THE DUMP (.gsa) THAT YtkfcajgingmneaaProg.lean LOADS. Nothing in Lean hashes anything: it is a label: what it is worth is what the hold of that sum in a sandbox is worth. -/
noncomputable def Try.pinned : Pinned := { name := "ytkfcajgingmneaa", sum := "3fcb0b4e64406d35e9a1d0747e8655de772f2f1912faccbd26f6b3034d50b62e", checked := Try.checked }
namespace Rows
def none {H : Type} : Left H := { results := [], args := [] }

/-- 'promptbooklaw32.StormFair': WHATEVER THE INPUT: true; the input reads as it did. -/
def stormFairSpec : ChangeSpec := { name := "stormFair", fn := fun _ => fun
  | [d1, d2] => { results := [.lit (.bool true)], args := [d1, d2] }
  | _ => none }
def stormFairRow : OpenClaim := { program := "ytkfcajgingmneaa", sum := "3fcb0b4e64406d35e9a1d0747e8655de772f2f1912faccbd26f6b3034d50b62e", func := "promptbook/promptbooklaw32.StormFair", spec := "stormFair", unfollowed := true, recurses := true, apart := false }
def StormFairSaid : Prop := stormFairRow.holds Try.pinned (OpenSpec.ofChange stormFairSpec)

/-- ITS FALSE NEIGHBOUR: 'it returns false'. Refute it at one input. -/
def stormFairWrong : ChangeSpec := { name := "stormFair", fn := fun _ => fun
  | [d1, d2] => { results := [.lit (.bool false)], args := [d1, d2] }
  | _ => none }
def StormFairWrongFalsely : Prop := stormFairRow.holds Try.pinned (OpenSpec.ofChange stormFairWrong)

/-- 'promptbooklaw32.StormPlans': WHATEVER THE INPUT: true; the input reads as it did. -/
def stormPlansSpec : ChangeSpec := { name := "stormPlans", fn := fun _ => fun
  | [d1, d2, d3, d4] => { results := [.lit (.bool true)], args := [d1, d2, d3, d4] }
  | _ => none }
def stormPlansRow : OpenClaim := { program := "ytkfcajgingmneaa", sum := "3fcb0b4e64406d35e9a1d0747e8655de772f2f1912faccbd26f6b3034d50b62e", func := "promptbook/promptbooklaw32.StormPlans", spec := "stormPlans", unfollowed := true, recurses := true, apart := false }
def StormPlansSaid : Prop := stormPlansRow.holds Try.pinned (OpenSpec.ofChange stormPlansSpec)

/-- ITS FALSE NEIGHBOUR: 'it returns false'. Refute it at one input. -/
def stormPlansWrong : ChangeSpec := { name := "stormPlans", fn := fun _ => fun
  | [d1, d2, d3, d4] => { results := [.lit (.bool false)], args := [d1, d2, d3, d4] }
  | _ => none }
def StormPlansWrongFalsely : Prop := stormPlansRow.holds Try.pinned (OpenSpec.ofChange stormPlansWrong)

/-- 'promptbooklaw32.StormCalms': WHATEVER THE INPUT: true; the input reads as it did. -/
def stormCalmsSpec : ChangeSpec := { name := "stormCalms", fn := fun _ => fun
  | [d1, d2] => { results := [.lit (.bool true)], args := [d1, d2] }
  | _ => none }
def stormCalmsRow : OpenClaim := { program := "ytkfcajgingmneaa", sum := "3fcb0b4e64406d35e9a1d0747e8655de772f2f1912faccbd26f6b3034d50b62e", func := "promptbook/promptbooklaw32.StormCalms", spec := "stormCalms", unfollowed := true, recurses := true, apart := false }
def StormCalmsSaid : Prop := stormCalmsRow.holds Try.pinned (OpenSpec.ofChange stormCalmsSpec)

/-- ITS FALSE NEIGHBOUR: 'it returns false'. Refute it at one input. -/
def stormCalmsWrong : ChangeSpec := { name := "stormCalms", fn := fun _ => fun
  | [d1, d2] => { results := [.lit (.bool false)], args := [d1, d2] }
  | _ => none }
def StormCalmsWrongFalsely : Prop := stormCalmsRow.holds Try.pinned (OpenSpec.ofChange stormCalmsWrong)

/- THE SECOND FORM. 'bulk': how many values and letters a reading holds, each counted each time it is reached (what is shared counts as often as it is met; a slice's spare places count too). A statement '..UptoSaid' is the law's where the arguments, and the package variables that the reading takes, are together of bulk at most 1048576: NARROWER than '..Said'. Prove '..Said' where nothing that the law and all that it calls make is longer than what came in: it says more and counts as full. Else prove '..UptoSaid'. A law counts once. -/
mutual
def uptoBulk {H : Type} : DataW H → Nat
  | .lit (.string bytes) => bytes.length + 1
  | .lit _ => 1
  | .nil => 1
  | .ptr d => uptoBulk d + 1
  | .slice elems spare => uptoBulkAll elems + uptoBulkAll spare + 1
  | .agg parts => uptoBulkAll parts + 1
  | .iface _ d => uptoBulk d + 1
  | .map entries => uptoBulkEntries entries + 1
  | .held _ => 1
def uptoBulkAll {H : Type} : List (DataW H) → Nat
  | [] => 0
  | d :: r => uptoBulk d + uptoBulkAll r
def uptoBulkEntries {H : Type} : List (Lit × DataW H) → Nat
  | [] => 0
  | x :: r => uptoBulkEntry x + uptoBulkEntries r
def uptoBulkEntry {H : Type} : Lit × DataW H → Nat
  | (.string bytes, d) => bytes.length + uptoBulk d + 1
  | (_, d) => uptoBulk d + 1
 end
def uptoSmall : (H : Type) → List (DataW H) → Bool := fun _ ds => decide (uptoBulkAll ds ≤ 1048576)
def OpenSpec.upto (s : _root_.Go.ChangeSpec) : _root_.Go.OpenSpec := { _root_.Go.OpenSpec.ofChange s with cond := some uptoSmall }

/-- 'promptbooklaw32.StormFair', WHERE WHAT IT READS IS OF BULK AT MOST 1048576: true; the input reads as it did. -/
def stormFairUptoRow : OpenClaim := { program := "ytkfcajgingmneaa", sum := "3fcb0b4e64406d35e9a1d0747e8655de772f2f1912faccbd26f6b3034d50b62e", func := "promptbook/promptbooklaw32.StormFair", spec := "stormFair", unfollowed := true, recurses := true, apart := false, narrowed := true }
def StormFairUptoSaid : Prop := stormFairUptoRow.holds Try.pinned (OpenSpec.upto stormFairSpec)

/-- 'promptbooklaw32.StormPlans', WHERE WHAT IT READS IS OF BULK AT MOST 1048576: true; the input reads as it did. -/
def stormPlansUptoRow : OpenClaim := { program := "ytkfcajgingmneaa", sum := "3fcb0b4e64406d35e9a1d0747e8655de772f2f1912faccbd26f6b3034d50b62e", func := "promptbook/promptbooklaw32.StormPlans", spec := "stormPlans", unfollowed := true, recurses := true, apart := false, narrowed := true }
def StormPlansUptoSaid : Prop := stormPlansUptoRow.holds Try.pinned (OpenSpec.upto stormPlansSpec)

/-- 'promptbooklaw32.StormCalms', WHERE WHAT IT READS IS OF BULK AT MOST 1048576: true; the input reads as it did. -/
def stormCalmsUptoRow : OpenClaim := { program := "ytkfcajgingmneaa", sum := "3fcb0b4e64406d35e9a1d0747e8655de772f2f1912faccbd26f6b3034d50b62e", func := "promptbook/promptbooklaw32.StormCalms", spec := "stormCalms", unfollowed := true, recurses := true, apart := false, narrowed := true }
def StormCalmsUptoSaid : Prop := stormCalmsUptoRow.holds Try.pinned (OpenSpec.upto stormCalmsSpec)

end Rows
end Go.Proofs.Ytkfcajgingmneaa
