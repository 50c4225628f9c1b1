/-
  No cell of these rows narrows 'for every input' (looked for: loops, veiled, ifaces, maps, wideKeys, modest, calm, conditions, laid).
  DERIVED. THE GIVEN ROWS OF THIS SEAT. 5 by the template 'for every input the law returns true; each argument reads behind the call as it read before'; 0 by the template 'total and deterministic' (their statements: YtljnddhldjaglaaTotals.lean).
  GIVEN WITH THE SEED: the statements are not yours to turn. If you find one false, say at which input.
  Laid BY PROGRAM, IN A SANDBOX (cutbox-rows.mjs): the forced cells as the released guide's own fill.sh prints them over the translation f40c95eaf63f658a… (all of the seat's roots in one cut). By AI agents, Wed Nov 11 2026. No macro, syntax, notation, axiom, sorry.
-/
import Derived.Test.YtljnddhldjaglaaChecked
import GoSem.Claim
import GoSem.ClaimJoined
import GoSem.ClaimMapViews
import Derived.JoinedTies
import Derived.KernelRfl
namespace Go.Proofs.Ytljnddhldjaglaa
/- THE CELL 'sum', in the pinned program and in every row, IS THE sha256 OF THE DUMP (.gsa) THAT YtljnddhldjaglaaProg.lean LOADS. Nothing in Lean hashes anything: it is a label: what it is worth is what the hold of that sum in a sandbox is worth. -/
noncomputable def Try.pinned : Pinned := { name := "ytljnddhldjaglaa", sum := "f40c95eaf63f658a0fe451d4dc6991583845de4f79cbcbb4db311bfa1f7a7f05", checked := Try.checked }
namespace Rows
def none {H : Type} : Left H := { results := [], args := [] }

/-- 'promptbooklaw20.MixerAt': WHATEVER THE INPUT: true; the input reads as it did. -/
def mixerAtSpec : ChangeSpec := { name := "mixerAt", fn := fun _ => fun
  | [d1, d2, d3] => { results := [.lit (.bool true)], args := [d1, d2, d3] }
  | _ => none }
def mixerAtRow : OpenClaim := { program := "ytljnddhldjaglaa", sum := "f40c95eaf63f658a0fe451d4dc6991583845de4f79cbcbb4db311bfa1f7a7f05", func := "promptbook/promptbooklaw20.MixerAt", spec := "mixerAt", unfollowed := true, recurses := true, apart := false }
def MixerAtSaid : Prop := mixerAtRow.holds Try.pinned (OpenSpec.ofChange mixerAtSpec)

/-- ITS FALSE NEIGHBOUR: 'it returns false'. Refute it at one input. -/
def mixerAtWrong : ChangeSpec := { name := "mixerAt", fn := fun _ => fun
  | [d1, d2, d3] => { results := [.lit (.bool false)], args := [d1, d2, d3] }
  | _ => none }
def MixerAtWrongFalsely : Prop := mixerAtRow.holds Try.pinned (OpenSpec.ofChange mixerAtWrong)

/-- 'promptbooklaw20.MixerParts': WHATEVER THE INPUT: true; the input reads as it did. -/
def mixerPartsSpec : ChangeSpec := { name := "mixerParts", fn := fun _ => fun
  | [d1, d2, d3, d4] => { results := [.lit (.bool true)], args := [d1, d2, d3, d4] }
  | _ => none }
def mixerPartsRow : OpenClaim := { program := "ytljnddhldjaglaa", sum := "f40c95eaf63f658a0fe451d4dc6991583845de4f79cbcbb4db311bfa1f7a7f05", func := "promptbook/promptbooklaw20.MixerParts", spec := "mixerParts", unfollowed := true, recurses := true, apart := false }
def MixerPartsSaid : Prop := mixerPartsRow.holds Try.pinned (OpenSpec.ofChange mixerPartsSpec)

/-- ITS FALSE NEIGHBOUR: 'it returns false'. Refute it at one input. -/
def mixerPartsWrong : ChangeSpec := { name := "mixerParts", fn := fun _ => fun
  | [d1, d2, d3, d4] => { results := [.lit (.bool false)], args := [d1, d2, d3, d4] }
  | _ => none }
def MixerPartsWrongFalsely : Prop := mixerPartsRow.holds Try.pinned (OpenSpec.ofChange mixerPartsWrong)

/-- 'promptbooklaw20.MixerQuiet': WHATEVER THE INPUT: true; the input reads as it did. -/
def mixerQuietSpec : ChangeSpec := { name := "mixerQuiet", fn := fun _ => fun
  | [d1, d2, d3] => { results := [.lit (.bool true)], args := [d1, d2, d3] }
  | _ => none }
def mixerQuietRow : OpenClaim := { program := "ytljnddhldjaglaa", sum := "f40c95eaf63f658a0fe451d4dc6991583845de4f79cbcbb4db311bfa1f7a7f05", func := "promptbook/promptbooklaw20.MixerQuiet", spec := "mixerQuiet", unfollowed := true, recurses := true, apart := false }
def MixerQuietSaid : Prop := mixerQuietRow.holds Try.pinned (OpenSpec.ofChange mixerQuietSpec)

/-- ITS FALSE NEIGHBOUR: 'it returns false'. Refute it at one input. -/
def mixerQuietWrong : ChangeSpec := { name := "mixerQuiet", fn := fun _ => fun
  | [d1, d2, d3] => { results := [.lit (.bool false)], args := [d1, d2, d3] }
  | _ => none }
def MixerQuietWrongFalsely : Prop := mixerQuietRow.holds Try.pinned (OpenSpec.ofChange mixerQuietWrong)

/-- 'promptbooklaw20.MixerPlays': WHATEVER THE INPUT: true; the input reads as it did. -/
def mixerPlaysSpec : ChangeSpec := { name := "mixerPlays", fn := fun _ => fun
  | [d1, d2] => { results := [.lit (.bool true)], args := [d1, d2] }
  | _ => none }
def mixerPlaysRow : OpenClaim := { program := "ytljnddhldjaglaa", sum := "f40c95eaf63f658a0fe451d4dc6991583845de4f79cbcbb4db311bfa1f7a7f05", func := "promptbook/promptbooklaw20.MixerPlays", spec := "mixerPlays", unfollowed := true, recurses := true, apart := false }
def MixerPlaysSaid : Prop := mixerPlaysRow.holds Try.pinned (OpenSpec.ofChange mixerPlaysSpec)

/-- ITS FALSE NEIGHBOUR: 'it returns false'. Refute it at one input. -/
def mixerPlaysWrong : ChangeSpec := { name := "mixerPlays", fn := fun _ => fun
  | [d1, d2] => { results := [.lit (.bool false)], args := [d1, d2] }
  | _ => none }
def MixerPlaysWrongFalsely : Prop := mixerPlaysRow.holds Try.pinned (OpenSpec.ofChange mixerPlaysWrong)

/-- 'promptbooklaw20.MixerNil': WHATEVER THE INPUT: true; the input reads as it did. -/
def mixerNilSpec : ChangeSpec := { name := "mixerNil", fn := fun _ => fun
  | [d] => { results := [.lit (.bool true)], args := [d] }
  | _ => none }
def mixerNilRow : OpenClaim := { program := "ytljnddhldjaglaa", sum := "f40c95eaf63f658a0fe451d4dc6991583845de4f79cbcbb4db311bfa1f7a7f05", func := "promptbook/promptbooklaw20.MixerNil", spec := "mixerNil", unfollowed := true, recurses := true, apart := false }
def MixerNilSaid : Prop := mixerNilRow.holds Try.pinned (OpenSpec.ofChange mixerNilSpec)

/-- ITS FALSE NEIGHBOUR: 'it returns false'. Refute it at one input. -/
def mixerNilWrong : ChangeSpec := { name := "mixerNil", fn := fun _ => fun
  | [d] => { results := [.lit (.bool false)], args := [d] }
  | _ => none }
def MixerNilWrongFalsely : Prop := mixerNilRow.holds Try.pinned (OpenSpec.ofChange mixerNilWrong)

/- THE SECOND FORM. 'bulk': how many values and letters a reading holds, each counted each time it is reached (what is shared counts as often as it is met; a slice's spare places count too). A statement '..UptoSaid' is the law's where the arguments, and the package variables that the reading takes, are together of bulk at most 1048576: NARROWER than '..Said'. Prove '..Said' where nothing that the law and all that it calls make is longer than what came in: it says more and counts as full. Else prove '..UptoSaid'. A law counts once. -/
mutual
def uptoBulk {H : Type} : DataW H → Nat
  | .lit (.string bytes) => bytes.length + 1
  | .lit _ => 1
  | .nil => 1
  | .ptr d => uptoBulk d + 1
  | .slice elems spare => uptoBulkAll elems + uptoBulkAll spare + 1
  | .agg parts => uptoBulkAll parts + 1
  | .iface _ d => uptoBulk d + 1
  | .map entries => uptoBulkEntries entries + 1
  | .held _ => 1
def uptoBulkAll {H : Type} : List (DataW H) → Nat
  | [] => 0
  | d :: r => uptoBulk d + uptoBulkAll r
def uptoBulkEntries {H : Type} : List (Lit × DataW H) → Nat
  | [] => 0
  | x :: r => uptoBulkEntry x + uptoBulkEntries r
def uptoBulkEntry {H : Type} : Lit × DataW H → Nat
  | (.string bytes, d) => bytes.length + uptoBulk d + 1
  | (_, d) => uptoBulk d + 1
 end
def uptoSmall : (H : Type) → List (DataW H) → Bool := fun _ ds => decide (uptoBulkAll ds ≤ 1048576)
def OpenSpec.upto (s : _root_.Go.ChangeSpec) : _root_.Go.OpenSpec := { _root_.Go.OpenSpec.ofChange s with cond := some uptoSmall }

/-- 'promptbooklaw20.MixerAt', WHERE WHAT IT READS IS OF BULK AT MOST 1048576: true; the input reads as it did. -/
def mixerAtUptoRow : OpenClaim := { program := "ytljnddhldjaglaa", sum := "f40c95eaf63f658a0fe451d4dc6991583845de4f79cbcbb4db311bfa1f7a7f05", func := "promptbook/promptbooklaw20.MixerAt", spec := "mixerAt", unfollowed := true, recurses := true, apart := false, narrowed := true }
def MixerAtUptoSaid : Prop := mixerAtUptoRow.holds Try.pinned (OpenSpec.upto mixerAtSpec)

/-- 'promptbooklaw20.MixerParts', WHERE WHAT IT READS IS OF BULK AT MOST 1048576: true; the input reads as it did. -/
def mixerPartsUptoRow : OpenClaim := { program := "ytljnddhldjaglaa", sum := "f40c95eaf63f658a0fe451d4dc6991583845de4f79cbcbb4db311bfa1f7a7f05", func := "promptbook/promptbooklaw20.MixerParts", spec := "mixerParts", unfollowed := true, recurses := true, apart := false, narrowed := true }
def MixerPartsUptoSaid : Prop := mixerPartsUptoRow.holds Try.pinned (OpenSpec.upto mixerPartsSpec)

/-- 'promptbooklaw20.MixerQuiet', WHERE WHAT IT READS IS OF BULK AT MOST 1048576: true; the input reads as it did. -/
def mixerQuietUptoRow : OpenClaim := { program := "ytljnddhldjaglaa", sum := "f40c95eaf63f658a0fe451d4dc6991583845de4f79cbcbb4db311bfa1f7a7f05", func := "promptbook/promptbooklaw20.MixerQuiet", spec := "mixerQuiet", unfollowed := true, recurses := true, apart := false, narrowed := true }
def MixerQuietUptoSaid : Prop := mixerQuietUptoRow.holds Try.pinned (OpenSpec.upto mixerQuietSpec)

/-- 'promptbooklaw20.MixerPlays', WHERE WHAT IT READS IS OF BULK AT MOST 1048576: true; the input reads as it did. -/
def mixerPlaysUptoRow : OpenClaim := { program := "ytljnddhldjaglaa", sum := "f40c95eaf63f658a0fe451d4dc6991583845de4f79cbcbb4db311bfa1f7a7f05", func := "promptbook/promptbooklaw20.MixerPlays", spec := "mixerPlays", unfollowed := true, recurses := true, apart := false, narrowed := true }
def MixerPlaysUptoSaid : Prop := mixerPlaysUptoRow.holds Try.pinned (OpenSpec.upto mixerPlaysSpec)

/-- 'promptbooklaw20.MixerNil', WHERE WHAT IT READS IS OF BULK AT MOST 1048576: true; the input reads as it did. -/
def mixerNilUptoRow : OpenClaim := { program := "ytljnddhldjaglaa", sum := "f40c95eaf63f658a0fe451d4dc6991583845de4f79cbcbb4db311bfa1f7a7f05", func := "promptbook/promptbooklaw20.MixerNil", spec := "mixerNil", unfollowed := true, recurses := true, apart := false, narrowed := true }
def MixerNilUptoSaid : Prop := mixerNilUptoRow.holds Try.pinned (OpenSpec.upto mixerNilSpec)

end Rows
end Go.Proofs.Ytljnddhldjaglaa
