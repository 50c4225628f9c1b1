/-
  No cell of these rows narrows 'for every input' (looked for: loops, veiled, ifaces, maps, wideKeys, modest, calm, conditions, laid).
  DERIVED. THE GIVEN ROWS OF THIS SEAT. 12 by the template 'for every input the law returns true; each argument reads behind the call as it read before'; 0 by the template 'total and deterministic' (their statements: YtnpeldipajgbjaaTotals.lean).
  GIVEN WITH THE SEED: the statements are not yours to turn. If you find one false, say at which input.
  Laid BY PROGRAM, IN A SANDBOX (cutbox-rows.mjs): the forced cells as the released guide's own fill.sh prints them over the translation 5514698af7356c8c… (all of the seat's roots in one cut). By AI agents, Wed Nov 11 2026. No macro, syntax, notation, axiom, sorry.
-/
import Derived.Test.YtnpeldipajgbjaaChecked
import GoSem.Claim
import GoSem.ClaimJoined
import GoSem.ClaimMapViews
import Derived.JoinedTies
import Derived.KernelRfl
namespace Go.Proofs.Ytnpeldipajgbjaa
/- THE CELL 'sum', in the pinned program and in every row, IS THE sha256 OF THE DUMP (.gsa) THAT YtnpeldipajgbjaaProg.lean LOADS. Nothing in Lean hashes anything: it is a label: what it is worth is what the hold of that sum in a sandbox is worth. -/
noncomputable def Try.pinned : Pinned := { name := "ytnpeldipajgbjaa", sum := "5514698af7356c8c33a426d11f7a4a370c50a8d939b0e6c58407119096809322", checked := Try.checked }
namespace Rows
def none {H : Type} : Left H := { results := [], args := [] }

/-- 'promptbooklaw09.DiceNext': WHATEVER THE INPUT: true; the input reads as it did. -/
def diceNextSpec : ChangeSpec := { name := "diceNext", fn := fun _ => fun
  | [d1, d2] => { results := [.lit (.bool true)], args := [d1, d2] }
  | _ => none }
def diceNextRow : OpenClaim := { program := "ytnpeldipajgbjaa", sum := "5514698af7356c8c33a426d11f7a4a370c50a8d939b0e6c58407119096809322", func := "promptbook/promptbooklaw09.DiceNext", spec := "diceNext", apart := false }
def DiceNextSaid : Prop := diceNextRow.holds Try.pinned (OpenSpec.ofChange diceNextSpec)

/-- ITS FALSE NEIGHBOUR: 'it returns false'. Refute it at one input. -/
def diceNextWrong : ChangeSpec := { name := "diceNext", fn := fun _ => fun
  | [d1, d2] => { results := [.lit (.bool false)], args := [d1, d2] }
  | _ => none }
def DiceNextWrongFalsely : Prop := diceNextRow.holds Try.pinned (OpenSpec.ofChange diceNextWrong)

/-- 'promptbooklaw09.DiceThrows': WHATEVER THE INPUT: true; the input reads as it did. -/
def diceThrowsSpec : ChangeSpec := { name := "diceThrows", fn := fun _ => fun
  | [d1, d2] => { results := [.lit (.bool true)], args := [d1, d2] }
  | _ => none }
def diceThrowsRow : OpenClaim := { program := "ytnpeldipajgbjaa", sum := "5514698af7356c8c33a426d11f7a4a370c50a8d939b0e6c58407119096809322", func := "promptbook/promptbooklaw09.DiceThrows", spec := "diceThrows", apart := false }
def DiceThrowsSaid : Prop := diceThrowsRow.holds Try.pinned (OpenSpec.ofChange diceThrowsSpec)

/-- ITS FALSE NEIGHBOUR: 'it returns false'. Refute it at one input. -/
def diceThrowsWrong : ChangeSpec := { name := "diceThrows", fn := fun _ => fun
  | [d1, d2] => { results := [.lit (.bool false)], args := [d1, d2] }
  | _ => none }
def DiceThrowsWrongFalsely : Prop := diceThrowsRow.holds Try.pinned (OpenSpec.ofChange diceThrowsWrong)

/-- 'promptbooklaw09.DiceSkips': WHATEVER THE INPUT: true; the input reads as it did. -/
def diceSkipsSpec : ChangeSpec := { name := "diceSkips", fn := fun _ => fun
  | [d1, d2, d3, d4] => { results := [.lit (.bool true)], args := [d1, d2, d3, d4] }
  | _ => none }
def diceSkipsRow : OpenClaim := { program := "ytnpeldipajgbjaa", sum := "5514698af7356c8c33a426d11f7a4a370c50a8d939b0e6c58407119096809322", func := "promptbook/promptbooklaw09.DiceSkips", spec := "diceSkips", apart := false }
def DiceSkipsSaid : Prop := diceSkipsRow.holds Try.pinned (OpenSpec.ofChange diceSkipsSpec)

/-- ITS FALSE NEIGHBOUR: 'it returns false'. Refute it at one input. -/
def diceSkipsWrong : ChangeSpec := { name := "diceSkips", fn := fun _ => fun
  | [d1, d2, d3, d4] => { results := [.lit (.bool false)], args := [d1, d2, d3, d4] }
  | _ => none }
def DiceSkipsWrongFalsely : Prop := diceSkipsRow.holds Try.pinned (OpenSpec.ofChange diceSkipsWrong)

/-- 'promptbooklaw01.FixedLerps': WHATEVER THE INPUT: true; the input reads as it did. -/
def fixedLerpsSpec : ChangeSpec := { name := "fixedLerps", fn := fun _ => fun
  | [d1, d2, d3, d4, d5] => { results := [.lit (.bool true)], args := [d1, d2, d3, d4, d5] }
  | _ => none }
def fixedLerpsRow : OpenClaim := { program := "ytnpeldipajgbjaa", sum := "5514698af7356c8c33a426d11f7a4a370c50a8d939b0e6c58407119096809322", func := "promptbook/promptbooklaw01.FixedLerps", spec := "fixedLerps", apart := false }
def FixedLerpsSaid : Prop := fixedLerpsRow.holds Try.pinned (OpenSpec.ofChange fixedLerpsSpec)

/-- ITS FALSE NEIGHBOUR: 'it returns false'. Refute it at one input. -/
def fixedLerpsWrong : ChangeSpec := { name := "fixedLerps", fn := fun _ => fun
  | [d1, d2, d3, d4, d5] => { results := [.lit (.bool false)], args := [d1, d2, d3, d4, d5] }
  | _ => none }
def FixedLerpsWrongFalsely : Prop := fixedLerpsRow.holds Try.pinned (OpenSpec.ofChange fixedLerpsWrong)

/-- 'promptbooklaw01.FixedBack': WHATEVER THE INPUT: true; the input reads as it did. -/
def fixedBackSpec : ChangeSpec := { name := "fixedBack", fn := fun _ => fun
  | [d1, d2] => { results := [.lit (.bool true)], args := [d1, d2] }
  | _ => none }
def fixedBackRow : OpenClaim := { program := "ytnpeldipajgbjaa", sum := "5514698af7356c8c33a426d11f7a4a370c50a8d939b0e6c58407119096809322", func := "promptbook/promptbooklaw01.FixedBack", spec := "fixedBack", apart := false }
def FixedBackSaid : Prop := fixedBackRow.holds Try.pinned (OpenSpec.ofChange fixedBackSpec)

/-- ITS FALSE NEIGHBOUR: 'it returns false'. Refute it at one input. -/
def fixedBackWrong : ChangeSpec := { name := "fixedBack", fn := fun _ => fun
  | [d1, d2] => { results := [.lit (.bool false)], args := [d1, d2] }
  | _ => none }
def FixedBackWrongFalsely : Prop := fixedBackRow.holds Try.pinned (OpenSpec.ofChange fixedBackWrong)

/-- 'promptbooklaw01.FixedLoud': WHATEVER THE INPUT: true; the input reads as it did. -/
def fixedLoudSpec : ChangeSpec := { name := "fixedLoud", fn := fun _ => fun
  | [d1, d2] => { results := [.lit (.bool true)], args := [d1, d2] }
  | _ => none }
def fixedLoudRow : OpenClaim := { program := "ytnpeldipajgbjaa", sum := "5514698af7356c8c33a426d11f7a4a370c50a8d939b0e6c58407119096809322", func := "promptbook/promptbooklaw01.FixedLoud", spec := "fixedLoud", apart := false }
def FixedLoudSaid : Prop := fixedLoudRow.holds Try.pinned (OpenSpec.ofChange fixedLoudSpec)

/-- ITS FALSE NEIGHBOUR: 'it returns false'. Refute it at one input. -/
def fixedLoudWrong : ChangeSpec := { name := "fixedLoud", fn := fun _ => fun
  | [d1, d2] => { results := [.lit (.bool false)], args := [d1, d2] }
  | _ => none }
def FixedLoudWrongFalsely : Prop := fixedLoudRow.holds Try.pinned (OpenSpec.ofChange fixedLoudWrong)

/-- 'promptbooklaw01.FixedOne': WHATEVER THE INPUT: true; the input reads as it did. -/
def fixedOneSpec : ChangeSpec := { name := "fixedOne", fn := fun _ => fun
  | [d1, d2, d3, d4, d5] => { results := [.lit (.bool true)], args := [d1, d2, d3, d4, d5] }
  | _ => none }
def fixedOneRow : OpenClaim := { program := "ytnpeldipajgbjaa", sum := "5514698af7356c8c33a426d11f7a4a370c50a8d939b0e6c58407119096809322", func := "promptbook/promptbooklaw01.FixedOne", spec := "fixedOne", apart := false }
def FixedOneSaid : Prop := fixedOneRow.holds Try.pinned (OpenSpec.ofChange fixedOneSpec)

/-- ITS FALSE NEIGHBOUR: 'it returns false'. Refute it at one input. -/
def fixedOneWrong : ChangeSpec := { name := "fixedOne", fn := fun _ => fun
  | [d1, d2, d3, d4, d5] => { results := [.lit (.bool false)], args := [d1, d2, d3, d4, d5] }
  | _ => none }
def FixedOneWrongFalsely : Prop := fixedOneRow.holds Try.pinned (OpenSpec.ofChange fixedOneWrong)

/-- 'promptbooklaw01.FixedAdds': WHATEVER THE INPUT: true; the input reads as it did. -/
def fixedAddsSpec : ChangeSpec := { name := "fixedAdds", fn := fun _ => fun
  | [d1, d2] => { results := [.lit (.bool true)], args := [d1, d2] }
  | _ => none }
def fixedAddsRow : OpenClaim := { program := "ytnpeldipajgbjaa", sum := "5514698af7356c8c33a426d11f7a4a370c50a8d939b0e6c58407119096809322", func := "promptbook/promptbooklaw01.FixedAdds", spec := "fixedAdds", apart := false }
def FixedAddsSaid : Prop := fixedAddsRow.holds Try.pinned (OpenSpec.ofChange fixedAddsSpec)

/-- ITS FALSE NEIGHBOUR: 'it returns false'. Refute it at one input. -/
def fixedAddsWrong : ChangeSpec := { name := "fixedAdds", fn := fun _ => fun
  | [d1, d2] => { results := [.lit (.bool false)], args := [d1, d2] }
  | _ => none }
def FixedAddsWrongFalsely : Prop := fixedAddsRow.holds Try.pinned (OpenSpec.ofChange fixedAddsWrong)

/-- 'promptbooklaw02.TrigRoots': WHATEVER THE INPUT: true; the input reads as it did. -/
def trigRootsSpec : ChangeSpec := { name := "trigRoots", fn := fun _ => fun
  | [d] => { results := [.lit (.bool true)], args := [d] }
  | _ => none }
def trigRootsRow : OpenClaim := { program := "ytnpeldipajgbjaa", sum := "5514698af7356c8c33a426d11f7a4a370c50a8d939b0e6c58407119096809322", func := "promptbook/promptbooklaw02.TrigRoots", spec := "trigRoots", apart := false }
def TrigRootsSaid : Prop := trigRootsRow.holds Try.pinned (OpenSpec.ofChange trigRootsSpec)

/-- ITS FALSE NEIGHBOUR: 'it returns false'. Refute it at one input. -/
def trigRootsWrong : ChangeSpec := { name := "trigRoots", fn := fun _ => fun
  | [d] => { results := [.lit (.bool false)], args := [d] }
  | _ => none }
def TrigRootsWrongFalsely : Prop := trigRootsRow.holds Try.pinned (OpenSpec.ofChange trigRootsWrong)

/-- 'promptbooklaw02.TrigMirrors': WHATEVER THE INPUT: true; the input reads as it did. -/
def trigMirrorsSpec : ChangeSpec := { name := "trigMirrors", fn := fun _ => fun
  | [d] => { results := [.lit (.bool true)], args := [d] }
  | _ => none }
def trigMirrorsRow : OpenClaim := { program := "ytnpeldipajgbjaa", sum := "5514698af7356c8c33a426d11f7a4a370c50a8d939b0e6c58407119096809322", func := "promptbook/promptbooklaw02.TrigMirrors", spec := "trigMirrors", apart := false }
def TrigMirrorsSaid : Prop := trigMirrorsRow.holds Try.pinned (OpenSpec.ofChange trigMirrorsSpec)

/-- ITS FALSE NEIGHBOUR: 'it returns false'. Refute it at one input. -/
def trigMirrorsWrong : ChangeSpec := { name := "trigMirrors", fn := fun _ => fun
  | [d] => { results := [.lit (.bool false)], args := [d] }
  | _ => none }
def TrigMirrorsWrongFalsely : Prop := trigMirrorsRow.holds Try.pinned (OpenSpec.ofChange trigMirrorsWrong)

/-- 'promptbooklaw02.TrigWaves': WHATEVER THE INPUT: true; the input reads as it did. -/
def trigWavesSpec : ChangeSpec := { name := "trigWaves", fn := fun _ => fun
  | [d] => { results := [.lit (.bool true)], args := [d] }
  | _ => none }
def trigWavesRow : OpenClaim := { program := "ytnpeldipajgbjaa", sum := "5514698af7356c8c33a426d11f7a4a370c50a8d939b0e6c58407119096809322", func := "promptbook/promptbooklaw02.TrigWaves", spec := "trigWaves", apart := false }
def TrigWavesSaid : Prop := trigWavesRow.holds Try.pinned (OpenSpec.ofChange trigWavesSpec)

/-- ITS FALSE NEIGHBOUR: 'it returns false'. Refute it at one input. -/
def trigWavesWrong : ChangeSpec := { name := "trigWaves", fn := fun _ => fun
  | [d] => { results := [.lit (.bool false)], args := [d] }
  | _ => none }
def TrigWavesWrongFalsely : Prop := trigWavesRow.holds Try.pinned (OpenSpec.ofChange trigWavesWrong)

/-- 'promptbooklaw02.TrigLengths': WHATEVER THE INPUT: true; the input reads as it did. -/
def trigLengthsSpec : ChangeSpec := { name := "trigLengths", fn := fun _ => fun
  | [d1, d2, d3, d4] => { results := [.lit (.bool true)], args := [d1, d2, d3, d4] }
  | _ => none }
def trigLengthsRow : OpenClaim := { program := "ytnpeldipajgbjaa", sum := "5514698af7356c8c33a426d11f7a4a370c50a8d939b0e6c58407119096809322", func := "promptbook/promptbooklaw02.TrigLengths", spec := "trigLengths", apart := false }
def TrigLengthsSaid : Prop := trigLengthsRow.holds Try.pinned (OpenSpec.ofChange trigLengthsSpec)

/-- ITS FALSE NEIGHBOUR: 'it returns false'. Refute it at one input. -/
def trigLengthsWrong : ChangeSpec := { name := "trigLengths", fn := fun _ => fun
  | [d1, d2, d3, d4] => { results := [.lit (.bool false)], args := [d1, d2, d3, d4] }
  | _ => none }
def TrigLengthsWrongFalsely : Prop := trigLengthsRow.holds Try.pinned (OpenSpec.ofChange trigLengthsWrong)

/- THE SECOND FORM. 'bulk': how many values and letters a reading holds, each counted each time it is reached (what is shared counts as often as it is met; a slice's spare places count too). A statement '..UptoSaid' is the law's where the arguments, and the package variables that the reading takes, are together of bulk at most 1048576: NARROWER than '..Said'. Prove '..Said' where nothing that the law and all that it calls make is longer than what came in: it says more and counts as full. Else prove '..UptoSaid'. A law counts once. -/
mutual
def uptoBulk {H : Type} : DataW H → Nat
  | .lit (.string bytes) => bytes.length + 1
  | .lit _ => 1
  | .nil => 1
  | .ptr d => uptoBulk d + 1
  | .slice elems spare => uptoBulkAll elems + uptoBulkAll spare + 1
  | .agg parts => uptoBulkAll parts + 1
  | .iface _ d => uptoBulk d + 1
  | .map entries => uptoBulkEntries entries + 1
  | .held _ => 1
def uptoBulkAll {H : Type} : List (DataW H) → Nat
  | [] => 0
  | d :: r => uptoBulk d + uptoBulkAll r
def uptoBulkEntries {H : Type} : List (Lit × DataW H) → Nat
  | [] => 0
  | x :: r => uptoBulkEntry x + uptoBulkEntries r
def uptoBulkEntry {H : Type} : Lit × DataW H → Nat
  | (.string bytes, d) => bytes.length + uptoBulk d + 1
  | (_, d) => uptoBulk d + 1
 end
def uptoSmall : (H : Type) → List (DataW H) → Bool := fun _ ds => decide (uptoBulkAll ds ≤ 1048576)
def OpenSpec.upto (s : _root_.Go.ChangeSpec) : _root_.Go.OpenSpec := { _root_.Go.OpenSpec.ofChange s with cond := some uptoSmall }

/-- 'promptbooklaw09.DiceNext', WHERE WHAT IT READS IS OF BULK AT MOST 1048576: true; the input reads as it did. -/
def diceNextUptoRow : OpenClaim := { program := "ytnpeldipajgbjaa", sum := "5514698af7356c8c33a426d11f7a4a370c50a8d939b0e6c58407119096809322", func := "promptbook/promptbooklaw09.DiceNext", spec := "diceNext", apart := false, narrowed := true }
def DiceNextUptoSaid : Prop := diceNextUptoRow.holds Try.pinned (OpenSpec.upto diceNextSpec)

/-- 'promptbooklaw09.DiceThrows', WHERE WHAT IT READS IS OF BULK AT MOST 1048576: true; the input reads as it did. -/
def diceThrowsUptoRow : OpenClaim := { program := "ytnpeldipajgbjaa", sum := "5514698af7356c8c33a426d11f7a4a370c50a8d939b0e6c58407119096809322", func := "promptbook/promptbooklaw09.DiceThrows", spec := "diceThrows", apart := false, narrowed := true }
def DiceThrowsUptoSaid : Prop := diceThrowsUptoRow.holds Try.pinned (OpenSpec.upto diceThrowsSpec)

/-- 'promptbooklaw09.DiceSkips', WHERE WHAT IT READS IS OF BULK AT MOST 1048576: true; the input reads as it did. -/
def diceSkipsUptoRow : OpenClaim := { program := "ytnpeldipajgbjaa", sum := "5514698af7356c8c33a426d11f7a4a370c50a8d939b0e6c58407119096809322", func := "promptbook/promptbooklaw09.DiceSkips", spec := "diceSkips", apart := false, narrowed := true }
def DiceSkipsUptoSaid : Prop := diceSkipsUptoRow.holds Try.pinned (OpenSpec.upto diceSkipsSpec)

/-- 'promptbooklaw01.FixedLerps', WHERE WHAT IT READS IS OF BULK AT MOST 1048576: true; the input reads as it did. -/
def fixedLerpsUptoRow : OpenClaim := { program := "ytnpeldipajgbjaa", sum := "5514698af7356c8c33a426d11f7a4a370c50a8d939b0e6c58407119096809322", func := "promptbook/promptbooklaw01.FixedLerps", spec := "fixedLerps", apart := false, narrowed := true }
def FixedLerpsUptoSaid : Prop := fixedLerpsUptoRow.holds Try.pinned (OpenSpec.upto fixedLerpsSpec)

/-- 'promptbooklaw01.FixedBack', WHERE WHAT IT READS IS OF BULK AT MOST 1048576: true; the input reads as it did. -/
def fixedBackUptoRow : OpenClaim := { program := "ytnpeldipajgbjaa", sum := "5514698af7356c8c33a426d11f7a4a370c50a8d939b0e6c58407119096809322", func := "promptbook/promptbooklaw01.FixedBack", spec := "fixedBack", apart := false, narrowed := true }
def FixedBackUptoSaid : Prop := fixedBackUptoRow.holds Try.pinned (OpenSpec.upto fixedBackSpec)

/-- 'promptbooklaw01.FixedLoud', WHERE WHAT IT READS IS OF BULK AT MOST 1048576: true; the input reads as it did. -/
def fixedLoudUptoRow : OpenClaim := { program := "ytnpeldipajgbjaa", sum := "5514698af7356c8c33a426d11f7a4a370c50a8d939b0e6c58407119096809322", func := "promptbook/promptbooklaw01.FixedLoud", spec := "fixedLoud", apart := false, narrowed := true }
def FixedLoudUptoSaid : Prop := fixedLoudUptoRow.holds Try.pinned (OpenSpec.upto fixedLoudSpec)

/-- 'promptbooklaw01.FixedOne', WHERE WHAT IT READS IS OF BULK AT MOST 1048576: true; the input reads as it did. -/
def fixedOneUptoRow : OpenClaim := { program := "ytnpeldipajgbjaa", sum := "5514698af7356c8c33a426d11f7a4a370c50a8d939b0e6c58407119096809322", func := "promptbook/promptbooklaw01.FixedOne", spec := "fixedOne", apart := false, narrowed := true }
def FixedOneUptoSaid : Prop := fixedOneUptoRow.holds Try.pinned (OpenSpec.upto fixedOneSpec)

/-- 'promptbooklaw01.FixedAdds', WHERE WHAT IT READS IS OF BULK AT MOST 1048576: true; the input reads as it did. -/
def fixedAddsUptoRow : OpenClaim := { program := "ytnpeldipajgbjaa", sum := "5514698af7356c8c33a426d11f7a4a370c50a8d939b0e6c58407119096809322", func := "promptbook/promptbooklaw01.FixedAdds", spec := "fixedAdds", apart := false, narrowed := true }
def FixedAddsUptoSaid : Prop := fixedAddsUptoRow.holds Try.pinned (OpenSpec.upto fixedAddsSpec)

/-- 'promptbooklaw02.TrigRoots', WHERE WHAT IT READS IS OF BULK AT MOST 1048576: true; the input reads as it did. -/
def trigRootsUptoRow : OpenClaim := { program := "ytnpeldipajgbjaa", sum := "5514698af7356c8c33a426d11f7a4a370c50a8d939b0e6c58407119096809322", func := "promptbook/promptbooklaw02.TrigRoots", spec := "trigRoots", apart := false, narrowed := true }
def TrigRootsUptoSaid : Prop := trigRootsUptoRow.holds Try.pinned (OpenSpec.upto trigRootsSpec)

/-- 'promptbooklaw02.TrigMirrors', WHERE WHAT IT READS IS OF BULK AT MOST 1048576: true; the input reads as it did. -/
def trigMirrorsUptoRow : OpenClaim := { program := "ytnpeldipajgbjaa", sum := "5514698af7356c8c33a426d11f7a4a370c50a8d939b0e6c58407119096809322", func := "promptbook/promptbooklaw02.TrigMirrors", spec := "trigMirrors", apart := false, narrowed := true }
def TrigMirrorsUptoSaid : Prop := trigMirrorsUptoRow.holds Try.pinned (OpenSpec.upto trigMirrorsSpec)

/-- 'promptbooklaw02.TrigWaves', WHERE WHAT IT READS IS OF BULK AT MOST 1048576: true; the input reads as it did. -/
def trigWavesUptoRow : OpenClaim := { program := "ytnpeldipajgbjaa", sum := "5514698af7356c8c33a426d11f7a4a370c50a8d939b0e6c58407119096809322", func := "promptbook/promptbooklaw02.TrigWaves", spec := "trigWaves", apart := false, narrowed := true }
def TrigWavesUptoSaid : Prop := trigWavesUptoRow.holds Try.pinned (OpenSpec.upto trigWavesSpec)

/-- 'promptbooklaw02.TrigLengths', WHERE WHAT IT READS IS OF BULK AT MOST 1048576: true; the input reads as it did. -/
def trigLengthsUptoRow : OpenClaim := { program := "ytnpeldipajgbjaa", sum := "5514698af7356c8c33a426d11f7a4a370c50a8d939b0e6c58407119096809322", func := "promptbook/promptbooklaw02.TrigLengths", spec := "trigLengths", apart := false, narrowed := true }
def TrigLengthsUptoSaid : Prop := trigLengthsUptoRow.holds Try.pinned (OpenSpec.upto trigLengthsSpec)

end Rows
end Go.Proofs.Ytnpeldipajgbjaa
