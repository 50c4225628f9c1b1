/-
  No cell of these rows narrows 'for every input' (looked for: loops, veiled, ifaces, maps, wideKeys, modest, calm, conditions, laid).
  DERIVED. THE GIVEN ROWS OF THIS SEAT. 11 by the template 'for every input the law returns true; each argument reads behind the call as it read before'; 0 by the template 'total and deterministic' (their statements: YtjfgobhipemioaaTotals.lean).
  GIVEN WITH THE SEED: the statements are not yours to turn. If you find one false, say at which input.
  Laid BY PROGRAM, IN A SANDBOX (cutbox-rows.mjs): the forced cells as the released guide's own fill.sh prints them over the translation e9cc8f08dda77075… (all of the seat's roots in one cut). By AI agents, Wed Nov 11 2026. No macro, syntax, notation, axiom, sorry.
-/
import Derived.Test.YtjfgobhipemioaaChecked
import GoSem.Claim
import GoSem.ClaimJoined
import GoSem.ClaimMapViews
import Derived.JoinedTies
import Derived.KernelRfl
namespace Go.Proofs.Ytjfgobhipemioaa
/- THE CELL 'sum', in the pinned program and in every row, IS THE sha256 OF THE DUMP (.gsa) THAT YtjfgobhipemioaaProg.lean LOADS. Nothing in Lean hashes anything: it is a label: what it is worth is what the hold of that sum in a sandbox is worth. -/
noncomputable def Try.pinned : Pinned := { name := "ytjfgobhipemioaa", sum := "e9cc8f08dda770754e5a98deb9132c6ad87511fb55d497ea4356905051dc838e", checked := Try.checked }
namespace Rows
def none {H : Type} : Left H := { results := [], args := [] }

/-- 'promptbooklaw19.VoiceEnds': WHATEVER THE INPUT: true; the input reads as it did. -/
def voiceEndsSpec : ChangeSpec := { name := "voiceEnds", fn := fun _ => fun
  | [d1, d2] => { results := [.lit (.bool true)], args := [d1, d2] }
  | _ => none }
def voiceEndsRow : OpenClaim := { program := "ytjfgobhipemioaa", sum := "e9cc8f08dda770754e5a98deb9132c6ad87511fb55d497ea4356905051dc838e", func := "promptbook/promptbooklaw19.VoiceEnds", spec := "voiceEnds", apart := false }
def VoiceEndsSaid : Prop := voiceEndsRow.holds Try.pinned (OpenSpec.ofChange voiceEndsSpec)

/-- ITS FALSE NEIGHBOUR: 'it returns false'. Refute it at one input. -/
def voiceEndsWrong : ChangeSpec := { name := "voiceEnds", fn := fun _ => fun
  | [d1, d2] => { results := [.lit (.bool false)], args := [d1, d2] }
  | _ => none }
def VoiceEndsWrongFalsely : Prop := voiceEndsRow.holds Try.pinned (OpenSpec.ofChange voiceEndsWrong)

/-- 'promptbooklaw19.VoiceOrder': WHATEVER THE INPUT: true; the input reads as it did. -/
def voiceOrderSpec : ChangeSpec := { name := "voiceOrder", fn := fun _ => fun
  | [d1, d2, d3] => { results := [.lit (.bool true)], args := [d1, d2, d3] }
  | _ => none }
def voiceOrderRow : OpenClaim := { program := "ytjfgobhipemioaa", sum := "e9cc8f08dda770754e5a98deb9132c6ad87511fb55d497ea4356905051dc838e", func := "promptbook/promptbooklaw19.VoiceOrder", spec := "voiceOrder", apart := false }
def VoiceOrderSaid : Prop := voiceOrderRow.holds Try.pinned (OpenSpec.ofChange voiceOrderSpec)

/-- ITS FALSE NEIGHBOUR: 'it returns false'. Refute it at one input. -/
def voiceOrderWrong : ChangeSpec := { name := "voiceOrder", fn := fun _ => fun
  | [d1, d2, d3] => { results := [.lit (.bool false)], args := [d1, d2, d3] }
  | _ => none }
def VoiceOrderWrongFalsely : Prop := voiceOrderRow.holds Try.pinned (OpenSpec.ofChange voiceOrderWrong)

/-- 'promptbooklaw19.VoiceCuts': WHATEVER THE INPUT: true; the input reads as it did. -/
def voiceCutsSpec : ChangeSpec := { name := "voiceCuts", fn := fun _ => fun
  | [d1, d2, d3] => { results := [.lit (.bool true)], args := [d1, d2, d3] }
  | _ => none }
def voiceCutsRow : OpenClaim := { program := "ytjfgobhipemioaa", sum := "e9cc8f08dda770754e5a98deb9132c6ad87511fb55d497ea4356905051dc838e", func := "promptbook/promptbooklaw19.VoiceCuts", spec := "voiceCuts", apart := false }
def VoiceCutsSaid : Prop := voiceCutsRow.holds Try.pinned (OpenSpec.ofChange voiceCutsSpec)

/-- ITS FALSE NEIGHBOUR: 'it returns false'. Refute it at one input. -/
def voiceCutsWrong : ChangeSpec := { name := "voiceCuts", fn := fun _ => fun
  | [d1, d2, d3] => { results := [.lit (.bool false)], args := [d1, d2, d3] }
  | _ => none }
def VoiceCutsWrongFalsely : Prop := voiceCutsRow.holds Try.pinned (OpenSpec.ofChange voiceCutsWrong)

/-- 'promptbooklaw18.BankFades': WHATEVER THE INPUT: true; the input reads as it did. -/
def bankFadesSpec : ChangeSpec := { name := "bankFades", fn := fun _ => fun
  | [d1, d2] => { results := [.lit (.bool true)], args := [d1, d2] }
  | _ => none }
def bankFadesRow : OpenClaim := { program := "ytjfgobhipemioaa", sum := "e9cc8f08dda770754e5a98deb9132c6ad87511fb55d497ea4356905051dc838e", func := "promptbook/promptbooklaw18.BankFades", spec := "bankFades", unfollowed := true, recurses := true, apart := false }
def BankFadesSaid : Prop := bankFadesRow.holds Try.pinned (OpenSpec.ofChange bankFadesSpec)

/-- ITS FALSE NEIGHBOUR: 'it returns false'. Refute it at one input. -/
def bankFadesWrong : ChangeSpec := { name := "bankFades", fn := fun _ => fun
  | [d1, d2] => { results := [.lit (.bool false)], args := [d1, d2] }
  | _ => none }
def BankFadesWrongFalsely : Prop := bankFadesRow.holds Try.pinned (OpenSpec.ofChange bankFadesWrong)

/-- 'promptbooklaw18.BankTells': WHATEVER THE INPUT: true; the input reads as it did. -/
def bankTellsSpec : ChangeSpec := { name := "bankTells", fn := fun _ => fun
  | [d1, d2] => { results := [.lit (.bool true)], args := [d1, d2] }
  | _ => none }
def bankTellsRow : OpenClaim := { program := "ytjfgobhipemioaa", sum := "e9cc8f08dda770754e5a98deb9132c6ad87511fb55d497ea4356905051dc838e", func := "promptbook/promptbooklaw18.BankTells", spec := "bankTells", unfollowed := true, recurses := true, apart := false }
def BankTellsSaid : Prop := bankTellsRow.holds Try.pinned (OpenSpec.ofChange bankTellsSpec)

/-- ITS FALSE NEIGHBOUR: 'it returns false'. Refute it at one input. -/
def bankTellsWrong : ChangeSpec := { name := "bankTells", fn := fun _ => fun
  | [d1, d2] => { results := [.lit (.bool false)], args := [d1, d2] }
  | _ => none }
def BankTellsWrongFalsely : Prop := bankTellsRow.holds Try.pinned (OpenSpec.ofChange bankTellsWrong)

/-- 'promptbooklaw18.BankWhole': WHATEVER THE INPUT: true; the input reads as it did. -/
def bankWholeSpec : ChangeSpec := { name := "bankWhole", fn := fun _ => fun
  | [d1, d2, d3, d4] => { results := [.lit (.bool true)], args := [d1, d2, d3, d4] }
  | _ => none }
def bankWholeRow : OpenClaim := { program := "ytjfgobhipemioaa", sum := "e9cc8f08dda770754e5a98deb9132c6ad87511fb55d497ea4356905051dc838e", func := "promptbook/promptbooklaw18.BankWhole", spec := "bankWhole", unfollowed := true, recurses := true, apart := false }
def BankWholeSaid : Prop := bankWholeRow.holds Try.pinned (OpenSpec.ofChange bankWholeSpec)

/-- ITS FALSE NEIGHBOUR: 'it returns false'. Refute it at one input. -/
def bankWholeWrong : ChangeSpec := { name := "bankWhole", fn := fun _ => fun
  | [d1, d2, d3, d4] => { results := [.lit (.bool false)], args := [d1, d2, d3, d4] }
  | _ => none }
def BankWholeWrongFalsely : Prop := bankWholeRow.holds Try.pinned (OpenSpec.ofChange bankWholeWrong)

/-- 'promptbooklaw20.MixerAt': WHATEVER THE INPUT: true; the input reads as it did. -/
def mixerAtSpec : ChangeSpec := { name := "mixerAt", fn := fun _ => fun
  | [d1, d2, d3] => { results := [.lit (.bool true)], args := [d1, d2, d3] }
  | _ => none }
def mixerAtRow : OpenClaim := { program := "ytjfgobhipemioaa", sum := "e9cc8f08dda770754e5a98deb9132c6ad87511fb55d497ea4356905051dc838e", func := "promptbook/promptbooklaw20.MixerAt", spec := "mixerAt", unfollowed := true, recurses := true, apart := false }
def MixerAtSaid : Prop := mixerAtRow.holds Try.pinned (OpenSpec.ofChange mixerAtSpec)

/-- ITS FALSE NEIGHBOUR: 'it returns false'. Refute it at one input. -/
def mixerAtWrong : ChangeSpec := { name := "mixerAt", fn := fun _ => fun
  | [d1, d2, d3] => { results := [.lit (.bool false)], args := [d1, d2, d3] }
  | _ => none }
def MixerAtWrongFalsely : Prop := mixerAtRow.holds Try.pinned (OpenSpec.ofChange mixerAtWrong)

/-- 'promptbooklaw20.MixerParts': WHATEVER THE INPUT: true; the input reads as it did. -/
def mixerPartsSpec : ChangeSpec := { name := "mixerParts", fn := fun _ => fun
  | [d1, d2, d3, d4] => { results := [.lit (.bool true)], args := [d1, d2, d3, d4] }
  | _ => none }
def mixerPartsRow : OpenClaim := { program := "ytjfgobhipemioaa", sum := "e9cc8f08dda770754e5a98deb9132c6ad87511fb55d497ea4356905051dc838e", func := "promptbook/promptbooklaw20.MixerParts", spec := "mixerParts", unfollowed := true, recurses := true, apart := false }
def MixerPartsSaid : Prop := mixerPartsRow.holds Try.pinned (OpenSpec.ofChange mixerPartsSpec)

/-- ITS FALSE NEIGHBOUR: 'it returns false'. Refute it at one input. -/
def mixerPartsWrong : ChangeSpec := { name := "mixerParts", fn := fun _ => fun
  | [d1, d2, d3, d4] => { results := [.lit (.bool false)], args := [d1, d2, d3, d4] }
  | _ => none }
def MixerPartsWrongFalsely : Prop := mixerPartsRow.holds Try.pinned (OpenSpec.ofChange mixerPartsWrong)

/-- 'promptbooklaw20.MixerQuiet': WHATEVER THE INPUT: true; the input reads as it did. -/
def mixerQuietSpec : ChangeSpec := { name := "mixerQuiet", fn := fun _ => fun
  | [d1, d2, d3] => { results := [.lit (.bool true)], args := [d1, d2, d3] }
  | _ => none }
def mixerQuietRow : OpenClaim := { program := "ytjfgobhipemioaa", sum := "e9cc8f08dda770754e5a98deb9132c6ad87511fb55d497ea4356905051dc838e", func := "promptbook/promptbooklaw20.MixerQuiet", spec := "mixerQuiet", unfollowed := true, recurses := true, apart := false }
def MixerQuietSaid : Prop := mixerQuietRow.holds Try.pinned (OpenSpec.ofChange mixerQuietSpec)

/-- ITS FALSE NEIGHBOUR: 'it returns false'. Refute it at one input. -/
def mixerQuietWrong : ChangeSpec := { name := "mixerQuiet", fn := fun _ => fun
  | [d1, d2, d3] => { results := [.lit (.bool false)], args := [d1, d2, d3] }
  | _ => none }
def MixerQuietWrongFalsely : Prop := mixerQuietRow.holds Try.pinned (OpenSpec.ofChange mixerQuietWrong)

/-- 'promptbooklaw20.MixerPlays': WHATEVER THE INPUT: true; the input reads as it did. -/
def mixerPlaysSpec : ChangeSpec := { name := "mixerPlays", fn := fun _ => fun
  | [d1, d2] => { results := [.lit (.bool true)], args := [d1, d2] }
  | _ => none }
def mixerPlaysRow : OpenClaim := { program := "ytjfgobhipemioaa", sum := "e9cc8f08dda770754e5a98deb9132c6ad87511fb55d497ea4356905051dc838e", func := "promptbook/promptbooklaw20.MixerPlays", spec := "mixerPlays", unfollowed := true, recurses := true, apart := false }
def MixerPlaysSaid : Prop := mixerPlaysRow.holds Try.pinned (OpenSpec.ofChange mixerPlaysSpec)

/-- ITS FALSE NEIGHBOUR: 'it returns false'. Refute it at one input. -/
def mixerPlaysWrong : ChangeSpec := { name := "mixerPlays", fn := fun _ => fun
  | [d1, d2] => { results := [.lit (.bool false)], args := [d1, d2] }
  | _ => none }
def MixerPlaysWrongFalsely : Prop := mixerPlaysRow.holds Try.pinned (OpenSpec.ofChange mixerPlaysWrong)

/-- 'promptbooklaw20.MixerNil': WHATEVER THE INPUT: true; the input reads as it did. -/
def mixerNilSpec : ChangeSpec := { name := "mixerNil", fn := fun _ => fun
  | [d] => { results := [.lit (.bool true)], args := [d] }
  | _ => none }
def mixerNilRow : OpenClaim := { program := "ytjfgobhipemioaa", sum := "e9cc8f08dda770754e5a98deb9132c6ad87511fb55d497ea4356905051dc838e", func := "promptbook/promptbooklaw20.MixerNil", spec := "mixerNil", unfollowed := true, recurses := true, apart := false }
def MixerNilSaid : Prop := mixerNilRow.holds Try.pinned (OpenSpec.ofChange mixerNilSpec)

/-- ITS FALSE NEIGHBOUR: 'it returns false'. Refute it at one input. -/
def mixerNilWrong : ChangeSpec := { name := "mixerNil", fn := fun _ => fun
  | [d] => { results := [.lit (.bool false)], args := [d] }
  | _ => none }
def MixerNilWrongFalsely : Prop := mixerNilRow.holds Try.pinned (OpenSpec.ofChange mixerNilWrong)

/- THE SECOND FORM. 'bulk': how many values and letters a reading holds, each counted each time it is reached (what is shared counts as often as it is met; a slice's spare places count too). A statement '..UptoSaid' is the law's where the arguments, and the package variables that the reading takes, are together of bulk at most 1048576: NARROWER than '..Said'. Prove '..Said' where nothing that the law and all that it calls make is longer than what came in: it says more and counts as full. Else prove '..UptoSaid'. A law counts once. -/
mutual
def uptoBulk {H : Type} : DataW H → Nat
  | .lit (.string bytes) => bytes.length + 1
  | .lit _ => 1
  | .nil => 1
  | .ptr d => uptoBulk d + 1
  | .slice elems spare => uptoBulkAll elems + uptoBulkAll spare + 1
  | .agg parts => uptoBulkAll parts + 1
  | .iface _ d => uptoBulk d + 1
  | .map entries => uptoBulkEntries entries + 1
  | .held _ => 1
def uptoBulkAll {H : Type} : List (DataW H) → Nat
  | [] => 0
  | d :: r => uptoBulk d + uptoBulkAll r
def uptoBulkEntries {H : Type} : List (Lit × DataW H) → Nat
  | [] => 0
  | x :: r => uptoBulkEntry x + uptoBulkEntries r
def uptoBulkEntry {H : Type} : Lit × DataW H → Nat
  | (.string bytes, d) => bytes.length + uptoBulk d + 1
  | (_, d) => uptoBulk d + 1
 end
def uptoSmall : (H : Type) → List (DataW H) → Bool := fun _ ds => decide (uptoBulkAll ds ≤ 1048576)
def OpenSpec.upto (s : _root_.Go.ChangeSpec) : _root_.Go.OpenSpec := { _root_.Go.OpenSpec.ofChange s with cond := some uptoSmall }

/-- 'promptbooklaw19.VoiceEnds', WHERE WHAT IT READS IS OF BULK AT MOST 1048576: true; the input reads as it did. -/
def voiceEndsUptoRow : OpenClaim := { program := "ytjfgobhipemioaa", sum := "e9cc8f08dda770754e5a98deb9132c6ad87511fb55d497ea4356905051dc838e", func := "promptbook/promptbooklaw19.VoiceEnds", spec := "voiceEnds", apart := false, narrowed := true }
def VoiceEndsUptoSaid : Prop := voiceEndsUptoRow.holds Try.pinned (OpenSpec.upto voiceEndsSpec)

/-- 'promptbooklaw19.VoiceOrder', WHERE WHAT IT READS IS OF BULK AT MOST 1048576: true; the input reads as it did. -/
def voiceOrderUptoRow : OpenClaim := { program := "ytjfgobhipemioaa", sum := "e9cc8f08dda770754e5a98deb9132c6ad87511fb55d497ea4356905051dc838e", func := "promptbook/promptbooklaw19.VoiceOrder", spec := "voiceOrder", apart := false, narrowed := true }
def VoiceOrderUptoSaid : Prop := voiceOrderUptoRow.holds Try.pinned (OpenSpec.upto voiceOrderSpec)

/-- 'promptbooklaw19.VoiceCuts', WHERE WHAT IT READS IS OF BULK AT MOST 1048576: true; the input reads as it did. -/
def voiceCutsUptoRow : OpenClaim := { program := "ytjfgobhipemioaa", sum := "e9cc8f08dda770754e5a98deb9132c6ad87511fb55d497ea4356905051dc838e", func := "promptbook/promptbooklaw19.VoiceCuts", spec := "voiceCuts", apart := false, narrowed := true }
def VoiceCutsUptoSaid : Prop := voiceCutsUptoRow.holds Try.pinned (OpenSpec.upto voiceCutsSpec)

/-- 'promptbooklaw18.BankFades', WHERE WHAT IT READS IS OF BULK AT MOST 1048576: true; the input reads as it did. -/
def bankFadesUptoRow : OpenClaim := { program := "ytjfgobhipemioaa", sum := "e9cc8f08dda770754e5a98deb9132c6ad87511fb55d497ea4356905051dc838e", func := "promptbook/promptbooklaw18.BankFades", spec := "bankFades", unfollowed := true, recurses := true, apart := false, narrowed := true }
def BankFadesUptoSaid : Prop := bankFadesUptoRow.holds Try.pinned (OpenSpec.upto bankFadesSpec)

/-- 'promptbooklaw18.BankTells', WHERE WHAT IT READS IS OF BULK AT MOST 1048576: true; the input reads as it did. -/
def bankTellsUptoRow : OpenClaim := { program := "ytjfgobhipemioaa", sum := "e9cc8f08dda770754e5a98deb9132c6ad87511fb55d497ea4356905051dc838e", func := "promptbook/promptbooklaw18.BankTells", spec := "bankTells", unfollowed := true, recurses := true, apart := false, narrowed := true }
def BankTellsUptoSaid : Prop := bankTellsUptoRow.holds Try.pinned (OpenSpec.upto bankTellsSpec)

/-- 'promptbooklaw18.BankWhole', WHERE WHAT IT READS IS OF BULK AT MOST 1048576: true; the input reads as it did. -/
def bankWholeUptoRow : OpenClaim := { program := "ytjfgobhipemioaa", sum := "e9cc8f08dda770754e5a98deb9132c6ad87511fb55d497ea4356905051dc838e", func := "promptbook/promptbooklaw18.BankWhole", spec := "bankWhole", unfollowed := true, recurses := true, apart := false, narrowed := true }
def BankWholeUptoSaid : Prop := bankWholeUptoRow.holds Try.pinned (OpenSpec.upto bankWholeSpec)

/-- 'promptbooklaw20.MixerAt', WHERE WHAT IT READS IS OF BULK AT MOST 1048576: true; the input reads as it did. -/
def mixerAtUptoRow : OpenClaim := { program := "ytjfgobhipemioaa", sum := "e9cc8f08dda770754e5a98deb9132c6ad87511fb55d497ea4356905051dc838e", func := "promptbook/promptbooklaw20.MixerAt", spec := "mixerAt", unfollowed := true, recurses := true, apart := false, narrowed := true }
def MixerAtUptoSaid : Prop := mixerAtUptoRow.holds Try.pinned (OpenSpec.upto mixerAtSpec)

/-- 'promptbooklaw20.MixerParts', WHERE WHAT IT READS IS OF BULK AT MOST 1048576: true; the input reads as it did. -/
def mixerPartsUptoRow : OpenClaim := { program := "ytjfgobhipemioaa", sum := "e9cc8f08dda770754e5a98deb9132c6ad87511fb55d497ea4356905051dc838e", func := "promptbook/promptbooklaw20.MixerParts", spec := "mixerParts", unfollowed := true, recurses := true, apart := false, narrowed := true }
def MixerPartsUptoSaid : Prop := mixerPartsUptoRow.holds Try.pinned (OpenSpec.upto mixerPartsSpec)

/-- 'promptbooklaw20.MixerQuiet', WHERE WHAT IT READS IS OF BULK AT MOST 1048576: true; the input reads as it did. -/
def mixerQuietUptoRow : OpenClaim := { program := "ytjfgobhipemioaa", sum := "e9cc8f08dda770754e5a98deb9132c6ad87511fb55d497ea4356905051dc838e", func := "promptbook/promptbooklaw20.MixerQuiet", spec := "mixerQuiet", unfollowed := true, recurses := true, apart := false, narrowed := true }
def MixerQuietUptoSaid : Prop := mixerQuietUptoRow.holds Try.pinned (OpenSpec.upto mixerQuietSpec)

/-- 'promptbooklaw20.MixerPlays', WHERE WHAT IT READS IS OF BULK AT MOST 1048576: true; the input reads as it did. -/
def mixerPlaysUptoRow : OpenClaim := { program := "ytjfgobhipemioaa", sum := "e9cc8f08dda770754e5a98deb9132c6ad87511fb55d497ea4356905051dc838e", func := "promptbook/promptbooklaw20.MixerPlays", spec := "mixerPlays", unfollowed := true, recurses := true, apart := false, narrowed := true }
def MixerPlaysUptoSaid : Prop := mixerPlaysUptoRow.holds Try.pinned (OpenSpec.upto mixerPlaysSpec)

/-- 'promptbooklaw20.MixerNil', WHERE WHAT IT READS IS OF BULK AT MOST 1048576: true; the input reads as it did. -/
def mixerNilUptoRow : OpenClaim := { program := "ytjfgobhipemioaa", sum := "e9cc8f08dda770754e5a98deb9132c6ad87511fb55d497ea4356905051dc838e", func := "promptbook/promptbooklaw20.MixerNil", spec := "mixerNil", unfollowed := true, recurses := true, apart := false, narrowed := true }
def MixerNilUptoSaid : Prop := mixerNilUptoRow.holds Try.pinned (OpenSpec.upto mixerNilSpec)

end Rows
end Go.Proofs.Ytjfgobhipemioaa
