/-
  No cell of these rows narrows 'for every input' (looked for: loops, veiled, ifaces, maps, wideKeys, modest, calm, conditions, laid).
  DERIVED. THE GIVEN ROWS OF THIS SEAT. 11 by the template 'for every input the law returns true; each argument reads behind the call as it read before'; 0 by the template 'total and deterministic' (their statements: YteogppcalekfaaaTotals.lean).
  GIVEN WITH THE SEED: the statements are not yours to turn. If you find one false, say at which input.
  Laid BY PROGRAM, IN A SANDBOX (cutbox-rows.mjs): the forced cells as the released guide's own fill.sh prints them over the translation 74fb53bba3ddf059… (all of the seat's roots in one cut). By AI agents, Wed Nov 11 2026. No macro, syntax, notation, axiom, sorry.
-/
import Derived.Test.YteogppcalekfaaaChecked
import GoSem.Claim
import GoSem.ClaimJoined
import GoSem.ClaimMapViews
import Derived.JoinedTies
import Derived.KernelRfl
namespace Go.Proofs.Yteogppcalekfaaa
/- THE CELL 'sum', in the pinned program and in every row, IS THE sha256 OF THE DUMP (.gsa) THAT YteogppcalekfaaaProg.lean LOADS. Nothing in Lean hashes anything: it is a label: what it is worth is what the hold of that sum in a sandbox is worth. -/
noncomputable def Try.pinned : Pinned := { name := "yteogppcalekfaaa", sum := "74fb53bba3ddf0592317c05cc47828be29b56d7ea568ffea23d6ab276b12a915", checked := Try.checked }
namespace Rows
def none {H : Type} : Left H := { results := [], args := [] }

/-- 'promptbooklaw23.EaseLess': WHATEVER THE INPUT: true; the input reads as it did. -/
def easeLessSpec : ChangeSpec := { name := "easeLess", fn := fun _ => fun
  | [d] => { results := [.lit (.bool true)], args := [d] }
  | _ => none }
def easeLessRow : OpenClaim := { program := "yteogppcalekfaaa", sum := "74fb53bba3ddf0592317c05cc47828be29b56d7ea568ffea23d6ab276b12a915", func := "promptbook/promptbooklaw23.EaseLess", spec := "easeLess", apart := false }
def EaseLessSaid : Prop := easeLessRow.holds Try.pinned (OpenSpec.ofChange easeLessSpec)

/-- ITS FALSE NEIGHBOUR: 'it returns false'. Refute it at one input. -/
def easeLessWrong : ChangeSpec := { name := "easeLess", fn := fun _ => fun
  | [d] => { results := [.lit (.bool false)], args := [d] }
  | _ => none }
def EaseLessWrongFalsely : Prop := easeLessRow.holds Try.pinned (OpenSpec.ofChange easeLessWrong)

/-- 'promptbooklaw23.EaseNil': WHATEVER THE INPUT: true; the input reads as it did. -/
def easeNilSpec : ChangeSpec := { name := "easeNil", fn := fun _ => fun
  | [d] => { results := [.lit (.bool true)], args := [d] }
  | _ => none }
def easeNilRow : OpenClaim := { program := "yteogppcalekfaaa", sum := "74fb53bba3ddf0592317c05cc47828be29b56d7ea568ffea23d6ab276b12a915", func := "promptbook/promptbooklaw23.EaseNil", spec := "easeNil", unfollowed := true, recurses := true, apart := false }
def EaseNilSaid : Prop := easeNilRow.holds Try.pinned (OpenSpec.ofChange easeNilSpec)

/-- ITS FALSE NEIGHBOUR: 'it returns false'. Refute it at one input. -/
def easeNilWrong : ChangeSpec := { name := "easeNil", fn := fun _ => fun
  | [d] => { results := [.lit (.bool false)], args := [d] }
  | _ => none }
def EaseNilWrongFalsely : Prop := easeNilRow.holds Try.pinned (OpenSpec.ofChange easeNilWrong)

/-- 'promptbooklaw23.EasePlays': WHATEVER THE INPUT: true; the input reads as it did. -/
def easePlaysSpec : ChangeSpec := { name := "easePlays", fn := fun _ => fun
  | [d] => { results := [.lit (.bool true)], args := [d] }
  | _ => none }
def easePlaysRow : OpenClaim := { program := "yteogppcalekfaaa", sum := "74fb53bba3ddf0592317c05cc47828be29b56d7ea568ffea23d6ab276b12a915", func := "promptbook/promptbooklaw23.EasePlays", spec := "easePlays", unfollowed := true, recurses := true, apart := false }
def EasePlaysSaid : Prop := easePlaysRow.holds Try.pinned (OpenSpec.ofChange easePlaysSpec)

/-- ITS FALSE NEIGHBOUR: 'it returns false'. Refute it at one input. -/
def easePlaysWrong : ChangeSpec := { name := "easePlays", fn := fun _ => fun
  | [d] => { results := [.lit (.bool false)], args := [d] }
  | _ => none }
def EasePlaysWrongFalsely : Prop := easePlaysRow.holds Try.pinned (OpenSpec.ofChange easePlaysWrong)

/-- 'promptbooklaw23.EaseEnds': WHATEVER THE INPUT: true; the input reads as it did. -/
def easeEndsSpec : ChangeSpec := { name := "easeEnds", fn := fun _ => fun
  | [d] => { results := [.lit (.bool true)], args := [d] }
  | _ => none }
def easeEndsRow : OpenClaim := { program := "yteogppcalekfaaa", sum := "74fb53bba3ddf0592317c05cc47828be29b56d7ea568ffea23d6ab276b12a915", func := "promptbook/promptbooklaw23.EaseEnds", spec := "easeEnds", unfollowed := true, recurses := true, apart := false }
def EaseEndsSaid : Prop := easeEndsRow.holds Try.pinned (OpenSpec.ofChange easeEndsSpec)

/-- ITS FALSE NEIGHBOUR: 'it returns false'. Refute it at one input. -/
def easeEndsWrong : ChangeSpec := { name := "easeEnds", fn := fun _ => fun
  | [d] => { results := [.lit (.bool false)], args := [d] }
  | _ => none }
def EaseEndsWrongFalsely : Prop := easeEndsRow.holds Try.pinned (OpenSpec.ofChange easeEndsWrong)

/-- 'promptbooklaw22.TweenShifts': WHATEVER THE INPUT: true; the input reads as it did. -/
def tweenShiftsSpec : ChangeSpec := { name := "tweenShifts", fn := fun _ => fun
  | [d1, d2, d3] => { results := [.lit (.bool true)], args := [d1, d2, d3] }
  | _ => none }
def tweenShiftsRow : OpenClaim := { program := "yteogppcalekfaaa", sum := "74fb53bba3ddf0592317c05cc47828be29b56d7ea568ffea23d6ab276b12a915", func := "promptbook/promptbooklaw22.TweenShifts", spec := "tweenShifts", unfollowed := true, recurses := true, apart := false }
def TweenShiftsSaid : Prop := tweenShiftsRow.holds Try.pinned (OpenSpec.ofChange tweenShiftsSpec)

/-- ITS FALSE NEIGHBOUR: 'it returns false'. Refute it at one input. -/
def tweenShiftsWrong : ChangeSpec := { name := "tweenShifts", fn := fun _ => fun
  | [d1, d2, d3] => { results := [.lit (.bool false)], args := [d1, d2, d3] }
  | _ => none }
def TweenShiftsWrongFalsely : Prop := tweenShiftsRow.holds Try.pinned (OpenSpec.ofChange tweenShiftsWrong)

/-- 'promptbooklaw22.TweenEnds': WHATEVER THE INPUT: true; the input reads as it did. -/
def tweenEndsSpec : ChangeSpec := { name := "tweenEnds", fn := fun _ => fun
  | [d1, d2, d3] => { results := [.lit (.bool true)], args := [d1, d2, d3] }
  | _ => none }
def tweenEndsRow : OpenClaim := { program := "yteogppcalekfaaa", sum := "74fb53bba3ddf0592317c05cc47828be29b56d7ea568ffea23d6ab276b12a915", func := "promptbook/promptbooklaw22.TweenEnds", spec := "tweenEnds", unfollowed := true, recurses := true, apart := false }
def TweenEndsSaid : Prop := tweenEndsRow.holds Try.pinned (OpenSpec.ofChange tweenEndsSpec)

/-- ITS FALSE NEIGHBOUR: 'it returns false'. Refute it at one input. -/
def tweenEndsWrong : ChangeSpec := { name := "tweenEnds", fn := fun _ => fun
  | [d1, d2, d3] => { results := [.lit (.bool false)], args := [d1, d2, d3] }
  | _ => none }
def TweenEndsWrongFalsely : Prop := tweenEndsRow.holds Try.pinned (OpenSpec.ofChange tweenEndsWrong)

/-- 'promptbooklaw22.TweenSteps': WHATEVER THE INPUT: true; the input reads as it did. -/
def tweenStepsSpec : ChangeSpec := { name := "tweenSteps", fn := fun _ => fun
  | [d1, d2, d3] => { results := [.lit (.bool true)], args := [d1, d2, d3] }
  | _ => none }
def tweenStepsRow : OpenClaim := { program := "yteogppcalekfaaa", sum := "74fb53bba3ddf0592317c05cc47828be29b56d7ea568ffea23d6ab276b12a915", func := "promptbook/promptbooklaw22.TweenSteps", spec := "tweenSteps", unfollowed := true, recurses := true, apart := false }
def TweenStepsSaid : Prop := tweenStepsRow.holds Try.pinned (OpenSpec.ofChange tweenStepsSpec)

/-- ITS FALSE NEIGHBOUR: 'it returns false'. Refute it at one input. -/
def tweenStepsWrong : ChangeSpec := { name := "tweenSteps", fn := fun _ => fun
  | [d1, d2, d3] => { results := [.lit (.bool false)], args := [d1, d2, d3] }
  | _ => none }
def TweenStepsWrongFalsely : Prop := tweenStepsRow.holds Try.pinned (OpenSpec.ofChange tweenStepsWrong)

/-- 'promptbooklaw10.ShapeMoves': WHATEVER THE INPUT: true; the input reads as it did. -/
def shapeMovesSpec : ChangeSpec := { name := "shapeMoves", fn := fun _ => fun
  | [d1, d2, d3] => { results := [.lit (.bool true)], args := [d1, d2, d3] }
  | _ => none }
def shapeMovesRow : OpenClaim := { program := "yteogppcalekfaaa", sum := "74fb53bba3ddf0592317c05cc47828be29b56d7ea568ffea23d6ab276b12a915", func := "promptbook/promptbooklaw10.ShapeMoves", spec := "shapeMoves", apart := false }
def ShapeMovesSaid : Prop := shapeMovesRow.holds Try.pinned (OpenSpec.ofChange shapeMovesSpec)

/-- ITS FALSE NEIGHBOUR: 'it returns false'. Refute it at one input. -/
def shapeMovesWrong : ChangeSpec := { name := "shapeMoves", fn := fun _ => fun
  | [d1, d2, d3] => { results := [.lit (.bool false)], args := [d1, d2, d3] }
  | _ => none }
def ShapeMovesWrongFalsely : Prop := shapeMovesRow.holds Try.pinned (OpenSpec.ofChange shapeMovesWrong)

/-- 'promptbooklaw10.ShapeNear': WHATEVER THE INPUT: true; the input reads as it did. -/
def shapeNearSpec : ChangeSpec := { name := "shapeNear", fn := fun _ => fun
  | [d1, d2, d3, d4, d5] => { results := [.lit (.bool true)], args := [d1, d2, d3, d4, d5] }
  | _ => none }
def shapeNearRow : OpenClaim := { program := "yteogppcalekfaaa", sum := "74fb53bba3ddf0592317c05cc47828be29b56d7ea568ffea23d6ab276b12a915", func := "promptbook/promptbooklaw10.ShapeNear", spec := "shapeNear", unfollowed := true, recurses := true, apart := false }
def ShapeNearSaid : Prop := shapeNearRow.holds Try.pinned (OpenSpec.ofChange shapeNearSpec)

/-- ITS FALSE NEIGHBOUR: 'it returns false'. Refute it at one input. -/
def shapeNearWrong : ChangeSpec := { name := "shapeNear", fn := fun _ => fun
  | [d1, d2, d3, d4, d5] => { results := [.lit (.bool false)], args := [d1, d2, d3, d4, d5] }
  | _ => none }
def ShapeNearWrongFalsely : Prop := shapeNearRow.holds Try.pinned (OpenSpec.ofChange shapeNearWrong)

/-- 'promptbooklaw10.ShapeSums': WHATEVER THE INPUT: true; the input reads as it did. -/
def shapeSumsSpec : ChangeSpec := { name := "shapeSums", fn := fun _ => fun
  | [d1, d2, d3, d4] => { results := [.lit (.bool true)], args := [d1, d2, d3, d4] }
  | _ => none }
def shapeSumsRow : OpenClaim := { program := "yteogppcalekfaaa", sum := "74fb53bba3ddf0592317c05cc47828be29b56d7ea568ffea23d6ab276b12a915", func := "promptbook/promptbooklaw10.ShapeSums", spec := "shapeSums", unfollowed := true, recurses := true, apart := false }
def ShapeSumsSaid : Prop := shapeSumsRow.holds Try.pinned (OpenSpec.ofChange shapeSumsSpec)

/-- ITS FALSE NEIGHBOUR: 'it returns false'. Refute it at one input. -/
def shapeSumsWrong : ChangeSpec := { name := "shapeSums", fn := fun _ => fun
  | [d1, d2, d3, d4] => { results := [.lit (.bool false)], args := [d1, d2, d3, d4] }
  | _ => none }
def ShapeSumsWrongFalsely : Prop := shapeSumsRow.holds Try.pinned (OpenSpec.ofChange shapeSumsWrong)

/-- 'promptbooklaw10.ShapeTouches': WHATEVER THE INPUT: true; the input reads as it did. -/
def shapeTouchesSpec : ChangeSpec := { name := "shapeTouches", fn := fun _ => fun
  | [d1, d2, d3, d4, d5] => { results := [.lit (.bool true)], args := [d1, d2, d3, d4, d5] }
  | _ => none }
def shapeTouchesRow : OpenClaim := { program := "yteogppcalekfaaa", sum := "74fb53bba3ddf0592317c05cc47828be29b56d7ea568ffea23d6ab276b12a915", func := "promptbook/promptbooklaw10.ShapeTouches", spec := "shapeTouches", unfollowed := true, recurses := true, apart := false }
def ShapeTouchesSaid : Prop := shapeTouchesRow.holds Try.pinned (OpenSpec.ofChange shapeTouchesSpec)

/-- ITS FALSE NEIGHBOUR: 'it returns false'. Refute it at one input. -/
def shapeTouchesWrong : ChangeSpec := { name := "shapeTouches", fn := fun _ => fun
  | [d1, d2, d3, d4, d5] => { results := [.lit (.bool false)], args := [d1, d2, d3, d4, d5] }
  | _ => none }
def ShapeTouchesWrongFalsely : Prop := shapeTouchesRow.holds Try.pinned (OpenSpec.ofChange shapeTouchesWrong)

/- THE SECOND FORM. 'bulk': how many values and letters a reading holds, each counted each time it is reached (what is shared counts as often as it is met; a slice's spare places count too). A statement '..UptoSaid' is the law's where the arguments, and the package variables that the reading takes, are together of bulk at most 1048576: NARROWER than '..Said'. Prove '..Said' where nothing that the law and all that it calls make is longer than what came in: it says more and counts as full. Else prove '..UptoSaid'. A law counts once. -/
mutual
def uptoBulk {H : Type} : DataW H → Nat
  | .lit (.string bytes) => bytes.length + 1
  | .lit _ => 1
  | .nil => 1
  | .ptr d => uptoBulk d + 1
  | .slice elems spare => uptoBulkAll elems + uptoBulkAll spare + 1
  | .agg parts => uptoBulkAll parts + 1
  | .iface _ d => uptoBulk d + 1
  | .map entries => uptoBulkEntries entries + 1
  | .held _ => 1
def uptoBulkAll {H : Type} : List (DataW H) → Nat
  | [] => 0
  | d :: r => uptoBulk d + uptoBulkAll r
def uptoBulkEntries {H : Type} : List (Lit × DataW H) → Nat
  | [] => 0
  | x :: r => uptoBulkEntry x + uptoBulkEntries r
def uptoBulkEntry {H : Type} : Lit × DataW H → Nat
  | (.string bytes, d) => bytes.length + uptoBulk d + 1
  | (_, d) => uptoBulk d + 1
 end
def uptoSmall : (H : Type) → List (DataW H) → Bool := fun _ ds => decide (uptoBulkAll ds ≤ 1048576)
def OpenSpec.upto (s : _root_.Go.ChangeSpec) : _root_.Go.OpenSpec := { _root_.Go.OpenSpec.ofChange s with cond := some uptoSmall }

/-- 'promptbooklaw23.EaseLess', WHERE WHAT IT READS IS OF BULK AT MOST 1048576: true; the input reads as it did. -/
def easeLessUptoRow : OpenClaim := { program := "yteogppcalekfaaa", sum := "74fb53bba3ddf0592317c05cc47828be29b56d7ea568ffea23d6ab276b12a915", func := "promptbook/promptbooklaw23.EaseLess", spec := "easeLess", apart := false, narrowed := true }
def EaseLessUptoSaid : Prop := easeLessUptoRow.holds Try.pinned (OpenSpec.upto easeLessSpec)

/-- 'promptbooklaw23.EaseNil', WHERE WHAT IT READS IS OF BULK AT MOST 1048576: true; the input reads as it did. -/
def easeNilUptoRow : OpenClaim := { program := "yteogppcalekfaaa", sum := "74fb53bba3ddf0592317c05cc47828be29b56d7ea568ffea23d6ab276b12a915", func := "promptbook/promptbooklaw23.EaseNil", spec := "easeNil", unfollowed := true, recurses := true, apart := false, narrowed := true }
def EaseNilUptoSaid : Prop := easeNilUptoRow.holds Try.pinned (OpenSpec.upto easeNilSpec)

/-- 'promptbooklaw23.EasePlays', WHERE WHAT IT READS IS OF BULK AT MOST 1048576: true; the input reads as it did. -/
def easePlaysUptoRow : OpenClaim := { program := "yteogppcalekfaaa", sum := "74fb53bba3ddf0592317c05cc47828be29b56d7ea568ffea23d6ab276b12a915", func := "promptbook/promptbooklaw23.EasePlays", spec := "easePlays", unfollowed := true, recurses := true, apart := false, narrowed := true }
def EasePlaysUptoSaid : Prop := easePlaysUptoRow.holds Try.pinned (OpenSpec.upto easePlaysSpec)

/-- 'promptbooklaw23.EaseEnds', WHERE WHAT IT READS IS OF BULK AT MOST 1048576: true; the input reads as it did. -/
def easeEndsUptoRow : OpenClaim := { program := "yteogppcalekfaaa", sum := "74fb53bba3ddf0592317c05cc47828be29b56d7ea568ffea23d6ab276b12a915", func := "promptbook/promptbooklaw23.EaseEnds", spec := "easeEnds", unfollowed := true, recurses := true, apart := false, narrowed := true }
def EaseEndsUptoSaid : Prop := easeEndsUptoRow.holds Try.pinned (OpenSpec.upto easeEndsSpec)

/-- 'promptbooklaw22.TweenShifts', WHERE WHAT IT READS IS OF BULK AT MOST 1048576: true; the input reads as it did. -/
def tweenShiftsUptoRow : OpenClaim := { program := "yteogppcalekfaaa", sum := "74fb53bba3ddf0592317c05cc47828be29b56d7ea568ffea23d6ab276b12a915", func := "promptbook/promptbooklaw22.TweenShifts", spec := "tweenShifts", unfollowed := true, recurses := true, apart := false, narrowed := true }
def TweenShiftsUptoSaid : Prop := tweenShiftsUptoRow.holds Try.pinned (OpenSpec.upto tweenShiftsSpec)

/-- 'promptbooklaw22.TweenEnds', WHERE WHAT IT READS IS OF BULK AT MOST 1048576: true; the input reads as it did. -/
def tweenEndsUptoRow : OpenClaim := { program := "yteogppcalekfaaa", sum := "74fb53bba3ddf0592317c05cc47828be29b56d7ea568ffea23d6ab276b12a915", func := "promptbook/promptbooklaw22.TweenEnds", spec := "tweenEnds", unfollowed := true, recurses := true, apart := false, narrowed := true }
def TweenEndsUptoSaid : Prop := tweenEndsUptoRow.holds Try.pinned (OpenSpec.upto tweenEndsSpec)

/-- 'promptbooklaw22.TweenSteps', WHERE WHAT IT READS IS OF BULK AT MOST 1048576: true; the input reads as it did. -/
def tweenStepsUptoRow : OpenClaim := { program := "yteogppcalekfaaa", sum := "74fb53bba3ddf0592317c05cc47828be29b56d7ea568ffea23d6ab276b12a915", func := "promptbook/promptbooklaw22.TweenSteps", spec := "tweenSteps", unfollowed := true, recurses := true, apart := false, narrowed := true }
def TweenStepsUptoSaid : Prop := tweenStepsUptoRow.holds Try.pinned (OpenSpec.upto tweenStepsSpec)

/-- 'promptbooklaw10.ShapeMoves', WHERE WHAT IT READS IS OF BULK AT MOST 1048576: true; the input reads as it did. -/
def shapeMovesUptoRow : OpenClaim := { program := "yteogppcalekfaaa", sum := "74fb53bba3ddf0592317c05cc47828be29b56d7ea568ffea23d6ab276b12a915", func := "promptbook/promptbooklaw10.ShapeMoves", spec := "shapeMoves", apart := false, narrowed := true }
def ShapeMovesUptoSaid : Prop := shapeMovesUptoRow.holds Try.pinned (OpenSpec.upto shapeMovesSpec)

/-- 'promptbooklaw10.ShapeNear', WHERE WHAT IT READS IS OF BULK AT MOST 1048576: true; the input reads as it did. -/
def shapeNearUptoRow : OpenClaim := { program := "yteogppcalekfaaa", sum := "74fb53bba3ddf0592317c05cc47828be29b56d7ea568ffea23d6ab276b12a915", func := "promptbook/promptbooklaw10.ShapeNear", spec := "shapeNear", unfollowed := true, recurses := true, apart := false, narrowed := true }
def ShapeNearUptoSaid : Prop := shapeNearUptoRow.holds Try.pinned (OpenSpec.upto shapeNearSpec)

/-- 'promptbooklaw10.ShapeSums', WHERE WHAT IT READS IS OF BULK AT MOST 1048576: true; the input reads as it did. -/
def shapeSumsUptoRow : OpenClaim := { program := "yteogppcalekfaaa", sum := "74fb53bba3ddf0592317c05cc47828be29b56d7ea568ffea23d6ab276b12a915", func := "promptbook/promptbooklaw10.ShapeSums", spec := "shapeSums", unfollowed := true, recurses := true, apart := false, narrowed := true }
def ShapeSumsUptoSaid : Prop := shapeSumsUptoRow.holds Try.pinned (OpenSpec.upto shapeSumsSpec)

/-- 'promptbooklaw10.ShapeTouches', WHERE WHAT IT READS IS OF BULK AT MOST 1048576: true; the input reads as it did. -/
def shapeTouchesUptoRow : OpenClaim := { program := "yteogppcalekfaaa", sum := "74fb53bba3ddf0592317c05cc47828be29b56d7ea568ffea23d6ab276b12a915", func := "promptbook/promptbooklaw10.ShapeTouches", spec := "shapeTouches", unfollowed := true, recurses := true, apart := false, narrowed := true }
def ShapeTouchesUptoSaid : Prop := shapeTouchesUptoRow.holds Try.pinned (OpenSpec.upto shapeTouchesSpec)

end Rows
end Go.Proofs.Yteogppcalekfaaa
