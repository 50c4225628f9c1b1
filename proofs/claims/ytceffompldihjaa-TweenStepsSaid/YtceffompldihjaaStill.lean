/- A STATEMENT WHOSE ORDER GO LEAVES OPEN, walked in the text's order: its head only reads and calls what leaves the world alone, its tail is forced. The kit's law, the world behind the draw under a name of its own. Own work. -/
import Derived.Test.YtceffompldihjaaBase
import Derived.StillTailTactics
namespace Go.Proofs.Ytceffompldihjaa
open Go.RowKit

theorem wp_still_tail {P : Program} {id : Nat} {Q : Exit → Act → World → Prop} {a : Act} {w : World} {l : List Oper} (n : Nat) (hm : P.follows .mixedOrders = true) (hB : Region.lexTailB .any l.toArray n = true)
    (h : wpStill P l.toArray w.drew (fun a' => wpList P l.toArray Q (l.drop n) a' w.drew) (l.take n) a) : (Code.region id l.toArray true).wp P Q a w := wp_region_still_tail n hm hB h

/-- The same, of the world behind the draw no more known than S says. -/
theorem wp_still_abs {P : Program} {id : Nat} {Q : Exit → Act → World → Prop} {a : Act} {w : World} {l : List Oper} (n : Nat) (hm : P.follows .mixedOrders = true) (hB : Region.lexTailB .any l.toArray n = true)
    (S : World → Prop) (hS : S w.drew) (h : ∀ W, S W → wpStill P l.toArray W (fun a' => wpList P l.toArray Q (l.drop n) a' W) (l.take n) a) : (Code.region id l.toArray true).wp P Q a w := wp_region_still_tail n hm hB (h _ hS)

end Go.Proofs.Ytceffompldihjaa
