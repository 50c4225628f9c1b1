/- THE PACKAGE'S VARIABLES WHOSE CONTENTS ARE KNOWN: none. Conditions: none. Own work. -/
import Derived.Handy
namespace Go.Proofs.Ytkfcajgingmneaa.Rex
open Go.RowKit
def GG : List (Nat × List Value) := []
end Go.Proofs.Ytkfcajgingmneaa.Rex
