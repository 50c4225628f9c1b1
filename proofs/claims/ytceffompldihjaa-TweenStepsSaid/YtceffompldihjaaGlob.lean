/- THE PACKAGE'S VARIABLES WHOSE CONTENTS ARE KNOWN: none. Conditions: none. Own work. -/
import Derived.Handy
namespace Go.Proofs.Ytceffompldihjaa.Rex
open Go.RowKit
def GG : List (Nat × List Value) := []
end Go.Proofs.Ytceffompldihjaa.Rex
