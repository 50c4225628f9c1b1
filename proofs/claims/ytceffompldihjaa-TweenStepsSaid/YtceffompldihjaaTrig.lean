/- WHAT THE FUNCTIONS OF PACKAGE trig AND OF ITS REFERENCE COMPUTE. Conditions: arguments within their kinds. Own work. -/
import Derived.Test.YtceffompldihjaaRootLaw
import Derived.Test.YtceffompldihjaaFixed2
import Derived.Test.YtceffompldihjaaShelf
namespace Go.Proofs.Ytceffompldihjaa
open Go.RowKit
set_option linter.unusedVariables false
set_option maxRecDepth 100000

theorem u64_or_cast (a b : Nat) (ha : a < 18446744073709551616) (hb : b < 18446744073709551616) : bits .or .u64 (a : Int) (b : Int) = ((a ||| b : Nat) : Int) := u64_or_nat a b ha hb

end Go.Proofs.Ytceffompldihjaa
