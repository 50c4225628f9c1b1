/- WHAT THE OTHER FUNCTIONS OF PACKAGE fixed AND OF ITS REFERENCE COMPUTE. Conditions: arguments within their kinds. Own work. -/
import Derived.Test.YtoanempchbejhaaDoorFixed
namespace Go.Proofs.YtoanempchbejhaaDoor
open Go.RowKit
set_option linter.unusedVariables false
set_option maxRecDepth 100000

/-- as loud as a gain says -/
def scF (n g : Int) : Int := wi n (-2147483648) 2147483648 * wi g (-2147483648) 2147483648 / 32768
theorem wi_bd (n l m : Int) (h : l ≤ m) : l ≤ wi n l m ∧ wi n l m ≤ m := by unfold wi; omega
theorem wi_in (n l m : Int) (h : l ≤ n ∧ n ≤ m) : wi n l m = n := by unfold wi; omega

/-- a whole number -/
def ofF (n : Int) : Int := sat (wi n (-2147483648) 2147483648 * 65536)

/-- on the way from one to the other -/
def lerpF (a b n o : Int) : Int := sat (a + (b - a) * n / o)

end Go.Proofs.YtoanempchbejhaaDoor
