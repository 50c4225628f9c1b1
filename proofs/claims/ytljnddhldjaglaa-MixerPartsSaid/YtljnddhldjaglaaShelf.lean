/- NOTHING OF THE STANDARD LIBRARY IS NEEDED HERE. Conditions: none. Own work. -/
import Derived.Test.YtljnddhldjaglaaProg
namespace Go.Proofs
end Go.Proofs
