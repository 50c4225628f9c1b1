/- NOTHING OF THE STANDARD LIBRARY IS NEEDED HERE. Conditions: none. Own work. -/
import Derived.Test.YtceffompldihjaaProg
namespace Go.Proofs
end Go.Proofs
