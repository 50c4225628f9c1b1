/- THE PACKAGE'S VARIABLE WHOSE CONTENTS ARE KNOWN (the row lists it). Conditions: none. Own work. -/
import Derived.Handy
namespace Go.Proofs.YtdemgianfkafjaaDoor.Rex
open Go.RowKit
def ggV : List Value := [.int .u8 16, .int .u8 32, .int .u8 8]
def ggK : List (Option IntKind) := [some .u8, some .u8, some .u8]
def GG : List (Nat × List Value) := [(0, ggV)]
end Go.Proofs.YtdemgianfkafjaaDoor.Rex
