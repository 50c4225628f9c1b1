/- THE PACKAGE'S VARIABLE WHOSE CONTENTS ARE KNOWN (the row lists it). Conditions: none. Own work. -/
import Derived.Handy
namespace Go.Proofs.YtoanempchbejhaaDoor.Rex
open Go.RowKit
def ggV : List Value := [.int .i64 0, .int .i64 0, .int .i64 0, .int .i64 0, .int .i64 0, .int .i64 6000, .int .i64 3, .int .i64 0, .int .i64 24000, .int .i64 12000, .int .i64 12, .int .i64 6, .int .i64 8000, .int .i64 0, .int .i64 4, .int .i64 0, .int .i64 16000, .int .i64 8000, .int .i64 8, .int .i64 4, .int .i64 32768, .int .i64 32768, .int .i64 30, .int .i64 24, .int .i64 0, .int .i64 4000, .int .i64 6, .int .i64 8, .int .i64 0, .int .i64 0, .int .i64 0, .int .i64 0, .int .i64 0, .int .i64 0, .int .i64 0, .int .i64 0, .int .i64 0, .int .i64 0, .int .i64 0, .int .i64 0]
def ggK : List (Option IntKind) := [some .i64, some .i64, some .i64, some .i64, some .i64, some .i64, some .i64, some .i64, some .i64, some .i64, some .i64, some .i64, some .i64, some .i64, some .i64, some .i64, some .i64, some .i64, some .i64, some .i64, some .i64, some .i64, some .i64, some .i64, some .i64, some .i64, some .i64, some .i64, some .i64, some .i64, some .i64, some .i64, some .i64, some .i64, some .i64, some .i64, some .i64, some .i64, some .i64, some .i64]
def GG : List (Nat × List Value) := [(0, ggV)]
end Go.Proofs.YtoanempchbejhaaDoor.Rex
