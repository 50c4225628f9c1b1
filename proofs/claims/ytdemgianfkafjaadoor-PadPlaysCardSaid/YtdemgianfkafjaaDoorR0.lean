/- THE FIRST LISTS OF CONTRACTS: none. Own work. -/
import Derived.Test.YtdemgianfkafjaaDoorChecked
import Derived.Test.YtdemgianfkafjaaDoorRexS
namespace Go.Proofs.YtdemgianfkafjaaDoor
open Go.RowKit Rex

theorem mixedA : Tryd.prog.follows .mixedOrders = true := by kernel_rfl
noncomputable def Γ0 : List (FuncId × FX) := []
theorem ok0 : ΓOk Tryd.prog Γ0 := ΓOk.nil _
noncomputable def Δ0 : List (FuncId × MC) := []
theorem okD0 : ΔOk Tryd.prog Δ0 := ΔOk.nil _
noncomputable def B0 : List (FuncId × BC) := []
theorem okB0 : BOk Tryd.prog B0 := BOk.nil _

end Go.Proofs.YtdemgianfkafjaaDoor
