/- THE FIRST LISTS OF CONTRACTS: none. Own work. -/
import Derived.Test.YtceffompldihjaaChecked
import Derived.Test.YtceffompldihjaaRexS
namespace Go.Proofs.Ytceffompldihjaa
open Go.RowKit Rex

theorem mixedA : Try.prog.follows .mixedOrders = true := by kernel_rfl
noncomputable def Γ0 : List (FuncId × FX) := []
theorem ok0 : ΓOk Try.prog Γ0 := ΓOk.nil _
noncomputable def Δ0 : List (FuncId × MC) := []
theorem okD0 : ΔOk Try.prog Δ0 := ΔOk.nil _
noncomputable def B0 : List (FuncId × BC) := []
theorem okB0 : BOk Try.prog B0 := BOk.nil _

end Go.Proofs.Ytceffompldihjaa
