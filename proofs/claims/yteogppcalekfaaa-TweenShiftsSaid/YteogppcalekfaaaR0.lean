/- THE FIRST LISTS OF CONTRACTS: none. Own work. -/
import Derived.Test.YteogppcalekfaaaChecked
import Derived.Test.YteogppcalekfaaaRex16
namespace Go.Proofs.Yteogppcalekfaaa
open Go.RowKit Rex

theorem mixedA : Try.prog.follows .mixedOrders = true := by kernel_rfl
noncomputable def Γ0 : List (FuncId × FC) := []
theorem ok0 : ΓOk Try.prog Γ0 := ΓOk.nil _
noncomputable def Δ0 : List (FuncId × MC) := []
theorem okD0 : ΔOk Try.prog Δ0 := ΔOk.nil _

end Go.Proofs.Yteogppcalekfaaa
