/- WHAT THE OTHER FUNCTIONS OF PACKAGE fixed AND OF ITS REFERENCE COMPUTE. Conditions: arguments within their kinds. Own work. -/
import Derived.Test.YtdemgianfkafjaaDoorFixed
namespace Go.Proofs.YtdemgianfkafjaaDoor
open Go.RowKit
set_option linter.unusedVariables false
set_option maxRecDepth 100000

theorem withinI_any (n l m : Int) (w : World) :
    Calls Tryd.prog 52 #[.int .i64 n, .int .i64 l, .int .i64 m] w fun e w' => e = .returned (.int .i64 (wi n l m)) ∧ w = w' := by
  go_enter Tryd.func52, Tryd.ntmps52
  go_wp2
  all_goals (go_ret; exact ⟨ret_int (by unfold wi; split at * <;> omega), rfl⟩)

theorem between_any (n l m : Int) (w : World) (h : l ≤ m) :
    Calls Tryd.prog 28 #[.int .i64 n, .int .i64 l, .int .i64 m] w fun e w' => e = .returned (.int .i64 (wi n l m)) ∧ w = w' := by
  go_enter Tryd.func28, Tryd.ntmps28
  go_wp2
  all_goals (go_ret; exact ⟨ret_int (by unfold wi; omega), rfl⟩)

/-- as loud as a gain says -/
def scF (n g : Int) : Int := wi n (-2147483648) 2147483648 * wi g (-2147483648) 2147483648 / 32768
theorem wi_bd (n l m : Int) (h : l ≤ m) : l ≤ wi n l m ∧ wi n l m ≤ m := by unfold wi; omega
theorem wi_in (n l m : Int) (h : l ≤ n ∧ n ≤ m) : wi n l m = n := by unfold wi; omega

theorem abs_any (a : Int) (w : World) (ha : -2147483648 ≤ a ∧ a ≤ 2147483647) :
    Calls Tryd.prog 27 #[.int .i32 a] w fun e w' => e = .returned (.int .i32 (max a (sat (-a)))) ∧ w = w' := by
  go_enter Tryd.func27, Tryd.ntmps27
  go_wp2_with (go_at_call 45; refine (neg_any _ _ (by omega)).mono ?_; rintro e wx ⟨rfl, rfl⟩)
  all_goals (go_ret; exact ⟨ret_int (by (try split at *) <;> omega), rfl⟩)

/-- a whole number -/
def ofF (n : Int) : Int := sat (wi n (-2147483648) 2147483648 * 65536)

theorem of_any (n : Int) (w : World) :
    Calls Tryd.prog 41 #[.int .i64 n] w fun e w' => e = .returned (.int .i32 (ofF n)) ∧ w = w' := by
  have hm := wi_bd n (-2147483648) 2147483648 (by omega)
  go_enter Tryd.func41, Tryd.ntmps41
  go_wp2_with (first | (go_at_call 52; refine (withinI_any _ _ _ _).mono ?_; rintro e wx ⟨rfl, rfl⟩) | (go_at_call 42; refine (sat_any _ _).mono ?_; rintro e wx ⟨rfl, rfl⟩))
  go_ret
  exact ⟨rfl, rfl⟩

/-- on the way from one to the other -/
def lerpF (a b n o : Int) : Int := sat (a + (b - a) * n / o)

end Go.Proofs.YtdemgianfkafjaaDoor
