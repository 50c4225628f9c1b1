/- WHAT THE OTHER FUNCTIONS OF PACKAGE fixed AND OF ITS REFERENCE COMPUTE. Conditions: arguments within their kinds. Own work. -/
import Derived.Test.YtceffompldihjaaFixed
namespace Go.Proofs.Ytceffompldihjaa
open Go.RowKit
set_option linter.unusedVariables false
set_option maxRecDepth 100000

theorem between_any (n l m : Int) (w : World) (h : l ≤ m) :
    Calls Try.prog 39 #[.int .i64 n, .int .i64 l, .int .i64 m] w fun e w' => e = .returned (.int .i64 (wi n l m)) ∧ w = w' := by
  go_enter Try.func39, Try.ntmps39
  go_wp2
  all_goals (go_ret; exact ⟨ret_int (by unfold wi; omega), rfl⟩)

/-- as loud as a gain says -/
def scF (n g : Int) : Int := wi n (-2147483648) 2147483648 * wi g (-2147483648) 2147483648 / 32768
theorem wi_bd (n l m : Int) (h : l ≤ m) : l ≤ wi n l m ∧ wi n l m ≤ m := by unfold wi; omega
theorem wi_in (n l m : Int) (h : l ≤ n ∧ n ≤ m) : wi n l m = n := by unfold wi; omega

/-- a whole number -/
def ofF (n : Int) : Int := sat (wi n (-2147483648) 2147483648 * 65536)

/-- on the way from one to the other -/
def lerpF (a b n o : Int) : Int := sat (a + (b - a) * n / o)

theorem lerp_any (a b n o : Int) (w : World) (ha : -2147483648 ≤ a ∧ a ≤ 2147483647) (hb : -2147483648 ≤ b ∧ b ≤ 2147483647) (ho : 1 ≤ o ∧ o ≤ 65536) (hn : 0 ≤ n ∧ n ≤ o) :
    Calls Try.prog 56 #[.int .i32 a, .int .i32 b, .int .i64 n, .int .i64 o] w fun e w' => e = .returned (.tuple #[.int .i32 (lerpF a b n o), .int .i64 0]) ∧ w = w' := by
  have hm := mul_bd (b - a) n 4294967296 65536 (by omega) (by omega)
  have hm2 : -281474976710656 ≤ (b - a) * n ∧ (b - a) * n ≤ 281474976710656 := by omega
  have hd := fdiv_bd ((b - a) * n) o 281474976710656 hm2
  have h0 : ¬ o = 0 := by omega
  have k := Lib.hid (Int.fdiv_eq_ediv_of_nonneg ((b - a) * n) (show 0 ≤ o by omega))
  clear hm
  go_enter Try.func56, Try.ntmps56
  go_wp2_with (first | (go_at_call 65; refine (down_any _ _ _ (by omega) (by omega)).mono ?_; rintro e wx ⟨rfl, rfl⟩) | (go_at_call 60; refine (sat_any _ _).mono ?_; rintro e wx ⟨rfl, rfl⟩))
  go_ret2
  exact ⟨by unfold lerpF; first | rfl | (rw [← k.out]; rfl), rfl⟩

theorem lerp_bad (a b n o : Int) (w : World) (h : o < 1 ∨ 65536 < o ∨ n < 0 ∨ o < n) :
    Calls Try.prog 56 #[.int .i32 a, .int .i32 b, .int .i64 n, .int .i64 o] w fun e w' => e = .returned (.tuple #[.int .i32 0, .int .i64 1]) ∧ w = w' := by
  by_cases h1 : o < 1
  · go_enter Try.func56, Try.ntmps56
    go_wp2_with fail
    go_ret2
    exact ⟨rfl, rfl⟩
  · by_cases h2 : 65536 < o
    · go_enter Try.func56, Try.ntmps56
      go_wp2_with fail
      go_ret2
      exact ⟨rfl, rfl⟩
    · by_cases h3 : n < 0
      · go_enter Try.func56, Try.ntmps56
        go_wp2_with fail
        go_ret2
        exact ⟨rfl, rfl⟩
      · have h4 : o < n := by omega
        go_enter Try.func56, Try.ntmps56
        go_wp2_with fail
        go_ret2
        exact ⟨rfl, rfl⟩

end Go.Proofs.Ytceffompldihjaa
