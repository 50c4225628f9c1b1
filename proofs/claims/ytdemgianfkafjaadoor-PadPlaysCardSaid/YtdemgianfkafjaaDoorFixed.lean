/- WHAT THE FUNCTIONS OF PACKAGE fixed AND OF ITS REFERENCE COMPUTE. Conditions: arguments within their kinds. Own work. -/
import Derived.Test.YtdemgianfkafjaaDoorNum
import Derived.Test.YtdemgianfkafjaaDoorChecked
import Derived.Lib.Hide
import Derived.OpenShut
namespace Go.Proofs.YtdemgianfkafjaaDoor
open Go.RowKit
set_option linter.unusedVariables false
set_option maxRecDepth 100000

/-- n between two ends. -/
def wi (n l m : Int) : Int := max l (min n m)

theorem within64_any (n l m : Int) (w : World) :
    Calls Tryd.prog 53 #[.int .i64 n, .int .i64 l, .int .i64 m] w fun e w' => e = .returned (.int .i64 (wi n l m)) ∧ w = w' := by
  go_enter Tryd.func53, Tryd.ntmps53
  go_wp2
  all_goals (go_ret; exact ⟨ret_int (by unfold wi; split at * <;> omega), rfl⟩)

theorem sat_any (n : Int) (w : World) :
    Calls Tryd.prog 42 #[.int .i64 n] w fun e w' => e = .returned (.int .i32 (sat n)) ∧ w = w' := by
  have hb : -2147483648 ≤ wi n (-2147483648) 2147483647 ∧ wi n (-2147483648) 2147483647 ≤ 2147483647 := by unfold wi; omega
  go_enter Tryd.func42, Tryd.ntmps42
  go_wp2_with (go_at_call 53; refine (within64_any _ _ _ _).mono ?_; rintro e wx ⟨rfl, rfl⟩)
  go_ret
  exact ⟨rfl, rfl⟩

theorem rsat_any (n : Int) (w : World) :
    Calls Tryd.prog 46 #[.int .i64 n] w fun e w' => e = .returned (.int .i32 (sat n)) ∧ w = w' := by
  go_enter Tryd.func46, Tryd.ntmps46
  go_wp2
  all_goals (go_ret; exact ⟨ret_int (by unfold sat; omega), rfl⟩)

theorem rfloor_any (a b : Int) (w : World) (hb : 0 < b) (hb2 : b ≤ 1099511627776) (ha : -4611686018427387904 ≤ a ∧ a ≤ 4611686018427387904) :
    Calls Tryd.prog 49 #[.int .i64 a, .int .i64 b] w fun e w' => e = .returned (.int .i64 (a.fdiv b)) ∧ w = w' := by
  have hb0 : ¬ b = 0 := by omega
  by_cases c : 0 ≤ a
  · have n0 := Int.emod_nonneg a hb0
    have n1 := Int.emod_lt_of_pos a hb
    have k := Lib.hid (floor_pos a b hb)
    have n2 : a % b ≤ a := by have e := Int.mul_ediv_add_emod a b; have := Int.mul_nonneg (Int.le_of_lt hb) (Int.ediv_nonneg c (Int.le_of_lt hb)); omega
    go_enter Tryd.func49, Tryd.ntmps49
    go_wp2
    go_ret
    exact ⟨ret_int k.out, rfl⟩
  · have n0 := Int.emod_nonneg a hb0
    have n1 := Int.emod_lt_of_pos a hb
    have k := Lib.hid (floor_exact a b hb)
    obtain ⟨m1, m2, m3, m4⟩ := tmod_nonpos a b (by omega) hb
    have q := tdiv_lo (a - a % b) b 4611687117939015680 (by omega)
    by_cases c0 : a.tmod b < 0
    · have e := Lib.hid (m4 c0)
      clear m3 m4
      go_enter Tryd.func49, Tryd.ntmps49
      go_wp2
      go_ret
      exact ⟨ret_int (by rw [e.out]; exact k.out), rfl⟩
    · have e := Lib.hid (show a.tmod b = a % b by rw [m3 (by omega)]; omega)
      clear m3 m4
      go_enter Tryd.func49, Tryd.ntmps49
      go_wp2
      go_ret
      exact ⟨ret_int (by rw [e.out]; exact k.out), rfl⟩

theorem add_any (a b : Int) (w : World) (ha : -2147483648 ≤ a ∧ a ≤ 2147483647) (hb : -2147483648 ≤ b ∧ b ≤ 2147483647) :
    Calls Tryd.prog 26 #[.int .i32 a, .int .i32 b] w fun e w' => e = .returned (.int .i32 (sat (a + b))) ∧ w = w' := by
  go_enter Tryd.func26, Tryd.ntmps26
  go_wp2_with (go_at_call 42; refine (sat_any _ _).mono ?_; rintro e wx ⟨rfl, rfl⟩)
  go_ret
  exact ⟨rfl, rfl⟩

theorem sub_any (a b : Int) (w : World) (ha : -2147483648 ≤ a ∧ a ≤ 2147483647) (hb : -2147483648 ≤ b ∧ b ≤ 2147483647) :
    Calls Tryd.prog 24 #[.int .i32 a, .int .i32 b] w fun e w' => e = .returned (.int .i32 (sat (a - b))) ∧ w = w' := by
  go_enter Tryd.func24, Tryd.ntmps24
  go_wp2_with (go_at_call 42; refine (sat_any _ _).mono ?_; rintro e wx ⟨rfl, rfl⟩)
  go_ret
  exact ⟨rfl, rfl⟩

/-- one times the other, as numbers of the point -/
def mulF (a b : Int) : Int := sat ((a * b) / 65536)

theorem mul_any (a b : Int) (w : World) (ha : -2147483648 ≤ a ∧ a ≤ 2147483647) (hb : -2147483648 ≤ b ∧ b ≤ 2147483647) :
    Calls Tryd.prog 25 #[.int .i32 a, .int .i32 b] w fun e w' => e = .returned (.int .i32 (mulF a b)) ∧ w = w' := by
  have hm := mul_bd a b 2147483648 2147483648 (by omega) (by omega)
  go_enter Tryd.func25, Tryd.ntmps25
  go_wp2_with (go_at_call 42; refine (sat_any _ _).mono ?_; rintro e wx ⟨rfl, rfl⟩)
  go_ret
  exact ⟨rfl, rfl⟩

theorem rmul_any (a b : Int) (w : World) (ha : -2147483648 ≤ a ∧ a ≤ 2147483647) (hb : -2147483648 ≤ b ∧ b ≤ 2147483647) :
    Calls Tryd.prog 32 #[.int .i32 a, .int .i32 b] w fun e w' => e = .returned (.int .i32 (mulF a b)) ∧ w = w' := by
  have hm := mul_bd a b 2147483648 2147483648 (by omega) (by omega)
  have hm2 : -4611686018427387904 ≤ a * b ∧ a * b ≤ 4611686018427387904 := by omega
  have hd := fdiv_bd (a * b) 65536 4611686018427387904 hm2
  go_enter Tryd.func32, Tryd.ntmps32
  go_wp2_with (first | (go_at_call 49; refine (rfloor_any _ _ _ (by omega) (by omega) (by omega)).mono ?_; rintro e wx ⟨rfl, rfl⟩) | (go_at_call 46; refine (rsat_any _ _).mono ?_; rintro e wx ⟨rfl, rfl⟩))
  go_ret
  exact ⟨ret_int (by unfold mulF; rw [Int.fdiv_eq_ediv_of_nonneg _ (by omega)]), rfl⟩

/-- one by the other, as numbers of the point -/
def divF (a b : Int) : Int := if b = 0 then (if 0 < a then 2147483647 else if a < 0 then -2147483648 else 0) else sat ((a * 65536).fdiv b)

theorem divF_bd (a b : Int) : -2147483648 ≤ divF a b ∧ divF a b ≤ 2147483647 := by
  unfold divF
  have := sat_bd ((a * 65536).fdiv b)
  repeat' split
  all_goals omega
theorem mulF_bd (a b : Int) : -2147483648 ≤ mulF a b ∧ mulF a b ≤ 2147483647 := sat_bd _

theorem neg_any (a : Int) (w : World) (ha : -2147483648 ≤ a ∧ a ≤ 2147483647) :
    Calls Tryd.prog 45 #[.int .i32 a] w fun e w' => e = .returned (.int .i32 (sat (-a))) ∧ w = w' := by
  go_enter Tryd.func45, Tryd.ntmps45
  go_wp2_with (go_at_call 24; refine (sub_any _ _ _ (by omega) (by omega)).mono ?_; rintro e wx ⟨rfl, rfl⟩)
  go_ret
  exact ⟨rfl, rfl⟩

end Go.Proofs.YtdemgianfkafjaaDoor
