/- WHAT THE FUNCTIONS OF PACKAGE fixed AND OF ITS REFERENCE COMPUTE. Conditions: arguments within their kinds. Own work. -/
import Derived.Test.YtljnddhldjaglaaNum
import Derived.Test.YtljnddhldjaglaaChecked
import Derived.Lib.Hide
import Derived.OpenShut
namespace Go.Proofs.Ytljnddhldjaglaa
open Go.RowKit
set_option linter.unusedVariables false
set_option maxRecDepth 100000

/-- n between two ends. -/
def wi (n l m : Int) : Int := max l (min n m)

theorem within64_any (n l m : Int) (w : World) :
    Calls Try.prog 100 #[.int .i64 n, .int .i64 l, .int .i64 m] w fun e w' => e = .returned (.int .i64 (wi n l m)) ∧ w = w' := by
  go_enter Try.func100, Try.ntmps100
  go_wp2
  all_goals (go_ret; exact ⟨ret_int (by unfold wi; split at * <;> omega), rfl⟩)

theorem sat_any (n : Int) (w : World) :
    Calls Try.prog 94 #[.int .i64 n] w fun e w' => e = .returned (.int .i32 (sat n)) ∧ w = w' := by
  have hb : -2147483648 ≤ wi n (-2147483648) 2147483647 ∧ wi n (-2147483648) 2147483647 ≤ 2147483647 := by unfold wi; omega
  go_enter Try.func94, Try.ntmps94
  go_wp2_with (go_at_call 100; refine (within64_any _ _ _ _).mono ?_; rintro e wx ⟨rfl, rfl⟩)
  go_ret
  exact ⟨rfl, rfl⟩

theorem down_any (a b : Int) (w : World) (hb : b ≠ 0) (ha : -4611686018427387904 ≤ a ∧ a ≤ 4611686018427387904) :
    Calls Try.prog 95 #[.int .i64 a, .int .i64 b] w fun e w' => e = .returned (.int .i64 (a.fdiv b)) ∧ w = w' := by
  have hq := tdiv_lo a b _ ha
  have k1 := Lib.hid (dn_keep a b)
  have k2 := Lib.hid (fun h g => dn_less a b h g hb)
  by_cases c1 : a.tmod b = 0
  · have t1 : (a.tmod b != 0) = false := by rw [c1]; rfl
    have k := Lib.hid (k1.out (.inl c1))
    clear k1 k2 c1
    go_enter Try.func95, Try.ntmps95
    go_wp2
    go_ret
    exact ⟨ret_int k.out, rfl⟩
  · have t1 : (a.tmod b != 0) = true := bne_iff_ne.2 c1
    have k1 := Lib.hid (fun h => k1.out (.inr h))
    have k2 := Lib.hid (k2.out c1)
    clear c1
    by_cases c2 : a < 0
    · by_cases c3 : b < 0
      · have k := Lib.hid (k1.out ⟨fun _ => c3, fun _ => c2⟩)
        clear k1 k2
        go_enter Try.func95, Try.ntmps95
        go_wp2
        go_ret
        exact ⟨ret_int k.out, rfl⟩
      · have k := Lib.hid (k2.out (fun h => c3 (h.1 c2)))
        clear k1 k2
        go_enter Try.func95, Try.ntmps95
        go_wp2
        go_ret
        exact ⟨ret_int k.out, rfl⟩
    · by_cases c3 : b < 0
      · have t2 : (a % b != 0) = true := by rw [← Int.tmod_eq_emod_of_nonneg (by omega)]; exact t1
        have k := Lib.hid (k2.out (fun h => c2 (h.2 c3)))
        clear k1 k2
        go_enter Try.func95, Try.ntmps95
        go_wp2
        go_ret
        exact ⟨ret_int k.out, rfl⟩
      · have t2 : (a % b != 0) = true := by rw [← Int.tmod_eq_emod_of_nonneg (by omega)]; exact t1
        have k := Lib.hid (k1.out ⟨fun h => absurd h c2, fun h => absurd h c3⟩)
        clear k1 k2
        go_enter Try.func95, Try.ntmps95
        go_wp2
        go_ret
        exact ⟨ret_int k.out, rfl⟩

theorem rfloor_any (a b : Int) (w : World) (hb : 0 < b) (hb2 : b ≤ 1099511627776) (ha : -4611686018427387904 ≤ a ∧ a ≤ 4611686018427387904) :
    Calls Try.prog 75 #[.int .i64 a, .int .i64 b] w fun e w' => e = .returned (.int .i64 (a.fdiv b)) ∧ w = w' := by
  have hb0 : ¬ b = 0 := by omega
  by_cases c : 0 ≤ a
  · have n0 := Int.emod_nonneg a hb0
    have n1 := Int.emod_lt_of_pos a hb
    have k := Lib.hid (floor_pos a b hb)
    have n2 : a % b ≤ a := by have e := Int.mul_ediv_add_emod a b; have := Int.mul_nonneg (Int.le_of_lt hb) (Int.ediv_nonneg c (Int.le_of_lt hb)); omega
    go_enter Try.func75, Try.ntmps75
    go_wp2
    go_ret
    exact ⟨ret_int k.out, rfl⟩
  · have n0 := Int.emod_nonneg a hb0
    have n1 := Int.emod_lt_of_pos a hb
    have k := Lib.hid (floor_exact a b hb)
    obtain ⟨m1, m2, m3, m4⟩ := tmod_nonpos a b (by omega) hb
    have q := tdiv_lo (a - a % b) b 4611687117939015680 (by omega)
    by_cases c0 : a.tmod b < 0
    · have e := Lib.hid (m4 c0)
      clear m3 m4
      go_enter Try.func75, Try.ntmps75
      go_wp2
      go_ret
      exact ⟨ret_int (by rw [e.out]; exact k.out), rfl⟩
    · have e := Lib.hid (show a.tmod b = a % b by rw [m3 (by omega)]; omega)
      clear m3 m4
      go_enter Try.func75, Try.ntmps75
      go_wp2
      go_ret
      exact ⟨ret_int (by rw [e.out]; exact k.out), rfl⟩

theorem sub_any (a b : Int) (w : World) (ha : -2147483648 ≤ a ∧ a ≤ 2147483647) (hb : -2147483648 ≤ b ∧ b ≤ 2147483647) :
    Calls Try.prog 101 #[.int .i32 a, .int .i32 b] w fun e w' => e = .returned (.int .i32 (sat (a - b))) ∧ w = w' := by
  go_enter Try.func101, Try.ntmps101
  go_wp2_with (go_at_call 94; refine (sat_any _ _).mono ?_; rintro e wx ⟨rfl, rfl⟩)
  go_ret
  exact ⟨rfl, rfl⟩

/-- one times the other, as numbers of the point -/
def mulF (a b : Int) : Int := sat ((a * b) / 65536)

/-- one by the other, as numbers of the point -/
def divF (a b : Int) : Int := if b = 0 then (if 0 < a then 2147483647 else if a < 0 then -2147483648 else 0) else sat ((a * 65536).fdiv b)

theorem divF_bd (a b : Int) : -2147483648 ≤ divF a b ∧ divF a b ≤ 2147483647 := by
  unfold divF
  have := sat_bd ((a * 65536).fdiv b)
  repeat' split
  all_goals omega
theorem mulF_bd (a b : Int) : -2147483648 ≤ mulF a b ∧ mulF a b ≤ 2147483647 := sat_bd _

theorem neg_any (a : Int) (w : World) (ha : -2147483648 ≤ a ∧ a ≤ 2147483647) :
    Calls Try.prog 97 #[.int .i32 a] w fun e w' => e = .returned (.int .i32 (sat (-a))) ∧ w = w' := by
  go_enter Try.func97, Try.ntmps97
  go_wp2_with (go_at_call 101; refine (sub_any _ _ _ (by omega) (by omega)).mono ?_; rintro e wx ⟨rfl, rfl⟩)
  go_ret
  exact ⟨rfl, rfl⟩

end Go.Proofs.Ytljnddhldjaglaa
