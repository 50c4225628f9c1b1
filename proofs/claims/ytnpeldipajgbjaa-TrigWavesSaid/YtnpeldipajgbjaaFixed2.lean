/- WHAT THE OTHER FUNCTIONS OF PACKAGE fixed AND OF ITS REFERENCE COMPUTE. Conditions: arguments within their kinds. Own work. -/
import Derived.Test.YtnpeldipajgbjaaFixed
namespace Go.Proofs.Ytnpeldipajgbjaa
open Go.RowKit
set_option linter.unusedVariables false
set_option maxRecDepth 100000

theorem withinF_any (n l m : Int) (w : World) :
    Calls Try.prog 63 #[.int .i32 n, .int .i32 l, .int .i32 m] w fun e w' => e = .returned (.int .i32 (wi n l m)) ∧ w = w' := by
  go_enter Try.func63, Try.ntmps63
  go_wp2
  all_goals (go_ret; exact ⟨ret_int (by unfold wi; split at * <;> omega), rfl⟩)

theorem withinI_any (n l m : Int) (w : World) :
    Calls Try.prog 61 #[.int .i64 n, .int .i64 l, .int .i64 m] w fun e w' => e = .returned (.int .i64 (wi n l m)) ∧ w = w' := by
  go_enter Try.func61, Try.ntmps61
  go_wp2
  all_goals (go_ret; exact ⟨ret_int (by unfold wi; split at * <;> omega), rfl⟩)

theorem clamp_any (n l m : Int) (w : World) :
    Calls Try.prog 41 #[.int .i32 n, .int .i32 l, .int .i32 m] w fun e w' => e = .returned (.int .i32 (wi n l m)) ∧ w = w' := by
  go_enter Try.func41, Try.ntmps41
  go_wp2_with (go_at_call 63; refine (withinF_any _ _ _ _).mono ?_; rintro e wx ⟨rfl, rfl⟩)
  go_ret
  exact ⟨rfl, rfl⟩

theorem pcm_any (n : Int) (w : World) :
    Calls Try.prog 31 #[.int .i64 n] w fun e w' => e = .returned (.int .i64 (wi n (-32768) 32767)) ∧ w = w' := by
  go_enter Try.func31, Try.ntmps31
  go_wp2_with (go_at_call 61; refine (withinI_any _ _ _ _).mono ?_; rintro e wx ⟨rfl, rfl⟩)
  go_ret
  exact ⟨rfl, rfl⟩

theorem between_any (n l m : Int) (w : World) (h : l ≤ m) :
    Calls Try.prog 32 #[.int .i64 n, .int .i64 l, .int .i64 m] w fun e w' => e = .returned (.int .i64 (wi n l m)) ∧ w = w' := by
  go_enter Try.func32, Try.ntmps32
  go_wp2
  all_goals (go_ret; exact ⟨ret_int (by unfold wi; omega), rfl⟩)

/-- as loud as a gain says -/
def scF (n g : Int) : Int := wi n (-2147483648) 2147483648 * wi g (-2147483648) 2147483648 / 32768
theorem wi_bd (n l m : Int) (h : l ≤ m) : l ≤ wi n l m ∧ wi n l m ≤ m := by unfold wi; omega
theorem wi_in (n l m : Int) (h : l ≤ n ∧ n ≤ m) : wi n l m = n := by unfold wi; omega

theorem scale_any (n g : Int) (w : World) :
    Calls Try.prog 29 #[.int .i64 n, .int .i64 g] w fun e w' => e = .returned (.int .i64 (scF n g)) ∧ w = w' := by
  have hm := mul_bd (wi n (-2147483648) 2147483648) (wi g (-2147483648) 2147483648) 2147483648 2147483648 (wi_bd _ _ _ (by omega)) (wi_bd _ _ _ (by omega))
  have hm2 : -4611686018427387904 ≤ wi n (-2147483648) 2147483648 * wi g (-2147483648) 2147483648 ∧ wi n (-2147483648) 2147483648 * wi g (-2147483648) 2147483648 ≤ 4611686018427387904 := by omega
  go_enter Try.func29, Try.ntmps29
  go_wp2_with (go_at_call 61; refine (withinI_any _ _ _ _).mono ?_; rintro e wx ⟨rfl, rfl⟩)
  go_ret
  exact ⟨rfl, rfl⟩

theorem rscale_any (n g : Int) (w : World) :
    Calls Try.prog 30 #[.int .i64 n, .int .i64 g] w fun e w' => e = .returned (.int .i64 (scF n g)) ∧ w = w' := by
  have hm := mul_bd (wi n (-2147483648) 2147483648) (wi g (-2147483648) 2147483648) 2147483648 2147483648 (wi_bd _ _ _ (by omega)) (wi_bd _ _ _ (by omega))
  have hm2 : -4611686018427387904 ≤ wi n (-2147483648) 2147483648 * wi g (-2147483648) 2147483648 ∧ wi n (-2147483648) 2147483648 * wi g (-2147483648) 2147483648 ≤ 4611686018427387904 := by omega
  have hd := fdiv_bd (wi n (-2147483648) 2147483648 * wi g (-2147483648) 2147483648) 32768 4611686018427387904 hm2
  go_enter Try.func30, Try.ntmps30
  go_wp2_with (first | (go_at_call 32; refine (between_any _ _ _ _ (by omega)).mono ?_; rintro e wx ⟨rfl, rfl⟩) | (go_at_call 37; refine (rfloor_any _ _ _ (by omega) (by omega) (by omega)).mono ?_; rintro e wx ⟨rfl, rfl⟩))
  go_ret
  exact ⟨ret_int (by unfold scF; rw [Int.fdiv_eq_ediv_of_nonneg _ (by omega)]), rfl⟩

theorem abs_any (a : Int) (w : World) (ha : -2147483648 ≤ a ∧ a ≤ 2147483647) :
    Calls Try.prog 35 #[.int .i32 a] w fun e w' => e = .returned (.int .i32 (max a (sat (-a)))) ∧ w = w' := by
  go_enter Try.func35, Try.ntmps35
  go_wp2_with (go_at_call 33; refine (neg_any _ _ (by omega)).mono ?_; rintro e wx ⟨rfl, rfl⟩)
  all_goals (go_ret; exact ⟨ret_int (by (try split at *) <;> omega), rfl⟩)

theorem ffloor_any (a : Int) (w : World) (ha : -2147483648 ≤ a ∧ a ≤ 2147483647) :
    Calls Try.prog 36 #[.int .i32 a] w fun e w' => e = .returned (.int .i64 (a / 65536)) ∧ w = w' := by
  go_enter Try.func36, Try.ntmps36
  go_wp2
  go_ret
  exact ⟨rfl, rfl⟩

/-- a whole number -/
def ofF (n : Int) : Int := sat (wi n (-2147483648) 2147483648 * 65536)

theorem of_any (n : Int) (w : World) :
    Calls Try.prog 38 #[.int .i64 n] w fun e w' => e = .returned (.int .i32 (ofF n)) ∧ w = w' := by
  have hm := wi_bd n (-2147483648) 2147483648 (by omega)
  go_enter Try.func38, Try.ntmps38
  go_wp2_with (first | (go_at_call 61; refine (withinI_any _ _ _ _).mono ?_; rintro e wx ⟨rfl, rfl⟩) | (go_at_call 40; refine (sat_any _ _).mono ?_; rintro e wx ⟨rfl, rfl⟩))
  go_ret
  exact ⟨rfl, rfl⟩

theorem rof_any (n : Int) (w : World) :
    Calls Try.prog 39 #[.int .i64 n] w fun e w' => e = .returned (.int .i32 (ofF n)) ∧ w = w' := by
  go_enter Try.func39, Try.ntmps39
  go_wp2
  all_goals (go_ret; exact ⟨ret_int (by unfold ofF sat wi; omega), rfl⟩)

/-- on the way from one to the other -/
def lerpF (a b n o : Int) : Int := sat (a + (b - a) * n / o)

theorem lerp_any (a b n o : Int) (w : World) (ha : -2147483648 ≤ a ∧ a ≤ 2147483647) (hb : -2147483648 ≤ b ∧ b ≤ 2147483647) (ho : 1 ≤ o ∧ o ≤ 65536) (hn : 0 ≤ n ∧ n ≤ o) :
    Calls Try.prog 25 #[.int .i32 a, .int .i32 b, .int .i64 n, .int .i64 o] w fun e w' => e = .returned (.tuple #[.int .i32 (lerpF a b n o), .int .i64 0]) ∧ w = w' := by
  have hm := mul_bd (b - a) n 4294967296 65536 (by omega) (by omega)
  have hm2 : -281474976710656 ≤ (b - a) * n ∧ (b - a) * n ≤ 281474976710656 := by omega
  have hd := fdiv_bd ((b - a) * n) o 281474976710656 hm2
  have h0 : ¬ o = 0 := by omega
  have k := Lib.hid (Int.fdiv_eq_ediv_of_nonneg ((b - a) * n) (show 0 ≤ o by omega))
  clear hm
  go_enter Try.func25, Try.ntmps25
  go_wp2_with (first | (go_at_call 60; refine (down_any _ _ _ (by omega) (by omega)).mono ?_; rintro e wx ⟨rfl, rfl⟩) | (go_at_call 40; refine (sat_any _ _).mono ?_; rintro e wx ⟨rfl, rfl⟩))
  go_ret2
  exact ⟨by unfold lerpF; first | rfl | (rw [← k.out]; rfl), rfl⟩

theorem lerp_bad (a b n o : Int) (w : World) (h : o < 1 ∨ 65536 < o ∨ n < 0 ∨ o < n) :
    Calls Try.prog 25 #[.int .i32 a, .int .i32 b, .int .i64 n, .int .i64 o] w fun e w' => e = .returned (.tuple #[.int .i32 0, .int .i64 1]) ∧ w = w' := by
  by_cases h1 : o < 1
  · go_enter Try.func25, Try.ntmps25
    go_wp2_with fail
    go_ret2
    exact ⟨rfl, rfl⟩
  · by_cases h2 : 65536 < o
    · go_enter Try.func25, Try.ntmps25
      go_wp2_with fail
      go_ret2
      exact ⟨rfl, rfl⟩
    · by_cases h3 : n < 0
      · go_enter Try.func25, Try.ntmps25
        go_wp2_with fail
        go_ret2
        exact ⟨rfl, rfl⟩
      · have h4 : o < n := by omega
        go_enter Try.func25, Try.ntmps25
        go_wp2_with fail
        go_ret2
        exact ⟨rfl, rfl⟩

theorem rlerp_any (a b n o : Int) (w : World) (ha : -2147483648 ≤ a ∧ a ≤ 2147483647) (hb : -2147483648 ≤ b ∧ b ≤ 2147483647) (ho : 1 ≤ o ∧ o ≤ 65536) (hn : 0 ≤ n ∧ n ≤ o) :
    Calls Try.prog 26 #[.int .i32 a, .int .i32 b, .int .i64 n, .int .i64 o] w fun e w' => e = .returned (.int .i32 (lerpF a b n o)) ∧ w = w' := by
  have hm := mul_bd (b - a) n 4294967296 65536 (by omega) (by omega)
  have hm2 : -281474976710656 ≤ (b - a) * n ∧ (b - a) * n ≤ 281474976710656 := by omega
  have hd := fdiv_bd ((b - a) * n) o 281474976710656 hm2
  have k := Lib.hid (Int.fdiv_eq_ediv_of_nonneg ((b - a) * n) (show 0 ≤ o by omega))
  clear hm
  go_enter Try.func26, Try.ntmps26
  go_wp2_with (first | (go_at_call 37; refine (rfloor_any _ _ _ (by omega) (by omega) (by omega)).mono ?_; rintro e wx ⟨rfl, rfl⟩) | (go_at_call 34; refine (rsat_any _ _).mono ?_; rintro e wx ⟨rfl, rfl⟩))
  go_ret
  exact ⟨ret_int (by unfold lerpF; rw [k.out]), rfl⟩

end Go.Proofs.Ytnpeldipajgbjaa
