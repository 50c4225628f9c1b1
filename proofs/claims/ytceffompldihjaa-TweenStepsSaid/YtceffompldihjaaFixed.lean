/- WHAT THE FUNCTIONS OF PACKAGE fixed AND OF ITS REFERENCE COMPUTE. Conditions: arguments within their kinds. Own work. -/
import Derived.Test.YtceffompldihjaaNum
import Derived.Test.YtceffompldihjaaChecked
import Derived.Lib.Hide
import Derived.OpenShut
namespace Go.Proofs.Ytceffompldihjaa
open Go.RowKit
set_option linter.unusedVariables false
set_option maxRecDepth 100000

/-- n between two ends. -/
def wi (n l m : Int) : Int := max l (min n m)

theorem within64_any (n l m : Int) (w : World) :
    Calls Try.prog 66 #[.int .i64 n, .int .i64 l, .int .i64 m] w fun e w' => e = .returned (.int .i64 (wi n l m)) ∧ w = w' := by
  go_enter Try.func66, Try.ntmps66
  go_wp2
  all_goals (go_ret; exact ⟨ret_int (by unfold wi; split at * <;> omega), rfl⟩)

theorem sat_any (n : Int) (w : World) :
    Calls Try.prog 60 #[.int .i64 n] w fun e w' => e = .returned (.int .i32 (sat n)) ∧ w = w' := by
  have hb : -2147483648 ≤ wi n (-2147483648) 2147483647 ∧ wi n (-2147483648) 2147483647 ≤ 2147483647 := by unfold wi; omega
  go_enter Try.func60, Try.ntmps60
  go_wp2_with (go_at_call 66; refine (within64_any _ _ _ _).mono ?_; rintro e wx ⟨rfl, rfl⟩)
  go_ret
  exact ⟨rfl, rfl⟩

theorem down_any (a b : Int) (w : World) (hb : b ≠ 0) (ha : -4611686018427387904 ≤ a ∧ a ≤ 4611686018427387904) :
    Calls Try.prog 65 #[.int .i64 a, .int .i64 b] w fun e w' => e = .returned (.int .i64 (a.fdiv b)) ∧ w = w' := by
  have hq := tdiv_lo a b _ ha
  have k1 := Lib.hid (dn_keep a b)
  have k2 := Lib.hid (fun h g => dn_less a b h g hb)
  by_cases c1 : a.tmod b = 0
  · have t1 : (a.tmod b != 0) = false := by rw [c1]; rfl
    have k := Lib.hid (k1.out (.inl c1))
    clear k1 k2 c1
    go_enter Try.func65, Try.ntmps65
    go_wp2
    go_ret
    exact ⟨ret_int k.out, rfl⟩
  · have t1 : (a.tmod b != 0) = true := bne_iff_ne.2 c1
    have k1 := Lib.hid (fun h => k1.out (.inr h))
    have k2 := Lib.hid (k2.out c1)
    clear c1
    by_cases c2 : a < 0
    · by_cases c3 : b < 0
      · have k := Lib.hid (k1.out ⟨fun _ => c3, fun _ => c2⟩)
        clear k1 k2
        go_enter Try.func65, Try.ntmps65
        go_wp2
        go_ret
        exact ⟨ret_int k.out, rfl⟩
      · have k := Lib.hid (k2.out (fun h => c3 (h.1 c2)))
        clear k1 k2
        go_enter Try.func65, Try.ntmps65
        go_wp2
        go_ret
        exact ⟨ret_int k.out, rfl⟩
    · by_cases c3 : b < 0
      · have t2 : (a % b != 0) = true := by rw [← Int.tmod_eq_emod_of_nonneg (by omega)]; exact t1
        have k := Lib.hid (k2.out (fun h => c2 (h.2 c3)))
        clear k1 k2
        go_enter Try.func65, Try.ntmps65
        go_wp2
        go_ret
        exact ⟨ret_int k.out, rfl⟩
      · have t2 : (a % b != 0) = true := by rw [← Int.tmod_eq_emod_of_nonneg (by omega)]; exact t1
        have k := Lib.hid (k1.out ⟨fun h => absurd h c2, fun h => absurd h c3⟩)
        clear k1 k2
        go_enter Try.func65, Try.ntmps65
        go_wp2
        go_ret
        exact ⟨ret_int k.out, rfl⟩

theorem rsat_any (n : Int) (w : World) :
    Calls Try.prog 53 #[.int .i64 n] w fun e w' => e = .returned (.int .i32 (sat n)) ∧ w = w' := by
  go_enter Try.func53, Try.ntmps53
  go_wp2
  all_goals (go_ret; exact ⟨ret_int (by unfold sat; omega), rfl⟩)

theorem rfloor_any (a b : Int) (w : World) (hb : 0 < b) (hb2 : b ≤ 1099511627776) (ha : -4611686018427387904 ≤ a ∧ a ≤ 4611686018427387904) :
    Calls Try.prog 40 #[.int .i64 a, .int .i64 b] w fun e w' => e = .returned (.int .i64 (a.fdiv b)) ∧ w = w' := by
  have hb0 : ¬ b = 0 := by omega
  by_cases c : 0 ≤ a
  · have n0 := Int.emod_nonneg a hb0
    have n1 := Int.emod_lt_of_pos a hb
    have k := Lib.hid (floor_pos a b hb)
    have n2 : a % b ≤ a := by have e := Int.mul_ediv_add_emod a b; have := Int.mul_nonneg (Int.le_of_lt hb) (Int.ediv_nonneg c (Int.le_of_lt hb)); omega
    go_enter Try.func40, Try.ntmps40
    go_wp2
    go_ret
    exact ⟨ret_int k.out, rfl⟩
  · have n0 := Int.emod_nonneg a hb0
    have n1 := Int.emod_lt_of_pos a hb
    have k := Lib.hid (floor_exact a b hb)
    obtain ⟨m1, m2, m3, m4⟩ := tmod_nonpos a b (by omega) hb
    have q := tdiv_lo (a - a % b) b 4611687117939015680 (by omega)
    by_cases c0 : a.tmod b < 0
    · have e := Lib.hid (m4 c0)
      clear m3 m4
      go_enter Try.func40, Try.ntmps40
      go_wp2
      go_ret
      exact ⟨ret_int (by rw [e.out]; exact k.out), rfl⟩
    · have e := Lib.hid (show a.tmod b = a % b by rw [m3 (by omega)]; omega)
      clear m3 m4
      go_enter Try.func40, Try.ntmps40
      go_wp2
      go_ret
      exact ⟨ret_int (by rw [e.out]; exact k.out), rfl⟩

theorem add_any (a b : Int) (w : World) (ha : -2147483648 ≤ a ∧ a ≤ 2147483647) (hb : -2147483648 ≤ b ∧ b ≤ 2147483647) :
    Calls Try.prog 45 #[.int .i32 a, .int .i32 b] w fun e w' => e = .returned (.int .i32 (sat (a + b))) ∧ w = w' := by
  go_enter Try.func45, Try.ntmps45
  go_wp2_with (go_at_call 60; refine (sat_any _ _).mono ?_; rintro e wx ⟨rfl, rfl⟩)
  go_ret
  exact ⟨rfl, rfl⟩

theorem sub_any (a b : Int) (w : World) (ha : -2147483648 ≤ a ∧ a ≤ 2147483647) (hb : -2147483648 ≤ b ∧ b ≤ 2147483647) :
    Calls Try.prog 58 #[.int .i32 a, .int .i32 b] w fun e w' => e = .returned (.int .i32 (sat (a - b))) ∧ w = w' := by
  go_enter Try.func58, Try.ntmps58
  go_wp2_with (go_at_call 60; refine (sat_any _ _).mono ?_; rintro e wx ⟨rfl, rfl⟩)
  go_ret
  exact ⟨rfl, rfl⟩

/-- one times the other, as numbers of the point -/
def mulF (a b : Int) : Int := sat ((a * b) / 65536)

theorem rmul_any (a b : Int) (w : World) (ha : -2147483648 ≤ a ∧ a ≤ 2147483647) (hb : -2147483648 ≤ b ∧ b ≤ 2147483647) :
    Calls Try.prog 47 #[.int .i32 a, .int .i32 b] w fun e w' => e = .returned (.int .i32 (mulF a b)) ∧ w = w' := by
  have hm := mul_bd a b 2147483648 2147483648 (by omega) (by omega)
  have hm2 : -4611686018427387904 ≤ a * b ∧ a * b ≤ 4611686018427387904 := by omega
  have hd := fdiv_bd (a * b) 65536 4611686018427387904 hm2
  go_enter Try.func47, Try.ntmps47
  go_wp2_with (first | (go_at_call 40; refine (rfloor_any _ _ _ (by omega) (by omega) (by omega)).mono ?_; rintro e wx ⟨rfl, rfl⟩) | (go_at_call 53; refine (rsat_any _ _).mono ?_; rintro e wx ⟨rfl, rfl⟩))
  go_ret
  exact ⟨ret_int (by unfold mulF; rw [Int.fdiv_eq_ediv_of_nonneg _ (by omega)]), rfl⟩

/-- one by the other, as numbers of the point -/
def divF (a b : Int) : Int := if b = 0 then (if 0 < a then 2147483647 else if a < 0 then -2147483648 else 0) else sat ((a * 65536).fdiv b)

theorem rdiv_any (a b : Int) (w : World) (ha : -2147483648 ≤ a ∧ a ≤ 2147483647) (hb : -2147483648 ≤ b ∧ b ≤ 2147483647) :
    Calls Try.prog 62 #[.int .i32 a, .int .i32 b] w fun e w' => e = .returned (.int .i32 (divF a b)) ∧ w = w' := by
  by_cases c : b = 0
  · subst c
    go_enter Try.func62, Try.ntmps62
    go_wp2
    all_goals (go_ret; exact ⟨ret_int (by unfold divF; rw [if_pos rfl]; repeat' (first | rw [if_pos (by omega)] | rw [if_neg (by omega)])), rfl⟩)
  · have c1 : (b == 0) = false := beq_eq_false_iff_ne.2 c
    have k : divF a b = sat ((a * 65536).fdiv b) := if_neg c
    have k := Lib.hid k
    have k2 := Lib.hid (show (-a * 65536).fdiv (-b) = (a * 65536).fdiv b by rw [Int.neg_mul]; exact Int.neg_fdiv_neg _ _)
    by_cases c2 : b < 0
    · go_enter Try.func62, Try.ntmps62
      go_wp2_with (first | (go_at_call 40; refine (rfloor_any _ _ _ (by omega) (by omega) (by omega)).mono ?_; rintro e wx ⟨rfl, rfl⟩) | (go_at_call 53; refine (rsat_any _ _).mono ?_; rintro e wx ⟨rfl, rfl⟩))
      go_ret
      exact ⟨ret_int (by rw [k.out, k2.out]), rfl⟩
    · go_enter Try.func62, Try.ntmps62
      go_wp2_with (first | (go_at_call 40; refine (rfloor_any _ _ _ (by omega) (by omega) (by omega)).mono ?_; rintro e wx ⟨rfl, rfl⟩) | (go_at_call 53; refine (rsat_any _ _).mono ?_; rintro e wx ⟨rfl, rfl⟩))
      go_ret
      exact ⟨ret_int k.out.symm, rfl⟩

theorem divF_bd (a b : Int) : -2147483648 ≤ divF a b ∧ divF a b ≤ 2147483647 := by
  unfold divF
  have := sat_bd ((a * 65536).fdiv b)
  repeat' split
  all_goals omega
theorem mulF_bd (a b : Int) : -2147483648 ≤ mulF a b ∧ mulF a b ≤ 2147483647 := sat_bd _

end Go.Proofs.Ytceffompldihjaa
