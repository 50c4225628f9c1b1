/- WHAT THE FUNCTIONS OF PACKAGE trig AND OF ITS REFERENCE COMPUTE. Conditions: arguments within their kinds. Own work. -/
import Derived.Test.YtdemgianfkafjaaDoorRootLaw
import Derived.Test.YtdemgianfkafjaaDoorFixed2
import Derived.Test.YtdemgianfkafjaaDoorShelf
namespace Go.Proofs.YtdemgianfkafjaaDoor
open Go.RowKit
set_option linter.unusedVariables false
set_option maxRecDepth 100000

theorem mul64_lo (x : Nat) (w : World) (hx : x < 4294967296) :
    Calls Tryd.prog 55 #[.int .u64 x, .int .u64 x] w fun e w' => e = .returned (.tuple #[.int .u64 0, .int .u64 ((x * x : Nat) : Int)]) ∧ w = w' := by
  have h : x * x < 18446744073709551616 := Nat.lt_of_le_of_lt (Nat.mul_le_mul (show x ≤ 4294967295 by omega) (show x ≤ 4294967295 by omega)) (by decide)
  refine (Tryd.bits_Mul64 x x (by omega) (by omega) w).mono ?_
  rintro e w' ⟨rfl, rfl⟩
  rw [Nat.div_eq_of_lt h, Nat.mod_eq_of_lt h]
  exact ⟨rfl, rfl⟩

/-- too great a square: something stands above the 64 bits -/
def BigSq (w : World) (e : Ending) (w' : World) : Prop := ∃ a b : Nat, 0 < a ∧ e = .returned (.tuple #[.int .u64 a, .int .u64 b]) ∧ w = w'
theorem mul64_hi (x : Nat) (w : World) (hx : 4294967296 ≤ x) (hx2 : x < 18446744073709551616) :
    Calls Tryd.prog 55 #[.int .u64 x, .int .u64 x] w (BigSq w) := by
  have h : 18446744073709551616 ≤ x * x := Nat.le_trans (by decide) (Nat.mul_le_mul hx hx)
  refine (Tryd.bits_Mul64 x x (by omega) (by omega) w).mono ?_
  rintro e w' ⟨rfl, rfl⟩
  exact ⟨_, _, Nat.div_pos h (by omega), rfl, rfl⟩

theorem u64_or_cast (a b : Nat) (ha : a < 18446744073709551616) (hb : b < 18446744073709551616) : bits .or .u64 (a : Int) (b : Int) = ((a ||| b : Nat) : Int) := u64_or_nat a b ha hb

theorem len64_any (n : Nat) (w : World) (hn : (n : Int) ≤ 18446744073709551615) :
    Calls Tryd.prog 54 #[.int .u64 n] w fun e w' => e = .returned (.int .i64 (Lib.bitLen n)) ∧ w = w' := by
  refine (Tryd.bits_Len64 _ w (by omega) hn).mono ?_
  rintro e w' ⟨rfl, rfl⟩
  exact ⟨rfl, rfl⟩

set_option maxHeartbeats 1000000 in
theorem root_any (n : Nat) (w : World) (hn : (n : Int) ≤ 18446744073709551615) :
    Calls Tryd.prog 43 #[.int .u64 n] w fun e w' => e = .returned (.int .u64 (isq n)) ∧ w = w' := by
  have hs := root_start n (by omega)
  have hl := hs.1
  replace hs := Lib.hid hs.2
  have hw : IntKind.u64.wrap (2 ^ (Lib.bitLen n / 2)) = ((2 ^ (Lib.bitLen n / 2) : Nat) : Int) := by
    have : 2 ^ (Lib.bitLen n / 2) ≤ 2 ^ 32 := Nat.pow_le_pow_right (by omega) hl
    have e : ((2 ^ (Lib.bitLen n / 2) : Nat) : Int) = (2 : Int) ^ (Lib.bitLen n / 2) := by simp
    rw [← e, IntKind.wrap_u64]
    generalize 2 ^ (Lib.bitLen n / 2) = d at *
    omega
  replace hw := Lib.hid hw
  go_enter Tryd.func43, Tryd.ntmps43
  go_wp2_with (first | (go_at_call 54; refine (len64_any _ _ (by omega)).mono ?_; rintro e wx ⟨rfl, rfl⟩))
  go_loop [3, 4] (fun x y => ∃ r b : Nat, x = .int .u64 r ∧ y = .int .u64 b ∧ RootInv n r b) (fun _ y => (intOf y).toNat)
  case atStart => exact ⟨0, _, rfl, by rw [hw.out], hs.out⟩
  case round =>
    obtain ⟨r, b, rfl, rfl, hri⟩ := hrel
    clear hs hw hl
    by_cases hb : b = 0
    · have hd := Lib.hid (root_done n r (by rw [← hb]; exact hri))
      have hb0 : ¬ 0 < b := by omega
      clear hb hri
      go_wp2
      go_ret
      exact ⟨ret_int (by rw [← hd.out]), rfl⟩
    · have hb0 : 0 < b := by omega
      have hsm := root_small n r b hri (by omega)
      obtain ⟨m, hm⟩ : ∃ m, m = r + b := ⟨_, rfl⟩
      have hor : bits .or .u64 (r : Int) (b : Int) = (m : Int) := by rw [u64_or_cast r b (by omega) (by omega), root_join n r b hri hb0, hm]
      have hm' := Lib.hid hm
      have hm2 : m ≤ 8589934592 := by omega
      clear hm hb
      by_cases hy : m * m ≤ n
      · have hri2 := Lib.hid (root_yes n r b hri hb0 (by rw [← hm'.out]; exact hy))
        have hm3 : m < 4294967296 := sq_lt (show m * m < 4294967296 * 4294967296 by omega)
        have hy2 : ((m * m : Nat) : Int) ≤ (n : Int) := by omega
        clear hy hri
        obtain ⟨q, hq⟩ : ∃ q, q = m * m := ⟨_, rfl⟩
        rw [← hq] at hy2
        replace hq := Lib.hid hq
        go_wp2_with fail
        refine (mul64_lo m _ hm3).mono ?_
        rintro e wx ⟨rfl, rfl⟩
        rw [← hq.out]
        go_wp2
        go_round
        case rel => exact ⟨m, b / 2, rfl, by go_num, by rw [hm'.out]; exact hri2.out⟩
        case measure => simp [intOf]; omega
      · have hri2 := Lib.hid (root_no n r b hri hb0 (by rw [← hm'.out]; exact hy))
        clear hri
        by_cases hm3 : m < 4294967296
        · have hy2 : (n : Int) < ((m * m : Nat) : Int) := by omega
          clear hy
          obtain ⟨q, hq⟩ : ∃ q, q = m * m := ⟨_, rfl⟩
          rw [← hq] at hy2
          replace hq := Lib.hid hq
          go_wp2_with fail
          refine (mul64_lo m _ hm3).mono ?_
          rintro e wx ⟨rfl, rfl⟩
          rw [← hq.out]
          go_wp2
          go_round
          case rel => exact ⟨r, b / 2, rfl, by go_num, hri2.out⟩
          case measure => simp [intOf]; omega
        · clear hy
          go_wp2_with fail
          refine (mul64_hi m _ (by omega) (by omega)).mono ?_
          rintro e wx ⟨x, y, hx, rfl, rfl⟩
          have hx2 : ((x : Int) == 0) = false := beq_eq_false_iff_ne.2 (by omega)
          go_wp2
          go_round
          case rel => exact ⟨r, b / 2, rfl, by go_num, hri2.out⟩
          case measure => simp [intOf]; omega

end Go.Proofs.YtdemgianfkafjaaDoor
