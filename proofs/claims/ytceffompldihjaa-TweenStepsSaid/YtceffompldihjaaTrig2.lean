/- WHAT THE OTHER FUNCTIONS OF PACKAGE trig AND OF ITS REFERENCE COMPUTE. Conditions: arguments within their kinds. Own work. -/
import Derived.Test.YtceffompldihjaaTrig
namespace Go.Proofs.Ytceffompldihjaa
open Go.RowKit
set_option linter.unusedVariables false
set_option maxRecDepth 100000

/-! ### the reference's root: by halving -/
def HalfInv (n l h : Nat) : Prop := l * l ≤ n ∧ n < h * h
theorem half_start (n : Nat) (h : (n : Int) ≤ 18446744073709551615) : HalfInv n 0 4294967296 := ⟨by omega, by omega⟩
theorem half_done (n l h : Nat) (hi : HalfInv n l h) (h1 : l < h) (h2 : h ≤ l + 1) : l = isq n := by
  obtain rfl : h = l + 1 := by omega
  exact isq_unique n l hi.1 hi.2

set_option maxHeartbeats 1000000 in
theorem rroot_any (n : Nat) (w : World) (hn : (n : Int) ≤ 18446744073709551615) :
    Calls Try.prog 61 #[.int .u64 n] w fun e w' => e = .returned (.int .u64 (isq n)) ∧ w = w' := by
  have hs := Lib.hid (half_start n hn)
  go_enter Try.func61, Try.ntmps61
  go_wp2
  go_loop [3, 4] (fun x y => ∃ l h : Nat, x = .int .u64 l ∧ y = .int .u64 h ∧ l < h ∧ h ≤ 4294967296 ∧ HalfInv n l h) (fun x y => ((intOf y) - (intOf x)).toNat)
  case atStart => exact ⟨0, 4294967296, rfl, rfl, by omega, by omega, hs.out⟩
  case round =>
    obtain ⟨l, h, rfl, rfl, hlt, hle, hi⟩ := hrel
    clear hs
    by_cases hd : h ≤ l + 1
    · have k := Lib.hid (half_done n l h hi hlt hd)
      clear hi
      go_wp2
      go_ret
      exact ⟨ret_int (by rw [← k.out]), rfl⟩
    · have hm : (l + h) / 2 < 4294967296 := by omega
      have hp : ((l + h) / 2) * ((l + h) / 2) ≤ 18446744065119617025 := Nat.le_trans (Nat.mul_le_mul (show (l + h) / 2 ≤ 4294967295 by omega) (show (l + h) / 2 ≤ 4294967295 by omega)) (by decide)
      have hp2 : ((l : Int) + h) / 2 * (((l : Int) + h) / 2) ≤ 18446744065119617025 := by
        have : ((((l + h) / 2) * ((l + h) / 2) : Nat) : Int) ≤ 18446744065119617025 := by omega
        simpa using this
      have hp3 : 0 ≤ ((l : Int) + h) / 2 * (((l : Int) + h) / 2) := Int.mul_nonneg (by omega) (by omega)
      have hc : ((((l + h) / 2) * ((l + h) / 2) : Nat) : Int) = ((l : Int) + h) / 2 * (((l : Int) + h) / 2) := by simp
      replace hc := Lib.hid hc
      clear hp
      by_cases hy : ((l + h) / 2) * ((l + h) / 2) ≤ n
      · have hy2 : ((l : Int) + h) / 2 * (((l : Int) + h) / 2) ≤ n := by rw [← hc.out]; omega
        have k := Lib.hid (show HalfInv n ((l + h) / 2) h from ⟨hy, hi.2⟩)
        clear hy hi
        go_wp2
        go_round
        case rel => exact ⟨(l + h) / 2, h, by go_num, rfl, by omega, hle, k.out⟩
        case measure => simp [intOf]; omega
      · have hy2 : (n : Int) < ((l : Int) + h) / 2 * (((l : Int) + h) / 2) := by rw [← hc.out]; omega
        have k := Lib.hid (show HalfInv n l ((l + h) / 2) from ⟨hi.1, by omega⟩)
        clear hy hi
        go_wp2
        go_round
        case rel => exact ⟨l, (l + h) / 2, rfl, by go_num, by omega, by omega, k.out⟩
        case measure => simp [intOf]; omega

/-! ### the wave -/
theorem i64_and65535 (n : Int) : bits .and .i64 n 65535 = n % 65536 := by
  have hm : (BitVec.ofInt 64 65535).toNat = 2 ^ 16 - 1 := by decide
  have key : (BitVec.ofInt 64 n &&& BitVec.ofInt 64 65535).toNat = (n % ((2 ^ 64 : Nat) : Int)).toNat % 2 ^ 16 := by
    rw [BitVec.toNat_and, BitVec.toNat_ofInt, hm, Nat.and_two_pow_sub_one_eq_mod]
  show IntKind.i64.wrap ((BitVec.ofInt 64 n &&& BitVec.ofInt 64 65535).toNat : Nat) = n % 65536
  rw [key, IntKind.wrap_i64]
  omega
theorem i64_and32767 (n : Int) : bits .and .i64 n 32767 = n % 32768 := by
  have hm : (BitVec.ofInt 64 32767).toNat = 2 ^ 15 - 1 := by decide
  have key : (BitVec.ofInt 64 n &&& BitVec.ofInt 64 32767).toNat = (n % ((2 ^ 64 : Nat) : Int)).toNat % 2 ^ 15 := by
    rw [BitVec.toNat_and, BitVec.toNat_ofInt, hm, Nat.and_two_pow_sub_one_eq_mod]
  show IntKind.i64.wrap ((BitVec.ofInt 64 n &&& BitVec.ofInt 64 32767).toNat : Nat) = n % 32768
  rw [key, IntKind.wrap_i64]
  omega

/-- half a wave, x of 32768 on -/
def bow (x : Int) : Int := x * (32768 - x) * 1048576 / (5368709120 - 4 * (x * (32768 - x)))
/-- the wave at an angle within a turn -/
def sinA (a : Int) : Int := if 32768 ≤ a then -bow (a % 32768) else bow (a % 32768)
/-- the wave -/
def sinF (a : Int) : Int := sinA (a % 65536)

theorem par_bd (x : Int) (h0 : 0 ≤ x) (h1 : x ≤ 32768) : 0 ≤ x * (32768 - x) ∧ x * (32768 - x) ≤ 268435456 := by
  refine ⟨Int.mul_nonneg h0 (by omega), ?_⟩
  have h : 0 ≤ (x - 16384) * (x - 16384) := by
    rcases Int.le_total 0 (x - 16384) with g | g
    · exact Int.mul_nonneg g g
    · exact Int.mul_nonneg_of_nonpos_of_nonpos g g
  have e : (x - 16384) * (x - 16384) = 268435456 - x * (32768 - x) := by
    simp only [Int.sub_mul, Int.mul_sub]; omega
  omega
theorem bow_bd (x : Int) (h0 : 0 ≤ x) (h1 : x ≤ 32768) : 0 ≤ bow x ∧ bow x ≤ 65536 := by
  have hp := par_bd x h0 h1
  unfold bow
  generalize x * (32768 - x) = p at *
  refine ⟨Int.ediv_nonneg (by omega) (by omega), ?_⟩
  have := Int.ediv_le_of_le_mul (a := p * 1048576) (b := 65536) (c := 5368709120 - 4 * p) (by omega) (by omega)
  exact this
theorem sinA_bd (a : Int) : -65536 ≤ sinA a ∧ sinA a ≤ 65536 := by
  have := bow_bd (a % 32768) (by omega) (by omega)
  unfold sinA; split <;> omega
theorem sinF_bd (a : Int) : -65536 ≤ sinF a ∧ sinF a ≤ 65536 := sinA_bd _

set_option maxHeartbeats 1000000 in
/-- the reference's wave, the angle brought within a turn -/
theorem rsin_core (a r : Int) (w : World) (hr : r = a % 65536) (ht : 0 ≤ a ∨ (a.tmod 65536 < 0 ∧ a.tmod 65536 + 65536 = r) ∨ (a.tmod 65536 = 0 ∧ r = 0)) :
    Calls Try.prog 48 #[.int .i64 a] w fun e w' => e = .returned (.int .i32 (sinA r)) ∧ w = w' := by
  have r0 : 0 ≤ r := by omega
  have r1 : r ≤ 65535 := by omega
  have hp := par_bd (r % 32768) (by omega) (by omega)
  have hb := bow_bd (r % 32768) (by omega) (by omega)
  have x0 : 0 ≤ r % 32768 := by omega
  have x1 : r % 32768 ≤ 32767 := by omega
  have hq : bow (r % 32768) = 16 * (r % 32768 * (32768 - r % 32768)) * 65536 / (5368709120 - 4 * (r % 32768 * (32768 - r % 32768))) := by
    unfold bow; congr 1; omega
  have ha : sinA r = if 32768 ≤ r then -bow (r % 32768) else bow (r % 32768) := rfl
  generalize hB : bow (r % 32768) = b at *
  clear hB
  generalize hX : r % 32768 = x at *
  replace hq := Lib.hid hq
  replace ha := Lib.hid ha
  rcases ht with ht | ⟨ht, ht2⟩ | ⟨ht, ht2⟩
  · subst hr
    by_cases c : 32768 ≤ a % 65536
    · have t := Lib.hid (show sinA (a % 65536) = -b by rw [ha.out, if_pos c])
      clear ha
      go_enter Try.func48, Try.ntmps48
      go_wp2
      rw [← hq.out]
      go_ret
      exact ⟨ret_int (by rw [t.out]; unfold wrap32 wrap64; omega), rfl⟩
    · have t := Lib.hid (show sinA (a % 65536) = b by rw [ha.out, if_neg c])
      clear ha
      go_enter Try.func48, Try.ntmps48
      go_wp2
      rw [← hq.out]
      go_ret
      exact ⟨ret_int (by rw [t.out]; unfold wrap32; omega), rfl⟩
  · clear hr
    by_cases c : 32768 ≤ r
    · have t := Lib.hid (show sinA (r) = -b by rw [ha.out, if_pos c])
      clear ha
      go_enter Try.func48, Try.ntmps48
      go_wp2
      rw [← hq.out]
      go_ret
      exact ⟨ret_int (by rw [t.out]; unfold wrap32 wrap64; omega), rfl⟩
    · have t := Lib.hid (show sinA (r) = b by rw [ha.out, if_neg c])
      clear ha
      go_enter Try.func48, Try.ntmps48
      go_wp2
      rw [← hq.out]
      go_ret
      exact ⟨ret_int (by rw [t.out]; unfold wrap32; omega), rfl⟩
  · clear hr
    subst ht2
    clear hq ha
    go_enter Try.func48, Try.ntmps48
    go_wp2
    go_ret
    exact ⟨ret_int (by decide), rfl⟩

theorem rsin_any (a : Int) (w : World) :
    Calls Try.prog 48 #[.int .i64 a] w fun e w' => e = .returned (.int .i32 (sinF a)) ∧ w = w' := by
  refine rsin_core a _ w rfl ?_
  by_cases h : 0 ≤ a
  · exact .inl h
  · obtain ⟨m1, m2, m3, m4⟩ := tmod_nonpos a 65536 (by omega) (by omega)
    by_cases c : a.tmod 65536 < 0
    · exact .inr (.inl ⟨c, m4 c⟩)
    · exact .inr (.inr ⟨by omega, m3 (by omega)⟩)

/-! ### lengths -/
theorem square_any (a : Int) (w : World) (ha : -2147483648 ≤ a ∧ a ≤ 2147483647) :
    Calls Try.prog 59 #[.int .i32 a] w fun e w' => e = .returned (.int .u64 (a * a)) ∧ w = w' := by
  have h1 := mul_bd a a 2147483648 2147483648 (by omega) (by omega)
  have h2 : 0 ≤ a * a := by rcases Int.le_total 0 a with g | g; exact Int.mul_nonneg g g; exact Int.mul_nonneg_of_nonpos_of_nonpos g g
  have h3 : a * a ≤ 4611686018427387904 := by omega
  clear h1
  go_enter Try.func59, Try.ntmps59
  go_wp2
  go_ret
  exact ⟨rfl, rfl⟩

/-- the length of both -/
def lenF (x y : Int) : Int := sat ((isq (x * x + y * y).toNat : Nat) : Int)
theorem sq_bd (a : Int) (ha : -2147483648 ≤ a ∧ a ≤ 2147483647) : 0 ≤ a * a ∧ a * a ≤ 4611686018427387904 := by
  have h1 := mul_bd a a 2147483648 2147483648 (by omega) (by omega)
  refine ⟨?_, by omega⟩
  rcases Int.le_total 0 a with g | g
  · exact Int.mul_nonneg g g
  · exact Int.mul_nonneg_of_nonpos_of_nonpos g g
theorem lenF_bd (x y : Int) : 0 ≤ lenF x y ∧ lenF x y ≤ 2147483647 := by
  unfold lenF sat; omega

theorem rsquares_any (x y : Int) (w : World) (hx : -2147483648 ≤ x ∧ x ≤ 2147483647) (hy : -2147483648 ≤ y ∧ y ≤ 2147483647) :
    Calls Try.prog 38 #[.int .i32 x, .int .i32 y] w fun e w' => e = .returned (.int .u64 (x * x + y * y)) ∧ w = w' := by
  have h1 := sq_bd x hx
  have h2 := sq_bd y hy
  go_enter Try.func38, Try.ntmps38
  go_wp2
  go_ret
  exact ⟨rfl, rfl⟩

theorem rrootI_any (z : Int) (w : World) (h0 : 0 ≤ z) (h1 : z ≤ 18446744073709551615) :
    Calls Try.prog 61 #[.int .u64 z] w fun e w' => e = .returned (.int .u64 (isq z.toNat)) ∧ w = w' := by
  obtain ⟨n, rfl⟩ := Int.eq_ofNat_of_zero_le h0
  exact rroot_any n w h1

theorem rlength_any (x y : Int) (w : World) (hx : -2147483648 ≤ x ∧ x ≤ 2147483647) (hy : -2147483648 ≤ y ∧ y ≤ 2147483647) :
    Calls Try.prog 49 #[.int .i32 x, .int .i32 y] w fun e w' => e = .returned (.int .i32 (lenF x y)) ∧ w = w' := by
  have h1 := sq_bd x hx
  have h2 := sq_bd y hy
  have h3 := isq_lt (x * x + y * y).toNat (by omega)
  have h4 : ((isq (x * x + y * y).toNat : Nat) : Int) ≤ 4294967295 := by omega
  clear h3
  go_enter Try.func49, Try.ntmps49
  go_wp2_with (first | (go_at_call 38; refine (rsquares_any _ _ _ (by omega) (by omega)).mono ?_; rintro e wx ⟨rfl, rfl⟩) | (go_at_call 61; refine (rrootI_any _ _ (by omega) (by omega)).mono ?_; rintro e wx ⟨rfl, rfl⟩) | (go_at_call 53; refine (rsat_any _ _).mono ?_; rintro e wx ⟨rfl, rfl⟩))
  go_ret
  exact ⟨rfl, rfl⟩

/-- a step of a speed that way: one number of it -/
def towF (x y a s : Int) : Int := if lenF x y = 0 then 0 else divF (mulF a s) (lenF x y)
theorem towF_bd (x y a s : Int) : -2147483648 ≤ towF x y a s ∧ towF x y a s ≤ 2147483647 := by
  have := divF_bd (mulF a s) (lenF x y)
  unfold towF; split <;> omega

theorem rtoward_any (x y s : Int) (w : World) (hx : -2147483648 ≤ x ∧ x ≤ 2147483647) (hy : -2147483648 ≤ y ∧ y ≤ 2147483647) (hs : -2147483648 ≤ s ∧ s ≤ 2147483647) :
    Calls Try.prog 50 #[.int .i32 x, .int .i32 y, .int .i32 s] w fun e w' => e = .returned (.tuple #[.int .i32 (towF x y x s), .int .i32 (towF x y y s)]) ∧ w = w' := by
  have hl := lenF_bd x y
  have b1 := mulF_bd x s
  have b2 := mulF_bd y s
  by_cases c : lenF x y = 0
  · have t1 : towF x y x s = 0 := if_pos c
    have t2 : towF x y y s = 0 := if_pos c
    rw [t1, t2]
    have t : (lenF x y == 0) = true := beq_iff_eq.2 c
    clear c t1 t2
    go_enter Try.func50, Try.ntmps50
    go_wp2_with (first | (go_at_call 49; refine (rlength_any _ _ _ (by omega) (by omega)).mono ?_; rintro e wx ⟨rfl, rfl⟩))
    go_ret2
    exact ⟨rfl, rfl⟩
  · have t1 : towF x y x s = divF (mulF x s) (lenF x y) := if_neg c
    have t2 : towF x y y s = divF (mulF y s) (lenF x y) := if_neg c
    rw [t1, t2]
    have t : (lenF x y == 0) = false := beq_eq_false_iff_ne.2 c
    clear c t1 t2
    go_enter Try.func50, Try.ntmps50
    go_wp2_with (first | (go_at_call 49; refine (rlength_any _ _ _ (by omega) (by omega)).mono ?_; rintro e wx ⟨rfl, rfl⟩) | (go_at_call 47; refine (rmul_any _ _ _ (by omega) (by omega)).mono ?_; rintro e wx ⟨rfl, rfl⟩) | (go_at_call 62; refine (rdiv_any _ _ _ (by omega) (by omega)).mono ?_; rintro e wx ⟨rfl, rfl⟩))
    go_ret2
    exact ⟨rfl, rfl⟩

/-- within a circle -/
def nearB (x y r : Int) : Bool := decide (0 ≤ r) && decide (x * x + y * y ≤ r * r)

theorem near_any (x y r : Int) (w : World) (hx : -2147483648 ≤ x ∧ x ≤ 2147483647) (hy : -2147483648 ≤ y ∧ y ≤ 2147483647) (hr : -2147483648 ≤ r ∧ r ≤ 2147483647) :
    Calls Try.prog 44 #[.int .i32 x, .int .i32 y, .int .i32 r] w fun e w' => e = .returned (.bool (nearB x y r)) ∧ w = w' := by
  have h1 := sq_bd x hx
  have h2 := sq_bd y hy
  have h3 := sq_bd r hr
  by_cases c : 0 ≤ r
  · have t : nearB x y r = decide (x * x + y * y ≤ r * r) := by unfold nearB; rw [decide_eq_true c]; rfl
    rw [t]
    clear t
    go_enter Try.func44, Try.ntmps44
    go_wp2_with (first | (go_at_call 59; refine (square_any _ _ (by omega)).mono ?_; rintro e wx ⟨rfl, rfl⟩))
    go_ret
    exact ⟨rfl, rfl⟩
  · have t : nearB x y r = false := by unfold nearB; rw [decide_eq_false c]; rfl
    rw [t]
    clear t
    go_enter Try.func44, Try.ntmps44
    go_wp2_with (first | (go_at_call 59; refine (square_any _ _ (by omega)).mono ?_; rintro e wx ⟨rfl, rfl⟩))
    go_ret
    exact ⟨rfl, rfl⟩

end Go.Proofs.Ytceffompldihjaa
