/- WHAT THE OTHER FUNCTIONS OF PACKAGE trig AND OF ITS REFERENCE COMPUTE. Conditions: arguments within their kinds. Own work. -/
import Derived.Test.YtljnddhldjaglaaTrig
namespace Go.Proofs.Ytljnddhldjaglaa
open Go.RowKit
set_option linter.unusedVariables false
set_option maxRecDepth 100000

/-! ### the reference's root: by halving -/
def HalfInv (n l h : Nat) : Prop := l * l ≤ n ∧ n < h * h
theorem half_start (n : Nat) (h : (n : Int) ≤ 18446744073709551615) : HalfInv n 0 4294967296 := ⟨by omega, by omega⟩
theorem half_done (n l h : Nat) (hi : HalfInv n l h) (h1 : l < h) (h2 : h ≤ l + 1) : l = isq n := by
  obtain rfl : h = l + 1 := by omega
  exact isq_unique n l hi.1 hi.2

/-! ### the wave -/
theorem i64_and65535 (n : Int) : bits .and .i64 n 65535 = n % 65536 := by
  have hm : (BitVec.ofInt 64 65535).toNat = 2 ^ 16 - 1 := by decide
  have key : (BitVec.ofInt 64 n &&& BitVec.ofInt 64 65535).toNat = (n % ((2 ^ 64 : Nat) : Int)).toNat % 2 ^ 16 := by
    rw [BitVec.toNat_and, BitVec.toNat_ofInt, hm, Nat.and_two_pow_sub_one_eq_mod]
  show IntKind.i64.wrap ((BitVec.ofInt 64 n &&& BitVec.ofInt 64 65535).toNat : Nat) = n % 65536
  rw [key, IntKind.wrap_i64]
  omega
theorem i64_and32767 (n : Int) : bits .and .i64 n 32767 = n % 32768 := by
  have hm : (BitVec.ofInt 64 32767).toNat = 2 ^ 15 - 1 := by decide
  have key : (BitVec.ofInt 64 n &&& BitVec.ofInt 64 32767).toNat = (n % ((2 ^ 64 : Nat) : Int)).toNat % 2 ^ 15 := by
    rw [BitVec.toNat_and, BitVec.toNat_ofInt, hm, Nat.and_two_pow_sub_one_eq_mod]
  show IntKind.i64.wrap ((BitVec.ofInt 64 n &&& BitVec.ofInt 64 32767).toNat : Nat) = n % 32768
  rw [key, IntKind.wrap_i64]
  omega

/-- half a wave, x of 32768 on -/
def bow (x : Int) : Int := x * (32768 - x) * 1048576 / (5368709120 - 4 * (x * (32768 - x)))
/-- the wave at an angle within a turn -/
def sinA (a : Int) : Int := if 32768 ≤ a then -bow (a % 32768) else bow (a % 32768)
/-- the wave -/
def sinF (a : Int) : Int := sinA (a % 65536)

theorem par_bd (x : Int) (h0 : 0 ≤ x) (h1 : x ≤ 32768) : 0 ≤ x * (32768 - x) ∧ x * (32768 - x) ≤ 268435456 := by
  refine ⟨Int.mul_nonneg h0 (by omega), ?_⟩
  have h : 0 ≤ (x - 16384) * (x - 16384) := by
    rcases Int.le_total 0 (x - 16384) with g | g
    · exact Int.mul_nonneg g g
    · exact Int.mul_nonneg_of_nonpos_of_nonpos g g
  have e : (x - 16384) * (x - 16384) = 268435456 - x * (32768 - x) := by
    simp only [Int.sub_mul, Int.mul_sub]; omega
  omega
theorem bow_bd (x : Int) (h0 : 0 ≤ x) (h1 : x ≤ 32768) : 0 ≤ bow x ∧ bow x ≤ 65536 := by
  have hp := par_bd x h0 h1
  unfold bow
  generalize x * (32768 - x) = p at *
  refine ⟨Int.ediv_nonneg (by omega) (by omega), ?_⟩
  have := Int.ediv_le_of_le_mul (a := p * 1048576) (b := 65536) (c := 5368709120 - 4 * p) (by omega) (by omega)
  exact this
theorem sinA_bd (a : Int) : -65536 ≤ sinA a ∧ sinA a ≤ 65536 := by
  have := bow_bd (a % 32768) (by omega) (by omega)
  unfold sinA; split <;> omega
theorem sinF_bd (a : Int) : -65536 ≤ sinF a ∧ sinF a ≤ 65536 := sinA_bd _

set_option maxHeartbeats 1000000 in
theorem sin_any (a : Int) (w : World) :
    Calls Try.prog 92 #[.int .i64 a] w fun e w' => e = .returned (.int .i32 (sinF a)) ∧ w = w' := by
  have m1 := i64_and65535 a
  have m2 := i64_and32767 (a % 65536)
  unfold sinF
  have r0 : 0 ≤ a % 65536 := by omega
  have r1 : a % 65536 ≤ 65535 := by omega
  generalize a % 65536 = r at *
  have hp := par_bd (r % 32768) (by omega) (by omega)
  have hb := bow_bd (r % 32768) (by omega) (by omega)
  have hs := Lib.hid (sat_in (bow (r % 32768)) (by omega))
  have x0 : 0 ≤ r % 32768 := by omega
  have x1 : r % 32768 ≤ 32767 := by omega
  have hq : bow (r % 32768) = r % 32768 * (32768 - r % 32768) * 1048576 / (5368709120 - 4 * (r % 32768 * (32768 - r % 32768))) := rfl
  have ha : sinA r = if 32768 ≤ r then -bow (r % 32768) else bow (r % 32768) := rfl
  generalize bow (r % 32768) = b at *
  generalize r % 32768 = x at *
  replace hq := Lib.hid hq
  replace ha := Lib.hid ha
  by_cases c : 32768 ≤ r
  · have t := Lib.hid (show sinA r = sat (-b) by rw [ha.out, if_pos c, sat_in _ (by omega)])
    clear ha
    go_enter Try.func92, Try.ntmps92
    go_wp2_with fail
    refine (sat_any _ _).mono ?_
    rintro e wx ⟨rfl, rfl⟩
    rw [← hq.out, hs.out]
    go_wp2_with (first | (go_at_call 97; refine (neg_any _ _ (by omega)).mono ?_; rintro e wx ⟨rfl, rfl⟩))
    go_ret
    exact ⟨ret_int (by rw [t.out]), rfl⟩
  · have t := Lib.hid (show sinA r = b by rw [ha.out, if_neg c])
    clear ha
    go_enter Try.func92, Try.ntmps92
    go_wp2_with fail
    refine (sat_any _ _).mono ?_
    rintro e wx ⟨rfl, rfl⟩
    rw [← hq.out, hs.out]
    go_wp2_with (first | (go_at_call 97; refine (neg_any _ _ (by omega)).mono ?_; rintro e wx ⟨rfl, rfl⟩))
    go_ret
    exact ⟨ret_int (by rw [t.out]), rfl⟩

set_option maxHeartbeats 1000000 in
/-- the reference's wave, the angle brought within a turn -/
theorem rsin_core (a r : Int) (w : World) (hr : r = a % 65536) (ht : 0 ≤ a ∨ (a.tmod 65536 < 0 ∧ a.tmod 65536 + 65536 = r) ∨ (a.tmod 65536 = 0 ∧ r = 0)) :
    Calls Try.prog 88 #[.int .i64 a] w fun e w' => e = .returned (.int .i32 (sinA r)) ∧ w = w' := by
  have r0 : 0 ≤ r := by omega
  have r1 : r ≤ 65535 := by omega
  have hp := par_bd (r % 32768) (by omega) (by omega)
  have hb := bow_bd (r % 32768) (by omega) (by omega)
  have x0 : 0 ≤ r % 32768 := by omega
  have x1 : r % 32768 ≤ 32767 := by omega
  have hq : bow (r % 32768) = 16 * (r % 32768 * (32768 - r % 32768)) * 65536 / (5368709120 - 4 * (r % 32768 * (32768 - r % 32768))) := by
    unfold bow; congr 1; omega
  have ha : sinA r = if 32768 ≤ r then -bow (r % 32768) else bow (r % 32768) := rfl
  generalize hB : bow (r % 32768) = b at *
  clear hB
  generalize hX : r % 32768 = x at *
  replace hq := Lib.hid hq
  replace ha := Lib.hid ha
  rcases ht with ht | ⟨ht, ht2⟩ | ⟨ht, ht2⟩
  · subst hr
    by_cases c : 32768 ≤ a % 65536
    · have t := Lib.hid (show sinA (a % 65536) = -b by rw [ha.out, if_pos c])
      clear ha
      go_enter Try.func88, Try.ntmps88
      go_wp2
      rw [← hq.out]
      go_ret
      exact ⟨ret_int (by rw [t.out]; unfold wrap32 wrap64; omega), rfl⟩
    · have t := Lib.hid (show sinA (a % 65536) = b by rw [ha.out, if_neg c])
      clear ha
      go_enter Try.func88, Try.ntmps88
      go_wp2
      rw [← hq.out]
      go_ret
      exact ⟨ret_int (by rw [t.out]; unfold wrap32; omega), rfl⟩
  · clear hr
    by_cases c : 32768 ≤ r
    · have t := Lib.hid (show sinA (r) = -b by rw [ha.out, if_pos c])
      clear ha
      go_enter Try.func88, Try.ntmps88
      go_wp2
      rw [← hq.out]
      go_ret
      exact ⟨ret_int (by rw [t.out]; unfold wrap32 wrap64; omega), rfl⟩
    · have t := Lib.hid (show sinA (r) = b by rw [ha.out, if_neg c])
      clear ha
      go_enter Try.func88, Try.ntmps88
      go_wp2
      rw [← hq.out]
      go_ret
      exact ⟨ret_int (by rw [t.out]; unfold wrap32; omega), rfl⟩
  · clear hr
    subst ht2
    clear hq ha
    go_enter Try.func88, Try.ntmps88
    go_wp2
    go_ret
    exact ⟨ret_int (by decide), rfl⟩

theorem rsin_any (a : Int) (w : World) :
    Calls Try.prog 88 #[.int .i64 a] w fun e w' => e = .returned (.int .i32 (sinF a)) ∧ w = w' := by
  refine rsin_core a _ w rfl ?_
  by_cases h : 0 ≤ a
  · exact .inl h
  · obtain ⟨m1, m2, m3, m4⟩ := tmod_nonpos a 65536 (by omega) (by omega)
    by_cases c : a.tmod 65536 < 0
    · exact .inr (.inl ⟨c, m4 c⟩)
    · exact .inr (.inr ⟨by omega, m3 (by omega)⟩)

/-- the length of both -/
def lenF (x y : Int) : Int := sat ((isq (x * x + y * y).toNat : Nat) : Int)
theorem sq_bd (a : Int) (ha : -2147483648 ≤ a ∧ a ≤ 2147483647) : 0 ≤ a * a ∧ a * a ≤ 4611686018427387904 := by
  have h1 := mul_bd a a 2147483648 2147483648 (by omega) (by omega)
  refine ⟨?_, by omega⟩
  rcases Int.le_total 0 a with g | g
  · exact Int.mul_nonneg g g
  · exact Int.mul_nonneg_of_nonpos_of_nonpos g g
theorem lenF_bd (x y : Int) : 0 ≤ lenF x y ∧ lenF x y ≤ 2147483647 := by
  unfold lenF sat; omega

/-- a step of a speed that way: one number of it -/
def towF (x y a s : Int) : Int := if lenF x y = 0 then 0 else divF (mulF a s) (lenF x y)
theorem towF_bd (x y a s : Int) : -2147483648 ≤ towF x y a s ∧ towF x y a s ≤ 2147483647 := by
  have := divF_bd (mulF a s) (lenF x y)
  unfold towF; split <;> omega

/-- within a circle -/
def nearB (x y r : Int) : Bool := decide (0 ≤ r) && decide (x * x + y * y ≤ r * r)

end Go.Proofs.Ytljnddhldjaglaa
