/- THE WALKS OF 'TrigRoots', 'TrigWaves', 'TrigMirrors', 'TrigLengths': their Go texts return true. Conditions: none but the arguments' kinds. Own work. -/
import Derived.Test.YtnpeldipajgbjaaTrig2
namespace Go.Proofs.Ytnpeldipajgbjaa
open Go.RowKit
set_option linter.unusedVariables false
set_option maxRecDepth 100000

theorem awake02 (w : World) : Calls Try.prog 46 #[] w fun e w' => e = .returned (.bool true) ∧ w = w' := by
  have h1 : (sinF 16384 == 65536) = true := by decide
  have h2 : (((isq (24 : Int).toNat : Nat) : Int) == 4) = true := by decide
  go_enter Try.func46, Try.ntmps46
  go_wp2_with (first | (go_at_call 49; refine (sin_any _ _).mono ?_; rintro e wx ⟨rfl, rfl⟩) | (go_at_call 47; refine (rootI_any _ _ (by omega) (by omega)).mono ?_; rintro e wx ⟨rfl, rfl⟩))
  go_ret
  exact ⟨rfl, rfl⟩

theorem TrigRoots_walk (n : Int) (wn : (Lit.int .u64 n).wf = true) (w : World) :
    Calls Try.prog 11 #[.int .u64 n] w fun e w' => e = .returned (.bool true) ∧ Ext w w' := by
  have hn := bounds_u64 wn
  clear wn
  obtain ⟨n, rfl⟩ := Int.eq_ofNat_of_zero_le hn.1
  have hl := isq_lt n (by omega)
  obtain ⟨s1, s2⟩ := isq_spec n
  obtain ⟨r, hr⟩ : ∃ r, r = isq n := ⟨_, rfl⟩
  rw [← hr] at hl s1 s2
  replace hr := Lib.hid hr
  have p1 : (r : Int) * r ≤ n := by
    have : ((r * r : Nat) : Int) ≤ n := by omega
    simpa using this
  have p2 : (n : Int) < ((r : Int) + 1) * ((r : Int) + 1) := by
    have : (n : Int) < (((r + 1) * (r + 1) : Nat) : Int) := by omega
    simpa using this
  have p0 : 0 ≤ (r : Int) * r := Int.mul_nonneg (by omega) (by omega)
  clear s1 s2
  by_cases c : r = 4294967295
  · have c1 : ((r : Int) == 4294967295) = true := beq_iff_eq.2 (by omega)
    clear c p2
    go_enter Try.func11, Try.ntmps11
    go_wp2_with (first | (go_at_call 46; refine (awake02 _).mono ?_; rintro e wx ⟨rfl, rfl⟩))
    refine (rootI_any _ _ (by omega) (by omega)).mono ?_
    rintro e wx ⟨rfl, rfl⟩
    rw [show ((n : Int).toNat) = n from rfl, ← hr.out]
    go_wp2_with fail
    refine (rrootI_any _ _ (by omega) (by omega)).mono ?_
    rintro e wx ⟨rfl, rfl⟩
    rw [show ((n : Int).toNat) = n from rfl, ← hr.out]
    go_wp2
    go_ret
    exact ⟨rfl, Ext.refl _⟩
  · have c1 : ((r : Int) == 4294967295) = false := beq_eq_false_iff_ne.2 (by omega)
    have p3 : ((r : Int) + 1) * ((r : Int) + 1) ≤ 18446744065119617025 := by
      have := mul_bd ((r : Int) + 1) ((r : Int) + 1) 4294967295 4294967295 (by omega) (by omega)
      omega
    have p4 : IntKind.u64.wrap (((r : Int) + 1) * ((r : Int) + 1)) = ((r : Int) + 1) * ((r : Int) + 1) := IntWalk.u64_in _ ⟨Int.mul_nonneg (by omega) (by omega), by omega⟩
    clear p3 c
    go_enter Try.func11, Try.ntmps11
    go_wp2_with (first | (go_at_call 46; refine (awake02 _).mono ?_; rintro e wx ⟨rfl, rfl⟩))
    refine (rootI_any _ _ (by omega) (by omega)).mono ?_
    rintro e wx ⟨rfl, rfl⟩
    rw [show ((n : Int).toNat) = n from rfl, ← hr.out]
    go_wp2_with fail
    refine (rrootI_any _ _ (by omega) (by omega)).mono ?_
    rintro e wx ⟨rfl, rfl⟩
    rw [show ((n : Int).toNat) = n from rfl, ← hr.out]
    go_wp2
    go_ret
    exact ⟨rfl, Ext.refl _⟩

theorem tmod_form (a : Int) : (0 ≤ a ∧ a.tmod 65536 = a % 65536) ∨ (a < 0 ∧ -65536 < a.tmod 65536 ∧ a.tmod 65536 ≤ 0 ∧ a.tmod 65536 % 65536 = a % 65536) := by
  by_cases h : 0 ≤ a
  · exact .inl ⟨h, Int.tmod_eq_emod_of_nonneg h⟩
  · obtain ⟨m1, m2, m3, m4⟩ := tmod_nonpos a 65536 (by omega) (by omega)
    refine .inr ⟨by omega, m1, m2, ?_⟩
    by_cases c : a.tmod 65536 < 0
    · have := m4 c; omega
    · have := m3 (by omega); omega

theorem TrigWaves_walk (a : Int) (wa : (Lit.int .i64 a).wf = true) (w : World) :
    Calls Try.prog 13 #[.int .i64 a] w fun e w' => e = .returned (.bool true) ∧ Ext w w' := by
  have ha := bounds_i64 wa
  clear wa
  rcases tmod_form a with ⟨h0, h⟩ | ⟨h0, h1, h2, h⟩
  · have k : (sinF (a + 16384) == sinF (a % 65536 + 16384)) = true := beq_iff_eq.2 (by unfold sinF; congr 1; omega)
    clear h
    go_enter Try.func13, Try.ntmps13
    go_wp2_with (first | (go_at_call 46; refine (awake02 _).mono ?_; rintro e wx ⟨rfl, rfl⟩) | (go_at_call 49; refine (sin_any _ _).mono ?_; rintro e wx ⟨rfl, rfl⟩) | (go_at_call 50; refine (rsin_any _ _).mono ?_; rintro e wx ⟨rfl, rfl⟩) | (go_at_call 51; refine (cos_any _ _).mono ?_; rintro e wx ⟨rfl, rfl⟩))
    go_ret
    exact ⟨rfl, Ext.refl _⟩
  · have k : (sinF (a + 16384) == sinF (a.tmod 65536 + 16384)) = true := beq_iff_eq.2 (by unfold sinF; congr 1; omega)
    clear h
    go_enter Try.func13, Try.ntmps13
    go_wp2_with (first | (go_at_call 46; refine (awake02 _).mono ?_; rintro e wx ⟨rfl, rfl⟩) | (go_at_call 49; refine (sin_any _ _).mono ?_; rintro e wx ⟨rfl, rfl⟩) | (go_at_call 50; refine (rsin_any _ _).mono ?_; rintro e wx ⟨rfl, rfl⟩) | (go_at_call 51; refine (cos_any _ _).mono ?_; rintro e wx ⟨rfl, rfl⟩))
    go_ret
    exact ⟨rfl, Ext.refl _⟩

theorem bow_mirror (x : Int) : bow (32768 - x) = bow x := by
  unfold bow
  rw [show (32768 - x) * (32768 - (32768 - x)) = x * (32768 - x) by rw [show 32768 - (32768 - x) = x by omega, Int.mul_comm]]
theorem bow_zero : bow 0 = 0 := by decide
theorem sin_half (t : Int) : sinF (t + 32768) = -sinF t := by
  unfold sinF sinA
  by_cases h : 32768 ≤ t % 65536
  · rw [if_neg (by omega), if_pos h, show (t + 32768) % 65536 % 32768 = t % 65536 % 32768 by omega]; omega
  · rw [if_pos (by omega), if_neg h, show (t + 32768) % 65536 % 32768 = t % 65536 % 32768 by omega]
theorem sin_neg (t : Int) : sinF (-t) = -sinF t := by
  unfold sinF sinA
  by_cases q : t % 65536 % 32768 = 0
  · rw [show (-t) % 65536 % 32768 = 0 by omega, q, bow_zero]; split <;> split <;> rfl
  · have e : (-t) % 65536 % 32768 = 32768 - t % 65536 % 32768 := by omega
    rw [e, bow_mirror]
    by_cases h : 32768 ≤ t % 65536
    · rw [if_neg (by omega), if_pos h]; omega
    · rw [if_pos (by omega), if_neg h]
theorem sin_mirror (t : Int) : sinF (32768 - t) = sinF t := by
  rw [show 32768 - t = -t + 32768 by omega, sin_half, sin_neg, Int.neg_neg]

theorem mirrors_core (a t : Int) (w : World) (ht : (0 ≤ a ∧ a % 65536 = t) ∨ (a < 0 ∧ a.tmod 65536 = t)) (hb : -65536 ≤ t ∧ t ≤ 65536) :
    Calls Try.prog 12 #[.int .i64 a] w fun e w' => e = .returned (.bool true) ∧ Ext w w' := by
  have x := sinF_bd t
  have k1 : (sinF (t + 32768) == -sinF t) = true := beq_iff_eq.2 (sin_half t)
  have k2 : (sinF (32768 - t) == sinF t) = true := beq_iff_eq.2 (sin_mirror t)
  have k3 : (sinF (-t) == -sinF t) = true := beq_iff_eq.2 (sin_neg t)
  rcases ht with ⟨h0, ht⟩ | ⟨h0, ht⟩
  · go_enter Try.func12, Try.ntmps12
    go_wp2_with (first | (go_at_call 46; refine (awake02 _).mono ?_; rintro e wx ⟨rfl, rfl⟩) | (go_at_call 49; refine (sin_any _ _).mono ?_; rintro e wx ⟨rfl, rfl⟩))
    go_ret
    exact ⟨rfl, Ext.refl _⟩
  · go_enter Try.func12, Try.ntmps12
    go_wp2_with (first | (go_at_call 46; refine (awake02 _).mono ?_; rintro e wx ⟨rfl, rfl⟩) | (go_at_call 49; refine (sin_any _ _).mono ?_; rintro e wx ⟨rfl, rfl⟩))
    go_ret
    exact ⟨rfl, Ext.refl _⟩

theorem TrigMirrors_walk (a : Int) (wa : (Lit.int .i64 a).wf = true) (w : World) :
    Calls Try.prog 12 #[.int .i64 a] w fun e w' => e = .returned (.bool true) ∧ Ext w w' := by
  rcases tmod_form a with ⟨h0, h⟩ | ⟨h0, h1, h2, h⟩
  · exact mirrors_core a _ w (.inl ⟨h0, rfl⟩) (by omega)
  · exact mirrors_core a _ w (.inr ⟨h0, rfl⟩) (by omega)

theorem TrigLengths_walk (x y s r : Int) (wx : (Lit.int .i32 x).wf = true) (wy : (Lit.int .i32 y).wf = true) (ws : (Lit.int .i32 s).wf = true) (wr : (Lit.int .i32 r).wf = true) (w : World) :
    Calls Try.prog 14 #[.int .i32 x, .int .i32 y, .int .i32 s, .int .i32 r] w fun e w' => e = .returned (.bool true) ∧ Ext w w' := by
  have hx := bounds_i32 wx
  have hy := bounds_i32 wy
  have hs := bounds_i32 ws
  have hr := bounds_i32 wr
  have h1 := sq_bd x hx
  have h2 := sq_bd y hy
  have h3 := sq_bd r hr
  clear wx wy ws wr
  by_cases c : 0 ≤ r
  · by_cases c2 : x * x + y * y ≤ r * r + 0 * 0
    · have t : nearB x y r = true := by unfold nearB; rw [decide_eq_true c, decide_eq_true (by omega)]; rfl
      have c3 : x * x + y * y ≤ r * r := by omega
      replace t := Lib.hid t
      clear c2
      go_enter Try.func14, Try.ntmps14
      go_wp2_with (first | (go_at_call 46; refine (awake02 _).mono ?_; rintro e wx ⟨rfl, rfl⟩) | (go_at_call 52; refine (toward_any _ _ _ _ (by omega) (by omega) (by omega)).mono ?_; rintro e wx ⟨rfl, rfl⟩) | (go_at_call 53; refine (rtoward_any _ _ _ _ (by omega) (by omega) (by omega)).mono ?_; rintro e wx ⟨rfl, rfl⟩) | (go_at_call 54; refine (rsquares_any _ _ _ (by omega) (by omega)).mono ?_; rintro e wx ⟨rfl, rfl⟩) | (go_at_call 55; refine (length_any _ _ _ (by omega) (by omega)).mono ?_; rintro e wx ⟨rfl, rfl⟩) | (go_at_call 56; refine (rlength_any _ _ _ (by omega) (by omega)).mono ?_; rintro e wx ⟨rfl, rfl⟩))
      refine (near_any _ _ _ _ (by omega) (by omega) (by omega)).mono ?_
      rintro e wx ⟨rfl, rfl⟩
      rw [t.out]
      go_wp2
      go_ret
      exact ⟨rfl, Ext.refl _⟩
    · have t : nearB x y r = false := by unfold nearB; rw [decide_eq_true c, decide_eq_false (by omega)]; rfl
      have c3 : decide (x * x + y * y ≤ r * r) = false := decide_eq_false (by omega)
      replace t := Lib.hid t
      clear c2
      go_enter Try.func14, Try.ntmps14
      go_wp2_with (first | (go_at_call 46; refine (awake02 _).mono ?_; rintro e wx ⟨rfl, rfl⟩) | (go_at_call 52; refine (toward_any _ _ _ _ (by omega) (by omega) (by omega)).mono ?_; rintro e wx ⟨rfl, rfl⟩) | (go_at_call 53; refine (rtoward_any _ _ _ _ (by omega) (by omega) (by omega)).mono ?_; rintro e wx ⟨rfl, rfl⟩) | (go_at_call 54; refine (rsquares_any _ _ _ (by omega) (by omega)).mono ?_; rintro e wx ⟨rfl, rfl⟩) | (go_at_call 55; refine (length_any _ _ _ (by omega) (by omega)).mono ?_; rintro e wx ⟨rfl, rfl⟩) | (go_at_call 56; refine (rlength_any _ _ _ (by omega) (by omega)).mono ?_; rintro e wx ⟨rfl, rfl⟩))
      refine (near_any _ _ _ _ (by omega) (by omega) (by omega)).mono ?_
      rintro e wx ⟨rfl, rfl⟩
      rw [t.out]
      go_wp2
      go_ret
      exact ⟨rfl, Ext.refl _⟩
  · have t : nearB x y r = false := by unfold nearB; rw [decide_eq_false c]; rfl
    replace t := Lib.hid t
    go_enter Try.func14, Try.ntmps14
    go_wp2_with (first | (go_at_call 46; refine (awake02 _).mono ?_; rintro e wx ⟨rfl, rfl⟩) | (go_at_call 52; refine (toward_any _ _ _ _ (by omega) (by omega) (by omega)).mono ?_; rintro e wx ⟨rfl, rfl⟩) | (go_at_call 53; refine (rtoward_any _ _ _ _ (by omega) (by omega) (by omega)).mono ?_; rintro e wx ⟨rfl, rfl⟩) | (go_at_call 54; refine (rsquares_any _ _ _ (by omega) (by omega)).mono ?_; rintro e wx ⟨rfl, rfl⟩) | (go_at_call 55; refine (length_any _ _ _ (by omega) (by omega)).mono ?_; rintro e wx ⟨rfl, rfl⟩) | (go_at_call 56; refine (rlength_any _ _ _ (by omega) (by omega)).mono ?_; rintro e wx ⟨rfl, rfl⟩))
    refine (near_any _ _ _ _ (by omega) (by omega) (by omega)).mono ?_
    rintro e wx ⟨rfl, rfl⟩
    rw [t.out]
    go_wp2
    go_ret
    exact ⟨rfl, Ext.refl _⟩

end Go.Proofs.Ytnpeldipajgbjaa
