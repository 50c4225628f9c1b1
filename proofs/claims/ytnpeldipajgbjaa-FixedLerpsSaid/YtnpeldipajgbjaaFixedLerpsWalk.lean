/- THE WALK OF 'FixedLerps': its Go text returns true. Conditions: none but the arguments' kinds. Own work. -/
import Derived.Test.YtnpeldipajgbjaaFixedLaws
namespace Go.Proofs.Ytnpeldipajgbjaa
open Go.RowKit
set_option linter.unusedVariables false
set_option maxRecDepth 100000

theorem lerp_zero (a b o : Int) (ha : -2147483648 ≤ a ∧ a ≤ 2147483647) : lerpF a b 0 o = a := by
  unfold lerpF; rw [Int.mul_zero, Int.zero_ediv, Int.add_zero, sat_in _ ha]
theorem lerp_all (a b o : Int) (hb : -2147483648 ≤ b ∧ b ≤ 2147483647) (ho : 1 ≤ o) : lerpF a b o o = b := by
  unfold lerpF; rw [Int.mul_ediv_cancel _ (by omega), show a + (b - a) = b by omega, sat_in _ hb]
theorem lerp_up (a b n m o : Int) (h : a ≤ b) (hn : n ≤ m) (ho : 1 ≤ o) : lerpF a b n o ≤ lerpF a b m o := by
  unfold lerpF
  refine sat_mono _ _ ?_
  have h1 : (b - a) * n ≤ (b - a) * m := Int.mul_le_mul_of_nonneg_left hn (by omega)
  have h2 := Int.ediv_le_ediv (c := o) (by omega) h1
  omega
theorem lerp_down (a b n m o : Int) (h : b ≤ a) (hn : n ≤ m) (ho : 1 ≤ o) : lerpF a b m o ≤ lerpF a b n o := by
  unfold lerpF
  refine sat_mono _ _ ?_
  have h1 : (b - a) * m ≤ (b - a) * n := Int.mul_le_mul_of_nonpos_left (by omega) hn
  have h2 := Int.ediv_le_ediv (c := o) (by omega) h1
  omega

set_option maxHeartbeats 1600000 in
theorem FixedLerps_walk (a b n m o : Int) (wa : (Lit.int .i32 a).wf = true) (wb : (Lit.int .i32 b).wf = true) (wn : (Lit.int .i64 n).wf = true) (wm : (Lit.int .i64 m).wf = true) (wo : (Lit.int .i64 o).wf = true) (w : World) :
    Calls Try.prog 6 #[.int .i32 a, .int .i32 b, .int .i64 n, .int .i64 m, .int .i64 o] w fun e w' => e = .returned (.bool true) ∧ Ext w w' := by
  have ha := bounds_i32 wa
  have hb := bounds_i32 wb
  clear wa wb wn wm wo
  by_cases b1 : o < 1
  · go_enter Try.func6, Try.ntmps6
    go_wp2_with (first | (go_at_call 24; refine (awake01 _).mono ?_; rintro e wx ⟨rfl, rfl⟩) | (go_at_call 25; refine (lerp_bad _ _ _ _ _ (by omega)).mono ?_; rintro e wx ⟨rfl, rfl⟩))
    go_ret
    exact ⟨rfl, Ext.refl _⟩
  by_cases b2 : 65536 < o
  · go_enter Try.func6, Try.ntmps6
    go_wp2_with (first | (go_at_call 24; refine (awake01 _).mono ?_; rintro e wx ⟨rfl, rfl⟩) | (go_at_call 25; refine (lerp_bad _ _ _ _ _ (by omega)).mono ?_; rintro e wx ⟨rfl, rfl⟩))
    go_ret
    exact ⟨rfl, Ext.refl _⟩
  by_cases b3 : n < 0
  · go_enter Try.func6, Try.ntmps6
    go_wp2_with (first | (go_at_call 24; refine (awake01 _).mono ?_; rintro e wx ⟨rfl, rfl⟩) | (go_at_call 25; refine (lerp_bad _ _ _ _ _ (by omega)).mono ?_; rintro e wx ⟨rfl, rfl⟩))
    go_ret
    exact ⟨rfl, Ext.refl _⟩
  by_cases b4 : o < n
  · go_enter Try.func6, Try.ntmps6
    go_wp2_with (first | (go_at_call 24; refine (awake01 _).mono ?_; rintro e wx ⟨rfl, rfl⟩) | (go_at_call 25; refine (lerp_bad _ _ _ _ _ (by omega)).mono ?_; rintro e wx ⟨rfl, rfl⟩))
    go_ret
    exact ⟨rfl, Ext.refl _⟩
  have g1 : 1 ≤ o := by omega
  have g2 : o ≤ 65536 := by omega
  have g3 : 0 ≤ n := by omega
  have g4 : n ≤ o := by omega
  clear b1 b2 b3 b4
  have z1 : (lerpF a b 0 o != a) = false := by rw [lerp_zero a b o ha]; simp
  have z2 : (lerpF a b o o != b) = false := by rw [lerp_all a b o hb g1]; simp
  have e2 := Lib.hid (lerp_all a b o hb g1)
  by_cases c1 : m < n
  · by_cases c2 : m < 0
    · skip
      go_enter Try.func6, Try.ntmps6
      go_wp2_with (first | (go_at_call 24; refine (awake01 _).mono ?_; rintro e wx ⟨rfl, rfl⟩) | (go_at_call 26; refine (rlerp_any _ _ _ _ _ (by omega) (by omega) (by omega) (by omega)).mono ?_; rintro e wx ⟨rfl, rfl⟩))
      iterate 3
        refine (lerp_any _ _ _ _ _ (by omega) (by omega) (by omega) (by omega)).mono ?_
        rintro e wx ⟨rfl, rfl⟩
        go_wp2_with (first | (go_at_call 24; refine (awake01 _).mono ?_; rintro e wx ⟨rfl, rfl⟩) | (go_at_call 26; refine (rlerp_any _ _ _ _ _ (by omega) (by omega) (by omega) (by omega)).mono ?_; rintro e wx ⟨rfl, rfl⟩))
      refine (lerp_bad _ _ _ _ _ (by omega)).mono ?_
      rintro e wx ⟨rfl, rfl⟩
      go_wp2_with (first | (go_at_call 24; refine (awake01 _).mono ?_; rintro e wx ⟨rfl, rfl⟩) | (go_at_call 26; refine (rlerp_any _ _ _ _ _ (by omega) (by omega) (by omega) (by omega)).mono ?_; rintro e wx ⟨rfl, rfl⟩))
      go_ret
      exact ⟨rfl, Ext.refl _⟩
    · skip
      go_enter Try.func6, Try.ntmps6
      go_wp2_with (first | (go_at_call 24; refine (awake01 _).mono ?_; rintro e wx ⟨rfl, rfl⟩) | (go_at_call 26; refine (rlerp_any _ _ _ _ _ (by omega) (by omega) (by omega) (by omega)).mono ?_; rintro e wx ⟨rfl, rfl⟩))
      iterate 3
        refine (lerp_any _ _ _ _ _ (by omega) (by omega) (by omega) (by omega)).mono ?_
        rintro e wx ⟨rfl, rfl⟩
        go_wp2_with (first | (go_at_call 24; refine (awake01 _).mono ?_; rintro e wx ⟨rfl, rfl⟩) | (go_at_call 26; refine (rlerp_any _ _ _ _ _ (by omega) (by omega) (by omega) (by omega)).mono ?_; rintro e wx ⟨rfl, rfl⟩))
      refine (lerp_any _ _ _ _ _ (by omega) (by omega) (by omega) (by omega)).mono ?_
      rintro e wx ⟨rfl, rfl⟩
      go_wp2_with (first | (go_at_call 24; refine (awake01 _).mono ?_; rintro e wx ⟨rfl, rfl⟩) | (go_at_call 26; refine (rlerp_any _ _ _ _ _ (by omega) (by omega) (by omega) (by omega)).mono ?_; rintro e wx ⟨rfl, rfl⟩))
      go_ret
      exact ⟨rfl, Ext.refl _⟩
  have c1' : n ≤ m := by omega
  clear c1
  by_cases c2 : o < m
  · skip
    go_enter Try.func6, Try.ntmps6
    go_wp2_with (first | (go_at_call 24; refine (awake01 _).mono ?_; rintro e wx ⟨rfl, rfl⟩) | (go_at_call 26; refine (rlerp_any _ _ _ _ _ (by omega) (by omega) (by omega) (by omega)).mono ?_; rintro e wx ⟨rfl, rfl⟩))
    iterate 3
      refine (lerp_any _ _ _ _ _ (by omega) (by omega) (by omega) (by omega)).mono ?_
      rintro e wx ⟨rfl, rfl⟩
      go_wp2_with (first | (go_at_call 24; refine (awake01 _).mono ?_; rintro e wx ⟨rfl, rfl⟩) | (go_at_call 26; refine (rlerp_any _ _ _ _ _ (by omega) (by omega) (by omega) (by omega)).mono ?_; rintro e wx ⟨rfl, rfl⟩))
    refine (lerp_bad _ _ _ _ _ (by omega)).mono ?_
    rintro e wx ⟨rfl, rfl⟩
    go_wp2_with (first | (go_at_call 24; refine (awake01 _).mono ?_; rintro e wx ⟨rfl, rfl⟩) | (go_at_call 26; refine (rlerp_any _ _ _ _ _ (by omega) (by omega) (by omega) (by omega)).mono ?_; rintro e wx ⟨rfl, rfl⟩))
    go_ret
    exact ⟨rfl, Ext.refl _⟩
  have c2' : m ≤ o := by omega
  clear c2
  by_cases c3 : a ≤ b
  · have u1 := lerp_up a b n m o c3 c1' g1
    have u2 := lerp_up a b m o o c3 c2' g1
    rw [e2.out] at u2
    go_enter Try.func6, Try.ntmps6
    go_wp2_with (first | (go_at_call 24; refine (awake01 _).mono ?_; rintro e wx ⟨rfl, rfl⟩) | (go_at_call 26; refine (rlerp_any _ _ _ _ _ (by omega) (by omega) (by omega) (by omega)).mono ?_; rintro e wx ⟨rfl, rfl⟩))
    iterate 3
      refine (lerp_any _ _ _ _ _ (by omega) (by omega) (by omega) (by omega)).mono ?_
      rintro e wx ⟨rfl, rfl⟩
      go_wp2_with (first | (go_at_call 24; refine (awake01 _).mono ?_; rintro e wx ⟨rfl, rfl⟩) | (go_at_call 26; refine (rlerp_any _ _ _ _ _ (by omega) (by omega) (by omega) (by omega)).mono ?_; rintro e wx ⟨rfl, rfl⟩))
    refine (lerp_any _ _ _ _ _ (by omega) (by omega) (by omega) (by omega)).mono ?_
    rintro e wx ⟨rfl, rfl⟩
    go_wp2_with (first | (go_at_call 24; refine (awake01 _).mono ?_; rintro e wx ⟨rfl, rfl⟩) | (go_at_call 26; refine (rlerp_any _ _ _ _ _ (by omega) (by omega) (by omega) (by omega)).mono ?_; rintro e wx ⟨rfl, rfl⟩))
    go_ret
    exact ⟨rfl, Ext.refl _⟩
  · have c3' : b ≤ a := by omega
    have u1 := lerp_down a b n m o c3' c1' g1
    have u2 := lerp_down a b m o o c3' c2' g1
    rw [e2.out] at u2
    go_enter Try.func6, Try.ntmps6
    go_wp2_with (first | (go_at_call 24; refine (awake01 _).mono ?_; rintro e wx ⟨rfl, rfl⟩) | (go_at_call 26; refine (rlerp_any _ _ _ _ _ (by omega) (by omega) (by omega) (by omega)).mono ?_; rintro e wx ⟨rfl, rfl⟩))
    iterate 3
      refine (lerp_any _ _ _ _ _ (by omega) (by omega) (by omega) (by omega)).mono ?_
      rintro e wx ⟨rfl, rfl⟩
      go_wp2_with (first | (go_at_call 24; refine (awake01 _).mono ?_; rintro e wx ⟨rfl, rfl⟩) | (go_at_call 26; refine (rlerp_any _ _ _ _ _ (by omega) (by omega) (by omega) (by omega)).mono ?_; rintro e wx ⟨rfl, rfl⟩))
    refine (lerp_any _ _ _ _ _ (by omega) (by omega) (by omega) (by omega)).mono ?_
    rintro e wx ⟨rfl, rfl⟩
    go_wp2_with (first | (go_at_call 24; refine (awake01 _).mono ?_; rintro e wx ⟨rfl, rfl⟩) | (go_at_call 26; refine (rlerp_any _ _ _ _ _ (by omega) (by omega) (by omega) (by omega)).mono ?_; rintro e wx ⟨rfl, rfl⟩))
    go_ret
    exact ⟨rfl, Ext.refl _⟩

end Go.Proofs.Ytnpeldipajgbjaa
