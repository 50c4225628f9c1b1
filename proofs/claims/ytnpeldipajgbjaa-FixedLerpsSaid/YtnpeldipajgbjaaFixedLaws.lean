/- THE WALKS OF 'FixedAdds', 'FixedBack', 'FixedLoud', 'FixedOne': their Go texts return true. Conditions: none but the arguments' kinds. Own work. -/
import Derived.Test.YtnpeldipajgbjaaFixed2
namespace Go.Proofs.Ytnpeldipajgbjaa
open Go.RowKit
set_option linter.unusedVariables false
set_option maxRecDepth 100000

theorem awake01 (w : World) : Calls Try.prog 24 #[] w fun e w' => e = .returned (.bool true) ∧ w = w' := by
  have h1 : (lerpF 0 10 1 4 == 2) = true := by decide
  have h2 : (mulF 98304 (-32768) == -49152) = true := by decide
  go_enter Try.func24, Try.ntmps24
  go_wp2_with (first | (go_at_call 25; refine (lerp_any _ _ _ _ _ (by omega) (by omega) (by omega) (by omega)).mono ?_; rintro e wx ⟨rfl, rfl⟩) | (go_at_call 42; refine (mul_any _ _ _ (by omega) (by omega)).mono ?_; rintro e wx ⟨rfl, rfl⟩))
  go_ret
  exact ⟨rfl, rfl⟩

theorem FixedAdds_walk (a b : Int) (wa : (Lit.int .i32 a).wf = true) (wb : (Lit.int .i32 b).wf = true) (w : World) :
    Calls Try.prog 10 #[.int .i32 a, .int .i32 b] w fun e w' => e = .returned (.bool true) ∧ Ext w w' := by
  have ha := bounds_i32 wa
  have hb := bounds_i32 wb
  clear wa wb
  go_enter Try.func10, Try.ntmps10
  go_wp2_with (first | (go_at_call 24; refine (awake01 _).mono ?_; rintro e wx ⟨rfl, rfl⟩) | (go_at_call 27; refine (add_any _ _ _ (by omega) (by omega)).mono ?_; rintro e wx ⟨rfl, rfl⟩) | (go_at_call 28; refine (sub_any _ _ _ (by omega) (by omega)).mono ?_; rintro e wx ⟨rfl, rfl⟩) | (go_at_call 42; refine (mul_any _ _ _ (by omega) (by omega)).mono ?_; rintro e wx ⟨rfl, rfl⟩) | (go_at_call 44; refine (div_any _ _ _ (by omega) (by omega)).mono ?_; rintro e wx ⟨rfl, rfl⟩) | (go_at_call 34; refine (rsat_any _ _).mono ?_; rintro e wx ⟨rfl, rfl⟩) | (go_at_call 43; refine (rmul_any _ _ _ (by omega) (by omega)).mono ?_; rintro e wx ⟨rfl, rfl⟩) | (go_at_call 45; refine (rdiv_any _ _ _ (by omega) (by omega)).mono ?_; rintro e wx ⟨rfl, rfl⟩))
  go_ret
  exact ⟨rfl, Ext.refl _⟩

theorem FixedLoud_walk (n g : Int) (wn : (Lit.int .i64 n).wf = true) (wg : (Lit.int .i64 g).wf = true) (w : World) :
    Calls Try.prog 8 #[.int .i64 n, .int .i64 g] w fun e w' => e = .returned (.bool true) ∧ Ext w w' := by
  clear wn wg
  go_enter Try.func8, Try.ntmps8
  go_wp2_with (first | (go_at_call 24; refine (awake01 _).mono ?_; rintro e wx ⟨rfl, rfl⟩) | (go_at_call 29; refine (scale_any _ _ _).mono ?_; rintro e wx ⟨rfl, rfl⟩) | (go_at_call 30; refine (rscale_any _ _ _).mono ?_; rintro e wx ⟨rfl, rfl⟩) | (go_at_call 31; refine (pcm_any _ _).mono ?_; rintro e wx ⟨rfl, rfl⟩) | (go_at_call 32; refine (between_any _ _ _ _ (by omega)).mono ?_; rintro e wx ⟨rfl, rfl⟩))
  go_ret
  exact ⟨rfl, Ext.refl _⟩

theorem FixedBack_walk (a b : Int) (wa : (Lit.int .i32 a).wf = true) (wb : (Lit.int .i32 b).wf = true) (w : World) :
    Calls Try.prog 7 #[.int .i32 a, .int .i32 b] w fun e w' => e = .returned (.bool true) ∧ Ext w w' := by
  have ha := bounds_i32 wa
  have hb := bounds_i32 wb
  have hs := sat_bd (a + b)
  clear wa wb
  by_cases c1 : 2147483647 < a + b
  · have t : (sat (a + b) == 2147483647) = true := beq_iff_eq.2 (sat_hi _ c1)
    go_enter Try.func7, Try.ntmps7
    go_wp2_with (first | (go_at_call 24; refine (awake01 _).mono ?_; rintro e wx ⟨rfl, rfl⟩) | (go_at_call 27; refine (add_any _ _ _ (by omega) (by omega)).mono ?_; rintro e wx ⟨rfl, rfl⟩))
    go_ret
    exact ⟨rfl, Ext.refl _⟩
  · by_cases c2 : a + b < -2147483648
    · have t3 : decide (a + b < 0) = true := decide_eq_true (by omega)
      have t : (sat (a + b) == -2147483648) = true := beq_iff_eq.2 (sat_lo _ c2)
      have t2 : (sat (a + b) == 2147483647) = false := beq_eq_false_iff_ne.2 (by have := sat_lo _ c2; omega)
      go_enter Try.func7, Try.ntmps7
      go_wp2_with (first | (go_at_call 24; refine (awake01 _).mono ?_; rintro e wx ⟨rfl, rfl⟩) | (go_at_call 27; refine (add_any _ _ _ (by omega) (by omega)).mono ?_; rintro e wx ⟨rfl, rfl⟩))
      go_ret
      exact ⟨rfl, Ext.refl _⟩
    · have t : (sat (sat (a + b) - b) == a) = true := beq_iff_eq.2 (by unfold sat; omega)
      have t2 : (sat (a + b) == sat (b + a)) = true := beq_iff_eq.2 (by unfold sat; omega)
      have c3 : a + b ≤ 2147483647 := by omega
      have c4 : -2147483648 ≤ a + b := by omega
      clear c1 c2
      go_enter Try.func7, Try.ntmps7
      go_wp2_with (first | (go_at_call 24; refine (awake01 _).mono ?_; rintro e wx ⟨rfl, rfl⟩) | (go_at_call 27; refine (add_any _ _ _ (by omega) (by omega)).mono ?_; rintro e wx ⟨rfl, rfl⟩) | (go_at_call 28; refine (sub_any _ _ _ (by omega) (by omega)).mono ?_; rintro e wx ⟨rfl, rfl⟩))
      go_ret
      exact ⟨rfl, Ext.refl _⟩

theorem FixedOne_walk (a n m l t : Int) (wa : (Lit.int .i32 a).wf = true) (wn : (Lit.int .i64 n).wf = true) (wm : (Lit.int .i64 m).wf = true) (wl : (Lit.int .i32 l).wf = true) (wt : (Lit.int .i32 t).wf = true) (w : World) :
    Calls Try.prog 9 #[.int .i32 a, .int .i64 n, .int .i64 m, .int .i32 l, .int .i32 t] w fun e w' => e = .returned (.bool true) ∧ Ext w w' := by
  have ha := bounds_i32 wa
  clear wa wn wm wl wt
  have t1 : (mulF a 65536 == a) = true := beq_iff_eq.2 (by unfold mulF sat; omega)
  have t2 : (a / 65536 == a.fdiv 65536) = true := beq_iff_eq.2 (Int.fdiv_eq_ediv_of_nonneg _ (by omega)).symm
  by_cases c1 : a < 0
  · have t3 : (max a (sat (-a)) == sat (-a)) = true := beq_iff_eq.2 (by unfold sat; omega)
    by_cases c2 : t < a
    · by_cases c3 : t < l
      · have t4 : (wi a l t == l) = true := beq_iff_eq.2 (by unfold wi; omega)
        go_enter Try.func9, Try.ntmps9
        go_wp2_with (first | (go_at_call 24; refine (awake01 _).mono ?_; rintro e wx ⟨rfl, rfl⟩) | (go_at_call 33; refine (neg_any _ _ (by omega)).mono ?_; rintro e wx ⟨rfl, rfl⟩) | (go_at_call 35; refine (abs_any _ _ (by omega)).mono ?_; rintro e wx ⟨rfl, rfl⟩) | (go_at_call 36; refine (ffloor_any _ _ (by omega)).mono ?_; rintro e wx ⟨rfl, rfl⟩) | (go_at_call 38; refine (of_any _ _).mono ?_; rintro e wx ⟨rfl, rfl⟩) | (go_at_call 40; refine (sat_any _ _).mono ?_; rintro e wx ⟨rfl, rfl⟩) | (go_at_call 41; refine (clamp_any _ _ _ _).mono ?_; rintro e wx ⟨rfl, rfl⟩) | (go_at_call 42; refine (mul_any _ _ _ (by omega) (by omega)).mono ?_; rintro e wx ⟨rfl, rfl⟩) | (go_at_call 34; refine (rsat_any _ _).mono ?_; rintro e wx ⟨rfl, rfl⟩) | (go_at_call 37; refine (rfloor_any _ _ _ (by omega) (by omega) (by omega)).mono ?_; rintro e wx ⟨rfl, rfl⟩) | (go_at_call 39; refine (rof_any _ _).mono ?_; rintro e wx ⟨rfl, rfl⟩))
        go_ret
        exact ⟨rfl, Ext.refl _⟩
      · have t4 : (wi a l t == t) = true := beq_iff_eq.2 (by unfold wi; omega)
        go_enter Try.func9, Try.ntmps9
        go_wp2_with (first | (go_at_call 24; refine (awake01 _).mono ?_; rintro e wx ⟨rfl, rfl⟩) | (go_at_call 33; refine (neg_any _ _ (by omega)).mono ?_; rintro e wx ⟨rfl, rfl⟩) | (go_at_call 35; refine (abs_any _ _ (by omega)).mono ?_; rintro e wx ⟨rfl, rfl⟩) | (go_at_call 36; refine (ffloor_any _ _ (by omega)).mono ?_; rintro e wx ⟨rfl, rfl⟩) | (go_at_call 38; refine (of_any _ _).mono ?_; rintro e wx ⟨rfl, rfl⟩) | (go_at_call 40; refine (sat_any _ _).mono ?_; rintro e wx ⟨rfl, rfl⟩) | (go_at_call 41; refine (clamp_any _ _ _ _).mono ?_; rintro e wx ⟨rfl, rfl⟩) | (go_at_call 42; refine (mul_any _ _ _ (by omega) (by omega)).mono ?_; rintro e wx ⟨rfl, rfl⟩) | (go_at_call 34; refine (rsat_any _ _).mono ?_; rintro e wx ⟨rfl, rfl⟩) | (go_at_call 37; refine (rfloor_any _ _ _ (by omega) (by omega) (by omega)).mono ?_; rintro e wx ⟨rfl, rfl⟩) | (go_at_call 39; refine (rof_any _ _).mono ?_; rintro e wx ⟨rfl, rfl⟩))
        go_ret
        exact ⟨rfl, Ext.refl _⟩
    · by_cases c3 : a < l
      · have t4 : (wi a l t == l) = true := beq_iff_eq.2 (by unfold wi; omega)
        go_enter Try.func9, Try.ntmps9
        go_wp2_with (first | (go_at_call 24; refine (awake01 _).mono ?_; rintro e wx ⟨rfl, rfl⟩) | (go_at_call 33; refine (neg_any _ _ (by omega)).mono ?_; rintro e wx ⟨rfl, rfl⟩) | (go_at_call 35; refine (abs_any _ _ (by omega)).mono ?_; rintro e wx ⟨rfl, rfl⟩) | (go_at_call 36; refine (ffloor_any _ _ (by omega)).mono ?_; rintro e wx ⟨rfl, rfl⟩) | (go_at_call 38; refine (of_any _ _).mono ?_; rintro e wx ⟨rfl, rfl⟩) | (go_at_call 40; refine (sat_any _ _).mono ?_; rintro e wx ⟨rfl, rfl⟩) | (go_at_call 41; refine (clamp_any _ _ _ _).mono ?_; rintro e wx ⟨rfl, rfl⟩) | (go_at_call 42; refine (mul_any _ _ _ (by omega) (by omega)).mono ?_; rintro e wx ⟨rfl, rfl⟩) | (go_at_call 34; refine (rsat_any _ _).mono ?_; rintro e wx ⟨rfl, rfl⟩) | (go_at_call 37; refine (rfloor_any _ _ _ (by omega) (by omega) (by omega)).mono ?_; rintro e wx ⟨rfl, rfl⟩) | (go_at_call 39; refine (rof_any _ _).mono ?_; rintro e wx ⟨rfl, rfl⟩))
        go_ret
        exact ⟨rfl, Ext.refl _⟩
      · have t4 : (wi a l t == a) = true := beq_iff_eq.2 (by unfold wi; omega)
        go_enter Try.func9, Try.ntmps9
        go_wp2_with (first | (go_at_call 24; refine (awake01 _).mono ?_; rintro e wx ⟨rfl, rfl⟩) | (go_at_call 33; refine (neg_any _ _ (by omega)).mono ?_; rintro e wx ⟨rfl, rfl⟩) | (go_at_call 35; refine (abs_any _ _ (by omega)).mono ?_; rintro e wx ⟨rfl, rfl⟩) | (go_at_call 36; refine (ffloor_any _ _ (by omega)).mono ?_; rintro e wx ⟨rfl, rfl⟩) | (go_at_call 38; refine (of_any _ _).mono ?_; rintro e wx ⟨rfl, rfl⟩) | (go_at_call 40; refine (sat_any _ _).mono ?_; rintro e wx ⟨rfl, rfl⟩) | (go_at_call 41; refine (clamp_any _ _ _ _).mono ?_; rintro e wx ⟨rfl, rfl⟩) | (go_at_call 42; refine (mul_any _ _ _ (by omega) (by omega)).mono ?_; rintro e wx ⟨rfl, rfl⟩) | (go_at_call 34; refine (rsat_any _ _).mono ?_; rintro e wx ⟨rfl, rfl⟩) | (go_at_call 37; refine (rfloor_any _ _ _ (by omega) (by omega) (by omega)).mono ?_; rintro e wx ⟨rfl, rfl⟩) | (go_at_call 39; refine (rof_any _ _).mono ?_; rintro e wx ⟨rfl, rfl⟩))
        go_ret
        exact ⟨rfl, Ext.refl _⟩
  · have t3 : (max a (sat (-a)) == sat a) = true := beq_iff_eq.2 (by unfold sat; omega)
    by_cases c2 : t < a
    · by_cases c3 : t < l
      · have t4 : (wi a l t == l) = true := beq_iff_eq.2 (by unfold wi; omega)
        go_enter Try.func9, Try.ntmps9
        go_wp2_with (first | (go_at_call 24; refine (awake01 _).mono ?_; rintro e wx ⟨rfl, rfl⟩) | (go_at_call 33; refine (neg_any _ _ (by omega)).mono ?_; rintro e wx ⟨rfl, rfl⟩) | (go_at_call 35; refine (abs_any _ _ (by omega)).mono ?_; rintro e wx ⟨rfl, rfl⟩) | (go_at_call 36; refine (ffloor_any _ _ (by omega)).mono ?_; rintro e wx ⟨rfl, rfl⟩) | (go_at_call 38; refine (of_any _ _).mono ?_; rintro e wx ⟨rfl, rfl⟩) | (go_at_call 40; refine (sat_any _ _).mono ?_; rintro e wx ⟨rfl, rfl⟩) | (go_at_call 41; refine (clamp_any _ _ _ _).mono ?_; rintro e wx ⟨rfl, rfl⟩) | (go_at_call 42; refine (mul_any _ _ _ (by omega) (by omega)).mono ?_; rintro e wx ⟨rfl, rfl⟩) | (go_at_call 34; refine (rsat_any _ _).mono ?_; rintro e wx ⟨rfl, rfl⟩) | (go_at_call 37; refine (rfloor_any _ _ _ (by omega) (by omega) (by omega)).mono ?_; rintro e wx ⟨rfl, rfl⟩) | (go_at_call 39; refine (rof_any _ _).mono ?_; rintro e wx ⟨rfl, rfl⟩))
        go_ret
        exact ⟨rfl, Ext.refl _⟩
      · have t4 : (wi a l t == t) = true := beq_iff_eq.2 (by unfold wi; omega)
        go_enter Try.func9, Try.ntmps9
        go_wp2_with (first | (go_at_call 24; refine (awake01 _).mono ?_; rintro e wx ⟨rfl, rfl⟩) | (go_at_call 33; refine (neg_any _ _ (by omega)).mono ?_; rintro e wx ⟨rfl, rfl⟩) | (go_at_call 35; refine (abs_any _ _ (by omega)).mono ?_; rintro e wx ⟨rfl, rfl⟩) | (go_at_call 36; refine (ffloor_any _ _ (by omega)).mono ?_; rintro e wx ⟨rfl, rfl⟩) | (go_at_call 38; refine (of_any _ _).mono ?_; rintro e wx ⟨rfl, rfl⟩) | (go_at_call 40; refine (sat_any _ _).mono ?_; rintro e wx ⟨rfl, rfl⟩) | (go_at_call 41; refine (clamp_any _ _ _ _).mono ?_; rintro e wx ⟨rfl, rfl⟩) | (go_at_call 42; refine (mul_any _ _ _ (by omega) (by omega)).mono ?_; rintro e wx ⟨rfl, rfl⟩) | (go_at_call 34; refine (rsat_any _ _).mono ?_; rintro e wx ⟨rfl, rfl⟩) | (go_at_call 37; refine (rfloor_any _ _ _ (by omega) (by omega) (by omega)).mono ?_; rintro e wx ⟨rfl, rfl⟩) | (go_at_call 39; refine (rof_any _ _).mono ?_; rintro e wx ⟨rfl, rfl⟩))
        go_ret
        exact ⟨rfl, Ext.refl _⟩
    · by_cases c3 : a < l
      · have t4 : (wi a l t == l) = true := beq_iff_eq.2 (by unfold wi; omega)
        go_enter Try.func9, Try.ntmps9
        go_wp2_with (first | (go_at_call 24; refine (awake01 _).mono ?_; rintro e wx ⟨rfl, rfl⟩) | (go_at_call 33; refine (neg_any _ _ (by omega)).mono ?_; rintro e wx ⟨rfl, rfl⟩) | (go_at_call 35; refine (abs_any _ _ (by omega)).mono ?_; rintro e wx ⟨rfl, rfl⟩) | (go_at_call 36; refine (ffloor_any _ _ (by omega)).mono ?_; rintro e wx ⟨rfl, rfl⟩) | (go_at_call 38; refine (of_any _ _).mono ?_; rintro e wx ⟨rfl, rfl⟩) | (go_at_call 40; refine (sat_any _ _).mono ?_; rintro e wx ⟨rfl, rfl⟩) | (go_at_call 41; refine (clamp_any _ _ _ _).mono ?_; rintro e wx ⟨rfl, rfl⟩) | (go_at_call 42; refine (mul_any _ _ _ (by omega) (by omega)).mono ?_; rintro e wx ⟨rfl, rfl⟩) | (go_at_call 34; refine (rsat_any _ _).mono ?_; rintro e wx ⟨rfl, rfl⟩) | (go_at_call 37; refine (rfloor_any _ _ _ (by omega) (by omega) (by omega)).mono ?_; rintro e wx ⟨rfl, rfl⟩) | (go_at_call 39; refine (rof_any _ _).mono ?_; rintro e wx ⟨rfl, rfl⟩))
        go_ret
        exact ⟨rfl, Ext.refl _⟩
      · have t4 : (wi a l t == a) = true := beq_iff_eq.2 (by unfold wi; omega)
        go_enter Try.func9, Try.ntmps9
        go_wp2_with (first | (go_at_call 24; refine (awake01 _).mono ?_; rintro e wx ⟨rfl, rfl⟩) | (go_at_call 33; refine (neg_any _ _ (by omega)).mono ?_; rintro e wx ⟨rfl, rfl⟩) | (go_at_call 35; refine (abs_any _ _ (by omega)).mono ?_; rintro e wx ⟨rfl, rfl⟩) | (go_at_call 36; refine (ffloor_any _ _ (by omega)).mono ?_; rintro e wx ⟨rfl, rfl⟩) | (go_at_call 38; refine (of_any _ _).mono ?_; rintro e wx ⟨rfl, rfl⟩) | (go_at_call 40; refine (sat_any _ _).mono ?_; rintro e wx ⟨rfl, rfl⟩) | (go_at_call 41; refine (clamp_any _ _ _ _).mono ?_; rintro e wx ⟨rfl, rfl⟩) | (go_at_call 42; refine (mul_any _ _ _ (by omega) (by omega)).mono ?_; rintro e wx ⟨rfl, rfl⟩) | (go_at_call 34; refine (rsat_any _ _).mono ?_; rintro e wx ⟨rfl, rfl⟩) | (go_at_call 37; refine (rfloor_any _ _ _ (by omega) (by omega) (by omega)).mono ?_; rintro e wx ⟨rfl, rfl⟩) | (go_at_call 39; refine (rof_any _ _).mono ?_; rintro e wx ⟨rfl, rfl⟩))
        go_ret
        exact ⟨rfl, Ext.refl _⟩

end Go.Proofs.Ytnpeldipajgbjaa
