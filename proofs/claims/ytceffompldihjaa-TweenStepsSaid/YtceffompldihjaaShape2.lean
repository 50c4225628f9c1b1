/- WHAT THE FUNCTIONS OF PACKAGE shape AND OF ITS REFERENCE COMPUTE, on. Conditions: arguments within their kinds. Own work. -/
import Derived.Test.YtceffompldihjaaShape
import Derived.BigQuiet
namespace Go.Proofs.Ytceffompldihjaa
open Go.RowKit
set_option linter.unusedVariables false
set_option maxRecDepth 100000

theorem radd_any (a b : Int) (w : World) (ha : -2147483648 ≤ a ∧ a ≤ 2147483647) (hb : -2147483648 ≤ b ∧ b ≤ 2147483647) :
    Calls Try.prog 37 #[.int .i32 a, .int .i32 b] w fun e w' => e = .returned (.int .i32 (sat (a + b))) ∧ w = w' := by
  go_enter Try.func37, Try.ntmps37
  go_wp2_with (first | (go_at_call 53; refine (rsat_any _ _).mono ?_; rintro e wx ⟨rfl, rfl⟩))
  go_ret
  exact ⟨rfl, rfl⟩

theorem rsub_any (a b : Int) (w : World) (ha : -2147483648 ≤ a ∧ a ≤ 2147483647) (hb : -2147483648 ≤ b ∧ b ≤ 2147483647) :
    Calls Try.prog 52 #[.int .i32 a, .int .i32 b] w fun e w' => e = .returned (.int .i32 (sat (a - b))) ∧ w = w' := by
  go_enter Try.func52, Try.ntmps52
  go_wp2_with (first | (go_at_call 53; refine (rsat_any _ _).mono ?_; rintro e wx ⟨rfl, rfl⟩))
  go_ret
  exact ⟨rfl, rfl⟩

theorem rplus_any (a b c d : Int) (w : World) (ha : -2147483648 ≤ a ∧ a ≤ 2147483647) (hb : -2147483648 ≤ b ∧ b ≤ 2147483647) (hc : -2147483648 ≤ c ∧ c ≤ 2147483647) (hd : -2147483648 ≤ d ∧ d ≤ 2147483647) :
    Calls Try.prog 32 #[.agg #[.int .i32 (a), .int .i32 (b)], .agg #[.int .i32 (c), .int .i32 (d)]] w fun e w' => e = .returned (.agg #[.int .i32 (sat (a + c)), .int .i32 (sat (b + d))]) ∧ Ext w w' := by
  go_enter Try.func32, Try.ntmps32
  go_wp2_with fail
  refine wp_still_tail 11 (by kernel_rfl) (by kernel_rfl) ?_
  simp only [List.take_succ_cons, List.take_zero, List.drop_succ_cons, List.drop_zero]
  repeat (first | (refine wpStill_step (fun K hK => ?_); go_simp; (with_reducible refine ⟨_, calls_flip (radd_any _ _ _ (by omega) (by omega)), hK _ ?_⟩); clear hK K) | still_step)
  refine wpStill_nil ?_
  go_wp2
  refine bodyPost_ret (v := .agg #[.int .i32 (sat (a + c)), .int .i32 (sat (b + d))]) (by simp [results, Try.results32, go_sem]) rfl ⟨rfl, ?_⟩
  (repeat' (first | (with_reducible assumption) | (with_reducible exact Ext.refl _) | (with_reducible refine Ext.grow ?_ _) | (with_reducible refine Ext.drew ?_) | (with_reducible refine Ext.set ?_ ?_ _) | omega | (simp; done) | (simp; omega) | (refine Ext.trans ?_ (by assumption))))

theorem rless_any (a b c d : Int) (w : World) (ha : -2147483648 ≤ a ∧ a ≤ 2147483647) (hb : -2147483648 ≤ b ∧ b ≤ 2147483647) (hc : -2147483648 ≤ c ∧ c ≤ 2147483647) (hd : -2147483648 ≤ d ∧ d ≤ 2147483647) :
    Calls Try.prog 36 #[.agg #[.int .i32 (a), .int .i32 (b)], .agg #[.int .i32 (c), .int .i32 (d)]] w fun e w' => e = .returned (.agg #[.int .i32 (sat (a - c)), .int .i32 (sat (b - d))]) ∧ Ext w w' := by
  go_enter Try.func36, Try.ntmps36
  go_wp2_with fail
  refine wp_still_tail 11 (by kernel_rfl) (by kernel_rfl) ?_
  simp only [List.take_succ_cons, List.take_zero, List.drop_succ_cons, List.drop_zero]
  repeat (first | (refine wpStill_step (fun K hK => ?_); go_simp; (with_reducible refine ⟨_, calls_flip (rsub_any _ _ _ (by omega) (by omega)), hK _ ?_⟩); clear hK K) | still_step)
  refine wpStill_nil ?_
  go_wp2
  refine bodyPost_ret (v := .agg #[.int .i32 (sat (a - c)), .int .i32 (sat (b - d))]) (by simp [results, Try.results36, go_sem]) rfl ⟨rfl, ?_⟩
  (repeat' (first | (with_reducible assumption) | (with_reducible exact Ext.refl _) | (with_reducible refine Ext.grow ?_ _) | (with_reducible refine Ext.drew ?_) | (with_reducible refine Ext.set ?_ ?_ _) | omega | (simp; done) | (simp; omega) | (refine Ext.trans ?_ (by assumption))))

theorem rscaleV_any (a b c : Int) (w : World) (ha : -2147483648 ≤ a ∧ a ≤ 2147483647) (hb : -2147483648 ≤ b ∧ b ≤ 2147483647) (hc : -2147483648 ≤ c ∧ c ≤ 2147483647) :
    Calls Try.prog 31 #[.agg #[.int .i32 (a), .int .i32 (b)], .int .i32 c] w fun e w' => e = .returned (.agg #[.int .i32 (mulF a c), .int .i32 (mulF b c)]) ∧ Ext w w' := by
  go_enter Try.func31, Try.ntmps31
  go_wp2_with fail
  refine wp_still_tail 9 (by kernel_rfl) (by kernel_rfl) ?_
  simp only [List.take_succ_cons, List.take_zero, List.drop_succ_cons, List.drop_zero]
  repeat (first | (refine wpStill_step (fun K hK => ?_); go_simp; (with_reducible refine ⟨_, calls_flip (rmul_any _ _ _ (by omega) (by omega)), hK _ ?_⟩); clear hK K) | still_step)
  refine wpStill_nil ?_
  go_wp2
  refine bodyPost_ret (v := .agg #[.int .i32 (mulF a c), .int .i32 (mulF b c)]) (by simp [results, Try.results31, go_sem]) rfl ⟨rfl, ?_⟩
  (repeat' (first | (with_reducible assumption) | (with_reducible exact Ext.refl _) | (with_reducible refine Ext.grow ?_ _) | (with_reducible refine Ext.drew ?_) | (with_reducible refine Ext.set ?_ ?_ _) | omega | (simp; done) | (simp; omega) | (refine Ext.trans ?_ (by assumption))))

theorem rinside_any (lx ly hx hy x y : Int) (w : World) :
    Calls Try.prog 12 #[.agg #[.int .i32 lx, .int .i32 ly, .int .i32 hx, .int .i32 hy], .agg #[.int .i32 (x), .int .i32 (y)]] w fun e w' => e = .returned (.bool (decide (lx ≤ x ∧ x ≤ hx ∧ ly ≤ y ∧ y ≤ hy))) ∧ Ext w w' := by
  by_cases c1 : lx ≤ x
  · by_cases c2 : x ≤ hx
    · by_cases c3 : ly ≤ y
      · by_cases c4 : y ≤ hy
        · go_enter Try.func12, Try.ntmps12
          go_wp2
          go_ret
          refine ⟨ret_bool ?_, by (repeat' (first | (with_reducible assumption) | (with_reducible exact Ext.refl _) | (with_reducible refine Ext.grow ?_ _) | (with_reducible refine Ext.drew ?_) | (with_reducible refine Ext.set ?_ ?_ _) | omega | (simp; done) | (simp; omega) | (refine Ext.trans ?_ (by assumption))))⟩
          rw [decide_eq_true (show lx ≤ x ∧ x ≤ hx ∧ ly ≤ y ∧ y ≤ hy from ⟨c1, c2, c3, c4⟩)]
          try first | rfl | (rw [decide_eq_false (show ¬ x < lx by omega), decide_eq_false (show ¬ hx < x by omega), decide_eq_false (show ¬ y < ly by omega), decide_eq_false (show ¬ hy < y by omega)]; rfl)
        · have k : decide (lx ≤ x ∧ x ≤ hx ∧ ly ≤ y ∧ y ≤ hy) = false := decide_eq_false (by omega)
          rw [k]
          clear k
          go_enter Try.func12, Try.ntmps12
          go_wp2
          go_ret
          exact ⟨rfl, by (repeat' (first | (with_reducible assumption) | (with_reducible exact Ext.refl _) | (with_reducible refine Ext.grow ?_ _) | (with_reducible refine Ext.drew ?_) | (with_reducible refine Ext.set ?_ ?_ _) | omega | (simp; done) | (simp; omega) | (refine Ext.trans ?_ (by assumption))))⟩
      · have k : decide (lx ≤ x ∧ x ≤ hx ∧ ly ≤ y ∧ y ≤ hy) = false := decide_eq_false (by omega)
        rw [k]
        clear k
        go_enter Try.func12, Try.ntmps12
        go_wp2
        go_ret
        exact ⟨rfl, by (repeat' (first | (with_reducible assumption) | (with_reducible exact Ext.refl _) | (with_reducible refine Ext.grow ?_ _) | (with_reducible refine Ext.drew ?_) | (with_reducible refine Ext.set ?_ ?_ _) | omega | (simp; done) | (simp; omega) | (refine Ext.trans ?_ (by assumption))))⟩
    · have k : decide (lx ≤ x ∧ x ≤ hx ∧ ly ≤ y ∧ y ≤ hy) = false := decide_eq_false (by omega)
      rw [k]
      clear k
      go_enter Try.func12, Try.ntmps12
      go_wp2
      go_ret
      exact ⟨rfl, by (repeat' (first | (with_reducible assumption) | (with_reducible exact Ext.refl _) | (with_reducible refine Ext.grow ?_ _) | (with_reducible refine Ext.drew ?_) | (with_reducible refine Ext.set ?_ ?_ _) | omega | (simp; done) | (simp; omega) | (refine Ext.trans ?_ (by assumption))))⟩
  · have k : decide (lx ≤ x ∧ x ≤ hx ∧ ly ≤ y ∧ y ≤ hy) = false := decide_eq_false (by omega)
    rw [k]
    clear k
    go_enter Try.func12, Try.ntmps12
    go_wp2
    go_ret
    exact ⟨rfl, by (repeat' (first | (with_reducible assumption) | (with_reducible exact Ext.refl _) | (with_reducible refine Ext.grow ?_ _) | (with_reducible refine Ext.drew ?_) | (with_reducible refine Ext.set ?_ ?_ _) | omega | (simp; done) | (simp; omega) | (refine Ext.trans ?_ (by assumption))))⟩

/-- a way turned round, and halved -/
def backF (v : Int) : Int := mulF (sat (-v)) 32768

theorem rback_any (v : Int) (w : World) (hv : -2147483648 ≤ v ∧ v ≤ 2147483647) :
    Calls Try.prog 51 #[.int .i32 v] w fun e w' => e = .returned (.int .i32 (backF v)) ∧ w = w' := by
  have hb := sat_bd (-v)
  go_enter Try.func51, Try.ntmps51
  go_wp2_with (first | (go_at_call 53; refine (rsat_any _ _).mono ?_; rintro e wx ⟨rfl, rfl⟩) | (go_at_call 47; refine (rmul_any _ _ _ (by omega) (by omega)).mono ?_; rintro e wx ⟨rfl, rfl⟩))
  go_ret
  exact ⟨rfl, rfl⟩

end Go.Proofs.Ytceffompldihjaa
