/- THE WALK OF 'EaseNil': its Go text returns true. Conditions: none but the arguments' kinds. Own work. -/
import Derived.Test.YtikbnghadaehmaaEase
import Derived.Test.YtikbnghadaehmaaEq
namespace Go.Proofs.Ytikbnghadaehmaa
open Go.RowKit
set_option linter.unusedVariables false
set_option linter.unusedSimpArgs false
set_option maxRecDepth 100000

theorem clear_nil (w : World) : Calls Try.prog 44 #[.pointer none] w fun e w' => e = .returned (.tuple #[]) ∧ w = w' := by
  go_enter Try.func44, Try.ntmps44
  go_wp2
  refine bodyPost_end (v := .tuple #[]) (by simp [results, Try.results44, go_sem]) rfl ⟨rfl, rfl⟩

theorem miss_nil (ax ay bx bz : Int) (w : World) : Calls Try.prog 45 #[.pointer none, .agg #[.int .i32 (ax), .int .i32 (ay), .int .i32 bx, .int .i32 bz]] w fun e w' => e = .returned (.int .i64 0) ∧ Ext w w' := by
  go_enter Try.func45, Try.ntmps45
  go_wp2
  go_ret
  exact ⟨rfl, by (repeat' (first | (with_reducible assumption) | (with_reducible exact Ext.refl _) | (with_reducible refine Ext.grow ?_ _) | (with_reducible refine Ext.drew ?_) | (with_reducible refine Ext.set ?_ ?_ _) | omega | (simp; done) | (simp; omega) | (refine Ext.trans ?_ (by assumption))))⟩

theorem tick_nil (w : World) : Calls Try.prog 46 #[.pointer none] w fun e w' => e = .returned (.bool false) ∧ w = w' := by
  go_enter Try.func46, Try.ntmps46
  go_wp2
  go_ret
  exact ⟨rfl, rfl⟩

theorem offs_nil (w : World) : Calls Try.prog 47 #[.pointer none] w fun e w' => e = .returned (.agg #[.int .i32 0, .int .i32 0, .int .i32 0, .int .i32 0]) ∧ Ext w w' := by
  go_enter Try.func47, Try.ntmps47
  go_wp2
  refine bodyPost_ret (v := .agg #[.int .i32 0, .int .i32 0, .int .i32 0, .int .i32 0]) (by simp [results, Try.results47, go_sem]) rfl ⟨rfl, ?_⟩
  (repeat' (first | (with_reducible assumption) | (with_reducible exact Ext.refl _) | (with_reducible refine Ext.grow ?_ _) | (with_reducible refine Ext.drew ?_) | (with_reducible refine Ext.set ?_ ?_ _) | omega | (simp; done) | (simp; omega) | (refine Ext.trans ?_ (by assumption))))

theorem eqZero (w : World) : (Op.equalIn 10000 57 (.agg #[.int .i32 0, .int .i32 0, .int .i32 0, .int .i32 0]) (.agg #[.int .i32 0, .int .i32 0, .int .i32 0, .int .i32 0])).run Try.prog w = .ok true w :=
  eqIn_same (m := 9) (D := 9) (la := [.int .i32 0, .int .i32 0, .int .i32 0, .int .i32 0]) (by kernel_rfl) (by decide) (by kernel_rfl) (by kernel_rfl) w

set_option maxHeartbeats 4000000 in
theorem EaseNil_core (ax ay bx bz : Int) (w : World) :
    Calls Try.prog 10 #[.agg #[.int .i32 (ax), .int .i32 (ay), .int .i32 bx, .int .i32 bz]] w fun e w' => e = .returned (.bool true) ∧ Ext w w' := by
  have hz := eqZero
  go_enter Try.func10, Try.ntmps10
  go_wp2_with (first
    | (go_at_call 14; refine (awake23 _).mono ?_; rintro e wx ⟨rfl, rfl⟩)
    | (go_at_call 44; refine (clear_nil _).mono ?_; rintro e wx ⟨rfl, rfl⟩)
    | (go_at_call 45; refine (miss_nil _ _ _ _ _).mono ?_; rintro e wx ⟨rfl, hx⟩)
    | (go_at_call 46; refine (tick_nil _).mono ?_; rintro e wx ⟨rfl, rfl⟩)
    | (go_at_call 47; refine (offs_nil _).mono ?_; rintro e wx2 ⟨rfl, hx2⟩))
  go_ret
  exact ⟨rfl, by (repeat' (first | (with_reducible assumption) | (with_reducible exact Ext.refl _) | (with_reducible refine Ext.grow ?_ _) | (with_reducible refine Ext.drew ?_) | (with_reducible refine Ext.set ?_ ?_ _) | omega | (simp; done) | (simp; omega) | (refine Ext.trans ?_ (by assumption))))⟩

theorem EaseNil_walk (ax ay bx bz : Int) (w1 : (Lit.int .i32 ax).wf = true) (w2 : (Lit.int .i32 ay).wf = true) (w3 : (Lit.int .i32 bx).wf = true) (w4 : (Lit.int .i32 bz).wf = true) (w : World) :
    Calls Try.prog 10 #[.agg #[.int .i32 (ax), .int .i32 (ay), .int .i32 bx, .int .i32 bz]] w fun e w' => e = .returned (.bool true) ∧ Ext w w' :=
  EaseNil_core _ _ _ _ w

end Go.Proofs.Ytikbnghadaehmaa
