/- THE WALK OF 'DiceThrows': its Go text returns true, and leaves memory as it was but for new blocks. Conditions: none but the arguments' kinds. Own work. -/
import Derived.Test.YtnpeldipajgbjaaDiceNextWalk
namespace Go.Proofs.Ytnpeldipajgbjaa
open Go.RowKit
set_option linter.unusedVariables false
set_option maxRecDepth 100000

theorem DiceThrows_walk (a n : Int) (wa : (Lit.int .u32 a).wf = true) (wn : (Lit.int .i64 n).wf = true) (w : World) :
    Calls Try.prog 4 #[.int .u32 a, .int .i64 n] w fun e w' => e = .returned (.bool true) ∧ Ext w w' := by
  have ha := bounds_u32 wa
  have hn := bounds_i64 wn
  clear wa wn
  by_cases hbad : n < 1 ∨ 65536 < n
  · rcases hbad with hb | hb
    · go_enter Try.func4, Try.ntmps4
      go_wp2_with (first | (go_at_call 15; refine (awake09 _).mono ?_; rintro e wx ⟨rfl, hx⟩) | (go_at_call 21; refine (throw_bad _ _ _ (by omega)).mono ?_; rintro e wx ⟨rfl, hx⟩))
      go_ret
      exact ⟨rfl, by (repeat' (first | (with_reducible assumption) | (with_reducible exact Ext.refl _) | (with_reducible refine Ext.grow ?_ _) | (with_reducible refine Ext.drew ?_) | (with_reducible refine Ext.set ?_ ?_ _) | omega | (simp; done) | (simp; omega) | (refine Ext.trans ?_ (by assumption))))⟩
    · go_enter Try.func4, Try.ntmps4
      go_wp2_with (first | (go_at_call 15; refine (awake09 _).mono ?_; rintro e wx ⟨rfl, hx⟩) | (go_at_call 21; refine (throw_bad _ _ _ (by omega)).mono ?_; rintro e wx ⟨rfl, hx⟩))
      go_ret
      exact ⟨rfl, by (repeat' (first | (with_reducible assumption) | (with_reducible exact Ext.refl _) | (with_reducible refine Ext.grow ?_ _) | (with_reducible refine Ext.drew ?_) | (with_reducible refine Ext.set ?_ ?_ _) | omega | (simp; done) | (simp; omega) | (refine Ext.trans ?_ (by assumption))))⟩
  · have g0 : 1 ≤ n := by omega
    have g1 : n ≤ 65536 := by omega
    clear hbad
    have ht := (th_bd a n g0 g1).2.2
    go_enter Try.func4, Try.ntmps4
    go_wp2_with (first | (go_at_call 15; refine (awake09 _).mono ?_; rintro e wx ⟨rfl, hx⟩) | (go_at_call 21; refine (throw_any _ _ _ (by omega) (by omega)).mono ?_; rintro e wx ⟨rfl, hx⟩) | (go_at_call 22; refine (rthrow_any _ _ _ (by omega) (by omega) (by omega) (by omega)).mono ?_; rintro e wx ⟨rfl, hx⟩))
    go_ret
    exact ⟨rfl, by (repeat' (first | (with_reducible assumption) | (with_reducible exact Ext.refl _) | (with_reducible refine Ext.grow ?_ _) | (with_reducible refine Ext.drew ?_) | (with_reducible refine Ext.set ?_ ?_ _) | omega | (simp; done) | (simp; omega) | (refine Ext.trans ?_ (by assumption))))⟩

end Go.Proofs.Ytnpeldipajgbjaa
