/- THE WALK OF 'DiceNext': its Go text returns true, and leaves memory as it was but for new blocks. Conditions: none but the arguments' kinds. Own work. -/
import Derived.Test.YtnpeldipajgbjaaDice
import Derived.OpenShut
import Derived.Lib.Hide
namespace Go.Proofs.Ytnpeldipajgbjaa
open Go.RowKit
set_option linter.unusedVariables false

theorem bk_nx (a : Int) (h0 : 0 ≤ a) (h1 : a ≤ 4294967295) : bk (nx a) = a := by
  unfold bk nx; omega
theorem nx_bk (a : Int) (h0 : 0 ≤ a) (h1 : a ≤ 4294967295) : nx (bk a) = a := by
  unfold bk nx; omega
theorem nx_inj (a b : Int) (h0 : 0 ≤ a) (h1 : a ≤ 4294967295) (g0 : 0 ≤ b) (g1 : b ≤ 4294967295) : (nx a == nx b) = (a == b) := by
  by_cases h : a = b
  · subst h; simp
  · have hn : nx a ≠ nx b := fun e => h (by rw [← bk_nx a h0 h1, e, bk_nx b g0 g1])
    rw [beq_eq_false_iff_ne.2 h, beq_eq_false_iff_ne.2 hn]

theorem awake09 (w : World) : Calls Try.prog 15 #[] w fun e w' => e = .returned (.bool true) ∧ Ext w w' := by
  go_enter Try.func15, Try.ntmps15
  go_wp2
  go_ret
  exact ⟨rfl, by repeat (first | exact Ext.refl _ | assumption | refine Ext.grow ?_ _)⟩

theorem DiceNext_walk (a b : Int) (wa : (Lit.int .u32 a).wf = true) (wb : (Lit.int .u32 b).wf = true) (w : World) :
    Calls Try.prog 3 #[.int .u32 a, .int .u32 b] w fun e w' => e = .returned (.bool true) ∧ Ext w w' := by
  have ha := bounds_u32 wa
  have hb := bounds_u32 wb
  have n1 := nx_bd a
  have n2 := bk_bd a
  have hi := Lib.hid (nx_inj a b ha.1 ha.2 hb.1 hb.2)
  have x1 : (bk (nx a) == a) = true := by rw [bk_nx a ha.1 ha.2]; simp
  have x2 : (nx (bk a) == a) = true := by rw [nx_bk a ha.1 ha.2]; simp
  have x3 : ((a == b) == (nx a == nx b)) = true := by rw [hi.out]; simp
  go_enter Try.func3, Try.ntmps3
  go_wp2_with (first | (go_at_call 15; refine (awake09 _).mono ?_; rintro e wx ⟨rfl, hx⟩) | (go_at_call 16; refine (next_any _ _).mono ?_; rintro e wx ⟨rfl, hx⟩) | (go_at_call 18; refine (back_any _ _).mono ?_; rintro e wx ⟨rfl, hx⟩) | (go_at_call 17; refine (rnext_any _ _ (by omega) (by omega)).mono ?_; rintro e wx ⟨rfl, hx⟩) | (go_at_call 19; refine (seed_any _ _ _).mono ?_; rintro e wx ⟨rfl, hx⟩) | (go_at_call 20; refine (rseed_any _ _ _ (by omega) (by omega) (by omega) (by omega)).mono ?_; rintro e wx ⟨rfl, hx⟩))
  go_ret
  exact ⟨rfl, by repeat (first | exact Ext.refl _ | assumption | refine Ext.trans ?_ (by assumption))⟩

end Go.Proofs.Ytnpeldipajgbjaa
