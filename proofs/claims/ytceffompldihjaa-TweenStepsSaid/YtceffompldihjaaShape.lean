/- WHAT THE FUNCTIONS OF PACKAGE shape AND OF ITS REFERENCE COMPUTE. Conditions: arguments within their kinds. Own work. -/
import Derived.Test.YtceffompldihjaaTrig2
import Derived.Test.YtceffompldihjaaStill
namespace Go.Proofs.Ytceffompldihjaa
open Go.RowKit
set_option linter.unusedVariables false
set_option maxRecDepth 100000

theorem eachAdd_any (a b c d : Int) (w : World) (ha : -2147483648 ≤ a ∧ a ≤ 2147483647) (hb : -2147483648 ≤ b ∧ b ≤ 2147483647) (hc : -2147483648 ≤ c ∧ c ≤ 2147483647) (hd : -2147483648 ≤ d ∧ d ≤ 2147483647) :
    Calls Try.prog 57 #[.agg #[.int .i32 a, .int .i32 b], .agg #[.int .i32 c, .int .i32 d], .func (.func 45) #[] #[]] w fun e w' => e = .returned (.agg #[.int .i32 (sat (a + c)), .int .i32 (sat (b + d))]) ∧ Ext w w' := by
  go_enter Try.func57, Try.ntmps57
  go_wp2_with fail
  refine wp_still_tail 13 (by kernel_rfl) (by kernel_rfl) ?_
  simp only [List.take_succ_cons, List.take_zero, List.drop_succ_cons, List.drop_zero]
  repeat (first | (refine wpStill_step (fun K hK => ?_); go_simp; (with_reducible refine ⟨_, calls_flip (add_any _ _ _ (by omega) (by omega)), hK _ ?_⟩); clear hK K) | still_step)
  refine wpStill_nil ?_
  go_wp2
  refine bodyPost_ret (v := .agg #[.int .i32 (sat (a + c)), .int .i32 (sat (b + d))]) (by simp [results, Try.results57, go_sem]) rfl ⟨rfl, ?_⟩
  (repeat' (first | (with_reducible assumption) | (with_reducible exact Ext.refl _) | (with_reducible refine Ext.grow ?_ _) | (with_reducible refine Ext.drew ?_) | (with_reducible refine Ext.set ?_ ?_ _) | omega | (simp; done) | (simp; omega) | (refine Ext.trans ?_ (by assumption))))

theorem eachSub_any (a b c d : Int) (w : World) (ha : -2147483648 ≤ a ∧ a ≤ 2147483647) (hb : -2147483648 ≤ b ∧ b ≤ 2147483647) (hc : -2147483648 ≤ c ∧ c ≤ 2147483647) (hd : -2147483648 ≤ d ∧ d ≤ 2147483647) :
    Calls Try.prog 57 #[.agg #[.int .i32 a, .int .i32 b], .agg #[.int .i32 c, .int .i32 d], .func (.func 58) #[] #[]] w fun e w' => e = .returned (.agg #[.int .i32 (sat (a - c)), .int .i32 (sat (b - d))]) ∧ Ext w w' := by
  go_enter Try.func57, Try.ntmps57
  go_wp2_with fail
  refine wp_still_tail 13 (by kernel_rfl) (by kernel_rfl) ?_
  simp only [List.take_succ_cons, List.take_zero, List.drop_succ_cons, List.drop_zero]
  repeat (first | (refine wpStill_step (fun K hK => ?_); go_simp; (with_reducible refine ⟨_, calls_flip (sub_any _ _ _ (by omega) (by omega)), hK _ ?_⟩); clear hK K) | still_step)
  refine wpStill_nil ?_
  go_wp2
  refine bodyPost_ret (v := .agg #[.int .i32 (sat (a - c)), .int .i32 (sat (b - d))]) (by simp [results, Try.results57, go_sem]) rfl ⟨rfl, ?_⟩
  (repeat' (first | (with_reducible assumption) | (with_reducible exact Ext.refl _) | (with_reducible refine Ext.grow ?_ _) | (with_reducible refine Ext.drew ?_) | (with_reducible refine Ext.set ?_ ?_ _) | omega | (simp; done) | (simp; omega) | (refine Ext.trans ?_ (by assumption))))

theorem vSub_any (a b c d : Int) (w : World) (ha : -2147483648 ≤ a ∧ a ≤ 2147483647) (hb : -2147483648 ≤ b ∧ b ≤ 2147483647) (hc : -2147483648 ≤ c ∧ c ≤ 2147483647) (hd : -2147483648 ≤ d ∧ d ≤ 2147483647) :
    Calls Try.prog 43 #[.agg #[.int .i32 a, .int .i32 b], .agg #[.int .i32 c, .int .i32 d]] w fun e w' => e = .returned (.agg #[.int .i32 (sat (a - c)), .int .i32 (sat (b - d))]) ∧ Ext w w' := by
  go_enter Try.func43, Try.ntmps43
  go_wp2_with fail
  refine (eachSub_any _ _ _ _ _ (by omega) (by omega) (by omega) (by omega)).mono ?_
  rintro e wx ⟨rfl, hx⟩
  have c0 := Ext.cell hx (p := ⟨w.heap.size + 1 + 1, 0, none⟩) (by simp)
  have c1 := Ext.cell hx (p := ⟨w.heap.size + 1 + 1, 1, none⟩) (by simp)
  have f0 := Ext.frozen hx (p := ⟨w.heap.size + 1 + 1, 0, none⟩) (by simp)
  have f1 := Ext.frozen hx (p := ⟨w.heap.size + 1 + 1, 1, none⟩) (by simp)
  have hsz := Ext.size hx
  simp at c0 c1 f0 f1 hsz
  have hxx : Ext w wx := Ext.trans (by (repeat' (first | (with_reducible assumption) | (with_reducible exact Ext.refl _) | (with_reducible refine Ext.grow ?_ _) | (with_reducible refine Ext.drew ?_) | (with_reducible refine Ext.set ?_ ?_ _) | omega | (simp; done) | (simp; omega) | (refine Ext.trans ?_ (by assumption))))) hx
  clear hx
  go_wp2
  refine bodyPost_ret (v := .agg #[.int .i32 (sat (a - c)), .int .i32 (sat (b - d))]) (by simp [results, Try.results43, go_sem, c0, c1]) rfl ⟨rfl, ?_⟩
  (repeat' (first | (with_reducible assumption) | (with_reducible exact Ext.refl _) | (with_reducible refine Ext.grow ?_ _) | (with_reducible refine Ext.drew ?_) | (with_reducible refine Ext.set ?_ ?_ _) | omega | (simp; done) | (simp; omega) | (refine Ext.trans ?_ (by assumption))))

end Go.Proofs.Ytceffompldihjaa
