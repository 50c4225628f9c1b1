/- WHAT shape.Touch, Push, Slow AND THEIR REFERENCES COMPUTE. Conditions: arguments within their kinds. Own work. -/
import Derived.Test.YtceffompldihjaaShape2
namespace Go.Proofs.Ytceffompldihjaa
open Go.RowKit
set_option linter.unusedVariables false
set_option maxRecDepth 100000

/-- do circles touch? -/
def touchB (px py r qx qy s : Int) : Bool := nearB (sat (qx - px)) (sat (qy - py)) (sat (r + s))

theorem touch_any (px py r qx qy s : Int) (w : World) (hpx : -2147483648 ≤ px ∧ px ≤ 2147483647) (hpy : -2147483648 ≤ py ∧ py ≤ 2147483647) (hr : -2147483648 ≤ r ∧ r ≤ 2147483647) (hqx : -2147483648 ≤ qx ∧ qx ≤ 2147483647) (hqy : -2147483648 ≤ qy ∧ qy ≤ 2147483647) (hs : -2147483648 ≤ s ∧ s ≤ 2147483647) :
    Calls Try.prog 26 #[.agg #[.int .i32 (px), .int .i32 (py)], .int .i32 r, .agg #[.int .i32 (qx), .int .i32 (qy)], .int .i32 s] w fun e w' => e = .returned (.bool (touchB px py r qx qy s)) ∧ Ext w w' := by
  have b1 := sat_bd (qx - px)
  have b2 := sat_bd (qy - py)
  have b3 := sat_bd (r + s)
  go_enter Try.func26, Try.ntmps26
  go_wp2_with fail
  refine (vSub_any _ _ _ _ _ (by omega) (by omega) (by omega) (by omega)).mono ?_
  rintro e wx ⟨rfl, hx⟩
  have hx0 : Ext w wx := Ext.trans (by (repeat' (first | (with_reducible assumption) | (with_reducible exact Ext.refl _) | (with_reducible refine Ext.grow ?_ _) | (with_reducible refine Ext.drew ?_) | (with_reducible refine Ext.set ?_ ?_ _) | omega | (simp; done) | (simp; omega) | (refine Ext.trans ?_ (by assumption))))) hx
  clear hx
  go_wp2_with fail
  refine wp_still_tail 8 (by kernel_rfl) (by kernel_rfl) ?_
  simp only [List.take_succ_cons, List.take_zero, List.drop_succ_cons, List.drop_zero]
  repeat (first | (refine wpStill_step (fun K hK => ?_); go_simp; (with_reducible refine ⟨_, calls_flip (add_any _ _ _ (by omega) (by omega)), hK _ ?_⟩); clear hK K) | (refine wpStill_step (fun K hK => ?_); go_simp; (with_reducible refine ⟨_, calls_flip (near_any _ _ _ _ (by omega) (by omega) (by omega)), hK _ ?_⟩); clear hK K) | still_step)
  refine wpStill_nil ?_
  go_wp2
  go_ret
  exact ⟨rfl, by (repeat' (first | (with_reducible assumption) | (with_reducible exact Ext.refl _) | (with_reducible refine Ext.grow ?_ _) | (with_reducible refine Ext.drew ?_) | (with_reducible refine Ext.set ?_ ?_ _) | omega | (simp; done) | (simp; omega) | (refine Ext.trans ?_ (by assumption))))⟩

theorem rtouch_any (px py r qx qy s : Int) (w : World) (hpx : -2147483648 ≤ px ∧ px ≤ 2147483647) (hpy : -2147483648 ≤ py ∧ py ≤ 2147483647) (hr : -2147483648 ≤ r ∧ r ≤ 2147483647) (hqx : -2147483648 ≤ qx ∧ qx ≤ 2147483647) (hqy : -2147483648 ≤ qy ∧ qy ≤ 2147483647) (hs : -2147483648 ≤ s ∧ s ≤ 2147483647) :
    Calls Try.prog 20 #[.agg #[.int .i32 (px), .int .i32 (py)], .int .i32 r, .agg #[.int .i32 (qx), .int .i32 (qy)], .int .i32 s] w fun e w' => e = .returned (.bool (touchB px py r qx qy s)) ∧ Ext w w' := by
  have b1 := sat_bd (qx - px)
  have b2 := sat_bd (qy - py)
  have b3 := sat_bd (r + s)
  have q1 := sq_bd _ b1
  have q2 := sq_bd _ b2
  have q3 := sq_bd _ b3
  have t : touchB px py r qx qy s = (decide (0 ≤ sat (r + s)) && decide (sat (qx - px) * sat (qx - px) + sat (qy - py) * sat (qy - py) ≤ sat (r + s) * sat (r + s))) := rfl
  by_cases c : 0 ≤ sat (r + s)
  · have t2 : touchB px py r qx qy s = decide (sat (qx - px) * sat (qx - px) + sat (qy - py) * sat (qy - py) ≤ sat (r + s) * sat (r + s)) := by rw [t, decide_eq_true c]; rfl
    rw [t2]
    clear t t2
    go_enter Try.func20, Try.ntmps20
    go_wp2_with fail
    refine (rless_any _ _ _ _ _ (by omega) (by omega) (by omega) (by omega)).mono ?_
    rintro e wx ⟨rfl, hx⟩
    have hx0 : Ext w wx := Ext.trans (by (repeat' (first | (with_reducible assumption) | (with_reducible exact Ext.refl _) | (with_reducible refine Ext.grow ?_ _) | (with_reducible refine Ext.drew ?_) | (with_reducible refine Ext.set ?_ ?_ _) | omega | (simp; done) | (simp; omega) | (refine Ext.trans ?_ (by assumption))))) hx
    clear hx
    go_wp2_with (first | (go_at_call 37; refine (radd_any _ _ _ (by omega) (by omega)).mono ?_; rintro e wx ⟨rfl, rfl⟩) | (go_at_call 38; refine (rsquares_any _ _ _ (by omega) (by omega)).mono ?_; rintro e wx ⟨rfl, rfl⟩))
    go_ret
    exact ⟨rfl, by (repeat' (first | (with_reducible assumption) | (with_reducible exact Ext.refl _) | (with_reducible refine Ext.grow ?_ _) | (with_reducible refine Ext.drew ?_) | (with_reducible refine Ext.set ?_ ?_ _) | omega | (simp; done) | (simp; omega) | (refine Ext.trans ?_ (by assumption))))⟩
  · have t2 : touchB px py r qx qy s = false := by rw [t, decide_eq_false c]; rfl
    rw [t2]
    clear t t2
    go_enter Try.func20, Try.ntmps20
    go_wp2_with fail
    refine (rless_any _ _ _ _ _ (by omega) (by omega) (by omega) (by omega)).mono ?_
    rintro e wx ⟨rfl, hx⟩
    have hx0 : Ext w wx := Ext.trans (by (repeat' (first | (with_reducible assumption) | (with_reducible exact Ext.refl _) | (with_reducible refine Ext.grow ?_ _) | (with_reducible refine Ext.drew ?_) | (with_reducible refine Ext.set ?_ ?_ _) | omega | (simp; done) | (simp; omega) | (refine Ext.trans ?_ (by assumption))))) hx
    clear hx
    go_wp2_with (first | (go_at_call 37; refine (radd_any _ _ _ (by omega) (by omega)).mono ?_; rintro e wx ⟨rfl, rfl⟩) | (go_at_call 38; refine (rsquares_any _ _ _ (by omega) (by omega)).mono ?_; rintro e wx ⟨rfl, rfl⟩))
    go_ret
    exact ⟨rfl, by (repeat' (first | (with_reducible assumption) | (with_reducible exact Ext.refl _) | (with_reducible refine Ext.grow ?_ _) | (with_reducible refine Ext.drew ?_) | (with_reducible refine Ext.set ?_ ?_ _) | omega | (simp; done) | (simp; omega) | (refine Ext.trans ?_ (by assumption))))⟩

/-- less, and not too much: one number of it -/
def slowF (x y a k m : Int) : Int := if m < lenF (mulF x k) (mulF y k) then towF (mulF x k) (mulF y k) (mulF a k) m else mulF a k
theorem slowF_yes (x y a k m : Int) (h : m < lenF (mulF x k) (mulF y k)) : slowF x y a k m = towF (mulF x k) (mulF y k) (mulF a k) m := if_pos h
theorem slowF_no (x y a k m : Int) (h : ¬ m < lenF (mulF x k) (mulF y k)) : slowF x y a k m = mulF a k := if_neg h

theorem rslow_any (x y k m : Int) (w : World) (hx : -2147483648 ≤ x ∧ x ≤ 2147483647) (hy : -2147483648 ≤ y ∧ y ≤ 2147483647) (hk : -2147483648 ≤ k ∧ k ≤ 2147483647) (hm : -2147483648 ≤ m ∧ m ≤ 2147483647) :
    Calls Try.prog 34 #[.agg #[.int .i32 (x), .int .i32 (y)], .int .i32 k, .int .i32 m] w fun e w' => e = .returned (.agg #[.int .i32 (slowF x y x k m), .int .i32 (slowF x y y k m)]) ∧ Ext w w' := by
  have b1 := mulF_bd x k
  have b2 := mulF_bd y k
  by_cases c : m < lenF (mulF x k) (mulF y k)
  · rw [slowF_yes _ _ _ _ _ c, slowF_yes _ _ _ _ _ c]
    go_enter Try.func34, Try.ntmps34
    go_wp2_with fail
    refine calls_abs (fun W => Ext w W ∧ w.heap.size + 2 ≤ W.heap.size ∧ W.cell? ⟨w.heap.size + 1, 0, none⟩ = some (.int .i32 0) ∧ W.cell? ⟨w.heap.size + 1, 1, none⟩ = some (.int .i32 0) ∧ W.frozen? ⟨w.heap.size + 1, 0, none⟩ = false ∧ W.frozen? ⟨w.heap.size + 1, 1, none⟩ = false) (by refine ⟨by (repeat' (first | (with_reducible assumption) | (with_reducible exact Ext.refl _) | (with_reducible refine Ext.grow ?_ _) | (with_reducible refine Ext.drew ?_) | (with_reducible refine Ext.set ?_ ?_ _) | omega | (simp; done) | (simp; omega) | (refine Ext.trans ?_ (by assumption)))), by first | (with_reducible assumption) | (simp; done) | (simp; omega), ?_, ?_, ?_, ?_⟩ <;> first | (with_reducible assumption) | (go_simp; done) | (simp; omega)) ?_
    (try clear hx0)
    (try clear hsz)
    (try clear c0)
    (try clear c1)
    (try clear f0)
    (try clear f1)
    rintro W ⟨hx0, hsz, c0, c1, f0, f1⟩
    refine (rscaleV_any _ _ _ _ (by omega) (by omega) (by omega)).mono ?_
    rintro e wx ⟨rfl, hx⟩
    have hsz1 := Ext.size hx
    replace c0 := (Ext.cell hx (by dsimp only; omega)).trans c0
    replace c1 := (Ext.cell hx (by dsimp only; omega)).trans c1
    replace f0 := (Ext.frozen hx (by dsimp only; omega)).trans f0
    replace f1 := (Ext.frozen hx (by dsimp only; omega)).trans f1
    replace hx0 := Ext.trans hx0 hx
    replace hsz := Nat.le_trans hsz hsz1
    clear hx hsz1
    have hl0 : w.heap.size + 1 < wx.heap.size := by omega
    go_wp2_with (first | (go_at_call 49; refine (rlength_any _ _ _ (by omega) (by omega)).mono ?_; rintro e wx ⟨rfl, rfl⟩) | (go_at_call 50; refine (rtoward_any _ _ _ _ (by omega) (by omega) (by omega)).mono ?_; rintro e wx ⟨rfl, rfl⟩))
    refine bodyPost_ret (v := .agg #[.int .i32 (towF (mulF x k) (mulF y k) (mulF x k) m), .int .i32 (towF (mulF x k) (mulF y k) (mulF y k) m)]) (by simp [results, Try.results34, go_sem, c0, c1, hl0]) rfl ⟨rfl, ?_⟩
    (repeat' (first | (with_reducible assumption) | (with_reducible exact Ext.refl _) | (with_reducible refine Ext.grow ?_ _) | (with_reducible refine Ext.drew ?_) | (with_reducible refine Ext.set ?_ ?_ _) | omega | (simp; done) | (simp; omega) | (refine Ext.trans ?_ (by assumption))))
  · rw [slowF_no _ _ _ _ _ c, slowF_no _ _ _ _ _ c]
    go_enter Try.func34, Try.ntmps34
    go_wp2_with fail
    refine calls_abs (fun W => Ext w W ∧ w.heap.size + 2 ≤ W.heap.size ∧ W.cell? ⟨w.heap.size + 1, 0, none⟩ = some (.int .i32 0) ∧ W.cell? ⟨w.heap.size + 1, 1, none⟩ = some (.int .i32 0) ∧ W.frozen? ⟨w.heap.size + 1, 0, none⟩ = false ∧ W.frozen? ⟨w.heap.size + 1, 1, none⟩ = false) (by refine ⟨by (repeat' (first | (with_reducible assumption) | (with_reducible exact Ext.refl _) | (with_reducible refine Ext.grow ?_ _) | (with_reducible refine Ext.drew ?_) | (with_reducible refine Ext.set ?_ ?_ _) | omega | (simp; done) | (simp; omega) | (refine Ext.trans ?_ (by assumption)))), by first | (with_reducible assumption) | (simp; done) | (simp; omega), ?_, ?_, ?_, ?_⟩ <;> first | (with_reducible assumption) | (go_simp; done) | (simp; omega)) ?_
    (try clear hx0)
    (try clear hsz)
    (try clear c0)
    (try clear c1)
    (try clear f0)
    (try clear f1)
    rintro W ⟨hx0, hsz, c0, c1, f0, f1⟩
    refine (rscaleV_any _ _ _ _ (by omega) (by omega) (by omega)).mono ?_
    rintro e wx ⟨rfl, hx⟩
    have hsz1 := Ext.size hx
    replace c0 := (Ext.cell hx (by dsimp only; omega)).trans c0
    replace c1 := (Ext.cell hx (by dsimp only; omega)).trans c1
    replace f0 := (Ext.frozen hx (by dsimp only; omega)).trans f0
    replace f1 := (Ext.frozen hx (by dsimp only; omega)).trans f1
    replace hx0 := Ext.trans hx0 hx
    replace hsz := Nat.le_trans hsz hsz1
    clear hx hsz1
    have hl0 : w.heap.size + 1 < wx.heap.size := by omega
    go_wp2_with (first | (go_at_call 49; refine (rlength_any _ _ _ (by omega) (by omega)).mono ?_; rintro e wx ⟨rfl, rfl⟩) | (go_at_call 50; refine (rtoward_any _ _ _ _ (by omega) (by omega) (by omega)).mono ?_; rintro e wx ⟨rfl, rfl⟩))
    refine bodyPost_ret (v := .agg #[.int .i32 (mulF x k), .int .i32 (mulF y k)]) (by simp [results, Try.results34, go_sem, c0, c1, hl0]) rfl ⟨rfl, ?_⟩
    (repeat' (first | (with_reducible assumption) | (with_reducible exact Ext.refl _) | (with_reducible refine Ext.grow ?_ _) | (with_reducible refine Ext.drew ?_) | (with_reducible refine Ext.set ?_ ?_ _) | omega | (simp; done) | (simp; omega) | (refine Ext.trans ?_ (by assumption))))

end Go.Proofs.Ytceffompldihjaa
