/- THE WALKS OF 'ShapeTouches' AND 'ShapeNear': their Go texts return true. Conditions: none but the arguments' kinds. Own work. -/
import Derived.Test.YteogppcalekfaaaShape4
import Derived.Deep.RegionHeld3
namespace Go.Proofs.Yteogppcalekfaaa
open Go.RowKit
set_option linter.unusedVariables false
set_option maxRecDepth 100000

theorem awake10 (w : World) : Calls Try.prog 36 #[] w fun e w' => e = .returned (.bool true) ∧ Ext w w' := by
  have k1 : (wq 589824 196608 0 655360 == 655360) = true := by decide
  have k2 : (wv 589824 196608 0 655360 == -98304) = true := by decide
  have k3 : (wk 589824 196608 0 655360 1 2 + wk 0 0 0 655360 4 8 == 2) = true := by decide
  go_enter Try.func36, Try.ntmps36
  go_wp2_with (go_at_call 71; go_in)
  refine (move_any _ _ _ _ _ _ _ _ _ (by omega) (by omega) (by omega) (by omega) (by omega) (by omega) (by omega) (by omega) (by omega) (by omega)).mono ?_
  rintro e wx ⟨rfl, hx⟩
  have hx0 : Ext w wx := Ext.trans (by (repeat' (first | (with_reducible assumption) | (with_reducible exact Ext.refl _) | (with_reducible refine Ext.grow ?_ _) | (with_reducible refine Ext.drew ?_) | (with_reducible refine Ext.set ?_ ?_ _) | omega | (simp; done) | (simp; omega) | (refine Ext.trans ?_ (by assumption))))) hx
  clear hx
  go_wp2
  go_ret
  exact ⟨rfl, by (repeat' (first | (with_reducible assumption) | (with_reducible exact Ext.refl _) | (with_reducible refine Ext.grow ?_ _) | (with_reducible refine Ext.drew ?_) | (with_reducible refine Ext.set ?_ ?_ _) | omega | (simp; done) | (simp; omega) | (refine Ext.trans ?_ (by assumption))))⟩

set_option maxHeartbeats 4000000 in
theorem ShapeTouches_core (px py qx qy r s v : Int) (w : World) (hpx : -2147483648 ≤ px ∧ px ≤ 2147483647) (hpy : -2147483648 ≤ py ∧ py ≤ 2147483647) (hqx : -2147483648 ≤ qx ∧ qx ≤ 2147483647) (hqy : -2147483648 ≤ qy ∧ qy ≤ 2147483647) (hr : -2147483648 ≤ r ∧ r ≤ 2147483647) (hs : -2147483648 ≤ s ∧ s ≤ 2147483647) (hv : -2147483648 ≤ v ∧ v ≤ 2147483647) :
    Calls Try.prog 13 #[.agg #[.int .i32 (px), .int .i32 (py)], .agg #[.int .i32 (qx), .int .i32 (qy)], .int .i32 r, .int .i32 s, .int .i32 v] w fun e w' => e = .returned (.bool true) ∧ Ext w w' := by
  go_enter Try.func13, Try.ntmps13
  go_wp2_with fail
  refine calls_abs (fun W => Ext w W ∧ w.heap.size + 2 ≤ W.heap.size ∧ W.cell? ⟨w.heap.size, 0, none⟩ = some (.int .i32 px) ∧ W.cell? ⟨w.heap.size, 1, none⟩ = some (.int .i32 py) ∧ W.cell? ⟨w.heap.size + 1, 0, none⟩ = some (.int .i32 qx) ∧ W.cell? ⟨w.heap.size + 1, 1, none⟩ = some (.int .i32 qy)) (by refine ⟨by (repeat' (first | (with_reducible assumption) | (with_reducible exact Ext.refl _) | (with_reducible refine Ext.grow ?_ _) | (with_reducible refine Ext.drew ?_) | (with_reducible refine Ext.set ?_ ?_ _) | omega | (simp; done) | (simp; omega) | (refine Ext.trans ?_ (by assumption)))), by first | (with_reducible assumption) | (simp; done) | (simp; omega), ?_, ?_, ?_, ?_⟩ <;> first | (with_reducible assumption) | (go_simp; done) | (simp; omega)) ?_
  (try clear hx0)
  (try clear hsz)
  (try clear c0)
  (try clear c1)
  (try clear c2)
  (try clear c3)
  rintro W ⟨hx0, hsz, c0, c1, c2, c3⟩
  refine (awake10 _).mono ?_
  rintro e wx ⟨rfl, hx⟩
  have hsz1 := Ext.size hx
  replace c0 := (Ext.cell hx (by dsimp only; omega)).trans c0
  replace c1 := (Ext.cell hx (by dsimp only; omega)).trans c1
  replace c2 := (Ext.cell hx (by dsimp only; omega)).trans c2
  replace c3 := (Ext.cell hx (by dsimp only; omega)).trans c3
  replace hx0 := Ext.trans hx0 hx
  replace hsz := Nat.le_trans hsz hsz1
  clear hx hsz1
  go_wp2_with fail
  go_region_held3 (fun w' => w'.cell? ⟨w.heap.size, 0, none⟩ = some (.int .i32 px) ∧ w'.cell? ⟨w.heap.size, 1, none⟩ = some (.int .i32 py) ∧ w'.cell? ⟨w.heap.size + 1, 0, none⟩ = some (.int .i32 qx) ∧ w'.cell? ⟨w.heap.size + 1, 1, none⟩ = some (.int .i32 qy) ∧ Ext w w' ∧ w.heap.size + 2 ≤ w'.heap.size)
    (((try dsimp only); (try go_split_ands); (repeat' (with_reducible apply And.intro)) <;> first | (with_reducible assumption) | ((with_reducible refine Ext.trans ?_ hx); (with_reducible assumption)) | ((with_reducible refine (Ext.cell hx ?_).trans ?_) <;> first | (with_reducible assumption) | (simp; done) | (simp; omega)) | ((with_reducible refine (Ext.frozen hx ?_).trans ?_) <;> first | (with_reducible assumption) | (simp; done) | (simp; omega)) | ((with_reducible refine Ext.held hx ?_ ?_) <;> first | (with_reducible assumption) | (simp; done) | (simp; omega)) | ((with_reducible refine Nat.le_trans ?_ (Ext.size hx)); (with_reducible assumption)) | ((with_reducible refine Nat.lt_of_lt_of_le ?_ (Ext.size hx)); (with_reducible assumption)) | ((with_reducible refine Ext.drew ?_); (repeat' (first | (with_reducible assumption) | (with_reducible exact Ext.refl _) | (with_reducible refine Ext.grow ?_ _) | (with_reducible refine Ext.drew ?_) | (with_reducible refine Ext.set ?_ ?_ _) | omega | (simp; done) | (simp; omega) | (refine Ext.trans ?_ (by assumption)))); done) | ((repeat' (with_reducible refine Ext.set ?_ ?_ _)) <;> first | (with_reducible assumption) | omega | (simp; done) | (simp; omega)) | ((with_reducible refine Ext.grow ?_ _); (repeat' (first | (with_reducible assumption) | (with_reducible exact Ext.refl _) | (with_reducible refine Ext.grow ?_ _) | (with_reducible refine Ext.drew ?_) | (with_reducible refine Ext.set ?_ ?_ _) | omega | (simp; done) | (simp; omega) | (refine Ext.trans ?_ (by assumption)))); done) | ((with_reducible refine heldAt_some ?_); (go_simp; done)) | (go_simp; done) | (simp; omega)))
    (first
      | (go_at_call 42; refine (touch_any _ _ _ _ _ _ _ (by omega) (by omega) (by omega) (by omega) (by omega) (by omega)).mono ?_; rintro e wx ⟨rfl, hx⟩)
      | (go_at_call 51; refine (rtouch_any _ _ _ _ _ _ _ (by omega) (by omega) (by omega) (by omega) (by omega) (by omega)).mono ?_; rintro e wx ⟨rfl, hx⟩)
      | (go_at_call 52; refine (push_any _ _ _ _ _ _ (by omega) (by omega) (by omega) (by omega) (by omega)).mono ?_; rintro e wx ⟨rfl, hx⟩)
      | (go_at_call 53; refine (rpush_any _ _ _ _ _ _ (by omega) (by omega) (by omega) (by omega) (by omega)).mono ?_; rintro e wx ⟨rfl, hx⟩)
      | (go_at_call 54; refine (slow_any _ _ _ _ _ (by omega) (by omega) (by omega) (by omega)).mono ?_; rintro e wx ⟨rfl, hx⟩)
      | (go_at_call 55; refine (rslow_any _ _ _ _ _ (by omega) (by omega) (by omega) (by omega)).mono ?_; rintro e wx ⟨rfl, hx⟩))
  rename_i hh
  have hx9 := hh.2.2.2.2.1
  clear hh
  go_wp2
  go_ret
  exact ⟨rfl, hx9⟩

theorem ShapeTouches_walk (px py qx qy r s v : Int) (w1 : (Lit.int .i32 px).wf = true) (w2 : (Lit.int .i32 py).wf = true) (w3 : (Lit.int .i32 qx).wf = true) (w4 : (Lit.int .i32 qy).wf = true) (w5 : (Lit.int .i32 r).wf = true) (w6 : (Lit.int .i32 s).wf = true) (w7 : (Lit.int .i32 v).wf = true) (w : World) :
    Calls Try.prog 13 #[.agg #[.int .i32 (px), .int .i32 (py)], .agg #[.int .i32 (qx), .int .i32 (qy)], .int .i32 r, .int .i32 s, .int .i32 v] w fun e w' => e = .returned (.bool true) ∧ Ext w w' :=
  ShapeTouches_core px py qx qy r s v w (bounds_i32 w1) (bounds_i32 w2) (bounds_i32 w3) (bounds_i32 w4) (bounds_i32 w5) (bounds_i32 w6) (bounds_i32 w7)

end Go.Proofs.Yteogppcalekfaaa
