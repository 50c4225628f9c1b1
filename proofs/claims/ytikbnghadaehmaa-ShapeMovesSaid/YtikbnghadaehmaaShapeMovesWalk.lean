/- THE WALK OF 'ShapeMoves': its Go text returns true. Conditions: none but the arguments' kinds. Own work. -/
import Derived.Test.YtikbnghadaehmaaShapeLaw1
import Derived.Test.YtikbnghadaehmaaShape5
namespace Go.Proofs.Ytikbnghadaehmaa
open Go.RowKit
set_option linter.unusedVariables false
set_option linter.unusedSimpArgs false
set_option maxRecDepth 100000

theorem wv_bd (p v l h : Int) (hv : -2147483648 ≤ v ∧ v ≤ 2147483647) : -2147483648 ≤ wv p v l h ∧ wv p v l h ≤ 2147483647 := by
  have := backF_bd v; unfold wv; repeat' split
  all_goals omega

set_option maxHeartbeats 4000000 in
theorem ShapeMoves_good (px py vx vy lx ly ux uy : Int) (w : World) (hpx : -2147483648 ≤ px ∧ px ≤ 2147483647) (hpy : -2147483648 ≤ py ∧ py ≤ 2147483647) (hvx : -2147483648 ≤ vx ∧ vx ≤ 2147483647) (hvy : -2147483648 ≤ vy ∧ vy ≤ 2147483647) (hlx : -2147483648 ≤ lx ∧ lx ≤ 2147483647) (hly : -2147483648 ≤ ly ∧ ly ≤ 2147483647) (hux : -2147483648 ≤ ux ∧ ux ≤ 2147483647) (huy : -2147483648 ≤ uy ∧ uy ≤ 2147483647) (g1 : lx ≤ ux) (g2 : ly ≤ uy) :
    Calls Try.prog 4 #[.agg #[.int .i32 (px), .int .i32 (py)], .agg #[.int .i32 (vx), .int .i32 (vy)], .agg #[.int .i32 lx, .int .i32 ly, .int .i32 ux, .int .i32 uy]] w fun e w' => e = .returned (.bool true) ∧ Ext w w' := by
  have i1 := Lib.hid (decide_eq_true (show lx ≤ wq px vx lx ux ∧ wq px vx lx ux ≤ ux ∧ ly ≤ wq py vy ly uy ∧ wq py vy ly uy ≤ uy from ⟨(wq_in px vx lx ux g1).1, (wq_in px vx lx ux g1).2, (wq_in py vy ly uy g2).1, (wq_in py vy ly uy g2).2⟩))
  have i2 := Lib.hid (show (decide (lx ≤ ux) && decide (ly ≤ uy)) = true by rw [decide_eq_true g1, decide_eq_true g2]; rfl)
  go_enter Try.func4, Try.ntmps4
  go_wp2_with fail
  refine calls_abs (fun W => Ext w W ∧ w.heap.size + 3 ≤ W.heap.size ∧ W.cell? ⟨w.heap.size, 0, none⟩ = some (.int .i32 px) ∧ W.cell? ⟨w.heap.size, 1, none⟩ = some (.int .i32 py) ∧ W.cell? ⟨w.heap.size + 1, 0, none⟩ = some (.int .i32 vx) ∧ W.cell? ⟨w.heap.size + 1, 1, none⟩ = some (.int .i32 vy) ∧ W.cell? ⟨w.heap.size + 1 + 1, 0, none⟩ = some (.int .i32 lx) ∧ W.cell? ⟨w.heap.size + 1 + 1, 1, none⟩ = some (.int .i32 ly) ∧ W.cell? ⟨w.heap.size + 1 + 1, 2, none⟩ = some (.int .i32 ux) ∧ W.cell? ⟨w.heap.size + 1 + 1, 3, none⟩ = some (.int .i32 uy)) (by refine ⟨by (repeat' (first | (with_reducible assumption) | (with_reducible exact Ext.refl _) | (with_reducible refine Ext.grow ?_ _) | (with_reducible refine Ext.drew ?_) | (with_reducible refine Ext.set ?_ ?_ _) | omega | (simp; done) | (simp; omega) | (refine Ext.trans ?_ (by assumption)))), by first | (with_reducible assumption) | (simp; done) | (simp; omega), ?_, ?_, ?_, ?_, ?_, ?_, ?_, ?_⟩ <;> first | (with_reducible assumption) | (go_simp; done) | (simp; omega)) ?_
  (try clear hx0)
  (try clear hsz)
  (try clear c0)
  (try clear c1)
  (try clear c2)
  (try clear c3)
  (try clear c4)
  (try clear c5)
  (try clear c6)
  (try clear c7)
  rintro W ⟨hx0, hsz, c0, c1, c2, c3, c4, c5, c6, c7⟩
  refine (awake10 _).mono ?_
  rintro e wx ⟨rfl, hx⟩
  have hsz1 := Ext.size hx
  replace c0 := (Ext.cell hx (by dsimp only; omega)).trans c0
  replace c1 := (Ext.cell hx (by dsimp only; omega)).trans c1
  replace c2 := (Ext.cell hx (by dsimp only; omega)).trans c2
  replace c3 := (Ext.cell hx (by dsimp only; omega)).trans c3
  replace c4 := (Ext.cell hx (by dsimp only; omega)).trans c4
  replace c5 := (Ext.cell hx (by dsimp only; omega)).trans c5
  replace c6 := (Ext.cell hx (by dsimp only; omega)).trans c6
  replace c7 := (Ext.cell hx (by dsimp only; omega)).trans c7
  replace hx0 := Ext.trans hx0 hx
  replace hsz := Nat.le_trans hsz hsz1
  clear hx hsz1
  have hl0 : w.heap.size < wx.heap.size := by omega
  have hl1 : w.heap.size + 1 < wx.heap.size := by omega
  have hl2 : w.heap.size + 1 + 1 < wx.heap.size := by omega
  go_wp2_with fail
  refine (move_any _ _ _ _ _ _ _ _ _ (by omega) (by omega) (by omega) (by omega) (by omega) (by omega) (by omega) (by omega) (by omega) (by omega)).mono ?_
  rintro e wx ⟨rfl, hx⟩
  have hsz1 := Ext.size hx
  replace c0 := (Ext.cell hx (by dsimp only; omega)).trans c0
  replace c1 := (Ext.cell hx (by dsimp only; omega)).trans c1
  replace c2 := (Ext.cell hx (by dsimp only; omega)).trans c2
  replace c3 := (Ext.cell hx (by dsimp only; omega)).trans c3
  replace c4 := (Ext.cell hx (by dsimp only; omega)).trans c4
  replace c5 := (Ext.cell hx (by dsimp only; omega)).trans c5
  replace c6 := (Ext.cell hx (by dsimp only; omega)).trans c6
  replace c7 := (Ext.cell hx (by dsimp only; omega)).trans c7
  replace hx0 := Ext.trans hx0 hx
  replace hsz := Nat.le_trans hsz hsz1
  clear hx hsz1
  have hl0 : w.heap.size < wx.heap.size := by omega
  have hl1 : w.heap.size + 1 < wx.heap.size := by omega
  have hl2 : w.heap.size + 1 + 1 < wx.heap.size := by omega
  go_wp2_with fail
  refine calls_abs (fun W => Ext w W ∧ w.heap.size + 3 ≤ W.heap.size ∧ W.cell? ⟨w.heap.size, 0, none⟩ = some (.int .i32 px) ∧ W.cell? ⟨w.heap.size, 1, none⟩ = some (.int .i32 py) ∧ W.cell? ⟨w.heap.size + 1, 0, none⟩ = some (.int .i32 vx) ∧ W.cell? ⟨w.heap.size + 1, 1, none⟩ = some (.int .i32 vy) ∧ W.cell? ⟨w.heap.size + 1 + 1, 0, none⟩ = some (.int .i32 lx) ∧ W.cell? ⟨w.heap.size + 1 + 1, 1, none⟩ = some (.int .i32 ly) ∧ W.cell? ⟨w.heap.size + 1 + 1, 2, none⟩ = some (.int .i32 ux) ∧ W.cell? ⟨w.heap.size + 1 + 1, 3, none⟩ = some (.int .i32 uy) ∧ W.cell? ⟨wx.heap.size, 0, none⟩ = some (.int .i32 (wq px vx lx ux)) ∧ W.cell? ⟨wx.heap.size, 1, none⟩ = some (.int .i32 (wq py vy ly uy)) ∧ W.cell? ⟨wx.heap.size + 1, 0, none⟩ = some (.int .i32 (wv px vx lx ux)) ∧ W.cell? ⟨wx.heap.size + 1, 1, none⟩ = some (.int .i32 (wv py vy ly uy)) ∧ wx.heap.size + 2 ≤ W.heap.size) (by refine ⟨by (repeat' (first | (with_reducible assumption) | (with_reducible exact Ext.refl _) | (with_reducible refine Ext.grow ?_ _) | (with_reducible refine Ext.drew ?_) | (with_reducible refine Ext.set ?_ ?_ _) | omega | (simp; done) | (simp; omega) | (refine Ext.trans ?_ (by assumption)))), by first | (with_reducible assumption) | (simp; done) | (simp; omega), ?_, ?_, ?_, ?_, ?_, ?_, ?_, ?_, ?_, ?_, ?_, ?_, ?_⟩ <;> first | (with_reducible assumption) | (go_simp; done) | (simp; omega)) ?_
  (try clear hx0)
  (try clear hsz)
  (try clear c0)
  (try clear c1)
  (try clear c2)
  (try clear c3)
  (try clear c4)
  (try clear c5)
  (try clear c6)
  (try clear c7)
  (try clear d0)
  (try clear d1)
  (try clear d2)
  (try clear d3)
  (try clear s0)
  rintro W ⟨hx0, hsz, c0, c1, c2, c3, c4, c5, c6, c7, d0, d1, d2, d3, s0⟩
  generalize wx.heap.size = bm at *
  refine (rright_any _ _ _ _ _).mono ?_
  rintro e wx ⟨rfl, hx⟩
  have hsz1 := Ext.size hx
  replace c0 := (Ext.cell hx (by dsimp only; omega)).trans c0
  replace c1 := (Ext.cell hx (by dsimp only; omega)).trans c1
  replace c2 := (Ext.cell hx (by dsimp only; omega)).trans c2
  replace c3 := (Ext.cell hx (by dsimp only; omega)).trans c3
  replace c4 := (Ext.cell hx (by dsimp only; omega)).trans c4
  replace c5 := (Ext.cell hx (by dsimp only; omega)).trans c5
  replace c6 := (Ext.cell hx (by dsimp only; omega)).trans c6
  replace c7 := (Ext.cell hx (by dsimp only; omega)).trans c7
  replace d0 := (Ext.cell hx (by dsimp only; omega)).trans d0
  replace d1 := (Ext.cell hx (by dsimp only; omega)).trans d1
  replace d2 := (Ext.cell hx (by dsimp only; omega)).trans d2
  replace d3 := (Ext.cell hx (by dsimp only; omega)).trans d3
  replace hx0 := Ext.trans hx0 hx
  replace hsz := Nat.le_trans hsz hsz1
  replace s0 := Nat.le_trans s0 hsz1
  clear hx hsz1
  have hl0 : w.heap.size < wx.heap.size := by omega
  have hl1 : w.heap.size + 1 < wx.heap.size := by omega
  have hl2 : w.heap.size + 1 + 1 < wx.heap.size := by omega
  have hl3 : bm < wx.heap.size := by omega
  have hl4 : bm + 1 < wx.heap.size := by omega
  rw [i2.out]
  go_wp2_with fail
  refine calls_abs (fun W => Ext w W ∧ w.heap.size + 3 ≤ W.heap.size ∧ W.cell? ⟨w.heap.size, 0, none⟩ = some (.int .i32 px) ∧ W.cell? ⟨w.heap.size, 1, none⟩ = some (.int .i32 py) ∧ W.cell? ⟨w.heap.size + 1, 0, none⟩ = some (.int .i32 vx) ∧ W.cell? ⟨w.heap.size + 1, 1, none⟩ = some (.int .i32 vy) ∧ W.cell? ⟨w.heap.size + 1 + 1, 0, none⟩ = some (.int .i32 lx) ∧ W.cell? ⟨w.heap.size + 1 + 1, 1, none⟩ = some (.int .i32 ly) ∧ W.cell? ⟨w.heap.size + 1 + 1, 2, none⟩ = some (.int .i32 ux) ∧ W.cell? ⟨w.heap.size + 1 + 1, 3, none⟩ = some (.int .i32 uy) ∧ W.cell? ⟨bm, 0, none⟩ = some (.int .i32 (wq px vx lx ux)) ∧ W.cell? ⟨bm, 1, none⟩ = some (.int .i32 (wq py vy ly uy)) ∧ W.cell? ⟨bm + 1, 0, none⟩ = some (.int .i32 (wv px vx lx ux)) ∧ W.cell? ⟨bm + 1, 1, none⟩ = some (.int .i32 (wv py vy ly uy)) ∧ bm + 2 ≤ W.heap.size) (by refine ⟨by (repeat' (first | (with_reducible assumption) | (with_reducible exact Ext.refl _) | (with_reducible refine Ext.grow ?_ _) | (with_reducible refine Ext.drew ?_) | (with_reducible refine Ext.set ?_ ?_ _) | omega | (simp; done) | (simp; omega) | (refine Ext.trans ?_ (by assumption)))), by first | (with_reducible assumption) | (simp; done) | (simp; omega), ?_, ?_, ?_, ?_, ?_, ?_, ?_, ?_, ?_, ?_, ?_, ?_, ?_⟩ <;> first | (with_reducible assumption) | (go_simp; done) | (simp; omega)) ?_
  (try clear hx0)
  (try clear hsz)
  (try clear c0)
  (try clear c1)
  (try clear c2)
  (try clear c3)
  (try clear c4)
  (try clear c5)
  (try clear c6)
  (try clear c7)
  (try clear d0)
  (try clear d1)
  (try clear d2)
  (try clear d3)
  (try clear s0)
  rintro W ⟨hx0, hsz, c0, c1, c2, c3, c4, c5, c6, c7, d0, d1, d2, d3, s0⟩
  refine (rmove_any _ _ _ _ _ _ _ _ _ (by omega) (by omega) (by omega) (by omega) (by omega) (by omega) (by omega) (by omega) (by omega) (by omega)).mono ?_
  rintro e wx ⟨rfl, hx⟩
  have hsz1 := Ext.size hx
  replace c0 := (Ext.cell hx (by dsimp only; omega)).trans c0
  replace c1 := (Ext.cell hx (by dsimp only; omega)).trans c1
  replace c2 := (Ext.cell hx (by dsimp only; omega)).trans c2
  replace c3 := (Ext.cell hx (by dsimp only; omega)).trans c3
  replace c4 := (Ext.cell hx (by dsimp only; omega)).trans c4
  replace c5 := (Ext.cell hx (by dsimp only; omega)).trans c5
  replace c6 := (Ext.cell hx (by dsimp only; omega)).trans c6
  replace c7 := (Ext.cell hx (by dsimp only; omega)).trans c7
  replace d0 := (Ext.cell hx (by dsimp only; omega)).trans d0
  replace d1 := (Ext.cell hx (by dsimp only; omega)).trans d1
  replace d2 := (Ext.cell hx (by dsimp only; omega)).trans d2
  replace d3 := (Ext.cell hx (by dsimp only; omega)).trans d3
  replace hx0 := Ext.trans hx0 hx
  replace hsz := Nat.le_trans hsz hsz1
  replace s0 := Nat.le_trans s0 hsz1
  clear hx hsz1
  have hl0 : w.heap.size < wx.heap.size := by omega
  have hl1 : w.heap.size + 1 < wx.heap.size := by omega
  have hl2 : w.heap.size + 1 + 1 < wx.heap.size := by omega
  have hl3 : bm < wx.heap.size := by omega
  have hl4 : bm + 1 < wx.heap.size := by omega
  go_wp2_with fail
  refine (rinside_any _ _ _ _ _ _ _).mono ?_
  rintro e wy ⟨rfl, hx⟩
  have hx9 := Ext.trans (show Ext w _ by (repeat' (first | (with_reducible assumption) | (with_reducible exact Ext.refl _) | (with_reducible refine Ext.grow ?_ _) | (with_reducible refine Ext.drew ?_) | (with_reducible refine Ext.set ?_ ?_ _) | omega | (simp; done) | (simp; omega) | (refine Ext.trans ?_ (by assumption))))) hx
  clear hx
  rw [i1.out]
  go_wp2_with fail
  go_ret
  exact ⟨rfl, hx9⟩

set_option maxHeartbeats 4000000 in
theorem ShapeMoves_bad (px py vx vy lx ly ux uy : Int) (w : World) (c : ux < lx ∨ uy < ly) :
    Calls Try.prog 4 #[.agg #[.int .i32 (px), .int .i32 (py)], .agg #[.int .i32 (vx), .int .i32 (vy)], .agg #[.int .i32 lx, .int .i32 ly, .int .i32 ux, .int .i32 uy]] w fun e w' => e = .returned (.bool true) ∧ Ext w w' := by
  have k := Lib.hid c
  have i2 := Lib.hid (show (decide (lx ≤ ux) && decide (ly ≤ uy)) = false by rw [Bool.and_eq_false_iff, decide_eq_false_iff_not, decide_eq_false_iff_not]; omega)
  clear c
  go_enter Try.func4, Try.ntmps4
  go_wp2_with fail
  refine calls_abs (fun W => Ext w W ∧ w.heap.size + 3 ≤ W.heap.size ∧ W.cell? ⟨w.heap.size, 0, none⟩ = some (.int .i32 px) ∧ W.cell? ⟨w.heap.size, 1, none⟩ = some (.int .i32 py) ∧ W.cell? ⟨w.heap.size + 1, 0, none⟩ = some (.int .i32 vx) ∧ W.cell? ⟨w.heap.size + 1, 1, none⟩ = some (.int .i32 vy) ∧ W.cell? ⟨w.heap.size + 1 + 1, 0, none⟩ = some (.int .i32 lx) ∧ W.cell? ⟨w.heap.size + 1 + 1, 1, none⟩ = some (.int .i32 ly) ∧ W.cell? ⟨w.heap.size + 1 + 1, 2, none⟩ = some (.int .i32 ux) ∧ W.cell? ⟨w.heap.size + 1 + 1, 3, none⟩ = some (.int .i32 uy)) (by refine ⟨by (repeat' (first | (with_reducible assumption) | (with_reducible exact Ext.refl _) | (with_reducible refine Ext.grow ?_ _) | (with_reducible refine Ext.drew ?_) | (with_reducible refine Ext.set ?_ ?_ _) | omega | (simp; done) | (simp; omega) | (refine Ext.trans ?_ (by assumption)))), by first | (with_reducible assumption) | (simp; done) | (simp; omega), ?_, ?_, ?_, ?_, ?_, ?_, ?_, ?_⟩ <;> first | (with_reducible assumption) | (go_simp; done) | (simp; omega)) ?_
  (try clear hx0)
  (try clear hsz)
  (try clear c0)
  (try clear c1)
  (try clear c2)
  (try clear c3)
  (try clear c4)
  (try clear c5)
  (try clear c6)
  (try clear c7)
  rintro W ⟨hx0, hsz, c0, c1, c2, c3, c4, c5, c6, c7⟩
  refine (awake10 _).mono ?_
  rintro e wx ⟨rfl, hx⟩
  have hsz1 := Ext.size hx
  replace c0 := (Ext.cell hx (by dsimp only; omega)).trans c0
  replace c1 := (Ext.cell hx (by dsimp only; omega)).trans c1
  replace c2 := (Ext.cell hx (by dsimp only; omega)).trans c2
  replace c3 := (Ext.cell hx (by dsimp only; omega)).trans c3
  replace c4 := (Ext.cell hx (by dsimp only; omega)).trans c4
  replace c5 := (Ext.cell hx (by dsimp only; omega)).trans c5
  replace c6 := (Ext.cell hx (by dsimp only; omega)).trans c6
  replace c7 := (Ext.cell hx (by dsimp only; omega)).trans c7
  replace hx0 := Ext.trans hx0 hx
  replace hsz := Nat.le_trans hsz hsz1
  clear hx hsz1
  have hl0 : w.heap.size < wx.heap.size := by omega
  have hl1 : w.heap.size + 1 < wx.heap.size := by omega
  have hl2 : w.heap.size + 1 + 1 < wx.heap.size := by omega
  go_wp2_with fail
  refine (move_bad _ _ _ _ _ _ _ _ _ k.out).mono ?_
  rintro e wx ⟨rfl, hx⟩
  have hsz1 := Ext.size hx
  replace c4 := (Ext.cell hx (by dsimp only; omega)).trans c4
  replace c5 := (Ext.cell hx (by dsimp only; omega)).trans c5
  replace c6 := (Ext.cell hx (by dsimp only; omega)).trans c6
  replace c7 := (Ext.cell hx (by dsimp only; omega)).trans c7
  replace hx0 := Ext.trans hx0 hx
  replace hsz := Nat.le_trans hsz hsz1
  have hl0 : w.heap.size < wx.heap.size := by omega
  have hl1 : w.heap.size + 1 < wx.heap.size := by omega
  have hl2 : w.heap.size + 1 + 1 < wx.heap.size := by omega
  clear hx hsz1 c0 c1 c2 c3
  go_wp2_with fail
  refine calls_abs (fun W => Ext w W ∧ w.heap.size + 3 ≤ W.heap.size ∧ W.cell? ⟨w.heap.size + 1 + 1, 0, none⟩ = some (.int .i32 lx) ∧ W.cell? ⟨w.heap.size + 1 + 1, 1, none⟩ = some (.int .i32 ly) ∧ W.cell? ⟨w.heap.size + 1 + 1, 2, none⟩ = some (.int .i32 ux) ∧ W.cell? ⟨w.heap.size + 1 + 1, 3, none⟩ = some (.int .i32 uy) ∧ W.cell? ⟨wx.heap.size, 0, none⟩ = some (.int .i32 0) ∧ W.cell? ⟨wx.heap.size, 1, none⟩ = some (.int .i32 0) ∧ W.cell? ⟨wx.heap.size + 1, 0, none⟩ = some (.int .i32 0) ∧ W.cell? ⟨wx.heap.size + 1, 1, none⟩ = some (.int .i32 0) ∧ wx.heap.size + 2 ≤ W.heap.size) (by refine ⟨by (repeat' (first | (with_reducible assumption) | (with_reducible exact Ext.refl _) | (with_reducible refine Ext.grow ?_ _) | (with_reducible refine Ext.drew ?_) | (with_reducible refine Ext.set ?_ ?_ _) | omega | (simp; done) | (simp; omega) | (refine Ext.trans ?_ (by assumption)))), by first | (with_reducible assumption) | (simp; done) | (simp; omega), ?_, ?_, ?_, ?_, ?_, ?_, ?_, ?_, ?_⟩ <;> first | (with_reducible assumption) | (go_simp; done) | (simp; omega)) ?_
  (try clear hx0)
  (try clear hsz)
  (try clear c4)
  (try clear c5)
  (try clear c6)
  (try clear c7)
  (try clear d0)
  (try clear d1)
  (try clear d2)
  (try clear d3)
  (try clear s0)
  rintro W ⟨hx0, hsz, c4, c5, c6, c7, d0, d1, d2, d3, s0⟩
  generalize wx.heap.size = bm at *
  refine (rright_any _ _ _ _ _).mono ?_
  rintro e wx ⟨rfl, hx⟩
  have hsz1 := Ext.size hx
  replace c4 := (Ext.cell hx (by dsimp only; omega)).trans c4
  replace c5 := (Ext.cell hx (by dsimp only; omega)).trans c5
  replace c6 := (Ext.cell hx (by dsimp only; omega)).trans c6
  replace c7 := (Ext.cell hx (by dsimp only; omega)).trans c7
  replace d0 := (Ext.cell hx (by dsimp only; omega)).trans d0
  replace d1 := (Ext.cell hx (by dsimp only; omega)).trans d1
  replace d2 := (Ext.cell hx (by dsimp only; omega)).trans d2
  replace d3 := (Ext.cell hx (by dsimp only; omega)).trans d3
  replace hx0 := Ext.trans hx0 hx
  replace hsz := Nat.le_trans hsz hsz1
  replace s0 := Nat.le_trans s0 hsz1
  clear hx hsz1
  have hl0 : w.heap.size < wx.heap.size := by omega
  have hl1 : w.heap.size + 1 < wx.heap.size := by omega
  have hl2 : w.heap.size + 1 + 1 < wx.heap.size := by omega
  have hl3 : bm < wx.heap.size := by omega
  have hl4 : bm + 1 < wx.heap.size := by omega
  rw [i2.out]
  go_wp2_with fail
  go_ret
  exact ⟨rfl, by (repeat' (first | (with_reducible assumption) | (with_reducible exact Ext.refl _) | (with_reducible refine Ext.grow ?_ _) | (with_reducible refine Ext.drew ?_) | (with_reducible refine Ext.set ?_ ?_ _) | omega | (simp; done) | (simp; omega) | (refine Ext.trans ?_ (by assumption))))⟩

theorem ShapeMoves_walk (px py vx vy lx ly ux uy : Int) (w1 : (Lit.int .i32 px).wf = true) (w2 : (Lit.int .i32 py).wf = true) (w3 : (Lit.int .i32 vx).wf = true) (w4 : (Lit.int .i32 vy).wf = true) (w5 : (Lit.int .i32 lx).wf = true) (w6 : (Lit.int .i32 ly).wf = true) (w7 : (Lit.int .i32 ux).wf = true) (w8 : (Lit.int .i32 uy).wf = true) (w : World) :
    Calls Try.prog 4 #[.agg #[.int .i32 (px), .int .i32 (py)], .agg #[.int .i32 (vx), .int .i32 (vy)], .agg #[.int .i32 lx, .int .i32 ly, .int .i32 ux, .int .i32 uy]] w fun e w' => e = .returned (.bool true) ∧ Ext w w' := by
  by_cases c : ux < lx ∨ uy < ly
  · exact ShapeMoves_bad _ _ _ _ _ _ _ _ w c
  · exact ShapeMoves_good _ _ _ _ _ _ _ _ w (bounds_i32 w1) (bounds_i32 w2) (bounds_i32 w3) (bounds_i32 w4) (bounds_i32 w5) (bounds_i32 w6) (bounds_i32 w7) (bounds_i32 w8) (by omega) (by omega)

end Go.Proofs.Ytikbnghadaehmaa
