/- WHAT THE REFERENCE's Move COMPUTES. Conditions: arguments within their kinds, a right box. Own work. -/
import Derived.Test.YtceffompldihjaaShape4
namespace Go.Proofs.Ytceffompldihjaa
open Go.RowKit
set_option linter.unusedVariables false
set_option maxRecDepth 100000

set_option maxHeartbeats 8000000 in
/-- the reference's way, each of the nine ways through -/
theorem rmove_core (px py vx vy lx ly ux uy qx qy ax ay k1 k2 : Int) (w : World) (hpx : -2147483648 ≤ px ∧ px ≤ 2147483647) (hpy : -2147483648 ≤ py ∧ py ≤ 2147483647) (hvx : -2147483648 ≤ vx ∧ vx ≤ 2147483647) (hvy : -2147483648 ≤ vy ∧ vy ≤ 2147483647) (hlx : -2147483648 ≤ lx ∧ lx ≤ 2147483647) (hly : -2147483648 ≤ ly ∧ ly ≤ 2147483647) (hux : -2147483648 ≤ ux ∧ ux ≤ 2147483647) (huy : -2147483648 ≤ uy ∧ uy ≤ 2147483647) (g1 : lx ≤ ux) (g2 : ly ≤ uy)
    (dx : (sat (px + vx) < lx ∧ lx = qx ∧ backF vx = ax ∧ 1 = k1 ) ∨ (lx ≤ sat (px + vx) ∧ ux < sat (px + vx) ∧ ux = qx ∧ backF vx = ax ∧ 2 = k1 ) ∨ (lx ≤ sat (px + vx) ∧ sat (px + vx) ≤ ux ∧ sat (px + vx) = qx ∧ vx = ax ∧ 0 = k1 ))
    (dy : (sat (py + vy) < ly ∧ ly = qy ∧ backF vy = ay ∧ 4 = k2 ) ∨ (ly ≤ sat (py + vy) ∧ uy < sat (py + vy) ∧ uy = qy ∧ backF vy = ay ∧ 8 = k2 ) ∨ (ly ≤ sat (py + vy) ∧ sat (py + vy) ≤ uy ∧ sat (py + vy) = qy ∧ vy = ay ∧ 0 = k2 )) :
    Calls Try.prog 35 #[.agg #[.int .i32 (px), .int .i32 (py)], .agg #[.int .i32 (vx), .int .i32 (vy)], .agg #[.int .i32 lx, .int .i32 ly, .int .i32 ux, .int .i32 uy]] w fun e w' => e = .returned (.tuple #[.agg #[.int .i32 (qx), .int .i32 (qy)], .agg #[.int .i32 (ax), .int .i32 (ay)], .int .i64 (k1 + k2)]) ∧ Ext w w' := by
  have b1 := sat_bd (px + vx)
  have b2 := sat_bd (py + vy)
  rcases dx with ⟨d1, rfl, rfl, rfl⟩ | ⟨d1, d2, rfl, rfl, rfl⟩ | ⟨d1, d2, rfl, rfl, rfl⟩ <;> rcases dy with ⟨d3, rfl, rfl, rfl⟩ | ⟨d3, d4, rfl, rfl, rfl⟩ | ⟨d3, d4, rfl, rfl, rfl⟩
  · go_enter Try.func35, Try.ntmps35
    go_wp2_with fail
    refine calls_abs (fun W => Ext w W ∧ w.heap.size + 5 ≤ W.heap.size ∧ W.cell? ⟨w.heap.size + 1, 0, none⟩ = some (.int .i32 vx) ∧ W.cell? ⟨w.heap.size + 1, 1, none⟩ = some (.int .i32 vy) ∧ W.frozen? ⟨w.heap.size + 1, 0, none⟩ = false ∧ W.frozen? ⟨w.heap.size + 1, 1, none⟩ = false ∧ W.cell? ⟨w.heap.size + 1 + 1, 0, none⟩ = some (.int .i32 lx) ∧ W.cell? ⟨w.heap.size + 1 + 1, 1, none⟩ = some (.int .i32 ly) ∧ W.cell? ⟨w.heap.size + 1 + 1, 2, none⟩ = some (.int .i32 ux) ∧ W.cell? ⟨w.heap.size + 1 + 1, 3, none⟩ = some (.int .i32 uy) ∧ W.cell? ⟨w.heap.size + 1 + 1 + 1, 0, none⟩ = some (.int .i32 0) ∧ W.cell? ⟨w.heap.size + 1 + 1 + 1, 1, none⟩ = some (.int .i32 0) ∧ W.frozen? ⟨w.heap.size + 1 + 1 + 1, 0, none⟩ = false ∧ W.frozen? ⟨w.heap.size + 1 + 1 + 1, 1, none⟩ = false ∧ W.cell? ⟨w.heap.size + 1 + 1 + 1 + 1, 0, none⟩ = some (.int .i32 0) ∧ W.cell? ⟨w.heap.size + 1 + 1 + 1 + 1, 1, none⟩ = some (.int .i32 0) ∧ W.frozen? ⟨w.heap.size + 1 + 1 + 1 + 1, 0, none⟩ = false ∧ W.frozen? ⟨w.heap.size + 1 + 1 + 1 + 1, 1, none⟩ = false) (by refine ⟨by (repeat' (first | (with_reducible assumption) | (with_reducible exact Ext.refl _) | (with_reducible refine Ext.grow ?_ _) | (with_reducible refine Ext.drew ?_) | (with_reducible refine Ext.set ?_ ?_ _) | omega | (simp; done) | (simp; omega) | (refine Ext.trans ?_ (by assumption)))), by first | (with_reducible assumption) | (simp; done) | (simp; omega), ?_, ?_, ?_, ?_, ?_, ?_, ?_, ?_, ?_, ?_, ?_, ?_, ?_, ?_, ?_, ?_⟩ <;> first | (with_reducible assumption) | (go_simp; done) | (simp; omega)) ?_
    (try clear hx0)
    (try clear hsz)
    (try clear c0)
    (try clear c1)
    (try clear f0)
    (try clear f1)
    (try clear c2)
    (try clear c3)
    (try clear c4)
    (try clear c5)
    (try clear c6)
    (try clear c7)
    (try clear f6)
    (try clear f7)
    (try clear c8)
    (try clear c9)
    (try clear f8)
    (try clear f9)
    rintro W ⟨hx0, hsz, c0, c1, f0, f1, c2, c3, c4, c5, c6, c7, f6, f7, c8, c9, f8, f9⟩
    refine (rplus_any _ _ _ _ _ (by omega) (by omega) (by omega) (by omega)).mono ?_
    rintro e wx ⟨rfl, hx⟩
    have hsz1 := Ext.size hx
    replace c0 := (Ext.cell hx (by dsimp only; omega)).trans c0
    replace c1 := (Ext.cell hx (by dsimp only; omega)).trans c1
    replace c2 := (Ext.cell hx (by dsimp only; omega)).trans c2
    replace c3 := (Ext.cell hx (by dsimp only; omega)).trans c3
    replace c4 := (Ext.cell hx (by dsimp only; omega)).trans c4
    replace c5 := (Ext.cell hx (by dsimp only; omega)).trans c5
    replace c6 := (Ext.cell hx (by dsimp only; omega)).trans c6
    replace c7 := (Ext.cell hx (by dsimp only; omega)).trans c7
    replace c8 := (Ext.cell hx (by dsimp only; omega)).trans c8
    replace c9 := (Ext.cell hx (by dsimp only; omega)).trans c9
    replace f0 := (Ext.frozen hx (by dsimp only; omega)).trans f0
    replace f1 := (Ext.frozen hx (by dsimp only; omega)).trans f1
    replace f6 := (Ext.frozen hx (by dsimp only; omega)).trans f6
    replace f7 := (Ext.frozen hx (by dsimp only; omega)).trans f7
    replace f8 := (Ext.frozen hx (by dsimp only; omega)).trans f8
    replace f9 := (Ext.frozen hx (by dsimp only; omega)).trans f9
    replace hx0 := Ext.trans hx0 hx
    replace hsz := Nat.le_trans hsz hsz1
    clear hx hsz1
    have hl0 : w.heap.size < wx.heap.size := by omega
    have hl1 : w.heap.size + 1 < wx.heap.size := by omega
    have hl2 : w.heap.size + 1 + 1 < wx.heap.size := by omega
    have hl3 : w.heap.size + 1 + 1 + 1 < wx.heap.size := by omega
    have hl4 : w.heap.size + 1 + 1 + 1 + 1 < wx.heap.size := by omega
    go_wp2_with (first | (go_at_call 51; refine (rback_any _ _ (by omega)).mono ?_; rintro e wx ⟨rfl, rfl⟩))
    refine wp_abs (fun W => Ext w W ∧ w.heap.size + 5 ≤ W.heap.size ∧ W.cell? ⟨wx.heap.size, 0, none⟩ = some (.int .i32 (lx)) ∧ W.cell? ⟨wx.heap.size, 1, none⟩ = some (.int .i32 (ly)) ∧ W.cell? ⟨w.heap.size + 1, 0, none⟩ = some (.int .i32 (backF vx)) ∧ W.cell? ⟨w.heap.size + 1, 1, none⟩ = some (.int .i32 (backF vy)) ∧ W.cell? ⟨w.heap.size + 1 + 1 + 1, 0, none⟩ = some (.int .i32 0) ∧ W.cell? ⟨w.heap.size + 1 + 1 + 1, 1, none⟩ = some (.int .i32 0) ∧ W.frozen? ⟨w.heap.size + 1 + 1 + 1, 0, none⟩ = false ∧ W.frozen? ⟨w.heap.size + 1 + 1 + 1, 1, none⟩ = false ∧ W.cell? ⟨w.heap.size + 1 + 1 + 1 + 1, 0, none⟩ = some (.int .i32 0) ∧ W.cell? ⟨w.heap.size + 1 + 1 + 1 + 1, 1, none⟩ = some (.int .i32 0) ∧ W.frozen? ⟨w.heap.size + 1 + 1 + 1 + 1, 0, none⟩ = false ∧ W.frozen? ⟨w.heap.size + 1 + 1 + 1 + 1, 1, none⟩ = false) (by refine ⟨by (repeat' (first | (with_reducible assumption) | (with_reducible exact Ext.refl _) | (with_reducible refine Ext.grow ?_ _) | (with_reducible refine Ext.drew ?_) | (with_reducible refine Ext.set ?_ ?_ _) | omega | (simp; done) | (simp; omega) | (refine Ext.trans ?_ (by assumption)))), by first | (with_reducible assumption) | (simp; done) | (simp; omega), ?_, ?_, ?_, ?_, ?_, ?_, ?_, ?_, ?_, ?_, ?_, ?_⟩ <;> first | (with_reducible assumption) | (go_simp; done) | (simp; omega)) ?_
    (try clear hx0)
    (try clear hsz)
    (try clear q0)
    (try clear q1)
    (try clear c0)
    (try clear c1)
    (try clear c6)
    (try clear c7)
    (try clear f6)
    (try clear f7)
    (try clear c8)
    (try clear c9)
    (try clear f8)
    (try clear f9)
    rintro W ⟨hx0, hsz, q0, q1, c0, c1, c6, c7, f6, f7, c8, c9, f8, f9⟩
    go_region
    go_wp2
    refine bodyPost_ret (v := .tuple #[.agg #[.int .i32 (lx), .int .i32 (ly)], .agg #[.int .i32 (backF vx), .int .i32 (backF vy)], .int .i64 (1 + 4)]) (by simp [results, Try.results35, go_sem, c6, c7, c8, c9]) rfl ⟨rfl, ?_⟩
    (repeat' (first | (with_reducible assumption) | (with_reducible exact Ext.refl _) | (with_reducible refine Ext.grow ?_ _) | (with_reducible refine Ext.drew ?_) | (with_reducible refine Ext.set ?_ ?_ _) | omega | (simp; done) | (simp; omega) | (refine Ext.trans ?_ (by assumption))))
  · go_enter Try.func35, Try.ntmps35
    go_wp2_with fail
    refine calls_abs (fun W => Ext w W ∧ w.heap.size + 5 ≤ W.heap.size ∧ W.cell? ⟨w.heap.size + 1, 0, none⟩ = some (.int .i32 vx) ∧ W.cell? ⟨w.heap.size + 1, 1, none⟩ = some (.int .i32 vy) ∧ W.frozen? ⟨w.heap.size + 1, 0, none⟩ = false ∧ W.frozen? ⟨w.heap.size + 1, 1, none⟩ = false ∧ W.cell? ⟨w.heap.size + 1 + 1, 0, none⟩ = some (.int .i32 lx) ∧ W.cell? ⟨w.heap.size + 1 + 1, 1, none⟩ = some (.int .i32 ly) ∧ W.cell? ⟨w.heap.size + 1 + 1, 2, none⟩ = some (.int .i32 ux) ∧ W.cell? ⟨w.heap.size + 1 + 1, 3, none⟩ = some (.int .i32 uy) ∧ W.cell? ⟨w.heap.size + 1 + 1 + 1, 0, none⟩ = some (.int .i32 0) ∧ W.cell? ⟨w.heap.size + 1 + 1 + 1, 1, none⟩ = some (.int .i32 0) ∧ W.frozen? ⟨w.heap.size + 1 + 1 + 1, 0, none⟩ = false ∧ W.frozen? ⟨w.heap.size + 1 + 1 + 1, 1, none⟩ = false ∧ W.cell? ⟨w.heap.size + 1 + 1 + 1 + 1, 0, none⟩ = some (.int .i32 0) ∧ W.cell? ⟨w.heap.size + 1 + 1 + 1 + 1, 1, none⟩ = some (.int .i32 0) ∧ W.frozen? ⟨w.heap.size + 1 + 1 + 1 + 1, 0, none⟩ = false ∧ W.frozen? ⟨w.heap.size + 1 + 1 + 1 + 1, 1, none⟩ = false) (by refine ⟨by (repeat' (first | (with_reducible assumption) | (with_reducible exact Ext.refl _) | (with_reducible refine Ext.grow ?_ _) | (with_reducible refine Ext.drew ?_) | (with_reducible refine Ext.set ?_ ?_ _) | omega | (simp; done) | (simp; omega) | (refine Ext.trans ?_ (by assumption)))), by first | (with_reducible assumption) | (simp; done) | (simp; omega), ?_, ?_, ?_, ?_, ?_, ?_, ?_, ?_, ?_, ?_, ?_, ?_, ?_, ?_, ?_, ?_⟩ <;> first | (with_reducible assumption) | (go_simp; done) | (simp; omega)) ?_
    (try clear hx0)
    (try clear hsz)
    (try clear c0)
    (try clear c1)
    (try clear f0)
    (try clear f1)
    (try clear c2)
    (try clear c3)
    (try clear c4)
    (try clear c5)
    (try clear c6)
    (try clear c7)
    (try clear f6)
    (try clear f7)
    (try clear c8)
    (try clear c9)
    (try clear f8)
    (try clear f9)
    rintro W ⟨hx0, hsz, c0, c1, f0, f1, c2, c3, c4, c5, c6, c7, f6, f7, c8, c9, f8, f9⟩
    refine (rplus_any _ _ _ _ _ (by omega) (by omega) (by omega) (by omega)).mono ?_
    rintro e wx ⟨rfl, hx⟩
    have hsz1 := Ext.size hx
    replace c0 := (Ext.cell hx (by dsimp only; omega)).trans c0
    replace c1 := (Ext.cell hx (by dsimp only; omega)).trans c1
    replace c2 := (Ext.cell hx (by dsimp only; omega)).trans c2
    replace c3 := (Ext.cell hx (by dsimp only; omega)).trans c3
    replace c4 := (Ext.cell hx (by dsimp only; omega)).trans c4
    replace c5 := (Ext.cell hx (by dsimp only; omega)).trans c5
    replace c6 := (Ext.cell hx (by dsimp only; omega)).trans c6
    replace c7 := (Ext.cell hx (by dsimp only; omega)).trans c7
    replace c8 := (Ext.cell hx (by dsimp only; omega)).trans c8
    replace c9 := (Ext.cell hx (by dsimp only; omega)).trans c9
    replace f0 := (Ext.frozen hx (by dsimp only; omega)).trans f0
    replace f1 := (Ext.frozen hx (by dsimp only; omega)).trans f1
    replace f6 := (Ext.frozen hx (by dsimp only; omega)).trans f6
    replace f7 := (Ext.frozen hx (by dsimp only; omega)).trans f7
    replace f8 := (Ext.frozen hx (by dsimp only; omega)).trans f8
    replace f9 := (Ext.frozen hx (by dsimp only; omega)).trans f9
    replace hx0 := Ext.trans hx0 hx
    replace hsz := Nat.le_trans hsz hsz1
    clear hx hsz1
    have hl0 : w.heap.size < wx.heap.size := by omega
    have hl1 : w.heap.size + 1 < wx.heap.size := by omega
    have hl2 : w.heap.size + 1 + 1 < wx.heap.size := by omega
    have hl3 : w.heap.size + 1 + 1 + 1 < wx.heap.size := by omega
    have hl4 : w.heap.size + 1 + 1 + 1 + 1 < wx.heap.size := by omega
    go_wp2_with (first | (go_at_call 51; refine (rback_any _ _ (by omega)).mono ?_; rintro e wx ⟨rfl, rfl⟩))
    refine wp_abs (fun W => Ext w W ∧ w.heap.size + 5 ≤ W.heap.size ∧ W.cell? ⟨wx.heap.size, 0, none⟩ = some (.int .i32 (lx)) ∧ W.cell? ⟨wx.heap.size, 1, none⟩ = some (.int .i32 (uy)) ∧ W.cell? ⟨w.heap.size + 1, 0, none⟩ = some (.int .i32 (backF vx)) ∧ W.cell? ⟨w.heap.size + 1, 1, none⟩ = some (.int .i32 (backF vy)) ∧ W.cell? ⟨w.heap.size + 1 + 1 + 1, 0, none⟩ = some (.int .i32 0) ∧ W.cell? ⟨w.heap.size + 1 + 1 + 1, 1, none⟩ = some (.int .i32 0) ∧ W.frozen? ⟨w.heap.size + 1 + 1 + 1, 0, none⟩ = false ∧ W.frozen? ⟨w.heap.size + 1 + 1 + 1, 1, none⟩ = false ∧ W.cell? ⟨w.heap.size + 1 + 1 + 1 + 1, 0, none⟩ = some (.int .i32 0) ∧ W.cell? ⟨w.heap.size + 1 + 1 + 1 + 1, 1, none⟩ = some (.int .i32 0) ∧ W.frozen? ⟨w.heap.size + 1 + 1 + 1 + 1, 0, none⟩ = false ∧ W.frozen? ⟨w.heap.size + 1 + 1 + 1 + 1, 1, none⟩ = false) (by refine ⟨by (repeat' (first | (with_reducible assumption) | (with_reducible exact Ext.refl _) | (with_reducible refine Ext.grow ?_ _) | (with_reducible refine Ext.drew ?_) | (with_reducible refine Ext.set ?_ ?_ _) | omega | (simp; done) | (simp; omega) | (refine Ext.trans ?_ (by assumption)))), by first | (with_reducible assumption) | (simp; done) | (simp; omega), ?_, ?_, ?_, ?_, ?_, ?_, ?_, ?_, ?_, ?_, ?_, ?_⟩ <;> first | (with_reducible assumption) | (go_simp; done) | (simp; omega)) ?_
    (try clear hx0)
    (try clear hsz)
    (try clear q0)
    (try clear q1)
    (try clear c0)
    (try clear c1)
    (try clear c6)
    (try clear c7)
    (try clear f6)
    (try clear f7)
    (try clear c8)
    (try clear c9)
    (try clear f8)
    (try clear f9)
    rintro W ⟨hx0, hsz, q0, q1, c0, c1, c6, c7, f6, f7, c8, c9, f8, f9⟩
    go_region
    go_wp2
    refine bodyPost_ret (v := .tuple #[.agg #[.int .i32 (lx), .int .i32 (uy)], .agg #[.int .i32 (backF vx), .int .i32 (backF vy)], .int .i64 (1 + 8)]) (by simp [results, Try.results35, go_sem, c6, c7, c8, c9]) rfl ⟨rfl, ?_⟩
    (repeat' (first | (with_reducible assumption) | (with_reducible exact Ext.refl _) | (with_reducible refine Ext.grow ?_ _) | (with_reducible refine Ext.drew ?_) | (with_reducible refine Ext.set ?_ ?_ _) | omega | (simp; done) | (simp; omega) | (refine Ext.trans ?_ (by assumption))))
  · go_enter Try.func35, Try.ntmps35
    go_wp2_with fail
    refine calls_abs (fun W => Ext w W ∧ w.heap.size + 5 ≤ W.heap.size ∧ W.cell? ⟨w.heap.size + 1, 0, none⟩ = some (.int .i32 vx) ∧ W.cell? ⟨w.heap.size + 1, 1, none⟩ = some (.int .i32 vy) ∧ W.frozen? ⟨w.heap.size + 1, 0, none⟩ = false ∧ W.frozen? ⟨w.heap.size + 1, 1, none⟩ = false ∧ W.cell? ⟨w.heap.size + 1 + 1, 0, none⟩ = some (.int .i32 lx) ∧ W.cell? ⟨w.heap.size + 1 + 1, 1, none⟩ = some (.int .i32 ly) ∧ W.cell? ⟨w.heap.size + 1 + 1, 2, none⟩ = some (.int .i32 ux) ∧ W.cell? ⟨w.heap.size + 1 + 1, 3, none⟩ = some (.int .i32 uy) ∧ W.cell? ⟨w.heap.size + 1 + 1 + 1, 0, none⟩ = some (.int .i32 0) ∧ W.cell? ⟨w.heap.size + 1 + 1 + 1, 1, none⟩ = some (.int .i32 0) ∧ W.frozen? ⟨w.heap.size + 1 + 1 + 1, 0, none⟩ = false ∧ W.frozen? ⟨w.heap.size + 1 + 1 + 1, 1, none⟩ = false ∧ W.cell? ⟨w.heap.size + 1 + 1 + 1 + 1, 0, none⟩ = some (.int .i32 0) ∧ W.cell? ⟨w.heap.size + 1 + 1 + 1 + 1, 1, none⟩ = some (.int .i32 0) ∧ W.frozen? ⟨w.heap.size + 1 + 1 + 1 + 1, 0, none⟩ = false ∧ W.frozen? ⟨w.heap.size + 1 + 1 + 1 + 1, 1, none⟩ = false) (by refine ⟨by (repeat' (first | (with_reducible assumption) | (with_reducible exact Ext.refl _) | (with_reducible refine Ext.grow ?_ _) | (with_reducible refine Ext.drew ?_) | (with_reducible refine Ext.set ?_ ?_ _) | omega | (simp; done) | (simp; omega) | (refine Ext.trans ?_ (by assumption)))), by first | (with_reducible assumption) | (simp; done) | (simp; omega), ?_, ?_, ?_, ?_, ?_, ?_, ?_, ?_, ?_, ?_, ?_, ?_, ?_, ?_, ?_, ?_⟩ <;> first | (with_reducible assumption) | (go_simp; done) | (simp; omega)) ?_
    (try clear hx0)
    (try clear hsz)
    (try clear c0)
    (try clear c1)
    (try clear f0)
    (try clear f1)
    (try clear c2)
    (try clear c3)
    (try clear c4)
    (try clear c5)
    (try clear c6)
    (try clear c7)
    (try clear f6)
    (try clear f7)
    (try clear c8)
    (try clear c9)
    (try clear f8)
    (try clear f9)
    rintro W ⟨hx0, hsz, c0, c1, f0, f1, c2, c3, c4, c5, c6, c7, f6, f7, c8, c9, f8, f9⟩
    refine (rplus_any _ _ _ _ _ (by omega) (by omega) (by omega) (by omega)).mono ?_
    rintro e wx ⟨rfl, hx⟩
    have hsz1 := Ext.size hx
    replace c0 := (Ext.cell hx (by dsimp only; omega)).trans c0
    replace c1 := (Ext.cell hx (by dsimp only; omega)).trans c1
    replace c2 := (Ext.cell hx (by dsimp only; omega)).trans c2
    replace c3 := (Ext.cell hx (by dsimp only; omega)).trans c3
    replace c4 := (Ext.cell hx (by dsimp only; omega)).trans c4
    replace c5 := (Ext.cell hx (by dsimp only; omega)).trans c5
    replace c6 := (Ext.cell hx (by dsimp only; omega)).trans c6
    replace c7 := (Ext.cell hx (by dsimp only; omega)).trans c7
    replace c8 := (Ext.cell hx (by dsimp only; omega)).trans c8
    replace c9 := (Ext.cell hx (by dsimp only; omega)).trans c9
    replace f0 := (Ext.frozen hx (by dsimp only; omega)).trans f0
    replace f1 := (Ext.frozen hx (by dsimp only; omega)).trans f1
    replace f6 := (Ext.frozen hx (by dsimp only; omega)).trans f6
    replace f7 := (Ext.frozen hx (by dsimp only; omega)).trans f7
    replace f8 := (Ext.frozen hx (by dsimp only; omega)).trans f8
    replace f9 := (Ext.frozen hx (by dsimp only; omega)).trans f9
    replace hx0 := Ext.trans hx0 hx
    replace hsz := Nat.le_trans hsz hsz1
    clear hx hsz1
    have hl0 : w.heap.size < wx.heap.size := by omega
    have hl1 : w.heap.size + 1 < wx.heap.size := by omega
    have hl2 : w.heap.size + 1 + 1 < wx.heap.size := by omega
    have hl3 : w.heap.size + 1 + 1 + 1 < wx.heap.size := by omega
    have hl4 : w.heap.size + 1 + 1 + 1 + 1 < wx.heap.size := by omega
    go_wp2_with (first | (go_at_call 51; refine (rback_any _ _ (by omega)).mono ?_; rintro e wx ⟨rfl, rfl⟩))
    refine wp_abs (fun W => Ext w W ∧ w.heap.size + 5 ≤ W.heap.size ∧ W.cell? ⟨wx.heap.size, 0, none⟩ = some (.int .i32 (lx)) ∧ W.cell? ⟨wx.heap.size, 1, none⟩ = some (.int .i32 (sat (py + vy))) ∧ W.cell? ⟨w.heap.size + 1, 0, none⟩ = some (.int .i32 (backF vx)) ∧ W.cell? ⟨w.heap.size + 1, 1, none⟩ = some (.int .i32 (vy)) ∧ W.cell? ⟨w.heap.size + 1 + 1 + 1, 0, none⟩ = some (.int .i32 0) ∧ W.cell? ⟨w.heap.size + 1 + 1 + 1, 1, none⟩ = some (.int .i32 0) ∧ W.frozen? ⟨w.heap.size + 1 + 1 + 1, 0, none⟩ = false ∧ W.frozen? ⟨w.heap.size + 1 + 1 + 1, 1, none⟩ = false ∧ W.cell? ⟨w.heap.size + 1 + 1 + 1 + 1, 0, none⟩ = some (.int .i32 0) ∧ W.cell? ⟨w.heap.size + 1 + 1 + 1 + 1, 1, none⟩ = some (.int .i32 0) ∧ W.frozen? ⟨w.heap.size + 1 + 1 + 1 + 1, 0, none⟩ = false ∧ W.frozen? ⟨w.heap.size + 1 + 1 + 1 + 1, 1, none⟩ = false) (by refine ⟨by (repeat' (first | (with_reducible assumption) | (with_reducible exact Ext.refl _) | (with_reducible refine Ext.grow ?_ _) | (with_reducible refine Ext.drew ?_) | (with_reducible refine Ext.set ?_ ?_ _) | omega | (simp; done) | (simp; omega) | (refine Ext.trans ?_ (by assumption)))), by first | (with_reducible assumption) | (simp; done) | (simp; omega), ?_, ?_, ?_, ?_, ?_, ?_, ?_, ?_, ?_, ?_, ?_, ?_⟩ <;> first | (with_reducible assumption) | (go_simp; done) | (simp; omega)) ?_
    (try clear hx0)
    (try clear hsz)
    (try clear q0)
    (try clear q1)
    (try clear c0)
    (try clear c1)
    (try clear c6)
    (try clear c7)
    (try clear f6)
    (try clear f7)
    (try clear c8)
    (try clear c9)
    (try clear f8)
    (try clear f9)
    rintro W ⟨hx0, hsz, q0, q1, c0, c1, c6, c7, f6, f7, c8, c9, f8, f9⟩
    go_region
    go_wp2
    refine bodyPost_ret (v := .tuple #[.agg #[.int .i32 (lx), .int .i32 (sat (py + vy))], .agg #[.int .i32 (backF vx), .int .i32 (vy)], .int .i64 (1 + 0)]) (by simp [results, Try.results35, go_sem, c6, c7, c8, c9]) rfl ⟨rfl, ?_⟩
    (repeat' (first | (with_reducible assumption) | (with_reducible exact Ext.refl _) | (with_reducible refine Ext.grow ?_ _) | (with_reducible refine Ext.drew ?_) | (with_reducible refine Ext.set ?_ ?_ _) | omega | (simp; done) | (simp; omega) | (refine Ext.trans ?_ (by assumption))))
  · go_enter Try.func35, Try.ntmps35
    go_wp2_with fail
    refine calls_abs (fun W => Ext w W ∧ w.heap.size + 5 ≤ W.heap.size ∧ W.cell? ⟨w.heap.size + 1, 0, none⟩ = some (.int .i32 vx) ∧ W.cell? ⟨w.heap.size + 1, 1, none⟩ = some (.int .i32 vy) ∧ W.frozen? ⟨w.heap.size + 1, 0, none⟩ = false ∧ W.frozen? ⟨w.heap.size + 1, 1, none⟩ = false ∧ W.cell? ⟨w.heap.size + 1 + 1, 0, none⟩ = some (.int .i32 lx) ∧ W.cell? ⟨w.heap.size + 1 + 1, 1, none⟩ = some (.int .i32 ly) ∧ W.cell? ⟨w.heap.size + 1 + 1, 2, none⟩ = some (.int .i32 ux) ∧ W.cell? ⟨w.heap.size + 1 + 1, 3, none⟩ = some (.int .i32 uy) ∧ W.cell? ⟨w.heap.size + 1 + 1 + 1, 0, none⟩ = some (.int .i32 0) ∧ W.cell? ⟨w.heap.size + 1 + 1 + 1, 1, none⟩ = some (.int .i32 0) ∧ W.frozen? ⟨w.heap.size + 1 + 1 + 1, 0, none⟩ = false ∧ W.frozen? ⟨w.heap.size + 1 + 1 + 1, 1, none⟩ = false ∧ W.cell? ⟨w.heap.size + 1 + 1 + 1 + 1, 0, none⟩ = some (.int .i32 0) ∧ W.cell? ⟨w.heap.size + 1 + 1 + 1 + 1, 1, none⟩ = some (.int .i32 0) ∧ W.frozen? ⟨w.heap.size + 1 + 1 + 1 + 1, 0, none⟩ = false ∧ W.frozen? ⟨w.heap.size + 1 + 1 + 1 + 1, 1, none⟩ = false) (by refine ⟨by (repeat' (first | (with_reducible assumption) | (with_reducible exact Ext.refl _) | (with_reducible refine Ext.grow ?_ _) | (with_reducible refine Ext.drew ?_) | (with_reducible refine Ext.set ?_ ?_ _) | omega | (simp; done) | (simp; omega) | (refine Ext.trans ?_ (by assumption)))), by first | (with_reducible assumption) | (simp; done) | (simp; omega), ?_, ?_, ?_, ?_, ?_, ?_, ?_, ?_, ?_, ?_, ?_, ?_, ?_, ?_, ?_, ?_⟩ <;> first | (with_reducible assumption) | (go_simp; done) | (simp; omega)) ?_
    (try clear hx0)
    (try clear hsz)
    (try clear c0)
    (try clear c1)
    (try clear f0)
    (try clear f1)
    (try clear c2)
    (try clear c3)
    (try clear c4)
    (try clear c5)
    (try clear c6)
    (try clear c7)
    (try clear f6)
    (try clear f7)
    (try clear c8)
    (try clear c9)
    (try clear f8)
    (try clear f9)
    rintro W ⟨hx0, hsz, c0, c1, f0, f1, c2, c3, c4, c5, c6, c7, f6, f7, c8, c9, f8, f9⟩
    refine (rplus_any _ _ _ _ _ (by omega) (by omega) (by omega) (by omega)).mono ?_
    rintro e wx ⟨rfl, hx⟩
    have hsz1 := Ext.size hx
    replace c0 := (Ext.cell hx (by dsimp only; omega)).trans c0
    replace c1 := (Ext.cell hx (by dsimp only; omega)).trans c1
    replace c2 := (Ext.cell hx (by dsimp only; omega)).trans c2
    replace c3 := (Ext.cell hx (by dsimp only; omega)).trans c3
    replace c4 := (Ext.cell hx (by dsimp only; omega)).trans c4
    replace c5 := (Ext.cell hx (by dsimp only; omega)).trans c5
    replace c6 := (Ext.cell hx (by dsimp only; omega)).trans c6
    replace c7 := (Ext.cell hx (by dsimp only; omega)).trans c7
    replace c8 := (Ext.cell hx (by dsimp only; omega)).trans c8
    replace c9 := (Ext.cell hx (by dsimp only; omega)).trans c9
    replace f0 := (Ext.frozen hx (by dsimp only; omega)).trans f0
    replace f1 := (Ext.frozen hx (by dsimp only; omega)).trans f1
    replace f6 := (Ext.frozen hx (by dsimp only; omega)).trans f6
    replace f7 := (Ext.frozen hx (by dsimp only; omega)).trans f7
    replace f8 := (Ext.frozen hx (by dsimp only; omega)).trans f8
    replace f9 := (Ext.frozen hx (by dsimp only; omega)).trans f9
    replace hx0 := Ext.trans hx0 hx
    replace hsz := Nat.le_trans hsz hsz1
    clear hx hsz1
    have hl0 : w.heap.size < wx.heap.size := by omega
    have hl1 : w.heap.size + 1 < wx.heap.size := by omega
    have hl2 : w.heap.size + 1 + 1 < wx.heap.size := by omega
    have hl3 : w.heap.size + 1 + 1 + 1 < wx.heap.size := by omega
    have hl4 : w.heap.size + 1 + 1 + 1 + 1 < wx.heap.size := by omega
    go_wp2_with (first | (go_at_call 51; refine (rback_any _ _ (by omega)).mono ?_; rintro e wx ⟨rfl, rfl⟩))
    refine wp_abs (fun W => Ext w W ∧ w.heap.size + 5 ≤ W.heap.size ∧ W.cell? ⟨wx.heap.size, 0, none⟩ = some (.int .i32 (ux)) ∧ W.cell? ⟨wx.heap.size, 1, none⟩ = some (.int .i32 (ly)) ∧ W.cell? ⟨w.heap.size + 1, 0, none⟩ = some (.int .i32 (backF vx)) ∧ W.cell? ⟨w.heap.size + 1, 1, none⟩ = some (.int .i32 (backF vy)) ∧ W.cell? ⟨w.heap.size + 1 + 1 + 1, 0, none⟩ = some (.int .i32 0) ∧ W.cell? ⟨w.heap.size + 1 + 1 + 1, 1, none⟩ = some (.int .i32 0) ∧ W.frozen? ⟨w.heap.size + 1 + 1 + 1, 0, none⟩ = false ∧ W.frozen? ⟨w.heap.size + 1 + 1 + 1, 1, none⟩ = false ∧ W.cell? ⟨w.heap.size + 1 + 1 + 1 + 1, 0, none⟩ = some (.int .i32 0) ∧ W.cell? ⟨w.heap.size + 1 + 1 + 1 + 1, 1, none⟩ = some (.int .i32 0) ∧ W.frozen? ⟨w.heap.size + 1 + 1 + 1 + 1, 0, none⟩ = false ∧ W.frozen? ⟨w.heap.size + 1 + 1 + 1 + 1, 1, none⟩ = false) (by refine ⟨by (repeat' (first | (with_reducible assumption) | (with_reducible exact Ext.refl _) | (with_reducible refine Ext.grow ?_ _) | (with_reducible refine Ext.drew ?_) | (with_reducible refine Ext.set ?_ ?_ _) | omega | (simp; done) | (simp; omega) | (refine Ext.trans ?_ (by assumption)))), by first | (with_reducible assumption) | (simp; done) | (simp; omega), ?_, ?_, ?_, ?_, ?_, ?_, ?_, ?_, ?_, ?_, ?_, ?_⟩ <;> first | (with_reducible assumption) | (go_simp; done) | (simp; omega)) ?_
    (try clear hx0)
    (try clear hsz)
    (try clear q0)
    (try clear q1)
    (try clear c0)
    (try clear c1)
    (try clear c6)
    (try clear c7)
    (try clear f6)
    (try clear f7)
    (try clear c8)
    (try clear c9)
    (try clear f8)
    (try clear f9)
    rintro W ⟨hx0, hsz, q0, q1, c0, c1, c6, c7, f6, f7, c8, c9, f8, f9⟩
    go_region
    go_wp2
    refine bodyPost_ret (v := .tuple #[.agg #[.int .i32 (ux), .int .i32 (ly)], .agg #[.int .i32 (backF vx), .int .i32 (backF vy)], .int .i64 (2 + 4)]) (by simp [results, Try.results35, go_sem, c6, c7, c8, c9]) rfl ⟨rfl, ?_⟩
    (repeat' (first | (with_reducible assumption) | (with_reducible exact Ext.refl _) | (with_reducible refine Ext.grow ?_ _) | (with_reducible refine Ext.drew ?_) | (with_reducible refine Ext.set ?_ ?_ _) | omega | (simp; done) | (simp; omega) | (refine Ext.trans ?_ (by assumption))))
  · go_enter Try.func35, Try.ntmps35
    go_wp2_with fail
    refine calls_abs (fun W => Ext w W ∧ w.heap.size + 5 ≤ W.heap.size ∧ W.cell? ⟨w.heap.size + 1, 0, none⟩ = some (.int .i32 vx) ∧ W.cell? ⟨w.heap.size + 1, 1, none⟩ = some (.int .i32 vy) ∧ W.frozen? ⟨w.heap.size + 1, 0, none⟩ = false ∧ W.frozen? ⟨w.heap.size + 1, 1, none⟩ = false ∧ W.cell? ⟨w.heap.size + 1 + 1, 0, none⟩ = some (.int .i32 lx) ∧ W.cell? ⟨w.heap.size + 1 + 1, 1, none⟩ = some (.int .i32 ly) ∧ W.cell? ⟨w.heap.size + 1 + 1, 2, none⟩ = some (.int .i32 ux) ∧ W.cell? ⟨w.heap.size + 1 + 1, 3, none⟩ = some (.int .i32 uy) ∧ W.cell? ⟨w.heap.size + 1 + 1 + 1, 0, none⟩ = some (.int .i32 0) ∧ W.cell? ⟨w.heap.size + 1 + 1 + 1, 1, none⟩ = some (.int .i32 0) ∧ W.frozen? ⟨w.heap.size + 1 + 1 + 1, 0, none⟩ = false ∧ W.frozen? ⟨w.heap.size + 1 + 1 + 1, 1, none⟩ = false ∧ W.cell? ⟨w.heap.size + 1 + 1 + 1 + 1, 0, none⟩ = some (.int .i32 0) ∧ W.cell? ⟨w.heap.size + 1 + 1 + 1 + 1, 1, none⟩ = some (.int .i32 0) ∧ W.frozen? ⟨w.heap.size + 1 + 1 + 1 + 1, 0, none⟩ = false ∧ W.frozen? ⟨w.heap.size + 1 + 1 + 1 + 1, 1, none⟩ = false) (by refine ⟨by (repeat' (first | (with_reducible assumption) | (with_reducible exact Ext.refl _) | (with_reducible refine Ext.grow ?_ _) | (with_reducible refine Ext.drew ?_) | (with_reducible refine Ext.set ?_ ?_ _) | omega | (simp; done) | (simp; omega) | (refine Ext.trans ?_ (by assumption)))), by first | (with_reducible assumption) | (simp; done) | (simp; omega), ?_, ?_, ?_, ?_, ?_, ?_, ?_, ?_, ?_, ?_, ?_, ?_, ?_, ?_, ?_, ?_⟩ <;> first | (with_reducible assumption) | (go_simp; done) | (simp; omega)) ?_
    (try clear hx0)
    (try clear hsz)
    (try clear c0)
    (try clear c1)
    (try clear f0)
    (try clear f1)
    (try clear c2)
    (try clear c3)
    (try clear c4)
    (try clear c5)
    (try clear c6)
    (try clear c7)
    (try clear f6)
    (try clear f7)
    (try clear c8)
    (try clear c9)
    (try clear f8)
    (try clear f9)
    rintro W ⟨hx0, hsz, c0, c1, f0, f1, c2, c3, c4, c5, c6, c7, f6, f7, c8, c9, f8, f9⟩
    refine (rplus_any _ _ _ _ _ (by omega) (by omega) (by omega) (by omega)).mono ?_
    rintro e wx ⟨rfl, hx⟩
    have hsz1 := Ext.size hx
    replace c0 := (Ext.cell hx (by dsimp only; omega)).trans c0
    replace c1 := (Ext.cell hx (by dsimp only; omega)).trans c1
    replace c2 := (Ext.cell hx (by dsimp only; omega)).trans c2
    replace c3 := (Ext.cell hx (by dsimp only; omega)).trans c3
    replace c4 := (Ext.cell hx (by dsimp only; omega)).trans c4
    replace c5 := (Ext.cell hx (by dsimp only; omega)).trans c5
    replace c6 := (Ext.cell hx (by dsimp only; omega)).trans c6
    replace c7 := (Ext.cell hx (by dsimp only; omega)).trans c7
    replace c8 := (Ext.cell hx (by dsimp only; omega)).trans c8
    replace c9 := (Ext.cell hx (by dsimp only; omega)).trans c9
    replace f0 := (Ext.frozen hx (by dsimp only; omega)).trans f0
    replace f1 := (Ext.frozen hx (by dsimp only; omega)).trans f1
    replace f6 := (Ext.frozen hx (by dsimp only; omega)).trans f6
    replace f7 := (Ext.frozen hx (by dsimp only; omega)).trans f7
    replace f8 := (Ext.frozen hx (by dsimp only; omega)).trans f8
    replace f9 := (Ext.frozen hx (by dsimp only; omega)).trans f9
    replace hx0 := Ext.trans hx0 hx
    replace hsz := Nat.le_trans hsz hsz1
    clear hx hsz1
    have hl0 : w.heap.size < wx.heap.size := by omega
    have hl1 : w.heap.size + 1 < wx.heap.size := by omega
    have hl2 : w.heap.size + 1 + 1 < wx.heap.size := by omega
    have hl3 : w.heap.size + 1 + 1 + 1 < wx.heap.size := by omega
    have hl4 : w.heap.size + 1 + 1 + 1 + 1 < wx.heap.size := by omega
    go_wp2_with (first | (go_at_call 51; refine (rback_any _ _ (by omega)).mono ?_; rintro e wx ⟨rfl, rfl⟩))
    refine wp_abs (fun W => Ext w W ∧ w.heap.size + 5 ≤ W.heap.size ∧ W.cell? ⟨wx.heap.size, 0, none⟩ = some (.int .i32 (ux)) ∧ W.cell? ⟨wx.heap.size, 1, none⟩ = some (.int .i32 (uy)) ∧ W.cell? ⟨w.heap.size + 1, 0, none⟩ = some (.int .i32 (backF vx)) ∧ W.cell? ⟨w.heap.size + 1, 1, none⟩ = some (.int .i32 (backF vy)) ∧ W.cell? ⟨w.heap.size + 1 + 1 + 1, 0, none⟩ = some (.int .i32 0) ∧ W.cell? ⟨w.heap.size + 1 + 1 + 1, 1, none⟩ = some (.int .i32 0) ∧ W.frozen? ⟨w.heap.size + 1 + 1 + 1, 0, none⟩ = false ∧ W.frozen? ⟨w.heap.size + 1 + 1 + 1, 1, none⟩ = false ∧ W.cell? ⟨w.heap.size + 1 + 1 + 1 + 1, 0, none⟩ = some (.int .i32 0) ∧ W.cell? ⟨w.heap.size + 1 + 1 + 1 + 1, 1, none⟩ = some (.int .i32 0) ∧ W.frozen? ⟨w.heap.size + 1 + 1 + 1 + 1, 0, none⟩ = false ∧ W.frozen? ⟨w.heap.size + 1 + 1 + 1 + 1, 1, none⟩ = false) (by refine ⟨by (repeat' (first | (with_reducible assumption) | (with_reducible exact Ext.refl _) | (with_reducible refine Ext.grow ?_ _) | (with_reducible refine Ext.drew ?_) | (with_reducible refine Ext.set ?_ ?_ _) | omega | (simp; done) | (simp; omega) | (refine Ext.trans ?_ (by assumption)))), by first | (with_reducible assumption) | (simp; done) | (simp; omega), ?_, ?_, ?_, ?_, ?_, ?_, ?_, ?_, ?_, ?_, ?_, ?_⟩ <;> first | (with_reducible assumption) | (go_simp; done) | (simp; omega)) ?_
    (try clear hx0)
    (try clear hsz)
    (try clear q0)
    (try clear q1)
    (try clear c0)
    (try clear c1)
    (try clear c6)
    (try clear c7)
    (try clear f6)
    (try clear f7)
    (try clear c8)
    (try clear c9)
    (try clear f8)
    (try clear f9)
    rintro W ⟨hx0, hsz, q0, q1, c0, c1, c6, c7, f6, f7, c8, c9, f8, f9⟩
    go_region
    go_wp2
    refine bodyPost_ret (v := .tuple #[.agg #[.int .i32 (ux), .int .i32 (uy)], .agg #[.int .i32 (backF vx), .int .i32 (backF vy)], .int .i64 (2 + 8)]) (by simp [results, Try.results35, go_sem, c6, c7, c8, c9]) rfl ⟨rfl, ?_⟩
    (repeat' (first | (with_reducible assumption) | (with_reducible exact Ext.refl _) | (with_reducible refine Ext.grow ?_ _) | (with_reducible refine Ext.drew ?_) | (with_reducible refine Ext.set ?_ ?_ _) | omega | (simp; done) | (simp; omega) | (refine Ext.trans ?_ (by assumption))))
  · go_enter Try.func35, Try.ntmps35
    go_wp2_with fail
    refine calls_abs (fun W => Ext w W ∧ w.heap.size + 5 ≤ W.heap.size ∧ W.cell? ⟨w.heap.size + 1, 0, none⟩ = some (.int .i32 vx) ∧ W.cell? ⟨w.heap.size + 1, 1, none⟩ = some (.int .i32 vy) ∧ W.frozen? ⟨w.heap.size + 1, 0, none⟩ = false ∧ W.frozen? ⟨w.heap.size + 1, 1, none⟩ = false ∧ W.cell? ⟨w.heap.size + 1 + 1, 0, none⟩ = some (.int .i32 lx) ∧ W.cell? ⟨w.heap.size + 1 + 1, 1, none⟩ = some (.int .i32 ly) ∧ W.cell? ⟨w.heap.size + 1 + 1, 2, none⟩ = some (.int .i32 ux) ∧ W.cell? ⟨w.heap.size + 1 + 1, 3, none⟩ = some (.int .i32 uy) ∧ W.cell? ⟨w.heap.size + 1 + 1 + 1, 0, none⟩ = some (.int .i32 0) ∧ W.cell? ⟨w.heap.size + 1 + 1 + 1, 1, none⟩ = some (.int .i32 0) ∧ W.frozen? ⟨w.heap.size + 1 + 1 + 1, 0, none⟩ = false ∧ W.frozen? ⟨w.heap.size + 1 + 1 + 1, 1, none⟩ = false ∧ W.cell? ⟨w.heap.size + 1 + 1 + 1 + 1, 0, none⟩ = some (.int .i32 0) ∧ W.cell? ⟨w.heap.size + 1 + 1 + 1 + 1, 1, none⟩ = some (.int .i32 0) ∧ W.frozen? ⟨w.heap.size + 1 + 1 + 1 + 1, 0, none⟩ = false ∧ W.frozen? ⟨w.heap.size + 1 + 1 + 1 + 1, 1, none⟩ = false) (by refine ⟨by (repeat' (first | (with_reducible assumption) | (with_reducible exact Ext.refl _) | (with_reducible refine Ext.grow ?_ _) | (with_reducible refine Ext.drew ?_) | (with_reducible refine Ext.set ?_ ?_ _) | omega | (simp; done) | (simp; omega) | (refine Ext.trans ?_ (by assumption)))), by first | (with_reducible assumption) | (simp; done) | (simp; omega), ?_, ?_, ?_, ?_, ?_, ?_, ?_, ?_, ?_, ?_, ?_, ?_, ?_, ?_, ?_, ?_⟩ <;> first | (with_reducible assumption) | (go_simp; done) | (simp; omega)) ?_
    (try clear hx0)
    (try clear hsz)
    (try clear c0)
    (try clear c1)
    (try clear f0)
    (try clear f1)
    (try clear c2)
    (try clear c3)
    (try clear c4)
    (try clear c5)
    (try clear c6)
    (try clear c7)
    (try clear f6)
    (try clear f7)
    (try clear c8)
    (try clear c9)
    (try clear f8)
    (try clear f9)
    rintro W ⟨hx0, hsz, c0, c1, f0, f1, c2, c3, c4, c5, c6, c7, f6, f7, c8, c9, f8, f9⟩
    refine (rplus_any _ _ _ _ _ (by omega) (by omega) (by omega) (by omega)).mono ?_
    rintro e wx ⟨rfl, hx⟩
    have hsz1 := Ext.size hx
    replace c0 := (Ext.cell hx (by dsimp only; omega)).trans c0
    replace c1 := (Ext.cell hx (by dsimp only; omega)).trans c1
    replace c2 := (Ext.cell hx (by dsimp only; omega)).trans c2
    replace c3 := (Ext.cell hx (by dsimp only; omega)).trans c3
    replace c4 := (Ext.cell hx (by dsimp only; omega)).trans c4
    replace c5 := (Ext.cell hx (by dsimp only; omega)).trans c5
    replace c6 := (Ext.cell hx (by dsimp only; omega)).trans c6
    replace c7 := (Ext.cell hx (by dsimp only; omega)).trans c7
    replace c8 := (Ext.cell hx (by dsimp only; omega)).trans c8
    replace c9 := (Ext.cell hx (by dsimp only; omega)).trans c9
    replace f0 := (Ext.frozen hx (by dsimp only; omega)).trans f0
    replace f1 := (Ext.frozen hx (by dsimp only; omega)).trans f1
    replace f6 := (Ext.frozen hx (by dsimp only; omega)).trans f6
    replace f7 := (Ext.frozen hx (by dsimp only; omega)).trans f7
    replace f8 := (Ext.frozen hx (by dsimp only; omega)).trans f8
    replace f9 := (Ext.frozen hx (by dsimp only; omega)).trans f9
    replace hx0 := Ext.trans hx0 hx
    replace hsz := Nat.le_trans hsz hsz1
    clear hx hsz1
    have hl0 : w.heap.size < wx.heap.size := by omega
    have hl1 : w.heap.size + 1 < wx.heap.size := by omega
    have hl2 : w.heap.size + 1 + 1 < wx.heap.size := by omega
    have hl3 : w.heap.size + 1 + 1 + 1 < wx.heap.size := by omega
    have hl4 : w.heap.size + 1 + 1 + 1 + 1 < wx.heap.size := by omega
    go_wp2_with (first | (go_at_call 51; refine (rback_any _ _ (by omega)).mono ?_; rintro e wx ⟨rfl, rfl⟩))
    refine wp_abs (fun W => Ext w W ∧ w.heap.size + 5 ≤ W.heap.size ∧ W.cell? ⟨wx.heap.size, 0, none⟩ = some (.int .i32 (ux)) ∧ W.cell? ⟨wx.heap.size, 1, none⟩ = some (.int .i32 (sat (py + vy))) ∧ W.cell? ⟨w.heap.size + 1, 0, none⟩ = some (.int .i32 (backF vx)) ∧ W.cell? ⟨w.heap.size + 1, 1, none⟩ = some (.int .i32 (vy)) ∧ W.cell? ⟨w.heap.size + 1 + 1 + 1, 0, none⟩ = some (.int .i32 0) ∧ W.cell? ⟨w.heap.size + 1 + 1 + 1, 1, none⟩ = some (.int .i32 0) ∧ W.frozen? ⟨w.heap.size + 1 + 1 + 1, 0, none⟩ = false ∧ W.frozen? ⟨w.heap.size + 1 + 1 + 1, 1, none⟩ = false ∧ W.cell? ⟨w.heap.size + 1 + 1 + 1 + 1, 0, none⟩ = some (.int .i32 0) ∧ W.cell? ⟨w.heap.size + 1 + 1 + 1 + 1, 1, none⟩ = some (.int .i32 0) ∧ W.frozen? ⟨w.heap.size + 1 + 1 + 1 + 1, 0, none⟩ = false ∧ W.frozen? ⟨w.heap.size + 1 + 1 + 1 + 1, 1, none⟩ = false) (by refine ⟨by (repeat' (first | (with_reducible assumption) | (with_reducible exact Ext.refl _) | (with_reducible refine Ext.grow ?_ _) | (with_reducible refine Ext.drew ?_) | (with_reducible refine Ext.set ?_ ?_ _) | omega | (simp; done) | (simp; omega) | (refine Ext.trans ?_ (by assumption)))), by first | (with_reducible assumption) | (simp; done) | (simp; omega), ?_, ?_, ?_, ?_, ?_, ?_, ?_, ?_, ?_, ?_, ?_, ?_⟩ <;> first | (with_reducible assumption) | (go_simp; done) | (simp; omega)) ?_
    (try clear hx0)
    (try clear hsz)
    (try clear q0)
    (try clear q1)
    (try clear c0)
    (try clear c1)
    (try clear c6)
    (try clear c7)
    (try clear f6)
    (try clear f7)
    (try clear c8)
    (try clear c9)
    (try clear f8)
    (try clear f9)
    rintro W ⟨hx0, hsz, q0, q1, c0, c1, c6, c7, f6, f7, c8, c9, f8, f9⟩
    go_region
    go_wp2
    refine bodyPost_ret (v := .tuple #[.agg #[.int .i32 (ux), .int .i32 (sat (py + vy))], .agg #[.int .i32 (backF vx), .int .i32 (vy)], .int .i64 (2 + 0)]) (by simp [results, Try.results35, go_sem, c6, c7, c8, c9]) rfl ⟨rfl, ?_⟩
    (repeat' (first | (with_reducible assumption) | (with_reducible exact Ext.refl _) | (with_reducible refine Ext.grow ?_ _) | (with_reducible refine Ext.drew ?_) | (with_reducible refine Ext.set ?_ ?_ _) | omega | (simp; done) | (simp; omega) | (refine Ext.trans ?_ (by assumption))))
  · go_enter Try.func35, Try.ntmps35
    go_wp2_with fail
    refine calls_abs (fun W => Ext w W ∧ w.heap.size + 5 ≤ W.heap.size ∧ W.cell? ⟨w.heap.size + 1, 0, none⟩ = some (.int .i32 vx) ∧ W.cell? ⟨w.heap.size + 1, 1, none⟩ = some (.int .i32 vy) ∧ W.frozen? ⟨w.heap.size + 1, 0, none⟩ = false ∧ W.frozen? ⟨w.heap.size + 1, 1, none⟩ = false ∧ W.cell? ⟨w.heap.size + 1 + 1, 0, none⟩ = some (.int .i32 lx) ∧ W.cell? ⟨w.heap.size + 1 + 1, 1, none⟩ = some (.int .i32 ly) ∧ W.cell? ⟨w.heap.size + 1 + 1, 2, none⟩ = some (.int .i32 ux) ∧ W.cell? ⟨w.heap.size + 1 + 1, 3, none⟩ = some (.int .i32 uy) ∧ W.cell? ⟨w.heap.size + 1 + 1 + 1, 0, none⟩ = some (.int .i32 0) ∧ W.cell? ⟨w.heap.size + 1 + 1 + 1, 1, none⟩ = some (.int .i32 0) ∧ W.frozen? ⟨w.heap.size + 1 + 1 + 1, 0, none⟩ = false ∧ W.frozen? ⟨w.heap.size + 1 + 1 + 1, 1, none⟩ = false ∧ W.cell? ⟨w.heap.size + 1 + 1 + 1 + 1, 0, none⟩ = some (.int .i32 0) ∧ W.cell? ⟨w.heap.size + 1 + 1 + 1 + 1, 1, none⟩ = some (.int .i32 0) ∧ W.frozen? ⟨w.heap.size + 1 + 1 + 1 + 1, 0, none⟩ = false ∧ W.frozen? ⟨w.heap.size + 1 + 1 + 1 + 1, 1, none⟩ = false) (by refine ⟨by (repeat' (first | (with_reducible assumption) | (with_reducible exact Ext.refl _) | (with_reducible refine Ext.grow ?_ _) | (with_reducible refine Ext.drew ?_) | (with_reducible refine Ext.set ?_ ?_ _) | omega | (simp; done) | (simp; omega) | (refine Ext.trans ?_ (by assumption)))), by first | (with_reducible assumption) | (simp; done) | (simp; omega), ?_, ?_, ?_, ?_, ?_, ?_, ?_, ?_, ?_, ?_, ?_, ?_, ?_, ?_, ?_, ?_⟩ <;> first | (with_reducible assumption) | (go_simp; done) | (simp; omega)) ?_
    (try clear hx0)
    (try clear hsz)
    (try clear c0)
    (try clear c1)
    (try clear f0)
    (try clear f1)
    (try clear c2)
    (try clear c3)
    (try clear c4)
    (try clear c5)
    (try clear c6)
    (try clear c7)
    (try clear f6)
    (try clear f7)
    (try clear c8)
    (try clear c9)
    (try clear f8)
    (try clear f9)
    rintro W ⟨hx0, hsz, c0, c1, f0, f1, c2, c3, c4, c5, c6, c7, f6, f7, c8, c9, f8, f9⟩
    refine (rplus_any _ _ _ _ _ (by omega) (by omega) (by omega) (by omega)).mono ?_
    rintro e wx ⟨rfl, hx⟩
    have hsz1 := Ext.size hx
    replace c0 := (Ext.cell hx (by dsimp only; omega)).trans c0
    replace c1 := (Ext.cell hx (by dsimp only; omega)).trans c1
    replace c2 := (Ext.cell hx (by dsimp only; omega)).trans c2
    replace c3 := (Ext.cell hx (by dsimp only; omega)).trans c3
    replace c4 := (Ext.cell hx (by dsimp only; omega)).trans c4
    replace c5 := (Ext.cell hx (by dsimp only; omega)).trans c5
    replace c6 := (Ext.cell hx (by dsimp only; omega)).trans c6
    replace c7 := (Ext.cell hx (by dsimp only; omega)).trans c7
    replace c8 := (Ext.cell hx (by dsimp only; omega)).trans c8
    replace c9 := (Ext.cell hx (by dsimp only; omega)).trans c9
    replace f0 := (Ext.frozen hx (by dsimp only; omega)).trans f0
    replace f1 := (Ext.frozen hx (by dsimp only; omega)).trans f1
    replace f6 := (Ext.frozen hx (by dsimp only; omega)).trans f6
    replace f7 := (Ext.frozen hx (by dsimp only; omega)).trans f7
    replace f8 := (Ext.frozen hx (by dsimp only; omega)).trans f8
    replace f9 := (Ext.frozen hx (by dsimp only; omega)).trans f9
    replace hx0 := Ext.trans hx0 hx
    replace hsz := Nat.le_trans hsz hsz1
    clear hx hsz1
    have hl0 : w.heap.size < wx.heap.size := by omega
    have hl1 : w.heap.size + 1 < wx.heap.size := by omega
    have hl2 : w.heap.size + 1 + 1 < wx.heap.size := by omega
    have hl3 : w.heap.size + 1 + 1 + 1 < wx.heap.size := by omega
    have hl4 : w.heap.size + 1 + 1 + 1 + 1 < wx.heap.size := by omega
    go_wp2_with (first | (go_at_call 51; refine (rback_any _ _ (by omega)).mono ?_; rintro e wx ⟨rfl, rfl⟩))
    refine wp_abs (fun W => Ext w W ∧ w.heap.size + 5 ≤ W.heap.size ∧ W.cell? ⟨wx.heap.size, 0, none⟩ = some (.int .i32 (sat (px + vx))) ∧ W.cell? ⟨wx.heap.size, 1, none⟩ = some (.int .i32 (ly)) ∧ W.cell? ⟨w.heap.size + 1, 0, none⟩ = some (.int .i32 (vx)) ∧ W.cell? ⟨w.heap.size + 1, 1, none⟩ = some (.int .i32 (backF vy)) ∧ W.cell? ⟨w.heap.size + 1 + 1 + 1, 0, none⟩ = some (.int .i32 0) ∧ W.cell? ⟨w.heap.size + 1 + 1 + 1, 1, none⟩ = some (.int .i32 0) ∧ W.frozen? ⟨w.heap.size + 1 + 1 + 1, 0, none⟩ = false ∧ W.frozen? ⟨w.heap.size + 1 + 1 + 1, 1, none⟩ = false ∧ W.cell? ⟨w.heap.size + 1 + 1 + 1 + 1, 0, none⟩ = some (.int .i32 0) ∧ W.cell? ⟨w.heap.size + 1 + 1 + 1 + 1, 1, none⟩ = some (.int .i32 0) ∧ W.frozen? ⟨w.heap.size + 1 + 1 + 1 + 1, 0, none⟩ = false ∧ W.frozen? ⟨w.heap.size + 1 + 1 + 1 + 1, 1, none⟩ = false) (by refine ⟨by (repeat' (first | (with_reducible assumption) | (with_reducible exact Ext.refl _) | (with_reducible refine Ext.grow ?_ _) | (with_reducible refine Ext.drew ?_) | (with_reducible refine Ext.set ?_ ?_ _) | omega | (simp; done) | (simp; omega) | (refine Ext.trans ?_ (by assumption)))), by first | (with_reducible assumption) | (simp; done) | (simp; omega), ?_, ?_, ?_, ?_, ?_, ?_, ?_, ?_, ?_, ?_, ?_, ?_⟩ <;> first | (with_reducible assumption) | (go_simp; done) | (simp; omega)) ?_
    (try clear hx0)
    (try clear hsz)
    (try clear q0)
    (try clear q1)
    (try clear c0)
    (try clear c1)
    (try clear c6)
    (try clear c7)
    (try clear f6)
    (try clear f7)
    (try clear c8)
    (try clear c9)
    (try clear f8)
    (try clear f9)
    rintro W ⟨hx0, hsz, q0, q1, c0, c1, c6, c7, f6, f7, c8, c9, f8, f9⟩
    go_region
    go_wp2
    refine bodyPost_ret (v := .tuple #[.agg #[.int .i32 (sat (px + vx)), .int .i32 (ly)], .agg #[.int .i32 (vx), .int .i32 (backF vy)], .int .i64 (0 + 4)]) (by simp [results, Try.results35, go_sem, c6, c7, c8, c9]) rfl ⟨rfl, ?_⟩
    (repeat' (first | (with_reducible assumption) | (with_reducible exact Ext.refl _) | (with_reducible refine Ext.grow ?_ _) | (with_reducible refine Ext.drew ?_) | (with_reducible refine Ext.set ?_ ?_ _) | omega | (simp; done) | (simp; omega) | (refine Ext.trans ?_ (by assumption))))
  · go_enter Try.func35, Try.ntmps35
    go_wp2_with fail
    refine calls_abs (fun W => Ext w W ∧ w.heap.size + 5 ≤ W.heap.size ∧ W.cell? ⟨w.heap.size + 1, 0, none⟩ = some (.int .i32 vx) ∧ W.cell? ⟨w.heap.size + 1, 1, none⟩ = some (.int .i32 vy) ∧ W.frozen? ⟨w.heap.size + 1, 0, none⟩ = false ∧ W.frozen? ⟨w.heap.size + 1, 1, none⟩ = false ∧ W.cell? ⟨w.heap.size + 1 + 1, 0, none⟩ = some (.int .i32 lx) ∧ W.cell? ⟨w.heap.size + 1 + 1, 1, none⟩ = some (.int .i32 ly) ∧ W.cell? ⟨w.heap.size + 1 + 1, 2, none⟩ = some (.int .i32 ux) ∧ W.cell? ⟨w.heap.size + 1 + 1, 3, none⟩ = some (.int .i32 uy) ∧ W.cell? ⟨w.heap.size + 1 + 1 + 1, 0, none⟩ = some (.int .i32 0) ∧ W.cell? ⟨w.heap.size + 1 + 1 + 1, 1, none⟩ = some (.int .i32 0) ∧ W.frozen? ⟨w.heap.size + 1 + 1 + 1, 0, none⟩ = false ∧ W.frozen? ⟨w.heap.size + 1 + 1 + 1, 1, none⟩ = false ∧ W.cell? ⟨w.heap.size + 1 + 1 + 1 + 1, 0, none⟩ = some (.int .i32 0) ∧ W.cell? ⟨w.heap.size + 1 + 1 + 1 + 1, 1, none⟩ = some (.int .i32 0) ∧ W.frozen? ⟨w.heap.size + 1 + 1 + 1 + 1, 0, none⟩ = false ∧ W.frozen? ⟨w.heap.size + 1 + 1 + 1 + 1, 1, none⟩ = false) (by refine ⟨by (repeat' (first | (with_reducible assumption) | (with_reducible exact Ext.refl _) | (with_reducible refine Ext.grow ?_ _) | (with_reducible refine Ext.drew ?_) | (with_reducible refine Ext.set ?_ ?_ _) | omega | (simp; done) | (simp; omega) | (refine Ext.trans ?_ (by assumption)))), by first | (with_reducible assumption) | (simp; done) | (simp; omega), ?_, ?_, ?_, ?_, ?_, ?_, ?_, ?_, ?_, ?_, ?_, ?_, ?_, ?_, ?_, ?_⟩ <;> first | (with_reducible assumption) | (go_simp; done) | (simp; omega)) ?_
    (try clear hx0)
    (try clear hsz)
    (try clear c0)
    (try clear c1)
    (try clear f0)
    (try clear f1)
    (try clear c2)
    (try clear c3)
    (try clear c4)
    (try clear c5)
    (try clear c6)
    (try clear c7)
    (try clear f6)
    (try clear f7)
    (try clear c8)
    (try clear c9)
    (try clear f8)
    (try clear f9)
    rintro W ⟨hx0, hsz, c0, c1, f0, f1, c2, c3, c4, c5, c6, c7, f6, f7, c8, c9, f8, f9⟩
    refine (rplus_any _ _ _ _ _ (by omega) (by omega) (by omega) (by omega)).mono ?_
    rintro e wx ⟨rfl, hx⟩
    have hsz1 := Ext.size hx
    replace c0 := (Ext.cell hx (by dsimp only; omega)).trans c0
    replace c1 := (Ext.cell hx (by dsimp only; omega)).trans c1
    replace c2 := (Ext.cell hx (by dsimp only; omega)).trans c2
    replace c3 := (Ext.cell hx (by dsimp only; omega)).trans c3
    replace c4 := (Ext.cell hx (by dsimp only; omega)).trans c4
    replace c5 := (Ext.cell hx (by dsimp only; omega)).trans c5
    replace c6 := (Ext.cell hx (by dsimp only; omega)).trans c6
    replace c7 := (Ext.cell hx (by dsimp only; omega)).trans c7
    replace c8 := (Ext.cell hx (by dsimp only; omega)).trans c8
    replace c9 := (Ext.cell hx (by dsimp only; omega)).trans c9
    replace f0 := (Ext.frozen hx (by dsimp only; omega)).trans f0
    replace f1 := (Ext.frozen hx (by dsimp only; omega)).trans f1
    replace f6 := (Ext.frozen hx (by dsimp only; omega)).trans f6
    replace f7 := (Ext.frozen hx (by dsimp only; omega)).trans f7
    replace f8 := (Ext.frozen hx (by dsimp only; omega)).trans f8
    replace f9 := (Ext.frozen hx (by dsimp only; omega)).trans f9
    replace hx0 := Ext.trans hx0 hx
    replace hsz := Nat.le_trans hsz hsz1
    clear hx hsz1
    have hl0 : w.heap.size < wx.heap.size := by omega
    have hl1 : w.heap.size + 1 < wx.heap.size := by omega
    have hl2 : w.heap.size + 1 + 1 < wx.heap.size := by omega
    have hl3 : w.heap.size + 1 + 1 + 1 < wx.heap.size := by omega
    have hl4 : w.heap.size + 1 + 1 + 1 + 1 < wx.heap.size := by omega
    go_wp2_with (first | (go_at_call 51; refine (rback_any _ _ (by omega)).mono ?_; rintro e wx ⟨rfl, rfl⟩))
    refine wp_abs (fun W => Ext w W ∧ w.heap.size + 5 ≤ W.heap.size ∧ W.cell? ⟨wx.heap.size, 0, none⟩ = some (.int .i32 (sat (px + vx))) ∧ W.cell? ⟨wx.heap.size, 1, none⟩ = some (.int .i32 (uy)) ∧ W.cell? ⟨w.heap.size + 1, 0, none⟩ = some (.int .i32 (vx)) ∧ W.cell? ⟨w.heap.size + 1, 1, none⟩ = some (.int .i32 (backF vy)) ∧ W.cell? ⟨w.heap.size + 1 + 1 + 1, 0, none⟩ = some (.int .i32 0) ∧ W.cell? ⟨w.heap.size + 1 + 1 + 1, 1, none⟩ = some (.int .i32 0) ∧ W.frozen? ⟨w.heap.size + 1 + 1 + 1, 0, none⟩ = false ∧ W.frozen? ⟨w.heap.size + 1 + 1 + 1, 1, none⟩ = false ∧ W.cell? ⟨w.heap.size + 1 + 1 + 1 + 1, 0, none⟩ = some (.int .i32 0) ∧ W.cell? ⟨w.heap.size + 1 + 1 + 1 + 1, 1, none⟩ = some (.int .i32 0) ∧ W.frozen? ⟨w.heap.size + 1 + 1 + 1 + 1, 0, none⟩ = false ∧ W.frozen? ⟨w.heap.size + 1 + 1 + 1 + 1, 1, none⟩ = false) (by refine ⟨by (repeat' (first | (with_reducible assumption) | (with_reducible exact Ext.refl _) | (with_reducible refine Ext.grow ?_ _) | (with_reducible refine Ext.drew ?_) | (with_reducible refine Ext.set ?_ ?_ _) | omega | (simp; done) | (simp; omega) | (refine Ext.trans ?_ (by assumption)))), by first | (with_reducible assumption) | (simp; done) | (simp; omega), ?_, ?_, ?_, ?_, ?_, ?_, ?_, ?_, ?_, ?_, ?_, ?_⟩ <;> first | (with_reducible assumption) | (go_simp; done) | (simp; omega)) ?_
    (try clear hx0)
    (try clear hsz)
    (try clear q0)
    (try clear q1)
    (try clear c0)
    (try clear c1)
    (try clear c6)
    (try clear c7)
    (try clear f6)
    (try clear f7)
    (try clear c8)
    (try clear c9)
    (try clear f8)
    (try clear f9)
    rintro W ⟨hx0, hsz, q0, q1, c0, c1, c6, c7, f6, f7, c8, c9, f8, f9⟩
    go_region
    go_wp2
    refine bodyPost_ret (v := .tuple #[.agg #[.int .i32 (sat (px + vx)), .int .i32 (uy)], .agg #[.int .i32 (vx), .int .i32 (backF vy)], .int .i64 (0 + 8)]) (by simp [results, Try.results35, go_sem, c6, c7, c8, c9]) rfl ⟨rfl, ?_⟩
    (repeat' (first | (with_reducible assumption) | (with_reducible exact Ext.refl _) | (with_reducible refine Ext.grow ?_ _) | (with_reducible refine Ext.drew ?_) | (with_reducible refine Ext.set ?_ ?_ _) | omega | (simp; done) | (simp; omega) | (refine Ext.trans ?_ (by assumption))))
  · go_enter Try.func35, Try.ntmps35
    go_wp2_with fail
    refine calls_abs (fun W => Ext w W ∧ w.heap.size + 5 ≤ W.heap.size ∧ W.cell? ⟨w.heap.size + 1, 0, none⟩ = some (.int .i32 vx) ∧ W.cell? ⟨w.heap.size + 1, 1, none⟩ = some (.int .i32 vy) ∧ W.frozen? ⟨w.heap.size + 1, 0, none⟩ = false ∧ W.frozen? ⟨w.heap.size + 1, 1, none⟩ = false ∧ W.cell? ⟨w.heap.size + 1 + 1, 0, none⟩ = some (.int .i32 lx) ∧ W.cell? ⟨w.heap.size + 1 + 1, 1, none⟩ = some (.int .i32 ly) ∧ W.cell? ⟨w.heap.size + 1 + 1, 2, none⟩ = some (.int .i32 ux) ∧ W.cell? ⟨w.heap.size + 1 + 1, 3, none⟩ = some (.int .i32 uy) ∧ W.cell? ⟨w.heap.size + 1 + 1 + 1, 0, none⟩ = some (.int .i32 0) ∧ W.cell? ⟨w.heap.size + 1 + 1 + 1, 1, none⟩ = some (.int .i32 0) ∧ W.frozen? ⟨w.heap.size + 1 + 1 + 1, 0, none⟩ = false ∧ W.frozen? ⟨w.heap.size + 1 + 1 + 1, 1, none⟩ = false ∧ W.cell? ⟨w.heap.size + 1 + 1 + 1 + 1, 0, none⟩ = some (.int .i32 0) ∧ W.cell? ⟨w.heap.size + 1 + 1 + 1 + 1, 1, none⟩ = some (.int .i32 0) ∧ W.frozen? ⟨w.heap.size + 1 + 1 + 1 + 1, 0, none⟩ = false ∧ W.frozen? ⟨w.heap.size + 1 + 1 + 1 + 1, 1, none⟩ = false) (by refine ⟨by (repeat' (first | (with_reducible assumption) | (with_reducible exact Ext.refl _) | (with_reducible refine Ext.grow ?_ _) | (with_reducible refine Ext.drew ?_) | (with_reducible refine Ext.set ?_ ?_ _) | omega | (simp; done) | (simp; omega) | (refine Ext.trans ?_ (by assumption)))), by first | (with_reducible assumption) | (simp; done) | (simp; omega), ?_, ?_, ?_, ?_, ?_, ?_, ?_, ?_, ?_, ?_, ?_, ?_, ?_, ?_, ?_, ?_⟩ <;> first | (with_reducible assumption) | (go_simp; done) | (simp; omega)) ?_
    (try clear hx0)
    (try clear hsz)
    (try clear c0)
    (try clear c1)
    (try clear f0)
    (try clear f1)
    (try clear c2)
    (try clear c3)
    (try clear c4)
    (try clear c5)
    (try clear c6)
    (try clear c7)
    (try clear f6)
    (try clear f7)
    (try clear c8)
    (try clear c9)
    (try clear f8)
    (try clear f9)
    rintro W ⟨hx0, hsz, c0, c1, f0, f1, c2, c3, c4, c5, c6, c7, f6, f7, c8, c9, f8, f9⟩
    refine (rplus_any _ _ _ _ _ (by omega) (by omega) (by omega) (by omega)).mono ?_
    rintro e wx ⟨rfl, hx⟩
    have hsz1 := Ext.size hx
    replace c0 := (Ext.cell hx (by dsimp only; omega)).trans c0
    replace c1 := (Ext.cell hx (by dsimp only; omega)).trans c1
    replace c2 := (Ext.cell hx (by dsimp only; omega)).trans c2
    replace c3 := (Ext.cell hx (by dsimp only; omega)).trans c3
    replace c4 := (Ext.cell hx (by dsimp only; omega)).trans c4
    replace c5 := (Ext.cell hx (by dsimp only; omega)).trans c5
    replace c6 := (Ext.cell hx (by dsimp only; omega)).trans c6
    replace c7 := (Ext.cell hx (by dsimp only; omega)).trans c7
    replace c8 := (Ext.cell hx (by dsimp only; omega)).trans c8
    replace c9 := (Ext.cell hx (by dsimp only; omega)).trans c9
    replace f0 := (Ext.frozen hx (by dsimp only; omega)).trans f0
    replace f1 := (Ext.frozen hx (by dsimp only; omega)).trans f1
    replace f6 := (Ext.frozen hx (by dsimp only; omega)).trans f6
    replace f7 := (Ext.frozen hx (by dsimp only; omega)).trans f7
    replace f8 := (Ext.frozen hx (by dsimp only; omega)).trans f8
    replace f9 := (Ext.frozen hx (by dsimp only; omega)).trans f9
    replace hx0 := Ext.trans hx0 hx
    replace hsz := Nat.le_trans hsz hsz1
    clear hx hsz1
    have hl0 : w.heap.size < wx.heap.size := by omega
    have hl1 : w.heap.size + 1 < wx.heap.size := by omega
    have hl2 : w.heap.size + 1 + 1 < wx.heap.size := by omega
    have hl3 : w.heap.size + 1 + 1 + 1 < wx.heap.size := by omega
    have hl4 : w.heap.size + 1 + 1 + 1 + 1 < wx.heap.size := by omega
    go_wp2_with (first | (go_at_call 51; refine (rback_any _ _ (by omega)).mono ?_; rintro e wx ⟨rfl, rfl⟩))
    refine wp_abs (fun W => Ext w W ∧ w.heap.size + 5 ≤ W.heap.size ∧ W.cell? ⟨wx.heap.size, 0, none⟩ = some (.int .i32 (sat (px + vx))) ∧ W.cell? ⟨wx.heap.size, 1, none⟩ = some (.int .i32 (sat (py + vy))) ∧ W.cell? ⟨w.heap.size + 1, 0, none⟩ = some (.int .i32 (vx)) ∧ W.cell? ⟨w.heap.size + 1, 1, none⟩ = some (.int .i32 (vy)) ∧ W.cell? ⟨w.heap.size + 1 + 1 + 1, 0, none⟩ = some (.int .i32 0) ∧ W.cell? ⟨w.heap.size + 1 + 1 + 1, 1, none⟩ = some (.int .i32 0) ∧ W.frozen? ⟨w.heap.size + 1 + 1 + 1, 0, none⟩ = false ∧ W.frozen? ⟨w.heap.size + 1 + 1 + 1, 1, none⟩ = false ∧ W.cell? ⟨w.heap.size + 1 + 1 + 1 + 1, 0, none⟩ = some (.int .i32 0) ∧ W.cell? ⟨w.heap.size + 1 + 1 + 1 + 1, 1, none⟩ = some (.int .i32 0) ∧ W.frozen? ⟨w.heap.size + 1 + 1 + 1 + 1, 0, none⟩ = false ∧ W.frozen? ⟨w.heap.size + 1 + 1 + 1 + 1, 1, none⟩ = false) (by refine ⟨by (repeat' (first | (with_reducible assumption) | (with_reducible exact Ext.refl _) | (with_reducible refine Ext.grow ?_ _) | (with_reducible refine Ext.drew ?_) | (with_reducible refine Ext.set ?_ ?_ _) | omega | (simp; done) | (simp; omega) | (refine Ext.trans ?_ (by assumption)))), by first | (with_reducible assumption) | (simp; done) | (simp; omega), ?_, ?_, ?_, ?_, ?_, ?_, ?_, ?_, ?_, ?_, ?_, ?_⟩ <;> first | (with_reducible assumption) | (go_simp; done) | (simp; omega)) ?_
    (try clear hx0)
    (try clear hsz)
    (try clear q0)
    (try clear q1)
    (try clear c0)
    (try clear c1)
    (try clear c6)
    (try clear c7)
    (try clear f6)
    (try clear f7)
    (try clear c8)
    (try clear c9)
    (try clear f8)
    (try clear f9)
    rintro W ⟨hx0, hsz, q0, q1, c0, c1, c6, c7, f6, f7, c8, c9, f8, f9⟩
    go_region
    go_wp2
    refine bodyPost_ret (v := .tuple #[.agg #[.int .i32 (sat (px + vx)), .int .i32 (sat (py + vy))], .agg #[.int .i32 (vx), .int .i32 (vy)], .int .i64 (0 + 0)]) (by simp [results, Try.results35, go_sem, c6, c7, c8, c9]) rfl ⟨rfl, ?_⟩
    (repeat' (first | (with_reducible assumption) | (with_reducible exact Ext.refl _) | (with_reducible refine Ext.grow ?_ _) | (with_reducible refine Ext.drew ?_) | (with_reducible refine Ext.set ?_ ?_ _) | omega | (simp; done) | (simp; omega) | (refine Ext.trans ?_ (by assumption))))

theorem rmove_any (px py vx vy lx ly ux uy : Int) (w : World) (hpx : -2147483648 ≤ px ∧ px ≤ 2147483647) (hpy : -2147483648 ≤ py ∧ py ≤ 2147483647) (hvx : -2147483648 ≤ vx ∧ vx ≤ 2147483647) (hvy : -2147483648 ≤ vy ∧ vy ≤ 2147483647) (hlx : -2147483648 ≤ lx ∧ lx ≤ 2147483647) (hly : -2147483648 ≤ ly ∧ ly ≤ 2147483647) (hux : -2147483648 ≤ ux ∧ ux ≤ 2147483647) (huy : -2147483648 ≤ uy ∧ uy ≤ 2147483647) (g1 : lx ≤ ux) (g2 : ly ≤ uy) :
    Calls Try.prog 35 #[.agg #[.int .i32 (px), .int .i32 (py)], .agg #[.int .i32 (vx), .int .i32 (vy)], .agg #[.int .i32 lx, .int .i32 ly, .int .i32 ux, .int .i32 uy]] w fun e w' => e = .returned (.tuple #[.agg #[.int .i32 (wq px vx lx ux), .int .i32 (wq py vy ly uy)], .agg #[.int .i32 (wv px vx lx ux), .int .i32 (wv py vy ly uy)], .int .i64 (wk px vx lx ux 1 2 + wk py vy ly uy 4 8)]) ∧ Ext w w' := by
  refine rmove_core px py vx vy lx ly ux uy _ _ _ _ _ _ w hpx hpy hvx hvy hlx hly hux huy g1 g2 ?_ ?_
  · unfold wq wv wk
    by_cases a : sat (px + vx) < lx
    · rw [if_pos a, if_pos a, if_pos a]; exact .inl ⟨a, rfl, rfl, rfl⟩
    · by_cases b : ux < sat (px + vx)
      · rw [if_neg a, if_neg a, if_neg a, if_pos b, if_pos b, if_pos b]; exact .inr (.inl ⟨by omega, b, rfl, rfl, rfl⟩)
      · rw [if_neg a, if_neg a, if_neg a, if_neg b, if_neg b, if_neg b]; exact .inr (.inr ⟨by omega, by omega, rfl, rfl, rfl⟩)
  · unfold wq wv wk
    by_cases a : sat (py + vy) < ly
    · rw [if_pos a, if_pos a, if_pos a]; exact .inl ⟨a, rfl, rfl, rfl⟩
    · by_cases b : uy < sat (py + vy)
      · rw [if_neg a, if_neg a, if_neg a, if_pos b, if_pos b, if_pos b]; exact .inr (.inl ⟨by omega, b, rfl, rfl, rfl⟩)
      · rw [if_neg a, if_neg a, if_neg a, if_neg b, if_neg b, if_neg b]; exact .inr (.inr ⟨by omega, by omega, rfl, rfl, rfl⟩)

end Go.Proofs.Ytceffompldihjaa
