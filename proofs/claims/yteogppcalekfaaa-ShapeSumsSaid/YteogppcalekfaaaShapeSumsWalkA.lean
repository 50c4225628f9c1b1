/- THE WALK OF 'ShapeSums', where the box made smaller is right. Conditions: none but the arguments' kinds. Own work. -/
import Derived.Test.YteogppcalekfaaaShape6
namespace Go.Proofs.Yteogppcalekfaaa
open Go.RowKit
set_option linter.unusedVariables false
set_option linter.unusedSimpArgs false
set_option maxRecDepth 100000

set_option maxHeartbeats 16000000 in
theorem ShapeSums_good (ax ay bx bz f lx ly ux uy : Int) (w : World) (hax : -2147483648 ≤ ax ∧ ax ≤ 2147483647) (hay : -2147483648 ≤ ay ∧ ay ≤ 2147483647) (hbx : -2147483648 ≤ bx ∧ bx ≤ 2147483647) (hbz : -2147483648 ≤ bz ∧ bz ≤ 2147483647) (hf : -2147483648 ≤ f ∧ f ≤ 2147483647) (hlx : -2147483648 ≤ lx ∧ lx ≤ 2147483647) (hly : -2147483648 ≤ ly ∧ ly ≤ 2147483647) (hux : -2147483648 ≤ ux ∧ ux ≤ 2147483647) (huy : -2147483648 ≤ uy ∧ uy ≤ 2147483647) (k : Hid ((decide (sat (lx + f) ≤ sat (ux - f)) && decide (sat (ly + f) ≤ sat (uy - f))) = true)) :
    Calls Try.prog 12 #[.agg #[.int .i32 (ax), .int .i32 (ay)], .agg #[.int .i32 (bx), .int .i32 (bz)], .int .i32 f, .agg #[.int .i32 lx, .int .i32 ly, .int .i32 ux, .int .i32 uy]] w fun e w' => e = .returned (.bool true) ∧ Ext w w' := by
  have q1 := sat_bd (lx + f)
  have q2 := sat_bd (ly + f)
  have q3 := sat_bd (ux - f)
  have q4 := sat_bd (uy - f)
  go_enter Try.func12, Try.ntmps12
  go_wp2_with fail
  refine calls_abs (fun W => Ext w W ∧ w.heap.size + 3 ≤ W.heap.size ∧ W.cell? ⟨w.heap.size, 0, none⟩ = some (.int .i32 (ax)) ∧ W.cell? ⟨w.heap.size, 1, none⟩ = some (.int .i32 (ay)) ∧ W.cell? ⟨w.heap.size + 1, 0, none⟩ = some (.int .i32 (bx)) ∧ W.cell? ⟨w.heap.size + 1, 1, none⟩ = some (.int .i32 (bz)) ∧ W.cell? ⟨w.heap.size + 1 + 1, 0, none⟩ = some (.int .i32 (lx)) ∧ W.cell? ⟨w.heap.size + 1 + 1, 1, none⟩ = some (.int .i32 (ly)) ∧ W.cell? ⟨w.heap.size + 1 + 1, 2, none⟩ = some (.int .i32 (ux)) ∧ W.cell? ⟨w.heap.size + 1 + 1, 3, none⟩ = some (.int .i32 (uy))) (by refine ⟨by (repeat' (first | (with_reducible assumption) | (with_reducible exact Ext.refl _) | (with_reducible refine Ext.grow ?_ _) | (with_reducible refine Ext.drew ?_) | (with_reducible refine Ext.set ?_ ?_ _) | omega | (simp; done) | (simp; omega) | (refine Ext.trans ?_ (by assumption)))), by first | (with_reducible assumption) | (simp; done) | (simp; omega), ?_, ?_, ?_, ?_, ?_, ?_, ?_, ?_⟩ <;> first | (with_reducible assumption) | (go_simp; done) | (simp; omega)) ?_
  (try clear hx0)
  (try clear hsz)
  (try clear c0)
  (try clear c1)
  (try clear b0)
  (try clear b1)
  (try clear x0)
  (try clear x1)
  (try clear x2)
  (try clear x3)
  rintro W ⟨hx0, hsz, c0, c1, b0, b1, x0, x1, x2, x3⟩
  refine (awake10 _).mono ?_
  rintro e wx ⟨rfl, hx⟩
  have hsz1 := Ext.size hx
  replace c0 := (Ext.cell hx (by dsimp only; omega)).trans c0
  replace c1 := (Ext.cell hx (by dsimp only; omega)).trans c1
  replace b0 := (Ext.cell hx (by dsimp only; omega)).trans b0
  replace b1 := (Ext.cell hx (by dsimp only; omega)).trans b1
  replace x0 := (Ext.cell hx (by dsimp only; omega)).trans x0
  replace x1 := (Ext.cell hx (by dsimp only; omega)).trans x1
  replace x2 := (Ext.cell hx (by dsimp only; omega)).trans x2
  replace x3 := (Ext.cell hx (by dsimp only; omega)).trans x3
  replace hx0 := Ext.trans hx0 hx
  replace hsz := Nat.le_trans hsz hsz1
  clear hx hsz1
  have hl0 : w.heap.size < wx.heap.size := by omega
  have hl1 : w.heap.size + 1 < wx.heap.size := by omega
  have hl2 : w.heap.size + 1 + 1 < wx.heap.size := by omega
  go_wp2_with fail
  refine (shrink_good _ _ _ _ _ _ (by omega) (by omega) (by omega) (by omega) (by omega) k).mono ?_
  rintro e wx ⟨rfl, hx⟩
  have hsz1 := Ext.size hx
  replace c0 := (Ext.cell hx (by dsimp only; omega)).trans c0
  replace c1 := (Ext.cell hx (by dsimp only; omega)).trans c1
  replace b0 := (Ext.cell hx (by dsimp only; omega)).trans b0
  replace b1 := (Ext.cell hx (by dsimp only; omega)).trans b1
  replace x0 := (Ext.cell hx (by dsimp only; omega)).trans x0
  replace x1 := (Ext.cell hx (by dsimp only; omega)).trans x1
  replace x2 := (Ext.cell hx (by dsimp only; omega)).trans x2
  replace x3 := (Ext.cell hx (by dsimp only; omega)).trans x3
  replace hx0 := Ext.trans hx0 hx
  replace hsz := Nat.le_trans hsz hsz1
  clear hx hsz1 hl0 hl1 hl2
  have hl0 : w.heap.size < wx.heap.size := by omega
  have hl1 : w.heap.size + 1 < wx.heap.size := by omega
  have hl2 : w.heap.size + 1 + 1 < wx.heap.size := by omega
  go_wp2_with fail
  refine wp_abs (fun W => Ext w W ∧ w.heap.size + 3 ≤ W.heap.size ∧ W.cell? ⟨w.heap.size, 0, none⟩ = some (.int .i32 (ax)) ∧ W.cell? ⟨w.heap.size, 1, none⟩ = some (.int .i32 (ay)) ∧ W.cell? ⟨w.heap.size + 1, 0, none⟩ = some (.int .i32 (bx)) ∧ W.cell? ⟨w.heap.size + 1, 1, none⟩ = some (.int .i32 (bz)) ∧ W.cell? ⟨w.heap.size + 1 + 1, 0, none⟩ = some (.int .i32 (lx)) ∧ W.cell? ⟨w.heap.size + 1 + 1, 1, none⟩ = some (.int .i32 (ly)) ∧ W.cell? ⟨w.heap.size + 1 + 1, 2, none⟩ = some (.int .i32 (ux)) ∧ W.cell? ⟨w.heap.size + 1 + 1, 3, none⟩ = some (.int .i32 (uy)) ∧ W.cell? ⟨wx.heap.size, 0, none⟩ = some (.int .i32 (sat (lx + f))) ∧ W.cell? ⟨wx.heap.size, 1, none⟩ = some (.int .i32 (sat (ly + f))) ∧ W.cell? ⟨wx.heap.size, 2, none⟩ = some (.int .i32 (sat (ux - f))) ∧ W.cell? ⟨wx.heap.size, 3, none⟩ = some (.int .i32 (sat (uy - f))) ∧ w.heap.size < W.heap.size ∧ w.heap.size + 1 < W.heap.size ∧ w.heap.size + 1 + 1 < W.heap.size ∧ wx.heap.size < W.heap.size) (by refine ⟨by (repeat' (first | (with_reducible assumption) | (with_reducible exact Ext.refl _) | (with_reducible refine Ext.grow ?_ _) | (with_reducible refine Ext.drew ?_) | (with_reducible refine Ext.set ?_ ?_ _) | omega | (simp; done) | (simp; omega) | (refine Ext.trans ?_ (by assumption)))), by first | (with_reducible assumption) | (simp; done) | (simp; omega), ?_, ?_, ?_, ?_, ?_, ?_, ?_, ?_, ?_, ?_, ?_, ?_, ?_, ?_, ?_, ?_⟩ <;> first | (with_reducible assumption) | (go_simp; done) | (simp; omega)) ?_
  (try clear hx0)
  (try clear hsz)
  (try clear c0)
  (try clear c1)
  (try clear b0)
  (try clear b1)
  (try clear x0)
  (try clear x1)
  (try clear x2)
  (try clear x3)
  (try clear d0)
  (try clear d1)
  (try clear d2)
  (try clear d3)
  (try clear l0)
  (try clear l1)
  (try clear l2)
  (try clear lm)
  rintro V ⟨hx0, hsz, c0, c1, b0, b1, x0, x1, x2, x3, d0, d1, d2, d3, l0, l1, l2, lm⟩
  generalize wx.heap.size = bm at *
  go_region_held3 (fun w' => w'.cell? ⟨w.heap.size, 0, none⟩ = some (.int .i32 (ax)) ∧ w'.cell? ⟨w.heap.size, 1, none⟩ = some (.int .i32 (ay)) ∧ w'.cell? ⟨w.heap.size + 1, 0, none⟩ = some (.int .i32 (bx)) ∧ w'.cell? ⟨w.heap.size + 1, 1, none⟩ = some (.int .i32 (bz)) ∧ w'.cell? ⟨w.heap.size + 1 + 1, 0, none⟩ = some (.int .i32 (lx)) ∧ w'.cell? ⟨w.heap.size + 1 + 1, 1, none⟩ = some (.int .i32 (ly)) ∧ w'.cell? ⟨w.heap.size + 1 + 1, 2, none⟩ = some (.int .i32 (ux)) ∧ w'.cell? ⟨w.heap.size + 1 + 1, 3, none⟩ = some (.int .i32 (uy)) ∧ w'.cell? ⟨bm, 0, none⟩ = some (.int .i32 (sat (lx + f))) ∧ w'.cell? ⟨bm, 1, none⟩ = some (.int .i32 (sat (ly + f))) ∧ w'.cell? ⟨bm, 2, none⟩ = some (.int .i32 (sat (ux - f))) ∧ w'.cell? ⟨bm, 3, none⟩ = some (.int .i32 (sat (uy - f))) ∧ Ext w w' ∧ w.heap.size < w'.heap.size ∧ w.heap.size + 1 < w'.heap.size ∧ w.heap.size + 1 + 1 < w'.heap.size ∧ bm < w'.heap.size)
    (((try dsimp only); (try go_split_ands); (repeat' (with_reducible apply And.intro)) <;> first | (with_reducible assumption) | ((with_reducible refine Ext.trans ?_ hx); (with_reducible assumption)) | ((with_reducible refine (Ext.cell hx ?_).trans ?_) <;> first | (with_reducible assumption) | (simp; done) | (simp; omega)) | ((with_reducible refine (Ext.frozen hx ?_).trans ?_) <;> first | (with_reducible assumption) | (simp; done) | (simp; omega)) | ((with_reducible refine Ext.held hx ?_ ?_) <;> first | (with_reducible assumption) | (simp; done) | (simp; omega)) | ((with_reducible refine Nat.le_trans ?_ (Ext.size hx)); (with_reducible assumption)) | ((with_reducible refine Nat.lt_of_lt_of_le ?_ (Ext.size hx)); (with_reducible assumption)) | ((with_reducible refine Ext.drew ?_); (repeat' (first | (with_reducible assumption) | (with_reducible exact Ext.refl _) | (with_reducible refine Ext.grow ?_ _) | (with_reducible refine Ext.drew ?_) | (with_reducible refine Ext.set ?_ ?_ _) | omega | (simp; done) | (simp; omega) | (refine Ext.trans ?_ (by assumption)))); done) | ((repeat' (with_reducible refine Ext.set ?_ ?_ _)) <;> first | (with_reducible assumption) | omega | (simp; done) | (simp; omega)) | ((with_reducible refine Ext.grow ?_ _); (repeat' (first | (with_reducible assumption) | (with_reducible exact Ext.refl _) | (with_reducible refine Ext.grow ?_ _) | (with_reducible refine Ext.drew ?_) | (with_reducible refine Ext.set ?_ ?_ _) | omega | (simp; done) | (simp; omega) | (refine Ext.trans ?_ (by assumption)))); done) | ((with_reducible refine heldAt_some ?_); (go_simp; done)) | (go_simp; done) | (simp; omega)))
    (first
      | (go_at_call 28; refine (rplus_any _ _ _ _ _ (by omega) (by omega) (by omega) (by omega)).mono ?_; rintro e wp ⟨rfl, hx⟩; (first | (replace hn := Ext.keep4 hx hn) | (have hn := Ext.fresh4 hx; (try dsimp only [World.drew] at hn)) | (have hn := Ext.freshD4 hx) | skip); have hSx : (fun w' => w'.cell? ⟨w.heap.size, 0, none⟩ = some (.int .i32 (ax)) ∧ w'.cell? ⟨w.heap.size, 1, none⟩ = some (.int .i32 (ay)) ∧ w'.cell? ⟨w.heap.size + 1, 0, none⟩ = some (.int .i32 (bx)) ∧ w'.cell? ⟨w.heap.size + 1, 1, none⟩ = some (.int .i32 (bz)) ∧ w'.cell? ⟨w.heap.size + 1 + 1, 0, none⟩ = some (.int .i32 (lx)) ∧ w'.cell? ⟨w.heap.size + 1 + 1, 1, none⟩ = some (.int .i32 (ly)) ∧ w'.cell? ⟨w.heap.size + 1 + 1, 2, none⟩ = some (.int .i32 (ux)) ∧ w'.cell? ⟨w.heap.size + 1 + 1, 3, none⟩ = some (.int .i32 (uy)) ∧ w'.cell? ⟨bm, 0, none⟩ = some (.int .i32 (sat (lx + f))) ∧ w'.cell? ⟨bm, 1, none⟩ = some (.int .i32 (sat (ly + f))) ∧ w'.cell? ⟨bm, 2, none⟩ = some (.int .i32 (sat (ux - f))) ∧ w'.cell? ⟨bm, 3, none⟩ = some (.int .i32 (sat (uy - f))) ∧ Ext w w' ∧ w.heap.size < w'.heap.size ∧ w.heap.size + 1 < w'.heap.size ∧ w.heap.size + 1 + 1 < w'.heap.size ∧ bm < w'.heap.size) wp := (by (((try dsimp only); (try go_split_ands); (repeat' (with_reducible apply And.intro)) <;> first | (with_reducible assumption) | ((with_reducible refine Ext.trans ?_ hx); (with_reducible assumption)) | ((with_reducible refine (Ext.cell hx ?_).trans ?_) <;> first | (with_reducible assumption) | (simp; done) | (simp; omega)) | ((with_reducible refine (Ext.frozen hx ?_).trans ?_) <;> first | (with_reducible assumption) | (simp; done) | (simp; omega)) | ((with_reducible refine Ext.held hx ?_ ?_) <;> first | (with_reducible assumption) | (simp; done) | (simp; omega)) | ((with_reducible refine Nat.le_trans ?_ (Ext.size hx)); (with_reducible assumption)) | ((with_reducible refine Nat.lt_of_lt_of_le ?_ (Ext.size hx)); (with_reducible assumption)) | ((with_reducible refine Ext.drew ?_); (repeat' (first | (with_reducible assumption) | (with_reducible exact Ext.refl _) | (with_reducible refine Ext.grow ?_ _) | (with_reducible refine Ext.drew ?_) | (with_reducible refine Ext.set ?_ ?_ _) | omega | (simp; done) | (simp; omega) | (refine Ext.trans ?_ (by assumption)))); done) | ((repeat' (with_reducible refine Ext.set ?_ ?_ _)) <;> first | (with_reducible assumption) | omega | (simp; done) | (simp; omega)) | ((with_reducible refine Ext.grow ?_ _); (repeat' (first | (with_reducible assumption) | (with_reducible exact Ext.refl _) | (with_reducible refine Ext.grow ?_ _) | (with_reducible refine Ext.drew ?_) | (with_reducible refine Ext.set ?_ ?_ _) | omega | (simp; done) | (simp; omega) | (refine Ext.trans ?_ (by assumption)))); done) | ((with_reducible refine heldAt_some ?_); (go_simp; done)) | (go_simp; done) | (simp; omega)))); dsimp only at hSx)
      | (go_at_call 29; refine (rless_any _ _ _ _ _ (by omega) (by omega) (by omega) (by omega)).mono ?_; rintro e wl ⟨rfl, hx⟩; (first | (replace hn := Ext.keep4 hx hn) | (have hn := Ext.fresh4 hx; (try dsimp only [World.drew] at hn)) | (have hn := Ext.freshD4 hx) | skip); have hSx : (fun w' => w'.cell? ⟨w.heap.size, 0, none⟩ = some (.int .i32 (ax)) ∧ w'.cell? ⟨w.heap.size, 1, none⟩ = some (.int .i32 (ay)) ∧ w'.cell? ⟨w.heap.size + 1, 0, none⟩ = some (.int .i32 (bx)) ∧ w'.cell? ⟨w.heap.size + 1, 1, none⟩ = some (.int .i32 (bz)) ∧ w'.cell? ⟨w.heap.size + 1 + 1, 0, none⟩ = some (.int .i32 (lx)) ∧ w'.cell? ⟨w.heap.size + 1 + 1, 1, none⟩ = some (.int .i32 (ly)) ∧ w'.cell? ⟨w.heap.size + 1 + 1, 2, none⟩ = some (.int .i32 (ux)) ∧ w'.cell? ⟨w.heap.size + 1 + 1, 3, none⟩ = some (.int .i32 (uy)) ∧ w'.cell? ⟨bm, 0, none⟩ = some (.int .i32 (sat (lx + f))) ∧ w'.cell? ⟨bm, 1, none⟩ = some (.int .i32 (sat (ly + f))) ∧ w'.cell? ⟨bm, 2, none⟩ = some (.int .i32 (sat (ux - f))) ∧ w'.cell? ⟨bm, 3, none⟩ = some (.int .i32 (sat (uy - f))) ∧ Ext w w' ∧ w.heap.size < w'.heap.size ∧ w.heap.size + 1 < w'.heap.size ∧ w.heap.size + 1 + 1 < w'.heap.size ∧ bm < w'.heap.size) wl := (by (((try dsimp only); (try go_split_ands); (repeat' (with_reducible apply And.intro)) <;> first | (with_reducible assumption) | ((with_reducible refine Ext.trans ?_ hx); (with_reducible assumption)) | ((with_reducible refine (Ext.cell hx ?_).trans ?_) <;> first | (with_reducible assumption) | (simp; done) | (simp; omega)) | ((with_reducible refine (Ext.frozen hx ?_).trans ?_) <;> first | (with_reducible assumption) | (simp; done) | (simp; omega)) | ((with_reducible refine Ext.held hx ?_ ?_) <;> first | (with_reducible assumption) | (simp; done) | (simp; omega)) | ((with_reducible refine Nat.le_trans ?_ (Ext.size hx)); (with_reducible assumption)) | ((with_reducible refine Nat.lt_of_lt_of_le ?_ (Ext.size hx)); (with_reducible assumption)) | ((with_reducible refine Ext.drew ?_); (repeat' (first | (with_reducible assumption) | (with_reducible exact Ext.refl _) | (with_reducible refine Ext.grow ?_ _) | (with_reducible refine Ext.drew ?_) | (with_reducible refine Ext.set ?_ ?_ _) | omega | (simp; done) | (simp; omega) | (refine Ext.trans ?_ (by assumption)))); done) | ((repeat' (with_reducible refine Ext.set ?_ ?_ _)) <;> first | (with_reducible assumption) | omega | (simp; done) | (simp; omega)) | ((with_reducible refine Ext.grow ?_ _); (repeat' (first | (with_reducible assumption) | (with_reducible exact Ext.refl _) | (with_reducible refine Ext.grow ?_ _) | (with_reducible refine Ext.drew ?_) | (with_reducible refine Ext.set ?_ ?_ _) | omega | (simp; done) | (simp; omega) | (refine Ext.trans ?_ (by assumption)))); done) | ((with_reducible refine heldAt_some ?_); (go_simp; done)) | (go_simp; done) | (simp; omega)))); dsimp only at hSx))
  · go_split_ands
    go_wp2_with fail
    have p0 : bm < wl.heap.size := by omega
    refine calls_abs (fun W => Ext w W ∧ w.heap.size + 3 ≤ W.heap.size ∧ W.cell? ⟨w.heap.size, 0, none⟩ = some (.int .i32 (ax)) ∧ W.cell? ⟨w.heap.size, 1, none⟩ = some (.int .i32 (ay)) ∧ W.cell? ⟨w.heap.size + 1, 0, none⟩ = some (.int .i32 (bx)) ∧ W.cell? ⟨w.heap.size + 1, 1, none⟩ = some (.int .i32 (bz)) ∧ W.cell? ⟨w.heap.size + 1 + 1, 0, none⟩ = some (.int .i32 (lx)) ∧ W.cell? ⟨w.heap.size + 1 + 1, 1, none⟩ = some (.int .i32 (ly)) ∧ W.cell? ⟨w.heap.size + 1 + 1, 2, none⟩ = some (.int .i32 (ux)) ∧ W.cell? ⟨w.heap.size + 1 + 1, 3, none⟩ = some (.int .i32 (uy)) ∧ W.cell? ⟨bm, 0, none⟩ = some (.int .i32 (sat (lx + f))) ∧ W.cell? ⟨bm, 1, none⟩ = some (.int .i32 (sat (ly + f))) ∧ W.cell? ⟨bm, 2, none⟩ = some (.int .i32 (sat (ux - f))) ∧ W.cell? ⟨bm, 3, none⟩ = some (.int .i32 (sat (uy - f))) ∧ W.cell? ⟨wl.heap.size, 0, none⟩ = some (.int .i32 (sat (lx + f))) ∧ W.cell? ⟨wl.heap.size, 1, none⟩ = some (.int .i32 (sat (ly + f))) ∧ W.cell? ⟨wl.heap.size, 2, none⟩ = some (.int .i32 (sat (ux - f))) ∧ W.cell? ⟨wl.heap.size, 3, none⟩ = some (.int .i32 (sat (uy - f))) ∧ w.heap.size < W.heap.size ∧ w.heap.size + 1 < W.heap.size ∧ w.heap.size + 1 + 1 < W.heap.size ∧ bm < W.heap.size ∧ wl.heap.size < W.heap.size) (by refine ⟨by (repeat' (first | (with_reducible assumption) | (with_reducible exact Ext.refl _) | (with_reducible refine Ext.grow ?_ _) | (with_reducible refine Ext.drew ?_) | (with_reducible refine Ext.set ?_ ?_ _) | omega | (simp; done) | (simp; omega) | (refine Ext.trans ?_ (by assumption)))), by first | (with_reducible assumption) | (simp; done) | (simp; omega), ?_, ?_, ?_, ?_, ?_, ?_, ?_, ?_, ?_, ?_, ?_, ?_, ?_, ?_, ?_, ?_, ?_, ?_, ?_, ?_, ?_⟩ <;> first | (with_reducible assumption) | (go_simp; done) | (simp; omega)) ?_
    (try clear hx0)
    (try clear hsz)
    (try clear c0)
    (try clear c1)
    (try clear b0)
    (try clear b1)
    (try clear x0)
    (try clear x1)
    (try clear x2)
    (try clear x3)
    (try clear d0)
    (try clear d1)
    (try clear d2)
    (try clear d3)
    (try clear n0)
    (try clear n1)
    (try clear n2)
    (try clear n3)
    (try clear l0)
    (try clear l1)
    (try clear l2)
    (try clear lm)
    (try clear ln)
    rintro U ⟨hx0, hsz, c0, c1, b0, b1, x0, x1, x2, x3, d0, d1, d2, d3, n0, n1, n2, n3, l0, l1, l2, lm, ln⟩
    have p1 : w.heap.size + 1 + 1 < wl.heap.size := by omega
    generalize wl.heap.size = bn at *
    refine (rright_any _ _ _ _ _).mono ?_
    rintro e wx ⟨rfl, hx⟩
    have hsz1 := Ext.size hx
    replace c0 := (Ext.cell hx (by dsimp only; omega)).trans c0
    replace c1 := (Ext.cell hx (by dsimp only; omega)).trans c1
    replace b0 := (Ext.cell hx (by dsimp only; omega)).trans b0
    replace b1 := (Ext.cell hx (by dsimp only; omega)).trans b1
    replace x0 := (Ext.cell hx (by dsimp only; omega)).trans x0
    replace x1 := (Ext.cell hx (by dsimp only; omega)).trans x1
    replace x2 := (Ext.cell hx (by dsimp only; omega)).trans x2
    replace x3 := (Ext.cell hx (by dsimp only; omega)).trans x3
    replace d0 := (Ext.cell hx (by dsimp only; omega)).trans d0
    replace d1 := (Ext.cell hx (by dsimp only; omega)).trans d1
    replace d2 := (Ext.cell hx (by dsimp only; omega)).trans d2
    replace d3 := (Ext.cell hx (by dsimp only; omega)).trans d3
    replace n0 := (Ext.cell hx (by dsimp only; omega)).trans n0
    replace n1 := (Ext.cell hx (by dsimp only; omega)).trans n1
    replace n2 := (Ext.cell hx (by dsimp only; omega)).trans n2
    replace n3 := (Ext.cell hx (by dsimp only; omega)).trans n3
    replace hx0 := Ext.trans hx0 hx
    replace hsz := Nat.le_trans hsz hsz1
    replace l0 := Nat.le_trans l0 hsz1
    replace l1 := Nat.le_trans l1 hsz1
    replace l2 := Nat.le_trans l2 hsz1
    replace lm := Nat.le_trans lm hsz1
    replace ln := Nat.le_trans ln hsz1
    clear hx hsz1
    have hl0 : w.heap.size < wx.heap.size := by omega
    have hl1 : w.heap.size + 1 < wx.heap.size := by omega
    have hl2 : w.heap.size + 1 + 1 < wx.heap.size := by omega
    have hl3 : bm < wx.heap.size := by omega
    have hl4 : bn < wx.heap.size := by omega
    rw [k.out]
    clear hl0 hl1 hl2 hl3 hl4
    go_wp2_with fail
    refine wp_region_held_drew (S := (fun w' => w'.cell? ⟨w.heap.size, 0, none⟩ = some (.int .i32 (ax)) ∧ w'.cell? ⟨w.heap.size, 1, none⟩ = some (.int .i32 (ay)) ∧ w'.cell? ⟨w.heap.size + 1, 0, none⟩ = some (.int .i32 (bx)) ∧ w'.cell? ⟨w.heap.size + 1, 1, none⟩ = some (.int .i32 (bz)) ∧ w'.cell? ⟨w.heap.size + 1 + 1, 0, none⟩ = some (.int .i32 (lx)) ∧ w'.cell? ⟨w.heap.size + 1 + 1, 1, none⟩ = some (.int .i32 (ly)) ∧ w'.cell? ⟨w.heap.size + 1 + 1, 2, none⟩ = some (.int .i32 (ux)) ∧ w'.cell? ⟨w.heap.size + 1 + 1, 3, none⟩ = some (.int .i32 (uy)) ∧ w'.cell? ⟨bm, 0, none⟩ = some (.int .i32 (sat (lx + f))) ∧ w'.cell? ⟨bm, 1, none⟩ = some (.int .i32 (sat (ly + f))) ∧ w'.cell? ⟨bm, 2, none⟩ = some (.int .i32 (sat (ux - f))) ∧ w'.cell? ⟨bm, 3, none⟩ = some (.int .i32 (sat (uy - f))) ∧ w'.cell? ⟨bn, 0, none⟩ = some (.int .i32 (sat (lx + f))) ∧ w'.cell? ⟨bn, 1, none⟩ = some (.int .i32 (sat (ly + f))) ∧ w'.cell? ⟨bn, 2, none⟩ = some (.int .i32 (sat (ux - f))) ∧ w'.cell? ⟨bn, 3, none⟩ = some (.int .i32 (sat (uy - f))) ∧ Ext w w' ∧ w.heap.size < w'.heap.size ∧ w.heap.size + 1 < w'.heap.size ∧ w.heap.size + 1 + 1 < w'.heap.size ∧ bm < w'.heap.size ∧ bn < w'.heap.size)) (by kernel_rfl) ?_ (fun hHeld => ?_)
    · (((try dsimp only); (try go_split_ands); (repeat' (with_reducible apply And.intro)) <;> first | (with_reducible assumption) | ((with_reducible refine Ext.trans ?_ hx0); (with_reducible assumption)) | ((with_reducible refine (Ext.cell hx0 ?_).trans ?_) <;> first | (with_reducible assumption) | (simp; done) | (simp; omega)) | ((with_reducible refine (Ext.frozen hx0 ?_).trans ?_) <;> first | (with_reducible assumption) | (simp; done) | (simp; omega)) | ((with_reducible refine Ext.held hx0 ?_ ?_) <;> first | (with_reducible assumption) | (simp; done) | (simp; omega)) | ((with_reducible refine Nat.le_trans ?_ (Ext.size hx0)); (with_reducible assumption)) | ((with_reducible refine Nat.lt_of_lt_of_le ?_ (Ext.size hx0)); (with_reducible assumption)) | ((with_reducible refine Ext.drew ?_); (repeat' (first | (with_reducible assumption) | (with_reducible exact Ext.refl _) | (with_reducible refine Ext.grow ?_ _) | (with_reducible refine Ext.drew ?_) | (with_reducible refine Ext.set ?_ ?_ _) | omega | (simp; done) | (simp; omega) | (refine Ext.trans ?_ (by assumption)))); done) | ((repeat' (with_reducible refine Ext.set ?_ ?_ _)) <;> first | (with_reducible assumption) | omega | (simp; done) | (simp; omega)) | ((with_reducible refine Ext.grow ?_ _); (repeat' (first | (with_reducible assumption) | (with_reducible exact Ext.refl _) | (with_reducible refine Ext.grow ?_ _) | (with_reducible refine Ext.drew ?_) | (with_reducible refine Ext.set ?_ ?_ _) | omega | (simp; done) | (simp; omega) | (refine Ext.trans ?_ (by assumption)))); done) | ((with_reducible refine heldAt_some ?_); (go_simp; done)) | (go_simp; done) | (simp; omega)))
    refine wpAnyH_take (i := 0) (v := ?_) rfl (by kernel_rfl) (by kernel_rfl) (by kernel_rfl) (fun _ _ _ h => h) (Or.inl ⟨by kernel_rfl, ?_⟩) (by assumption) ?_
    rotate_left
    · (intro w hSw; (try dsimp only at hSw); go_simp; (try (with_reducible rfl)))
    (try simp only [Act.put, List.getElem_toArray, List.getElem_cons_succ, List.getElem_cons_zero, List.setIfInBounds_toArray, List.set_cons_zero, List.set_cons_succ])
    refine wpAnyH_take (i := 1) (v := ?_) rfl (by kernel_rfl) (by kernel_rfl) (by kernel_rfl) (fun _ _ _ h => h) (Or.inl ⟨by kernel_rfl, ?_⟩) (by assumption) ?_
    rotate_left
    · (intro w hSw; (try dsimp only at hSw); go_simp; (try (with_reducible rfl)))
    (try simp only [Act.put, List.getElem_toArray, List.getElem_cons_succ, List.getElem_cons_zero, List.setIfInBounds_toArray, List.set_cons_zero, List.set_cons_succ])
    refine wpAnyH_take (i := 3) (v := ?_) rfl (by kernel_rfl) (by kernel_rfl) (by kernel_rfl) (fun _ _ _ h => h) (Or.inl ⟨by kernel_rfl, ?_⟩) (by assumption) ?_
    rotate_left
    · (intro w hSw; (try dsimp only at hSw); go_simp; (try (with_reducible rfl)))
    (try simp only [Act.put, List.getElem_toArray, List.getElem_cons_succ, List.getElem_cons_zero, List.setIfInBounds_toArray, List.set_cons_zero, List.set_cons_succ])
    refine wpAnyH_take (i := 4) (v := ?_) rfl (by kernel_rfl) (by kernel_rfl) (by kernel_rfl) (fun _ _ _ h => h) (Or.inl ⟨by kernel_rfl, ?_⟩) (by assumption) ?_
    rotate_left
    · (intro w hSw; (try dsimp only at hSw); go_simp; (try (with_reducible rfl)))
    (try simp only [Act.put, List.getElem_toArray, List.getElem_cons_succ, List.getElem_cons_zero, List.setIfInBounds_toArray, List.set_cons_zero, List.set_cons_succ])
    refine wpAnyH_ready (rs := [2]) (by kernel_rfl) (by simp) ?_
    refine AllReadyH.cons rfl (fun K hK => ?_) AllReadyH.nil
    go_simp
    (go_at_call 45; refine (vAdd_any _ _ _ _ _ (by omega) (by omega) (by omega) (by omega)).mono ?_; rintro e wx ⟨rfl, hx⟩)
    refine hK.out _ _ ?_ (fun hHeld1 => ?_)
    · (((try dsimp only); (try go_split_ands); (repeat' (with_reducible apply And.intro)) <;> first | (with_reducible assumption) | ((with_reducible refine Ext.trans ?_ hx); (with_reducible assumption)) | ((with_reducible refine (Ext.cell hx ?_).trans ?_) <;> first | (with_reducible assumption) | (simp; done) | (simp; omega)) | ((with_reducible refine (Ext.frozen hx ?_).trans ?_) <;> first | (with_reducible assumption) | (simp; done) | (simp; omega)) | ((with_reducible refine Ext.held hx ?_ ?_) <;> first | (with_reducible assumption) | (simp; done) | (simp; omega)) | ((with_reducible refine Nat.le_trans ?_ (Ext.size hx)); (with_reducible assumption)) | ((with_reducible refine Nat.lt_of_lt_of_le ?_ (Ext.size hx)); (with_reducible assumption)) | ((with_reducible refine Ext.drew ?_); (repeat' (first | (with_reducible assumption) | (with_reducible exact Ext.refl _) | (with_reducible refine Ext.grow ?_ _) | (with_reducible refine Ext.drew ?_) | (with_reducible refine Ext.set ?_ ?_ _) | omega | (simp; done) | (simp; omega) | (refine Ext.trans ?_ (by assumption)))); done) | ((repeat' (with_reducible refine Ext.set ?_ ?_ _)) <;> first | (with_reducible assumption) | omega | (simp; done) | (simp; omega)) | ((with_reducible refine Ext.grow ?_ _); (repeat' (first | (with_reducible assumption) | (with_reducible exact Ext.refl _) | (with_reducible refine Ext.grow ?_ _) | (with_reducible refine Ext.drew ?_) | (with_reducible refine Ext.set ?_ ?_ _) | omega | (simp; done) | (simp; omega) | (refine Ext.trans ?_ (by assumption)))); done) | ((with_reducible refine heldAt_some ?_); (go_simp; done)) | (go_simp; done) | (simp; omega)))
    replace hHeld := hHeld1
    clear hHeld1 hK K
    (try simp only [Act.put, List.getElem_toArray, List.getElem_cons_succ, List.getElem_cons_zero, List.setIfInBounds_toArray, List.set_cons_zero, List.set_cons_succ])
    refine wpAnyH_ready (rs := [5]) (by kernel_rfl) (by simp) ?_
    refine AllReadyH.cons rfl (fun K hK => ?_) AllReadyH.nil
    go_simp
    (go_at_call 28; refine (rplus_any _ _ _ _ _ (by omega) (by omega) (by omega) (by omega)).mono ?_; rintro e wx ⟨rfl, hx⟩)
    refine hK.out _ _ ?_ (fun hHeld1 => ?_)
    · (((try dsimp only); (try go_split_ands); (repeat' (with_reducible apply And.intro)) <;> first | (with_reducible assumption) | ((with_reducible refine Ext.trans ?_ hx); (with_reducible assumption)) | ((with_reducible refine (Ext.cell hx ?_).trans ?_) <;> first | (with_reducible assumption) | (simp; done) | (simp; omega)) | ((with_reducible refine (Ext.frozen hx ?_).trans ?_) <;> first | (with_reducible assumption) | (simp; done) | (simp; omega)) | ((with_reducible refine Ext.held hx ?_ ?_) <;> first | (with_reducible assumption) | (simp; done) | (simp; omega)) | ((with_reducible refine Nat.le_trans ?_ (Ext.size hx)); (with_reducible assumption)) | ((with_reducible refine Nat.lt_of_lt_of_le ?_ (Ext.size hx)); (with_reducible assumption)) | ((with_reducible refine Ext.drew ?_); (repeat' (first | (with_reducible assumption) | (with_reducible exact Ext.refl _) | (with_reducible refine Ext.grow ?_ _) | (with_reducible refine Ext.drew ?_) | (with_reducible refine Ext.set ?_ ?_ _) | omega | (simp; done) | (simp; omega) | (refine Ext.trans ?_ (by assumption)))); done) | ((repeat' (with_reducible refine Ext.set ?_ ?_ _)) <;> first | (with_reducible assumption) | omega | (simp; done) | (simp; omega)) | ((with_reducible refine Ext.grow ?_ _); (repeat' (first | (with_reducible assumption) | (with_reducible exact Ext.refl _) | (with_reducible refine Ext.grow ?_ _) | (with_reducible refine Ext.drew ?_) | (with_reducible refine Ext.set ?_ ?_ _) | omega | (simp; done) | (simp; omega) | (refine Ext.trans ?_ (by assumption)))); done) | ((with_reducible refine heldAt_some ?_); (go_simp; done)) | (go_simp; done) | (simp; omega)))
    replace hHeld := hHeld1
    clear hHeld1 hK K
    (try simp only [Act.put, List.getElem_toArray, List.getElem_cons_succ, List.getElem_cons_zero, List.setIfInBounds_toArray, List.set_cons_zero, List.set_cons_succ])
    refine wpAnyH_take (i := 6) (v := ?_) rfl (by kernel_rfl) (by kernel_rfl) (by kernel_rfl) (fun _ _ _ h => h) (Or.inl ⟨by kernel_rfl, ?_⟩) (by assumption) ?_
    rotate_left
    · (intro w hSw; (try dsimp only at hSw); go_simp; (try (with_reducible rfl)))
    (try simp only [Act.put, List.getElem_toArray, List.getElem_cons_succ, List.getElem_cons_zero, List.setIfInBounds_toArray, List.set_cons_zero, List.set_cons_succ])
    refine wpAnyH_take (i := 7) (v := ?_) rfl (by kernel_rfl) (by kernel_rfl) (by kernel_rfl) (fun _ _ _ h => h) (Or.inl ⟨by kernel_rfl, ?_⟩) (by assumption) ?_
    rotate_left
    · (intro w hSw; (try dsimp only at hSw); go_simp; (try (with_reducible rfl)))
    (try simp only [Act.put, List.getElem_toArray, List.getElem_cons_succ, List.getElem_cons_zero, List.setIfInBounds_toArray, List.set_cons_zero, List.set_cons_succ])
    refine wpAnyH_take (i := 8) (v := ?_) rfl (by kernel_rfl) (by kernel_rfl) (by kernel_rfl) (fun _ _ _ h => h) (Or.inl ⟨by kernel_rfl, ?_⟩) (by assumption) ?_
    rotate_left
    · (intro w hSw; (try dsimp only at hSw); go_simp; (try (with_reducible rfl)))
    (try simp only [Act.put, List.getElem_toArray, List.getElem_cons_succ, List.getElem_cons_zero, List.setIfInBounds_toArray, List.set_cons_zero, List.set_cons_succ])
    refine wpAnyH_take (i := 9) (v := ?_) rfl (by kernel_rfl) (by kernel_rfl) (by kernel_rfl) (fun _ _ _ h => h) (Or.inl ⟨by kernel_rfl, ?_⟩) (by assumption) ?_
    rotate_left
    · (intro w hSw; (try dsimp only at hSw); go_simp; (try (with_reducible rfl)))
    (try simp only [Act.put, List.getElem_toArray, List.getElem_cons_succ, List.getElem_cons_zero, List.setIfInBounds_toArray, List.set_cons_zero, List.set_cons_succ])
    refine wpAnyH_take (i := 11) (v := ?_) rfl (by kernel_rfl) (by kernel_rfl) (by kernel_rfl) (fun _ _ _ h => h) (Or.inl ⟨by kernel_rfl, ?_⟩) (by assumption) ?_
    rotate_left
    · (intro w hSw; (try dsimp only at hSw); go_simp; (try (with_reducible rfl)))
    (try simp only [Act.put, List.getElem_toArray, List.getElem_cons_succ, List.getElem_cons_zero, List.setIfInBounds_toArray, List.set_cons_zero, List.set_cons_succ])
    refine wpAnyH_take (i := 12) (v := ?_) rfl (by kernel_rfl) (by kernel_rfl) (by kernel_rfl) (fun _ _ _ h => h) (Or.inl ⟨by kernel_rfl, ?_⟩) (by assumption) ?_
    rotate_left
    · (intro w hSw; (try dsimp only at hSw); go_simp; (try (with_reducible rfl)))
    (try simp only [Act.put, List.getElem_toArray, List.getElem_cons_succ, List.getElem_cons_zero, List.setIfInBounds_toArray, List.set_cons_zero, List.set_cons_succ])
    refine wpAnyH_ready (rs := [10]) (by kernel_rfl) (by simp) ?_
    refine AllReadyH.cons rfl (fun K hK => ?_) AllReadyH.nil
    go_simp
    (go_at_call 46; refine (vSub_any _ _ _ _ _ (by omega) (by omega) (by omega) (by omega)).mono ?_; rintro e wx ⟨rfl, hx⟩)
    refine hK.out _ _ ?_ (fun hHeld1 => ?_)
    · (((try dsimp only); (try go_split_ands); (repeat' (with_reducible apply And.intro)) <;> first | (with_reducible assumption) | ((with_reducible refine Ext.trans ?_ hx); (with_reducible assumption)) | ((with_reducible refine (Ext.cell hx ?_).trans ?_) <;> first | (with_reducible assumption) | (simp; done) | (simp; omega)) | ((with_reducible refine (Ext.frozen hx ?_).trans ?_) <;> first | (with_reducible assumption) | (simp; done) | (simp; omega)) | ((with_reducible refine Ext.held hx ?_ ?_) <;> first | (with_reducible assumption) | (simp; done) | (simp; omega)) | ((with_reducible refine Nat.le_trans ?_ (Ext.size hx)); (with_reducible assumption)) | ((with_reducible refine Nat.lt_of_lt_of_le ?_ (Ext.size hx)); (with_reducible assumption)) | ((with_reducible refine Ext.drew ?_); (repeat' (first | (with_reducible assumption) | (with_reducible exact Ext.refl _) | (with_reducible refine Ext.grow ?_ _) | (with_reducible refine Ext.drew ?_) | (with_reducible refine Ext.set ?_ ?_ _) | omega | (simp; done) | (simp; omega) | (refine Ext.trans ?_ (by assumption)))); done) | ((repeat' (with_reducible refine Ext.set ?_ ?_ _)) <;> first | (with_reducible assumption) | omega | (simp; done) | (simp; omega)) | ((with_reducible refine Ext.grow ?_ _); (repeat' (first | (with_reducible assumption) | (with_reducible exact Ext.refl _) | (with_reducible refine Ext.grow ?_ _) | (with_reducible refine Ext.drew ?_) | (with_reducible refine Ext.set ?_ ?_ _) | omega | (simp; done) | (simp; omega) | (refine Ext.trans ?_ (by assumption)))); done) | ((with_reducible refine heldAt_some ?_); (go_simp; done)) | (go_simp; done) | (simp; omega)))
    replace hHeld := hHeld1
    clear hHeld1 hK K
    (try simp only [Act.put, List.getElem_toArray, List.getElem_cons_succ, List.getElem_cons_zero, List.setIfInBounds_toArray, List.set_cons_zero, List.set_cons_succ])
    refine wpAnyH_ready (rs := [13]) (by kernel_rfl) (by simp) ?_
    refine AllReadyH.cons rfl (fun K hK => ?_) AllReadyH.nil
    go_simp
    (go_at_call 29; refine (rless_any _ _ _ _ _ (by omega) (by omega) (by omega) (by omega)).mono ?_; rintro e wx ⟨rfl, hx⟩)
    refine hK.out _ _ ?_ (fun hHeld1 => ?_)
    · (((try dsimp only); (try go_split_ands); (repeat' (with_reducible apply And.intro)) <;> first | (with_reducible assumption) | ((with_reducible refine Ext.trans ?_ hx); (with_reducible assumption)) | ((with_reducible refine (Ext.cell hx ?_).trans ?_) <;> first | (with_reducible assumption) | (simp; done) | (simp; omega)) | ((with_reducible refine (Ext.frozen hx ?_).trans ?_) <;> first | (with_reducible assumption) | (simp; done) | (simp; omega)) | ((with_reducible refine Ext.held hx ?_ ?_) <;> first | (with_reducible assumption) | (simp; done) | (simp; omega)) | ((with_reducible refine Nat.le_trans ?_ (Ext.size hx)); (with_reducible assumption)) | ((with_reducible refine Nat.lt_of_lt_of_le ?_ (Ext.size hx)); (with_reducible assumption)) | ((with_reducible refine Ext.drew ?_); (repeat' (first | (with_reducible assumption) | (with_reducible exact Ext.refl _) | (with_reducible refine Ext.grow ?_ _) | (with_reducible refine Ext.drew ?_) | (with_reducible refine Ext.set ?_ ?_ _) | omega | (simp; done) | (simp; omega) | (refine Ext.trans ?_ (by assumption)))); done) | ((repeat' (with_reducible refine Ext.set ?_ ?_ _)) <;> first | (with_reducible assumption) | omega | (simp; done) | (simp; omega)) | ((with_reducible refine Ext.grow ?_ _); (repeat' (first | (with_reducible assumption) | (with_reducible exact Ext.refl _) | (with_reducible refine Ext.grow ?_ _) | (with_reducible refine Ext.drew ?_) | (with_reducible refine Ext.set ?_ ?_ _) | omega | (simp; done) | (simp; omega) | (refine Ext.trans ?_ (by assumption)))); done) | ((with_reducible refine heldAt_some ?_); (go_simp; done)) | (go_simp; done) | (simp; omega)))
    replace hHeld := hHeld1
    clear hHeld1 hK K
    (try simp only [Act.put, List.getElem_toArray, List.getElem_cons_succ, List.getElem_cons_zero, List.setIfInBounds_toArray, List.set_cons_zero, List.set_cons_succ])
    refine wpAnyH_take (i := 14) (v := ?_) rfl (by kernel_rfl) (by kernel_rfl) (by kernel_rfl) (fun _ _ _ h => h) (Or.inl ⟨by kernel_rfl, ?_⟩) (by assumption) ?_
    rotate_left
    · (intro w hSw; (try dsimp only at hSw); go_simp; (try (with_reducible rfl)))
    (try simp only [Act.put, List.getElem_toArray, List.getElem_cons_succ, List.getElem_cons_zero, List.setIfInBounds_toArray, List.set_cons_zero, List.set_cons_succ])
    refine wpAnyH_take (i := 15) (v := ?_) rfl (by kernel_rfl) (by kernel_rfl) (by kernel_rfl) (fun _ _ _ h => h) (Or.inl ⟨by kernel_rfl, ?_⟩) (by assumption) ?_
    rotate_left
    · (intro w hSw; (try dsimp only at hSw); go_simp; (try (with_reducible rfl)))
    (try simp only [Act.put, List.getElem_toArray, List.getElem_cons_succ, List.getElem_cons_zero, List.setIfInBounds_toArray, List.set_cons_zero, List.set_cons_succ])
    refine wpAnyH_take (i := 16) (v := ?_) rfl (by kernel_rfl) (by kernel_rfl) (by kernel_rfl) (fun _ _ _ h => h) (Or.inl ⟨by kernel_rfl, ?_⟩) (by assumption) ?_
    rotate_left
    · (intro w hSw; (try dsimp only at hSw); go_simp; (try (with_reducible rfl)))
    (try simp only [Act.put, List.getElem_toArray, List.getElem_cons_succ, List.getElem_cons_zero, List.setIfInBounds_toArray, List.set_cons_zero, List.set_cons_succ])
    refine wpAnyH_take (i := 17) (v := ?_) rfl (by kernel_rfl) (by kernel_rfl) (by kernel_rfl) (fun _ _ _ h => h) (Or.inl ⟨by kernel_rfl, ?_⟩) (by assumption) ?_
    rotate_left
    · (intro w hSw; (try dsimp only at hSw); go_simp; (try (with_reducible rfl)))
    (try simp only [Act.put, List.getElem_toArray, List.getElem_cons_succ, List.getElem_cons_zero, List.setIfInBounds_toArray, List.set_cons_zero, List.set_cons_succ])
    refine wpAnyH_take (i := 18) (v := ?_) rfl (by kernel_rfl) (by kernel_rfl) (by kernel_rfl) (fun _ _ _ h => h) (Or.inl ⟨by kernel_rfl, ?_⟩) (by assumption) ?_
    rotate_left
    · (intro w hSw; (try dsimp only at hSw); go_simp; (try (with_reducible rfl)))
    (try simp only [Act.put, List.getElem_toArray, List.getElem_cons_succ, List.getElem_cons_zero, List.setIfInBounds_toArray, List.set_cons_zero, List.set_cons_succ])
    refine wpAnyH_take (i := 20) (v := ?_) rfl (by kernel_rfl) (by kernel_rfl) (by kernel_rfl) (fun _ _ _ h => h) (Or.inl ⟨by kernel_rfl, ?_⟩) (by assumption) ?_
    rotate_left
    · (intro w hSw; (try dsimp only at hSw); go_simp; (try (with_reducible rfl)))
    (try simp only [Act.put, List.getElem_toArray, List.getElem_cons_succ, List.getElem_cons_zero, List.setIfInBounds_toArray, List.set_cons_zero, List.set_cons_succ])
    refine wpAnyH_take (i := 21) (v := ?_) rfl (by kernel_rfl) (by kernel_rfl) (by kernel_rfl) (fun _ _ _ h => h) (Or.inl ⟨by kernel_rfl, ?_⟩) (by assumption) ?_
    rotate_left
    · (intro w hSw; (try dsimp only at hSw); go_simp; (try (with_reducible rfl)))
    (try simp only [Act.put, List.getElem_toArray, List.getElem_cons_succ, List.getElem_cons_zero, List.setIfInBounds_toArray, List.set_cons_zero, List.set_cons_succ])
    refine wpAnyH_ready (rs := [19]) (by kernel_rfl) (by simp) ?_
    refine AllReadyH.cons rfl (fun K hK => ?_) AllReadyH.nil
    go_simp
    (go_at_call 47; refine (vScale_any _ _ _ _ (by omega) (by omega) (by omega)).mono ?_; rintro e wx ⟨rfl, hx⟩)
    refine hK.out _ _ ?_ (fun hHeld1 => ?_)
    · (((try dsimp only); (try go_split_ands); (repeat' (with_reducible apply And.intro)) <;> first | (with_reducible assumption) | ((with_reducible refine Ext.trans ?_ hx); (with_reducible assumption)) | ((with_reducible refine (Ext.cell hx ?_).trans ?_) <;> first | (with_reducible assumption) | (simp; done) | (simp; omega)) | ((with_reducible refine (Ext.frozen hx ?_).trans ?_) <;> first | (with_reducible assumption) | (simp; done) | (simp; omega)) | ((with_reducible refine Ext.held hx ?_ ?_) <;> first | (with_reducible assumption) | (simp; done) | (simp; omega)) | ((with_reducible refine Nat.le_trans ?_ (Ext.size hx)); (with_reducible assumption)) | ((with_reducible refine Nat.lt_of_lt_of_le ?_ (Ext.size hx)); (with_reducible assumption)) | ((with_reducible refine Ext.drew ?_); (repeat' (first | (with_reducible assumption) | (with_reducible exact Ext.refl _) | (with_reducible refine Ext.grow ?_ _) | (with_reducible refine Ext.drew ?_) | (with_reducible refine Ext.set ?_ ?_ _) | omega | (simp; done) | (simp; omega) | (refine Ext.trans ?_ (by assumption)))); done) | ((repeat' (with_reducible refine Ext.set ?_ ?_ _)) <;> first | (with_reducible assumption) | omega | (simp; done) | (simp; omega)) | ((with_reducible refine Ext.grow ?_ _); (repeat' (first | (with_reducible assumption) | (with_reducible exact Ext.refl _) | (with_reducible refine Ext.grow ?_ _) | (with_reducible refine Ext.drew ?_) | (with_reducible refine Ext.set ?_ ?_ _) | omega | (simp; done) | (simp; omega) | (refine Ext.trans ?_ (by assumption)))); done) | ((with_reducible refine heldAt_some ?_); (go_simp; done)) | (go_simp; done) | (simp; omega)))
    replace hHeld := hHeld1
    clear hHeld1 hK K
    (try simp only [Act.put, List.getElem_toArray, List.getElem_cons_succ, List.getElem_cons_zero, List.setIfInBounds_toArray, List.set_cons_zero, List.set_cons_succ])
    refine wpAnyH_ready (rs := [22]) (by kernel_rfl) (by simp) ?_
    refine AllReadyH.cons rfl (fun K hK => ?_) AllReadyH.nil
    go_simp
    (go_at_call 48; refine (rscaleV_any _ _ _ _ (by omega) (by omega) (by omega)).mono ?_; rintro e wx ⟨rfl, hx⟩)
    refine hK.out _ _ ?_ (fun hHeld1 => ?_)
    · (((try dsimp only); (try go_split_ands); (repeat' (with_reducible apply And.intro)) <;> first | (with_reducible assumption) | ((with_reducible refine Ext.trans ?_ hx); (with_reducible assumption)) | ((with_reducible refine (Ext.cell hx ?_).trans ?_) <;> first | (with_reducible assumption) | (simp; done) | (simp; omega)) | ((with_reducible refine (Ext.frozen hx ?_).trans ?_) <;> first | (with_reducible assumption) | (simp; done) | (simp; omega)) | ((with_reducible refine Ext.held hx ?_ ?_) <;> first | (with_reducible assumption) | (simp; done) | (simp; omega)) | ((with_reducible refine Nat.le_trans ?_ (Ext.size hx)); (with_reducible assumption)) | ((with_reducible refine Nat.lt_of_lt_of_le ?_ (Ext.size hx)); (with_reducible assumption)) | ((with_reducible refine Ext.drew ?_); (repeat' (first | (with_reducible assumption) | (with_reducible exact Ext.refl _) | (with_reducible refine Ext.grow ?_ _) | (with_reducible refine Ext.drew ?_) | (with_reducible refine Ext.set ?_ ?_ _) | omega | (simp; done) | (simp; omega) | (refine Ext.trans ?_ (by assumption)))); done) | ((repeat' (with_reducible refine Ext.set ?_ ?_ _)) <;> first | (with_reducible assumption) | omega | (simp; done) | (simp; omega)) | ((with_reducible refine Ext.grow ?_ _); (repeat' (first | (with_reducible assumption) | (with_reducible exact Ext.refl _) | (with_reducible refine Ext.grow ?_ _) | (with_reducible refine Ext.drew ?_) | (with_reducible refine Ext.set ?_ ?_ _) | omega | (simp; done) | (simp; omega) | (refine Ext.trans ?_ (by assumption)))); done) | ((with_reducible refine heldAt_some ?_); (go_simp; done)) | (go_simp; done) | (simp; omega)))
    replace hHeld := hHeld1
    clear hHeld1 hK K
    (try simp only [Act.put, List.getElem_toArray, List.getElem_cons_succ, List.getElem_cons_zero, List.setIfInBounds_toArray, List.set_cons_zero, List.set_cons_succ])
    refine wpAnyH_take (i := 23) (v := ?_) rfl (by kernel_rfl) (by kernel_rfl) (by kernel_rfl) (fun _ _ _ h => h) (Or.inl ⟨by kernel_rfl, ?_⟩) (by assumption) ?_
    rotate_left
    · (intro w hSw; (try dsimp only at hSw); go_simp; (try (with_reducible rfl)))
    (try simp only [Act.put, List.getElem_toArray, List.getElem_cons_succ, List.getElem_cons_zero, List.setIfInBounds_toArray, List.set_cons_zero, List.set_cons_succ])
    refine wpAnyH_take (i := 24) (v := ?_) rfl (by kernel_rfl) (by kernel_rfl) (by kernel_rfl) (fun _ _ _ h => h) (Or.inl ⟨by kernel_rfl, ?_⟩) (by assumption) ?_
    rotate_left
    · (intro w hSw; (try dsimp only at hSw); go_simp; (try (with_reducible rfl)))
    (try simp only [Act.put, List.getElem_toArray, List.getElem_cons_succ, List.getElem_cons_zero, List.setIfInBounds_toArray, List.set_cons_zero, List.set_cons_succ])
    refine wpAnyH_take (i := 25) (v := ?_) rfl (by kernel_rfl) (by kernel_rfl) (by kernel_rfl) (fun _ _ _ h => h) (Or.inl ⟨by kernel_rfl, ?_⟩) (by assumption) ?_
    rotate_left
    · (intro w hSw; (try dsimp only at hSw); go_simp; (try (with_reducible rfl)))
    (try simp only [Act.put, List.getElem_toArray, List.getElem_cons_succ, List.getElem_cons_zero, List.setIfInBounds_toArray, List.set_cons_zero, List.set_cons_succ])
    refine wpAnyH_take (i := 26) (v := ?_) rfl (by kernel_rfl) (by kernel_rfl) (by kernel_rfl) (fun _ _ _ h => h) (Or.inl ⟨by kernel_rfl, ?_⟩) (by assumption) ?_
    rotate_left
    · (intro w hSw; (try dsimp only at hSw); go_simp; (try (with_reducible rfl)))
    (try simp only [Act.put, List.getElem_toArray, List.getElem_cons_succ, List.getElem_cons_zero, List.setIfInBounds_toArray, List.set_cons_zero, List.set_cons_succ])
    refine wpAnyH_take (i := 28) (v := ?_) rfl (by kernel_rfl) (by kernel_rfl) (by kernel_rfl) (fun _ _ _ h => h) (Or.inl ⟨by kernel_rfl, ?_⟩) (by assumption) ?_
    rotate_left
    · (intro w hSw; (try dsimp only at hSw); go_simp; (try (with_reducible rfl)))
    (try simp only [Act.put, List.getElem_toArray, List.getElem_cons_succ, List.getElem_cons_zero, List.setIfInBounds_toArray, List.set_cons_zero, List.set_cons_succ])
    refine wpAnyH_ready (rs := [27]) (by kernel_rfl) (by simp) ?_
    refine AllReadyH.cons rfl (fun K hK => ?_) AllReadyH.nil
    go_simp
    (go_at_call 49; refine (right_any _ _ _ _ _).mono ?_; rintro e wx ⟨rfl, hx⟩)
    refine hK.out _ _ ?_ (fun hHeld1 => ?_)
    · (((try dsimp only); (try go_split_ands); (repeat' (with_reducible apply And.intro)) <;> first | (with_reducible assumption) | ((with_reducible refine Ext.trans ?_ hx); (with_reducible assumption)) | ((with_reducible refine (Ext.cell hx ?_).trans ?_) <;> first | (with_reducible assumption) | (simp; done) | (simp; omega)) | ((with_reducible refine (Ext.frozen hx ?_).trans ?_) <;> first | (with_reducible assumption) | (simp; done) | (simp; omega)) | ((with_reducible refine Ext.held hx ?_ ?_) <;> first | (with_reducible assumption) | (simp; done) | (simp; omega)) | ((with_reducible refine Nat.le_trans ?_ (Ext.size hx)); (with_reducible assumption)) | ((with_reducible refine Nat.lt_of_lt_of_le ?_ (Ext.size hx)); (with_reducible assumption)) | ((with_reducible refine Ext.drew ?_); (repeat' (first | (with_reducible assumption) | (with_reducible exact Ext.refl _) | (with_reducible refine Ext.grow ?_ _) | (with_reducible refine Ext.drew ?_) | (with_reducible refine Ext.set ?_ ?_ _) | omega | (simp; done) | (simp; omega) | (refine Ext.trans ?_ (by assumption)))); done) | ((repeat' (with_reducible refine Ext.set ?_ ?_ _)) <;> first | (with_reducible assumption) | omega | (simp; done) | (simp; omega)) | ((with_reducible refine Ext.grow ?_ _); (repeat' (first | (with_reducible assumption) | (with_reducible exact Ext.refl _) | (with_reducible refine Ext.grow ?_ _) | (with_reducible refine Ext.drew ?_) | (with_reducible refine Ext.set ?_ ?_ _) | omega | (simp; done) | (simp; omega) | (refine Ext.trans ?_ (by assumption)))); done) | ((with_reducible refine heldAt_some ?_); (go_simp; done)) | (go_simp; done) | (simp; omega)))
    replace hHeld := hHeld1
    clear hHeld1 hK K
    (try simp only [Act.put, List.getElem_toArray, List.getElem_cons_succ, List.getElem_cons_zero, List.setIfInBounds_toArray, List.set_cons_zero, List.set_cons_succ])
    refine wpAnyH_ready (rs := [29]) (by kernel_rfl) (by simp) ?_
    refine AllReadyH.cons rfl (fun K hK => ?_) AllReadyH.nil
    go_simp
    (go_at_call 38; refine (rright_any _ _ _ _ _).mono ?_; rintro e wx ⟨rfl, hx⟩)
    refine hK.out _ _ ?_ (fun hHeld1 => ?_)
    · (((try dsimp only); (try go_split_ands); (repeat' (with_reducible apply And.intro)) <;> first | (with_reducible assumption) | ((with_reducible refine Ext.trans ?_ hx); (with_reducible assumption)) | ((with_reducible refine (Ext.cell hx ?_).trans ?_) <;> first | (with_reducible assumption) | (simp; done) | (simp; omega)) | ((with_reducible refine (Ext.frozen hx ?_).trans ?_) <;> first | (with_reducible assumption) | (simp; done) | (simp; omega)) | ((with_reducible refine Ext.held hx ?_ ?_) <;> first | (with_reducible assumption) | (simp; done) | (simp; omega)) | ((with_reducible refine Nat.le_trans ?_ (Ext.size hx)); (with_reducible assumption)) | ((with_reducible refine Nat.lt_of_lt_of_le ?_ (Ext.size hx)); (with_reducible assumption)) | ((with_reducible refine Ext.drew ?_); (repeat' (first | (with_reducible assumption) | (with_reducible exact Ext.refl _) | (with_reducible refine Ext.grow ?_ _) | (with_reducible refine Ext.drew ?_) | (with_reducible refine Ext.set ?_ ?_ _) | omega | (simp; done) | (simp; omega) | (refine Ext.trans ?_ (by assumption)))); done) | ((repeat' (with_reducible refine Ext.set ?_ ?_ _)) <;> first | (with_reducible assumption) | omega | (simp; done) | (simp; omega)) | ((with_reducible refine Ext.grow ?_ _); (repeat' (first | (with_reducible assumption) | (with_reducible exact Ext.refl _) | (with_reducible refine Ext.grow ?_ _) | (with_reducible refine Ext.drew ?_) | (with_reducible refine Ext.set ?_ ?_ _) | omega | (simp; done) | (simp; omega) | (refine Ext.trans ?_ (by assumption)))); done) | ((with_reducible refine heldAt_some ?_); (go_simp; done)) | (go_simp; done) | (simp; omega)))
    replace hHeld := hHeld1
    clear hHeld1 hK K
    (try simp only [Act.put, List.getElem_toArray, List.getElem_cons_succ, List.getElem_cons_zero, List.setIfInBounds_toArray, List.set_cons_zero, List.set_cons_succ])
    refine wpAnyH_take (i := 30) (v := ?_) rfl (by kernel_rfl) (by kernel_rfl) (by kernel_rfl) (fun _ _ _ h => h) (Or.inl ⟨by kernel_rfl, ?_⟩) (by assumption) ?_
    rotate_left
    · (intro w hSw; (try dsimp only at hSw); go_simp; (try (with_reducible rfl)))
    (try simp only [Act.put, List.getElem_toArray, List.getElem_cons_succ, List.getElem_cons_zero, List.setIfInBounds_toArray, List.set_cons_zero, List.set_cons_succ])
    refine wpAnyH_take (i := 31) (v := ?_) rfl (by kernel_rfl) (by kernel_rfl) (by kernel_rfl) (fun _ _ _ h => h) (Or.inl ⟨by kernel_rfl, ?_⟩) (by assumption) ?_
    rotate_left
    · (intro w hSw; (try dsimp only at hSw); go_simp; (try (with_reducible rfl)))
    (try simp only [Act.put, List.getElem_toArray, List.getElem_cons_succ, List.getElem_cons_zero, List.setIfInBounds_toArray, List.set_cons_zero, List.set_cons_succ])
    refine wpAnyH_take (i := 32) (v := ?_) rfl (by kernel_rfl) (by kernel_rfl) (by kernel_rfl) (fun _ _ _ h => h) (Or.inl ⟨by kernel_rfl, ?_⟩) (by assumption) ?_
    rotate_left
    · (intro w hSw; (try dsimp only at hSw); go_simp; (try (with_reducible rfl)))
    (try simp only [Act.put, List.getElem_toArray, List.getElem_cons_succ, List.getElem_cons_zero, List.setIfInBounds_toArray, List.set_cons_zero, List.set_cons_succ])
    refine wpAnyH_take (i := 33) (v := ?_) rfl (by kernel_rfl) (by kernel_rfl) (by kernel_rfl) (fun _ _ _ h => h) (Or.inl ⟨by kernel_rfl, ?_⟩) (by assumption) ?_
    rotate_left
    · (intro w hSw; (try dsimp only at hSw); go_simp; (try (with_reducible rfl)))
    (try simp only [Act.put, List.getElem_toArray, List.getElem_cons_succ, List.getElem_cons_zero, List.setIfInBounds_toArray, List.set_cons_zero, List.set_cons_succ])
    refine wpAnyH_take (i := 34) (v := ?_) rfl (by kernel_rfl) (by kernel_rfl) (by kernel_rfl) (fun _ _ _ h => h) (Or.inl ⟨by kernel_rfl, ?_⟩) (by assumption) ?_
    rotate_left
    · (intro w hSw; (try dsimp only at hSw); go_simp; (try (with_reducible rfl)))
    (try simp only [Act.put, List.getElem_toArray, List.getElem_cons_succ, List.getElem_cons_zero, List.setIfInBounds_toArray, List.set_cons_zero, List.set_cons_succ])
    refine wpAnyH_take (i := 36) (v := ?_) rfl (by kernel_rfl) (by kernel_rfl) (by kernel_rfl) (fun _ _ _ h => h) (Or.inl ⟨by kernel_rfl, ?_⟩) (by assumption) ?_
    rotate_left
    · (intro w hSw; (try dsimp only at hSw); go_simp; (try (with_reducible rfl)))
    (try simp only [Act.put, List.getElem_toArray, List.getElem_cons_succ, List.getElem_cons_zero, List.setIfInBounds_toArray, List.set_cons_zero, List.set_cons_succ])
    refine wpAnyH_take (i := 37) (v := ?_) rfl (by kernel_rfl) (by kernel_rfl) (by kernel_rfl) (fun _ _ _ h => h) (Or.inl ⟨by kernel_rfl, ?_⟩) (by assumption) ?_
    rotate_left
    · (intro w hSw; (try dsimp only at hSw); go_simp; (try (with_reducible rfl)))
    (try simp only [Act.put, List.getElem_toArray, List.getElem_cons_succ, List.getElem_cons_zero, List.setIfInBounds_toArray, List.set_cons_zero, List.set_cons_succ])
    refine wpAnyH_ready (rs := [35]) (by kernel_rfl) (by simp) ?_
    refine AllReadyH.cons rfl (fun K hK => ?_) AllReadyH.nil
    go_simp
    (go_at_call 50; refine (inside_any _ _ _ _ _ _ _).mono ?_; rintro e wx ⟨rfl, hx⟩)
    refine hK.out _ _ ?_ (fun hHeld1 => ?_)
    · (((try dsimp only); (try go_split_ands); (repeat' (with_reducible apply And.intro)) <;> first | (with_reducible assumption) | ((with_reducible refine Ext.trans ?_ hx); (with_reducible assumption)) | ((with_reducible refine (Ext.cell hx ?_).trans ?_) <;> first | (with_reducible assumption) | (simp; done) | (simp; omega)) | ((with_reducible refine (Ext.frozen hx ?_).trans ?_) <;> first | (with_reducible assumption) | (simp; done) | (simp; omega)) | ((with_reducible refine Ext.held hx ?_ ?_) <;> first | (with_reducible assumption) | (simp; done) | (simp; omega)) | ((with_reducible refine Nat.le_trans ?_ (Ext.size hx)); (with_reducible assumption)) | ((with_reducible refine Nat.lt_of_lt_of_le ?_ (Ext.size hx)); (with_reducible assumption)) | ((with_reducible refine Ext.drew ?_); (repeat' (first | (with_reducible assumption) | (with_reducible exact Ext.refl _) | (with_reducible refine Ext.grow ?_ _) | (with_reducible refine Ext.drew ?_) | (with_reducible refine Ext.set ?_ ?_ _) | omega | (simp; done) | (simp; omega) | (refine Ext.trans ?_ (by assumption)))); done) | ((repeat' (with_reducible refine Ext.set ?_ ?_ _)) <;> first | (with_reducible assumption) | omega | (simp; done) | (simp; omega)) | ((with_reducible refine Ext.grow ?_ _); (repeat' (first | (with_reducible assumption) | (with_reducible exact Ext.refl _) | (with_reducible refine Ext.grow ?_ _) | (with_reducible refine Ext.drew ?_) | (with_reducible refine Ext.set ?_ ?_ _) | omega | (simp; done) | (simp; omega) | (refine Ext.trans ?_ (by assumption)))); done) | ((with_reducible refine heldAt_some ?_); (go_simp; done)) | (go_simp; done) | (simp; omega)))
    replace hHeld := hHeld1
    clear hHeld1 hK K
    (try simp only [Act.put, List.getElem_toArray, List.getElem_cons_succ, List.getElem_cons_zero, List.setIfInBounds_toArray, List.set_cons_zero, List.set_cons_succ])
    refine wpAnyH_ready (rs := [38]) (by kernel_rfl) (by simp) ?_
    refine AllReadyH.cons rfl (fun K hK => ?_) AllReadyH.nil
    go_simp
    (go_at_call 40; refine (rinside_any _ _ _ _ _ _ _).mono ?_; rintro e wx ⟨rfl, hx⟩)
    refine hK.out _ _ ?_ (fun hHeld1 => ?_)
    · (((try dsimp only); (try go_split_ands); (repeat' (with_reducible apply And.intro)) <;> first | (with_reducible assumption) | ((with_reducible refine Ext.trans ?_ hx); (with_reducible assumption)) | ((with_reducible refine (Ext.cell hx ?_).trans ?_) <;> first | (with_reducible assumption) | (simp; done) | (simp; omega)) | ((with_reducible refine (Ext.frozen hx ?_).trans ?_) <;> first | (with_reducible assumption) | (simp; done) | (simp; omega)) | ((with_reducible refine Ext.held hx ?_ ?_) <;> first | (with_reducible assumption) | (simp; done) | (simp; omega)) | ((with_reducible refine Nat.le_trans ?_ (Ext.size hx)); (with_reducible assumption)) | ((with_reducible refine Nat.lt_of_lt_of_le ?_ (Ext.size hx)); (with_reducible assumption)) | ((with_reducible refine Ext.drew ?_); (repeat' (first | (with_reducible assumption) | (with_reducible exact Ext.refl _) | (with_reducible refine Ext.grow ?_ _) | (with_reducible refine Ext.drew ?_) | (with_reducible refine Ext.set ?_ ?_ _) | omega | (simp; done) | (simp; omega) | (refine Ext.trans ?_ (by assumption)))); done) | ((repeat' (with_reducible refine Ext.set ?_ ?_ _)) <;> first | (with_reducible assumption) | omega | (simp; done) | (simp; omega)) | ((with_reducible refine Ext.grow ?_ _); (repeat' (first | (with_reducible assumption) | (with_reducible exact Ext.refl _) | (with_reducible refine Ext.grow ?_ _) | (with_reducible refine Ext.drew ?_) | (with_reducible refine Ext.set ?_ ?_ _) | omega | (simp; done) | (simp; omega) | (refine Ext.trans ?_ (by assumption)))); done) | ((with_reducible refine heldAt_some ?_); (go_simp; done)) | (go_simp; done) | (simp; omega)))
    replace hHeld := hHeld1
    clear hHeld1 hK K
    (try simp only [Act.put, List.getElem_toArray, List.getElem_cons_succ, List.getElem_cons_zero, List.setIfInBounds_toArray, List.set_cons_zero, List.set_cons_succ])
    refine wpAnyH_take (i := 39) (v := ?_) rfl (by kernel_rfl) (by kernel_rfl) (by kernel_rfl) (fun _ _ _ h => h) (Or.inl ⟨by kernel_rfl, ?_⟩) (by assumption) ?_
    rotate_left
    · (intro w hSw; (try dsimp only at hSw); go_simp; (try (with_reducible rfl)))
    (try simp only [Act.put, List.getElem_toArray, List.getElem_cons_succ, List.getElem_cons_zero, List.setIfInBounds_toArray, List.set_cons_zero, List.set_cons_succ])
    refine wpAnyH_take (i := 40) (v := ?_) rfl (by kernel_rfl) (by kernel_rfl) (by kernel_rfl) (fun _ _ _ h => h) (Or.inl ⟨by kernel_rfl, ?_⟩) (by assumption) ?_
    rotate_left
    · (intro w hSw; (try dsimp only at hSw); go_simp; (try (with_reducible rfl)))
    (try simp only [Act.put, List.getElem_toArray, List.getElem_cons_succ, List.getElem_cons_zero, List.setIfInBounds_toArray, List.set_cons_zero, List.set_cons_succ])
    refine wpAnyH_take (i := 41) (v := ?_) rfl (by kernel_rfl) (by kernel_rfl) (by kernel_rfl) (fun _ _ _ h => h) (Or.inl ⟨by kernel_rfl, ?_⟩) (by assumption) ?_
    rotate_left
    · (intro w hSw; (try dsimp only at hSw); go_simp; (try (with_reducible rfl)))
    (try simp only [Act.put, List.getElem_toArray, List.getElem_cons_succ, List.getElem_cons_zero, List.setIfInBounds_toArray, List.set_cons_zero, List.set_cons_succ])
    refine wpAnyH_take (i := 42) (v := ?_) rfl (by kernel_rfl) (by kernel_rfl) (by kernel_rfl) (fun _ _ _ h => h) (Or.inl ⟨by kernel_rfl, ?_⟩) (by assumption) ?_
    rotate_left
    · (intro w hSw; (try dsimp only at hSw); go_simp; (try (with_reducible rfl)))
    (try simp only [Act.put, List.getElem_toArray, List.getElem_cons_succ, List.getElem_cons_zero, List.setIfInBounds_toArray, List.set_cons_zero, List.set_cons_succ])
    refine wpAnyH_take (i := 43) (v := ?_) rfl (by kernel_rfl) (by kernel_rfl) (by kernel_rfl) (fun _ _ _ h => h) (Or.inl ⟨by kernel_rfl, ?_⟩) (by assumption) ?_
    rotate_left
    · (intro w hSw; (try dsimp only at hSw); go_simp; (try (with_reducible rfl)))
    (try simp only [Act.put, List.getElem_toArray, List.getElem_cons_succ, List.getElem_cons_zero, List.setIfInBounds_toArray, List.set_cons_zero, List.set_cons_succ])
    refine wpAnyH_take (i := 44) (v := ?_) rfl (by kernel_rfl) (by kernel_rfl) (by kernel_rfl) (fun _ _ _ h => h) (Or.inl ⟨by kernel_rfl, ?_⟩) (by assumption) ?_
    rotate_left
    · (intro w hSw; (try dsimp only at hSw); go_simp; (try (with_reducible rfl)))
    (try simp only [Act.put, List.getElem_toArray, List.getElem_cons_succ, List.getElem_cons_zero, List.setIfInBounds_toArray, List.set_cons_zero, List.set_cons_succ])
    refine wpAnyH_take (i := 45) (v := ?_) rfl (by kernel_rfl) (by kernel_rfl) (by kernel_rfl) (fun _ _ _ h => h) (Or.inl ⟨by kernel_rfl, ?_⟩) (by assumption) ?_
    rotate_left
    · (intro w hSw; (try dsimp only at hSw); go_simp; (try (with_reducible rfl)))
    (try simp only [Act.put, List.getElem_toArray, List.getElem_cons_succ, List.getElem_cons_zero, List.setIfInBounds_toArray, List.set_cons_zero, List.set_cons_succ])
    refine wpAnyH_take (i := 46) (v := ?_) rfl (by kernel_rfl) (by kernel_rfl) (by kernel_rfl) (fun _ _ _ h => h) (Or.inl ⟨by kernel_rfl, ?_⟩) (by assumption) ?_
    rotate_left
    · (intro w hSw; (try dsimp only at hSw); go_simp; (try (with_reducible rfl)))
    (try simp only [Act.put, List.getElem_toArray, List.getElem_cons_succ, List.getElem_cons_zero, List.setIfInBounds_toArray, List.set_cons_zero, List.set_cons_succ])
    refine wpAnyH_take (i := 47) (v := ?_) rfl (by kernel_rfl) (by kernel_rfl) (by kernel_rfl) (fun _ _ _ h => h) (Or.inl ⟨by kernel_rfl, ?_⟩) (by assumption) ?_
    rotate_left
    · (intro w hSw; (try dsimp only at hSw); go_simp; (try (with_reducible rfl)))
    (try simp only [Act.put, List.getElem_toArray, List.getElem_cons_succ, List.getElem_cons_zero, List.setIfInBounds_toArray, List.set_cons_zero, List.set_cons_succ])
    refine wpAnyH_take (i := 48) (v := ?_) rfl (by kernel_rfl) (by kernel_rfl) (by kernel_rfl) (fun _ _ _ h => h) (Or.inl ⟨by kernel_rfl, ?_⟩) (by assumption) ?_
    rotate_left
    · (intro w hSw; (try dsimp only at hSw); go_simp; (try (with_reducible rfl)))
    (try simp only [Act.put, List.getElem_toArray, List.getElem_cons_succ, List.getElem_cons_zero, List.setIfInBounds_toArray, List.set_cons_zero, List.set_cons_succ])
    refine wpAnyH_take (i := 49) (v := ?_) rfl (by kernel_rfl) (by kernel_rfl) (by kernel_rfl) (fun _ _ _ h => h) (Or.inl ⟨by kernel_rfl, ?_⟩) (by assumption) ?_
    rotate_left
    · (intro w hSw; (try dsimp only at hSw); go_simp; (try (with_reducible rfl)))
    (try simp only [Act.put, List.getElem_toArray, List.getElem_cons_succ, List.getElem_cons_zero, List.setIfInBounds_toArray, List.set_cons_zero, List.set_cons_succ])
    refine wpAnyH_take (i := 50) (v := ?_) rfl (by kernel_rfl) (by kernel_rfl) (by kernel_rfl) (fun _ _ _ h => h) (Or.inl ⟨by kernel_rfl, ?_⟩) (by assumption) ?_
    rotate_left
    · (intro w hSw; (try dsimp only at hSw); go_simp; (try (with_reducible rfl)))
    (try simp only [Act.put, List.getElem_toArray, List.getElem_cons_succ, List.getElem_cons_zero, List.setIfInBounds_toArray, List.set_cons_zero, List.set_cons_succ])
    refine wpAnyH_take (i := 51) (v := ?_) rfl (by kernel_rfl) (by kernel_rfl) (by kernel_rfl) (fun _ _ _ h => h) (Or.inl ⟨by kernel_rfl, ?_⟩) (by assumption) ?_
    rotate_left
    · (intro w hSw; (try dsimp only at hSw); go_simp; (try (with_reducible rfl)))
    (try simp only [Act.put, List.getElem_toArray, List.getElem_cons_succ, List.getElem_cons_zero, List.setIfInBounds_toArray, List.set_cons_zero, List.set_cons_succ])
    refine wpAnyH_done (by kernel_rfl) ?_ _
    have hx9 := hHeld.2.2.2.2.2.2.2.2.2.2.2.2.2.2.2.2.1
    clear hHeld
    go_wp2
    go_ret
    exact ⟨rfl, hx9⟩
  · go_split_ands
    go_wp2_with fail
    have p0 : bm < wp.heap.size := by omega
    refine calls_abs (fun W => Ext w W ∧ w.heap.size + 3 ≤ W.heap.size ∧ W.cell? ⟨w.heap.size, 0, none⟩ = some (.int .i32 (ax)) ∧ W.cell? ⟨w.heap.size, 1, none⟩ = some (.int .i32 (ay)) ∧ W.cell? ⟨w.heap.size + 1, 0, none⟩ = some (.int .i32 (bx)) ∧ W.cell? ⟨w.heap.size + 1, 1, none⟩ = some (.int .i32 (bz)) ∧ W.cell? ⟨w.heap.size + 1 + 1, 0, none⟩ = some (.int .i32 (lx)) ∧ W.cell? ⟨w.heap.size + 1 + 1, 1, none⟩ = some (.int .i32 (ly)) ∧ W.cell? ⟨w.heap.size + 1 + 1, 2, none⟩ = some (.int .i32 (ux)) ∧ W.cell? ⟨w.heap.size + 1 + 1, 3, none⟩ = some (.int .i32 (uy)) ∧ W.cell? ⟨bm, 0, none⟩ = some (.int .i32 (sat (lx + f))) ∧ W.cell? ⟨bm, 1, none⟩ = some (.int .i32 (sat (ly + f))) ∧ W.cell? ⟨bm, 2, none⟩ = some (.int .i32 (sat (ux - f))) ∧ W.cell? ⟨bm, 3, none⟩ = some (.int .i32 (sat (uy - f))) ∧ W.cell? ⟨wp.heap.size, 0, none⟩ = some (.int .i32 (sat (lx + f))) ∧ W.cell? ⟨wp.heap.size, 1, none⟩ = some (.int .i32 (sat (ly + f))) ∧ W.cell? ⟨wp.heap.size, 2, none⟩ = some (.int .i32 (sat (ux - f))) ∧ W.cell? ⟨wp.heap.size, 3, none⟩ = some (.int .i32 (sat (uy - f))) ∧ w.heap.size < W.heap.size ∧ w.heap.size + 1 < W.heap.size ∧ w.heap.size + 1 + 1 < W.heap.size ∧ bm < W.heap.size ∧ wp.heap.size < W.heap.size) (by refine ⟨by (repeat' (first | (with_reducible assumption) | (with_reducible exact Ext.refl _) | (with_reducible refine Ext.grow ?_ _) | (with_reducible refine Ext.drew ?_) | (with_reducible refine Ext.set ?_ ?_ _) | omega | (simp; done) | (simp; omega) | (refine Ext.trans ?_ (by assumption)))), by first | (with_reducible assumption) | (simp; done) | (simp; omega), ?_, ?_, ?_, ?_, ?_, ?_, ?_, ?_, ?_, ?_, ?_, ?_, ?_, ?_, ?_, ?_, ?_, ?_, ?_, ?_, ?_⟩ <;> first | (with_reducible assumption) | (go_simp; done) | (simp; omega)) ?_
    (try clear hx0)
    (try clear hsz)
    (try clear c0)
    (try clear c1)
    (try clear b0)
    (try clear b1)
    (try clear x0)
    (try clear x1)
    (try clear x2)
    (try clear x3)
    (try clear d0)
    (try clear d1)
    (try clear d2)
    (try clear d3)
    (try clear n0)
    (try clear n1)
    (try clear n2)
    (try clear n3)
    (try clear l0)
    (try clear l1)
    (try clear l2)
    (try clear lm)
    (try clear ln)
    rintro U ⟨hx0, hsz, c0, c1, b0, b1, x0, x1, x2, x3, d0, d1, d2, d3, n0, n1, n2, n3, l0, l1, l2, lm, ln⟩
    have p1 : w.heap.size + 1 + 1 < wp.heap.size := by omega
    generalize wp.heap.size = bn at *
    refine (rright_any _ _ _ _ _).mono ?_
    rintro e wx ⟨rfl, hx⟩
    have hsz1 := Ext.size hx
    replace c0 := (Ext.cell hx (by dsimp only; omega)).trans c0
    replace c1 := (Ext.cell hx (by dsimp only; omega)).trans c1
    replace b0 := (Ext.cell hx (by dsimp only; omega)).trans b0
    replace b1 := (Ext.cell hx (by dsimp only; omega)).trans b1
    replace x0 := (Ext.cell hx (by dsimp only; omega)).trans x0
    replace x1 := (Ext.cell hx (by dsimp only; omega)).trans x1
    replace x2 := (Ext.cell hx (by dsimp only; omega)).trans x2
    replace x3 := (Ext.cell hx (by dsimp only; omega)).trans x3
    replace d0 := (Ext.cell hx (by dsimp only; omega)).trans d0
    replace d1 := (Ext.cell hx (by dsimp only; omega)).trans d1
    replace d2 := (Ext.cell hx (by dsimp only; omega)).trans d2
    replace d3 := (Ext.cell hx (by dsimp only; omega)).trans d3
    replace n0 := (Ext.cell hx (by dsimp only; omega)).trans n0
    replace n1 := (Ext.cell hx (by dsimp only; omega)).trans n1
    replace n2 := (Ext.cell hx (by dsimp only; omega)).trans n2
    replace n3 := (Ext.cell hx (by dsimp only; omega)).trans n3
    replace hx0 := Ext.trans hx0 hx
    replace hsz := Nat.le_trans hsz hsz1
    replace l0 := Nat.le_trans l0 hsz1
    replace l1 := Nat.le_trans l1 hsz1
    replace l2 := Nat.le_trans l2 hsz1
    replace lm := Nat.le_trans lm hsz1
    replace ln := Nat.le_trans ln hsz1
    clear hx hsz1
    have hl0 : w.heap.size < wx.heap.size := by omega
    have hl1 : w.heap.size + 1 < wx.heap.size := by omega
    have hl2 : w.heap.size + 1 + 1 < wx.heap.size := by omega
    have hl3 : bm < wx.heap.size := by omega
    have hl4 : bn < wx.heap.size := by omega
    rw [k.out]
    clear hl0 hl1 hl2 hl3 hl4
    go_wp2_with fail
    refine wp_region_held_drew (S := (fun w' => w'.cell? ⟨w.heap.size, 0, none⟩ = some (.int .i32 (ax)) ∧ w'.cell? ⟨w.heap.size, 1, none⟩ = some (.int .i32 (ay)) ∧ w'.cell? ⟨w.heap.size + 1, 0, none⟩ = some (.int .i32 (bx)) ∧ w'.cell? ⟨w.heap.size + 1, 1, none⟩ = some (.int .i32 (bz)) ∧ w'.cell? ⟨w.heap.size + 1 + 1, 0, none⟩ = some (.int .i32 (lx)) ∧ w'.cell? ⟨w.heap.size + 1 + 1, 1, none⟩ = some (.int .i32 (ly)) ∧ w'.cell? ⟨w.heap.size + 1 + 1, 2, none⟩ = some (.int .i32 (ux)) ∧ w'.cell? ⟨w.heap.size + 1 + 1, 3, none⟩ = some (.int .i32 (uy)) ∧ w'.cell? ⟨bm, 0, none⟩ = some (.int .i32 (sat (lx + f))) ∧ w'.cell? ⟨bm, 1, none⟩ = some (.int .i32 (sat (ly + f))) ∧ w'.cell? ⟨bm, 2, none⟩ = some (.int .i32 (sat (ux - f))) ∧ w'.cell? ⟨bm, 3, none⟩ = some (.int .i32 (sat (uy - f))) ∧ w'.cell? ⟨bn, 0, none⟩ = some (.int .i32 (sat (lx + f))) ∧ w'.cell? ⟨bn, 1, none⟩ = some (.int .i32 (sat (ly + f))) ∧ w'.cell? ⟨bn, 2, none⟩ = some (.int .i32 (sat (ux - f))) ∧ w'.cell? ⟨bn, 3, none⟩ = some (.int .i32 (sat (uy - f))) ∧ Ext w w' ∧ w.heap.size < w'.heap.size ∧ w.heap.size + 1 < w'.heap.size ∧ w.heap.size + 1 + 1 < w'.heap.size ∧ bm < w'.heap.size ∧ bn < w'.heap.size)) (by kernel_rfl) ?_ (fun hHeld => ?_)
    · (((try dsimp only); (try go_split_ands); (repeat' (with_reducible apply And.intro)) <;> first | (with_reducible assumption) | ((with_reducible refine Ext.trans ?_ hx0); (with_reducible assumption)) | ((with_reducible refine (Ext.cell hx0 ?_).trans ?_) <;> first | (with_reducible assumption) | (simp; done) | (simp; omega)) | ((with_reducible refine (Ext.frozen hx0 ?_).trans ?_) <;> first | (with_reducible assumption) | (simp; done) | (simp; omega)) | ((with_reducible refine Ext.held hx0 ?_ ?_) <;> first | (with_reducible assumption) | (simp; done) | (simp; omega)) | ((with_reducible refine Nat.le_trans ?_ (Ext.size hx0)); (with_reducible assumption)) | ((with_reducible refine Nat.lt_of_lt_of_le ?_ (Ext.size hx0)); (with_reducible assumption)) | ((with_reducible refine Ext.drew ?_); (repeat' (first | (with_reducible assumption) | (with_reducible exact Ext.refl _) | (with_reducible refine Ext.grow ?_ _) | (with_reducible refine Ext.drew ?_) | (with_reducible refine Ext.set ?_ ?_ _) | omega | (simp; done) | (simp; omega) | (refine Ext.trans ?_ (by assumption)))); done) | ((repeat' (with_reducible refine Ext.set ?_ ?_ _)) <;> first | (with_reducible assumption) | omega | (simp; done) | (simp; omega)) | ((with_reducible refine Ext.grow ?_ _); (repeat' (first | (with_reducible assumption) | (with_reducible exact Ext.refl _) | (with_reducible refine Ext.grow ?_ _) | (with_reducible refine Ext.drew ?_) | (with_reducible refine Ext.set ?_ ?_ _) | omega | (simp; done) | (simp; omega) | (refine Ext.trans ?_ (by assumption)))); done) | ((with_reducible refine heldAt_some ?_); (go_simp; done)) | (go_simp; done) | (simp; omega)))
    refine wpAnyH_take (i := 0) (v := ?_) rfl (by kernel_rfl) (by kernel_rfl) (by kernel_rfl) (fun _ _ _ h => h) (Or.inl ⟨by kernel_rfl, ?_⟩) (by assumption) ?_
    rotate_left
    · (intro w hSw; (try dsimp only at hSw); go_simp; (try (with_reducible rfl)))
    (try simp only [Act.put, List.getElem_toArray, List.getElem_cons_succ, List.getElem_cons_zero, List.setIfInBounds_toArray, List.set_cons_zero, List.set_cons_succ])
    refine wpAnyH_take (i := 1) (v := ?_) rfl (by kernel_rfl) (by kernel_rfl) (by kernel_rfl) (fun _ _ _ h => h) (Or.inl ⟨by kernel_rfl, ?_⟩) (by assumption) ?_
    rotate_left
    · (intro w hSw; (try dsimp only at hSw); go_simp; (try (with_reducible rfl)))
    (try simp only [Act.put, List.getElem_toArray, List.getElem_cons_succ, List.getElem_cons_zero, List.setIfInBounds_toArray, List.set_cons_zero, List.set_cons_succ])
    refine wpAnyH_take (i := 3) (v := ?_) rfl (by kernel_rfl) (by kernel_rfl) (by kernel_rfl) (fun _ _ _ h => h) (Or.inl ⟨by kernel_rfl, ?_⟩) (by assumption) ?_
    rotate_left
    · (intro w hSw; (try dsimp only at hSw); go_simp; (try (with_reducible rfl)))
    (try simp only [Act.put, List.getElem_toArray, List.getElem_cons_succ, List.getElem_cons_zero, List.setIfInBounds_toArray, List.set_cons_zero, List.set_cons_succ])
    refine wpAnyH_take (i := 4) (v := ?_) rfl (by kernel_rfl) (by kernel_rfl) (by kernel_rfl) (fun _ _ _ h => h) (Or.inl ⟨by kernel_rfl, ?_⟩) (by assumption) ?_
    rotate_left
    · (intro w hSw; (try dsimp only at hSw); go_simp; (try (with_reducible rfl)))
    (try simp only [Act.put, List.getElem_toArray, List.getElem_cons_succ, List.getElem_cons_zero, List.setIfInBounds_toArray, List.set_cons_zero, List.set_cons_succ])
    refine wpAnyH_ready (rs := [2]) (by kernel_rfl) (by simp) ?_
    refine AllReadyH.cons rfl (fun K hK => ?_) AllReadyH.nil
    go_simp
    (go_at_call 45; refine (vAdd_any _ _ _ _ _ (by omega) (by omega) (by omega) (by omega)).mono ?_; rintro e wx ⟨rfl, hx⟩)
    refine hK.out _ _ ?_ (fun hHeld1 => ?_)
    · (((try dsimp only); (try go_split_ands); (repeat' (with_reducible apply And.intro)) <;> first | (with_reducible assumption) | ((with_reducible refine Ext.trans ?_ hx); (with_reducible assumption)) | ((with_reducible refine (Ext.cell hx ?_).trans ?_) <;> first | (with_reducible assumption) | (simp; done) | (simp; omega)) | ((with_reducible refine (Ext.frozen hx ?_).trans ?_) <;> first | (with_reducible assumption) | (simp; done) | (simp; omega)) | ((with_reducible refine Ext.held hx ?_ ?_) <;> first | (with_reducible assumption) | (simp; done) | (simp; omega)) | ((with_reducible refine Nat.le_trans ?_ (Ext.size hx)); (with_reducible assumption)) | ((with_reducible refine Nat.lt_of_lt_of_le ?_ (Ext.size hx)); (with_reducible assumption)) | ((with_reducible refine Ext.drew ?_); (repeat' (first | (with_reducible assumption) | (with_reducible exact Ext.refl _) | (with_reducible refine Ext.grow ?_ _) | (with_reducible refine Ext.drew ?_) | (with_reducible refine Ext.set ?_ ?_ _) | omega | (simp; done) | (simp; omega) | (refine Ext.trans ?_ (by assumption)))); done) | ((repeat' (with_reducible refine Ext.set ?_ ?_ _)) <;> first | (with_reducible assumption) | omega | (simp; done) | (simp; omega)) | ((with_reducible refine Ext.grow ?_ _); (repeat' (first | (with_reducible assumption) | (with_reducible exact Ext.refl _) | (with_reducible refine Ext.grow ?_ _) | (with_reducible refine Ext.drew ?_) | (with_reducible refine Ext.set ?_ ?_ _) | omega | (simp; done) | (simp; omega) | (refine Ext.trans ?_ (by assumption)))); done) | ((with_reducible refine heldAt_some ?_); (go_simp; done)) | (go_simp; done) | (simp; omega)))
    replace hHeld := hHeld1
    clear hHeld1 hK K
    (try simp only [Act.put, List.getElem_toArray, List.getElem_cons_succ, List.getElem_cons_zero, List.setIfInBounds_toArray, List.set_cons_zero, List.set_cons_succ])
    refine wpAnyH_ready (rs := [5]) (by kernel_rfl) (by simp) ?_
    refine AllReadyH.cons rfl (fun K hK => ?_) AllReadyH.nil
    go_simp
    (go_at_call 28; refine (rplus_any _ _ _ _ _ (by omega) (by omega) (by omega) (by omega)).mono ?_; rintro e wx ⟨rfl, hx⟩)
    refine hK.out _ _ ?_ (fun hHeld1 => ?_)
    · (((try dsimp only); (try go_split_ands); (repeat' (with_reducible apply And.intro)) <;> first | (with_reducible assumption) | ((with_reducible refine Ext.trans ?_ hx); (with_reducible assumption)) | ((with_reducible refine (Ext.cell hx ?_).trans ?_) <;> first | (with_reducible assumption) | (simp; done) | (simp; omega)) | ((with_reducible refine (Ext.frozen hx ?_).trans ?_) <;> first | (with_reducible assumption) | (simp; done) | (simp; omega)) | ((with_reducible refine Ext.held hx ?_ ?_) <;> first | (with_reducible assumption) | (simp; done) | (simp; omega)) | ((with_reducible refine Nat.le_trans ?_ (Ext.size hx)); (with_reducible assumption)) | ((with_reducible refine Nat.lt_of_lt_of_le ?_ (Ext.size hx)); (with_reducible assumption)) | ((with_reducible refine Ext.drew ?_); (repeat' (first | (with_reducible assumption) | (with_reducible exact Ext.refl _) | (with_reducible refine Ext.grow ?_ _) | (with_reducible refine Ext.drew ?_) | (with_reducible refine Ext.set ?_ ?_ _) | omega | (simp; done) | (simp; omega) | (refine Ext.trans ?_ (by assumption)))); done) | ((repeat' (with_reducible refine Ext.set ?_ ?_ _)) <;> first | (with_reducible assumption) | omega | (simp; done) | (simp; omega)) | ((with_reducible refine Ext.grow ?_ _); (repeat' (first | (with_reducible assumption) | (with_reducible exact Ext.refl _) | (with_reducible refine Ext.grow ?_ _) | (with_reducible refine Ext.drew ?_) | (with_reducible refine Ext.set ?_ ?_ _) | omega | (simp; done) | (simp; omega) | (refine Ext.trans ?_ (by assumption)))); done) | ((with_reducible refine heldAt_some ?_); (go_simp; done)) | (go_simp; done) | (simp; omega)))
    replace hHeld := hHeld1
    clear hHeld1 hK K
    (try simp only [Act.put, List.getElem_toArray, List.getElem_cons_succ, List.getElem_cons_zero, List.setIfInBounds_toArray, List.set_cons_zero, List.set_cons_succ])
    refine wpAnyH_take (i := 6) (v := ?_) rfl (by kernel_rfl) (by kernel_rfl) (by kernel_rfl) (fun _ _ _ h => h) (Or.inl ⟨by kernel_rfl, ?_⟩) (by assumption) ?_
    rotate_left
    · (intro w hSw; (try dsimp only at hSw); go_simp; (try (with_reducible rfl)))
    (try simp only [Act.put, List.getElem_toArray, List.getElem_cons_succ, List.getElem_cons_zero, List.setIfInBounds_toArray, List.set_cons_zero, List.set_cons_succ])
    refine wpAnyH_take (i := 7) (v := ?_) rfl (by kernel_rfl) (by kernel_rfl) (by kernel_rfl) (fun _ _ _ h => h) (Or.inl ⟨by kernel_rfl, ?_⟩) (by assumption) ?_
    rotate_left
    · (intro w hSw; (try dsimp only at hSw); go_simp; (try (with_reducible rfl)))
    (try simp only [Act.put, List.getElem_toArray, List.getElem_cons_succ, List.getElem_cons_zero, List.setIfInBounds_toArray, List.set_cons_zero, List.set_cons_succ])
    refine wpAnyH_take (i := 8) (v := ?_) rfl (by kernel_rfl) (by kernel_rfl) (by kernel_rfl) (fun _ _ _ h => h) (Or.inl ⟨by kernel_rfl, ?_⟩) (by assumption) ?_
    rotate_left
    · (intro w hSw; (try dsimp only at hSw); go_simp; (try (with_reducible rfl)))
    (try simp only [Act.put, List.getElem_toArray, List.getElem_cons_succ, List.getElem_cons_zero, List.setIfInBounds_toArray, List.set_cons_zero, List.set_cons_succ])
    refine wpAnyH_take (i := 9) (v := ?_) rfl (by kernel_rfl) (by kernel_rfl) (by kernel_rfl) (fun _ _ _ h => h) (Or.inl ⟨by kernel_rfl, ?_⟩) (by assumption) ?_
    rotate_left
    · (intro w hSw; (try dsimp only at hSw); go_simp; (try (with_reducible rfl)))
    (try simp only [Act.put, List.getElem_toArray, List.getElem_cons_succ, List.getElem_cons_zero, List.setIfInBounds_toArray, List.set_cons_zero, List.set_cons_succ])
    refine wpAnyH_take (i := 11) (v := ?_) rfl (by kernel_rfl) (by kernel_rfl) (by kernel_rfl) (fun _ _ _ h => h) (Or.inl ⟨by kernel_rfl, ?_⟩) (by assumption) ?_
    rotate_left
    · (intro w hSw; (try dsimp only at hSw); go_simp; (try (with_reducible rfl)))
    (try simp only [Act.put, List.getElem_toArray, List.getElem_cons_succ, List.getElem_cons_zero, List.setIfInBounds_toArray, List.set_cons_zero, List.set_cons_succ])
    refine wpAnyH_take (i := 12) (v := ?_) rfl (by kernel_rfl) (by kernel_rfl) (by kernel_rfl) (fun _ _ _ h => h) (Or.inl ⟨by kernel_rfl, ?_⟩) (by assumption) ?_
    rotate_left
    · (intro w hSw; (try dsimp only at hSw); go_simp; (try (with_reducible rfl)))
    (try simp only [Act.put, List.getElem_toArray, List.getElem_cons_succ, List.getElem_cons_zero, List.setIfInBounds_toArray, List.set_cons_zero, List.set_cons_succ])
    refine wpAnyH_ready (rs := [10]) (by kernel_rfl) (by simp) ?_
    refine AllReadyH.cons rfl (fun K hK => ?_) AllReadyH.nil
    go_simp
    (go_at_call 46; refine (vSub_any _ _ _ _ _ (by omega) (by omega) (by omega) (by omega)).mono ?_; rintro e wx ⟨rfl, hx⟩)
    refine hK.out _ _ ?_ (fun hHeld1 => ?_)
    · (((try dsimp only); (try go_split_ands); (repeat' (with_reducible apply And.intro)) <;> first | (with_reducible assumption) | ((with_reducible refine Ext.trans ?_ hx); (with_reducible assumption)) | ((with_reducible refine (Ext.cell hx ?_).trans ?_) <;> first | (with_reducible assumption) | (simp; done) | (simp; omega)) | ((with_reducible refine (Ext.frozen hx ?_).trans ?_) <;> first | (with_reducible assumption) | (simp; done) | (simp; omega)) | ((with_reducible refine Ext.held hx ?_ ?_) <;> first | (with_reducible assumption) | (simp; done) | (simp; omega)) | ((with_reducible refine Nat.le_trans ?_ (Ext.size hx)); (with_reducible assumption)) | ((with_reducible refine Nat.lt_of_lt_of_le ?_ (Ext.size hx)); (with_reducible assumption)) | ((with_reducible refine Ext.drew ?_); (repeat' (first | (with_reducible assumption) | (with_reducible exact Ext.refl _) | (with_reducible refine Ext.grow ?_ _) | (with_reducible refine Ext.drew ?_) | (with_reducible refine Ext.set ?_ ?_ _) | omega | (simp; done) | (simp; omega) | (refine Ext.trans ?_ (by assumption)))); done) | ((repeat' (with_reducible refine Ext.set ?_ ?_ _)) <;> first | (with_reducible assumption) | omega | (simp; done) | (simp; omega)) | ((with_reducible refine Ext.grow ?_ _); (repeat' (first | (with_reducible assumption) | (with_reducible exact Ext.refl _) | (with_reducible refine Ext.grow ?_ _) | (with_reducible refine Ext.drew ?_) | (with_reducible refine Ext.set ?_ ?_ _) | omega | (simp; done) | (simp; omega) | (refine Ext.trans ?_ (by assumption)))); done) | ((with_reducible refine heldAt_some ?_); (go_simp; done)) | (go_simp; done) | (simp; omega)))
    replace hHeld := hHeld1
    clear hHeld1 hK K
    (try simp only [Act.put, List.getElem_toArray, List.getElem_cons_succ, List.getElem_cons_zero, List.setIfInBounds_toArray, List.set_cons_zero, List.set_cons_succ])
    refine wpAnyH_ready (rs := [13]) (by kernel_rfl) (by simp) ?_
    refine AllReadyH.cons rfl (fun K hK => ?_) AllReadyH.nil
    go_simp
    (go_at_call 29; refine (rless_any _ _ _ _ _ (by omega) (by omega) (by omega) (by omega)).mono ?_; rintro e wx ⟨rfl, hx⟩)
    refine hK.out _ _ ?_ (fun hHeld1 => ?_)
    · (((try dsimp only); (try go_split_ands); (repeat' (with_reducible apply And.intro)) <;> first | (with_reducible assumption) | ((with_reducible refine Ext.trans ?_ hx); (with_reducible assumption)) | ((with_reducible refine (Ext.cell hx ?_).trans ?_) <;> first | (with_reducible assumption) | (simp; done) | (simp; omega)) | ((with_reducible refine (Ext.frozen hx ?_).trans ?_) <;> first | (with_reducible assumption) | (simp; done) | (simp; omega)) | ((with_reducible refine Ext.held hx ?_ ?_) <;> first | (with_reducible assumption) | (simp; done) | (simp; omega)) | ((with_reducible refine Nat.le_trans ?_ (Ext.size hx)); (with_reducible assumption)) | ((with_reducible refine Nat.lt_of_lt_of_le ?_ (Ext.size hx)); (with_reducible assumption)) | ((with_reducible refine Ext.drew ?_); (repeat' (first | (with_reducible assumption) | (with_reducible exact Ext.refl _) | (with_reducible refine Ext.grow ?_ _) | (with_reducible refine Ext.drew ?_) | (with_reducible refine Ext.set ?_ ?_ _) | omega | (simp; done) | (simp; omega) | (refine Ext.trans ?_ (by assumption)))); done) | ((repeat' (with_reducible refine Ext.set ?_ ?_ _)) <;> first | (with_reducible assumption) | omega | (simp; done) | (simp; omega)) | ((with_reducible refine Ext.grow ?_ _); (repeat' (first | (with_reducible assumption) | (with_reducible exact Ext.refl _) | (with_reducible refine Ext.grow ?_ _) | (with_reducible refine Ext.drew ?_) | (with_reducible refine Ext.set ?_ ?_ _) | omega | (simp; done) | (simp; omega) | (refine Ext.trans ?_ (by assumption)))); done) | ((with_reducible refine heldAt_some ?_); (go_simp; done)) | (go_simp; done) | (simp; omega)))
    replace hHeld := hHeld1
    clear hHeld1 hK K
    (try simp only [Act.put, List.getElem_toArray, List.getElem_cons_succ, List.getElem_cons_zero, List.setIfInBounds_toArray, List.set_cons_zero, List.set_cons_succ])
    refine wpAnyH_take (i := 14) (v := ?_) rfl (by kernel_rfl) (by kernel_rfl) (by kernel_rfl) (fun _ _ _ h => h) (Or.inl ⟨by kernel_rfl, ?_⟩) (by assumption) ?_
    rotate_left
    · (intro w hSw; (try dsimp only at hSw); go_simp; (try (with_reducible rfl)))
    (try simp only [Act.put, List.getElem_toArray, List.getElem_cons_succ, List.getElem_cons_zero, List.setIfInBounds_toArray, List.set_cons_zero, List.set_cons_succ])
    refine wpAnyH_take (i := 15) (v := ?_) rfl (by kernel_rfl) (by kernel_rfl) (by kernel_rfl) (fun _ _ _ h => h) (Or.inl ⟨by kernel_rfl, ?_⟩) (by assumption) ?_
    rotate_left
    · (intro w hSw; (try dsimp only at hSw); go_simp; (try (with_reducible rfl)))
    (try simp only [Act.put, List.getElem_toArray, List.getElem_cons_succ, List.getElem_cons_zero, List.setIfInBounds_toArray, List.set_cons_zero, List.set_cons_succ])
    refine wpAnyH_take (i := 16) (v := ?_) rfl (by kernel_rfl) (by kernel_rfl) (by kernel_rfl) (fun _ _ _ h => h) (Or.inl ⟨by kernel_rfl, ?_⟩) (by assumption) ?_
    rotate_left
    · (intro w hSw; (try dsimp only at hSw); go_simp; (try (with_reducible rfl)))
    (try simp only [Act.put, List.getElem_toArray, List.getElem_cons_succ, List.getElem_cons_zero, List.setIfInBounds_toArray, List.set_cons_zero, List.set_cons_succ])
    refine wpAnyH_take (i := 17) (v := ?_) rfl (by kernel_rfl) (by kernel_rfl) (by kernel_rfl) (fun _ _ _ h => h) (Or.inl ⟨by kernel_rfl, ?_⟩) (by assumption) ?_
    rotate_left
    · (intro w hSw; (try dsimp only at hSw); go_simp; (try (with_reducible rfl)))
    (try simp only [Act.put, List.getElem_toArray, List.getElem_cons_succ, List.getElem_cons_zero, List.setIfInBounds_toArray, List.set_cons_zero, List.set_cons_succ])
    refine wpAnyH_take (i := 18) (v := ?_) rfl (by kernel_rfl) (by kernel_rfl) (by kernel_rfl) (fun _ _ _ h => h) (Or.inl ⟨by kernel_rfl, ?_⟩) (by assumption) ?_
    rotate_left
    · (intro w hSw; (try dsimp only at hSw); go_simp; (try (with_reducible rfl)))
    (try simp only [Act.put, List.getElem_toArray, List.getElem_cons_succ, List.getElem_cons_zero, List.setIfInBounds_toArray, List.set_cons_zero, List.set_cons_succ])
    refine wpAnyH_take (i := 20) (v := ?_) rfl (by kernel_rfl) (by kernel_rfl) (by kernel_rfl) (fun _ _ _ h => h) (Or.inl ⟨by kernel_rfl, ?_⟩) (by assumption) ?_
    rotate_left
    · (intro w hSw; (try dsimp only at hSw); go_simp; (try (with_reducible rfl)))
    (try simp only [Act.put, List.getElem_toArray, List.getElem_cons_succ, List.getElem_cons_zero, List.setIfInBounds_toArray, List.set_cons_zero, List.set_cons_succ])
    refine wpAnyH_take (i := 21) (v := ?_) rfl (by kernel_rfl) (by kernel_rfl) (by kernel_rfl) (fun _ _ _ h => h) (Or.inl ⟨by kernel_rfl, ?_⟩) (by assumption) ?_
    rotate_left
    · (intro w hSw; (try dsimp only at hSw); go_simp; (try (with_reducible rfl)))
    (try simp only [Act.put, List.getElem_toArray, List.getElem_cons_succ, List.getElem_cons_zero, List.setIfInBounds_toArray, List.set_cons_zero, List.set_cons_succ])
    refine wpAnyH_ready (rs := [19]) (by kernel_rfl) (by simp) ?_
    refine AllReadyH.cons rfl (fun K hK => ?_) AllReadyH.nil
    go_simp
    (go_at_call 47; refine (vScale_any _ _ _ _ (by omega) (by omega) (by omega)).mono ?_; rintro e wx ⟨rfl, hx⟩)
    refine hK.out _ _ ?_ (fun hHeld1 => ?_)
    · (((try dsimp only); (try go_split_ands); (repeat' (with_reducible apply And.intro)) <;> first | (with_reducible assumption) | ((with_reducible refine Ext.trans ?_ hx); (with_reducible assumption)) | ((with_reducible refine (Ext.cell hx ?_).trans ?_) <;> first | (with_reducible assumption) | (simp; done) | (simp; omega)) | ((with_reducible refine (Ext.frozen hx ?_).trans ?_) <;> first | (with_reducible assumption) | (simp; done) | (simp; omega)) | ((with_reducible refine Ext.held hx ?_ ?_) <;> first | (with_reducible assumption) | (simp; done) | (simp; omega)) | ((with_reducible refine Nat.le_trans ?_ (Ext.size hx)); (with_reducible assumption)) | ((with_reducible refine Nat.lt_of_lt_of_le ?_ (Ext.size hx)); (with_reducible assumption)) | ((with_reducible refine Ext.drew ?_); (repeat' (first | (with_reducible assumption) | (with_reducible exact Ext.refl _) | (with_reducible refine Ext.grow ?_ _) | (with_reducible refine Ext.drew ?_) | (with_reducible refine Ext.set ?_ ?_ _) | omega | (simp; done) | (simp; omega) | (refine Ext.trans ?_ (by assumption)))); done) | ((repeat' (with_reducible refine Ext.set ?_ ?_ _)) <;> first | (with_reducible assumption) | omega | (simp; done) | (simp; omega)) | ((with_reducible refine Ext.grow ?_ _); (repeat' (first | (with_reducible assumption) | (with_reducible exact Ext.refl _) | (with_reducible refine Ext.grow ?_ _) | (with_reducible refine Ext.drew ?_) | (with_reducible refine Ext.set ?_ ?_ _) | omega | (simp; done) | (simp; omega) | (refine Ext.trans ?_ (by assumption)))); done) | ((with_reducible refine heldAt_some ?_); (go_simp; done)) | (go_simp; done) | (simp; omega)))
    replace hHeld := hHeld1
    clear hHeld1 hK K
    (try simp only [Act.put, List.getElem_toArray, List.getElem_cons_succ, List.getElem_cons_zero, List.setIfInBounds_toArray, List.set_cons_zero, List.set_cons_succ])
    refine wpAnyH_ready (rs := [22]) (by kernel_rfl) (by simp) ?_
    refine AllReadyH.cons rfl (fun K hK => ?_) AllReadyH.nil
    go_simp
    (go_at_call 48; refine (rscaleV_any _ _ _ _ (by omega) (by omega) (by omega)).mono ?_; rintro e wx ⟨rfl, hx⟩)
    refine hK.out _ _ ?_ (fun hHeld1 => ?_)
    · (((try dsimp only); (try go_split_ands); (repeat' (with_reducible apply And.intro)) <;> first | (with_reducible assumption) | ((with_reducible refine Ext.trans ?_ hx); (with_reducible assumption)) | ((with_reducible refine (Ext.cell hx ?_).trans ?_) <;> first | (with_reducible assumption) | (simp; done) | (simp; omega)) | ((with_reducible refine (Ext.frozen hx ?_).trans ?_) <;> first | (with_reducible assumption) | (simp; done) | (simp; omega)) | ((with_reducible refine Ext.held hx ?_ ?_) <;> first | (with_reducible assumption) | (simp; done) | (simp; omega)) | ((with_reducible refine Nat.le_trans ?_ (Ext.size hx)); (with_reducible assumption)) | ((with_reducible refine Nat.lt_of_lt_of_le ?_ (Ext.size hx)); (with_reducible assumption)) | ((with_reducible refine Ext.drew ?_); (repeat' (first | (with_reducible assumption) | (with_reducible exact Ext.refl _) | (with_reducible refine Ext.grow ?_ _) | (with_reducible refine Ext.drew ?_) | (with_reducible refine Ext.set ?_ ?_ _) | omega | (simp; done) | (simp; omega) | (refine Ext.trans ?_ (by assumption)))); done) | ((repeat' (with_reducible refine Ext.set ?_ ?_ _)) <;> first | (with_reducible assumption) | omega | (simp; done) | (simp; omega)) | ((with_reducible refine Ext.grow ?_ _); (repeat' (first | (with_reducible assumption) | (with_reducible exact Ext.refl _) | (with_reducible refine Ext.grow ?_ _) | (with_reducible refine Ext.drew ?_) | (with_reducible refine Ext.set ?_ ?_ _) | omega | (simp; done) | (simp; omega) | (refine Ext.trans ?_ (by assumption)))); done) | ((with_reducible refine heldAt_some ?_); (go_simp; done)) | (go_simp; done) | (simp; omega)))
    replace hHeld := hHeld1
    clear hHeld1 hK K
    (try simp only [Act.put, List.getElem_toArray, List.getElem_cons_succ, List.getElem_cons_zero, List.setIfInBounds_toArray, List.set_cons_zero, List.set_cons_succ])
    refine wpAnyH_take (i := 23) (v := ?_) rfl (by kernel_rfl) (by kernel_rfl) (by kernel_rfl) (fun _ _ _ h => h) (Or.inl ⟨by kernel_rfl, ?_⟩) (by assumption) ?_
    rotate_left
    · (intro w hSw; (try dsimp only at hSw); go_simp; (try (with_reducible rfl)))
    (try simp only [Act.put, List.getElem_toArray, List.getElem_cons_succ, List.getElem_cons_zero, List.setIfInBounds_toArray, List.set_cons_zero, List.set_cons_succ])
    refine wpAnyH_take (i := 24) (v := ?_) rfl (by kernel_rfl) (by kernel_rfl) (by kernel_rfl) (fun _ _ _ h => h) (Or.inl ⟨by kernel_rfl, ?_⟩) (by assumption) ?_
    rotate_left
    · (intro w hSw; (try dsimp only at hSw); go_simp; (try (with_reducible rfl)))
    (try simp only [Act.put, List.getElem_toArray, List.getElem_cons_succ, List.getElem_cons_zero, List.setIfInBounds_toArray, List.set_cons_zero, List.set_cons_succ])
    refine wpAnyH_take (i := 25) (v := ?_) rfl (by kernel_rfl) (by kernel_rfl) (by kernel_rfl) (fun _ _ _ h => h) (Or.inl ⟨by kernel_rfl, ?_⟩) (by assumption) ?_
    rotate_left
    · (intro w hSw; (try dsimp only at hSw); go_simp; (try (with_reducible rfl)))
    (try simp only [Act.put, List.getElem_toArray, List.getElem_cons_succ, List.getElem_cons_zero, List.setIfInBounds_toArray, List.set_cons_zero, List.set_cons_succ])
    refine wpAnyH_take (i := 26) (v := ?_) rfl (by kernel_rfl) (by kernel_rfl) (by kernel_rfl) (fun _ _ _ h => h) (Or.inl ⟨by kernel_rfl, ?_⟩) (by assumption) ?_
    rotate_left
    · (intro w hSw; (try dsimp only at hSw); go_simp; (try (with_reducible rfl)))
    (try simp only [Act.put, List.getElem_toArray, List.getElem_cons_succ, List.getElem_cons_zero, List.setIfInBounds_toArray, List.set_cons_zero, List.set_cons_succ])
    refine wpAnyH_take (i := 28) (v := ?_) rfl (by kernel_rfl) (by kernel_rfl) (by kernel_rfl) (fun _ _ _ h => h) (Or.inl ⟨by kernel_rfl, ?_⟩) (by assumption) ?_
    rotate_left
    · (intro w hSw; (try dsimp only at hSw); go_simp; (try (with_reducible rfl)))
    (try simp only [Act.put, List.getElem_toArray, List.getElem_cons_succ, List.getElem_cons_zero, List.setIfInBounds_toArray, List.set_cons_zero, List.set_cons_succ])
    refine wpAnyH_ready (rs := [27]) (by kernel_rfl) (by simp) ?_
    refine AllReadyH.cons rfl (fun K hK => ?_) AllReadyH.nil
    go_simp
    (go_at_call 49; refine (right_any _ _ _ _ _).mono ?_; rintro e wx ⟨rfl, hx⟩)
    refine hK.out _ _ ?_ (fun hHeld1 => ?_)
    · (((try dsimp only); (try go_split_ands); (repeat' (with_reducible apply And.intro)) <;> first | (with_reducible assumption) | ((with_reducible refine Ext.trans ?_ hx); (with_reducible assumption)) | ((with_reducible refine (Ext.cell hx ?_).trans ?_) <;> first | (with_reducible assumption) | (simp; done) | (simp; omega)) | ((with_reducible refine (Ext.frozen hx ?_).trans ?_) <;> first | (with_reducible assumption) | (simp; done) | (simp; omega)) | ((with_reducible refine Ext.held hx ?_ ?_) <;> first | (with_reducible assumption) | (simp; done) | (simp; omega)) | ((with_reducible refine Nat.le_trans ?_ (Ext.size hx)); (with_reducible assumption)) | ((with_reducible refine Nat.lt_of_lt_of_le ?_ (Ext.size hx)); (with_reducible assumption)) | ((with_reducible refine Ext.drew ?_); (repeat' (first | (with_reducible assumption) | (with_reducible exact Ext.refl _) | (with_reducible refine Ext.grow ?_ _) | (with_reducible refine Ext.drew ?_) | (with_reducible refine Ext.set ?_ ?_ _) | omega | (simp; done) | (simp; omega) | (refine Ext.trans ?_ (by assumption)))); done) | ((repeat' (with_reducible refine Ext.set ?_ ?_ _)) <;> first | (with_reducible assumption) | omega | (simp; done) | (simp; omega)) | ((with_reducible refine Ext.grow ?_ _); (repeat' (first | (with_reducible assumption) | (with_reducible exact Ext.refl _) | (with_reducible refine Ext.grow ?_ _) | (with_reducible refine Ext.drew ?_) | (with_reducible refine Ext.set ?_ ?_ _) | omega | (simp; done) | (simp; omega) | (refine Ext.trans ?_ (by assumption)))); done) | ((with_reducible refine heldAt_some ?_); (go_simp; done)) | (go_simp; done) | (simp; omega)))
    replace hHeld := hHeld1
    clear hHeld1 hK K
    (try simp only [Act.put, List.getElem_toArray, List.getElem_cons_succ, List.getElem_cons_zero, List.setIfInBounds_toArray, List.set_cons_zero, List.set_cons_succ])
    refine wpAnyH_ready (rs := [29]) (by kernel_rfl) (by simp) ?_
    refine AllReadyH.cons rfl (fun K hK => ?_) AllReadyH.nil
    go_simp
    (go_at_call 38; refine (rright_any _ _ _ _ _).mono ?_; rintro e wx ⟨rfl, hx⟩)
    refine hK.out _ _ ?_ (fun hHeld1 => ?_)
    · (((try dsimp only); (try go_split_ands); (repeat' (with_reducible apply And.intro)) <;> first | (with_reducible assumption) | ((with_reducible refine Ext.trans ?_ hx); (with_reducible assumption)) | ((with_reducible refine (Ext.cell hx ?_).trans ?_) <;> first | (with_reducible assumption) | (simp; done) | (simp; omega)) | ((with_reducible refine (Ext.frozen hx ?_).trans ?_) <;> first | (with_reducible assumption) | (simp; done) | (simp; omega)) | ((with_reducible refine Ext.held hx ?_ ?_) <;> first | (with_reducible assumption) | (simp; done) | (simp; omega)) | ((with_reducible refine Nat.le_trans ?_ (Ext.size hx)); (with_reducible assumption)) | ((with_reducible refine Nat.lt_of_lt_of_le ?_ (Ext.size hx)); (with_reducible assumption)) | ((with_reducible refine Ext.drew ?_); (repeat' (first | (with_reducible assumption) | (with_reducible exact Ext.refl _) | (with_reducible refine Ext.grow ?_ _) | (with_reducible refine Ext.drew ?_) | (with_reducible refine Ext.set ?_ ?_ _) | omega | (simp; done) | (simp; omega) | (refine Ext.trans ?_ (by assumption)))); done) | ((repeat' (with_reducible refine Ext.set ?_ ?_ _)) <;> first | (with_reducible assumption) | omega | (simp; done) | (simp; omega)) | ((with_reducible refine Ext.grow ?_ _); (repeat' (first | (with_reducible assumption) | (with_reducible exact Ext.refl _) | (with_reducible refine Ext.grow ?_ _) | (with_reducible refine Ext.drew ?_) | (with_reducible refine Ext.set ?_ ?_ _) | omega | (simp; done) | (simp; omega) | (refine Ext.trans ?_ (by assumption)))); done) | ((with_reducible refine heldAt_some ?_); (go_simp; done)) | (go_simp; done) | (simp; omega)))
    replace hHeld := hHeld1
    clear hHeld1 hK K
    (try simp only [Act.put, List.getElem_toArray, List.getElem_cons_succ, List.getElem_cons_zero, List.setIfInBounds_toArray, List.set_cons_zero, List.set_cons_succ])
    refine wpAnyH_take (i := 30) (v := ?_) rfl (by kernel_rfl) (by kernel_rfl) (by kernel_rfl) (fun _ _ _ h => h) (Or.inl ⟨by kernel_rfl, ?_⟩) (by assumption) ?_
    rotate_left
    · (intro w hSw; (try dsimp only at hSw); go_simp; (try (with_reducible rfl)))
    (try simp only [Act.put, List.getElem_toArray, List.getElem_cons_succ, List.getElem_cons_zero, List.setIfInBounds_toArray, List.set_cons_zero, List.set_cons_succ])
    refine wpAnyH_take (i := 31) (v := ?_) rfl (by kernel_rfl) (by kernel_rfl) (by kernel_rfl) (fun _ _ _ h => h) (Or.inl ⟨by kernel_rfl, ?_⟩) (by assumption) ?_
    rotate_left
    · (intro w hSw; (try dsimp only at hSw); go_simp; (try (with_reducible rfl)))
    (try simp only [Act.put, List.getElem_toArray, List.getElem_cons_succ, List.getElem_cons_zero, List.setIfInBounds_toArray, List.set_cons_zero, List.set_cons_succ])
    refine wpAnyH_take (i := 32) (v := ?_) rfl (by kernel_rfl) (by kernel_rfl) (by kernel_rfl) (fun _ _ _ h => h) (Or.inl ⟨by kernel_rfl, ?_⟩) (by assumption) ?_
    rotate_left
    · (intro w hSw; (try dsimp only at hSw); go_simp; (try (with_reducible rfl)))
    (try simp only [Act.put, List.getElem_toArray, List.getElem_cons_succ, List.getElem_cons_zero, List.setIfInBounds_toArray, List.set_cons_zero, List.set_cons_succ])
    refine wpAnyH_take (i := 33) (v := ?_) rfl (by kernel_rfl) (by kernel_rfl) (by kernel_rfl) (fun _ _ _ h => h) (Or.inl ⟨by kernel_rfl, ?_⟩) (by assumption) ?_
    rotate_left
    · (intro w hSw; (try dsimp only at hSw); go_simp; (try (with_reducible rfl)))
    (try simp only [Act.put, List.getElem_toArray, List.getElem_cons_succ, List.getElem_cons_zero, List.setIfInBounds_toArray, List.set_cons_zero, List.set_cons_succ])
    refine wpAnyH_take (i := 34) (v := ?_) rfl (by kernel_rfl) (by kernel_rfl) (by kernel_rfl) (fun _ _ _ h => h) (Or.inl ⟨by kernel_rfl, ?_⟩) (by assumption) ?_
    rotate_left
    · (intro w hSw; (try dsimp only at hSw); go_simp; (try (with_reducible rfl)))
    (try simp only [Act.put, List.getElem_toArray, List.getElem_cons_succ, List.getElem_cons_zero, List.setIfInBounds_toArray, List.set_cons_zero, List.set_cons_succ])
    refine wpAnyH_take (i := 36) (v := ?_) rfl (by kernel_rfl) (by kernel_rfl) (by kernel_rfl) (fun _ _ _ h => h) (Or.inl ⟨by kernel_rfl, ?_⟩) (by assumption) ?_
    rotate_left
    · (intro w hSw; (try dsimp only at hSw); go_simp; (try (with_reducible rfl)))
    (try simp only [Act.put, List.getElem_toArray, List.getElem_cons_succ, List.getElem_cons_zero, List.setIfInBounds_toArray, List.set_cons_zero, List.set_cons_succ])
    refine wpAnyH_take (i := 37) (v := ?_) rfl (by kernel_rfl) (by kernel_rfl) (by kernel_rfl) (fun _ _ _ h => h) (Or.inl ⟨by kernel_rfl, ?_⟩) (by assumption) ?_
    rotate_left
    · (intro w hSw; (try dsimp only at hSw); go_simp; (try (with_reducible rfl)))
    (try simp only [Act.put, List.getElem_toArray, List.getElem_cons_succ, List.getElem_cons_zero, List.setIfInBounds_toArray, List.set_cons_zero, List.set_cons_succ])
    refine wpAnyH_ready (rs := [35]) (by kernel_rfl) (by simp) ?_
    refine AllReadyH.cons rfl (fun K hK => ?_) AllReadyH.nil
    go_simp
    (go_at_call 50; refine (inside_any _ _ _ _ _ _ _).mono ?_; rintro e wx ⟨rfl, hx⟩)
    refine hK.out _ _ ?_ (fun hHeld1 => ?_)
    · (((try dsimp only); (try go_split_ands); (repeat' (with_reducible apply And.intro)) <;> first | (with_reducible assumption) | ((with_reducible refine Ext.trans ?_ hx); (with_reducible assumption)) | ((with_reducible refine (Ext.cell hx ?_).trans ?_) <;> first | (with_reducible assumption) | (simp; done) | (simp; omega)) | ((with_reducible refine (Ext.frozen hx ?_).trans ?_) <;> first | (with_reducible assumption) | (simp; done) | (simp; omega)) | ((with_reducible refine Ext.held hx ?_ ?_) <;> first | (with_reducible assumption) | (simp; done) | (simp; omega)) | ((with_reducible refine Nat.le_trans ?_ (Ext.size hx)); (with_reducible assumption)) | ((with_reducible refine Nat.lt_of_lt_of_le ?_ (Ext.size hx)); (with_reducible assumption)) | ((with_reducible refine Ext.drew ?_); (repeat' (first | (with_reducible assumption) | (with_reducible exact Ext.refl _) | (with_reducible refine Ext.grow ?_ _) | (with_reducible refine Ext.drew ?_) | (with_reducible refine Ext.set ?_ ?_ _) | omega | (simp; done) | (simp; omega) | (refine Ext.trans ?_ (by assumption)))); done) | ((repeat' (with_reducible refine Ext.set ?_ ?_ _)) <;> first | (with_reducible assumption) | omega | (simp; done) | (simp; omega)) | ((with_reducible refine Ext.grow ?_ _); (repeat' (first | (with_reducible assumption) | (with_reducible exact Ext.refl _) | (with_reducible refine Ext.grow ?_ _) | (with_reducible refine Ext.drew ?_) | (with_reducible refine Ext.set ?_ ?_ _) | omega | (simp; done) | (simp; omega) | (refine Ext.trans ?_ (by assumption)))); done) | ((with_reducible refine heldAt_some ?_); (go_simp; done)) | (go_simp; done) | (simp; omega)))
    replace hHeld := hHeld1
    clear hHeld1 hK K
    (try simp only [Act.put, List.getElem_toArray, List.getElem_cons_succ, List.getElem_cons_zero, List.setIfInBounds_toArray, List.set_cons_zero, List.set_cons_succ])
    refine wpAnyH_ready (rs := [38]) (by kernel_rfl) (by simp) ?_
    refine AllReadyH.cons rfl (fun K hK => ?_) AllReadyH.nil
    go_simp
    (go_at_call 40; refine (rinside_any _ _ _ _ _ _ _).mono ?_; rintro e wx ⟨rfl, hx⟩)
    refine hK.out _ _ ?_ (fun hHeld1 => ?_)
    · (((try dsimp only); (try go_split_ands); (repeat' (with_reducible apply And.intro)) <;> first | (with_reducible assumption) | ((with_reducible refine Ext.trans ?_ hx); (with_reducible assumption)) | ((with_reducible refine (Ext.cell hx ?_).trans ?_) <;> first | (with_reducible assumption) | (simp; done) | (simp; omega)) | ((with_reducible refine (Ext.frozen hx ?_).trans ?_) <;> first | (with_reducible assumption) | (simp; done) | (simp; omega)) | ((with_reducible refine Ext.held hx ?_ ?_) <;> first | (with_reducible assumption) | (simp; done) | (simp; omega)) | ((with_reducible refine Nat.le_trans ?_ (Ext.size hx)); (with_reducible assumption)) | ((with_reducible refine Nat.lt_of_lt_of_le ?_ (Ext.size hx)); (with_reducible assumption)) | ((with_reducible refine Ext.drew ?_); (repeat' (first | (with_reducible assumption) | (with_reducible exact Ext.refl _) | (with_reducible refine Ext.grow ?_ _) | (with_reducible refine Ext.drew ?_) | (with_reducible refine Ext.set ?_ ?_ _) | omega | (simp; done) | (simp; omega) | (refine Ext.trans ?_ (by assumption)))); done) | ((repeat' (with_reducible refine Ext.set ?_ ?_ _)) <;> first | (with_reducible assumption) | omega | (simp; done) | (simp; omega)) | ((with_reducible refine Ext.grow ?_ _); (repeat' (first | (with_reducible assumption) | (with_reducible exact Ext.refl _) | (with_reducible refine Ext.grow ?_ _) | (with_reducible refine Ext.drew ?_) | (with_reducible refine Ext.set ?_ ?_ _) | omega | (simp; done) | (simp; omega) | (refine Ext.trans ?_ (by assumption)))); done) | ((with_reducible refine heldAt_some ?_); (go_simp; done)) | (go_simp; done) | (simp; omega)))
    replace hHeld := hHeld1
    clear hHeld1 hK K
    (try simp only [Act.put, List.getElem_toArray, List.getElem_cons_succ, List.getElem_cons_zero, List.setIfInBounds_toArray, List.set_cons_zero, List.set_cons_succ])
    refine wpAnyH_take (i := 39) (v := ?_) rfl (by kernel_rfl) (by kernel_rfl) (by kernel_rfl) (fun _ _ _ h => h) (Or.inl ⟨by kernel_rfl, ?_⟩) (by assumption) ?_
    rotate_left
    · (intro w hSw; (try dsimp only at hSw); go_simp; (try (with_reducible rfl)))
    (try simp only [Act.put, List.getElem_toArray, List.getElem_cons_succ, List.getElem_cons_zero, List.setIfInBounds_toArray, List.set_cons_zero, List.set_cons_succ])
    refine wpAnyH_take (i := 40) (v := ?_) rfl (by kernel_rfl) (by kernel_rfl) (by kernel_rfl) (fun _ _ _ h => h) (Or.inl ⟨by kernel_rfl, ?_⟩) (by assumption) ?_
    rotate_left
    · (intro w hSw; (try dsimp only at hSw); go_simp; (try (with_reducible rfl)))
    (try simp only [Act.put, List.getElem_toArray, List.getElem_cons_succ, List.getElem_cons_zero, List.setIfInBounds_toArray, List.set_cons_zero, List.set_cons_succ])
    refine wpAnyH_take (i := 41) (v := ?_) rfl (by kernel_rfl) (by kernel_rfl) (by kernel_rfl) (fun _ _ _ h => h) (Or.inl ⟨by kernel_rfl, ?_⟩) (by assumption) ?_
    rotate_left
    · (intro w hSw; (try dsimp only at hSw); go_simp; (try (with_reducible rfl)))
    (try simp only [Act.put, List.getElem_toArray, List.getElem_cons_succ, List.getElem_cons_zero, List.setIfInBounds_toArray, List.set_cons_zero, List.set_cons_succ])
    refine wpAnyH_take (i := 42) (v := ?_) rfl (by kernel_rfl) (by kernel_rfl) (by kernel_rfl) (fun _ _ _ h => h) (Or.inl ⟨by kernel_rfl, ?_⟩) (by assumption) ?_
    rotate_left
    · (intro w hSw; (try dsimp only at hSw); go_simp; (try (with_reducible rfl)))
    (try simp only [Act.put, List.getElem_toArray, List.getElem_cons_succ, List.getElem_cons_zero, List.setIfInBounds_toArray, List.set_cons_zero, List.set_cons_succ])
    refine wpAnyH_take (i := 43) (v := ?_) rfl (by kernel_rfl) (by kernel_rfl) (by kernel_rfl) (fun _ _ _ h => h) (Or.inl ⟨by kernel_rfl, ?_⟩) (by assumption) ?_
    rotate_left
    · (intro w hSw; (try dsimp only at hSw); go_simp; (try (with_reducible rfl)))
    (try simp only [Act.put, List.getElem_toArray, List.getElem_cons_succ, List.getElem_cons_zero, List.setIfInBounds_toArray, List.set_cons_zero, List.set_cons_succ])
    refine wpAnyH_take (i := 44) (v := ?_) rfl (by kernel_rfl) (by kernel_rfl) (by kernel_rfl) (fun _ _ _ h => h) (Or.inl ⟨by kernel_rfl, ?_⟩) (by assumption) ?_
    rotate_left
    · (intro w hSw; (try dsimp only at hSw); go_simp; (try (with_reducible rfl)))
    (try simp only [Act.put, List.getElem_toArray, List.getElem_cons_succ, List.getElem_cons_zero, List.setIfInBounds_toArray, List.set_cons_zero, List.set_cons_succ])
    refine wpAnyH_take (i := 45) (v := ?_) rfl (by kernel_rfl) (by kernel_rfl) (by kernel_rfl) (fun _ _ _ h => h) (Or.inl ⟨by kernel_rfl, ?_⟩) (by assumption) ?_
    rotate_left
    · (intro w hSw; (try dsimp only at hSw); go_simp; (try (with_reducible rfl)))
    (try simp only [Act.put, List.getElem_toArray, List.getElem_cons_succ, List.getElem_cons_zero, List.setIfInBounds_toArray, List.set_cons_zero, List.set_cons_succ])
    refine wpAnyH_take (i := 46) (v := ?_) rfl (by kernel_rfl) (by kernel_rfl) (by kernel_rfl) (fun _ _ _ h => h) (Or.inl ⟨by kernel_rfl, ?_⟩) (by assumption) ?_
    rotate_left
    · (intro w hSw; (try dsimp only at hSw); go_simp; (try (with_reducible rfl)))
    (try simp only [Act.put, List.getElem_toArray, List.getElem_cons_succ, List.getElem_cons_zero, List.setIfInBounds_toArray, List.set_cons_zero, List.set_cons_succ])
    refine wpAnyH_take (i := 47) (v := ?_) rfl (by kernel_rfl) (by kernel_rfl) (by kernel_rfl) (fun _ _ _ h => h) (Or.inl ⟨by kernel_rfl, ?_⟩) (by assumption) ?_
    rotate_left
    · (intro w hSw; (try dsimp only at hSw); go_simp; (try (with_reducible rfl)))
    (try simp only [Act.put, List.getElem_toArray, List.getElem_cons_succ, List.getElem_cons_zero, List.setIfInBounds_toArray, List.set_cons_zero, List.set_cons_succ])
    refine wpAnyH_take (i := 48) (v := ?_) rfl (by kernel_rfl) (by kernel_rfl) (by kernel_rfl) (fun _ _ _ h => h) (Or.inl ⟨by kernel_rfl, ?_⟩) (by assumption) ?_
    rotate_left
    · (intro w hSw; (try dsimp only at hSw); go_simp; (try (with_reducible rfl)))
    (try simp only [Act.put, List.getElem_toArray, List.getElem_cons_succ, List.getElem_cons_zero, List.setIfInBounds_toArray, List.set_cons_zero, List.set_cons_succ])
    refine wpAnyH_take (i := 49) (v := ?_) rfl (by kernel_rfl) (by kernel_rfl) (by kernel_rfl) (fun _ _ _ h => h) (Or.inl ⟨by kernel_rfl, ?_⟩) (by assumption) ?_
    rotate_left
    · (intro w hSw; (try dsimp only at hSw); go_simp; (try (with_reducible rfl)))
    (try simp only [Act.put, List.getElem_toArray, List.getElem_cons_succ, List.getElem_cons_zero, List.setIfInBounds_toArray, List.set_cons_zero, List.set_cons_succ])
    refine wpAnyH_take (i := 50) (v := ?_) rfl (by kernel_rfl) (by kernel_rfl) (by kernel_rfl) (fun _ _ _ h => h) (Or.inl ⟨by kernel_rfl, ?_⟩) (by assumption) ?_
    rotate_left
    · (intro w hSw; (try dsimp only at hSw); go_simp; (try (with_reducible rfl)))
    (try simp only [Act.put, List.getElem_toArray, List.getElem_cons_succ, List.getElem_cons_zero, List.setIfInBounds_toArray, List.set_cons_zero, List.set_cons_succ])
    refine wpAnyH_take (i := 51) (v := ?_) rfl (by kernel_rfl) (by kernel_rfl) (by kernel_rfl) (fun _ _ _ h => h) (Or.inl ⟨by kernel_rfl, ?_⟩) (by assumption) ?_
    rotate_left
    · (intro w hSw; (try dsimp only at hSw); go_simp; (try (with_reducible rfl)))
    (try simp only [Act.put, List.getElem_toArray, List.getElem_cons_succ, List.getElem_cons_zero, List.setIfInBounds_toArray, List.set_cons_zero, List.set_cons_succ])
    refine wpAnyH_done (by kernel_rfl) ?_ _
    have hx9 := hHeld.2.2.2.2.2.2.2.2.2.2.2.2.2.2.2.2.1
    clear hHeld
    go_wp2
    go_ret
    exact ⟨rfl, hx9⟩
  · go_split_ands
    go_wp2_with fail
    have p0 : bm < V.heap.size := by omega
    refine calls_abs (fun W => Ext w W ∧ w.heap.size + 3 ≤ W.heap.size ∧ W.cell? ⟨w.heap.size, 0, none⟩ = some (.int .i32 (ax)) ∧ W.cell? ⟨w.heap.size, 1, none⟩ = some (.int .i32 (ay)) ∧ W.cell? ⟨w.heap.size + 1, 0, none⟩ = some (.int .i32 (bx)) ∧ W.cell? ⟨w.heap.size + 1, 1, none⟩ = some (.int .i32 (bz)) ∧ W.cell? ⟨w.heap.size + 1 + 1, 0, none⟩ = some (.int .i32 (lx)) ∧ W.cell? ⟨w.heap.size + 1 + 1, 1, none⟩ = some (.int .i32 (ly)) ∧ W.cell? ⟨w.heap.size + 1 + 1, 2, none⟩ = some (.int .i32 (ux)) ∧ W.cell? ⟨w.heap.size + 1 + 1, 3, none⟩ = some (.int .i32 (uy)) ∧ W.cell? ⟨bm, 0, none⟩ = some (.int .i32 (sat (lx + f))) ∧ W.cell? ⟨bm, 1, none⟩ = some (.int .i32 (sat (ly + f))) ∧ W.cell? ⟨bm, 2, none⟩ = some (.int .i32 (sat (ux - f))) ∧ W.cell? ⟨bm, 3, none⟩ = some (.int .i32 (sat (uy - f))) ∧ W.cell? ⟨V.heap.size, 0, none⟩ = some (.int .i32 (sat (lx + f))) ∧ W.cell? ⟨V.heap.size, 1, none⟩ = some (.int .i32 (sat (ly + f))) ∧ W.cell? ⟨V.heap.size, 2, none⟩ = some (.int .i32 (sat (ux - f))) ∧ W.cell? ⟨V.heap.size, 3, none⟩ = some (.int .i32 (sat (uy - f))) ∧ w.heap.size < W.heap.size ∧ w.heap.size + 1 < W.heap.size ∧ w.heap.size + 1 + 1 < W.heap.size ∧ bm < W.heap.size ∧ V.heap.size < W.heap.size) (by refine ⟨by (repeat' (first | (with_reducible assumption) | (with_reducible exact Ext.refl _) | (with_reducible refine Ext.grow ?_ _) | (with_reducible refine Ext.drew ?_) | (with_reducible refine Ext.set ?_ ?_ _) | omega | (simp; done) | (simp; omega) | (refine Ext.trans ?_ (by assumption)))), by first | (with_reducible assumption) | (simp; done) | (simp; omega), ?_, ?_, ?_, ?_, ?_, ?_, ?_, ?_, ?_, ?_, ?_, ?_, ?_, ?_, ?_, ?_, ?_, ?_, ?_, ?_, ?_⟩ <;> first | (with_reducible assumption) | (go_simp; done) | (simp; omega)) ?_
    (try clear hx0)
    (try clear hsz)
    (try clear c0)
    (try clear c1)
    (try clear b0)
    (try clear b1)
    (try clear x0)
    (try clear x1)
    (try clear x2)
    (try clear x3)
    (try clear d0)
    (try clear d1)
    (try clear d2)
    (try clear d3)
    (try clear n0)
    (try clear n1)
    (try clear n2)
    (try clear n3)
    (try clear l0)
    (try clear l1)
    (try clear l2)
    (try clear lm)
    (try clear ln)
    rintro U ⟨hx0, hsz, c0, c1, b0, b1, x0, x1, x2, x3, d0, d1, d2, d3, n0, n1, n2, n3, l0, l1, l2, lm, ln⟩
    have p1 : w.heap.size + 1 + 1 < V.heap.size := by omega
    generalize V.heap.size = bn at *
    refine (rright_any _ _ _ _ _).mono ?_
    rintro e wx ⟨rfl, hx⟩
    have hsz1 := Ext.size hx
    replace c0 := (Ext.cell hx (by dsimp only; omega)).trans c0
    replace c1 := (Ext.cell hx (by dsimp only; omega)).trans c1
    replace b0 := (Ext.cell hx (by dsimp only; omega)).trans b0
    replace b1 := (Ext.cell hx (by dsimp only; omega)).trans b1
    replace x0 := (Ext.cell hx (by dsimp only; omega)).trans x0
    replace x1 := (Ext.cell hx (by dsimp only; omega)).trans x1
    replace x2 := (Ext.cell hx (by dsimp only; omega)).trans x2
    replace x3 := (Ext.cell hx (by dsimp only; omega)).trans x3
    replace d0 := (Ext.cell hx (by dsimp only; omega)).trans d0
    replace d1 := (Ext.cell hx (by dsimp only; omega)).trans d1
    replace d2 := (Ext.cell hx (by dsimp only; omega)).trans d2
    replace d3 := (Ext.cell hx (by dsimp only; omega)).trans d3
    replace n0 := (Ext.cell hx (by dsimp only; omega)).trans n0
    replace n1 := (Ext.cell hx (by dsimp only; omega)).trans n1
    replace n2 := (Ext.cell hx (by dsimp only; omega)).trans n2
    replace n3 := (Ext.cell hx (by dsimp only; omega)).trans n3
    replace hx0 := Ext.trans hx0 hx
    replace hsz := Nat.le_trans hsz hsz1
    replace l0 := Nat.le_trans l0 hsz1
    replace l1 := Nat.le_trans l1 hsz1
    replace l2 := Nat.le_trans l2 hsz1
    replace lm := Nat.le_trans lm hsz1
    replace ln := Nat.le_trans ln hsz1
    clear hx hsz1
    have hl0 : w.heap.size < wx.heap.size := by omega
    have hl1 : w.heap.size + 1 < wx.heap.size := by omega
    have hl2 : w.heap.size + 1 + 1 < wx.heap.size := by omega
    have hl3 : bm < wx.heap.size := by omega
    have hl4 : bn < wx.heap.size := by omega
    rw [k.out]
    clear hl0 hl1 hl2 hl3 hl4
    go_wp2_with fail
    refine wp_region_held_drew (S := (fun w' => w'.cell? ⟨w.heap.size, 0, none⟩ = some (.int .i32 (ax)) ∧ w'.cell? ⟨w.heap.size, 1, none⟩ = some (.int .i32 (ay)) ∧ w'.cell? ⟨w.heap.size + 1, 0, none⟩ = some (.int .i32 (bx)) ∧ w'.cell? ⟨w.heap.size + 1, 1, none⟩ = some (.int .i32 (bz)) ∧ w'.cell? ⟨w.heap.size + 1 + 1, 0, none⟩ = some (.int .i32 (lx)) ∧ w'.cell? ⟨w.heap.size + 1 + 1, 1, none⟩ = some (.int .i32 (ly)) ∧ w'.cell? ⟨w.heap.size + 1 + 1, 2, none⟩ = some (.int .i32 (ux)) ∧ w'.cell? ⟨w.heap.size + 1 + 1, 3, none⟩ = some (.int .i32 (uy)) ∧ w'.cell? ⟨bm, 0, none⟩ = some (.int .i32 (sat (lx + f))) ∧ w'.cell? ⟨bm, 1, none⟩ = some (.int .i32 (sat (ly + f))) ∧ w'.cell? ⟨bm, 2, none⟩ = some (.int .i32 (sat (ux - f))) ∧ w'.cell? ⟨bm, 3, none⟩ = some (.int .i32 (sat (uy - f))) ∧ w'.cell? ⟨bn, 0, none⟩ = some (.int .i32 (sat (lx + f))) ∧ w'.cell? ⟨bn, 1, none⟩ = some (.int .i32 (sat (ly + f))) ∧ w'.cell? ⟨bn, 2, none⟩ = some (.int .i32 (sat (ux - f))) ∧ w'.cell? ⟨bn, 3, none⟩ = some (.int .i32 (sat (uy - f))) ∧ Ext w w' ∧ w.heap.size < w'.heap.size ∧ w.heap.size + 1 < w'.heap.size ∧ w.heap.size + 1 + 1 < w'.heap.size ∧ bm < w'.heap.size ∧ bn < w'.heap.size)) (by kernel_rfl) ?_ (fun hHeld => ?_)
    · (((try dsimp only); (try go_split_ands); (repeat' (with_reducible apply And.intro)) <;> first | (with_reducible assumption) | ((with_reducible refine Ext.trans ?_ hx0); (with_reducible assumption)) | ((with_reducible refine (Ext.cell hx0 ?_).trans ?_) <;> first | (with_reducible assumption) | (simp; done) | (simp; omega)) | ((with_reducible refine (Ext.frozen hx0 ?_).trans ?_) <;> first | (with_reducible assumption) | (simp; done) | (simp; omega)) | ((with_reducible refine Ext.held hx0 ?_ ?_) <;> first | (with_reducible assumption) | (simp; done) | (simp; omega)) | ((with_reducible refine Nat.le_trans ?_ (Ext.size hx0)); (with_reducible assumption)) | ((with_reducible refine Nat.lt_of_lt_of_le ?_ (Ext.size hx0)); (with_reducible assumption)) | ((with_reducible refine Ext.drew ?_); (repeat' (first | (with_reducible assumption) | (with_reducible exact Ext.refl _) | (with_reducible refine Ext.grow ?_ _) | (with_reducible refine Ext.drew ?_) | (with_reducible refine Ext.set ?_ ?_ _) | omega | (simp; done) | (simp; omega) | (refine Ext.trans ?_ (by assumption)))); done) | ((repeat' (with_reducible refine Ext.set ?_ ?_ _)) <;> first | (with_reducible assumption) | omega | (simp; done) | (simp; omega)) | ((with_reducible refine Ext.grow ?_ _); (repeat' (first | (with_reducible assumption) | (with_reducible exact Ext.refl _) | (with_reducible refine Ext.grow ?_ _) | (with_reducible refine Ext.drew ?_) | (with_reducible refine Ext.set ?_ ?_ _) | omega | (simp; done) | (simp; omega) | (refine Ext.trans ?_ (by assumption)))); done) | ((with_reducible refine heldAt_some ?_); (go_simp; done)) | (go_simp; done) | (simp; omega)))
    refine wpAnyH_take (i := 0) (v := ?_) rfl (by kernel_rfl) (by kernel_rfl) (by kernel_rfl) (fun _ _ _ h => h) (Or.inl ⟨by kernel_rfl, ?_⟩) (by assumption) ?_
    rotate_left
    · (intro w hSw; (try dsimp only at hSw); go_simp; (try (with_reducible rfl)))
    (try simp only [Act.put, List.getElem_toArray, List.getElem_cons_succ, List.getElem_cons_zero, List.setIfInBounds_toArray, List.set_cons_zero, List.set_cons_succ])
    refine wpAnyH_take (i := 1) (v := ?_) rfl (by kernel_rfl) (by kernel_rfl) (by kernel_rfl) (fun _ _ _ h => h) (Or.inl ⟨by kernel_rfl, ?_⟩) (by assumption) ?_
    rotate_left
    · (intro w hSw; (try dsimp only at hSw); go_simp; (try (with_reducible rfl)))
    (try simp only [Act.put, List.getElem_toArray, List.getElem_cons_succ, List.getElem_cons_zero, List.setIfInBounds_toArray, List.set_cons_zero, List.set_cons_succ])
    refine wpAnyH_take (i := 3) (v := ?_) rfl (by kernel_rfl) (by kernel_rfl) (by kernel_rfl) (fun _ _ _ h => h) (Or.inl ⟨by kernel_rfl, ?_⟩) (by assumption) ?_
    rotate_left
    · (intro w hSw; (try dsimp only at hSw); go_simp; (try (with_reducible rfl)))
    (try simp only [Act.put, List.getElem_toArray, List.getElem_cons_succ, List.getElem_cons_zero, List.setIfInBounds_toArray, List.set_cons_zero, List.set_cons_succ])
    refine wpAnyH_take (i := 4) (v := ?_) rfl (by kernel_rfl) (by kernel_rfl) (by kernel_rfl) (fun _ _ _ h => h) (Or.inl ⟨by kernel_rfl, ?_⟩) (by assumption) ?_
    rotate_left
    · (intro w hSw; (try dsimp only at hSw); go_simp; (try (with_reducible rfl)))
    (try simp only [Act.put, List.getElem_toArray, List.getElem_cons_succ, List.getElem_cons_zero, List.setIfInBounds_toArray, List.set_cons_zero, List.set_cons_succ])
    refine wpAnyH_ready (rs := [2]) (by kernel_rfl) (by simp) ?_
    refine AllReadyH.cons rfl (fun K hK => ?_) AllReadyH.nil
    go_simp
    (go_at_call 45; refine (vAdd_any _ _ _ _ _ (by omega) (by omega) (by omega) (by omega)).mono ?_; rintro e wx ⟨rfl, hx⟩)
    refine hK.out _ _ ?_ (fun hHeld1 => ?_)
    · (((try dsimp only); (try go_split_ands); (repeat' (with_reducible apply And.intro)) <;> first | (with_reducible assumption) | ((with_reducible refine Ext.trans ?_ hx); (with_reducible assumption)) | ((with_reducible refine (Ext.cell hx ?_).trans ?_) <;> first | (with_reducible assumption) | (simp; done) | (simp; omega)) | ((with_reducible refine (Ext.frozen hx ?_).trans ?_) <;> first | (with_reducible assumption) | (simp; done) | (simp; omega)) | ((with_reducible refine Ext.held hx ?_ ?_) <;> first | (with_reducible assumption) | (simp; done) | (simp; omega)) | ((with_reducible refine Nat.le_trans ?_ (Ext.size hx)); (with_reducible assumption)) | ((with_reducible refine Nat.lt_of_lt_of_le ?_ (Ext.size hx)); (with_reducible assumption)) | ((with_reducible refine Ext.drew ?_); (repeat' (first | (with_reducible assumption) | (with_reducible exact Ext.refl _) | (with_reducible refine Ext.grow ?_ _) | (with_reducible refine Ext.drew ?_) | (with_reducible refine Ext.set ?_ ?_ _) | omega | (simp; done) | (simp; omega) | (refine Ext.trans ?_ (by assumption)))); done) | ((repeat' (with_reducible refine Ext.set ?_ ?_ _)) <;> first | (with_reducible assumption) | omega | (simp; done) | (simp; omega)) | ((with_reducible refine Ext.grow ?_ _); (repeat' (first | (with_reducible assumption) | (with_reducible exact Ext.refl _) | (with_reducible refine Ext.grow ?_ _) | (with_reducible refine Ext.drew ?_) | (with_reducible refine Ext.set ?_ ?_ _) | omega | (simp; done) | (simp; omega) | (refine Ext.trans ?_ (by assumption)))); done) | ((with_reducible refine heldAt_some ?_); (go_simp; done)) | (go_simp; done) | (simp; omega)))
    replace hHeld := hHeld1
    clear hHeld1 hK K
    (try simp only [Act.put, List.getElem_toArray, List.getElem_cons_succ, List.getElem_cons_zero, List.setIfInBounds_toArray, List.set_cons_zero, List.set_cons_succ])
    refine wpAnyH_ready (rs := [5]) (by kernel_rfl) (by simp) ?_
    refine AllReadyH.cons rfl (fun K hK => ?_) AllReadyH.nil
    go_simp
    (go_at_call 28; refine (rplus_any _ _ _ _ _ (by omega) (by omega) (by omega) (by omega)).mono ?_; rintro e wx ⟨rfl, hx⟩)
    refine hK.out _ _ ?_ (fun hHeld1 => ?_)
    · (((try dsimp only); (try go_split_ands); (repeat' (with_reducible apply And.intro)) <;> first | (with_reducible assumption) | ((with_reducible refine Ext.trans ?_ hx); (with_reducible assumption)) | ((with_reducible refine (Ext.cell hx ?_).trans ?_) <;> first | (with_reducible assumption) | (simp; done) | (simp; omega)) | ((with_reducible refine (Ext.frozen hx ?_).trans ?_) <;> first | (with_reducible assumption) | (simp; done) | (simp; omega)) | ((with_reducible refine Ext.held hx ?_ ?_) <;> first | (with_reducible assumption) | (simp; done) | (simp; omega)) | ((with_reducible refine Nat.le_trans ?_ (Ext.size hx)); (with_reducible assumption)) | ((with_reducible refine Nat.lt_of_lt_of_le ?_ (Ext.size hx)); (with_reducible assumption)) | ((with_reducible refine Ext.drew ?_); (repeat' (first | (with_reducible assumption) | (with_reducible exact Ext.refl _) | (with_reducible refine Ext.grow ?_ _) | (with_reducible refine Ext.drew ?_) | (with_reducible refine Ext.set ?_ ?_ _) | omega | (simp; done) | (simp; omega) | (refine Ext.trans ?_ (by assumption)))); done) | ((repeat' (with_reducible refine Ext.set ?_ ?_ _)) <;> first | (with_reducible assumption) | omega | (simp; done) | (simp; omega)) | ((with_reducible refine Ext.grow ?_ _); (repeat' (first | (with_reducible assumption) | (with_reducible exact Ext.refl _) | (with_reducible refine Ext.grow ?_ _) | (with_reducible refine Ext.drew ?_) | (with_reducible refine Ext.set ?_ ?_ _) | omega | (simp; done) | (simp; omega) | (refine Ext.trans ?_ (by assumption)))); done) | ((with_reducible refine heldAt_some ?_); (go_simp; done)) | (go_simp; done) | (simp; omega)))
    replace hHeld := hHeld1
    clear hHeld1 hK K
    (try simp only [Act.put, List.getElem_toArray, List.getElem_cons_succ, List.getElem_cons_zero, List.setIfInBounds_toArray, List.set_cons_zero, List.set_cons_succ])
    refine wpAnyH_take (i := 6) (v := ?_) rfl (by kernel_rfl) (by kernel_rfl) (by kernel_rfl) (fun _ _ _ h => h) (Or.inl ⟨by kernel_rfl, ?_⟩) (by assumption) ?_
    rotate_left
    · (intro w hSw; (try dsimp only at hSw); go_simp; (try (with_reducible rfl)))
    (try simp only [Act.put, List.getElem_toArray, List.getElem_cons_succ, List.getElem_cons_zero, List.setIfInBounds_toArray, List.set_cons_zero, List.set_cons_succ])
    refine wpAnyH_take (i := 7) (v := ?_) rfl (by kernel_rfl) (by kernel_rfl) (by kernel_rfl) (fun _ _ _ h => h) (Or.inl ⟨by kernel_rfl, ?_⟩) (by assumption) ?_
    rotate_left
    · (intro w hSw; (try dsimp only at hSw); go_simp; (try (with_reducible rfl)))
    (try simp only [Act.put, List.getElem_toArray, List.getElem_cons_succ, List.getElem_cons_zero, List.setIfInBounds_toArray, List.set_cons_zero, List.set_cons_succ])
    refine wpAnyH_take (i := 8) (v := ?_) rfl (by kernel_rfl) (by kernel_rfl) (by kernel_rfl) (fun _ _ _ h => h) (Or.inl ⟨by kernel_rfl, ?_⟩) (by assumption) ?_
    rotate_left
    · (intro w hSw; (try dsimp only at hSw); go_simp; (try (with_reducible rfl)))
    (try simp only [Act.put, List.getElem_toArray, List.getElem_cons_succ, List.getElem_cons_zero, List.setIfInBounds_toArray, List.set_cons_zero, List.set_cons_succ])
    refine wpAnyH_take (i := 9) (v := ?_) rfl (by kernel_rfl) (by kernel_rfl) (by kernel_rfl) (fun _ _ _ h => h) (Or.inl ⟨by kernel_rfl, ?_⟩) (by assumption) ?_
    rotate_left
    · (intro w hSw; (try dsimp only at hSw); go_simp; (try (with_reducible rfl)))
    (try simp only [Act.put, List.getElem_toArray, List.getElem_cons_succ, List.getElem_cons_zero, List.setIfInBounds_toArray, List.set_cons_zero, List.set_cons_succ])
    refine wpAnyH_take (i := 11) (v := ?_) rfl (by kernel_rfl) (by kernel_rfl) (by kernel_rfl) (fun _ _ _ h => h) (Or.inl ⟨by kernel_rfl, ?_⟩) (by assumption) ?_
    rotate_left
    · (intro w hSw; (try dsimp only at hSw); go_simp; (try (with_reducible rfl)))
    (try simp only [Act.put, List.getElem_toArray, List.getElem_cons_succ, List.getElem_cons_zero, List.setIfInBounds_toArray, List.set_cons_zero, List.set_cons_succ])
    refine wpAnyH_take (i := 12) (v := ?_) rfl (by kernel_rfl) (by kernel_rfl) (by kernel_rfl) (fun _ _ _ h => h) (Or.inl ⟨by kernel_rfl, ?_⟩) (by assumption) ?_
    rotate_left
    · (intro w hSw; (try dsimp only at hSw); go_simp; (try (with_reducible rfl)))
    (try simp only [Act.put, List.getElem_toArray, List.getElem_cons_succ, List.getElem_cons_zero, List.setIfInBounds_toArray, List.set_cons_zero, List.set_cons_succ])
    refine wpAnyH_ready (rs := [10]) (by kernel_rfl) (by simp) ?_
    refine AllReadyH.cons rfl (fun K hK => ?_) AllReadyH.nil
    go_simp
    (go_at_call 46; refine (vSub_any _ _ _ _ _ (by omega) (by omega) (by omega) (by omega)).mono ?_; rintro e wx ⟨rfl, hx⟩)
    refine hK.out _ _ ?_ (fun hHeld1 => ?_)
    · (((try dsimp only); (try go_split_ands); (repeat' (with_reducible apply And.intro)) <;> first | (with_reducible assumption) | ((with_reducible refine Ext.trans ?_ hx); (with_reducible assumption)) | ((with_reducible refine (Ext.cell hx ?_).trans ?_) <;> first | (with_reducible assumption) | (simp; done) | (simp; omega)) | ((with_reducible refine (Ext.frozen hx ?_).trans ?_) <;> first | (with_reducible assumption) | (simp; done) | (simp; omega)) | ((with_reducible refine Ext.held hx ?_ ?_) <;> first | (with_reducible assumption) | (simp; done) | (simp; omega)) | ((with_reducible refine Nat.le_trans ?_ (Ext.size hx)); (with_reducible assumption)) | ((with_reducible refine Nat.lt_of_lt_of_le ?_ (Ext.size hx)); (with_reducible assumption)) | ((with_reducible refine Ext.drew ?_); (repeat' (first | (with_reducible assumption) | (with_reducible exact Ext.refl _) | (with_reducible refine Ext.grow ?_ _) | (with_reducible refine Ext.drew ?_) | (with_reducible refine Ext.set ?_ ?_ _) | omega | (simp; done) | (simp; omega) | (refine Ext.trans ?_ (by assumption)))); done) | ((repeat' (with_reducible refine Ext.set ?_ ?_ _)) <;> first | (with_reducible assumption) | omega | (simp; done) | (simp; omega)) | ((with_reducible refine Ext.grow ?_ _); (repeat' (first | (with_reducible assumption) | (with_reducible exact Ext.refl _) | (with_reducible refine Ext.grow ?_ _) | (with_reducible refine Ext.drew ?_) | (with_reducible refine Ext.set ?_ ?_ _) | omega | (simp; done) | (simp; omega) | (refine Ext.trans ?_ (by assumption)))); done) | ((with_reducible refine heldAt_some ?_); (go_simp; done)) | (go_simp; done) | (simp; omega)))
    replace hHeld := hHeld1
    clear hHeld1 hK K
    (try simp only [Act.put, List.getElem_toArray, List.getElem_cons_succ, List.getElem_cons_zero, List.setIfInBounds_toArray, List.set_cons_zero, List.set_cons_succ])
    refine wpAnyH_ready (rs := [13]) (by kernel_rfl) (by simp) ?_
    refine AllReadyH.cons rfl (fun K hK => ?_) AllReadyH.nil
    go_simp
    (go_at_call 29; refine (rless_any _ _ _ _ _ (by omega) (by omega) (by omega) (by omega)).mono ?_; rintro e wx ⟨rfl, hx⟩)
    refine hK.out _ _ ?_ (fun hHeld1 => ?_)
    · (((try dsimp only); (try go_split_ands); (repeat' (with_reducible apply And.intro)) <;> first | (with_reducible assumption) | ((with_reducible refine Ext.trans ?_ hx); (with_reducible assumption)) | ((with_reducible refine (Ext.cell hx ?_).trans ?_) <;> first | (with_reducible assumption) | (simp; done) | (simp; omega)) | ((with_reducible refine (Ext.frozen hx ?_).trans ?_) <;> first | (with_reducible assumption) | (simp; done) | (simp; omega)) | ((with_reducible refine Ext.held hx ?_ ?_) <;> first | (with_reducible assumption) | (simp; done) | (simp; omega)) | ((with_reducible refine Nat.le_trans ?_ (Ext.size hx)); (with_reducible assumption)) | ((with_reducible refine Nat.lt_of_lt_of_le ?_ (Ext.size hx)); (with_reducible assumption)) | ((with_reducible refine Ext.drew ?_); (repeat' (first | (with_reducible assumption) | (with_reducible exact Ext.refl _) | (with_reducible refine Ext.grow ?_ _) | (with_reducible refine Ext.drew ?_) | (with_reducible refine Ext.set ?_ ?_ _) | omega | (simp; done) | (simp; omega) | (refine Ext.trans ?_ (by assumption)))); done) | ((repeat' (with_reducible refine Ext.set ?_ ?_ _)) <;> first | (with_reducible assumption) | omega | (simp; done) | (simp; omega)) | ((with_reducible refine Ext.grow ?_ _); (repeat' (first | (with_reducible assumption) | (with_reducible exact Ext.refl _) | (with_reducible refine Ext.grow ?_ _) | (with_reducible refine Ext.drew ?_) | (with_reducible refine Ext.set ?_ ?_ _) | omega | (simp; done) | (simp; omega) | (refine Ext.trans ?_ (by assumption)))); done) | ((with_reducible refine heldAt_some ?_); (go_simp; done)) | (go_simp; done) | (simp; omega)))
    replace hHeld := hHeld1
    clear hHeld1 hK K
    (try simp only [Act.put, List.getElem_toArray, List.getElem_cons_succ, List.getElem_cons_zero, List.setIfInBounds_toArray, List.set_cons_zero, List.set_cons_succ])
    refine wpAnyH_take (i := 14) (v := ?_) rfl (by kernel_rfl) (by kernel_rfl) (by kernel_rfl) (fun _ _ _ h => h) (Or.inl ⟨by kernel_rfl, ?_⟩) (by assumption) ?_
    rotate_left
    · (intro w hSw; (try dsimp only at hSw); go_simp; (try (with_reducible rfl)))
    (try simp only [Act.put, List.getElem_toArray, List.getElem_cons_succ, List.getElem_cons_zero, List.setIfInBounds_toArray, List.set_cons_zero, List.set_cons_succ])
    refine wpAnyH_take (i := 15) (v := ?_) rfl (by kernel_rfl) (by kernel_rfl) (by kernel_rfl) (fun _ _ _ h => h) (Or.inl ⟨by kernel_rfl, ?_⟩) (by assumption) ?_
    rotate_left
    · (intro w hSw; (try dsimp only at hSw); go_simp; (try (with_reducible rfl)))
    (try simp only [Act.put, List.getElem_toArray, List.getElem_cons_succ, List.getElem_cons_zero, List.setIfInBounds_toArray, List.set_cons_zero, List.set_cons_succ])
    refine wpAnyH_take (i := 16) (v := ?_) rfl (by kernel_rfl) (by kernel_rfl) (by kernel_rfl) (fun _ _ _ h => h) (Or.inl ⟨by kernel_rfl, ?_⟩) (by assumption) ?_
    rotate_left
    · (intro w hSw; (try dsimp only at hSw); go_simp; (try (with_reducible rfl)))
    (try simp only [Act.put, List.getElem_toArray, List.getElem_cons_succ, List.getElem_cons_zero, List.setIfInBounds_toArray, List.set_cons_zero, List.set_cons_succ])
    refine wpAnyH_take (i := 17) (v := ?_) rfl (by kernel_rfl) (by kernel_rfl) (by kernel_rfl) (fun _ _ _ h => h) (Or.inl ⟨by kernel_rfl, ?_⟩) (by assumption) ?_
    rotate_left
    · (intro w hSw; (try dsimp only at hSw); go_simp; (try (with_reducible rfl)))
    (try simp only [Act.put, List.getElem_toArray, List.getElem_cons_succ, List.getElem_cons_zero, List.setIfInBounds_toArray, List.set_cons_zero, List.set_cons_succ])
    refine wpAnyH_take (i := 18) (v := ?_) rfl (by kernel_rfl) (by kernel_rfl) (by kernel_rfl) (fun _ _ _ h => h) (Or.inl ⟨by kernel_rfl, ?_⟩) (by assumption) ?_
    rotate_left
    · (intro w hSw; (try dsimp only at hSw); go_simp; (try (with_reducible rfl)))
    (try simp only [Act.put, List.getElem_toArray, List.getElem_cons_succ, List.getElem_cons_zero, List.setIfInBounds_toArray, List.set_cons_zero, List.set_cons_succ])
    refine wpAnyH_take (i := 20) (v := ?_) rfl (by kernel_rfl) (by kernel_rfl) (by kernel_rfl) (fun _ _ _ h => h) (Or.inl ⟨by kernel_rfl, ?_⟩) (by assumption) ?_
    rotate_left
    · (intro w hSw; (try dsimp only at hSw); go_simp; (try (with_reducible rfl)))
    (try simp only [Act.put, List.getElem_toArray, List.getElem_cons_succ, List.getElem_cons_zero, List.setIfInBounds_toArray, List.set_cons_zero, List.set_cons_succ])
    refine wpAnyH_take (i := 21) (v := ?_) rfl (by kernel_rfl) (by kernel_rfl) (by kernel_rfl) (fun _ _ _ h => h) (Or.inl ⟨by kernel_rfl, ?_⟩) (by assumption) ?_
    rotate_left
    · (intro w hSw; (try dsimp only at hSw); go_simp; (try (with_reducible rfl)))
    (try simp only [Act.put, List.getElem_toArray, List.getElem_cons_succ, List.getElem_cons_zero, List.setIfInBounds_toArray, List.set_cons_zero, List.set_cons_succ])
    refine wpAnyH_ready (rs := [19]) (by kernel_rfl) (by simp) ?_
    refine AllReadyH.cons rfl (fun K hK => ?_) AllReadyH.nil
    go_simp
    (go_at_call 47; refine (vScale_any _ _ _ _ (by omega) (by omega) (by omega)).mono ?_; rintro e wx ⟨rfl, hx⟩)
    refine hK.out _ _ ?_ (fun hHeld1 => ?_)
    · (((try dsimp only); (try go_split_ands); (repeat' (with_reducible apply And.intro)) <;> first | (with_reducible assumption) | ((with_reducible refine Ext.trans ?_ hx); (with_reducible assumption)) | ((with_reducible refine (Ext.cell hx ?_).trans ?_) <;> first | (with_reducible assumption) | (simp; done) | (simp; omega)) | ((with_reducible refine (Ext.frozen hx ?_).trans ?_) <;> first | (with_reducible assumption) | (simp; done) | (simp; omega)) | ((with_reducible refine Ext.held hx ?_ ?_) <;> first | (with_reducible assumption) | (simp; done) | (simp; omega)) | ((with_reducible refine Nat.le_trans ?_ (Ext.size hx)); (with_reducible assumption)) | ((with_reducible refine Nat.lt_of_lt_of_le ?_ (Ext.size hx)); (with_reducible assumption)) | ((with_reducible refine Ext.drew ?_); (repeat' (first | (with_reducible assumption) | (with_reducible exact Ext.refl _) | (with_reducible refine Ext.grow ?_ _) | (with_reducible refine Ext.drew ?_) | (with_reducible refine Ext.set ?_ ?_ _) | omega | (simp; done) | (simp; omega) | (refine Ext.trans ?_ (by assumption)))); done) | ((repeat' (with_reducible refine Ext.set ?_ ?_ _)) <;> first | (with_reducible assumption) | omega | (simp; done) | (simp; omega)) | ((with_reducible refine Ext.grow ?_ _); (repeat' (first | (with_reducible assumption) | (with_reducible exact Ext.refl _) | (with_reducible refine Ext.grow ?_ _) | (with_reducible refine Ext.drew ?_) | (with_reducible refine Ext.set ?_ ?_ _) | omega | (simp; done) | (simp; omega) | (refine Ext.trans ?_ (by assumption)))); done) | ((with_reducible refine heldAt_some ?_); (go_simp; done)) | (go_simp; done) | (simp; omega)))
    replace hHeld := hHeld1
    clear hHeld1 hK K
    (try simp only [Act.put, List.getElem_toArray, List.getElem_cons_succ, List.getElem_cons_zero, List.setIfInBounds_toArray, List.set_cons_zero, List.set_cons_succ])
    refine wpAnyH_ready (rs := [22]) (by kernel_rfl) (by simp) ?_
    refine AllReadyH.cons rfl (fun K hK => ?_) AllReadyH.nil
    go_simp
    (go_at_call 48; refine (rscaleV_any _ _ _ _ (by omega) (by omega) (by omega)).mono ?_; rintro e wx ⟨rfl, hx⟩)
    refine hK.out _ _ ?_ (fun hHeld1 => ?_)
    · (((try dsimp only); (try go_split_ands); (repeat' (with_reducible apply And.intro)) <;> first | (with_reducible assumption) | ((with_reducible refine Ext.trans ?_ hx); (with_reducible assumption)) | ((with_reducible refine (Ext.cell hx ?_).trans ?_) <;> first | (with_reducible assumption) | (simp; done) | (simp; omega)) | ((with_reducible refine (Ext.frozen hx ?_).trans ?_) <;> first | (with_reducible assumption) | (simp; done) | (simp; omega)) | ((with_reducible refine Ext.held hx ?_ ?_) <;> first | (with_reducible assumption) | (simp; done) | (simp; omega)) | ((with_reducible refine Nat.le_trans ?_ (Ext.size hx)); (with_reducible assumption)) | ((with_reducible refine Nat.lt_of_lt_of_le ?_ (Ext.size hx)); (with_reducible assumption)) | ((with_reducible refine Ext.drew ?_); (repeat' (first | (with_reducible assumption) | (with_reducible exact Ext.refl _) | (with_reducible refine Ext.grow ?_ _) | (with_reducible refine Ext.drew ?_) | (with_reducible refine Ext.set ?_ ?_ _) | omega | (simp; done) | (simp; omega) | (refine Ext.trans ?_ (by assumption)))); done) | ((repeat' (with_reducible refine Ext.set ?_ ?_ _)) <;> first | (with_reducible assumption) | omega | (simp; done) | (simp; omega)) | ((with_reducible refine Ext.grow ?_ _); (repeat' (first | (with_reducible assumption) | (with_reducible exact Ext.refl _) | (with_reducible refine Ext.grow ?_ _) | (with_reducible refine Ext.drew ?_) | (with_reducible refine Ext.set ?_ ?_ _) | omega | (simp; done) | (simp; omega) | (refine Ext.trans ?_ (by assumption)))); done) | ((with_reducible refine heldAt_some ?_); (go_simp; done)) | (go_simp; done) | (simp; omega)))
    replace hHeld := hHeld1
    clear hHeld1 hK K
    (try simp only [Act.put, List.getElem_toArray, List.getElem_cons_succ, List.getElem_cons_zero, List.setIfInBounds_toArray, List.set_cons_zero, List.set_cons_succ])
    refine wpAnyH_take (i := 23) (v := ?_) rfl (by kernel_rfl) (by kernel_rfl) (by kernel_rfl) (fun _ _ _ h => h) (Or.inl ⟨by kernel_rfl, ?_⟩) (by assumption) ?_
    rotate_left
    · (intro w hSw; (try dsimp only at hSw); go_simp; (try (with_reducible rfl)))
    (try simp only [Act.put, List.getElem_toArray, List.getElem_cons_succ, List.getElem_cons_zero, List.setIfInBounds_toArray, List.set_cons_zero, List.set_cons_succ])
    refine wpAnyH_take (i := 24) (v := ?_) rfl (by kernel_rfl) (by kernel_rfl) (by kernel_rfl) (fun _ _ _ h => h) (Or.inl ⟨by kernel_rfl, ?_⟩) (by assumption) ?_
    rotate_left
    · (intro w hSw; (try dsimp only at hSw); go_simp; (try (with_reducible rfl)))
    (try simp only [Act.put, List.getElem_toArray, List.getElem_cons_succ, List.getElem_cons_zero, List.setIfInBounds_toArray, List.set_cons_zero, List.set_cons_succ])
    refine wpAnyH_take (i := 25) (v := ?_) rfl (by kernel_rfl) (by kernel_rfl) (by kernel_rfl) (fun _ _ _ h => h) (Or.inl ⟨by kernel_rfl, ?_⟩) (by assumption) ?_
    rotate_left
    · (intro w hSw; (try dsimp only at hSw); go_simp; (try (with_reducible rfl)))
    (try simp only [Act.put, List.getElem_toArray, List.getElem_cons_succ, List.getElem_cons_zero, List.setIfInBounds_toArray, List.set_cons_zero, List.set_cons_succ])
    refine wpAnyH_take (i := 26) (v := ?_) rfl (by kernel_rfl) (by kernel_rfl) (by kernel_rfl) (fun _ _ _ h => h) (Or.inl ⟨by kernel_rfl, ?_⟩) (by assumption) ?_
    rotate_left
    · (intro w hSw; (try dsimp only at hSw); go_simp; (try (with_reducible rfl)))
    (try simp only [Act.put, List.getElem_toArray, List.getElem_cons_succ, List.getElem_cons_zero, List.setIfInBounds_toArray, List.set_cons_zero, List.set_cons_succ])
    refine wpAnyH_take (i := 28) (v := ?_) rfl (by kernel_rfl) (by kernel_rfl) (by kernel_rfl) (fun _ _ _ h => h) (Or.inl ⟨by kernel_rfl, ?_⟩) (by assumption) ?_
    rotate_left
    · (intro w hSw; (try dsimp only at hSw); go_simp; (try (with_reducible rfl)))
    (try simp only [Act.put, List.getElem_toArray, List.getElem_cons_succ, List.getElem_cons_zero, List.setIfInBounds_toArray, List.set_cons_zero, List.set_cons_succ])
    refine wpAnyH_ready (rs := [27]) (by kernel_rfl) (by simp) ?_
    refine AllReadyH.cons rfl (fun K hK => ?_) AllReadyH.nil
    go_simp
    (go_at_call 49; refine (right_any _ _ _ _ _).mono ?_; rintro e wx ⟨rfl, hx⟩)
    refine hK.out _ _ ?_ (fun hHeld1 => ?_)
    · (((try dsimp only); (try go_split_ands); (repeat' (with_reducible apply And.intro)) <;> first | (with_reducible assumption) | ((with_reducible refine Ext.trans ?_ hx); (with_reducible assumption)) | ((with_reducible refine (Ext.cell hx ?_).trans ?_) <;> first | (with_reducible assumption) | (simp; done) | (simp; omega)) | ((with_reducible refine (Ext.frozen hx ?_).trans ?_) <;> first | (with_reducible assumption) | (simp; done) | (simp; omega)) | ((with_reducible refine Ext.held hx ?_ ?_) <;> first | (with_reducible assumption) | (simp; done) | (simp; omega)) | ((with_reducible refine Nat.le_trans ?_ (Ext.size hx)); (with_reducible assumption)) | ((with_reducible refine Nat.lt_of_lt_of_le ?_ (Ext.size hx)); (with_reducible assumption)) | ((with_reducible refine Ext.drew ?_); (repeat' (first | (with_reducible assumption) | (with_reducible exact Ext.refl _) | (with_reducible refine Ext.grow ?_ _) | (with_reducible refine Ext.drew ?_) | (with_reducible refine Ext.set ?_ ?_ _) | omega | (simp; done) | (simp; omega) | (refine Ext.trans ?_ (by assumption)))); done) | ((repeat' (with_reducible refine Ext.set ?_ ?_ _)) <;> first | (with_reducible assumption) | omega | (simp; done) | (simp; omega)) | ((with_reducible refine Ext.grow ?_ _); (repeat' (first | (with_reducible assumption) | (with_reducible exact Ext.refl _) | (with_reducible refine Ext.grow ?_ _) | (with_reducible refine Ext.drew ?_) | (with_reducible refine Ext.set ?_ ?_ _) | omega | (simp; done) | (simp; omega) | (refine Ext.trans ?_ (by assumption)))); done) | ((with_reducible refine heldAt_some ?_); (go_simp; done)) | (go_simp; done) | (simp; omega)))
    replace hHeld := hHeld1
    clear hHeld1 hK K
    (try simp only [Act.put, List.getElem_toArray, List.getElem_cons_succ, List.getElem_cons_zero, List.setIfInBounds_toArray, List.set_cons_zero, List.set_cons_succ])
    refine wpAnyH_ready (rs := [29]) (by kernel_rfl) (by simp) ?_
    refine AllReadyH.cons rfl (fun K hK => ?_) AllReadyH.nil
    go_simp
    (go_at_call 38; refine (rright_any _ _ _ _ _).mono ?_; rintro e wx ⟨rfl, hx⟩)
    refine hK.out _ _ ?_ (fun hHeld1 => ?_)
    · (((try dsimp only); (try go_split_ands); (repeat' (with_reducible apply And.intro)) <;> first | (with_reducible assumption) | ((with_reducible refine Ext.trans ?_ hx); (with_reducible assumption)) | ((with_reducible refine (Ext.cell hx ?_).trans ?_) <;> first | (with_reducible assumption) | (simp; done) | (simp; omega)) | ((with_reducible refine (Ext.frozen hx ?_).trans ?_) <;> first | (with_reducible assumption) | (simp; done) | (simp; omega)) | ((with_reducible refine Ext.held hx ?_ ?_) <;> first | (with_reducible assumption) | (simp; done) | (simp; omega)) | ((with_reducible refine Nat.le_trans ?_ (Ext.size hx)); (with_reducible assumption)) | ((with_reducible refine Nat.lt_of_lt_of_le ?_ (Ext.size hx)); (with_reducible assumption)) | ((with_reducible refine Ext.drew ?_); (repeat' (first | (with_reducible assumption) | (with_reducible exact Ext.refl _) | (with_reducible refine Ext.grow ?_ _) | (with_reducible refine Ext.drew ?_) | (with_reducible refine Ext.set ?_ ?_ _) | omega | (simp; done) | (simp; omega) | (refine Ext.trans ?_ (by assumption)))); done) | ((repeat' (with_reducible refine Ext.set ?_ ?_ _)) <;> first | (with_reducible assumption) | omega | (simp; done) | (simp; omega)) | ((with_reducible refine Ext.grow ?_ _); (repeat' (first | (with_reducible assumption) | (with_reducible exact Ext.refl _) | (with_reducible refine Ext.grow ?_ _) | (with_reducible refine Ext.drew ?_) | (with_reducible refine Ext.set ?_ ?_ _) | omega | (simp; done) | (simp; omega) | (refine Ext.trans ?_ (by assumption)))); done) | ((with_reducible refine heldAt_some ?_); (go_simp; done)) | (go_simp; done) | (simp; omega)))
    replace hHeld := hHeld1
    clear hHeld1 hK K
    (try simp only [Act.put, List.getElem_toArray, List.getElem_cons_succ, List.getElem_cons_zero, List.setIfInBounds_toArray, List.set_cons_zero, List.set_cons_succ])
    refine wpAnyH_take (i := 30) (v := ?_) rfl (by kernel_rfl) (by kernel_rfl) (by kernel_rfl) (fun _ _ _ h => h) (Or.inl ⟨by kernel_rfl, ?_⟩) (by assumption) ?_
    rotate_left
    · (intro w hSw; (try dsimp only at hSw); go_simp; (try (with_reducible rfl)))
    (try simp only [Act.put, List.getElem_toArray, List.getElem_cons_succ, List.getElem_cons_zero, List.setIfInBounds_toArray, List.set_cons_zero, List.set_cons_succ])
    refine wpAnyH_take (i := 31) (v := ?_) rfl (by kernel_rfl) (by kernel_rfl) (by kernel_rfl) (fun _ _ _ h => h) (Or.inl ⟨by kernel_rfl, ?_⟩) (by assumption) ?_
    rotate_left
    · (intro w hSw; (try dsimp only at hSw); go_simp; (try (with_reducible rfl)))
    (try simp only [Act.put, List.getElem_toArray, List.getElem_cons_succ, List.getElem_cons_zero, List.setIfInBounds_toArray, List.set_cons_zero, List.set_cons_succ])
    refine wpAnyH_take (i := 32) (v := ?_) rfl (by kernel_rfl) (by kernel_rfl) (by kernel_rfl) (fun _ _ _ h => h) (Or.inl ⟨by kernel_rfl, ?_⟩) (by assumption) ?_
    rotate_left
    · (intro w hSw; (try dsimp only at hSw); go_simp; (try (with_reducible rfl)))
    (try simp only [Act.put, List.getElem_toArray, List.getElem_cons_succ, List.getElem_cons_zero, List.setIfInBounds_toArray, List.set_cons_zero, List.set_cons_succ])
    refine wpAnyH_take (i := 33) (v := ?_) rfl (by kernel_rfl) (by kernel_rfl) (by kernel_rfl) (fun _ _ _ h => h) (Or.inl ⟨by kernel_rfl, ?_⟩) (by assumption) ?_
    rotate_left
    · (intro w hSw; (try dsimp only at hSw); go_simp; (try (with_reducible rfl)))
    (try simp only [Act.put, List.getElem_toArray, List.getElem_cons_succ, List.getElem_cons_zero, List.setIfInBounds_toArray, List.set_cons_zero, List.set_cons_succ])
    refine wpAnyH_take (i := 34) (v := ?_) rfl (by kernel_rfl) (by kernel_rfl) (by kernel_rfl) (fun _ _ _ h => h) (Or.inl ⟨by kernel_rfl, ?_⟩) (by assumption) ?_
    rotate_left
    · (intro w hSw; (try dsimp only at hSw); go_simp; (try (with_reducible rfl)))
    (try simp only [Act.put, List.getElem_toArray, List.getElem_cons_succ, List.getElem_cons_zero, List.setIfInBounds_toArray, List.set_cons_zero, List.set_cons_succ])
    refine wpAnyH_take (i := 36) (v := ?_) rfl (by kernel_rfl) (by kernel_rfl) (by kernel_rfl) (fun _ _ _ h => h) (Or.inl ⟨by kernel_rfl, ?_⟩) (by assumption) ?_
    rotate_left
    · (intro w hSw; (try dsimp only at hSw); go_simp; (try (with_reducible rfl)))
    (try simp only [Act.put, List.getElem_toArray, List.getElem_cons_succ, List.getElem_cons_zero, List.setIfInBounds_toArray, List.set_cons_zero, List.set_cons_succ])
    refine wpAnyH_take (i := 37) (v := ?_) rfl (by kernel_rfl) (by kernel_rfl) (by kernel_rfl) (fun _ _ _ h => h) (Or.inl ⟨by kernel_rfl, ?_⟩) (by assumption) ?_
    rotate_left
    · (intro w hSw; (try dsimp only at hSw); go_simp; (try (with_reducible rfl)))
    (try simp only [Act.put, List.getElem_toArray, List.getElem_cons_succ, List.getElem_cons_zero, List.setIfInBounds_toArray, List.set_cons_zero, List.set_cons_succ])
    refine wpAnyH_ready (rs := [35]) (by kernel_rfl) (by simp) ?_
    refine AllReadyH.cons rfl (fun K hK => ?_) AllReadyH.nil
    go_simp
    (go_at_call 50; refine (inside_any _ _ _ _ _ _ _).mono ?_; rintro e wx ⟨rfl, hx⟩)
    refine hK.out _ _ ?_ (fun hHeld1 => ?_)
    · (((try dsimp only); (try go_split_ands); (repeat' (with_reducible apply And.intro)) <;> first | (with_reducible assumption) | ((with_reducible refine Ext.trans ?_ hx); (with_reducible assumption)) | ((with_reducible refine (Ext.cell hx ?_).trans ?_) <;> first | (with_reducible assumption) | (simp; done) | (simp; omega)) | ((with_reducible refine (Ext.frozen hx ?_).trans ?_) <;> first | (with_reducible assumption) | (simp; done) | (simp; omega)) | ((with_reducible refine Ext.held hx ?_ ?_) <;> first | (with_reducible assumption) | (simp; done) | (simp; omega)) | ((with_reducible refine Nat.le_trans ?_ (Ext.size hx)); (with_reducible assumption)) | ((with_reducible refine Nat.lt_of_lt_of_le ?_ (Ext.size hx)); (with_reducible assumption)) | ((with_reducible refine Ext.drew ?_); (repeat' (first | (with_reducible assumption) | (with_reducible exact Ext.refl _) | (with_reducible refine Ext.grow ?_ _) | (with_reducible refine Ext.drew ?_) | (with_reducible refine Ext.set ?_ ?_ _) | omega | (simp; done) | (simp; omega) | (refine Ext.trans ?_ (by assumption)))); done) | ((repeat' (with_reducible refine Ext.set ?_ ?_ _)) <;> first | (with_reducible assumption) | omega | (simp; done) | (simp; omega)) | ((with_reducible refine Ext.grow ?_ _); (repeat' (first | (with_reducible assumption) | (with_reducible exact Ext.refl _) | (with_reducible refine Ext.grow ?_ _) | (with_reducible refine Ext.drew ?_) | (with_reducible refine Ext.set ?_ ?_ _) | omega | (simp; done) | (simp; omega) | (refine Ext.trans ?_ (by assumption)))); done) | ((with_reducible refine heldAt_some ?_); (go_simp; done)) | (go_simp; done) | (simp; omega)))
    replace hHeld := hHeld1
    clear hHeld1 hK K
    (try simp only [Act.put, List.getElem_toArray, List.getElem_cons_succ, List.getElem_cons_zero, List.setIfInBounds_toArray, List.set_cons_zero, List.set_cons_succ])
    refine wpAnyH_ready (rs := [38]) (by kernel_rfl) (by simp) ?_
    refine AllReadyH.cons rfl (fun K hK => ?_) AllReadyH.nil
    go_simp
    (go_at_call 40; refine (rinside_any _ _ _ _ _ _ _).mono ?_; rintro e wx ⟨rfl, hx⟩)
    refine hK.out _ _ ?_ (fun hHeld1 => ?_)
    · (((try dsimp only); (try go_split_ands); (repeat' (with_reducible apply And.intro)) <;> first | (with_reducible assumption) | ((with_reducible refine Ext.trans ?_ hx); (with_reducible assumption)) | ((with_reducible refine (Ext.cell hx ?_).trans ?_) <;> first | (with_reducible assumption) | (simp; done) | (simp; omega)) | ((with_reducible refine (Ext.frozen hx ?_).trans ?_) <;> first | (with_reducible assumption) | (simp; done) | (simp; omega)) | ((with_reducible refine Ext.held hx ?_ ?_) <;> first | (with_reducible assumption) | (simp; done) | (simp; omega)) | ((with_reducible refine Nat.le_trans ?_ (Ext.size hx)); (with_reducible assumption)) | ((with_reducible refine Nat.lt_of_lt_of_le ?_ (Ext.size hx)); (with_reducible assumption)) | ((with_reducible refine Ext.drew ?_); (repeat' (first | (with_reducible assumption) | (with_reducible exact Ext.refl _) | (with_reducible refine Ext.grow ?_ _) | (with_reducible refine Ext.drew ?_) | (with_reducible refine Ext.set ?_ ?_ _) | omega | (simp; done) | (simp; omega) | (refine Ext.trans ?_ (by assumption)))); done) | ((repeat' (with_reducible refine Ext.set ?_ ?_ _)) <;> first | (with_reducible assumption) | omega | (simp; done) | (simp; omega)) | ((with_reducible refine Ext.grow ?_ _); (repeat' (first | (with_reducible assumption) | (with_reducible exact Ext.refl _) | (with_reducible refine Ext.grow ?_ _) | (with_reducible refine Ext.drew ?_) | (with_reducible refine Ext.set ?_ ?_ _) | omega | (simp; done) | (simp; omega) | (refine Ext.trans ?_ (by assumption)))); done) | ((with_reducible refine heldAt_some ?_); (go_simp; done)) | (go_simp; done) | (simp; omega)))
    replace hHeld := hHeld1
    clear hHeld1 hK K
    (try simp only [Act.put, List.getElem_toArray, List.getElem_cons_succ, List.getElem_cons_zero, List.setIfInBounds_toArray, List.set_cons_zero, List.set_cons_succ])
    refine wpAnyH_take (i := 39) (v := ?_) rfl (by kernel_rfl) (by kernel_rfl) (by kernel_rfl) (fun _ _ _ h => h) (Or.inl ⟨by kernel_rfl, ?_⟩) (by assumption) ?_
    rotate_left
    · (intro w hSw; (try dsimp only at hSw); go_simp; (try (with_reducible rfl)))
    (try simp only [Act.put, List.getElem_toArray, List.getElem_cons_succ, List.getElem_cons_zero, List.setIfInBounds_toArray, List.set_cons_zero, List.set_cons_succ])
    refine wpAnyH_take (i := 40) (v := ?_) rfl (by kernel_rfl) (by kernel_rfl) (by kernel_rfl) (fun _ _ _ h => h) (Or.inl ⟨by kernel_rfl, ?_⟩) (by assumption) ?_
    rotate_left
    · (intro w hSw; (try dsimp only at hSw); go_simp; (try (with_reducible rfl)))
    (try simp only [Act.put, List.getElem_toArray, List.getElem_cons_succ, List.getElem_cons_zero, List.setIfInBounds_toArray, List.set_cons_zero, List.set_cons_succ])
    refine wpAnyH_take (i := 41) (v := ?_) rfl (by kernel_rfl) (by kernel_rfl) (by kernel_rfl) (fun _ _ _ h => h) (Or.inl ⟨by kernel_rfl, ?_⟩) (by assumption) ?_
    rotate_left
    · (intro w hSw; (try dsimp only at hSw); go_simp; (try (with_reducible rfl)))
    (try simp only [Act.put, List.getElem_toArray, List.getElem_cons_succ, List.getElem_cons_zero, List.setIfInBounds_toArray, List.set_cons_zero, List.set_cons_succ])
    refine wpAnyH_take (i := 42) (v := ?_) rfl (by kernel_rfl) (by kernel_rfl) (by kernel_rfl) (fun _ _ _ h => h) (Or.inl ⟨by kernel_rfl, ?_⟩) (by assumption) ?_
    rotate_left
    · (intro w hSw; (try dsimp only at hSw); go_simp; (try (with_reducible rfl)))
    (try simp only [Act.put, List.getElem_toArray, List.getElem_cons_succ, List.getElem_cons_zero, List.setIfInBounds_toArray, List.set_cons_zero, List.set_cons_succ])
    refine wpAnyH_take (i := 43) (v := ?_) rfl (by kernel_rfl) (by kernel_rfl) (by kernel_rfl) (fun _ _ _ h => h) (Or.inl ⟨by kernel_rfl, ?_⟩) (by assumption) ?_
    rotate_left
    · (intro w hSw; (try dsimp only at hSw); go_simp; (try (with_reducible rfl)))
    (try simp only [Act.put, List.getElem_toArray, List.getElem_cons_succ, List.getElem_cons_zero, List.setIfInBounds_toArray, List.set_cons_zero, List.set_cons_succ])
    refine wpAnyH_take (i := 44) (v := ?_) rfl (by kernel_rfl) (by kernel_rfl) (by kernel_rfl) (fun _ _ _ h => h) (Or.inl ⟨by kernel_rfl, ?_⟩) (by assumption) ?_
    rotate_left
    · (intro w hSw; (try dsimp only at hSw); go_simp; (try (with_reducible rfl)))
    (try simp only [Act.put, List.getElem_toArray, List.getElem_cons_succ, List.getElem_cons_zero, List.setIfInBounds_toArray, List.set_cons_zero, List.set_cons_succ])
    refine wpAnyH_take (i := 45) (v := ?_) rfl (by kernel_rfl) (by kernel_rfl) (by kernel_rfl) (fun _ _ _ h => h) (Or.inl ⟨by kernel_rfl, ?_⟩) (by assumption) ?_
    rotate_left
    · (intro w hSw; (try dsimp only at hSw); go_simp; (try (with_reducible rfl)))
    (try simp only [Act.put, List.getElem_toArray, List.getElem_cons_succ, List.getElem_cons_zero, List.setIfInBounds_toArray, List.set_cons_zero, List.set_cons_succ])
    refine wpAnyH_take (i := 46) (v := ?_) rfl (by kernel_rfl) (by kernel_rfl) (by kernel_rfl) (fun _ _ _ h => h) (Or.inl ⟨by kernel_rfl, ?_⟩) (by assumption) ?_
    rotate_left
    · (intro w hSw; (try dsimp only at hSw); go_simp; (try (with_reducible rfl)))
    (try simp only [Act.put, List.getElem_toArray, List.getElem_cons_succ, List.getElem_cons_zero, List.setIfInBounds_toArray, List.set_cons_zero, List.set_cons_succ])
    refine wpAnyH_take (i := 47) (v := ?_) rfl (by kernel_rfl) (by kernel_rfl) (by kernel_rfl) (fun _ _ _ h => h) (Or.inl ⟨by kernel_rfl, ?_⟩) (by assumption) ?_
    rotate_left
    · (intro w hSw; (try dsimp only at hSw); go_simp; (try (with_reducible rfl)))
    (try simp only [Act.put, List.getElem_toArray, List.getElem_cons_succ, List.getElem_cons_zero, List.setIfInBounds_toArray, List.set_cons_zero, List.set_cons_succ])
    refine wpAnyH_take (i := 48) (v := ?_) rfl (by kernel_rfl) (by kernel_rfl) (by kernel_rfl) (fun _ _ _ h => h) (Or.inl ⟨by kernel_rfl, ?_⟩) (by assumption) ?_
    rotate_left
    · (intro w hSw; (try dsimp only at hSw); go_simp; (try (with_reducible rfl)))
    (try simp only [Act.put, List.getElem_toArray, List.getElem_cons_succ, List.getElem_cons_zero, List.setIfInBounds_toArray, List.set_cons_zero, List.set_cons_succ])
    refine wpAnyH_take (i := 49) (v := ?_) rfl (by kernel_rfl) (by kernel_rfl) (by kernel_rfl) (fun _ _ _ h => h) (Or.inl ⟨by kernel_rfl, ?_⟩) (by assumption) ?_
    rotate_left
    · (intro w hSw; (try dsimp only at hSw); go_simp; (try (with_reducible rfl)))
    (try simp only [Act.put, List.getElem_toArray, List.getElem_cons_succ, List.getElem_cons_zero, List.setIfInBounds_toArray, List.set_cons_zero, List.set_cons_succ])
    refine wpAnyH_take (i := 50) (v := ?_) rfl (by kernel_rfl) (by kernel_rfl) (by kernel_rfl) (fun _ _ _ h => h) (Or.inl ⟨by kernel_rfl, ?_⟩) (by assumption) ?_
    rotate_left
    · (intro w hSw; (try dsimp only at hSw); go_simp; (try (with_reducible rfl)))
    (try simp only [Act.put, List.getElem_toArray, List.getElem_cons_succ, List.getElem_cons_zero, List.setIfInBounds_toArray, List.set_cons_zero, List.set_cons_succ])
    refine wpAnyH_take (i := 51) (v := ?_) rfl (by kernel_rfl) (by kernel_rfl) (by kernel_rfl) (fun _ _ _ h => h) (Or.inl ⟨by kernel_rfl, ?_⟩) (by assumption) ?_
    rotate_left
    · (intro w hSw; (try dsimp only at hSw); go_simp; (try (with_reducible rfl)))
    (try simp only [Act.put, List.getElem_toArray, List.getElem_cons_succ, List.getElem_cons_zero, List.setIfInBounds_toArray, List.set_cons_zero, List.set_cons_succ])
    refine wpAnyH_done (by kernel_rfl) ?_ _
    have hx9 := hHeld.2.2.2.2.2.2.2.2.2.2.2.2.2.2.2.2.1
    clear hHeld
    go_wp2
    go_ret
    exact ⟨rfl, hx9⟩

end Go.Proofs.Yteogppcalekfaaa
