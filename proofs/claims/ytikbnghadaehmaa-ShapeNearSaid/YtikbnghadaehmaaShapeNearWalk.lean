/- THE WALK OF 'ShapeNear': its Go text returns true. Conditions: none but the arguments' kinds. Own work. -/
import Derived.Test.YtikbnghadaehmaaShapeLaw1
namespace Go.Proofs.Ytikbnghadaehmaa
open Go.RowKit
set_option linter.unusedVariables false
set_option linter.unusedSimpArgs false
set_option maxRecDepth 100000

theorem touch_sym (px py r qx qy s : Int) (h1 : -1073741824 < px ∧ px < 1073741824) (h2 : -1073741824 < py ∧ py < 1073741824) (h3 : -1073741824 < qx ∧ qx < 1073741824) (h4 : -1073741824 < qy ∧ qy < 1073741824) :
    touchB qx qy s px py r = touchB px py r qx qy s := by
  unfold touchB nearB
  rw [sat_in (px - qx) (by omega), sat_in (py - qy) (by omega), sat_in (qx - px) (by omega), sat_in (qy - py) (by omega), Int.add_comm s r]
  have e1 : (px - qx) * (px - qx) = (qx - px) * (qx - px) := by rw [← Int.neg_mul_neg]; congr 1 <;> omega
  have e2 : (py - qy) * (py - qy) = (qy - py) * (qy - py) := by rw [← Int.neg_mul_neg]; congr 1 <;> omega
  rw [e1, e2]
theorem touch_more (px py r qx qy s m : Int) (hr : 0 ≤ r) (hs : 0 ≤ s) (hm : 0 ≤ m) (hr2 : r ≤ 2147483647) (hs2 : s ≤ 2147483647) (h : touchB px py r qx qy s = true) : touchB px py (sat (r + m)) qx qy s = true := by
  unfold touchB nearB at *
  rw [Bool.and_eq_true, decide_eq_true_eq, decide_eq_true_eq] at h ⊢
  have g : sat (r + s) ≤ sat (sat (r + m) + s) := by unfold sat; omega
  refine ⟨by omega, ?_⟩
  have := Int.mul_le_mul g g h.1 (by omega)
  omega

set_option maxHeartbeats 4000000 in
theorem ShapeNear_core (px py qx qy r s m : Int) (w : World) (hpx : -2147483648 ≤ px ∧ px ≤ 2147483647) (hpy : -2147483648 ≤ py ∧ py ≤ 2147483647) (hqx : -2147483648 ≤ qx ∧ qx ≤ 2147483647) (hqy : -2147483648 ≤ qy ∧ qy ≤ 2147483647) (hr : -2147483648 ≤ r ∧ r ≤ 2147483647) (hs : -2147483648 ≤ s ∧ s ≤ 2147483647) (hm : 0 ≤ m ∧ m ≤ 65535) :
    Calls Try.prog 5 #[.agg #[.int .i32 (px), .int .i32 (py)], .agg #[.int .i32 (qx), .int .i32 (qy)], .int .i32 r, .int .i32 s, .int .u16 m] w fun e w' => e = .returned (.bool true) ∧ Ext w w' := by
  by_cases a1 : r < 0
  · skip
    go_enter Try.func5, Try.ntmps5
    go_wp2_with fail
    refine calls_abs (fun W => Ext w W ∧ w.heap.size + 2 ≤ W.heap.size ∧ W.cell? ⟨w.heap.size, 0, none⟩ = some (.int .i32 px) ∧ W.cell? ⟨w.heap.size, 1, none⟩ = some (.int .i32 py) ∧ W.cell? ⟨w.heap.size + 1, 0, none⟩ = some (.int .i32 qx) ∧ W.cell? ⟨w.heap.size + 1, 1, none⟩ = some (.int .i32 qy)) (by refine ⟨by (repeat' (first | (with_reducible assumption) | (with_reducible exact Ext.refl _) | (with_reducible refine Ext.grow ?_ _) | (with_reducible refine Ext.drew ?_) | (with_reducible refine Ext.set ?_ ?_ _) | omega | (simp; done) | (simp; omega) | (refine Ext.trans ?_ (by assumption)))), by first | (with_reducible assumption) | (simp; done) | (simp; omega), ?_, ?_, ?_, ?_⟩ <;> first | (with_reducible assumption) | (go_simp; done) | (simp; omega)) ?_
    (try clear hx0)
    (try clear hsz)
    (try clear c0)
    (try clear c1)
    (try clear c2)
    (try clear c3)
    rintro W ⟨hx0, hsz, c0, c1, c2, c3⟩
    refine (awake10 _).mono ?_
    rintro e wx ⟨rfl, hx⟩
    have hsz1 := Ext.size hx
    replace c0 := (Ext.cell hx (by dsimp only; omega)).trans c0
    replace c1 := (Ext.cell hx (by dsimp only; omega)).trans c1
    replace c2 := (Ext.cell hx (by dsimp only; omega)).trans c2
    replace c3 := (Ext.cell hx (by dsimp only; omega)).trans c3
    replace hx0 := Ext.trans hx0 hx
    replace hsz := Nat.le_trans hsz hsz1
    clear hx hsz1
    have hl0 : w.heap.size < wx.heap.size := by omega
    have hl1 : w.heap.size + 1 < wx.heap.size := by omega
    go_wp2_with (go_at_call 23; go_in)
    go_ret
    exact ⟨rfl, by (repeat' (first | (with_reducible assumption) | (with_reducible exact Ext.refl _) | (with_reducible refine Ext.grow ?_ _) | (with_reducible refine Ext.drew ?_) | (with_reducible refine Ext.set ?_ ?_ _) | omega | (simp; done) | (simp; omega) | (refine Ext.trans ?_ (by assumption))))⟩
  by_cases a2 : s < 0
  · skip
    go_enter Try.func5, Try.ntmps5
    go_wp2_with fail
    refine calls_abs (fun W => Ext w W ∧ w.heap.size + 2 ≤ W.heap.size ∧ W.cell? ⟨w.heap.size, 0, none⟩ = some (.int .i32 px) ∧ W.cell? ⟨w.heap.size, 1, none⟩ = some (.int .i32 py) ∧ W.cell? ⟨w.heap.size + 1, 0, none⟩ = some (.int .i32 qx) ∧ W.cell? ⟨w.heap.size + 1, 1, none⟩ = some (.int .i32 qy)) (by refine ⟨by (repeat' (first | (with_reducible assumption) | (with_reducible exact Ext.refl _) | (with_reducible refine Ext.grow ?_ _) | (with_reducible refine Ext.drew ?_) | (with_reducible refine Ext.set ?_ ?_ _) | omega | (simp; done) | (simp; omega) | (refine Ext.trans ?_ (by assumption)))), by first | (with_reducible assumption) | (simp; done) | (simp; omega), ?_, ?_, ?_, ?_⟩ <;> first | (with_reducible assumption) | (go_simp; done) | (simp; omega)) ?_
    (try clear hx0)
    (try clear hsz)
    (try clear c0)
    (try clear c1)
    (try clear c2)
    (try clear c3)
    rintro W ⟨hx0, hsz, c0, c1, c2, c3⟩
    refine (awake10 _).mono ?_
    rintro e wx ⟨rfl, hx⟩
    have hsz1 := Ext.size hx
    replace c0 := (Ext.cell hx (by dsimp only; omega)).trans c0
    replace c1 := (Ext.cell hx (by dsimp only; omega)).trans c1
    replace c2 := (Ext.cell hx (by dsimp only; omega)).trans c2
    replace c3 := (Ext.cell hx (by dsimp only; omega)).trans c3
    replace hx0 := Ext.trans hx0 hx
    replace hsz := Nat.le_trans hsz hsz1
    clear hx hsz1
    have hl0 : w.heap.size < wx.heap.size := by omega
    have hl1 : w.heap.size + 1 < wx.heap.size := by omega
    go_wp2_with (go_at_call 23; go_in)
    go_ret
    exact ⟨rfl, by (repeat' (first | (with_reducible assumption) | (with_reducible exact Ext.refl _) | (with_reducible refine Ext.grow ?_ _) | (with_reducible refine Ext.drew ?_) | (with_reducible refine Ext.set ?_ ?_ _) | omega | (simp; done) | (simp; omega) | (refine Ext.trans ?_ (by assumption))))⟩
  by_cases a3 : px < 1073741824
  rotate_left
  · skip
    go_enter Try.func5, Try.ntmps5
    go_wp2_with fail
    refine calls_abs (fun W => Ext w W ∧ w.heap.size + 2 ≤ W.heap.size ∧ W.cell? ⟨w.heap.size, 0, none⟩ = some (.int .i32 px) ∧ W.cell? ⟨w.heap.size, 1, none⟩ = some (.int .i32 py) ∧ W.cell? ⟨w.heap.size + 1, 0, none⟩ = some (.int .i32 qx) ∧ W.cell? ⟨w.heap.size + 1, 1, none⟩ = some (.int .i32 qy)) (by refine ⟨by (repeat' (first | (with_reducible assumption) | (with_reducible exact Ext.refl _) | (with_reducible refine Ext.grow ?_ _) | (with_reducible refine Ext.drew ?_) | (with_reducible refine Ext.set ?_ ?_ _) | omega | (simp; done) | (simp; omega) | (refine Ext.trans ?_ (by assumption)))), by first | (with_reducible assumption) | (simp; done) | (simp; omega), ?_, ?_, ?_, ?_⟩ <;> first | (with_reducible assumption) | (go_simp; done) | (simp; omega)) ?_
    (try clear hx0)
    (try clear hsz)
    (try clear c0)
    (try clear c1)
    (try clear c2)
    (try clear c3)
    rintro W ⟨hx0, hsz, c0, c1, c2, c3⟩
    refine (awake10 _).mono ?_
    rintro e wx ⟨rfl, hx⟩
    have hsz1 := Ext.size hx
    replace c0 := (Ext.cell hx (by dsimp only; omega)).trans c0
    replace c1 := (Ext.cell hx (by dsimp only; omega)).trans c1
    replace c2 := (Ext.cell hx (by dsimp only; omega)).trans c2
    replace c3 := (Ext.cell hx (by dsimp only; omega)).trans c3
    replace hx0 := Ext.trans hx0 hx
    replace hsz := Nat.le_trans hsz hsz1
    clear hx hsz1
    have hl0 : w.heap.size < wx.heap.size := by omega
    have hl1 : w.heap.size + 1 < wx.heap.size := by omega
    go_wp2_with (go_at_call 23; go_in)
    go_ret
    exact ⟨rfl, by (repeat' (first | (with_reducible assumption) | (with_reducible exact Ext.refl _) | (with_reducible refine Ext.grow ?_ _) | (with_reducible refine Ext.drew ?_) | (with_reducible refine Ext.set ?_ ?_ _) | omega | (simp; done) | (simp; omega) | (refine Ext.trans ?_ (by assumption))))⟩
  by_cases a4 : -1073741824 < px
  rotate_left
  · skip
    go_enter Try.func5, Try.ntmps5
    go_wp2_with fail
    refine calls_abs (fun W => Ext w W ∧ w.heap.size + 2 ≤ W.heap.size ∧ W.cell? ⟨w.heap.size, 0, none⟩ = some (.int .i32 px) ∧ W.cell? ⟨w.heap.size, 1, none⟩ = some (.int .i32 py) ∧ W.cell? ⟨w.heap.size + 1, 0, none⟩ = some (.int .i32 qx) ∧ W.cell? ⟨w.heap.size + 1, 1, none⟩ = some (.int .i32 qy)) (by refine ⟨by (repeat' (first | (with_reducible assumption) | (with_reducible exact Ext.refl _) | (with_reducible refine Ext.grow ?_ _) | (with_reducible refine Ext.drew ?_) | (with_reducible refine Ext.set ?_ ?_ _) | omega | (simp; done) | (simp; omega) | (refine Ext.trans ?_ (by assumption)))), by first | (with_reducible assumption) | (simp; done) | (simp; omega), ?_, ?_, ?_, ?_⟩ <;> first | (with_reducible assumption) | (go_simp; done) | (simp; omega)) ?_
    (try clear hx0)
    (try clear hsz)
    (try clear c0)
    (try clear c1)
    (try clear c2)
    (try clear c3)
    rintro W ⟨hx0, hsz, c0, c1, c2, c3⟩
    refine (awake10 _).mono ?_
    rintro e wx ⟨rfl, hx⟩
    have hsz1 := Ext.size hx
    replace c0 := (Ext.cell hx (by dsimp only; omega)).trans c0
    replace c1 := (Ext.cell hx (by dsimp only; omega)).trans c1
    replace c2 := (Ext.cell hx (by dsimp only; omega)).trans c2
    replace c3 := (Ext.cell hx (by dsimp only; omega)).trans c3
    replace hx0 := Ext.trans hx0 hx
    replace hsz := Nat.le_trans hsz hsz1
    clear hx hsz1
    have hl0 : w.heap.size < wx.heap.size := by omega
    have hl1 : w.heap.size + 1 < wx.heap.size := by omega
    go_wp2_with (go_at_call 23; go_in)
    go_ret
    exact ⟨rfl, by (repeat' (first | (with_reducible assumption) | (with_reducible exact Ext.refl _) | (with_reducible refine Ext.grow ?_ _) | (with_reducible refine Ext.drew ?_) | (with_reducible refine Ext.set ?_ ?_ _) | omega | (simp; done) | (simp; omega) | (refine Ext.trans ?_ (by assumption))))⟩
  by_cases a5 : py < 1073741824
  rotate_left
  · skip
    go_enter Try.func5, Try.ntmps5
    go_wp2_with fail
    refine calls_abs (fun W => Ext w W ∧ w.heap.size + 2 ≤ W.heap.size ∧ W.cell? ⟨w.heap.size, 0, none⟩ = some (.int .i32 px) ∧ W.cell? ⟨w.heap.size, 1, none⟩ = some (.int .i32 py) ∧ W.cell? ⟨w.heap.size + 1, 0, none⟩ = some (.int .i32 qx) ∧ W.cell? ⟨w.heap.size + 1, 1, none⟩ = some (.int .i32 qy)) (by refine ⟨by (repeat' (first | (with_reducible assumption) | (with_reducible exact Ext.refl _) | (with_reducible refine Ext.grow ?_ _) | (with_reducible refine Ext.drew ?_) | (with_reducible refine Ext.set ?_ ?_ _) | omega | (simp; done) | (simp; omega) | (refine Ext.trans ?_ (by assumption)))), by first | (with_reducible assumption) | (simp; done) | (simp; omega), ?_, ?_, ?_, ?_⟩ <;> first | (with_reducible assumption) | (go_simp; done) | (simp; omega)) ?_
    (try clear hx0)
    (try clear hsz)
    (try clear c0)
    (try clear c1)
    (try clear c2)
    (try clear c3)
    rintro W ⟨hx0, hsz, c0, c1, c2, c3⟩
    refine (awake10 _).mono ?_
    rintro e wx ⟨rfl, hx⟩
    have hsz1 := Ext.size hx
    replace c0 := (Ext.cell hx (by dsimp only; omega)).trans c0
    replace c1 := (Ext.cell hx (by dsimp only; omega)).trans c1
    replace c2 := (Ext.cell hx (by dsimp only; omega)).trans c2
    replace c3 := (Ext.cell hx (by dsimp only; omega)).trans c3
    replace hx0 := Ext.trans hx0 hx
    replace hsz := Nat.le_trans hsz hsz1
    clear hx hsz1
    have hl0 : w.heap.size < wx.heap.size := by omega
    have hl1 : w.heap.size + 1 < wx.heap.size := by omega
    go_wp2_with (go_at_call 23; go_in)
    go_ret
    exact ⟨rfl, by (repeat' (first | (with_reducible assumption) | (with_reducible exact Ext.refl _) | (with_reducible refine Ext.grow ?_ _) | (with_reducible refine Ext.drew ?_) | (with_reducible refine Ext.set ?_ ?_ _) | omega | (simp; done) | (simp; omega) | (refine Ext.trans ?_ (by assumption))))⟩
  by_cases a6 : -1073741824 < py
  rotate_left
  · skip
    go_enter Try.func5, Try.ntmps5
    go_wp2_with fail
    refine calls_abs (fun W => Ext w W ∧ w.heap.size + 2 ≤ W.heap.size ∧ W.cell? ⟨w.heap.size, 0, none⟩ = some (.int .i32 px) ∧ W.cell? ⟨w.heap.size, 1, none⟩ = some (.int .i32 py) ∧ W.cell? ⟨w.heap.size + 1, 0, none⟩ = some (.int .i32 qx) ∧ W.cell? ⟨w.heap.size + 1, 1, none⟩ = some (.int .i32 qy)) (by refine ⟨by (repeat' (first | (with_reducible assumption) | (with_reducible exact Ext.refl _) | (with_reducible refine Ext.grow ?_ _) | (with_reducible refine Ext.drew ?_) | (with_reducible refine Ext.set ?_ ?_ _) | omega | (simp; done) | (simp; omega) | (refine Ext.trans ?_ (by assumption)))), by first | (with_reducible assumption) | (simp; done) | (simp; omega), ?_, ?_, ?_, ?_⟩ <;> first | (with_reducible assumption) | (go_simp; done) | (simp; omega)) ?_
    (try clear hx0)
    (try clear hsz)
    (try clear c0)
    (try clear c1)
    (try clear c2)
    (try clear c3)
    rintro W ⟨hx0, hsz, c0, c1, c2, c3⟩
    refine (awake10 _).mono ?_
    rintro e wx ⟨rfl, hx⟩
    have hsz1 := Ext.size hx
    replace c0 := (Ext.cell hx (by dsimp only; omega)).trans c0
    replace c1 := (Ext.cell hx (by dsimp only; omega)).trans c1
    replace c2 := (Ext.cell hx (by dsimp only; omega)).trans c2
    replace c3 := (Ext.cell hx (by dsimp only; omega)).trans c3
    replace hx0 := Ext.trans hx0 hx
    replace hsz := Nat.le_trans hsz hsz1
    clear hx hsz1
    have hl0 : w.heap.size < wx.heap.size := by omega
    have hl1 : w.heap.size + 1 < wx.heap.size := by omega
    go_wp2_with (go_at_call 23; go_in)
    go_ret
    exact ⟨rfl, by (repeat' (first | (with_reducible assumption) | (with_reducible exact Ext.refl _) | (with_reducible refine Ext.grow ?_ _) | (with_reducible refine Ext.drew ?_) | (with_reducible refine Ext.set ?_ ?_ _) | omega | (simp; done) | (simp; omega) | (refine Ext.trans ?_ (by assumption))))⟩
  by_cases a7 : qx < 1073741824
  rotate_left
  · skip
    go_enter Try.func5, Try.ntmps5
    go_wp2_with fail
    refine calls_abs (fun W => Ext w W ∧ w.heap.size + 2 ≤ W.heap.size ∧ W.cell? ⟨w.heap.size, 0, none⟩ = some (.int .i32 px) ∧ W.cell? ⟨w.heap.size, 1, none⟩ = some (.int .i32 py) ∧ W.cell? ⟨w.heap.size + 1, 0, none⟩ = some (.int .i32 qx) ∧ W.cell? ⟨w.heap.size + 1, 1, none⟩ = some (.int .i32 qy)) (by refine ⟨by (repeat' (first | (with_reducible assumption) | (with_reducible exact Ext.refl _) | (with_reducible refine Ext.grow ?_ _) | (with_reducible refine Ext.drew ?_) | (with_reducible refine Ext.set ?_ ?_ _) | omega | (simp; done) | (simp; omega) | (refine Ext.trans ?_ (by assumption)))), by first | (with_reducible assumption) | (simp; done) | (simp; omega), ?_, ?_, ?_, ?_⟩ <;> first | (with_reducible assumption) | (go_simp; done) | (simp; omega)) ?_
    (try clear hx0)
    (try clear hsz)
    (try clear c0)
    (try clear c1)
    (try clear c2)
    (try clear c3)
    rintro W ⟨hx0, hsz, c0, c1, c2, c3⟩
    refine (awake10 _).mono ?_
    rintro e wx ⟨rfl, hx⟩
    have hsz1 := Ext.size hx
    replace c0 := (Ext.cell hx (by dsimp only; omega)).trans c0
    replace c1 := (Ext.cell hx (by dsimp only; omega)).trans c1
    replace c2 := (Ext.cell hx (by dsimp only; omega)).trans c2
    replace c3 := (Ext.cell hx (by dsimp only; omega)).trans c3
    replace hx0 := Ext.trans hx0 hx
    replace hsz := Nat.le_trans hsz hsz1
    clear hx hsz1
    have hl0 : w.heap.size < wx.heap.size := by omega
    have hl1 : w.heap.size + 1 < wx.heap.size := by omega
    go_wp2_with (go_at_call 23; go_in)
    go_ret
    exact ⟨rfl, by (repeat' (first | (with_reducible assumption) | (with_reducible exact Ext.refl _) | (with_reducible refine Ext.grow ?_ _) | (with_reducible refine Ext.drew ?_) | (with_reducible refine Ext.set ?_ ?_ _) | omega | (simp; done) | (simp; omega) | (refine Ext.trans ?_ (by assumption))))⟩
  by_cases a8 : -1073741824 < qx
  rotate_left
  · skip
    go_enter Try.func5, Try.ntmps5
    go_wp2_with fail
    refine calls_abs (fun W => Ext w W ∧ w.heap.size + 2 ≤ W.heap.size ∧ W.cell? ⟨w.heap.size, 0, none⟩ = some (.int .i32 px) ∧ W.cell? ⟨w.heap.size, 1, none⟩ = some (.int .i32 py) ∧ W.cell? ⟨w.heap.size + 1, 0, none⟩ = some (.int .i32 qx) ∧ W.cell? ⟨w.heap.size + 1, 1, none⟩ = some (.int .i32 qy)) (by refine ⟨by (repeat' (first | (with_reducible assumption) | (with_reducible exact Ext.refl _) | (with_reducible refine Ext.grow ?_ _) | (with_reducible refine Ext.drew ?_) | (with_reducible refine Ext.set ?_ ?_ _) | omega | (simp; done) | (simp; omega) | (refine Ext.trans ?_ (by assumption)))), by first | (with_reducible assumption) | (simp; done) | (simp; omega), ?_, ?_, ?_, ?_⟩ <;> first | (with_reducible assumption) | (go_simp; done) | (simp; omega)) ?_
    (try clear hx0)
    (try clear hsz)
    (try clear c0)
    (try clear c1)
    (try clear c2)
    (try clear c3)
    rintro W ⟨hx0, hsz, c0, c1, c2, c3⟩
    refine (awake10 _).mono ?_
    rintro e wx ⟨rfl, hx⟩
    have hsz1 := Ext.size hx
    replace c0 := (Ext.cell hx (by dsimp only; omega)).trans c0
    replace c1 := (Ext.cell hx (by dsimp only; omega)).trans c1
    replace c2 := (Ext.cell hx (by dsimp only; omega)).trans c2
    replace c3 := (Ext.cell hx (by dsimp only; omega)).trans c3
    replace hx0 := Ext.trans hx0 hx
    replace hsz := Nat.le_trans hsz hsz1
    clear hx hsz1
    have hl0 : w.heap.size < wx.heap.size := by omega
    have hl1 : w.heap.size + 1 < wx.heap.size := by omega
    go_wp2_with (go_at_call 23; go_in)
    go_ret
    exact ⟨rfl, by (repeat' (first | (with_reducible assumption) | (with_reducible exact Ext.refl _) | (with_reducible refine Ext.grow ?_ _) | (with_reducible refine Ext.drew ?_) | (with_reducible refine Ext.set ?_ ?_ _) | omega | (simp; done) | (simp; omega) | (refine Ext.trans ?_ (by assumption))))⟩
  by_cases a9 : qy < 1073741824
  rotate_left
  · skip
    go_enter Try.func5, Try.ntmps5
    go_wp2_with fail
    refine calls_abs (fun W => Ext w W ∧ w.heap.size + 2 ≤ W.heap.size ∧ W.cell? ⟨w.heap.size, 0, none⟩ = some (.int .i32 px) ∧ W.cell? ⟨w.heap.size, 1, none⟩ = some (.int .i32 py) ∧ W.cell? ⟨w.heap.size + 1, 0, none⟩ = some (.int .i32 qx) ∧ W.cell? ⟨w.heap.size + 1, 1, none⟩ = some (.int .i32 qy)) (by refine ⟨by (repeat' (first | (with_reducible assumption) | (with_reducible exact Ext.refl _) | (with_reducible refine Ext.grow ?_ _) | (with_reducible refine Ext.drew ?_) | (with_reducible refine Ext.set ?_ ?_ _) | omega | (simp; done) | (simp; omega) | (refine Ext.trans ?_ (by assumption)))), by first | (with_reducible assumption) | (simp; done) | (simp; omega), ?_, ?_, ?_, ?_⟩ <;> first | (with_reducible assumption) | (go_simp; done) | (simp; omega)) ?_
    (try clear hx0)
    (try clear hsz)
    (try clear c0)
    (try clear c1)
    (try clear c2)
    (try clear c3)
    rintro W ⟨hx0, hsz, c0, c1, c2, c3⟩
    refine (awake10 _).mono ?_
    rintro e wx ⟨rfl, hx⟩
    have hsz1 := Ext.size hx
    replace c0 := (Ext.cell hx (by dsimp only; omega)).trans c0
    replace c1 := (Ext.cell hx (by dsimp only; omega)).trans c1
    replace c2 := (Ext.cell hx (by dsimp only; omega)).trans c2
    replace c3 := (Ext.cell hx (by dsimp only; omega)).trans c3
    replace hx0 := Ext.trans hx0 hx
    replace hsz := Nat.le_trans hsz hsz1
    clear hx hsz1
    have hl0 : w.heap.size < wx.heap.size := by omega
    have hl1 : w.heap.size + 1 < wx.heap.size := by omega
    go_wp2_with (go_at_call 23; go_in)
    go_ret
    exact ⟨rfl, by (repeat' (first | (with_reducible assumption) | (with_reducible exact Ext.refl _) | (with_reducible refine Ext.grow ?_ _) | (with_reducible refine Ext.drew ?_) | (with_reducible refine Ext.set ?_ ?_ _) | omega | (simp; done) | (simp; omega) | (refine Ext.trans ?_ (by assumption))))⟩
  by_cases a10 : -1073741824 < qy
  rotate_left
  · replace a10 := decide_eq_false a10
    go_enter Try.func5, Try.ntmps5
    go_wp2_with fail
    refine calls_abs (fun W => Ext w W ∧ w.heap.size + 2 ≤ W.heap.size ∧ W.cell? ⟨w.heap.size, 0, none⟩ = some (.int .i32 px) ∧ W.cell? ⟨w.heap.size, 1, none⟩ = some (.int .i32 py) ∧ W.cell? ⟨w.heap.size + 1, 0, none⟩ = some (.int .i32 qx) ∧ W.cell? ⟨w.heap.size + 1, 1, none⟩ = some (.int .i32 qy)) (by refine ⟨by (repeat' (first | (with_reducible assumption) | (with_reducible exact Ext.refl _) | (with_reducible refine Ext.grow ?_ _) | (with_reducible refine Ext.drew ?_) | (with_reducible refine Ext.set ?_ ?_ _) | omega | (simp; done) | (simp; omega) | (refine Ext.trans ?_ (by assumption)))), by first | (with_reducible assumption) | (simp; done) | (simp; omega), ?_, ?_, ?_, ?_⟩ <;> first | (with_reducible assumption) | (go_simp; done) | (simp; omega)) ?_
    (try clear hx0)
    (try clear hsz)
    (try clear c0)
    (try clear c1)
    (try clear c2)
    (try clear c3)
    rintro W ⟨hx0, hsz, c0, c1, c2, c3⟩
    refine (awake10 _).mono ?_
    rintro e wx ⟨rfl, hx⟩
    have hsz1 := Ext.size hx
    replace c0 := (Ext.cell hx (by dsimp only; omega)).trans c0
    replace c1 := (Ext.cell hx (by dsimp only; omega)).trans c1
    replace c2 := (Ext.cell hx (by dsimp only; omega)).trans c2
    replace c3 := (Ext.cell hx (by dsimp only; omega)).trans c3
    replace hx0 := Ext.trans hx0 hx
    replace hsz := Nat.le_trans hsz hsz1
    clear hx hsz1
    have hl0 : w.heap.size < wx.heap.size := by omega
    have hl1 : w.heap.size + 1 < wx.heap.size := by omega
    go_wp2_with (go_at_call 23; go_in)
    go_ret
    exact ⟨rfl, by (repeat' (first | (with_reducible assumption) | (with_reducible exact Ext.refl _) | (with_reducible refine Ext.grow ?_ _) | (with_reducible refine Ext.drew ?_) | (with_reducible refine Ext.set ?_ ?_ _) | omega | (simp; done) | (simp; omega) | (refine Ext.trans ?_ (by assumption))))⟩
  have k1 := Lib.hid (touch_sym px py r qx qy s ⟨a4, a3⟩ ⟨a6, a5⟩ ⟨a8, a7⟩ ⟨a10, a9⟩)
  by_cases hb : touchB px py r qx qy s = true
  · have k2 := Lib.hid (touch_more px py r qx qy s m (by omega) (by omega) hm.1 (by omega) (by omega) hb)
    have b3 := sat_bd (r + m)
    replace k1 := Lib.hid (k1.out.trans hb)
    replace hb := Lib.hid hb
    go_enter Try.func5, Try.ntmps5
    go_wp2_with fail
    refine calls_abs (fun W => Ext w W ∧ w.heap.size + 2 ≤ W.heap.size ∧ W.cell? ⟨w.heap.size, 0, none⟩ = some (.int .i32 px) ∧ W.cell? ⟨w.heap.size, 1, none⟩ = some (.int .i32 py) ∧ W.cell? ⟨w.heap.size + 1, 0, none⟩ = some (.int .i32 qx) ∧ W.cell? ⟨w.heap.size + 1, 1, none⟩ = some (.int .i32 qy)) (by refine ⟨by (repeat' (first | (with_reducible assumption) | (with_reducible exact Ext.refl _) | (with_reducible refine Ext.grow ?_ _) | (with_reducible refine Ext.drew ?_) | (with_reducible refine Ext.set ?_ ?_ _) | omega | (simp; done) | (simp; omega) | (refine Ext.trans ?_ (by assumption)))), by first | (with_reducible assumption) | (simp; done) | (simp; omega), ?_, ?_, ?_, ?_⟩ <;> first | (with_reducible assumption) | (go_simp; done) | (simp; omega)) ?_
    (try clear hx0)
    (try clear hsz)
    (try clear c0)
    (try clear c1)
    (try clear c2)
    (try clear c3)
    rintro W ⟨hx0, hsz, c0, c1, c2, c3⟩
    refine (awake10 _).mono ?_
    rintro e wx ⟨rfl, hx⟩
    have hsz1 := Ext.size hx
    replace c0 := (Ext.cell hx (by dsimp only; omega)).trans c0
    replace c1 := (Ext.cell hx (by dsimp only; omega)).trans c1
    replace c2 := (Ext.cell hx (by dsimp only; omega)).trans c2
    replace c3 := (Ext.cell hx (by dsimp only; omega)).trans c3
    replace hx0 := Ext.trans hx0 hx
    replace hsz := Nat.le_trans hsz hsz1
    clear hx hsz1
    have hl0 : w.heap.size < wx.heap.size := by omega
    have hl1 : w.heap.size + 1 < wx.heap.size := by omega
    go_wp2_with (go_at_call 23; go_in)
    refine calls_abs (fun W => Ext w W ∧ w.heap.size + 2 ≤ W.heap.size ∧ W.cell? ⟨w.heap.size, 0, none⟩ = some (.int .i32 px) ∧ W.cell? ⟨w.heap.size, 1, none⟩ = some (.int .i32 py) ∧ W.cell? ⟨w.heap.size + 1, 0, none⟩ = some (.int .i32 qx) ∧ W.cell? ⟨w.heap.size + 1, 1, none⟩ = some (.int .i32 qy)) (by refine ⟨by (repeat' (first | (with_reducible assumption) | (with_reducible exact Ext.refl _) | (with_reducible refine Ext.grow ?_ _) | (with_reducible refine Ext.drew ?_) | (with_reducible refine Ext.set ?_ ?_ _) | omega | (simp; done) | (simp; omega) | (refine Ext.trans ?_ (by assumption)))), by first | (with_reducible assumption) | (simp; done) | (simp; omega), ?_, ?_, ?_, ?_⟩ <;> first | (with_reducible assumption) | (go_simp; done) | (simp; omega)) ?_
    (try clear hx0)
    (try clear hsz)
    (try clear c0)
    (try clear c1)
    (try clear c2)
    (try clear c3)
    rintro W ⟨hx0, hsz, c0, c1, c2, c3⟩
    refine (touch_any _ _ _ _ _ _ _ (by omega) (by omega) (by omega) (by omega) (by omega) (by omega)).mono ?_
    rintro e wx ⟨rfl, hx⟩
    have hsz1 := Ext.size hx
    replace c0 := (Ext.cell hx (by dsimp only; omega)).trans c0
    replace c1 := (Ext.cell hx (by dsimp only; omega)).trans c1
    replace c2 := (Ext.cell hx (by dsimp only; omega)).trans c2
    replace c3 := (Ext.cell hx (by dsimp only; omega)).trans c3
    replace hx0 := Ext.trans hx0 hx
    replace hsz := Nat.le_trans hsz hsz1
    clear hx hsz1
    rw [hb.out]
    go_wp2_with fail
    have wm : IntKind.i32.wrap m = m := IntWalk.i32_in _ (by omega)
    go_region_held3 (fun w' => w'.cell? ⟨w.heap.size, 0, none⟩ = some (.int .i32 px) ∧ w'.cell? ⟨w.heap.size, 1, none⟩ = some (.int .i32 py) ∧ w'.cell? ⟨w.heap.size + 1, 0, none⟩ = some (.int .i32 qx) ∧ w'.cell? ⟨w.heap.size + 1, 1, none⟩ = some (.int .i32 qy) ∧ Ext w w' ∧ w.heap.size + 2 ≤ w'.heap.size)
      (((try dsimp only); (try go_split_ands); (repeat' (with_reducible apply And.intro)) <;> first | (with_reducible assumption) | ((with_reducible refine Ext.trans ?_ hx); (with_reducible assumption)) | ((with_reducible refine (Ext.cell hx ?_).trans ?_) <;> first | (with_reducible assumption) | (simp; done) | (simp; omega)) | ((with_reducible refine (Ext.frozen hx ?_).trans ?_) <;> first | (with_reducible assumption) | (simp; done) | (simp; omega)) | ((with_reducible refine Ext.held hx ?_ ?_) <;> first | (with_reducible assumption) | (simp; done) | (simp; omega)) | ((with_reducible refine Nat.le_trans ?_ (Ext.size hx)); (with_reducible assumption)) | ((with_reducible refine Ext.drew ?_); (repeat (first | (with_reducible assumption) | (with_reducible exact Ext.refl _) | (with_reducible refine Ext.grow ?_ _) | (with_reducible refine Ext.drew ?_))); done) | ((repeat' (with_reducible refine Ext.set ?_ ?_ _)) <;> first | (with_reducible assumption) | omega | (simp; done) | (simp; omega)) | ((with_reducible refine Ext.grow ?_ _); (repeat' (first | (with_reducible assumption) | (with_reducible exact Ext.refl _) | (with_reducible refine Ext.grow ?_ _) | (with_reducible refine Ext.drew ?_) | (with_reducible refine Ext.set ?_ ?_ _) | omega | (simp; done) | (simp; omega) | (refine Ext.trans ?_ (by assumption)))); done) | ((with_reducible refine heldAt_some ?_); (go_simp; done)) | (go_simp; done) | (simp; omega)))
      (first
        | (go_at_call 24; refine (touch_any _ _ _ _ _ _ _ (by omega) (by omega) (by omega) (by omega) (by omega) (by omega)).mono ?_; rintro e wx ⟨rfl, hx⟩; try rw [k1.out]; try rw [k2.out])
        | (go_at_call 25; refine (radd_any _ _ _ (by omega) (by omega)).mono ?_; rintro e wx ⟨rfl, rfl⟩))
    rename_i hh
    have hx9 := hh.2.2.2.2.1
    clear hh
    go_wp2
    go_ret
    exact ⟨ret_bool k2.out, hx9⟩
  · have k2 : Hid True := trivial
    replace hb := Bool.eq_false_iff.2 hb
    replace k1 := Lib.hid (k1.out.trans hb)
    replace hb := Lib.hid hb
    have b3 := sat_bd (r + m)
    go_enter Try.func5, Try.ntmps5
    go_wp2_with fail
    refine calls_abs (fun W => Ext w W ∧ w.heap.size + 2 ≤ W.heap.size ∧ W.cell? ⟨w.heap.size, 0, none⟩ = some (.int .i32 px) ∧ W.cell? ⟨w.heap.size, 1, none⟩ = some (.int .i32 py) ∧ W.cell? ⟨w.heap.size + 1, 0, none⟩ = some (.int .i32 qx) ∧ W.cell? ⟨w.heap.size + 1, 1, none⟩ = some (.int .i32 qy)) (by refine ⟨by (repeat' (first | (with_reducible assumption) | (with_reducible exact Ext.refl _) | (with_reducible refine Ext.grow ?_ _) | (with_reducible refine Ext.drew ?_) | (with_reducible refine Ext.set ?_ ?_ _) | omega | (simp; done) | (simp; omega) | (refine Ext.trans ?_ (by assumption)))), by first | (with_reducible assumption) | (simp; done) | (simp; omega), ?_, ?_, ?_, ?_⟩ <;> first | (with_reducible assumption) | (go_simp; done) | (simp; omega)) ?_
    (try clear hx0)
    (try clear hsz)
    (try clear c0)
    (try clear c1)
    (try clear c2)
    (try clear c3)
    rintro W ⟨hx0, hsz, c0, c1, c2, c3⟩
    refine (awake10 _).mono ?_
    rintro e wx ⟨rfl, hx⟩
    have hsz1 := Ext.size hx
    replace c0 := (Ext.cell hx (by dsimp only; omega)).trans c0
    replace c1 := (Ext.cell hx (by dsimp only; omega)).trans c1
    replace c2 := (Ext.cell hx (by dsimp only; omega)).trans c2
    replace c3 := (Ext.cell hx (by dsimp only; omega)).trans c3
    replace hx0 := Ext.trans hx0 hx
    replace hsz := Nat.le_trans hsz hsz1
    clear hx hsz1
    have hl0 : w.heap.size < wx.heap.size := by omega
    have hl1 : w.heap.size + 1 < wx.heap.size := by omega
    go_wp2_with (go_at_call 23; go_in)
    refine calls_abs (fun W => Ext w W ∧ w.heap.size + 2 ≤ W.heap.size ∧ W.cell? ⟨w.heap.size, 0, none⟩ = some (.int .i32 px) ∧ W.cell? ⟨w.heap.size, 1, none⟩ = some (.int .i32 py) ∧ W.cell? ⟨w.heap.size + 1, 0, none⟩ = some (.int .i32 qx) ∧ W.cell? ⟨w.heap.size + 1, 1, none⟩ = some (.int .i32 qy)) (by refine ⟨by (repeat' (first | (with_reducible assumption) | (with_reducible exact Ext.refl _) | (with_reducible refine Ext.grow ?_ _) | (with_reducible refine Ext.drew ?_) | (with_reducible refine Ext.set ?_ ?_ _) | omega | (simp; done) | (simp; omega) | (refine Ext.trans ?_ (by assumption)))), by first | (with_reducible assumption) | (simp; done) | (simp; omega), ?_, ?_, ?_, ?_⟩ <;> first | (with_reducible assumption) | (go_simp; done) | (simp; omega)) ?_
    (try clear hx0)
    (try clear hsz)
    (try clear c0)
    (try clear c1)
    (try clear c2)
    (try clear c3)
    rintro W ⟨hx0, hsz, c0, c1, c2, c3⟩
    refine (touch_any _ _ _ _ _ _ _ (by omega) (by omega) (by omega) (by omega) (by omega) (by omega)).mono ?_
    rintro e wx ⟨rfl, hx⟩
    have hsz1 := Ext.size hx
    replace c0 := (Ext.cell hx (by dsimp only; omega)).trans c0
    replace c1 := (Ext.cell hx (by dsimp only; omega)).trans c1
    replace c2 := (Ext.cell hx (by dsimp only; omega)).trans c2
    replace c3 := (Ext.cell hx (by dsimp only; omega)).trans c3
    replace hx0 := Ext.trans hx0 hx
    replace hsz := Nat.le_trans hsz hsz1
    clear hx hsz1
    rw [hb.out]
    go_wp2_with fail
    have wm : IntKind.i32.wrap m = m := IntWalk.i32_in _ (by omega)
    refine wp_region_held_drew (S := (fun w' => w'.cell? ⟨w.heap.size, 0, none⟩ = some (.int .i32 px) ∧ w'.cell? ⟨w.heap.size, 1, none⟩ = some (.int .i32 py) ∧ w'.cell? ⟨w.heap.size + 1, 0, none⟩ = some (.int .i32 qx) ∧ w'.cell? ⟨w.heap.size + 1, 1, none⟩ = some (.int .i32 qy) ∧ Ext w w' ∧ w.heap.size + 2 ≤ w'.heap.size)) (by kernel_rfl) ?_ (fun hHeld => ?_)
    · (((try dsimp only); (try go_split_ands); (repeat' (with_reducible apply And.intro)) <;> first | (with_reducible assumption) | ((with_reducible refine Ext.trans ?_ hx0); (with_reducible assumption)) | ((with_reducible refine (Ext.cell hx0 ?_).trans ?_) <;> first | (with_reducible assumption) | (simp; done) | (simp; omega)) | ((with_reducible refine (Ext.frozen hx0 ?_).trans ?_) <;> first | (with_reducible assumption) | (simp; done) | (simp; omega)) | ((with_reducible refine Ext.held hx0 ?_ ?_) <;> first | (with_reducible assumption) | (simp; done) | (simp; omega)) | ((with_reducible refine Nat.le_trans ?_ (Ext.size hx0)); (with_reducible assumption)) | ((with_reducible refine Ext.drew ?_); (repeat (first | (with_reducible assumption) | (with_reducible exact Ext.refl _) | (with_reducible refine Ext.grow ?_ _) | (with_reducible refine Ext.drew ?_))); done) | ((repeat' (with_reducible refine Ext.set ?_ ?_ _)) <;> first | (with_reducible assumption) | omega | (simp; done) | (simp; omega)) | ((with_reducible refine Ext.grow ?_ _); (repeat' (first | (with_reducible assumption) | (with_reducible exact Ext.refl _) | (with_reducible refine Ext.grow ?_ _) | (with_reducible refine Ext.drew ?_) | (with_reducible refine Ext.set ?_ ?_ _) | omega | (simp; done) | (simp; omega) | (refine Ext.trans ?_ (by assumption)))); done) | ((with_reducible refine heldAt_some ?_); (go_simp; done)) | (go_simp; done) | (simp; omega)))
    refine wpAnyH_take (i := 0) (v := ?_) rfl (by kernel_rfl) (by kernel_rfl) (by kernel_rfl) (fun _ _ _ h => h) (Or.inl ⟨by kernel_rfl, ?_⟩) (by assumption) ?_
    rotate_left
    · (intro w hSw; (try dsimp only at hSw); go_simp; (try (with_reducible rfl)))
    (try simp only [Act.put, List.getElem_toArray, List.getElem_cons_succ, List.getElem_cons_zero, List.setIfInBounds_toArray, List.set_cons_zero, List.set_cons_succ])
    refine wpAnyH_take (i := 1) (v := ?_) rfl (by kernel_rfl) (by kernel_rfl) (by kernel_rfl) (fun _ _ _ h => h) (Or.inl ⟨by kernel_rfl, ?_⟩) (by assumption) ?_
    rotate_left
    · (intro w hSw; (try dsimp only at hSw); go_simp; (try (with_reducible rfl)))
    (try simp only [Act.put, List.getElem_toArray, List.getElem_cons_succ, List.getElem_cons_zero, List.setIfInBounds_toArray, List.set_cons_zero, List.set_cons_succ])
    refine wpAnyH_take (i := 2) (v := ?_) rfl (by kernel_rfl) (by kernel_rfl) (by kernel_rfl) (fun _ _ _ h => h) (Or.inl ⟨by kernel_rfl, ?_⟩) (by assumption) ?_
    rotate_left
    · (intro w hSw; (try dsimp only at hSw); go_simp; (try (with_reducible rfl)))
    (try simp only [Act.put, List.getElem_toArray, List.getElem_cons_succ, List.getElem_cons_zero, List.setIfInBounds_toArray, List.set_cons_zero, List.set_cons_succ])
    refine wpAnyH_take (i := 3) (v := ?_) rfl (by kernel_rfl) (by kernel_rfl) (by kernel_rfl) (fun _ _ _ h => h) (Or.inl ⟨by kernel_rfl, ?_⟩) (by assumption) ?_
    rotate_left
    · (intro w hSw; (try dsimp only at hSw); go_simp; (try (with_reducible rfl)))
    (try simp only [Act.put, List.getElem_toArray, List.getElem_cons_succ, List.getElem_cons_zero, List.setIfInBounds_toArray, List.set_cons_zero, List.set_cons_succ])
    refine wpAnyH_take (i := 4) (v := ?_) rfl (by kernel_rfl) (by kernel_rfl) (by kernel_rfl) (fun _ _ _ h => h) (Or.inl ⟨by kernel_rfl, ?_⟩) (by assumption) ?_
    rotate_left
    · (intro w hSw; (try dsimp only at hSw); go_simp; (try (with_reducible rfl)))
    (try simp only [Act.put, List.getElem_toArray, List.getElem_cons_succ, List.getElem_cons_zero, List.setIfInBounds_toArray, List.set_cons_zero, List.set_cons_succ])
    refine wpAnyH_ready (rs := [5]) (by kernel_rfl) (by simp) ?_
    refine AllReadyH.cons rfl (fun K hK => ?_) AllReadyH.nil
    go_simp
    (go_at_call 24; refine (touch_any _ _ _ _ _ _ _ (by omega) (by omega) (by omega) (by omega) (by omega) (by omega)).mono ?_; rintro e wx ⟨rfl, hx⟩; try rw [k1.out])
    refine hK.out _ _ ?_ (fun hHeld => ?_)
    · (((try dsimp only); (try go_split_ands); (repeat' (with_reducible apply And.intro)) <;> first | (with_reducible assumption) | ((with_reducible refine Ext.trans ?_ hx); (with_reducible assumption)) | ((with_reducible refine (Ext.cell hx ?_).trans ?_) <;> first | (with_reducible assumption) | (simp; done) | (simp; omega)) | ((with_reducible refine (Ext.frozen hx ?_).trans ?_) <;> first | (with_reducible assumption) | (simp; done) | (simp; omega)) | ((with_reducible refine Ext.held hx ?_ ?_) <;> first | (with_reducible assumption) | (simp; done) | (simp; omega)) | ((with_reducible refine Nat.le_trans ?_ (Ext.size hx)); (with_reducible assumption)) | ((with_reducible refine Ext.drew ?_); (repeat (first | (with_reducible assumption) | (with_reducible exact Ext.refl _) | (with_reducible refine Ext.grow ?_ _) | (with_reducible refine Ext.drew ?_))); done) | ((repeat' (with_reducible refine Ext.set ?_ ?_ _)) <;> first | (with_reducible assumption) | omega | (simp; done) | (simp; omega)) | ((with_reducible refine Ext.grow ?_ _); (repeat' (first | (with_reducible assumption) | (with_reducible exact Ext.refl _) | (with_reducible refine Ext.grow ?_ _) | (with_reducible refine Ext.drew ?_) | (with_reducible refine Ext.set ?_ ?_ _) | omega | (simp; done) | (simp; omega) | (refine Ext.trans ?_ (by assumption)))); done) | ((with_reducible refine heldAt_some ?_); (go_simp; done)) | (go_simp; done) | (simp; omega)))
    clear hK K
    (try simp only [Act.put, List.getElem_toArray, List.getElem_cons_succ, List.getElem_cons_zero, List.setIfInBounds_toArray, List.set_cons_zero, List.set_cons_succ])
    refine wpAnyH_take (i := 6) (v := ?_) rfl (by kernel_rfl) (by kernel_rfl) (by kernel_rfl) (fun _ _ _ h => h) (Or.inl ⟨by kernel_rfl, ?_⟩) (by assumption) ?_
    rotate_left
    · (intro w hSw; (try dsimp only at hSw); go_simp; (try (with_reducible rfl)))
    (try simp only [Act.put, List.getElem_toArray, List.getElem_cons_succ, List.getElem_cons_zero, List.setIfInBounds_toArray, List.set_cons_zero, List.set_cons_succ])
    refine wpAnyH_take (i := 7) (v := ?_) rfl (by kernel_rfl) (by kernel_rfl) (by kernel_rfl) (fun _ _ _ h => h) (Or.inl ⟨by kernel_rfl, ?_⟩) (by assumption) ?_
    rotate_left
    · (intro w hSw; (try dsimp only at hSw); go_simp; (try (with_reducible rfl)))
    (try simp only [Act.put, List.getElem_toArray, List.getElem_cons_succ, List.getElem_cons_zero, List.setIfInBounds_toArray, List.set_cons_zero, List.set_cons_succ])
    refine wpAnyH_take (i := 8) (v := ?_) rfl (by kernel_rfl) (by kernel_rfl) (by kernel_rfl) (fun _ _ _ h => h) (Or.inl ⟨by kernel_rfl, ?_⟩) (by assumption) ?_
    rotate_left
    · (intro w hSw; (try dsimp only at hSw); go_simp; (try (with_reducible rfl)))
    (try simp only [Act.put, List.getElem_toArray, List.getElem_cons_succ, List.getElem_cons_zero, List.setIfInBounds_toArray, List.set_cons_zero, List.set_cons_succ])
    refine wpAnyH_take (i := 9) (v := ?_) rfl (by kernel_rfl) (by kernel_rfl) (by kernel_rfl) (fun _ _ _ h => h) (Or.inl ⟨by kernel_rfl, ?_⟩) (by assumption) ?_
    rotate_left
    · (intro w hSw; (try dsimp only at hSw); go_simp; (try (with_reducible rfl)))
    (try simp only [Act.put, List.getElem_toArray, List.getElem_cons_succ, List.getElem_cons_zero, List.setIfInBounds_toArray, List.set_cons_zero, List.set_cons_succ])
    refine wpAnyH_take (i := 10) (v := ?_) rfl (by kernel_rfl) (by kernel_rfl) (by kernel_rfl) (fun _ _ _ h => h) (Or.inl ⟨by kernel_rfl, ?_⟩) (by assumption) ?_
    rotate_left
    · (intro w hSw; (try dsimp only at hSw); go_simp; (try (with_reducible rfl)))
    (try simp only [Act.put, List.getElem_toArray, List.getElem_cons_succ, List.getElem_cons_zero, List.setIfInBounds_toArray, List.set_cons_zero, List.set_cons_succ])
    refine wpAnyH_take (i := 11) (v := undef) rfl (by kernel_rfl) (by kernel_rfl) (by kernel_rfl) (fun _ _ _ h => h) (Or.inr ⟨by kernel_rfl, rfl⟩) (by assumption) ?_
    (try simp only [Act.put, List.getElem_toArray, List.getElem_cons_succ, List.getElem_cons_zero, List.setIfInBounds_toArray, List.set_cons_zero, List.set_cons_succ])
    refine wpAnyH_take (i := 12) (v := undef) rfl (by kernel_rfl) (by kernel_rfl) (by kernel_rfl) (fun _ _ _ h => h) (Or.inr ⟨by kernel_rfl, rfl⟩) (by assumption) ?_
    (try simp only [Act.put, List.getElem_toArray, List.getElem_cons_succ, List.getElem_cons_zero, List.setIfInBounds_toArray, List.set_cons_zero, List.set_cons_succ])
    refine wpAnyH_take (i := 13) (v := undef) rfl (by kernel_rfl) (by kernel_rfl) (by kernel_rfl) (fun _ _ _ h => h) (Or.inr ⟨by kernel_rfl, rfl⟩) (by assumption) ?_
    (try simp only [Act.put, List.getElem_toArray, List.getElem_cons_succ, List.getElem_cons_zero, List.setIfInBounds_toArray, List.set_cons_zero, List.set_cons_succ])
    refine wpAnyH_take (i := 14) (v := undef) rfl (by kernel_rfl) (by kernel_rfl) (by kernel_rfl) (fun _ _ _ h => h) (Or.inr ⟨by kernel_rfl, rfl⟩) (by assumption) ?_
    (try simp only [Act.put, List.getElem_toArray, List.getElem_cons_succ, List.getElem_cons_zero, List.setIfInBounds_toArray, List.set_cons_zero, List.set_cons_succ])
    refine wpAnyH_take (i := 15) (v := undef) rfl (by kernel_rfl) (by kernel_rfl) (by kernel_rfl) (fun _ _ _ h => h) (Or.inr ⟨by kernel_rfl, rfl⟩) (by assumption) ?_
    (try simp only [Act.put, List.getElem_toArray, List.getElem_cons_succ, List.getElem_cons_zero, List.setIfInBounds_toArray, List.set_cons_zero, List.set_cons_succ])
    refine wpAnyH_take (i := 16) (v := undef) rfl (by kernel_rfl) (by kernel_rfl) (by kernel_rfl) (fun _ _ _ h => h) (Or.inr ⟨by kernel_rfl, rfl⟩) (by assumption) ?_
    (try simp only [Act.put, List.getElem_toArray, List.getElem_cons_succ, List.getElem_cons_zero, List.setIfInBounds_toArray, List.set_cons_zero, List.set_cons_succ])
    refine wpAnyH_take (i := 17) (v := undef) rfl (by kernel_rfl) (by kernel_rfl) (by kernel_rfl) (fun _ _ _ h => h) (Or.inr ⟨by kernel_rfl, rfl⟩) (by assumption) ?_
    (try simp only [Act.put, List.getElem_toArray, List.getElem_cons_succ, List.getElem_cons_zero, List.setIfInBounds_toArray, List.set_cons_zero, List.set_cons_succ])
    refine wpAnyH_take (i := 18) (v := undef) rfl (by kernel_rfl) (by kernel_rfl) (by kernel_rfl) (fun _ _ _ h => h) (Or.inr ⟨by kernel_rfl, rfl⟩) (by assumption) ?_
    (try simp only [Act.put, List.getElem_toArray, List.getElem_cons_succ, List.getElem_cons_zero, List.setIfInBounds_toArray, List.set_cons_zero, List.set_cons_succ])
    refine wpAnyH_take (i := 19) (v := ?_) rfl (by kernel_rfl) (by kernel_rfl) (by kernel_rfl) (fun _ _ _ h => h) (Or.inl ⟨by kernel_rfl, ?_⟩) (by assumption) ?_
    rotate_left
    · (intro w hSw; (try dsimp only at hSw); go_simp; (try (with_reducible rfl)))
    (try simp only [Act.put, List.getElem_toArray, List.getElem_cons_succ, List.getElem_cons_zero, List.setIfInBounds_toArray, List.set_cons_zero, List.set_cons_succ])
    refine wpAnyH_take (i := 20) (v := ?_) rfl (by kernel_rfl) (by kernel_rfl) (by kernel_rfl) (fun _ _ _ h => h) (Or.inl ⟨by kernel_rfl, ?_⟩) (by assumption) ?_
    rotate_left
    · (intro w hSw; (try dsimp only at hSw); go_simp; (try (with_reducible rfl)))
    (try simp only [Act.put, List.getElem_toArray, List.getElem_cons_succ, List.getElem_cons_zero, List.setIfInBounds_toArray, List.set_cons_zero, List.set_cons_succ])
    refine wpAnyH_take (i := 21) (v := ?_) rfl (by kernel_rfl) (by kernel_rfl) (by kernel_rfl) (fun _ _ _ h => h) (Or.inl ⟨by kernel_rfl, ?_⟩) (by assumption) ?_
    rotate_left
    · (intro w hSw; (try dsimp only at hSw); go_simp; (try (with_reducible rfl)))
    (try simp only [Act.put, List.getElem_toArray, List.getElem_cons_succ, List.getElem_cons_zero, List.setIfInBounds_toArray, List.set_cons_zero, List.set_cons_succ])
    refine wpAnyH_done (by kernel_rfl) ?_ _
    have hx9 := hHeld.2.2.2.2.1
    clear hHeld
    go_wp2
    go_ret
    exact ⟨rfl, hx9⟩

theorem ShapeNear_walk (px py qx qy r s m : Int) (w1 : (Lit.int .i32 px).wf = true) (w2 : (Lit.int .i32 py).wf = true) (w3 : (Lit.int .i32 qx).wf = true) (w4 : (Lit.int .i32 qy).wf = true) (w5 : (Lit.int .i32 r).wf = true) (w6 : (Lit.int .i32 s).wf = true) (w7 : (Lit.int .u16 m).wf = true) (w : World) :
    Calls Try.prog 5 #[.agg #[.int .i32 (px), .int .i32 (py)], .agg #[.int .i32 (qx), .int .i32 (qy)], .int .i32 r, .int .i32 s, .int .u16 m] w fun e w' => e = .returned (.bool true) ∧ Ext w w' :=
  ShapeNear_core px py qx qy r s m w (bounds_i32 w1) (bounds_i32 w2) (bounds_i32 w3) (bounds_i32 w4) (bounds_i32 w5) (bounds_i32 w6) (bounds_u16 w7)

end Go.Proofs.Ytikbnghadaehmaa
