/- WHAT voice.at, Over, Sounds COMPUTE. Conditions: none but the arguments' kinds. Own work. -/
import Derived.Test.YtikdnldngonpoaaVoice2
namespace Go.Proofs.Ytikdnldngonpoaa
open Go.RowKit
set_option linter.unusedVariables false
set_option linter.unusedSimpArgs false
set_option maxRecDepth 100000

theorem at_right {at_ gn pn ln bo lt cu t : Int} (h : atB at_ gn pn ln bo lt cu t = true) : rightB at_ gn pn ln bo lt cu = true ∧ (0 ≤ t ∧ t ≤ 2199023255552) := by
  unfold atB at h; rw [Bool.and_eq_true, within_iff] at h; exact h

theorem vat_any (fr em ki od at_ gn pn pr ln bo lt cu t : Int) (w : World) : Calls Try.prog 57 #[.agg #[.int .i64 fr, .int .i64 em, .int .i64 ki, .int .i64 od, .int .i64 at_, .int .i64 gn, .int .i64 pn, .int .i64 pr, .int .i64 ln, .int .i64 bo, .int .i64 lt, .int .i64 cu], .int .i64 t] w fun e w' => e = .returned (.bool (atB at_ gn pn ln bo lt cu t)) ∧ Ext w w' := by
  cases h : rightB at_ gn pn ln bo lt cu
  · have k : atB at_ gn pn ln bo lt cu t = false := by unfold atB; rw [h]; rfl
    rw [k]; clear k
    have hh := Lib.hid h
    clear h
    go_enter Try.func57, Try.ntmps57
    go_wp2_with fail
    refine (vright_any _ _ _ _ _ _ _ _ _ _ _ _ _).mono ?_
    rintro e wx ⟨rfl, hx⟩
    have hx9 := Ext.trans (show Ext w _ by (repeat' (first | (with_reducible assumption) | (with_reducible exact Ext.refl _) | (with_reducible refine Ext.grow ?_ _) | (with_reducible refine Ext.drew ?_) | (with_reducible refine Ext.set ?_ ?_ _) | omega | (simp; done) | (simp; omega) | (refine Ext.trans ?_ (by assumption))))) hx
    clear hx
    rw [hh.out]
    go_wp2_with (go_at_call 86; refine (within_any _ _ _ _).mono ?_; rintro e wx ⟨rfl, rfl⟩)
    go_ret
    exact ⟨rfl, hx9⟩
  · have k : atB at_ gn pn ln bo lt cu t = withinB t 0 2199023255552 := by unfold atB; rw [h]; rfl
    rw [k]; clear k
    have hh := Lib.hid h
    clear h
    go_enter Try.func57, Try.ntmps57
    go_wp2_with fail
    refine (vright_any _ _ _ _ _ _ _ _ _ _ _ _ _).mono ?_
    rintro e wx ⟨rfl, hx⟩
    have hx9 := Ext.trans (show Ext w _ by (repeat' (first | (with_reducible assumption) | (with_reducible exact Ext.refl _) | (with_reducible refine Ext.grow ?_ _) | (with_reducible refine Ext.drew ?_) | (with_reducible refine Ext.set ?_ ?_ _) | omega | (simp; done) | (simp; omega) | (refine Ext.trans ?_ (by assumption))))) hx
    clear hx
    rw [hh.out]
    go_wp2_with (go_at_call 86; refine (within_any _ _ _ _).mono ?_; rintro e wx ⟨rfl, rfl⟩)
    go_ret
    exact ⟨rfl, hx9⟩

set_option maxHeartbeats 4000000 in
theorem vover_any (fr em ki od at_ gn pn pr ln bo lt cu t : Int) (w : World) : Calls Try.prog 19 #[.agg #[.int .i64 fr, .int .i64 em, .int .i64 ki, .int .i64 od, .int .i64 at_, .int .i64 gn, .int .i64 pn, .int .i64 pr, .int .i64 ln, .int .i64 bo, .int .i64 lt, .int .i64 cu], .int .i64 t] w fun e w' => e = .returned (.bool (overB at_ gn pn ln bo lt cu t)) ∧ Ext w w' := by
  cases h : atB at_ gn pn ln bo lt cu t
  · have k : overB at_ gn pn ln bo lt cu t = false := by unfold overB; rw [h]; rfl
    rw [k]; clear k
    have hh := Lib.hid h
    clear h
    go_enter Try.func19, Try.ntmps19
    go_wp2_with fail
    refine calls_abs (fun W => Ext w W ∧ w.heap.size + 1 ≤ W.heap.size ∧ W.cell? ⟨w.heap.size, 0, none⟩ = some (.int .i64 fr) ∧ W.cell? ⟨w.heap.size, 1, none⟩ = some (.int .i64 em) ∧ W.cell? ⟨w.heap.size, 2, none⟩ = some (.int .i64 ki) ∧ W.cell? ⟨w.heap.size, 3, none⟩ = some (.int .i64 od) ∧ W.cell? ⟨w.heap.size, 4, none⟩ = some (.int .i64 at_) ∧ W.cell? ⟨w.heap.size, 5, none⟩ = some (.int .i64 gn) ∧ W.cell? ⟨w.heap.size, 6, none⟩ = some (.int .i64 pn) ∧ W.cell? ⟨w.heap.size, 7, none⟩ = some (.int .i64 pr) ∧ W.cell? ⟨w.heap.size, 8, none⟩ = some (.int .i64 ln) ∧ W.cell? ⟨w.heap.size, 9, none⟩ = some (.int .i64 bo) ∧ W.cell? ⟨w.heap.size, 10, none⟩ = some (.int .i64 lt) ∧ W.cell? ⟨w.heap.size, 11, none⟩ = some (.int .i64 cu)) (by refine ⟨by (repeat' (first | (with_reducible assumption) | (with_reducible exact Ext.refl _) | (with_reducible refine Ext.grow ?_ _) | (with_reducible refine Ext.drew ?_) | (with_reducible refine Ext.set ?_ ?_ _) | omega | (simp; done) | (simp; omega) | (refine Ext.trans ?_ (by assumption)))), by first | (with_reducible assumption) | (simp; done) | (simp; omega), ?_, ?_, ?_, ?_, ?_, ?_, ?_, ?_, ?_, ?_, ?_, ?_⟩ <;> first | (with_reducible assumption) | (go_simp; done) | (simp; omega)) ?_
    (try clear hx0)
    (try clear hsz)
    (try clear c0)
    (try clear c1)
    (try clear c2)
    (try clear c3)
    (try clear c4)
    (try clear c5)
    (try clear c6)
    (try clear c7)
    (try clear c8)
    (try clear c9)
    (try clear c10)
    (try clear c11)
    rintro W ⟨hx0, hsz, c0, c1, c2, c3, c4, c5, c6, c7, c8, c9, c10, c11⟩
    refine (vat_any _ _ _ _ _ _ _ _ _ _ _ _ _ _).mono ?_
    rintro e wx ⟨rfl, hx⟩
    have hsz1 := Ext.size hx
    replace c0 := (Ext.cell hx (by dsimp only; omega)).trans c0
    replace c1 := (Ext.cell hx (by dsimp only; omega)).trans c1
    replace c2 := (Ext.cell hx (by dsimp only; omega)).trans c2
    replace c3 := (Ext.cell hx (by dsimp only; omega)).trans c3
    replace c4 := (Ext.cell hx (by dsimp only; omega)).trans c4
    replace c5 := (Ext.cell hx (by dsimp only; omega)).trans c5
    replace c6 := (Ext.cell hx (by dsimp only; omega)).trans c6
    replace c7 := (Ext.cell hx (by dsimp only; omega)).trans c7
    replace c8 := (Ext.cell hx (by dsimp only; omega)).trans c8
    replace c9 := (Ext.cell hx (by dsimp only; omega)).trans c9
    replace c10 := (Ext.cell hx (by dsimp only; omega)).trans c10
    replace c11 := (Ext.cell hx (by dsimp only; omega)).trans c11
    replace hx0 := Ext.trans hx0 hx
    replace hsz := Nat.le_trans hsz hsz1
    clear hx hsz1
    have hl0 : w.heap.size < wx.heap.size := by omega
    rw [hh.out]
    go_wp2_with fail
    go_ret
    exact ⟨rfl, by (repeat' (first | (with_reducible assumption) | (with_reducible exact Ext.refl _) | (with_reducible refine Ext.grow ?_ _) | (with_reducible refine Ext.drew ?_) | (with_reducible refine Ext.set ?_ ?_ _) | omega | (simp; done) | (simp; omega) | (refine Ext.trans ?_ (by assumption))))⟩
  · have hr := (at_right h).1
    have hh := Lib.hid h
    by_cases c : bo ≤ t
    · have k : overB at_ gn pn ln bo lt cu t = decide (endF at_ ln bo lt cu ≤ t) := by unfold overB; rw [h, decide_eq_true c]; rfl
      rw [k]; clear k h
      go_enter Try.func19, Try.ntmps19
      go_wp2_with fail
      refine calls_abs (fun W => Ext w W ∧ w.heap.size + 1 ≤ W.heap.size ∧ W.cell? ⟨w.heap.size, 0, none⟩ = some (.int .i64 fr) ∧ W.cell? ⟨w.heap.size, 1, none⟩ = some (.int .i64 em) ∧ W.cell? ⟨w.heap.size, 2, none⟩ = some (.int .i64 ki) ∧ W.cell? ⟨w.heap.size, 3, none⟩ = some (.int .i64 od) ∧ W.cell? ⟨w.heap.size, 4, none⟩ = some (.int .i64 at_) ∧ W.cell? ⟨w.heap.size, 5, none⟩ = some (.int .i64 gn) ∧ W.cell? ⟨w.heap.size, 6, none⟩ = some (.int .i64 pn) ∧ W.cell? ⟨w.heap.size, 7, none⟩ = some (.int .i64 pr) ∧ W.cell? ⟨w.heap.size, 8, none⟩ = some (.int .i64 ln) ∧ W.cell? ⟨w.heap.size, 9, none⟩ = some (.int .i64 bo) ∧ W.cell? ⟨w.heap.size, 10, none⟩ = some (.int .i64 lt) ∧ W.cell? ⟨w.heap.size, 11, none⟩ = some (.int .i64 cu)) (by refine ⟨by (repeat' (first | (with_reducible assumption) | (with_reducible exact Ext.refl _) | (with_reducible refine Ext.grow ?_ _) | (with_reducible refine Ext.drew ?_) | (with_reducible refine Ext.set ?_ ?_ _) | omega | (simp; done) | (simp; omega) | (refine Ext.trans ?_ (by assumption)))), by first | (with_reducible assumption) | (simp; done) | (simp; omega), ?_, ?_, ?_, ?_, ?_, ?_, ?_, ?_, ?_, ?_, ?_, ?_⟩ <;> first | (with_reducible assumption) | (go_simp; done) | (simp; omega)) ?_
      (try clear hx0)
      (try clear hsz)
      (try clear c0)
      (try clear c1)
      (try clear c2)
      (try clear c3)
      (try clear c4)
      (try clear c5)
      (try clear c6)
      (try clear c7)
      (try clear c8)
      (try clear c9)
      (try clear c10)
      (try clear c11)
      rintro W ⟨hx0, hsz, c0, c1, c2, c3, c4, c5, c6, c7, c8, c9, c10, c11⟩
      refine (vat_any _ _ _ _ _ _ _ _ _ _ _ _ _ _).mono ?_
      rintro e wx ⟨rfl, hx⟩
      have hsz1 := Ext.size hx
      replace c0 := (Ext.cell hx (by dsimp only; omega)).trans c0
      replace c1 := (Ext.cell hx (by dsimp only; omega)).trans c1
      replace c2 := (Ext.cell hx (by dsimp only; omega)).trans c2
      replace c3 := (Ext.cell hx (by dsimp only; omega)).trans c3
      replace c4 := (Ext.cell hx (by dsimp only; omega)).trans c4
      replace c5 := (Ext.cell hx (by dsimp only; omega)).trans c5
      replace c6 := (Ext.cell hx (by dsimp only; omega)).trans c6
      replace c7 := (Ext.cell hx (by dsimp only; omega)).trans c7
      replace c8 := (Ext.cell hx (by dsimp only; omega)).trans c8
      replace c9 := (Ext.cell hx (by dsimp only; omega)).trans c9
      replace c10 := (Ext.cell hx (by dsimp only; omega)).trans c10
      replace c11 := (Ext.cell hx (by dsimp only; omega)).trans c11
      replace hx0 := Ext.trans hx0 hx
      replace hsz := Nat.le_trans hsz hsz1
      clear hx hsz1
      have hl0 : w.heap.size < wx.heap.size := by omega
      rw [hh.out]
      go_wp2_with fail
      refine (vends_yes _ _ _ _ _ _ _ _ _ _ _ _ _ hr).mono ?_
      rintro e wy ⟨rfl, hx⟩
      have hx9 := Ext.trans (show Ext w _ by (repeat' (first | (with_reducible assumption) | (with_reducible exact Ext.refl _) | (with_reducible refine Ext.grow ?_ _) | (with_reducible refine Ext.drew ?_) | (with_reducible refine Ext.set ?_ ?_ _) | omega | (simp; done) | (simp; omega) | (refine Ext.trans ?_ (by assumption))))) hx
      clear hx hr
      go_wp2_with fail
      go_ret
      exact ⟨rfl, hx9⟩
    · have k : overB at_ gn pn ln bo lt cu t = false := by unfold overB; rw [h, decide_eq_false c]; rfl
      rw [k]; clear k h
      go_enter Try.func19, Try.ntmps19
      go_wp2_with fail
      refine calls_abs (fun W => Ext w W ∧ w.heap.size + 1 ≤ W.heap.size ∧ W.cell? ⟨w.heap.size, 0, none⟩ = some (.int .i64 fr) ∧ W.cell? ⟨w.heap.size, 1, none⟩ = some (.int .i64 em) ∧ W.cell? ⟨w.heap.size, 2, none⟩ = some (.int .i64 ki) ∧ W.cell? ⟨w.heap.size, 3, none⟩ = some (.int .i64 od) ∧ W.cell? ⟨w.heap.size, 4, none⟩ = some (.int .i64 at_) ∧ W.cell? ⟨w.heap.size, 5, none⟩ = some (.int .i64 gn) ∧ W.cell? ⟨w.heap.size, 6, none⟩ = some (.int .i64 pn) ∧ W.cell? ⟨w.heap.size, 7, none⟩ = some (.int .i64 pr) ∧ W.cell? ⟨w.heap.size, 8, none⟩ = some (.int .i64 ln) ∧ W.cell? ⟨w.heap.size, 9, none⟩ = some (.int .i64 bo) ∧ W.cell? ⟨w.heap.size, 10, none⟩ = some (.int .i64 lt) ∧ W.cell? ⟨w.heap.size, 11, none⟩ = some (.int .i64 cu)) (by refine ⟨by (repeat' (first | (with_reducible assumption) | (with_reducible exact Ext.refl _) | (with_reducible refine Ext.grow ?_ _) | (with_reducible refine Ext.drew ?_) | (with_reducible refine Ext.set ?_ ?_ _) | omega | (simp; done) | (simp; omega) | (refine Ext.trans ?_ (by assumption)))), by first | (with_reducible assumption) | (simp; done) | (simp; omega), ?_, ?_, ?_, ?_, ?_, ?_, ?_, ?_, ?_, ?_, ?_, ?_⟩ <;> first | (with_reducible assumption) | (go_simp; done) | (simp; omega)) ?_
      (try clear hx0)
      (try clear hsz)
      (try clear c0)
      (try clear c1)
      (try clear c2)
      (try clear c3)
      (try clear c4)
      (try clear c5)
      (try clear c6)
      (try clear c7)
      (try clear c8)
      (try clear c9)
      (try clear c10)
      (try clear c11)
      rintro W ⟨hx0, hsz, c0, c1, c2, c3, c4, c5, c6, c7, c8, c9, c10, c11⟩
      refine (vat_any _ _ _ _ _ _ _ _ _ _ _ _ _ _).mono ?_
      rintro e wx ⟨rfl, hx⟩
      have hsz1 := Ext.size hx
      replace c0 := (Ext.cell hx (by dsimp only; omega)).trans c0
      replace c1 := (Ext.cell hx (by dsimp only; omega)).trans c1
      replace c2 := (Ext.cell hx (by dsimp only; omega)).trans c2
      replace c3 := (Ext.cell hx (by dsimp only; omega)).trans c3
      replace c4 := (Ext.cell hx (by dsimp only; omega)).trans c4
      replace c5 := (Ext.cell hx (by dsimp only; omega)).trans c5
      replace c6 := (Ext.cell hx (by dsimp only; omega)).trans c6
      replace c7 := (Ext.cell hx (by dsimp only; omega)).trans c7
      replace c8 := (Ext.cell hx (by dsimp only; omega)).trans c8
      replace c9 := (Ext.cell hx (by dsimp only; omega)).trans c9
      replace c10 := (Ext.cell hx (by dsimp only; omega)).trans c10
      replace c11 := (Ext.cell hx (by dsimp only; omega)).trans c11
      replace hx0 := Ext.trans hx0 hx
      replace hsz := Nat.le_trans hsz hsz1
      clear hx hsz1
      have hl0 : w.heap.size < wx.heap.size := by omega
      rw [hh.out]
      go_wp2_with fail
      go_ret
      exact ⟨rfl, by (repeat' (first | (with_reducible assumption) | (with_reducible exact Ext.refl _) | (with_reducible refine Ext.grow ?_ _) | (with_reducible refine Ext.drew ?_) | (with_reducible refine Ext.set ?_ ?_ _) | omega | (simp; done) | (simp; omega) | (refine Ext.trans ?_ (by assumption))))⟩

set_option maxHeartbeats 4000000 in
theorem vsounds_any (fr em ki od at_ gn pn pr ln bo lt cu t : Int) (w : World) : Calls Try.prog 20 #[.agg #[.int .i64 fr, .int .i64 em, .int .i64 ki, .int .i64 od, .int .i64 at_, .int .i64 gn, .int .i64 pn, .int .i64 pr, .int .i64 ln, .int .i64 bo, .int .i64 lt, .int .i64 cu], .int .i64 t] w fun e w' => e = .returned (.bool (soundsB at_ gn pn ln bo lt cu t)) ∧ Ext w w' := by
  cases h : atB at_ gn pn ln bo lt cu t
  · have k : soundsB at_ gn pn ln bo lt cu t = false := by unfold soundsB; rw [h]; rfl
    rw [k]; clear k
    have hh := Lib.hid h
    clear h
    go_enter Try.func20, Try.ntmps20
    go_wp2_with fail
    refine calls_abs (fun W => Ext w W ∧ w.heap.size + 1 ≤ W.heap.size ∧ W.cell? ⟨w.heap.size, 0, none⟩ = some (.int .i64 fr) ∧ W.cell? ⟨w.heap.size, 1, none⟩ = some (.int .i64 em) ∧ W.cell? ⟨w.heap.size, 2, none⟩ = some (.int .i64 ki) ∧ W.cell? ⟨w.heap.size, 3, none⟩ = some (.int .i64 od) ∧ W.cell? ⟨w.heap.size, 4, none⟩ = some (.int .i64 at_) ∧ W.cell? ⟨w.heap.size, 5, none⟩ = some (.int .i64 gn) ∧ W.cell? ⟨w.heap.size, 6, none⟩ = some (.int .i64 pn) ∧ W.cell? ⟨w.heap.size, 7, none⟩ = some (.int .i64 pr) ∧ W.cell? ⟨w.heap.size, 8, none⟩ = some (.int .i64 ln) ∧ W.cell? ⟨w.heap.size, 9, none⟩ = some (.int .i64 bo) ∧ W.cell? ⟨w.heap.size, 10, none⟩ = some (.int .i64 lt) ∧ W.cell? ⟨w.heap.size, 11, none⟩ = some (.int .i64 cu)) (by refine ⟨by (repeat' (first | (with_reducible assumption) | (with_reducible exact Ext.refl _) | (with_reducible refine Ext.grow ?_ _) | (with_reducible refine Ext.drew ?_) | (with_reducible refine Ext.set ?_ ?_ _) | omega | (simp; done) | (simp; omega) | (refine Ext.trans ?_ (by assumption)))), by first | (with_reducible assumption) | (simp; done) | (simp; omega), ?_, ?_, ?_, ?_, ?_, ?_, ?_, ?_, ?_, ?_, ?_, ?_⟩ <;> first | (with_reducible assumption) | (go_simp; done) | (simp; omega)) ?_
    (try clear hx0)
    (try clear hsz)
    (try clear c0)
    (try clear c1)
    (try clear c2)
    (try clear c3)
    (try clear c4)
    (try clear c5)
    (try clear c6)
    (try clear c7)
    (try clear c8)
    (try clear c9)
    (try clear c10)
    (try clear c11)
    rintro W ⟨hx0, hsz, c0, c1, c2, c3, c4, c5, c6, c7, c8, c9, c10, c11⟩
    refine (vat_any _ _ _ _ _ _ _ _ _ _ _ _ _ _).mono ?_
    rintro e wx ⟨rfl, hx⟩
    have hsz1 := Ext.size hx
    replace c0 := (Ext.cell hx (by dsimp only; omega)).trans c0
    replace c1 := (Ext.cell hx (by dsimp only; omega)).trans c1
    replace c2 := (Ext.cell hx (by dsimp only; omega)).trans c2
    replace c3 := (Ext.cell hx (by dsimp only; omega)).trans c3
    replace c4 := (Ext.cell hx (by dsimp only; omega)).trans c4
    replace c5 := (Ext.cell hx (by dsimp only; omega)).trans c5
    replace c6 := (Ext.cell hx (by dsimp only; omega)).trans c6
    replace c7 := (Ext.cell hx (by dsimp only; omega)).trans c7
    replace c8 := (Ext.cell hx (by dsimp only; omega)).trans c8
    replace c9 := (Ext.cell hx (by dsimp only; omega)).trans c9
    replace c10 := (Ext.cell hx (by dsimp only; omega)).trans c10
    replace c11 := (Ext.cell hx (by dsimp only; omega)).trans c11
    replace hx0 := Ext.trans hx0 hx
    replace hsz := Nat.le_trans hsz hsz1
    clear hx hsz1
    have hl0 : w.heap.size < wx.heap.size := by omega
    rw [hh.out]
    go_wp2_with fail
    go_ret
    exact ⟨rfl, by (repeat' (first | (with_reducible assumption) | (with_reducible exact Ext.refl _) | (with_reducible refine Ext.grow ?_ _) | (with_reducible refine Ext.drew ?_) | (with_reducible refine Ext.set ?_ ?_ _) | omega | (simp; done) | (simp; omega) | (refine Ext.trans ?_ (by assumption))))⟩
  · have hr := (at_right h).1
    have hh := Lib.hid h
    by_cases c : bo ≤ t
    · have k : soundsB at_ gn pn ln bo lt cu t = decide (t < endF at_ ln bo lt cu) := by unfold soundsB; rw [h, decide_eq_true c]; rfl
      rw [k]; clear k h
      go_enter Try.func20, Try.ntmps20
      go_wp2_with fail
      refine calls_abs (fun W => Ext w W ∧ w.heap.size + 1 ≤ W.heap.size ∧ W.cell? ⟨w.heap.size, 0, none⟩ = some (.int .i64 fr) ∧ W.cell? ⟨w.heap.size, 1, none⟩ = some (.int .i64 em) ∧ W.cell? ⟨w.heap.size, 2, none⟩ = some (.int .i64 ki) ∧ W.cell? ⟨w.heap.size, 3, none⟩ = some (.int .i64 od) ∧ W.cell? ⟨w.heap.size, 4, none⟩ = some (.int .i64 at_) ∧ W.cell? ⟨w.heap.size, 5, none⟩ = some (.int .i64 gn) ∧ W.cell? ⟨w.heap.size, 6, none⟩ = some (.int .i64 pn) ∧ W.cell? ⟨w.heap.size, 7, none⟩ = some (.int .i64 pr) ∧ W.cell? ⟨w.heap.size, 8, none⟩ = some (.int .i64 ln) ∧ W.cell? ⟨w.heap.size, 9, none⟩ = some (.int .i64 bo) ∧ W.cell? ⟨w.heap.size, 10, none⟩ = some (.int .i64 lt) ∧ W.cell? ⟨w.heap.size, 11, none⟩ = some (.int .i64 cu)) (by refine ⟨by (repeat' (first | (with_reducible assumption) | (with_reducible exact Ext.refl _) | (with_reducible refine Ext.grow ?_ _) | (with_reducible refine Ext.drew ?_) | (with_reducible refine Ext.set ?_ ?_ _) | omega | (simp; done) | (simp; omega) | (refine Ext.trans ?_ (by assumption)))), by first | (with_reducible assumption) | (simp; done) | (simp; omega), ?_, ?_, ?_, ?_, ?_, ?_, ?_, ?_, ?_, ?_, ?_, ?_⟩ <;> first | (with_reducible assumption) | (go_simp; done) | (simp; omega)) ?_
      (try clear hx0)
      (try clear hsz)
      (try clear c0)
      (try clear c1)
      (try clear c2)
      (try clear c3)
      (try clear c4)
      (try clear c5)
      (try clear c6)
      (try clear c7)
      (try clear c8)
      (try clear c9)
      (try clear c10)
      (try clear c11)
      rintro W ⟨hx0, hsz, c0, c1, c2, c3, c4, c5, c6, c7, c8, c9, c10, c11⟩
      refine (vat_any _ _ _ _ _ _ _ _ _ _ _ _ _ _).mono ?_
      rintro e wx ⟨rfl, hx⟩
      have hsz1 := Ext.size hx
      replace c0 := (Ext.cell hx (by dsimp only; omega)).trans c0
      replace c1 := (Ext.cell hx (by dsimp only; omega)).trans c1
      replace c2 := (Ext.cell hx (by dsimp only; omega)).trans c2
      replace c3 := (Ext.cell hx (by dsimp only; omega)).trans c3
      replace c4 := (Ext.cell hx (by dsimp only; omega)).trans c4
      replace c5 := (Ext.cell hx (by dsimp only; omega)).trans c5
      replace c6 := (Ext.cell hx (by dsimp only; omega)).trans c6
      replace c7 := (Ext.cell hx (by dsimp only; omega)).trans c7
      replace c8 := (Ext.cell hx (by dsimp only; omega)).trans c8
      replace c9 := (Ext.cell hx (by dsimp only; omega)).trans c9
      replace c10 := (Ext.cell hx (by dsimp only; omega)).trans c10
      replace c11 := (Ext.cell hx (by dsimp only; omega)).trans c11
      replace hx0 := Ext.trans hx0 hx
      replace hsz := Nat.le_trans hsz hsz1
      clear hx hsz1
      have hl0 : w.heap.size < wx.heap.size := by omega
      rw [hh.out]
      go_wp2_with fail
      refine (vends_yes _ _ _ _ _ _ _ _ _ _ _ _ _ hr).mono ?_
      rintro e wy ⟨rfl, hx⟩
      have hx9 := Ext.trans (show Ext w _ by (repeat' (first | (with_reducible assumption) | (with_reducible exact Ext.refl _) | (with_reducible refine Ext.grow ?_ _) | (with_reducible refine Ext.drew ?_) | (with_reducible refine Ext.set ?_ ?_ _) | omega | (simp; done) | (simp; omega) | (refine Ext.trans ?_ (by assumption))))) hx
      clear hx hr
      go_wp2_with fail
      go_ret
      exact ⟨rfl, hx9⟩
    · have k : soundsB at_ gn pn ln bo lt cu t = false := by unfold soundsB; rw [h, decide_eq_false c]; rfl
      rw [k]; clear k h
      go_enter Try.func20, Try.ntmps20
      go_wp2_with fail
      refine calls_abs (fun W => Ext w W ∧ w.heap.size + 1 ≤ W.heap.size ∧ W.cell? ⟨w.heap.size, 0, none⟩ = some (.int .i64 fr) ∧ W.cell? ⟨w.heap.size, 1, none⟩ = some (.int .i64 em) ∧ W.cell? ⟨w.heap.size, 2, none⟩ = some (.int .i64 ki) ∧ W.cell? ⟨w.heap.size, 3, none⟩ = some (.int .i64 od) ∧ W.cell? ⟨w.heap.size, 4, none⟩ = some (.int .i64 at_) ∧ W.cell? ⟨w.heap.size, 5, none⟩ = some (.int .i64 gn) ∧ W.cell? ⟨w.heap.size, 6, none⟩ = some (.int .i64 pn) ∧ W.cell? ⟨w.heap.size, 7, none⟩ = some (.int .i64 pr) ∧ W.cell? ⟨w.heap.size, 8, none⟩ = some (.int .i64 ln) ∧ W.cell? ⟨w.heap.size, 9, none⟩ = some (.int .i64 bo) ∧ W.cell? ⟨w.heap.size, 10, none⟩ = some (.int .i64 lt) ∧ W.cell? ⟨w.heap.size, 11, none⟩ = some (.int .i64 cu)) (by refine ⟨by (repeat' (first | (with_reducible assumption) | (with_reducible exact Ext.refl _) | (with_reducible refine Ext.grow ?_ _) | (with_reducible refine Ext.drew ?_) | (with_reducible refine Ext.set ?_ ?_ _) | omega | (simp; done) | (simp; omega) | (refine Ext.trans ?_ (by assumption)))), by first | (with_reducible assumption) | (simp; done) | (simp; omega), ?_, ?_, ?_, ?_, ?_, ?_, ?_, ?_, ?_, ?_, ?_, ?_⟩ <;> first | (with_reducible assumption) | (go_simp; done) | (simp; omega)) ?_
      (try clear hx0)
      (try clear hsz)
      (try clear c0)
      (try clear c1)
      (try clear c2)
      (try clear c3)
      (try clear c4)
      (try clear c5)
      (try clear c6)
      (try clear c7)
      (try clear c8)
      (try clear c9)
      (try clear c10)
      (try clear c11)
      rintro W ⟨hx0, hsz, c0, c1, c2, c3, c4, c5, c6, c7, c8, c9, c10, c11⟩
      refine (vat_any _ _ _ _ _ _ _ _ _ _ _ _ _ _).mono ?_
      rintro e wx ⟨rfl, hx⟩
      have hsz1 := Ext.size hx
      replace c0 := (Ext.cell hx (by dsimp only; omega)).trans c0
      replace c1 := (Ext.cell hx (by dsimp only; omega)).trans c1
      replace c2 := (Ext.cell hx (by dsimp only; omega)).trans c2
      replace c3 := (Ext.cell hx (by dsimp only; omega)).trans c3
      replace c4 := (Ext.cell hx (by dsimp only; omega)).trans c4
      replace c5 := (Ext.cell hx (by dsimp only; omega)).trans c5
      replace c6 := (Ext.cell hx (by dsimp only; omega)).trans c6
      replace c7 := (Ext.cell hx (by dsimp only; omega)).trans c7
      replace c8 := (Ext.cell hx (by dsimp only; omega)).trans c8
      replace c9 := (Ext.cell hx (by dsimp only; omega)).trans c9
      replace c10 := (Ext.cell hx (by dsimp only; omega)).trans c10
      replace c11 := (Ext.cell hx (by dsimp only; omega)).trans c11
      replace hx0 := Ext.trans hx0 hx
      replace hsz := Nat.le_trans hsz hsz1
      clear hx hsz1
      have hl0 : w.heap.size < wx.heap.size := by omega
      rw [hh.out]
      go_wp2_with fail
      go_ret
      exact ⟨rfl, by (repeat' (first | (with_reducible assumption) | (with_reducible exact Ext.refl _) | (with_reducible refine Ext.grow ?_ _) | (with_reducible refine Ext.drew ?_) | (with_reducible refine Ext.set ?_ ?_ _) | omega | (simp; done) | (simp; omega) | (refine Ext.trans ?_ (by assumption))))⟩

end Go.Proofs.Ytikdnldngonpoaa
