/- THE WALK OF 'VoiceEnds': its Go text returns true. Conditions: none but the arguments' kinds. Own work. -/
import Derived.Test.YtikdnldngonpoaaVoice4
namespace Go.Proofs.Ytikdnldngonpoaa
open Go.RowKit
set_option linter.unusedVariables false
set_option linter.unusedSimpArgs false
set_option maxRecDepth 100000

theorem awake19 (w : World) : Calls Try.prog 14 #[] w fun e w' => e = .returned (.bool true) ∧ Ext w w' := by
  have a1 : soundsB 9 32768 0 0 0 0 100 163 = true := by decide
  have a2 : overB 9 32768 0 0 0 0 100 164 = true := by decide
  have a3 : endF 9 0 0 0 100 = 164 := by decide
  have a4 : rightB 9 32768 0 0 0 0 100 = true := by decide
  go_enter Try.func14, Try.ntmps14
  go_wp2_with fail
  refine calls_abs (fun W => Ext w W ∧ w.heap.size + 1 ≤ W.heap.size ∧ W.cell? ⟨w.heap.size, 0, none⟩ = some (.int .i64 0) ∧ W.cell? ⟨w.heap.size, 1, none⟩ = some (.int .i64 0) ∧ W.cell? ⟨w.heap.size, 2, none⟩ = some (.int .i64 0) ∧ W.cell? ⟨w.heap.size, 3, none⟩ = some (.int .i64 0) ∧ W.cell? ⟨w.heap.size, 4, none⟩ = some (.int .i64 9) ∧ W.cell? ⟨w.heap.size, 5, none⟩ = some (.int .i64 32768) ∧ W.cell? ⟨w.heap.size, 6, none⟩ = some (.int .i64 0) ∧ W.cell? ⟨w.heap.size, 7, none⟩ = some (.int .i64 0) ∧ W.cell? ⟨w.heap.size, 8, none⟩ = some (.int .i64 0) ∧ W.cell? ⟨w.heap.size, 9, none⟩ = some (.int .i64 0) ∧ W.cell? ⟨w.heap.size, 10, none⟩ = some (.int .i64 0) ∧ W.cell? ⟨w.heap.size, 11, none⟩ = some (.int .i64 100)) (by refine ⟨by (repeat' (first | (with_reducible assumption) | (with_reducible exact Ext.refl _) | (with_reducible refine Ext.grow ?_ _) | (with_reducible refine Ext.drew ?_) | (with_reducible refine Ext.set ?_ ?_ _) | omega | (simp; done) | (simp; omega) | (refine Ext.trans ?_ (by assumption)))), by first | (with_reducible assumption) | (simp; done) | (simp; omega), ?_, ?_, ?_, ?_, ?_, ?_, ?_, ?_, ?_, ?_, ?_, ?_⟩ <;> first | (with_reducible assumption) | (go_simp; done) | (simp; omega)) ?_
  (try clear hx0)
  (try clear hsz)
  (try clear c0)
  (try clear c1)
  (try clear c2)
  (try clear c3)
  (try clear c4)
  (try clear c5)
  (try clear c6)
  (try clear c7)
  (try clear c8)
  (try clear c9)
  (try clear c10)
  (try clear c11)
  rintro W ⟨hx0, hsz, c0, c1, c2, c3, c4, c5, c6, c7, c8, c9, c10, c11⟩
  refine (vsounds_any _ _ _ _ _ _ _ _ _ _ _ _ _ _).mono ?_
  rintro e wx ⟨rfl, hx⟩
  have hsz1 := Ext.size hx
  replace c0 := (Ext.cell hx (by dsimp only; omega)).trans c0
  replace c1 := (Ext.cell hx (by dsimp only; omega)).trans c1
  replace c2 := (Ext.cell hx (by dsimp only; omega)).trans c2
  replace c3 := (Ext.cell hx (by dsimp only; omega)).trans c3
  replace c4 := (Ext.cell hx (by dsimp only; omega)).trans c4
  replace c5 := (Ext.cell hx (by dsimp only; omega)).trans c5
  replace c6 := (Ext.cell hx (by dsimp only; omega)).trans c6
  replace c7 := (Ext.cell hx (by dsimp only; omega)).trans c7
  replace c8 := (Ext.cell hx (by dsimp only; omega)).trans c8
  replace c9 := (Ext.cell hx (by dsimp only; omega)).trans c9
  replace c10 := (Ext.cell hx (by dsimp only; omega)).trans c10
  replace c11 := (Ext.cell hx (by dsimp only; omega)).trans c11
  replace hx0 := Ext.trans hx0 hx
  replace hsz := Nat.le_trans hsz hsz1
  clear hx hsz1
  have hl0 : w.heap.size < wx.heap.size := by omega
  rw [a1]
  go_wp2_with fail
  refine (vover_any _ _ _ _ _ _ _ _ _ _ _ _ _ _).mono ?_
  rintro e wx ⟨rfl, hx⟩
  have hsz1 := Ext.size hx
  replace c0 := (Ext.cell hx (by dsimp only; omega)).trans c0
  replace c1 := (Ext.cell hx (by dsimp only; omega)).trans c1
  replace c2 := (Ext.cell hx (by dsimp only; omega)).trans c2
  replace c3 := (Ext.cell hx (by dsimp only; omega)).trans c3
  replace c4 := (Ext.cell hx (by dsimp only; omega)).trans c4
  replace c5 := (Ext.cell hx (by dsimp only; omega)).trans c5
  replace c6 := (Ext.cell hx (by dsimp only; omega)).trans c6
  replace c7 := (Ext.cell hx (by dsimp only; omega)).trans c7
  replace c8 := (Ext.cell hx (by dsimp only; omega)).trans c8
  replace c9 := (Ext.cell hx (by dsimp only; omega)).trans c9
  replace c10 := (Ext.cell hx (by dsimp only; omega)).trans c10
  replace c11 := (Ext.cell hx (by dsimp only; omega)).trans c11
  replace hx0 := Ext.trans hx0 hx
  replace hsz := Nat.le_trans hsz hsz1
  clear hx hsz1
  have hl0 : w.heap.size < wx.heap.size := by omega
  rw [a2]
  go_wp2_with fail
  refine (vends_yes _ _ _ _ _ _ _ _ _ _ _ _ _ a4).mono ?_
  rintro e wy ⟨rfl, hx⟩
  have hx9 := Ext.trans hx0 hx
  clear hx
  rw [a3]
  go_wp2_with fail
  go_ret
  exact ⟨rfl, hx9⟩

set_option maxHeartbeats 8000000 in
theorem VoiceEnds_core (fr em ki od at_ gn pn pr ln bo lt cu m : Int) (w : World) (hm : 0 ≤ m ∧ m ≤ 65535) : Calls Try.prog 3 #[.agg #[.int .i64 fr, .int .i64 em, .int .i64 ki, .int .i64 od, .int .i64 at_, .int .i64 gn, .int .i64 pn, .int .i64 pr, .int .i64 ln, .int .i64 bo, .int .i64 lt, .int .i64 cu], .int .u16 m] w fun e w' => e = .returned (.bool true) ∧ Ext w w' := by
  cases h : rightB at_ gn pn ln bo lt cu
  · have hh := Lib.hid h
    clear h
    go_enter Try.func3, Try.ntmps3
    go_wp2_with fail
    refine calls_abs (fun W => Ext w W ∧ w.heap.size + 1 ≤ W.heap.size ∧ W.cell? ⟨w.heap.size, 0, none⟩ = some (.int .i64 fr) ∧ W.cell? ⟨w.heap.size, 1, none⟩ = some (.int .i64 em) ∧ W.cell? ⟨w.heap.size, 2, none⟩ = some (.int .i64 ki) ∧ W.cell? ⟨w.heap.size, 3, none⟩ = some (.int .i64 od) ∧ W.cell? ⟨w.heap.size, 4, none⟩ = some (.int .i64 at_) ∧ W.cell? ⟨w.heap.size, 5, none⟩ = some (.int .i64 gn) ∧ W.cell? ⟨w.heap.size, 6, none⟩ = some (.int .i64 pn) ∧ W.cell? ⟨w.heap.size, 7, none⟩ = some (.int .i64 pr) ∧ W.cell? ⟨w.heap.size, 8, none⟩ = some (.int .i64 ln) ∧ W.cell? ⟨w.heap.size, 9, none⟩ = some (.int .i64 bo) ∧ W.cell? ⟨w.heap.size, 10, none⟩ = some (.int .i64 lt) ∧ W.cell? ⟨w.heap.size, 11, none⟩ = some (.int .i64 cu)) (by refine ⟨by (repeat' (first | (with_reducible assumption) | (with_reducible exact Ext.refl _) | (with_reducible refine Ext.grow ?_ _) | (with_reducible refine Ext.drew ?_) | (with_reducible refine Ext.set ?_ ?_ _) | omega | (simp; done) | (simp; omega) | (refine Ext.trans ?_ (by assumption)))), by first | (with_reducible assumption) | (simp; done) | (simp; omega), ?_, ?_, ?_, ?_, ?_, ?_, ?_, ?_, ?_, ?_, ?_, ?_⟩ <;> first | (with_reducible assumption) | (go_simp; done) | (simp; omega)) ?_
    (try clear hx0)
    (try clear hsz)
    (try clear c0)
    (try clear c1)
    (try clear c2)
    (try clear c3)
    (try clear c4)
    (try clear c5)
    (try clear c6)
    (try clear c7)
    (try clear c8)
    (try clear c9)
    (try clear c10)
    (try clear c11)
    rintro W ⟨hx0, hsz, c0, c1, c2, c3, c4, c5, c6, c7, c8, c9, c10, c11⟩
    refine (awake19 _).mono ?_
    rintro e wx ⟨rfl, hx⟩
    have hsz1 := Ext.size hx
    replace c0 := (Ext.cell hx (by dsimp only; omega)).trans c0
    replace c1 := (Ext.cell hx (by dsimp only; omega)).trans c1
    replace c2 := (Ext.cell hx (by dsimp only; omega)).trans c2
    replace c3 := (Ext.cell hx (by dsimp only; omega)).trans c3
    replace c4 := (Ext.cell hx (by dsimp only; omega)).trans c4
    replace c5 := (Ext.cell hx (by dsimp only; omega)).trans c5
    replace c6 := (Ext.cell hx (by dsimp only; omega)).trans c6
    replace c7 := (Ext.cell hx (by dsimp only; omega)).trans c7
    replace c8 := (Ext.cell hx (by dsimp only; omega)).trans c8
    replace c9 := (Ext.cell hx (by dsimp only; omega)).trans c9
    replace c10 := (Ext.cell hx (by dsimp only; omega)).trans c10
    replace c11 := (Ext.cell hx (by dsimp only; omega)).trans c11
    replace hx0 := Ext.trans hx0 hx
    replace hsz := Nat.le_trans hsz hsz1
    clear hx hsz1
    have hl0 : w.heap.size < wx.heap.size := by omega
    go_wp2_with fail
    refine (vends_no _ _ _ _ _ _ _ _ _ _ _ _ _ hh.out).mono ?_
    rintro e wx ⟨rfl, hx⟩
    have hsz1 := Ext.size hx
    replace c0 := (Ext.cell hx (by dsimp only; omega)).trans c0
    replace c1 := (Ext.cell hx (by dsimp only; omega)).trans c1
    replace c2 := (Ext.cell hx (by dsimp only; omega)).trans c2
    replace c3 := (Ext.cell hx (by dsimp only; omega)).trans c3
    replace c4 := (Ext.cell hx (by dsimp only; omega)).trans c4
    replace c5 := (Ext.cell hx (by dsimp only; omega)).trans c5
    replace c6 := (Ext.cell hx (by dsimp only; omega)).trans c6
    replace c7 := (Ext.cell hx (by dsimp only; omega)).trans c7
    replace c8 := (Ext.cell hx (by dsimp only; omega)).trans c8
    replace c9 := (Ext.cell hx (by dsimp only; omega)).trans c9
    replace c10 := (Ext.cell hx (by dsimp only; omega)).trans c10
    replace c11 := (Ext.cell hx (by dsimp only; omega)).trans c11
    replace hx0 := Ext.trans hx0 hx
    replace hsz := Nat.le_trans hsz hsz1
    clear hx hsz1 hl0
    have hl0 : w.heap.size < wx.heap.size := by omega
    go_wp2_with fail
    refine (rright_any _ _ _ _ _ _ _ _ _ _ _ _ _).mono ?_
    rintro e wx ⟨rfl, hx⟩
    have hsz1 := Ext.size hx
    replace c0 := (Ext.cell hx (by dsimp only; omega)).trans c0
    replace c1 := (Ext.cell hx (by dsimp only; omega)).trans c1
    replace c2 := (Ext.cell hx (by dsimp only; omega)).trans c2
    replace c3 := (Ext.cell hx (by dsimp only; omega)).trans c3
    replace c4 := (Ext.cell hx (by dsimp only; omega)).trans c4
    replace c5 := (Ext.cell hx (by dsimp only; omega)).trans c5
    replace c6 := (Ext.cell hx (by dsimp only; omega)).trans c6
    replace c7 := (Ext.cell hx (by dsimp only; omega)).trans c7
    replace c8 := (Ext.cell hx (by dsimp only; omega)).trans c8
    replace c9 := (Ext.cell hx (by dsimp only; omega)).trans c9
    replace c10 := (Ext.cell hx (by dsimp only; omega)).trans c10
    replace c11 := (Ext.cell hx (by dsimp only; omega)).trans c11
    replace hx0 := Ext.trans hx0 hx
    replace hsz := Nat.le_trans hsz hsz1
    clear hx hsz1
    have hl0 : w.heap.size < wx.heap.size := by omega
    rw [hh.out]
    go_wp2_with fail
    go_ret
    exact ⟨rfl, hx0⟩
  obtain ⟨f1, f2, f3, f4, f5⟩ := right_facts h
  have f6 := lenF_bd f1 f2
  have n1 : bo ≤ endF at_ ln bo lt cu ∧ endF at_ ln bo lt cu ≤ 1099511700000 := by unfold endF; split <;> omega
  have ho : ∀ t, 0 ≤ t → t ≤ 2199023255552 → endF at_ ln bo lt cu ≤ t → overB at_ gn pn ln bo lt cu t = true := by
    intro t t1 t2 t3
    unfold overB atB
    rw [h, within_iff.2 ⟨t1, t2⟩, decide_eq_true (show bo ≤ t by omega), decide_eq_true t3]; rfl
  have hs : ∀ t, 0 ≤ t → t ≤ 2199023255552 → bo ≤ t → t < endF at_ ln bo lt cu → soundsB at_ gn pn ln bo lt cu t = true := by
    intro t t1 t2 t3 t4
    unfold soundsB atB
    rw [h, within_iff.2 ⟨t1, t2⟩, decide_eq_true t3, decide_eq_true t4]; rfl
  have hq : ∀ t, (t < bo ∨ endF at_ ln bo lt cu ≤ t) → soundsB at_ gn pn ln bo lt cu t = false := by
    intro t t1
    unfold soundsB
    have : (decide (bo ≤ t) && decide (t < endF at_ ln bo lt cu)) = false := by rw [Bool.and_eq_false_iff, decide_eq_false_iff_not, decide_eq_false_iff_not]; omega
    rw [this, Bool.and_false]
  have o1 := Lib.hid (ho (endF at_ ln bo lt cu) (by omega) (by omega) (by omega))
  have o2 := Lib.hid (ho (endF at_ ln bo lt cu + m) (by omega) (by omega) (by omega))
  have s2 := Lib.hid (hq (endF at_ ln bo lt cu + m) (by omega))
  have s3 := Lib.hid (hq (bo - 1) (by omega))
  have s1 := Lib.hid hs
  have hh := Lib.hid h
  have hr := Lib.hid h
  clear ho hs hq h
  by_cases g : bo < endF at_ ln bo lt cu
  · have s4 := Lib.hid (s1.out (endF at_ ln bo lt cu - 1) (by omega) (by omega) (by omega) (by omega))
    clear s1
    by_cases z : bo = 0
    · have z1 : (bo == 0) = true := beq_iff_eq.2 z
      have zz := Lib.hid z
      clear z
      go_enter Try.func3, Try.ntmps3
      go_wp2_with fail
      refine calls_abs (fun W => Ext w W ∧ w.heap.size + 1 ≤ W.heap.size ∧ W.cell? ⟨w.heap.size, 0, none⟩ = some (.int .i64 fr) ∧ W.cell? ⟨w.heap.size, 1, none⟩ = some (.int .i64 em) ∧ W.cell? ⟨w.heap.size, 2, none⟩ = some (.int .i64 ki) ∧ W.cell? ⟨w.heap.size, 3, none⟩ = some (.int .i64 od) ∧ W.cell? ⟨w.heap.size, 4, none⟩ = some (.int .i64 at_) ∧ W.cell? ⟨w.heap.size, 5, none⟩ = some (.int .i64 gn) ∧ W.cell? ⟨w.heap.size, 6, none⟩ = some (.int .i64 pn) ∧ W.cell? ⟨w.heap.size, 7, none⟩ = some (.int .i64 pr) ∧ W.cell? ⟨w.heap.size, 8, none⟩ = some (.int .i64 ln) ∧ W.cell? ⟨w.heap.size, 9, none⟩ = some (.int .i64 bo) ∧ W.cell? ⟨w.heap.size, 10, none⟩ = some (.int .i64 lt) ∧ W.cell? ⟨w.heap.size, 11, none⟩ = some (.int .i64 cu)) (by refine ⟨by (repeat' (first | (with_reducible assumption) | (with_reducible exact Ext.refl _) | (with_reducible refine Ext.grow ?_ _) | (with_reducible refine Ext.drew ?_) | (with_reducible refine Ext.set ?_ ?_ _) | omega | (simp; done) | (simp; omega) | (refine Ext.trans ?_ (by assumption)))), by first | (with_reducible assumption) | (simp; done) | (simp; omega), ?_, ?_, ?_, ?_, ?_, ?_, ?_, ?_, ?_, ?_, ?_, ?_⟩ <;> first | (with_reducible assumption) | (go_simp; done) | (simp; omega)) ?_
      (try clear hx0)
      (try clear hsz)
      (try clear c0)
      (try clear c1)
      (try clear c2)
      (try clear c3)
      (try clear c4)
      (try clear c5)
      (try clear c6)
      (try clear c7)
      (try clear c8)
      (try clear c9)
      (try clear c10)
      (try clear c11)
      rintro W ⟨hx0, hsz, c0, c1, c2, c3, c4, c5, c6, c7, c8, c9, c10, c11⟩
      refine (awake19 _).mono ?_
      rintro e wx ⟨rfl, hx⟩
      have hsz1 := Ext.size hx
      replace c0 := (Ext.cell hx (by dsimp only; omega)).trans c0
      replace c1 := (Ext.cell hx (by dsimp only; omega)).trans c1
      replace c2 := (Ext.cell hx (by dsimp only; omega)).trans c2
      replace c3 := (Ext.cell hx (by dsimp only; omega)).trans c3
      replace c4 := (Ext.cell hx (by dsimp only; omega)).trans c4
      replace c5 := (Ext.cell hx (by dsimp only; omega)).trans c5
      replace c6 := (Ext.cell hx (by dsimp only; omega)).trans c6
      replace c7 := (Ext.cell hx (by dsimp only; omega)).trans c7
      replace c8 := (Ext.cell hx (by dsimp only; omega)).trans c8
      replace c9 := (Ext.cell hx (by dsimp only; omega)).trans c9
      replace c10 := (Ext.cell hx (by dsimp only; omega)).trans c10
      replace c11 := (Ext.cell hx (by dsimp only; omega)).trans c11
      replace hx0 := Ext.trans hx0 hx
      replace hsz := Nat.le_trans hsz hsz1
      clear hx hsz1
      have hl0 : w.heap.size < wx.heap.size := by omega
      go_wp2_with fail
      refine (vends_yes _ _ _ _ _ _ _ _ _ _ _ _ _ hr.out).mono ?_
      rintro e wx ⟨rfl, hx⟩
      have hsz1 := Ext.size hx
      replace c0 := (Ext.cell hx (by dsimp only; omega)).trans c0
      replace c1 := (Ext.cell hx (by dsimp only; omega)).trans c1
      replace c2 := (Ext.cell hx (by dsimp only; omega)).trans c2
      replace c3 := (Ext.cell hx (by dsimp only; omega)).trans c3
      replace c4 := (Ext.cell hx (by dsimp only; omega)).trans c4
      replace c5 := (Ext.cell hx (by dsimp only; omega)).trans c5
      replace c6 := (Ext.cell hx (by dsimp only; omega)).trans c6
      replace c7 := (Ext.cell hx (by dsimp only; omega)).trans c7
      replace c8 := (Ext.cell hx (by dsimp only; omega)).trans c8
      replace c9 := (Ext.cell hx (by dsimp only; omega)).trans c9
      replace c10 := (Ext.cell hx (by dsimp only; omega)).trans c10
      replace c11 := (Ext.cell hx (by dsimp only; omega)).trans c11
      replace hx0 := Ext.trans hx0 hx
      replace hsz := Nat.le_trans hsz hsz1
      clear hx hsz1 hl0
      have hl0 : w.heap.size < wx.heap.size := by omega
      go_wp2_with fail
      refine (rright_any _ _ _ _ _ _ _ _ _ _ _ _ _).mono ?_
      rintro e wx ⟨rfl, hx⟩
      have hsz1 := Ext.size hx
      replace c0 := (Ext.cell hx (by dsimp only; omega)).trans c0
      replace c1 := (Ext.cell hx (by dsimp only; omega)).trans c1
      replace c2 := (Ext.cell hx (by dsimp only; omega)).trans c2
      replace c3 := (Ext.cell hx (by dsimp only; omega)).trans c3
      replace c4 := (Ext.cell hx (by dsimp only; omega)).trans c4
      replace c5 := (Ext.cell hx (by dsimp only; omega)).trans c5
      replace c6 := (Ext.cell hx (by dsimp only; omega)).trans c6
      replace c7 := (Ext.cell hx (by dsimp only; omega)).trans c7
      replace c8 := (Ext.cell hx (by dsimp only; omega)).trans c8
      replace c9 := (Ext.cell hx (by dsimp only; omega)).trans c9
      replace c10 := (Ext.cell hx (by dsimp only; omega)).trans c10
      replace c11 := (Ext.cell hx (by dsimp only; omega)).trans c11
      replace hx0 := Ext.trans hx0 hx
      replace hsz := Nat.le_trans hsz hsz1
      clear hx hsz1
      have hl0 : w.heap.size < wx.heap.size := by omega
      rw [hh.out]
      go_wp2_with fail
      refine (rover_any _ _ _ _ _ _ _ _ _ _ _ _ _ _).mono ?_
      rintro e wx ⟨rfl, hx⟩
      have hsz1 := Ext.size hx
      replace c0 := (Ext.cell hx (by dsimp only; omega)).trans c0
      replace c1 := (Ext.cell hx (by dsimp only; omega)).trans c1
      replace c2 := (Ext.cell hx (by dsimp only; omega)).trans c2
      replace c3 := (Ext.cell hx (by dsimp only; omega)).trans c3
      replace c4 := (Ext.cell hx (by dsimp only; omega)).trans c4
      replace c5 := (Ext.cell hx (by dsimp only; omega)).trans c5
      replace c6 := (Ext.cell hx (by dsimp only; omega)).trans c6
      replace c7 := (Ext.cell hx (by dsimp only; omega)).trans c7
      replace c8 := (Ext.cell hx (by dsimp only; omega)).trans c8
      replace c9 := (Ext.cell hx (by dsimp only; omega)).trans c9
      replace c10 := (Ext.cell hx (by dsimp only; omega)).trans c10
      replace c11 := (Ext.cell hx (by dsimp only; omega)).trans c11
      replace hx0 := Ext.trans hx0 hx
      replace hsz := Nat.le_trans hsz hsz1
      clear hx hsz1
      have hl0 : w.heap.size < wx.heap.size := by omega
      rw [o1.out]
      go_wp2_with fail
      refine (rsounds_any _ _ _ _ _ _ _ _ _ _ _ _ _ _).mono ?_
      rintro e wx ⟨rfl, hx⟩
      have hsz1 := Ext.size hx
      replace c0 := (Ext.cell hx (by dsimp only; omega)).trans c0
      replace c1 := (Ext.cell hx (by dsimp only; omega)).trans c1
      replace c2 := (Ext.cell hx (by dsimp only; omega)).trans c2
      replace c3 := (Ext.cell hx (by dsimp only; omega)).trans c3
      replace c4 := (Ext.cell hx (by dsimp only; omega)).trans c4
      replace c5 := (Ext.cell hx (by dsimp only; omega)).trans c5
      replace c6 := (Ext.cell hx (by dsimp only; omega)).trans c6
      replace c7 := (Ext.cell hx (by dsimp only; omega)).trans c7
      replace c8 := (Ext.cell hx (by dsimp only; omega)).trans c8
      replace c9 := (Ext.cell hx (by dsimp only; omega)).trans c9
      replace c10 := (Ext.cell hx (by dsimp only; omega)).trans c10
      replace c11 := (Ext.cell hx (by dsimp only; omega)).trans c11
      replace hx0 := Ext.trans hx0 hx
      replace hsz := Nat.le_trans hsz hsz1
      clear hx hsz1
      have hl0 : w.heap.size < wx.heap.size := by omega
      rw [s4.out]
      go_wp2_with fail
      refine (vover_any _ _ _ _ _ _ _ _ _ _ _ _ _ _).mono ?_
      rintro e wx ⟨rfl, hx⟩
      have hsz1 := Ext.size hx
      replace c0 := (Ext.cell hx (by dsimp only; omega)).trans c0
      replace c1 := (Ext.cell hx (by dsimp only; omega)).trans c1
      replace c2 := (Ext.cell hx (by dsimp only; omega)).trans c2
      replace c3 := (Ext.cell hx (by dsimp only; omega)).trans c3
      replace c4 := (Ext.cell hx (by dsimp only; omega)).trans c4
      replace c5 := (Ext.cell hx (by dsimp only; omega)).trans c5
      replace c6 := (Ext.cell hx (by dsimp only; omega)).trans c6
      replace c7 := (Ext.cell hx (by dsimp only; omega)).trans c7
      replace c8 := (Ext.cell hx (by dsimp only; omega)).trans c8
      replace c9 := (Ext.cell hx (by dsimp only; omega)).trans c9
      replace c10 := (Ext.cell hx (by dsimp only; omega)).trans c10
      replace c11 := (Ext.cell hx (by dsimp only; omega)).trans c11
      replace hx0 := Ext.trans hx0 hx
      replace hsz := Nat.le_trans hsz hsz1
      clear hx hsz1
      have hl0 : w.heap.size < wx.heap.size := by omega
      rw [o2.out]
      go_wp2_with fail
      refine (vsounds_any _ _ _ _ _ _ _ _ _ _ _ _ _ _).mono ?_
      rintro e wx ⟨rfl, hx⟩
      have hsz1 := Ext.size hx
      replace c0 := (Ext.cell hx (by dsimp only; omega)).trans c0
      replace c1 := (Ext.cell hx (by dsimp only; omega)).trans c1
      replace c2 := (Ext.cell hx (by dsimp only; omega)).trans c2
      replace c3 := (Ext.cell hx (by dsimp only; omega)).trans c3
      replace c4 := (Ext.cell hx (by dsimp only; omega)).trans c4
      replace c5 := (Ext.cell hx (by dsimp only; omega)).trans c5
      replace c6 := (Ext.cell hx (by dsimp only; omega)).trans c6
      replace c7 := (Ext.cell hx (by dsimp only; omega)).trans c7
      replace c8 := (Ext.cell hx (by dsimp only; omega)).trans c8
      replace c9 := (Ext.cell hx (by dsimp only; omega)).trans c9
      replace c10 := (Ext.cell hx (by dsimp only; omega)).trans c10
      replace c11 := (Ext.cell hx (by dsimp only; omega)).trans c11
      replace hx0 := Ext.trans hx0 hx
      replace hsz := Nat.le_trans hsz hsz1
      clear hx hsz1
      have hl0 : w.heap.size < wx.heap.size := by omega
      rw [s2.out]
      go_wp2_with fail
      go_ret
      exact ⟨rfl, hx0⟩
    · have z1 : (bo == 0) = false := beq_eq_false_iff_ne.2 z
      have zz := Lib.hid z
      clear z
      go_enter Try.func3, Try.ntmps3
      go_wp2_with fail
      refine calls_abs (fun W => Ext w W ∧ w.heap.size + 1 ≤ W.heap.size ∧ W.cell? ⟨w.heap.size, 0, none⟩ = some (.int .i64 fr) ∧ W.cell? ⟨w.heap.size, 1, none⟩ = some (.int .i64 em) ∧ W.cell? ⟨w.heap.size, 2, none⟩ = some (.int .i64 ki) ∧ W.cell? ⟨w.heap.size, 3, none⟩ = some (.int .i64 od) ∧ W.cell? ⟨w.heap.size, 4, none⟩ = some (.int .i64 at_) ∧ W.cell? ⟨w.heap.size, 5, none⟩ = some (.int .i64 gn) ∧ W.cell? ⟨w.heap.size, 6, none⟩ = some (.int .i64 pn) ∧ W.cell? ⟨w.heap.size, 7, none⟩ = some (.int .i64 pr) ∧ W.cell? ⟨w.heap.size, 8, none⟩ = some (.int .i64 ln) ∧ W.cell? ⟨w.heap.size, 9, none⟩ = some (.int .i64 bo) ∧ W.cell? ⟨w.heap.size, 10, none⟩ = some (.int .i64 lt) ∧ W.cell? ⟨w.heap.size, 11, none⟩ = some (.int .i64 cu)) (by refine ⟨by (repeat' (first | (with_reducible assumption) | (with_reducible exact Ext.refl _) | (with_reducible refine Ext.grow ?_ _) | (with_reducible refine Ext.drew ?_) | (with_reducible refine Ext.set ?_ ?_ _) | omega | (simp; done) | (simp; omega) | (refine Ext.trans ?_ (by assumption)))), by first | (with_reducible assumption) | (simp; done) | (simp; omega), ?_, ?_, ?_, ?_, ?_, ?_, ?_, ?_, ?_, ?_, ?_, ?_⟩ <;> first | (with_reducible assumption) | (go_simp; done) | (simp; omega)) ?_
      (try clear hx0)
      (try clear hsz)
      (try clear c0)
      (try clear c1)
      (try clear c2)
      (try clear c3)
      (try clear c4)
      (try clear c5)
      (try clear c6)
      (try clear c7)
      (try clear c8)
      (try clear c9)
      (try clear c10)
      (try clear c11)
      rintro W ⟨hx0, hsz, c0, c1, c2, c3, c4, c5, c6, c7, c8, c9, c10, c11⟩
      refine (awake19 _).mono ?_
      rintro e wx ⟨rfl, hx⟩
      have hsz1 := Ext.size hx
      replace c0 := (Ext.cell hx (by dsimp only; omega)).trans c0
      replace c1 := (Ext.cell hx (by dsimp only; omega)).trans c1
      replace c2 := (Ext.cell hx (by dsimp only; omega)).trans c2
      replace c3 := (Ext.cell hx (by dsimp only; omega)).trans c3
      replace c4 := (Ext.cell hx (by dsimp only; omega)).trans c4
      replace c5 := (Ext.cell hx (by dsimp only; omega)).trans c5
      replace c6 := (Ext.cell hx (by dsimp only; omega)).trans c6
      replace c7 := (Ext.cell hx (by dsimp only; omega)).trans c7
      replace c8 := (Ext.cell hx (by dsimp only; omega)).trans c8
      replace c9 := (Ext.cell hx (by dsimp only; omega)).trans c9
      replace c10 := (Ext.cell hx (by dsimp only; omega)).trans c10
      replace c11 := (Ext.cell hx (by dsimp only; omega)).trans c11
      replace hx0 := Ext.trans hx0 hx
      replace hsz := Nat.le_trans hsz hsz1
      clear hx hsz1
      have hl0 : w.heap.size < wx.heap.size := by omega
      go_wp2_with fail
      refine (vends_yes _ _ _ _ _ _ _ _ _ _ _ _ _ hr.out).mono ?_
      rintro e wx ⟨rfl, hx⟩
      have hsz1 := Ext.size hx
      replace c0 := (Ext.cell hx (by dsimp only; omega)).trans c0
      replace c1 := (Ext.cell hx (by dsimp only; omega)).trans c1
      replace c2 := (Ext.cell hx (by dsimp only; omega)).trans c2
      replace c3 := (Ext.cell hx (by dsimp only; omega)).trans c3
      replace c4 := (Ext.cell hx (by dsimp only; omega)).trans c4
      replace c5 := (Ext.cell hx (by dsimp only; omega)).trans c5
      replace c6 := (Ext.cell hx (by dsimp only; omega)).trans c6
      replace c7 := (Ext.cell hx (by dsimp only; omega)).trans c7
      replace c8 := (Ext.cell hx (by dsimp only; omega)).trans c8
      replace c9 := (Ext.cell hx (by dsimp only; omega)).trans c9
      replace c10 := (Ext.cell hx (by dsimp only; omega)).trans c10
      replace c11 := (Ext.cell hx (by dsimp only; omega)).trans c11
      replace hx0 := Ext.trans hx0 hx
      replace hsz := Nat.le_trans hsz hsz1
      clear hx hsz1 hl0
      have hl0 : w.heap.size < wx.heap.size := by omega
      go_wp2_with fail
      refine (rright_any _ _ _ _ _ _ _ _ _ _ _ _ _).mono ?_
      rintro e wx ⟨rfl, hx⟩
      have hsz1 := Ext.size hx
      replace c0 := (Ext.cell hx (by dsimp only; omega)).trans c0
      replace c1 := (Ext.cell hx (by dsimp only; omega)).trans c1
      replace c2 := (Ext.cell hx (by dsimp only; omega)).trans c2
      replace c3 := (Ext.cell hx (by dsimp only; omega)).trans c3
      replace c4 := (Ext.cell hx (by dsimp only; omega)).trans c4
      replace c5 := (Ext.cell hx (by dsimp only; omega)).trans c5
      replace c6 := (Ext.cell hx (by dsimp only; omega)).trans c6
      replace c7 := (Ext.cell hx (by dsimp only; omega)).trans c7
      replace c8 := (Ext.cell hx (by dsimp only; omega)).trans c8
      replace c9 := (Ext.cell hx (by dsimp only; omega)).trans c9
      replace c10 := (Ext.cell hx (by dsimp only; omega)).trans c10
      replace c11 := (Ext.cell hx (by dsimp only; omega)).trans c11
      replace hx0 := Ext.trans hx0 hx
      replace hsz := Nat.le_trans hsz hsz1
      clear hx hsz1
      have hl0 : w.heap.size < wx.heap.size := by omega
      rw [hh.out]
      go_wp2_with fail
      refine (rover_any _ _ _ _ _ _ _ _ _ _ _ _ _ _).mono ?_
      rintro e wx ⟨rfl, hx⟩
      have hsz1 := Ext.size hx
      replace c0 := (Ext.cell hx (by dsimp only; omega)).trans c0
      replace c1 := (Ext.cell hx (by dsimp only; omega)).trans c1
      replace c2 := (Ext.cell hx (by dsimp only; omega)).trans c2
      replace c3 := (Ext.cell hx (by dsimp only; omega)).trans c3
      replace c4 := (Ext.cell hx (by dsimp only; omega)).trans c4
      replace c5 := (Ext.cell hx (by dsimp only; omega)).trans c5
      replace c6 := (Ext.cell hx (by dsimp only; omega)).trans c6
      replace c7 := (Ext.cell hx (by dsimp only; omega)).trans c7
      replace c8 := (Ext.cell hx (by dsimp only; omega)).trans c8
      replace c9 := (Ext.cell hx (by dsimp only; omega)).trans c9
      replace c10 := (Ext.cell hx (by dsimp only; omega)).trans c10
      replace c11 := (Ext.cell hx (by dsimp only; omega)).trans c11
      replace hx0 := Ext.trans hx0 hx
      replace hsz := Nat.le_trans hsz hsz1
      clear hx hsz1
      have hl0 : w.heap.size < wx.heap.size := by omega
      rw [o1.out]
      go_wp2_with fail
      refine (rsounds_any _ _ _ _ _ _ _ _ _ _ _ _ _ _).mono ?_
      rintro e wx ⟨rfl, hx⟩
      have hsz1 := Ext.size hx
      replace c0 := (Ext.cell hx (by dsimp only; omega)).trans c0
      replace c1 := (Ext.cell hx (by dsimp only; omega)).trans c1
      replace c2 := (Ext.cell hx (by dsimp only; omega)).trans c2
      replace c3 := (Ext.cell hx (by dsimp only; omega)).trans c3
      replace c4 := (Ext.cell hx (by dsimp only; omega)).trans c4
      replace c5 := (Ext.cell hx (by dsimp only; omega)).trans c5
      replace c6 := (Ext.cell hx (by dsimp only; omega)).trans c6
      replace c7 := (Ext.cell hx (by dsimp only; omega)).trans c7
      replace c8 := (Ext.cell hx (by dsimp only; omega)).trans c8
      replace c9 := (Ext.cell hx (by dsimp only; omega)).trans c9
      replace c10 := (Ext.cell hx (by dsimp only; omega)).trans c10
      replace c11 := (Ext.cell hx (by dsimp only; omega)).trans c11
      replace hx0 := Ext.trans hx0 hx
      replace hsz := Nat.le_trans hsz hsz1
      clear hx hsz1
      have hl0 : w.heap.size < wx.heap.size := by omega
      rw [s4.out]
      go_wp2_with fail
      refine (vover_any _ _ _ _ _ _ _ _ _ _ _ _ _ _).mono ?_
      rintro e wx ⟨rfl, hx⟩
      have hsz1 := Ext.size hx
      replace c0 := (Ext.cell hx (by dsimp only; omega)).trans c0
      replace c1 := (Ext.cell hx (by dsimp only; omega)).trans c1
      replace c2 := (Ext.cell hx (by dsimp only; omega)).trans c2
      replace c3 := (Ext.cell hx (by dsimp only; omega)).trans c3
      replace c4 := (Ext.cell hx (by dsimp only; omega)).trans c4
      replace c5 := (Ext.cell hx (by dsimp only; omega)).trans c5
      replace c6 := (Ext.cell hx (by dsimp only; omega)).trans c6
      replace c7 := (Ext.cell hx (by dsimp only; omega)).trans c7
      replace c8 := (Ext.cell hx (by dsimp only; omega)).trans c8
      replace c9 := (Ext.cell hx (by dsimp only; omega)).trans c9
      replace c10 := (Ext.cell hx (by dsimp only; omega)).trans c10
      replace c11 := (Ext.cell hx (by dsimp only; omega)).trans c11
      replace hx0 := Ext.trans hx0 hx
      replace hsz := Nat.le_trans hsz hsz1
      clear hx hsz1
      have hl0 : w.heap.size < wx.heap.size := by omega
      rw [o2.out]
      go_wp2_with fail
      refine (vsounds_any _ _ _ _ _ _ _ _ _ _ _ _ _ _).mono ?_
      rintro e wx ⟨rfl, hx⟩
      have hsz1 := Ext.size hx
      replace c0 := (Ext.cell hx (by dsimp only; omega)).trans c0
      replace c1 := (Ext.cell hx (by dsimp only; omega)).trans c1
      replace c2 := (Ext.cell hx (by dsimp only; omega)).trans c2
      replace c3 := (Ext.cell hx (by dsimp only; omega)).trans c3
      replace c4 := (Ext.cell hx (by dsimp only; omega)).trans c4
      replace c5 := (Ext.cell hx (by dsimp only; omega)).trans c5
      replace c6 := (Ext.cell hx (by dsimp only; omega)).trans c6
      replace c7 := (Ext.cell hx (by dsimp only; omega)).trans c7
      replace c8 := (Ext.cell hx (by dsimp only; omega)).trans c8
      replace c9 := (Ext.cell hx (by dsimp only; omega)).trans c9
      replace c10 := (Ext.cell hx (by dsimp only; omega)).trans c10
      replace c11 := (Ext.cell hx (by dsimp only; omega)).trans c11
      replace hx0 := Ext.trans hx0 hx
      replace hsz := Nat.le_trans hsz hsz1
      clear hx hsz1
      have hl0 : w.heap.size < wx.heap.size := by omega
      rw [s2.out]
      go_wp2_with fail
      refine (vsounds_any _ _ _ _ _ _ _ _ _ _ _ _ _ _).mono ?_
      rintro e wx ⟨rfl, hx⟩
      have hsz1 := Ext.size hx
      replace c0 := (Ext.cell hx (by dsimp only; omega)).trans c0
      replace c1 := (Ext.cell hx (by dsimp only; omega)).trans c1
      replace c2 := (Ext.cell hx (by dsimp only; omega)).trans c2
      replace c3 := (Ext.cell hx (by dsimp only; omega)).trans c3
      replace c4 := (Ext.cell hx (by dsimp only; omega)).trans c4
      replace c5 := (Ext.cell hx (by dsimp only; omega)).trans c5
      replace c6 := (Ext.cell hx (by dsimp only; omega)).trans c6
      replace c7 := (Ext.cell hx (by dsimp only; omega)).trans c7
      replace c8 := (Ext.cell hx (by dsimp only; omega)).trans c8
      replace c9 := (Ext.cell hx (by dsimp only; omega)).trans c9
      replace c10 := (Ext.cell hx (by dsimp only; omega)).trans c10
      replace c11 := (Ext.cell hx (by dsimp only; omega)).trans c11
      replace hx0 := Ext.trans hx0 hx
      replace hsz := Nat.le_trans hsz hsz1
      clear hx hsz1
      have hl0 : w.heap.size < wx.heap.size := by omega
      rw [s3.out]
      go_wp2_with fail
      go_ret
      exact ⟨rfl, hx0⟩
  · have s4 := trivial
    clear s1
    by_cases z : bo = 0
    · have z1 : (bo == 0) = true := beq_iff_eq.2 z
      have zz := Lib.hid z
      clear z
      go_enter Try.func3, Try.ntmps3
      go_wp2_with fail
      refine calls_abs (fun W => Ext w W ∧ w.heap.size + 1 ≤ W.heap.size ∧ W.cell? ⟨w.heap.size, 0, none⟩ = some (.int .i64 fr) ∧ W.cell? ⟨w.heap.size, 1, none⟩ = some (.int .i64 em) ∧ W.cell? ⟨w.heap.size, 2, none⟩ = some (.int .i64 ki) ∧ W.cell? ⟨w.heap.size, 3, none⟩ = some (.int .i64 od) ∧ W.cell? ⟨w.heap.size, 4, none⟩ = some (.int .i64 at_) ∧ W.cell? ⟨w.heap.size, 5, none⟩ = some (.int .i64 gn) ∧ W.cell? ⟨w.heap.size, 6, none⟩ = some (.int .i64 pn) ∧ W.cell? ⟨w.heap.size, 7, none⟩ = some (.int .i64 pr) ∧ W.cell? ⟨w.heap.size, 8, none⟩ = some (.int .i64 ln) ∧ W.cell? ⟨w.heap.size, 9, none⟩ = some (.int .i64 bo) ∧ W.cell? ⟨w.heap.size, 10, none⟩ = some (.int .i64 lt) ∧ W.cell? ⟨w.heap.size, 11, none⟩ = some (.int .i64 cu)) (by refine ⟨by (repeat' (first | (with_reducible assumption) | (with_reducible exact Ext.refl _) | (with_reducible refine Ext.grow ?_ _) | (with_reducible refine Ext.drew ?_) | (with_reducible refine Ext.set ?_ ?_ _) | omega | (simp; done) | (simp; omega) | (refine Ext.trans ?_ (by assumption)))), by first | (with_reducible assumption) | (simp; done) | (simp; omega), ?_, ?_, ?_, ?_, ?_, ?_, ?_, ?_, ?_, ?_, ?_, ?_⟩ <;> first | (with_reducible assumption) | (go_simp; done) | (simp; omega)) ?_
      (try clear hx0)
      (try clear hsz)
      (try clear c0)
      (try clear c1)
      (try clear c2)
      (try clear c3)
      (try clear c4)
      (try clear c5)
      (try clear c6)
      (try clear c7)
      (try clear c8)
      (try clear c9)
      (try clear c10)
      (try clear c11)
      rintro W ⟨hx0, hsz, c0, c1, c2, c3, c4, c5, c6, c7, c8, c9, c10, c11⟩
      refine (awake19 _).mono ?_
      rintro e wx ⟨rfl, hx⟩
      have hsz1 := Ext.size hx
      replace c0 := (Ext.cell hx (by dsimp only; omega)).trans c0
      replace c1 := (Ext.cell hx (by dsimp only; omega)).trans c1
      replace c2 := (Ext.cell hx (by dsimp only; omega)).trans c2
      replace c3 := (Ext.cell hx (by dsimp only; omega)).trans c3
      replace c4 := (Ext.cell hx (by dsimp only; omega)).trans c4
      replace c5 := (Ext.cell hx (by dsimp only; omega)).trans c5
      replace c6 := (Ext.cell hx (by dsimp only; omega)).trans c6
      replace c7 := (Ext.cell hx (by dsimp only; omega)).trans c7
      replace c8 := (Ext.cell hx (by dsimp only; omega)).trans c8
      replace c9 := (Ext.cell hx (by dsimp only; omega)).trans c9
      replace c10 := (Ext.cell hx (by dsimp only; omega)).trans c10
      replace c11 := (Ext.cell hx (by dsimp only; omega)).trans c11
      replace hx0 := Ext.trans hx0 hx
      replace hsz := Nat.le_trans hsz hsz1
      clear hx hsz1
      have hl0 : w.heap.size < wx.heap.size := by omega
      go_wp2_with fail
      refine (vends_yes _ _ _ _ _ _ _ _ _ _ _ _ _ hr.out).mono ?_
      rintro e wx ⟨rfl, hx⟩
      have hsz1 := Ext.size hx
      replace c0 := (Ext.cell hx (by dsimp only; omega)).trans c0
      replace c1 := (Ext.cell hx (by dsimp only; omega)).trans c1
      replace c2 := (Ext.cell hx (by dsimp only; omega)).trans c2
      replace c3 := (Ext.cell hx (by dsimp only; omega)).trans c3
      replace c4 := (Ext.cell hx (by dsimp only; omega)).trans c4
      replace c5 := (Ext.cell hx (by dsimp only; omega)).trans c5
      replace c6 := (Ext.cell hx (by dsimp only; omega)).trans c6
      replace c7 := (Ext.cell hx (by dsimp only; omega)).trans c7
      replace c8 := (Ext.cell hx (by dsimp only; omega)).trans c8
      replace c9 := (Ext.cell hx (by dsimp only; omega)).trans c9
      replace c10 := (Ext.cell hx (by dsimp only; omega)).trans c10
      replace c11 := (Ext.cell hx (by dsimp only; omega)).trans c11
      replace hx0 := Ext.trans hx0 hx
      replace hsz := Nat.le_trans hsz hsz1
      clear hx hsz1 hl0
      have hl0 : w.heap.size < wx.heap.size := by omega
      go_wp2_with fail
      refine (rright_any _ _ _ _ _ _ _ _ _ _ _ _ _).mono ?_
      rintro e wx ⟨rfl, hx⟩
      have hsz1 := Ext.size hx
      replace c0 := (Ext.cell hx (by dsimp only; omega)).trans c0
      replace c1 := (Ext.cell hx (by dsimp only; omega)).trans c1
      replace c2 := (Ext.cell hx (by dsimp only; omega)).trans c2
      replace c3 := (Ext.cell hx (by dsimp only; omega)).trans c3
      replace c4 := (Ext.cell hx (by dsimp only; omega)).trans c4
      replace c5 := (Ext.cell hx (by dsimp only; omega)).trans c5
      replace c6 := (Ext.cell hx (by dsimp only; omega)).trans c6
      replace c7 := (Ext.cell hx (by dsimp only; omega)).trans c7
      replace c8 := (Ext.cell hx (by dsimp only; omega)).trans c8
      replace c9 := (Ext.cell hx (by dsimp only; omega)).trans c9
      replace c10 := (Ext.cell hx (by dsimp only; omega)).trans c10
      replace c11 := (Ext.cell hx (by dsimp only; omega)).trans c11
      replace hx0 := Ext.trans hx0 hx
      replace hsz := Nat.le_trans hsz hsz1
      clear hx hsz1
      have hl0 : w.heap.size < wx.heap.size := by omega
      rw [hh.out]
      go_wp2_with fail
      refine (rover_any _ _ _ _ _ _ _ _ _ _ _ _ _ _).mono ?_
      rintro e wx ⟨rfl, hx⟩
      have hsz1 := Ext.size hx
      replace c0 := (Ext.cell hx (by dsimp only; omega)).trans c0
      replace c1 := (Ext.cell hx (by dsimp only; omega)).trans c1
      replace c2 := (Ext.cell hx (by dsimp only; omega)).trans c2
      replace c3 := (Ext.cell hx (by dsimp only; omega)).trans c3
      replace c4 := (Ext.cell hx (by dsimp only; omega)).trans c4
      replace c5 := (Ext.cell hx (by dsimp only; omega)).trans c5
      replace c6 := (Ext.cell hx (by dsimp only; omega)).trans c6
      replace c7 := (Ext.cell hx (by dsimp only; omega)).trans c7
      replace c8 := (Ext.cell hx (by dsimp only; omega)).trans c8
      replace c9 := (Ext.cell hx (by dsimp only; omega)).trans c9
      replace c10 := (Ext.cell hx (by dsimp only; omega)).trans c10
      replace c11 := (Ext.cell hx (by dsimp only; omega)).trans c11
      replace hx0 := Ext.trans hx0 hx
      replace hsz := Nat.le_trans hsz hsz1
      clear hx hsz1
      have hl0 : w.heap.size < wx.heap.size := by omega
      rw [o1.out]
      go_wp2_with fail
      refine (vover_any _ _ _ _ _ _ _ _ _ _ _ _ _ _).mono ?_
      rintro e wx ⟨rfl, hx⟩
      have hsz1 := Ext.size hx
      replace c0 := (Ext.cell hx (by dsimp only; omega)).trans c0
      replace c1 := (Ext.cell hx (by dsimp only; omega)).trans c1
      replace c2 := (Ext.cell hx (by dsimp only; omega)).trans c2
      replace c3 := (Ext.cell hx (by dsimp only; omega)).trans c3
      replace c4 := (Ext.cell hx (by dsimp only; omega)).trans c4
      replace c5 := (Ext.cell hx (by dsimp only; omega)).trans c5
      replace c6 := (Ext.cell hx (by dsimp only; omega)).trans c6
      replace c7 := (Ext.cell hx (by dsimp only; omega)).trans c7
      replace c8 := (Ext.cell hx (by dsimp only; omega)).trans c8
      replace c9 := (Ext.cell hx (by dsimp only; omega)).trans c9
      replace c10 := (Ext.cell hx (by dsimp only; omega)).trans c10
      replace c11 := (Ext.cell hx (by dsimp only; omega)).trans c11
      replace hx0 := Ext.trans hx0 hx
      replace hsz := Nat.le_trans hsz hsz1
      clear hx hsz1
      have hl0 : w.heap.size < wx.heap.size := by omega
      rw [o2.out]
      go_wp2_with fail
      refine (vsounds_any _ _ _ _ _ _ _ _ _ _ _ _ _ _).mono ?_
      rintro e wx ⟨rfl, hx⟩
      have hsz1 := Ext.size hx
      replace c0 := (Ext.cell hx (by dsimp only; omega)).trans c0
      replace c1 := (Ext.cell hx (by dsimp only; omega)).trans c1
      replace c2 := (Ext.cell hx (by dsimp only; omega)).trans c2
      replace c3 := (Ext.cell hx (by dsimp only; omega)).trans c3
      replace c4 := (Ext.cell hx (by dsimp only; omega)).trans c4
      replace c5 := (Ext.cell hx (by dsimp only; omega)).trans c5
      replace c6 := (Ext.cell hx (by dsimp only; omega)).trans c6
      replace c7 := (Ext.cell hx (by dsimp only; omega)).trans c7
      replace c8 := (Ext.cell hx (by dsimp only; omega)).trans c8
      replace c9 := (Ext.cell hx (by dsimp only; omega)).trans c9
      replace c10 := (Ext.cell hx (by dsimp only; omega)).trans c10
      replace c11 := (Ext.cell hx (by dsimp only; omega)).trans c11
      replace hx0 := Ext.trans hx0 hx
      replace hsz := Nat.le_trans hsz hsz1
      clear hx hsz1
      have hl0 : w.heap.size < wx.heap.size := by omega
      rw [s2.out]
      go_wp2_with fail
      go_ret
      exact ⟨rfl, hx0⟩
    · have z1 : (bo == 0) = false := beq_eq_false_iff_ne.2 z
      have zz := Lib.hid z
      clear z
      go_enter Try.func3, Try.ntmps3
      go_wp2_with fail
      refine calls_abs (fun W => Ext w W ∧ w.heap.size + 1 ≤ W.heap.size ∧ W.cell? ⟨w.heap.size, 0, none⟩ = some (.int .i64 fr) ∧ W.cell? ⟨w.heap.size, 1, none⟩ = some (.int .i64 em) ∧ W.cell? ⟨w.heap.size, 2, none⟩ = some (.int .i64 ki) ∧ W.cell? ⟨w.heap.size, 3, none⟩ = some (.int .i64 od) ∧ W.cell? ⟨w.heap.size, 4, none⟩ = some (.int .i64 at_) ∧ W.cell? ⟨w.heap.size, 5, none⟩ = some (.int .i64 gn) ∧ W.cell? ⟨w.heap.size, 6, none⟩ = some (.int .i64 pn) ∧ W.cell? ⟨w.heap.size, 7, none⟩ = some (.int .i64 pr) ∧ W.cell? ⟨w.heap.size, 8, none⟩ = some (.int .i64 ln) ∧ W.cell? ⟨w.heap.size, 9, none⟩ = some (.int .i64 bo) ∧ W.cell? ⟨w.heap.size, 10, none⟩ = some (.int .i64 lt) ∧ W.cell? ⟨w.heap.size, 11, none⟩ = some (.int .i64 cu)) (by refine ⟨by (repeat' (first | (with_reducible assumption) | (with_reducible exact Ext.refl _) | (with_reducible refine Ext.grow ?_ _) | (with_reducible refine Ext.drew ?_) | (with_reducible refine Ext.set ?_ ?_ _) | omega | (simp; done) | (simp; omega) | (refine Ext.trans ?_ (by assumption)))), by first | (with_reducible assumption) | (simp; done) | (simp; omega), ?_, ?_, ?_, ?_, ?_, ?_, ?_, ?_, ?_, ?_, ?_, ?_⟩ <;> first | (with_reducible assumption) | (go_simp; done) | (simp; omega)) ?_
      (try clear hx0)
      (try clear hsz)
      (try clear c0)
      (try clear c1)
      (try clear c2)
      (try clear c3)
      (try clear c4)
      (try clear c5)
      (try clear c6)
      (try clear c7)
      (try clear c8)
      (try clear c9)
      (try clear c10)
      (try clear c11)
      rintro W ⟨hx0, hsz, c0, c1, c2, c3, c4, c5, c6, c7, c8, c9, c10, c11⟩
      refine (awake19 _).mono ?_
      rintro e wx ⟨rfl, hx⟩
      have hsz1 := Ext.size hx
      replace c0 := (Ext.cell hx (by dsimp only; omega)).trans c0
      replace c1 := (Ext.cell hx (by dsimp only; omega)).trans c1
      replace c2 := (Ext.cell hx (by dsimp only; omega)).trans c2
      replace c3 := (Ext.cell hx (by dsimp only; omega)).trans c3
      replace c4 := (Ext.cell hx (by dsimp only; omega)).trans c4
      replace c5 := (Ext.cell hx (by dsimp only; omega)).trans c5
      replace c6 := (Ext.cell hx (by dsimp only; omega)).trans c6
      replace c7 := (Ext.cell hx (by dsimp only; omega)).trans c7
      replace c8 := (Ext.cell hx (by dsimp only; omega)).trans c8
      replace c9 := (Ext.cell hx (by dsimp only; omega)).trans c9
      replace c10 := (Ext.cell hx (by dsimp only; omega)).trans c10
      replace c11 := (Ext.cell hx (by dsimp only; omega)).trans c11
      replace hx0 := Ext.trans hx0 hx
      replace hsz := Nat.le_trans hsz hsz1
      clear hx hsz1
      have hl0 : w.heap.size < wx.heap.size := by omega
      go_wp2_with fail
      refine (vends_yes _ _ _ _ _ _ _ _ _ _ _ _ _ hr.out).mono ?_
      rintro e wx ⟨rfl, hx⟩
      have hsz1 := Ext.size hx
      replace c0 := (Ext.cell hx (by dsimp only; omega)).trans c0
      replace c1 := (Ext.cell hx (by dsimp only; omega)).trans c1
      replace c2 := (Ext.cell hx (by dsimp only; omega)).trans c2
      replace c3 := (Ext.cell hx (by dsimp only; omega)).trans c3
      replace c4 := (Ext.cell hx (by dsimp only; omega)).trans c4
      replace c5 := (Ext.cell hx (by dsimp only; omega)).trans c5
      replace c6 := (Ext.cell hx (by dsimp only; omega)).trans c6
      replace c7 := (Ext.cell hx (by dsimp only; omega)).trans c7
      replace c8 := (Ext.cell hx (by dsimp only; omega)).trans c8
      replace c9 := (Ext.cell hx (by dsimp only; omega)).trans c9
      replace c10 := (Ext.cell hx (by dsimp only; omega)).trans c10
      replace c11 := (Ext.cell hx (by dsimp only; omega)).trans c11
      replace hx0 := Ext.trans hx0 hx
      replace hsz := Nat.le_trans hsz hsz1
      clear hx hsz1 hl0
      have hl0 : w.heap.size < wx.heap.size := by omega
      go_wp2_with fail
      refine (rright_any _ _ _ _ _ _ _ _ _ _ _ _ _).mono ?_
      rintro e wx ⟨rfl, hx⟩
      have hsz1 := Ext.size hx
      replace c0 := (Ext.cell hx (by dsimp only; omega)).trans c0
      replace c1 := (Ext.cell hx (by dsimp only; omega)).trans c1
      replace c2 := (Ext.cell hx (by dsimp only; omega)).trans c2
      replace c3 := (Ext.cell hx (by dsimp only; omega)).trans c3
      replace c4 := (Ext.cell hx (by dsimp only; omega)).trans c4
      replace c5 := (Ext.cell hx (by dsimp only; omega)).trans c5
      replace c6 := (Ext.cell hx (by dsimp only; omega)).trans c6
      replace c7 := (Ext.cell hx (by dsimp only; omega)).trans c7
      replace c8 := (Ext.cell hx (by dsimp only; omega)).trans c8
      replace c9 := (Ext.cell hx (by dsimp only; omega)).trans c9
      replace c10 := (Ext.cell hx (by dsimp only; omega)).trans c10
      replace c11 := (Ext.cell hx (by dsimp only; omega)).trans c11
      replace hx0 := Ext.trans hx0 hx
      replace hsz := Nat.le_trans hsz hsz1
      clear hx hsz1
      have hl0 : w.heap.size < wx.heap.size := by omega
      rw [hh.out]
      go_wp2_with fail
      refine (rover_any _ _ _ _ _ _ _ _ _ _ _ _ _ _).mono ?_
      rintro e wx ⟨rfl, hx⟩
      have hsz1 := Ext.size hx
      replace c0 := (Ext.cell hx (by dsimp only; omega)).trans c0
      replace c1 := (Ext.cell hx (by dsimp only; omega)).trans c1
      replace c2 := (Ext.cell hx (by dsimp only; omega)).trans c2
      replace c3 := (Ext.cell hx (by dsimp only; omega)).trans c3
      replace c4 := (Ext.cell hx (by dsimp only; omega)).trans c4
      replace c5 := (Ext.cell hx (by dsimp only; omega)).trans c5
      replace c6 := (Ext.cell hx (by dsimp only; omega)).trans c6
      replace c7 := (Ext.cell hx (by dsimp only; omega)).trans c7
      replace c8 := (Ext.cell hx (by dsimp only; omega)).trans c8
      replace c9 := (Ext.cell hx (by dsimp only; omega)).trans c9
      replace c10 := (Ext.cell hx (by dsimp only; omega)).trans c10
      replace c11 := (Ext.cell hx (by dsimp only; omega)).trans c11
      replace hx0 := Ext.trans hx0 hx
      replace hsz := Nat.le_trans hsz hsz1
      clear hx hsz1
      have hl0 : w.heap.size < wx.heap.size := by omega
      rw [o1.out]
      go_wp2_with fail
      refine (vover_any _ _ _ _ _ _ _ _ _ _ _ _ _ _).mono ?_
      rintro e wx ⟨rfl, hx⟩
      have hsz1 := Ext.size hx
      replace c0 := (Ext.cell hx (by dsimp only; omega)).trans c0
      replace c1 := (Ext.cell hx (by dsimp only; omega)).trans c1
      replace c2 := (Ext.cell hx (by dsimp only; omega)).trans c2
      replace c3 := (Ext.cell hx (by dsimp only; omega)).trans c3
      replace c4 := (Ext.cell hx (by dsimp only; omega)).trans c4
      replace c5 := (Ext.cell hx (by dsimp only; omega)).trans c5
      replace c6 := (Ext.cell hx (by dsimp only; omega)).trans c6
      replace c7 := (Ext.cell hx (by dsimp only; omega)).trans c7
      replace c8 := (Ext.cell hx (by dsimp only; omega)).trans c8
      replace c9 := (Ext.cell hx (by dsimp only; omega)).trans c9
      replace c10 := (Ext.cell hx (by dsimp only; omega)).trans c10
      replace c11 := (Ext.cell hx (by dsimp only; omega)).trans c11
      replace hx0 := Ext.trans hx0 hx
      replace hsz := Nat.le_trans hsz hsz1
      clear hx hsz1
      have hl0 : w.heap.size < wx.heap.size := by omega
      rw [o2.out]
      go_wp2_with fail
      refine (vsounds_any _ _ _ _ _ _ _ _ _ _ _ _ _ _).mono ?_
      rintro e wx ⟨rfl, hx⟩
      have hsz1 := Ext.size hx
      replace c0 := (Ext.cell hx (by dsimp only; omega)).trans c0
      replace c1 := (Ext.cell hx (by dsimp only; omega)).trans c1
      replace c2 := (Ext.cell hx (by dsimp only; omega)).trans c2
      replace c3 := (Ext.cell hx (by dsimp only; omega)).trans c3
      replace c4 := (Ext.cell hx (by dsimp only; omega)).trans c4
      replace c5 := (Ext.cell hx (by dsimp only; omega)).trans c5
      replace c6 := (Ext.cell hx (by dsimp only; omega)).trans c6
      replace c7 := (Ext.cell hx (by dsimp only; omega)).trans c7
      replace c8 := (Ext.cell hx (by dsimp only; omega)).trans c8
      replace c9 := (Ext.cell hx (by dsimp only; omega)).trans c9
      replace c10 := (Ext.cell hx (by dsimp only; omega)).trans c10
      replace c11 := (Ext.cell hx (by dsimp only; omega)).trans c11
      replace hx0 := Ext.trans hx0 hx
      replace hsz := Nat.le_trans hsz hsz1
      clear hx hsz1
      have hl0 : w.heap.size < wx.heap.size := by omega
      rw [s2.out]
      go_wp2_with fail
      refine (vsounds_any _ _ _ _ _ _ _ _ _ _ _ _ _ _).mono ?_
      rintro e wx ⟨rfl, hx⟩
      have hsz1 := Ext.size hx
      replace c0 := (Ext.cell hx (by dsimp only; omega)).trans c0
      replace c1 := (Ext.cell hx (by dsimp only; omega)).trans c1
      replace c2 := (Ext.cell hx (by dsimp only; omega)).trans c2
      replace c3 := (Ext.cell hx (by dsimp only; omega)).trans c3
      replace c4 := (Ext.cell hx (by dsimp only; omega)).trans c4
      replace c5 := (Ext.cell hx (by dsimp only; omega)).trans c5
      replace c6 := (Ext.cell hx (by dsimp only; omega)).trans c6
      replace c7 := (Ext.cell hx (by dsimp only; omega)).trans c7
      replace c8 := (Ext.cell hx (by dsimp only; omega)).trans c8
      replace c9 := (Ext.cell hx (by dsimp only; omega)).trans c9
      replace c10 := (Ext.cell hx (by dsimp only; omega)).trans c10
      replace c11 := (Ext.cell hx (by dsimp only; omega)).trans c11
      replace hx0 := Ext.trans hx0 hx
      replace hsz := Nat.le_trans hsz hsz1
      clear hx hsz1
      have hl0 : w.heap.size < wx.heap.size := by omega
      rw [s3.out]
      go_wp2_with fail
      go_ret
      exact ⟨rfl, hx0⟩

theorem VoiceEnds_walk (fr em ki od at_ gn pn pr ln bo lt cu m : Int) (w1 : (Lit.int .i64 fr).wf = true) (w2 : (Lit.int .i64 em).wf = true) (w3 : (Lit.int .i64 ki).wf = true) (w4 : (Lit.int .i64 od).wf = true) (w5 : (Lit.int .i64 at_).wf = true) (w6 : (Lit.int .i64 gn).wf = true) (w7 : (Lit.int .i64 pn).wf = true) (w8 : (Lit.int .i64 pr).wf = true) (w9 : (Lit.int .i64 ln).wf = true) (w10 : (Lit.int .i64 bo).wf = true) (w11 : (Lit.int .i64 lt).wf = true) (w12 : (Lit.int .i64 cu).wf = true) (w13 : (Lit.int .u16 m).wf = true) (w : World) : Calls Try.prog 3 #[.agg #[.int .i64 fr, .int .i64 em, .int .i64 ki, .int .i64 od, .int .i64 at_, .int .i64 gn, .int .i64 pn, .int .i64 pr, .int .i64 ln, .int .i64 bo, .int .i64 lt, .int .i64 cu], .int .u16 m] w fun e w' => e = .returned (.bool true) ∧ Ext w w' :=
  VoiceEnds_core _ _ _ _ _ _ _ _ _ _ _ _ _ w (bounds_u16 w13)

end Go.Proofs.Ytikdnldngonpoaa
