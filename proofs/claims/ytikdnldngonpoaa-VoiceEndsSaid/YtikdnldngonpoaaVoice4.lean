/- WHAT THE REFERENCE's Right, At, Over, Sounds COMPUTE. Conditions: none but the arguments' kinds. Own work. -/
import Derived.Test.YtikdnldngonpoaaVoice3
namespace Go.Proofs.Ytikdnldngonpoaa
open Go.RowKit
set_option linter.unusedVariables false
set_option linter.unusedSimpArgs false
set_option maxRecDepth 100000

theorem rlen_yes (n : Int) (w : World) (h : withinB n 1 9 = true) : Calls Try.prog 26 #[.int .i64 n] w fun e w' => e = .returned (.int .i64 (48 * n)) ∧ w = w' := by
  obtain ⟨b1, b2⟩ := within_iff.1 h
  clear h
  go_enter Try.func26, Try.ntmps26
  go_wp2
  go_ret
  exact ⟨rfl, rfl⟩

theorem rlen_no (n : Int) (w : World) (h : withinB n 1 9 = false) : Calls Try.prog 26 #[.int .i64 n] w fun e w' => e = .returned (.int .i64 0) ∧ w = w' := by
  have b : ¬ (1 ≤ n ∧ n ≤ 9) := fun q => by rw [within_iff.2 q] at h; cases h
  clear h
  by_cases c : n < 1
  · clear b
    go_enter Try.func26, Try.ntmps26
    go_wp2
    go_ret
    exact ⟨rfl, rfl⟩
  · have d : 9 < n := by omega
    clear b
    go_enter Try.func26, Try.ntmps26
    go_wp2
    go_ret
    exact ⟨rfl, rfl⟩

set_option maxHeartbeats 8000000 in
theorem rright_any (fr em ki od at_ gn pn pr ln bo lt cu : Int) (w : World) : Calls Try.prog 16 #[.agg #[.int .i64 fr, .int .i64 em, .int .i64 ki, .int .i64 od, .int .i64 at_, .int .i64 gn, .int .i64 pn, .int .i64 pr, .int .i64 ln, .int .i64 bo, .int .i64 lt, .int .i64 cu]] w fun e w' => e = .returned (.bool (rightB at_ gn pn ln bo lt cu)) ∧ Ext w w' := by
  cases h1 : withinB at_ 1 9
  · skip
    have k : rightB at_ gn pn ln bo lt cu = false := by unfold rightB; rw [Bool.eq_false_iff]; intro hf; simp only [Bool.and_eq_true, Bool.or_eq_true, within_iff, beq_iff_eq] at hf; have := within_iff.2 hf.1; rw [h1] at this; cases this
    rw [k]; clear k
    go_enter Try.func16, Try.ntmps16
    go_wp2_with (go_at_call 26; refine (rlen_no _ _ h1).mono ?_; rintro e wx ⟨rfl, rfl⟩)
    go_ret
    refine ⟨ret_bool ?_, by (repeat' (first | (with_reducible assumption) | (with_reducible exact Ext.refl _) | (with_reducible refine Ext.grow ?_ _) | (with_reducible refine Ext.drew ?_) | (with_reducible refine Ext.set ?_ ?_ _) | omega | (simp; done) | (simp; omega) | (refine Ext.trans ?_ (by assumption))))⟩
    first | rfl | (simp; done) | (simp; omega)
  · have z : (48 * at_ == 0) = false := by have := within_iff.1 h1; exact beq_eq_false_iff_ne.2 (by omega)
    by_cases q0 : gn < 0
    · skip
      have k : rightB at_ gn pn ln bo lt cu = false := by unfold rightB; rw [Bool.eq_false_iff]; intro hf; simp only [Bool.and_eq_true, Bool.or_eq_true, within_iff, beq_iff_eq] at hf; omega
      rw [k]; clear k
      go_enter Try.func16, Try.ntmps16
      go_wp2_with (go_at_call 26; refine (rlen_yes _ _ h1).mono ?_; rintro e wx ⟨rfl, rfl⟩)
      go_ret
      refine ⟨ret_bool ?_, by (repeat' (first | (with_reducible assumption) | (with_reducible exact Ext.refl _) | (with_reducible refine Ext.grow ?_ _) | (with_reducible refine Ext.drew ?_) | (with_reducible refine Ext.set ?_ ?_ _) | omega | (simp; done) | (simp; omega) | (refine Ext.trans ?_ (by assumption))))⟩
      first | rfl | (simp; done) | (simp; omega)
    by_cases q1 : 32768 < gn
    · skip
      have k : rightB at_ gn pn ln bo lt cu = false := by unfold rightB; rw [Bool.eq_false_iff]; intro hf; simp only [Bool.and_eq_true, Bool.or_eq_true, within_iff, beq_iff_eq] at hf; omega
      rw [k]; clear k
      go_enter Try.func16, Try.ntmps16
      go_wp2_with (go_at_call 26; refine (rlen_yes _ _ h1).mono ?_; rintro e wx ⟨rfl, rfl⟩)
      go_ret
      refine ⟨ret_bool ?_, by (repeat' (first | (with_reducible assumption) | (with_reducible exact Ext.refl _) | (with_reducible refine Ext.grow ?_ _) | (with_reducible refine Ext.drew ?_) | (with_reducible refine Ext.set ?_ ?_ _) | omega | (simp; done) | (simp; omega) | (refine Ext.trans ?_ (by assumption))))⟩
      first | rfl | (simp; done) | (simp; omega)
    by_cases q2 : pn < -32768
    · skip
      have k : rightB at_ gn pn ln bo lt cu = false := by unfold rightB; rw [Bool.eq_false_iff]; intro hf; simp only [Bool.and_eq_true, Bool.or_eq_true, within_iff, beq_iff_eq] at hf; omega
      rw [k]; clear k
      go_enter Try.func16, Try.ntmps16
      go_wp2_with (go_at_call 26; refine (rlen_yes _ _ h1).mono ?_; rintro e wx ⟨rfl, rfl⟩)
      go_ret
      refine ⟨ret_bool ?_, by (repeat' (first | (with_reducible assumption) | (with_reducible exact Ext.refl _) | (with_reducible refine Ext.grow ?_ _) | (with_reducible refine Ext.drew ?_) | (with_reducible refine Ext.set ?_ ?_ _) | omega | (simp; done) | (simp; omega) | (refine Ext.trans ?_ (by assumption))))⟩
      first | rfl | (simp; done) | (simp; omega)
    by_cases q3 : 32768 < pn
    · skip
      have k : rightB at_ gn pn ln bo lt cu = false := by unfold rightB; rw [Bool.eq_false_iff]; intro hf; simp only [Bool.and_eq_true, Bool.or_eq_true, within_iff, beq_iff_eq] at hf; omega
      rw [k]; clear k
      go_enter Try.func16, Try.ntmps16
      go_wp2_with (go_at_call 26; refine (rlen_yes _ _ h1).mono ?_; rintro e wx ⟨rfl, rfl⟩)
      go_ret
      refine ⟨ret_bool ?_, by (repeat' (first | (with_reducible assumption) | (with_reducible exact Ext.refl _) | (with_reducible refine Ext.grow ?_ _) | (with_reducible refine Ext.drew ?_) | (with_reducible refine Ext.set ?_ ?_ _) | omega | (simp; done) | (simp; omega) | (refine Ext.trans ?_ (by assumption))))⟩
      first | rfl | (simp; done) | (simp; omega)
    by_cases q4 : ln < 0
    · skip
      have k : rightB at_ gn pn ln bo lt cu = false := by unfold rightB; rw [Bool.eq_false_iff]; intro hf; simp only [Bool.and_eq_true, Bool.or_eq_true, within_iff, beq_iff_eq] at hf; omega
      rw [k]; clear k
      go_enter Try.func16, Try.ntmps16
      go_wp2_with (go_at_call 26; refine (rlen_yes _ _ h1).mono ?_; rintro e wx ⟨rfl, rfl⟩)
      go_ret
      refine ⟨ret_bool ?_, by (repeat' (first | (with_reducible assumption) | (with_reducible exact Ext.refl _) | (with_reducible refine Ext.grow ?_ _) | (with_reducible refine Ext.drew ?_) | (with_reducible refine Ext.set ?_ ?_ _) | omega | (simp; done) | (simp; omega) | (refine Ext.trans ?_ (by assumption))))⟩
      first | rfl | (simp; done) | (simp; omega)
    by_cases q5 : 600 < ln
    · skip
      have k : rightB at_ gn pn ln bo lt cu = false := by unfold rightB; rw [Bool.eq_false_iff]; intro hf; simp only [Bool.and_eq_true, Bool.or_eq_true, within_iff, beq_iff_eq] at hf; omega
      rw [k]; clear k
      go_enter Try.func16, Try.ntmps16
      go_wp2_with (go_at_call 26; refine (rlen_yes _ _ h1).mono ?_; rintro e wx ⟨rfl, rfl⟩)
      go_ret
      refine ⟨ret_bool ?_, by (repeat' (first | (with_reducible assumption) | (with_reducible exact Ext.refl _) | (with_reducible refine Ext.grow ?_ _) | (with_reducible refine Ext.drew ?_) | (with_reducible refine Ext.set ?_ ?_ _) | omega | (simp; done) | (simp; omega) | (refine Ext.trans ?_ (by assumption))))⟩
      first | rfl | (simp; done) | (simp; omega)
    by_cases q6 : bo < 0
    · skip
      have k : rightB at_ gn pn ln bo lt cu = false := by unfold rightB; rw [Bool.eq_false_iff]; intro hf; simp only [Bool.and_eq_true, Bool.or_eq_true, within_iff, beq_iff_eq] at hf; omega
      rw [k]; clear k
      go_enter Try.func16, Try.ntmps16
      go_wp2_with (go_at_call 26; refine (rlen_yes _ _ h1).mono ?_; rintro e wx ⟨rfl, rfl⟩)
      go_ret
      refine ⟨ret_bool ?_, by (repeat' (first | (with_reducible assumption) | (with_reducible exact Ext.refl _) | (with_reducible refine Ext.grow ?_ _) | (with_reducible refine Ext.drew ?_) | (with_reducible refine Ext.set ?_ ?_ _) | omega | (simp; done) | (simp; omega) | (refine Ext.trans ?_ (by assumption))))⟩
      first | rfl | (simp; done) | (simp; omega)
    by_cases q7 : 1099511627776 < bo
    · skip
      have k : rightB at_ gn pn ln bo lt cu = false := by unfold rightB; rw [Bool.eq_false_iff]; intro hf; simp only [Bool.and_eq_true, Bool.or_eq_true, within_iff, beq_iff_eq] at hf; omega
      rw [k]; clear k
      go_enter Try.func16, Try.ntmps16
      go_wp2_with (go_at_call 26; refine (rlen_yes _ _ h1).mono ?_; rintro e wx ⟨rfl, rfl⟩)
      go_ret
      refine ⟨ret_bool ?_, by (repeat' (first | (with_reducible assumption) | (with_reducible exact Ext.refl _) | (with_reducible refine Ext.grow ?_ _) | (with_reducible refine Ext.drew ?_) | (with_reducible refine Ext.set ?_ ?_ _) | omega | (simp; done) | (simp; omega) | (refine Ext.trans ?_ (by assumption))))⟩
      first | rfl | (simp; done) | (simp; omega)
    by_cases q8 : lt < 0
    · skip
      have k : rightB at_ gn pn ln bo lt cu = false := by unfold rightB; rw [Bool.eq_false_iff]; intro hf; simp only [Bool.and_eq_true, Bool.or_eq_true, within_iff, beq_iff_eq] at hf; omega
      rw [k]; clear k
      go_enter Try.func16, Try.ntmps16
      go_wp2_with (go_at_call 26; refine (rlen_yes _ _ h1).mono ?_; rintro e wx ⟨rfl, rfl⟩)
      go_ret
      refine ⟨ret_bool ?_, by (repeat' (first | (with_reducible assumption) | (with_reducible exact Ext.refl _) | (with_reducible refine Ext.grow ?_ _) | (with_reducible refine Ext.drew ?_) | (with_reducible refine Ext.set ?_ ?_ _) | omega | (simp; done) | (simp; omega) | (refine Ext.trans ?_ (by assumption))))⟩
      first | rfl | (simp; done) | (simp; omega)
    by_cases q9 : 1099511627776 < lt
    · skip
      have k : rightB at_ gn pn ln bo lt cu = false := by unfold rightB; rw [Bool.eq_false_iff]; intro hf; simp only [Bool.and_eq_true, Bool.or_eq_true, within_iff, beq_iff_eq] at hf; omega
      rw [k]; clear k
      go_enter Try.func16, Try.ntmps16
      go_wp2_with (go_at_call 26; refine (rlen_yes _ _ h1).mono ?_; rintro e wx ⟨rfl, rfl⟩)
      go_ret
      refine ⟨ret_bool ?_, by (repeat' (first | (with_reducible assumption) | (with_reducible exact Ext.refl _) | (with_reducible refine Ext.grow ?_ _) | (with_reducible refine Ext.drew ?_) | (with_reducible refine Ext.set ?_ ?_ _) | omega | (simp; done) | (simp; omega) | (refine Ext.trans ?_ (by assumption))))⟩
      first | rfl | (simp; done) | (simp; omega)
    by_cases e0 : cu = -1
    · have e1 : (cu == -1) = true := beq_iff_eq.2 e0
      have k : rightB at_ gn pn ln bo lt cu = true := by have h1' := within_iff.1 h1; unfold rightB; simp only [Bool.and_eq_true, Bool.or_eq_true, within_iff, beq_iff_eq]; omega
      rw [k]; clear k
      go_enter Try.func16, Try.ntmps16
      go_wp2_with (go_at_call 26; refine (rlen_yes _ _ h1).mono ?_; rintro e wx ⟨rfl, rfl⟩)
      go_ret
      refine ⟨ret_bool ?_, by (repeat' (first | (with_reducible assumption) | (with_reducible exact Ext.refl _) | (with_reducible refine Ext.grow ?_ _) | (with_reducible refine Ext.drew ?_) | (with_reducible refine Ext.set ?_ ?_ _) | omega | (simp; done) | (simp; omega) | (refine Ext.trans ?_ (by assumption))))⟩
      first | rfl | (simp; done) | (simp; omega)
    have e1 : (cu == -1) = false := beq_eq_false_iff_ne.2 e0
    by_cases e2 : bo ≤ cu
    rotate_left
    · skip
      have k : rightB at_ gn pn ln bo lt cu = false := by unfold rightB; rw [Bool.eq_false_iff]; intro hf; simp only [Bool.and_eq_true, Bool.or_eq_true, within_iff, beq_iff_eq] at hf; omega
      rw [k]; clear k
      go_enter Try.func16, Try.ntmps16
      go_wp2_with (go_at_call 26; refine (rlen_yes _ _ h1).mono ?_; rintro e wx ⟨rfl, rfl⟩)
      go_ret
      refine ⟨ret_bool ?_, by (repeat' (first | (with_reducible assumption) | (with_reducible exact Ext.refl _) | (with_reducible refine Ext.grow ?_ _) | (with_reducible refine Ext.drew ?_) | (with_reducible refine Ext.set ?_ ?_ _) | omega | (simp; done) | (simp; omega) | (refine Ext.trans ?_ (by assumption))))⟩
      first | rfl | (simp; done) | (simp; omega)
    by_cases e3 : cu ≤ 1099511627776
    rotate_left
    · skip
      have k : rightB at_ gn pn ln bo lt cu = false := by unfold rightB; rw [Bool.eq_false_iff]; intro hf; simp only [Bool.and_eq_true, Bool.or_eq_true, within_iff, beq_iff_eq] at hf; omega
      rw [k]; clear k
      go_enter Try.func16, Try.ntmps16
      go_wp2_with (go_at_call 26; refine (rlen_yes _ _ h1).mono ?_; rintro e wx ⟨rfl, rfl⟩)
      go_ret
      refine ⟨ret_bool ?_, by (repeat' (first | (with_reducible assumption) | (with_reducible exact Ext.refl _) | (with_reducible refine Ext.grow ?_ _) | (with_reducible refine Ext.drew ?_) | (with_reducible refine Ext.set ?_ ?_ _) | omega | (simp; done) | (simp; omega) | (refine Ext.trans ?_ (by assumption))))⟩
      first | rfl | (simp; done) | (simp; omega)
    have k : rightB at_ gn pn ln bo lt cu = true := by have h1' := within_iff.1 h1; unfold rightB; simp only [Bool.and_eq_true, Bool.or_eq_true, within_iff, beq_iff_eq]; omega
    rw [k]; clear k
    go_enter Try.func16, Try.ntmps16
    go_wp2_with (go_at_call 26; refine (rlen_yes _ _ h1).mono ?_; rintro e wx ⟨rfl, rfl⟩)
    go_ret
    refine ⟨ret_bool ?_, by (repeat' (first | (with_reducible assumption) | (with_reducible exact Ext.refl _) | (with_reducible refine Ext.grow ?_ _) | (with_reducible refine Ext.drew ?_) | (with_reducible refine Ext.set ?_ ?_ _) | omega | (simp; done) | (simp; omega) | (refine Ext.trans ?_ (by assumption))))⟩
    first | rfl | (simp; done) | (simp; omega)

theorem rat_any (fr em ki od at_ gn pn pr ln bo lt cu t : Int) (w : World) : Calls Try.prog 56 #[.agg #[.int .i64 fr, .int .i64 em, .int .i64 ki, .int .i64 od, .int .i64 at_, .int .i64 gn, .int .i64 pn, .int .i64 pr, .int .i64 ln, .int .i64 bo, .int .i64 lt, .int .i64 cu], .int .i64 t] w fun e w' => e = .returned (.bool (atB at_ gn pn ln bo lt cu t)) ∧ Ext w w' := by
  cases h : rightB at_ gn pn ln bo lt cu
  · have k : atB at_ gn pn ln bo lt cu t = false := by unfold atB; rw [h]; rfl
    rw [k]; clear k
    have hh := Lib.hid h
    clear h
    go_enter Try.func56, Try.ntmps56
    go_wp2_with fail
    refine (rright_any _ _ _ _ _ _ _ _ _ _ _ _ _).mono ?_
    rintro e wx ⟨rfl, hx⟩
    have hx9 := Ext.trans (show Ext w _ by (repeat' (first | (with_reducible assumption) | (with_reducible exact Ext.refl _) | (with_reducible refine Ext.grow ?_ _) | (with_reducible refine Ext.drew ?_) | (with_reducible refine Ext.set ?_ ?_ _) | omega | (simp; done) | (simp; omega) | (refine Ext.trans ?_ (by assumption))))) hx
    clear hx
    rw [hh.out]
    go_wp2_with fail
    go_ret
    exact ⟨rfl, hx9⟩
  by_cases g1 : 0 ≤ t
  · have k : atB at_ gn pn ln bo lt cu t = decide (t ≤ 2199023255552) := by unfold atB withinB; rw [h, decide_eq_true g1]; rfl
    rw [k]; clear k
    have hh := Lib.hid h
    clear h
    go_enter Try.func56, Try.ntmps56
    go_wp2_with fail
    refine (rright_any _ _ _ _ _ _ _ _ _ _ _ _ _).mono ?_
    rintro e wx ⟨rfl, hx⟩
    have hx9 := Ext.trans (show Ext w _ by (repeat' (first | (with_reducible assumption) | (with_reducible exact Ext.refl _) | (with_reducible refine Ext.grow ?_ _) | (with_reducible refine Ext.drew ?_) | (with_reducible refine Ext.set ?_ ?_ _) | omega | (simp; done) | (simp; omega) | (refine Ext.trans ?_ (by assumption))))) hx
    clear hx
    rw [hh.out]
    go_wp2_with fail
    go_ret
    exact ⟨rfl, hx9⟩
  · have k : atB at_ gn pn ln bo lt cu t = false := by unfold atB withinB; rw [h, decide_eq_false g1]; rfl
    rw [k]; clear k
    have hh := Lib.hid h
    clear h
    go_enter Try.func56, Try.ntmps56
    go_wp2_with fail
    refine (rright_any _ _ _ _ _ _ _ _ _ _ _ _ _).mono ?_
    rintro e wx ⟨rfl, hx⟩
    have hx9 := Ext.trans (show Ext w _ by (repeat' (first | (with_reducible assumption) | (with_reducible exact Ext.refl _) | (with_reducible refine Ext.grow ?_ _) | (with_reducible refine Ext.drew ?_) | (with_reducible refine Ext.set ?_ ?_ _) | omega | (simp; done) | (simp; omega) | (refine Ext.trans ?_ (by assumption))))) hx
    clear hx
    rw [hh.out]
    go_wp2_with fail
    go_ret
    exact ⟨rfl, hx9⟩

set_option maxHeartbeats 8000000 in
theorem rover_any (fr em ki od at_ gn pn pr ln bo lt cu t : Int) (w : World) : Calls Try.prog 17 #[.agg #[.int .i64 fr, .int .i64 em, .int .i64 ki, .int .i64 od, .int .i64 at_, .int .i64 gn, .int .i64 pn, .int .i64 pr, .int .i64 ln, .int .i64 bo, .int .i64 lt, .int .i64 cu], .int .i64 t] w fun e w' => e = .returned (.bool (overB at_ gn pn ln bo lt cu t)) ∧ Ext w w' := by
  cases h : atB at_ gn pn ln bo lt cu t
  · have k : overB at_ gn pn ln bo lt cu t = false := by unfold overB; rw [h]; rfl
    rw [k]; clear k
    have hh := Lib.hid h
    clear h
    go_enter Try.func17, Try.ntmps17
    go_wp2_with fail
    refine calls_abs (fun W => Ext w W ∧ w.heap.size + 1 ≤ W.heap.size ∧ W.cell? ⟨w.heap.size, 0, none⟩ = some (.int .i64 fr) ∧ W.cell? ⟨w.heap.size, 1, none⟩ = some (.int .i64 em) ∧ W.cell? ⟨w.heap.size, 2, none⟩ = some (.int .i64 ki) ∧ W.cell? ⟨w.heap.size, 3, none⟩ = some (.int .i64 od) ∧ W.cell? ⟨w.heap.size, 4, none⟩ = some (.int .i64 at_) ∧ W.cell? ⟨w.heap.size, 5, none⟩ = some (.int .i64 gn) ∧ W.cell? ⟨w.heap.size, 6, none⟩ = some (.int .i64 pn) ∧ W.cell? ⟨w.heap.size, 7, none⟩ = some (.int .i64 pr) ∧ W.cell? ⟨w.heap.size, 8, none⟩ = some (.int .i64 ln) ∧ W.cell? ⟨w.heap.size, 9, none⟩ = some (.int .i64 bo) ∧ W.cell? ⟨w.heap.size, 10, none⟩ = some (.int .i64 lt) ∧ W.cell? ⟨w.heap.size, 11, none⟩ = some (.int .i64 cu)) (by refine ⟨by (repeat' (first | (with_reducible assumption) | (with_reducible exact Ext.refl _) | (with_reducible refine Ext.grow ?_ _) | (with_reducible refine Ext.drew ?_) | (with_reducible refine Ext.set ?_ ?_ _) | omega | (simp; done) | (simp; omega) | (refine Ext.trans ?_ (by assumption)))), by first | (with_reducible assumption) | (simp; done) | (simp; omega), ?_, ?_, ?_, ?_, ?_, ?_, ?_, ?_, ?_, ?_, ?_, ?_⟩ <;> first | (with_reducible assumption) | (go_simp; done) | (simp; omega)) ?_
    (try clear hx0)
    (try clear hsz)
    (try clear c0)
    (try clear c1)
    (try clear c2)
    (try clear c3)
    (try clear c4)
    (try clear c5)
    (try clear c6)
    (try clear c7)
    (try clear c8)
    (try clear c9)
    (try clear c10)
    (try clear c11)
    rintro W ⟨hx0, hsz, c0, c1, c2, c3, c4, c5, c6, c7, c8, c9, c10, c11⟩
    refine (rat_any _ _ _ _ _ _ _ _ _ _ _ _ _ _).mono ?_
    rintro e wx ⟨rfl, hx⟩
    have hsz1 := Ext.size hx
    replace c0 := (Ext.cell hx (by dsimp only; omega)).trans c0
    replace c1 := (Ext.cell hx (by dsimp only; omega)).trans c1
    replace c2 := (Ext.cell hx (by dsimp only; omega)).trans c2
    replace c3 := (Ext.cell hx (by dsimp only; omega)).trans c3
    replace c4 := (Ext.cell hx (by dsimp only; omega)).trans c4
    replace c5 := (Ext.cell hx (by dsimp only; omega)).trans c5
    replace c6 := (Ext.cell hx (by dsimp only; omega)).trans c6
    replace c7 := (Ext.cell hx (by dsimp only; omega)).trans c7
    replace c8 := (Ext.cell hx (by dsimp only; omega)).trans c8
    replace c9 := (Ext.cell hx (by dsimp only; omega)).trans c9
    replace c10 := (Ext.cell hx (by dsimp only; omega)).trans c10
    replace c11 := (Ext.cell hx (by dsimp only; omega)).trans c11
    replace hx0 := Ext.trans hx0 hx
    replace hsz := Nat.le_trans hsz hsz1
    clear hx hsz1
    have hl0 : w.heap.size < wx.heap.size := by omega
    rw [hh.out]
    go_wp2_with fail
    go_ret
    exact ⟨rfl, by (repeat' (first | (with_reducible assumption) | (with_reducible exact Ext.refl _) | (with_reducible refine Ext.grow ?_ _) | (with_reducible refine Ext.drew ?_) | (with_reducible refine Ext.set ?_ ?_ _) | omega | (simp; done) | (simp; omega) | (refine Ext.trans ?_ (by assumption))))⟩
  obtain ⟨hr, t1, t2⟩ := at_right h
  obtain ⟨f1, f2, f3, f4, f5⟩ := right_facts hr
  have f7 := within_iff.2 f1
  have hh := Lib.hid h
  by_cases c : bo ≤ t
  rotate_left
  · have k : overB at_ gn pn ln bo lt cu t = false := by unfold overB; rw [h, decide_eq_false c]; rfl
    rw [k]; clear k h hr
    go_enter Try.func17, Try.ntmps17
    go_wp2_with fail
    refine calls_abs (fun W => Ext w W ∧ w.heap.size + 1 ≤ W.heap.size ∧ W.cell? ⟨w.heap.size, 0, none⟩ = some (.int .i64 fr) ∧ W.cell? ⟨w.heap.size, 1, none⟩ = some (.int .i64 em) ∧ W.cell? ⟨w.heap.size, 2, none⟩ = some (.int .i64 ki) ∧ W.cell? ⟨w.heap.size, 3, none⟩ = some (.int .i64 od) ∧ W.cell? ⟨w.heap.size, 4, none⟩ = some (.int .i64 at_) ∧ W.cell? ⟨w.heap.size, 5, none⟩ = some (.int .i64 gn) ∧ W.cell? ⟨w.heap.size, 6, none⟩ = some (.int .i64 pn) ∧ W.cell? ⟨w.heap.size, 7, none⟩ = some (.int .i64 pr) ∧ W.cell? ⟨w.heap.size, 8, none⟩ = some (.int .i64 ln) ∧ W.cell? ⟨w.heap.size, 9, none⟩ = some (.int .i64 bo) ∧ W.cell? ⟨w.heap.size, 10, none⟩ = some (.int .i64 lt) ∧ W.cell? ⟨w.heap.size, 11, none⟩ = some (.int .i64 cu)) (by refine ⟨by (repeat' (first | (with_reducible assumption) | (with_reducible exact Ext.refl _) | (with_reducible refine Ext.grow ?_ _) | (with_reducible refine Ext.drew ?_) | (with_reducible refine Ext.set ?_ ?_ _) | omega | (simp; done) | (simp; omega) | (refine Ext.trans ?_ (by assumption)))), by first | (with_reducible assumption) | (simp; done) | (simp; omega), ?_, ?_, ?_, ?_, ?_, ?_, ?_, ?_, ?_, ?_, ?_, ?_⟩ <;> first | (with_reducible assumption) | (go_simp; done) | (simp; omega)) ?_
    (try clear hx0)
    (try clear hsz)
    (try clear c0)
    (try clear c1)
    (try clear c2)
    (try clear c3)
    (try clear c4)
    (try clear c5)
    (try clear c6)
    (try clear c7)
    (try clear c8)
    (try clear c9)
    (try clear c10)
    (try clear c11)
    rintro W ⟨hx0, hsz, c0, c1, c2, c3, c4, c5, c6, c7, c8, c9, c10, c11⟩
    refine (rat_any _ _ _ _ _ _ _ _ _ _ _ _ _ _).mono ?_
    rintro e wx ⟨rfl, hx⟩
    have hsz1 := Ext.size hx
    replace c0 := (Ext.cell hx (by dsimp only; omega)).trans c0
    replace c1 := (Ext.cell hx (by dsimp only; omega)).trans c1
    replace c2 := (Ext.cell hx (by dsimp only; omega)).trans c2
    replace c3 := (Ext.cell hx (by dsimp only; omega)).trans c3
    replace c4 := (Ext.cell hx (by dsimp only; omega)).trans c4
    replace c5 := (Ext.cell hx (by dsimp only; omega)).trans c5
    replace c6 := (Ext.cell hx (by dsimp only; omega)).trans c6
    replace c7 := (Ext.cell hx (by dsimp only; omega)).trans c7
    replace c8 := (Ext.cell hx (by dsimp only; omega)).trans c8
    replace c9 := (Ext.cell hx (by dsimp only; omega)).trans c9
    replace c10 := (Ext.cell hx (by dsimp only; omega)).trans c10
    replace c11 := (Ext.cell hx (by dsimp only; omega)).trans c11
    replace hx0 := Ext.trans hx0 hx
    replace hsz := Nat.le_trans hsz hsz1
    clear hx hsz1
    have hl0 : w.heap.size < wx.heap.size := by omega
    rw [hh.out]
    go_wp2_with fail
    go_ret
    exact ⟨rfl, by (repeat' (first | (with_reducible assumption) | (with_reducible exact Ext.refl _) | (with_reducible refine Ext.grow ?_ _) | (with_reducible refine Ext.drew ?_) | (with_reducible refine Ext.set ?_ ?_ _) | omega | (simp; done) | (simp; omega) | (refine Ext.trans ?_ (by assumption))))⟩
  have kk : overB at_ gn pn ln bo lt cu t = decide (endF at_ ln bo lt cu ≤ t) := by unfold overB; rw [h, decide_eq_true c]; rfl
  rw [kk]; clear kk h hr
  by_cases g : 0 < ln
  · have hl : lenF at_ ln = ln * 32 := if_pos g
    by_cases q1 : ln * 32 ≤ t - bo + lt
    · skip
      have k : decide (endF at_ ln bo lt cu ≤ t) = true := decide_eq_true (by unfold endF; rw [hl]; split <;> omega)
      rw [k]; clear k hl
      go_enter Try.func17, Try.ntmps17
      go_wp2_with fail
      refine calls_abs (fun W => Ext w W ∧ w.heap.size + 1 ≤ W.heap.size ∧ W.cell? ⟨w.heap.size, 0, none⟩ = some (.int .i64 fr) ∧ W.cell? ⟨w.heap.size, 1, none⟩ = some (.int .i64 em) ∧ W.cell? ⟨w.heap.size, 2, none⟩ = some (.int .i64 ki) ∧ W.cell? ⟨w.heap.size, 3, none⟩ = some (.int .i64 od) ∧ W.cell? ⟨w.heap.size, 4, none⟩ = some (.int .i64 at_) ∧ W.cell? ⟨w.heap.size, 5, none⟩ = some (.int .i64 gn) ∧ W.cell? ⟨w.heap.size, 6, none⟩ = some (.int .i64 pn) ∧ W.cell? ⟨w.heap.size, 7, none⟩ = some (.int .i64 pr) ∧ W.cell? ⟨w.heap.size, 8, none⟩ = some (.int .i64 ln) ∧ W.cell? ⟨w.heap.size, 9, none⟩ = some (.int .i64 bo) ∧ W.cell? ⟨w.heap.size, 10, none⟩ = some (.int .i64 lt) ∧ W.cell? ⟨w.heap.size, 11, none⟩ = some (.int .i64 cu)) (by refine ⟨by (repeat' (first | (with_reducible assumption) | (with_reducible exact Ext.refl _) | (with_reducible refine Ext.grow ?_ _) | (with_reducible refine Ext.drew ?_) | (with_reducible refine Ext.set ?_ ?_ _) | omega | (simp; done) | (simp; omega) | (refine Ext.trans ?_ (by assumption)))), by first | (with_reducible assumption) | (simp; done) | (simp; omega), ?_, ?_, ?_, ?_, ?_, ?_, ?_, ?_, ?_, ?_, ?_, ?_⟩ <;> first | (with_reducible assumption) | (go_simp; done) | (simp; omega)) ?_
      (try clear hx0)
      (try clear hsz)
      (try clear c0)
      (try clear c1)
      (try clear c2)
      (try clear c3)
      (try clear c4)
      (try clear c5)
      (try clear c6)
      (try clear c7)
      (try clear c8)
      (try clear c9)
      (try clear c10)
      (try clear c11)
      rintro W ⟨hx0, hsz, c0, c1, c2, c3, c4, c5, c6, c7, c8, c9, c10, c11⟩
      refine (rat_any _ _ _ _ _ _ _ _ _ _ _ _ _ _).mono ?_
      rintro e wx ⟨rfl, hx⟩
      have hsz1 := Ext.size hx
      replace c0 := (Ext.cell hx (by dsimp only; omega)).trans c0
      replace c1 := (Ext.cell hx (by dsimp only; omega)).trans c1
      replace c2 := (Ext.cell hx (by dsimp only; omega)).trans c2
      replace c3 := (Ext.cell hx (by dsimp only; omega)).trans c3
      replace c4 := (Ext.cell hx (by dsimp only; omega)).trans c4
      replace c5 := (Ext.cell hx (by dsimp only; omega)).trans c5
      replace c6 := (Ext.cell hx (by dsimp only; omega)).trans c6
      replace c7 := (Ext.cell hx (by dsimp only; omega)).trans c7
      replace c8 := (Ext.cell hx (by dsimp only; omega)).trans c8
      replace c9 := (Ext.cell hx (by dsimp only; omega)).trans c9
      replace c10 := (Ext.cell hx (by dsimp only; omega)).trans c10
      replace c11 := (Ext.cell hx (by dsimp only; omega)).trans c11
      replace hx0 := Ext.trans hx0 hx
      replace hsz := Nat.le_trans hsz hsz1
      clear hx hsz1
      have hl0 : w.heap.size < wx.heap.size := by omega
      rw [hh.out]
      go_wp2_with fail
      refine (rlen_yes _ _ f7).mono ?_
      rintro e wy ⟨rfl, rfl⟩
      go_wp2_with fail
      go_ret
      refine ⟨ret_bool ?_, by (repeat' (first | (with_reducible assumption) | (with_reducible exact Ext.refl _) | (with_reducible refine Ext.grow ?_ _) | (with_reducible refine Ext.drew ?_) | (with_reducible refine Ext.set ?_ ?_ _) | omega | (simp; done) | (simp; omega) | (refine Ext.trans ?_ (by assumption))))⟩
      first | rfl | (simp; done) | (simp; omega)
    by_cases q2 : 0 ≤ cu
    · by_cases q3 : 64 ≤ t - cu
      · skip
        have k : decide (endF at_ ln bo lt cu ≤ t) = true := decide_eq_true (by unfold endF; rw [hl]; split <;> omega)
        rw [k]; clear k hl
        go_enter Try.func17, Try.ntmps17
        go_wp2_with fail
        refine calls_abs (fun W => Ext w W ∧ w.heap.size + 1 ≤ W.heap.size ∧ W.cell? ⟨w.heap.size, 0, none⟩ = some (.int .i64 fr) ∧ W.cell? ⟨w.heap.size, 1, none⟩ = some (.int .i64 em) ∧ W.cell? ⟨w.heap.size, 2, none⟩ = some (.int .i64 ki) ∧ W.cell? ⟨w.heap.size, 3, none⟩ = some (.int .i64 od) ∧ W.cell? ⟨w.heap.size, 4, none⟩ = some (.int .i64 at_) ∧ W.cell? ⟨w.heap.size, 5, none⟩ = some (.int .i64 gn) ∧ W.cell? ⟨w.heap.size, 6, none⟩ = some (.int .i64 pn) ∧ W.cell? ⟨w.heap.size, 7, none⟩ = some (.int .i64 pr) ∧ W.cell? ⟨w.heap.size, 8, none⟩ = some (.int .i64 ln) ∧ W.cell? ⟨w.heap.size, 9, none⟩ = some (.int .i64 bo) ∧ W.cell? ⟨w.heap.size, 10, none⟩ = some (.int .i64 lt) ∧ W.cell? ⟨w.heap.size, 11, none⟩ = some (.int .i64 cu)) (by refine ⟨by (repeat' (first | (with_reducible assumption) | (with_reducible exact Ext.refl _) | (with_reducible refine Ext.grow ?_ _) | (with_reducible refine Ext.drew ?_) | (with_reducible refine Ext.set ?_ ?_ _) | omega | (simp; done) | (simp; omega) | (refine Ext.trans ?_ (by assumption)))), by first | (with_reducible assumption) | (simp; done) | (simp; omega), ?_, ?_, ?_, ?_, ?_, ?_, ?_, ?_, ?_, ?_, ?_, ?_⟩ <;> first | (with_reducible assumption) | (go_simp; done) | (simp; omega)) ?_
        (try clear hx0)
        (try clear hsz)
        (try clear c0)
        (try clear c1)
        (try clear c2)
        (try clear c3)
        (try clear c4)
        (try clear c5)
        (try clear c6)
        (try clear c7)
        (try clear c8)
        (try clear c9)
        (try clear c10)
        (try clear c11)
        rintro W ⟨hx0, hsz, c0, c1, c2, c3, c4, c5, c6, c7, c8, c9, c10, c11⟩
        refine (rat_any _ _ _ _ _ _ _ _ _ _ _ _ _ _).mono ?_
        rintro e wx ⟨rfl, hx⟩
        have hsz1 := Ext.size hx
        replace c0 := (Ext.cell hx (by dsimp only; omega)).trans c0
        replace c1 := (Ext.cell hx (by dsimp only; omega)).trans c1
        replace c2 := (Ext.cell hx (by dsimp only; omega)).trans c2
        replace c3 := (Ext.cell hx (by dsimp only; omega)).trans c3
        replace c4 := (Ext.cell hx (by dsimp only; omega)).trans c4
        replace c5 := (Ext.cell hx (by dsimp only; omega)).trans c5
        replace c6 := (Ext.cell hx (by dsimp only; omega)).trans c6
        replace c7 := (Ext.cell hx (by dsimp only; omega)).trans c7
        replace c8 := (Ext.cell hx (by dsimp only; omega)).trans c8
        replace c9 := (Ext.cell hx (by dsimp only; omega)).trans c9
        replace c10 := (Ext.cell hx (by dsimp only; omega)).trans c10
        replace c11 := (Ext.cell hx (by dsimp only; omega)).trans c11
        replace hx0 := Ext.trans hx0 hx
        replace hsz := Nat.le_trans hsz hsz1
        clear hx hsz1
        have hl0 : w.heap.size < wx.heap.size := by omega
        rw [hh.out]
        go_wp2_with fail
        refine (rlen_yes _ _ f7).mono ?_
        rintro e wy ⟨rfl, rfl⟩
        go_wp2_with fail
        go_ret
        refine ⟨ret_bool ?_, by (repeat' (first | (with_reducible assumption) | (with_reducible exact Ext.refl _) | (with_reducible refine Ext.grow ?_ _) | (with_reducible refine Ext.drew ?_) | (with_reducible refine Ext.set ?_ ?_ _) | omega | (simp; done) | (simp; omega) | (refine Ext.trans ?_ (by assumption))))⟩
        first | rfl | (simp; done) | (simp; omega)
      · skip
        have k : decide (endF at_ ln bo lt cu ≤ t) = false := decide_eq_false (by unfold endF; rw [hl]; split <;> omega)
        rw [k]; clear k hl
        go_enter Try.func17, Try.ntmps17
        go_wp2_with fail
        refine calls_abs (fun W => Ext w W ∧ w.heap.size + 1 ≤ W.heap.size ∧ W.cell? ⟨w.heap.size, 0, none⟩ = some (.int .i64 fr) ∧ W.cell? ⟨w.heap.size, 1, none⟩ = some (.int .i64 em) ∧ W.cell? ⟨w.heap.size, 2, none⟩ = some (.int .i64 ki) ∧ W.cell? ⟨w.heap.size, 3, none⟩ = some (.int .i64 od) ∧ W.cell? ⟨w.heap.size, 4, none⟩ = some (.int .i64 at_) ∧ W.cell? ⟨w.heap.size, 5, none⟩ = some (.int .i64 gn) ∧ W.cell? ⟨w.heap.size, 6, none⟩ = some (.int .i64 pn) ∧ W.cell? ⟨w.heap.size, 7, none⟩ = some (.int .i64 pr) ∧ W.cell? ⟨w.heap.size, 8, none⟩ = some (.int .i64 ln) ∧ W.cell? ⟨w.heap.size, 9, none⟩ = some (.int .i64 bo) ∧ W.cell? ⟨w.heap.size, 10, none⟩ = some (.int .i64 lt) ∧ W.cell? ⟨w.heap.size, 11, none⟩ = some (.int .i64 cu)) (by refine ⟨by (repeat' (first | (with_reducible assumption) | (with_reducible exact Ext.refl _) | (with_reducible refine Ext.grow ?_ _) | (with_reducible refine Ext.drew ?_) | (with_reducible refine Ext.set ?_ ?_ _) | omega | (simp; done) | (simp; omega) | (refine Ext.trans ?_ (by assumption)))), by first | (with_reducible assumption) | (simp; done) | (simp; omega), ?_, ?_, ?_, ?_, ?_, ?_, ?_, ?_, ?_, ?_, ?_, ?_⟩ <;> first | (with_reducible assumption) | (go_simp; done) | (simp; omega)) ?_
        (try clear hx0)
        (try clear hsz)
        (try clear c0)
        (try clear c1)
        (try clear c2)
        (try clear c3)
        (try clear c4)
        (try clear c5)
        (try clear c6)
        (try clear c7)
        (try clear c8)
        (try clear c9)
        (try clear c10)
        (try clear c11)
        rintro W ⟨hx0, hsz, c0, c1, c2, c3, c4, c5, c6, c7, c8, c9, c10, c11⟩
        refine (rat_any _ _ _ _ _ _ _ _ _ _ _ _ _ _).mono ?_
        rintro e wx ⟨rfl, hx⟩
        have hsz1 := Ext.size hx
        replace c0 := (Ext.cell hx (by dsimp only; omega)).trans c0
        replace c1 := (Ext.cell hx (by dsimp only; omega)).trans c1
        replace c2 := (Ext.cell hx (by dsimp only; omega)).trans c2
        replace c3 := (Ext.cell hx (by dsimp only; omega)).trans c3
        replace c4 := (Ext.cell hx (by dsimp only; omega)).trans c4
        replace c5 := (Ext.cell hx (by dsimp only; omega)).trans c5
        replace c6 := (Ext.cell hx (by dsimp only; omega)).trans c6
        replace c7 := (Ext.cell hx (by dsimp only; omega)).trans c7
        replace c8 := (Ext.cell hx (by dsimp only; omega)).trans c8
        replace c9 := (Ext.cell hx (by dsimp only; omega)).trans c9
        replace c10 := (Ext.cell hx (by dsimp only; omega)).trans c10
        replace c11 := (Ext.cell hx (by dsimp only; omega)).trans c11
        replace hx0 := Ext.trans hx0 hx
        replace hsz := Nat.le_trans hsz hsz1
        clear hx hsz1
        have hl0 : w.heap.size < wx.heap.size := by omega
        rw [hh.out]
        go_wp2_with fail
        refine (rlen_yes _ _ f7).mono ?_
        rintro e wy ⟨rfl, rfl⟩
        go_wp2_with fail
        go_ret
        refine ⟨ret_bool ?_, by (repeat' (first | (with_reducible assumption) | (with_reducible exact Ext.refl _) | (with_reducible refine Ext.grow ?_ _) | (with_reducible refine Ext.drew ?_) | (with_reducible refine Ext.set ?_ ?_ _) | omega | (simp; done) | (simp; omega) | (refine Ext.trans ?_ (by assumption))))⟩
        first | rfl | (simp; done) | (simp; omega)
    · skip
      have k : decide (endF at_ ln bo lt cu ≤ t) = false := decide_eq_false (by unfold endF; rw [hl]; split <;> omega)
      rw [k]; clear k hl
      go_enter Try.func17, Try.ntmps17
      go_wp2_with fail
      refine calls_abs (fun W => Ext w W ∧ w.heap.size + 1 ≤ W.heap.size ∧ W.cell? ⟨w.heap.size, 0, none⟩ = some (.int .i64 fr) ∧ W.cell? ⟨w.heap.size, 1, none⟩ = some (.int .i64 em) ∧ W.cell? ⟨w.heap.size, 2, none⟩ = some (.int .i64 ki) ∧ W.cell? ⟨w.heap.size, 3, none⟩ = some (.int .i64 od) ∧ W.cell? ⟨w.heap.size, 4, none⟩ = some (.int .i64 at_) ∧ W.cell? ⟨w.heap.size, 5, none⟩ = some (.int .i64 gn) ∧ W.cell? ⟨w.heap.size, 6, none⟩ = some (.int .i64 pn) ∧ W.cell? ⟨w.heap.size, 7, none⟩ = some (.int .i64 pr) ∧ W.cell? ⟨w.heap.size, 8, none⟩ = some (.int .i64 ln) ∧ W.cell? ⟨w.heap.size, 9, none⟩ = some (.int .i64 bo) ∧ W.cell? ⟨w.heap.size, 10, none⟩ = some (.int .i64 lt) ∧ W.cell? ⟨w.heap.size, 11, none⟩ = some (.int .i64 cu)) (by refine ⟨by (repeat' (first | (with_reducible assumption) | (with_reducible exact Ext.refl _) | (with_reducible refine Ext.grow ?_ _) | (with_reducible refine Ext.drew ?_) | (with_reducible refine Ext.set ?_ ?_ _) | omega | (simp; done) | (simp; omega) | (refine Ext.trans ?_ (by assumption)))), by first | (with_reducible assumption) | (simp; done) | (simp; omega), ?_, ?_, ?_, ?_, ?_, ?_, ?_, ?_, ?_, ?_, ?_, ?_⟩ <;> first | (with_reducible assumption) | (go_simp; done) | (simp; omega)) ?_
      (try clear hx0)
      (try clear hsz)
      (try clear c0)
      (try clear c1)
      (try clear c2)
      (try clear c3)
      (try clear c4)
      (try clear c5)
      (try clear c6)
      (try clear c7)
      (try clear c8)
      (try clear c9)
      (try clear c10)
      (try clear c11)
      rintro W ⟨hx0, hsz, c0, c1, c2, c3, c4, c5, c6, c7, c8, c9, c10, c11⟩
      refine (rat_any _ _ _ _ _ _ _ _ _ _ _ _ _ _).mono ?_
      rintro e wx ⟨rfl, hx⟩
      have hsz1 := Ext.size hx
      replace c0 := (Ext.cell hx (by dsimp only; omega)).trans c0
      replace c1 := (Ext.cell hx (by dsimp only; omega)).trans c1
      replace c2 := (Ext.cell hx (by dsimp only; omega)).trans c2
      replace c3 := (Ext.cell hx (by dsimp only; omega)).trans c3
      replace c4 := (Ext.cell hx (by dsimp only; omega)).trans c4
      replace c5 := (Ext.cell hx (by dsimp only; omega)).trans c5
      replace c6 := (Ext.cell hx (by dsimp only; omega)).trans c6
      replace c7 := (Ext.cell hx (by dsimp only; omega)).trans c7
      replace c8 := (Ext.cell hx (by dsimp only; omega)).trans c8
      replace c9 := (Ext.cell hx (by dsimp only; omega)).trans c9
      replace c10 := (Ext.cell hx (by dsimp only; omega)).trans c10
      replace c11 := (Ext.cell hx (by dsimp only; omega)).trans c11
      replace hx0 := Ext.trans hx0 hx
      replace hsz := Nat.le_trans hsz hsz1
      clear hx hsz1
      have hl0 : w.heap.size < wx.heap.size := by omega
      rw [hh.out]
      go_wp2_with fail
      refine (rlen_yes _ _ f7).mono ?_
      rintro e wy ⟨rfl, rfl⟩
      go_wp2_with fail
      go_ret
      refine ⟨ret_bool ?_, by (repeat' (first | (with_reducible assumption) | (with_reducible exact Ext.refl _) | (with_reducible refine Ext.grow ?_ _) | (with_reducible refine Ext.drew ?_) | (with_reducible refine Ext.set ?_ ?_ _) | omega | (simp; done) | (simp; omega) | (refine Ext.trans ?_ (by assumption))))⟩
      first | rfl | (simp; done) | (simp; omega)
  · have hl : lenF at_ ln = 48 * at_ := if_neg g
    by_cases q1 : 48 * at_ ≤ t - bo + lt
    · skip
      have k : decide (endF at_ ln bo lt cu ≤ t) = true := decide_eq_true (by unfold endF; rw [hl]; split <;> omega)
      rw [k]; clear k hl
      go_enter Try.func17, Try.ntmps17
      go_wp2_with fail
      refine calls_abs (fun W => Ext w W ∧ w.heap.size + 1 ≤ W.heap.size ∧ W.cell? ⟨w.heap.size, 0, none⟩ = some (.int .i64 fr) ∧ W.cell? ⟨w.heap.size, 1, none⟩ = some (.int .i64 em) ∧ W.cell? ⟨w.heap.size, 2, none⟩ = some (.int .i64 ki) ∧ W.cell? ⟨w.heap.size, 3, none⟩ = some (.int .i64 od) ∧ W.cell? ⟨w.heap.size, 4, none⟩ = some (.int .i64 at_) ∧ W.cell? ⟨w.heap.size, 5, none⟩ = some (.int .i64 gn) ∧ W.cell? ⟨w.heap.size, 6, none⟩ = some (.int .i64 pn) ∧ W.cell? ⟨w.heap.size, 7, none⟩ = some (.int .i64 pr) ∧ W.cell? ⟨w.heap.size, 8, none⟩ = some (.int .i64 ln) ∧ W.cell? ⟨w.heap.size, 9, none⟩ = some (.int .i64 bo) ∧ W.cell? ⟨w.heap.size, 10, none⟩ = some (.int .i64 lt) ∧ W.cell? ⟨w.heap.size, 11, none⟩ = some (.int .i64 cu)) (by refine ⟨by (repeat' (first | (with_reducible assumption) | (with_reducible exact Ext.refl _) | (with_reducible refine Ext.grow ?_ _) | (with_reducible refine Ext.drew ?_) | (with_reducible refine Ext.set ?_ ?_ _) | omega | (simp; done) | (simp; omega) | (refine Ext.trans ?_ (by assumption)))), by first | (with_reducible assumption) | (simp; done) | (simp; omega), ?_, ?_, ?_, ?_, ?_, ?_, ?_, ?_, ?_, ?_, ?_, ?_⟩ <;> first | (with_reducible assumption) | (go_simp; done) | (simp; omega)) ?_
      (try clear hx0)
      (try clear hsz)
      (try clear c0)
      (try clear c1)
      (try clear c2)
      (try clear c3)
      (try clear c4)
      (try clear c5)
      (try clear c6)
      (try clear c7)
      (try clear c8)
      (try clear c9)
      (try clear c10)
      (try clear c11)
      rintro W ⟨hx0, hsz, c0, c1, c2, c3, c4, c5, c6, c7, c8, c9, c10, c11⟩
      refine (rat_any _ _ _ _ _ _ _ _ _ _ _ _ _ _).mono ?_
      rintro e wx ⟨rfl, hx⟩
      have hsz1 := Ext.size hx
      replace c0 := (Ext.cell hx (by dsimp only; omega)).trans c0
      replace c1 := (Ext.cell hx (by dsimp only; omega)).trans c1
      replace c2 := (Ext.cell hx (by dsimp only; omega)).trans c2
      replace c3 := (Ext.cell hx (by dsimp only; omega)).trans c3
      replace c4 := (Ext.cell hx (by dsimp only; omega)).trans c4
      replace c5 := (Ext.cell hx (by dsimp only; omega)).trans c5
      replace c6 := (Ext.cell hx (by dsimp only; omega)).trans c6
      replace c7 := (Ext.cell hx (by dsimp only; omega)).trans c7
      replace c8 := (Ext.cell hx (by dsimp only; omega)).trans c8
      replace c9 := (Ext.cell hx (by dsimp only; omega)).trans c9
      replace c10 := (Ext.cell hx (by dsimp only; omega)).trans c10
      replace c11 := (Ext.cell hx (by dsimp only; omega)).trans c11
      replace hx0 := Ext.trans hx0 hx
      replace hsz := Nat.le_trans hsz hsz1
      clear hx hsz1
      have hl0 : w.heap.size < wx.heap.size := by omega
      rw [hh.out]
      go_wp2_with fail
      refine (rlen_yes _ _ f7).mono ?_
      rintro e wy ⟨rfl, rfl⟩
      go_wp2_with fail
      go_ret
      refine ⟨ret_bool ?_, by (repeat' (first | (with_reducible assumption) | (with_reducible exact Ext.refl _) | (with_reducible refine Ext.grow ?_ _) | (with_reducible refine Ext.drew ?_) | (with_reducible refine Ext.set ?_ ?_ _) | omega | (simp; done) | (simp; omega) | (refine Ext.trans ?_ (by assumption))))⟩
      first | rfl | (simp; done) | (simp; omega)
    by_cases q2 : 0 ≤ cu
    · by_cases q3 : 64 ≤ t - cu
      · skip
        have k : decide (endF at_ ln bo lt cu ≤ t) = true := decide_eq_true (by unfold endF; rw [hl]; split <;> omega)
        rw [k]; clear k hl
        go_enter Try.func17, Try.ntmps17
        go_wp2_with fail
        refine calls_abs (fun W => Ext w W ∧ w.heap.size + 1 ≤ W.heap.size ∧ W.cell? ⟨w.heap.size, 0, none⟩ = some (.int .i64 fr) ∧ W.cell? ⟨w.heap.size, 1, none⟩ = some (.int .i64 em) ∧ W.cell? ⟨w.heap.size, 2, none⟩ = some (.int .i64 ki) ∧ W.cell? ⟨w.heap.size, 3, none⟩ = some (.int .i64 od) ∧ W.cell? ⟨w.heap.size, 4, none⟩ = some (.int .i64 at_) ∧ W.cell? ⟨w.heap.size, 5, none⟩ = some (.int .i64 gn) ∧ W.cell? ⟨w.heap.size, 6, none⟩ = some (.int .i64 pn) ∧ W.cell? ⟨w.heap.size, 7, none⟩ = some (.int .i64 pr) ∧ W.cell? ⟨w.heap.size, 8, none⟩ = some (.int .i64 ln) ∧ W.cell? ⟨w.heap.size, 9, none⟩ = some (.int .i64 bo) ∧ W.cell? ⟨w.heap.size, 10, none⟩ = some (.int .i64 lt) ∧ W.cell? ⟨w.heap.size, 11, none⟩ = some (.int .i64 cu)) (by refine ⟨by (repeat' (first | (with_reducible assumption) | (with_reducible exact Ext.refl _) | (with_reducible refine Ext.grow ?_ _) | (with_reducible refine Ext.drew ?_) | (with_reducible refine Ext.set ?_ ?_ _) | omega | (simp; done) | (simp; omega) | (refine Ext.trans ?_ (by assumption)))), by first | (with_reducible assumption) | (simp; done) | (simp; omega), ?_, ?_, ?_, ?_, ?_, ?_, ?_, ?_, ?_, ?_, ?_, ?_⟩ <;> first | (with_reducible assumption) | (go_simp; done) | (simp; omega)) ?_
        (try clear hx0)
        (try clear hsz)
        (try clear c0)
        (try clear c1)
        (try clear c2)
        (try clear c3)
        (try clear c4)
        (try clear c5)
        (try clear c6)
        (try clear c7)
        (try clear c8)
        (try clear c9)
        (try clear c10)
        (try clear c11)
        rintro W ⟨hx0, hsz, c0, c1, c2, c3, c4, c5, c6, c7, c8, c9, c10, c11⟩
        refine (rat_any _ _ _ _ _ _ _ _ _ _ _ _ _ _).mono ?_
        rintro e wx ⟨rfl, hx⟩
        have hsz1 := Ext.size hx
        replace c0 := (Ext.cell hx (by dsimp only; omega)).trans c0
        replace c1 := (Ext.cell hx (by dsimp only; omega)).trans c1
        replace c2 := (Ext.cell hx (by dsimp only; omega)).trans c2
        replace c3 := (Ext.cell hx (by dsimp only; omega)).trans c3
        replace c4 := (Ext.cell hx (by dsimp only; omega)).trans c4
        replace c5 := (Ext.cell hx (by dsimp only; omega)).trans c5
        replace c6 := (Ext.cell hx (by dsimp only; omega)).trans c6
        replace c7 := (Ext.cell hx (by dsimp only; omega)).trans c7
        replace c8 := (Ext.cell hx (by dsimp only; omega)).trans c8
        replace c9 := (Ext.cell hx (by dsimp only; omega)).trans c9
        replace c10 := (Ext.cell hx (by dsimp only; omega)).trans c10
        replace c11 := (Ext.cell hx (by dsimp only; omega)).trans c11
        replace hx0 := Ext.trans hx0 hx
        replace hsz := Nat.le_trans hsz hsz1
        clear hx hsz1
        have hl0 : w.heap.size < wx.heap.size := by omega
        rw [hh.out]
        go_wp2_with fail
        refine (rlen_yes _ _ f7).mono ?_
        rintro e wy ⟨rfl, rfl⟩
        go_wp2_with fail
        go_ret
        refine ⟨ret_bool ?_, by (repeat' (first | (with_reducible assumption) | (with_reducible exact Ext.refl _) | (with_reducible refine Ext.grow ?_ _) | (with_reducible refine Ext.drew ?_) | (with_reducible refine Ext.set ?_ ?_ _) | omega | (simp; done) | (simp; omega) | (refine Ext.trans ?_ (by assumption))))⟩
        first | rfl | (simp; done) | (simp; omega)
      · skip
        have k : decide (endF at_ ln bo lt cu ≤ t) = false := decide_eq_false (by unfold endF; rw [hl]; split <;> omega)
        rw [k]; clear k hl
        go_enter Try.func17, Try.ntmps17
        go_wp2_with fail
        refine calls_abs (fun W => Ext w W ∧ w.heap.size + 1 ≤ W.heap.size ∧ W.cell? ⟨w.heap.size, 0, none⟩ = some (.int .i64 fr) ∧ W.cell? ⟨w.heap.size, 1, none⟩ = some (.int .i64 em) ∧ W.cell? ⟨w.heap.size, 2, none⟩ = some (.int .i64 ki) ∧ W.cell? ⟨w.heap.size, 3, none⟩ = some (.int .i64 od) ∧ W.cell? ⟨w.heap.size, 4, none⟩ = some (.int .i64 at_) ∧ W.cell? ⟨w.heap.size, 5, none⟩ = some (.int .i64 gn) ∧ W.cell? ⟨w.heap.size, 6, none⟩ = some (.int .i64 pn) ∧ W.cell? ⟨w.heap.size, 7, none⟩ = some (.int .i64 pr) ∧ W.cell? ⟨w.heap.size, 8, none⟩ = some (.int .i64 ln) ∧ W.cell? ⟨w.heap.size, 9, none⟩ = some (.int .i64 bo) ∧ W.cell? ⟨w.heap.size, 10, none⟩ = some (.int .i64 lt) ∧ W.cell? ⟨w.heap.size, 11, none⟩ = some (.int .i64 cu)) (by refine ⟨by (repeat' (first | (with_reducible assumption) | (with_reducible exact Ext.refl _) | (with_reducible refine Ext.grow ?_ _) | (with_reducible refine Ext.drew ?_) | (with_reducible refine Ext.set ?_ ?_ _) | omega | (simp; done) | (simp; omega) | (refine Ext.trans ?_ (by assumption)))), by first | (with_reducible assumption) | (simp; done) | (simp; omega), ?_, ?_, ?_, ?_, ?_, ?_, ?_, ?_, ?_, ?_, ?_, ?_⟩ <;> first | (with_reducible assumption) | (go_simp; done) | (simp; omega)) ?_
        (try clear hx0)
        (try clear hsz)
        (try clear c0)
        (try clear c1)
        (try clear c2)
        (try clear c3)
        (try clear c4)
        (try clear c5)
        (try clear c6)
        (try clear c7)
        (try clear c8)
        (try clear c9)
        (try clear c10)
        (try clear c11)
        rintro W ⟨hx0, hsz, c0, c1, c2, c3, c4, c5, c6, c7, c8, c9, c10, c11⟩
        refine (rat_any _ _ _ _ _ _ _ _ _ _ _ _ _ _).mono ?_
        rintro e wx ⟨rfl, hx⟩
        have hsz1 := Ext.size hx
        replace c0 := (Ext.cell hx (by dsimp only; omega)).trans c0
        replace c1 := (Ext.cell hx (by dsimp only; omega)).trans c1
        replace c2 := (Ext.cell hx (by dsimp only; omega)).trans c2
        replace c3 := (Ext.cell hx (by dsimp only; omega)).trans c3
        replace c4 := (Ext.cell hx (by dsimp only; omega)).trans c4
        replace c5 := (Ext.cell hx (by dsimp only; omega)).trans c5
        replace c6 := (Ext.cell hx (by dsimp only; omega)).trans c6
        replace c7 := (Ext.cell hx (by dsimp only; omega)).trans c7
        replace c8 := (Ext.cell hx (by dsimp only; omega)).trans c8
        replace c9 := (Ext.cell hx (by dsimp only; omega)).trans c9
        replace c10 := (Ext.cell hx (by dsimp only; omega)).trans c10
        replace c11 := (Ext.cell hx (by dsimp only; omega)).trans c11
        replace hx0 := Ext.trans hx0 hx
        replace hsz := Nat.le_trans hsz hsz1
        clear hx hsz1
        have hl0 : w.heap.size < wx.heap.size := by omega
        rw [hh.out]
        go_wp2_with fail
        refine (rlen_yes _ _ f7).mono ?_
        rintro e wy ⟨rfl, rfl⟩
        go_wp2_with fail
        go_ret
        refine ⟨ret_bool ?_, by (repeat' (first | (with_reducible assumption) | (with_reducible exact Ext.refl _) | (with_reducible refine Ext.grow ?_ _) | (with_reducible refine Ext.drew ?_) | (with_reducible refine Ext.set ?_ ?_ _) | omega | (simp; done) | (simp; omega) | (refine Ext.trans ?_ (by assumption))))⟩
        first | rfl | (simp; done) | (simp; omega)
    · skip
      have k : decide (endF at_ ln bo lt cu ≤ t) = false := decide_eq_false (by unfold endF; rw [hl]; split <;> omega)
      rw [k]; clear k hl
      go_enter Try.func17, Try.ntmps17
      go_wp2_with fail
      refine calls_abs (fun W => Ext w W ∧ w.heap.size + 1 ≤ W.heap.size ∧ W.cell? ⟨w.heap.size, 0, none⟩ = some (.int .i64 fr) ∧ W.cell? ⟨w.heap.size, 1, none⟩ = some (.int .i64 em) ∧ W.cell? ⟨w.heap.size, 2, none⟩ = some (.int .i64 ki) ∧ W.cell? ⟨w.heap.size, 3, none⟩ = some (.int .i64 od) ∧ W.cell? ⟨w.heap.size, 4, none⟩ = some (.int .i64 at_) ∧ W.cell? ⟨w.heap.size, 5, none⟩ = some (.int .i64 gn) ∧ W.cell? ⟨w.heap.size, 6, none⟩ = some (.int .i64 pn) ∧ W.cell? ⟨w.heap.size, 7, none⟩ = some (.int .i64 pr) ∧ W.cell? ⟨w.heap.size, 8, none⟩ = some (.int .i64 ln) ∧ W.cell? ⟨w.heap.size, 9, none⟩ = some (.int .i64 bo) ∧ W.cell? ⟨w.heap.size, 10, none⟩ = some (.int .i64 lt) ∧ W.cell? ⟨w.heap.size, 11, none⟩ = some (.int .i64 cu)) (by refine ⟨by (repeat' (first | (with_reducible assumption) | (with_reducible exact Ext.refl _) | (with_reducible refine Ext.grow ?_ _) | (with_reducible refine Ext.drew ?_) | (with_reducible refine Ext.set ?_ ?_ _) | omega | (simp; done) | (simp; omega) | (refine Ext.trans ?_ (by assumption)))), by first | (with_reducible assumption) | (simp; done) | (simp; omega), ?_, ?_, ?_, ?_, ?_, ?_, ?_, ?_, ?_, ?_, ?_, ?_⟩ <;> first | (with_reducible assumption) | (go_simp; done) | (simp; omega)) ?_
      (try clear hx0)
      (try clear hsz)
      (try clear c0)
      (try clear c1)
      (try clear c2)
      (try clear c3)
      (try clear c4)
      (try clear c5)
      (try clear c6)
      (try clear c7)
      (try clear c8)
      (try clear c9)
      (try clear c10)
      (try clear c11)
      rintro W ⟨hx0, hsz, c0, c1, c2, c3, c4, c5, c6, c7, c8, c9, c10, c11⟩
      refine (rat_any _ _ _ _ _ _ _ _ _ _ _ _ _ _).mono ?_
      rintro e wx ⟨rfl, hx⟩
      have hsz1 := Ext.size hx
      replace c0 := (Ext.cell hx (by dsimp only; omega)).trans c0
      replace c1 := (Ext.cell hx (by dsimp only; omega)).trans c1
      replace c2 := (Ext.cell hx (by dsimp only; omega)).trans c2
      replace c3 := (Ext.cell hx (by dsimp only; omega)).trans c3
      replace c4 := (Ext.cell hx (by dsimp only; omega)).trans c4
      replace c5 := (Ext.cell hx (by dsimp only; omega)).trans c5
      replace c6 := (Ext.cell hx (by dsimp only; omega)).trans c6
      replace c7 := (Ext.cell hx (by dsimp only; omega)).trans c7
      replace c8 := (Ext.cell hx (by dsimp only; omega)).trans c8
      replace c9 := (Ext.cell hx (by dsimp only; omega)).trans c9
      replace c10 := (Ext.cell hx (by dsimp only; omega)).trans c10
      replace c11 := (Ext.cell hx (by dsimp only; omega)).trans c11
      replace hx0 := Ext.trans hx0 hx
      replace hsz := Nat.le_trans hsz hsz1
      clear hx hsz1
      have hl0 : w.heap.size < wx.heap.size := by omega
      rw [hh.out]
      go_wp2_with fail
      refine (rlen_yes _ _ f7).mono ?_
      rintro e wy ⟨rfl, rfl⟩
      go_wp2_with fail
      go_ret
      refine ⟨ret_bool ?_, by (repeat' (first | (with_reducible assumption) | (with_reducible exact Ext.refl _) | (with_reducible refine Ext.grow ?_ _) | (with_reducible refine Ext.drew ?_) | (with_reducible refine Ext.set ?_ ?_ _) | omega | (simp; done) | (simp; omega) | (refine Ext.trans ?_ (by assumption))))⟩
      first | rfl | (simp; done) | (simp; omega)

set_option maxHeartbeats 4000000 in
theorem rsounds_any (fr em ki od at_ gn pn pr ln bo lt cu t : Int) (w : World) : Calls Try.prog 18 #[.agg #[.int .i64 fr, .int .i64 em, .int .i64 ki, .int .i64 od, .int .i64 at_, .int .i64 gn, .int .i64 pn, .int .i64 pr, .int .i64 ln, .int .i64 bo, .int .i64 lt, .int .i64 cu], .int .i64 t] w fun e w' => e = .returned (.bool (soundsB at_ gn pn ln bo lt cu t)) ∧ Ext w w' := by
  cases h : atB at_ gn pn ln bo lt cu t
  · have k : soundsB at_ gn pn ln bo lt cu t = false := by unfold soundsB; rw [h]; rfl
    rw [k]; clear k
    have hh := Lib.hid h
    clear h
    go_enter Try.func18, Try.ntmps18
    go_wp2_with fail
    refine calls_abs (fun W => Ext w W ∧ w.heap.size + 1 ≤ W.heap.size ∧ W.cell? ⟨w.heap.size, 0, none⟩ = some (.int .i64 fr) ∧ W.cell? ⟨w.heap.size, 1, none⟩ = some (.int .i64 em) ∧ W.cell? ⟨w.heap.size, 2, none⟩ = some (.int .i64 ki) ∧ W.cell? ⟨w.heap.size, 3, none⟩ = some (.int .i64 od) ∧ W.cell? ⟨w.heap.size, 4, none⟩ = some (.int .i64 at_) ∧ W.cell? ⟨w.heap.size, 5, none⟩ = some (.int .i64 gn) ∧ W.cell? ⟨w.heap.size, 6, none⟩ = some (.int .i64 pn) ∧ W.cell? ⟨w.heap.size, 7, none⟩ = some (.int .i64 pr) ∧ W.cell? ⟨w.heap.size, 8, none⟩ = some (.int .i64 ln) ∧ W.cell? ⟨w.heap.size, 9, none⟩ = some (.int .i64 bo) ∧ W.cell? ⟨w.heap.size, 10, none⟩ = some (.int .i64 lt) ∧ W.cell? ⟨w.heap.size, 11, none⟩ = some (.int .i64 cu)) (by refine ⟨by (repeat' (first | (with_reducible assumption) | (with_reducible exact Ext.refl _) | (with_reducible refine Ext.grow ?_ _) | (with_reducible refine Ext.drew ?_) | (with_reducible refine Ext.set ?_ ?_ _) | omega | (simp; done) | (simp; omega) | (refine Ext.trans ?_ (by assumption)))), by first | (with_reducible assumption) | (simp; done) | (simp; omega), ?_, ?_, ?_, ?_, ?_, ?_, ?_, ?_, ?_, ?_, ?_, ?_⟩ <;> first | (with_reducible assumption) | (go_simp; done) | (simp; omega)) ?_
    (try clear hx0)
    (try clear hsz)
    (try clear c0)
    (try clear c1)
    (try clear c2)
    (try clear c3)
    (try clear c4)
    (try clear c5)
    (try clear c6)
    (try clear c7)
    (try clear c8)
    (try clear c9)
    (try clear c10)
    (try clear c11)
    rintro W ⟨hx0, hsz, c0, c1, c2, c3, c4, c5, c6, c7, c8, c9, c10, c11⟩
    refine (rat_any _ _ _ _ _ _ _ _ _ _ _ _ _ _).mono ?_
    rintro e wx ⟨rfl, hx⟩
    have hsz1 := Ext.size hx
    replace c0 := (Ext.cell hx (by dsimp only; omega)).trans c0
    replace c1 := (Ext.cell hx (by dsimp only; omega)).trans c1
    replace c2 := (Ext.cell hx (by dsimp only; omega)).trans c2
    replace c3 := (Ext.cell hx (by dsimp only; omega)).trans c3
    replace c4 := (Ext.cell hx (by dsimp only; omega)).trans c4
    replace c5 := (Ext.cell hx (by dsimp only; omega)).trans c5
    replace c6 := (Ext.cell hx (by dsimp only; omega)).trans c6
    replace c7 := (Ext.cell hx (by dsimp only; omega)).trans c7
    replace c8 := (Ext.cell hx (by dsimp only; omega)).trans c8
    replace c9 := (Ext.cell hx (by dsimp only; omega)).trans c9
    replace c10 := (Ext.cell hx (by dsimp only; omega)).trans c10
    replace c11 := (Ext.cell hx (by dsimp only; omega)).trans c11
    replace hx0 := Ext.trans hx0 hx
    replace hsz := Nat.le_trans hsz hsz1
    clear hx hsz1
    have hl0 : w.heap.size < wx.heap.size := by omega
    rw [hh.out]
    go_wp2_with fail
    go_ret
    exact ⟨rfl, by (repeat' (first | (with_reducible assumption) | (with_reducible exact Ext.refl _) | (with_reducible refine Ext.grow ?_ _) | (with_reducible refine Ext.drew ?_) | (with_reducible refine Ext.set ?_ ?_ _) | omega | (simp; done) | (simp; omega) | (refine Ext.trans ?_ (by assumption))))⟩
  have hh := Lib.hid h
  by_cases c : bo ≤ t
  rotate_left
  · have k : soundsB at_ gn pn ln bo lt cu t = false := by unfold soundsB; rw [h, decide_eq_false c]; rfl
    rw [k]; clear k h
    go_enter Try.func18, Try.ntmps18
    go_wp2_with fail
    refine calls_abs (fun W => Ext w W ∧ w.heap.size + 1 ≤ W.heap.size ∧ W.cell? ⟨w.heap.size, 0, none⟩ = some (.int .i64 fr) ∧ W.cell? ⟨w.heap.size, 1, none⟩ = some (.int .i64 em) ∧ W.cell? ⟨w.heap.size, 2, none⟩ = some (.int .i64 ki) ∧ W.cell? ⟨w.heap.size, 3, none⟩ = some (.int .i64 od) ∧ W.cell? ⟨w.heap.size, 4, none⟩ = some (.int .i64 at_) ∧ W.cell? ⟨w.heap.size, 5, none⟩ = some (.int .i64 gn) ∧ W.cell? ⟨w.heap.size, 6, none⟩ = some (.int .i64 pn) ∧ W.cell? ⟨w.heap.size, 7, none⟩ = some (.int .i64 pr) ∧ W.cell? ⟨w.heap.size, 8, none⟩ = some (.int .i64 ln) ∧ W.cell? ⟨w.heap.size, 9, none⟩ = some (.int .i64 bo) ∧ W.cell? ⟨w.heap.size, 10, none⟩ = some (.int .i64 lt) ∧ W.cell? ⟨w.heap.size, 11, none⟩ = some (.int .i64 cu)) (by refine ⟨by (repeat' (first | (with_reducible assumption) | (with_reducible exact Ext.refl _) | (with_reducible refine Ext.grow ?_ _) | (with_reducible refine Ext.drew ?_) | (with_reducible refine Ext.set ?_ ?_ _) | omega | (simp; done) | (simp; omega) | (refine Ext.trans ?_ (by assumption)))), by first | (with_reducible assumption) | (simp; done) | (simp; omega), ?_, ?_, ?_, ?_, ?_, ?_, ?_, ?_, ?_, ?_, ?_, ?_⟩ <;> first | (with_reducible assumption) | (go_simp; done) | (simp; omega)) ?_
    (try clear hx0)
    (try clear hsz)
    (try clear c0)
    (try clear c1)
    (try clear c2)
    (try clear c3)
    (try clear c4)
    (try clear c5)
    (try clear c6)
    (try clear c7)
    (try clear c8)
    (try clear c9)
    (try clear c10)
    (try clear c11)
    rintro W ⟨hx0, hsz, c0, c1, c2, c3, c4, c5, c6, c7, c8, c9, c10, c11⟩
    refine (rat_any _ _ _ _ _ _ _ _ _ _ _ _ _ _).mono ?_
    rintro e wx ⟨rfl, hx⟩
    have hsz1 := Ext.size hx
    replace c0 := (Ext.cell hx (by dsimp only; omega)).trans c0
    replace c1 := (Ext.cell hx (by dsimp only; omega)).trans c1
    replace c2 := (Ext.cell hx (by dsimp only; omega)).trans c2
    replace c3 := (Ext.cell hx (by dsimp only; omega)).trans c3
    replace c4 := (Ext.cell hx (by dsimp only; omega)).trans c4
    replace c5 := (Ext.cell hx (by dsimp only; omega)).trans c5
    replace c6 := (Ext.cell hx (by dsimp only; omega)).trans c6
    replace c7 := (Ext.cell hx (by dsimp only; omega)).trans c7
    replace c8 := (Ext.cell hx (by dsimp only; omega)).trans c8
    replace c9 := (Ext.cell hx (by dsimp only; omega)).trans c9
    replace c10 := (Ext.cell hx (by dsimp only; omega)).trans c10
    replace c11 := (Ext.cell hx (by dsimp only; omega)).trans c11
    replace hx0 := Ext.trans hx0 hx
    replace hsz := Nat.le_trans hsz hsz1
    clear hx hsz1
    have hl0 : w.heap.size < wx.heap.size := by omega
    rw [hh.out]
    go_wp2_with fail
    go_ret
    exact ⟨rfl, by (repeat' (first | (with_reducible assumption) | (with_reducible exact Ext.refl _) | (with_reducible refine Ext.grow ?_ _) | (with_reducible refine Ext.drew ?_) | (with_reducible refine Ext.set ?_ ?_ _) | omega | (simp; done) | (simp; omega) | (refine Ext.trans ?_ (by assumption))))⟩
  have k : soundsB at_ gn pn ln bo lt cu t = !(overB at_ gn pn ln bo lt cu t) := by
    unfold soundsB overB; rw [h, decide_eq_true c]
    by_cases d : t < endF at_ ln bo lt cu
    · rw [decide_eq_true d, decide_eq_false (show ¬ endF at_ ln bo lt cu ≤ t by omega)]; rfl
    · rw [decide_eq_false d, decide_eq_true (show endF at_ ln bo lt cu ≤ t by omega)]; rfl
  rw [k]; clear k h
  go_enter Try.func18, Try.ntmps18
  go_wp2_with fail
  refine calls_abs (fun W => Ext w W ∧ w.heap.size + 1 ≤ W.heap.size ∧ W.cell? ⟨w.heap.size, 0, none⟩ = some (.int .i64 fr) ∧ W.cell? ⟨w.heap.size, 1, none⟩ = some (.int .i64 em) ∧ W.cell? ⟨w.heap.size, 2, none⟩ = some (.int .i64 ki) ∧ W.cell? ⟨w.heap.size, 3, none⟩ = some (.int .i64 od) ∧ W.cell? ⟨w.heap.size, 4, none⟩ = some (.int .i64 at_) ∧ W.cell? ⟨w.heap.size, 5, none⟩ = some (.int .i64 gn) ∧ W.cell? ⟨w.heap.size, 6, none⟩ = some (.int .i64 pn) ∧ W.cell? ⟨w.heap.size, 7, none⟩ = some (.int .i64 pr) ∧ W.cell? ⟨w.heap.size, 8, none⟩ = some (.int .i64 ln) ∧ W.cell? ⟨w.heap.size, 9, none⟩ = some (.int .i64 bo) ∧ W.cell? ⟨w.heap.size, 10, none⟩ = some (.int .i64 lt) ∧ W.cell? ⟨w.heap.size, 11, none⟩ = some (.int .i64 cu)) (by refine ⟨by (repeat' (first | (with_reducible assumption) | (with_reducible exact Ext.refl _) | (with_reducible refine Ext.grow ?_ _) | (with_reducible refine Ext.drew ?_) | (with_reducible refine Ext.set ?_ ?_ _) | omega | (simp; done) | (simp; omega) | (refine Ext.trans ?_ (by assumption)))), by first | (with_reducible assumption) | (simp; done) | (simp; omega), ?_, ?_, ?_, ?_, ?_, ?_, ?_, ?_, ?_, ?_, ?_, ?_⟩ <;> first | (with_reducible assumption) | (go_simp; done) | (simp; omega)) ?_
  (try clear hx0)
  (try clear hsz)
  (try clear c0)
  (try clear c1)
  (try clear c2)
  (try clear c3)
  (try clear c4)
  (try clear c5)
  (try clear c6)
  (try clear c7)
  (try clear c8)
  (try clear c9)
  (try clear c10)
  (try clear c11)
  rintro W ⟨hx0, hsz, c0, c1, c2, c3, c4, c5, c6, c7, c8, c9, c10, c11⟩
  refine (rat_any _ _ _ _ _ _ _ _ _ _ _ _ _ _).mono ?_
  rintro e wx ⟨rfl, hx⟩
  have hsz1 := Ext.size hx
  replace c0 := (Ext.cell hx (by dsimp only; omega)).trans c0
  replace c1 := (Ext.cell hx (by dsimp only; omega)).trans c1
  replace c2 := (Ext.cell hx (by dsimp only; omega)).trans c2
  replace c3 := (Ext.cell hx (by dsimp only; omega)).trans c3
  replace c4 := (Ext.cell hx (by dsimp only; omega)).trans c4
  replace c5 := (Ext.cell hx (by dsimp only; omega)).trans c5
  replace c6 := (Ext.cell hx (by dsimp only; omega)).trans c6
  replace c7 := (Ext.cell hx (by dsimp only; omega)).trans c7
  replace c8 := (Ext.cell hx (by dsimp only; omega)).trans c8
  replace c9 := (Ext.cell hx (by dsimp only; omega)).trans c9
  replace c10 := (Ext.cell hx (by dsimp only; omega)).trans c10
  replace c11 := (Ext.cell hx (by dsimp only; omega)).trans c11
  replace hx0 := Ext.trans hx0 hx
  replace hsz := Nat.le_trans hsz hsz1
  clear hx hsz1
  have hl0 : w.heap.size < wx.heap.size := by omega
  rw [hh.out]
  go_wp2_with fail
  refine (rover_any _ _ _ _ _ _ _ _ _ _ _ _ _ _).mono ?_
  rintro e wy ⟨rfl, hx⟩
  have hx9 := Ext.trans (show Ext w _ by (repeat' (first | (with_reducible assumption) | (with_reducible exact Ext.refl _) | (with_reducible refine Ext.grow ?_ _) | (with_reducible refine Ext.drew ?_) | (with_reducible refine Ext.set ?_ ?_ _) | omega | (simp; done) | (simp; omega) | (refine Ext.trans ?_ (by assumption))))) hx
  clear hx
  go_wp2_with fail
  go_ret
  exact ⟨rfl, hx9⟩

end Go.Proofs.Ytikdnldngonpoaa
