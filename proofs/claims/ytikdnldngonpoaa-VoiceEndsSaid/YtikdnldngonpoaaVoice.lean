/- WHAT voice.Right, ITS REFERENCE, AND A SOUND's LENGTH COMPUTE. Conditions: none but the arguments' kinds. Own work. -/
import Derived.Test.YtikdnldngonpoaaStill
import Derived.Test.YtikdnldngonpoaaChecked
import Derived.Lib.Hide
import Derived.OpenShut
namespace Go.Proofs.Ytikdnldngonpoaa
open Go.RowKit
set_option linter.unusedVariables false
set_option linter.unusedSimpArgs false
set_option maxRecDepth 100000

def withinB (n l m : Int) : Bool := decide (l ≤ n) && decide (n ≤ m)
/-- may a voice be? -/
def rightB (at_ gn pn ln bo lt cu : Int) : Bool := withinB at_ 1 9 && (withinB gn 0 32768 && (withinB pn (-32768) 32768 && (withinB ln 0 600 && (withinB bo 0 1099511627776 && (withinB lt 0 1099511627776 && (cu == -1 || withinB cu bo 1099511627776))))))

theorem within_any (n l m : Int) (w : World) : Calls Try.prog 86 #[.int .i64 n, .int .i64 l, .int .i64 m] w fun e w' => e = .returned (.bool (withinB n l m)) ∧ w = w' := by
  by_cases c1 : l ≤ n
  · by_cases c2 : n ≤ m
    · have k : withinB n l m = true := by simp [withinB, c1, c2]
      rw [k]; clear k
      go_enter Try.func86, Try.ntmps86
      go_wp2
      go_ret
      exact ⟨rfl, rfl⟩
    · have k : withinB n l m = false := by simp [withinB, c2]
      rw [k]; clear k
      go_enter Try.func86, Try.ntmps86
      go_wp2
      go_ret
      exact ⟨rfl, rfl⟩
  · have k : withinB n l m = false := by simp [withinB, c1]
    rw [k]; clear k
    go_enter Try.func86, Try.ntmps86
    go_wp2
    go_ret
    exact ⟨rfl, rfl⟩

theorem there_any (n : Int) (w : World) : Calls Try.prog 61 #[.int .i64 n] w fun e w' => e = .returned (.bool (withinB n 1 9)) ∧ w = w' := by
  by_cases c1 : 1 ≤ n
  · by_cases c2 : n ≤ 9
    · have k : withinB n 1 9 = true := by simp [withinB, c1, c2]
      rw [k]; clear k
      go_enter Try.func61, Try.ntmps61
      go_wp2
      go_ret
      exact ⟨rfl, rfl⟩
    · have k : withinB n 1 9 = false := by simp [withinB, c2]
      rw [k]; clear k
      go_enter Try.func61, Try.ntmps61
      go_wp2
      go_ret
      exact ⟨rfl, rfl⟩
  · have k : withinB n 1 9 = false := by simp [withinB, c1]
    rw [k]; clear k
    go_enter Try.func61, Try.ntmps61
    go_wp2
    go_ret
    exact ⟨rfl, rfl⟩

theorem blen_yes (n : Int) (w : World) (h : withinB n 1 9 = true) : Calls Try.prog 24 #[.int .i64 n] w fun e w' => e = .returned (.tuple #[.int .i64 (48 * n), .int .i64 0]) ∧ w = w' := by
  have b : 1 ≤ n ∧ n ≤ 9 := by unfold withinB at h; rw [Bool.and_eq_true, decide_eq_true_eq, decide_eq_true_eq] at h; exact h
  go_enter Try.func24, Try.ntmps24
  go_wp2_with (first | (go_at_call 61; refine (there_any _ _).mono ?_; rintro e wx ⟨rfl, rfl⟩))
  go_ret2
  exact ⟨rfl, rfl⟩

theorem blen_no (n : Int) (w : World) (h : withinB n 1 9 = false) : Calls Try.prog 24 #[.int .i64 n] w fun e w' => e = .returned (.tuple #[.int .i64 0, .int .i64 14]) ∧ w = w' := by
  go_enter Try.func24, Try.ntmps24
  go_wp2_with (first | (go_at_call 61; refine (there_any _ _).mono ?_; rintro e wx ⟨rfl, rfl⟩))
  go_ret2
  exact ⟨rfl, rfl⟩

set_option maxHeartbeats 4000000 in
theorem vright_any (fr em ki od at_ gn pn pr ln bo lt cu : Int) (w : World) : Calls Try.prog 54 #[.agg #[.int .i64 fr, .int .i64 em, .int .i64 ki, .int .i64 od, .int .i64 at_, .int .i64 gn, .int .i64 pn, .int .i64 pr, .int .i64 ln, .int .i64 bo, .int .i64 lt, .int .i64 cu]] w fun e w' => e = .returned (.bool (rightB at_ gn pn ln bo lt cu)) ∧ Ext w w' := by
  cases h1 : withinB at_ 1 9
  · skip
    have k : rightB at_ gn pn ln bo lt cu = false := by simp only [rightB, h1]; rfl
    rw [k]; clear k
    go_enter Try.func54, Try.ntmps54
    go_wp2_with (first | (go_at_call 24; refine (blen_no _ _ h1).mono ?_; rintro e wx ⟨rfl, rfl⟩) | (go_at_call 86; refine (within_any _ _ _ _).mono ?_; rintro e wx ⟨rfl, rfl⟩))
    go_ret
    exact ⟨rfl, by (repeat' (first | (with_reducible assumption) | (with_reducible exact Ext.refl _) | (with_reducible refine Ext.grow ?_ _) | (with_reducible refine Ext.drew ?_) | (with_reducible refine Ext.set ?_ ?_ _) | omega | (simp; done) | (simp; omega) | (refine Ext.trans ?_ (by assumption))))⟩
  · skip
    cases h2 : withinB gn 0 32768
    · skip
      have k : rightB at_ gn pn ln bo lt cu = false := by simp only [rightB, h1, h2]; rfl
      rw [k]; clear k
      go_enter Try.func54, Try.ntmps54
      go_wp2_with (first | (go_at_call 24; refine (blen_yes _ _ h1).mono ?_; rintro e wx ⟨rfl, rfl⟩) | (go_at_call 86; refine (within_any _ _ _ _).mono ?_; rintro e wx ⟨rfl, rfl⟩))
      go_ret
      exact ⟨rfl, by (repeat' (first | (with_reducible assumption) | (with_reducible exact Ext.refl _) | (with_reducible refine Ext.grow ?_ _) | (with_reducible refine Ext.drew ?_) | (with_reducible refine Ext.set ?_ ?_ _) | omega | (simp; done) | (simp; omega) | (refine Ext.trans ?_ (by assumption))))⟩
    · skip
      cases h3 : withinB pn (-32768) 32768
      · skip
        have k : rightB at_ gn pn ln bo lt cu = false := by simp only [rightB, h1, h2, h3]; rfl
        rw [k]; clear k
        go_enter Try.func54, Try.ntmps54
        go_wp2_with (first | (go_at_call 24; refine (blen_yes _ _ h1).mono ?_; rintro e wx ⟨rfl, rfl⟩) | (go_at_call 86; refine (within_any _ _ _ _).mono ?_; rintro e wx ⟨rfl, rfl⟩))
        go_ret
        exact ⟨rfl, by (repeat' (first | (with_reducible assumption) | (with_reducible exact Ext.refl _) | (with_reducible refine Ext.grow ?_ _) | (with_reducible refine Ext.drew ?_) | (with_reducible refine Ext.set ?_ ?_ _) | omega | (simp; done) | (simp; omega) | (refine Ext.trans ?_ (by assumption))))⟩
      · skip
        cases h4 : withinB ln 0 600
        · skip
          have k : rightB at_ gn pn ln bo lt cu = false := by simp only [rightB, h1, h2, h3, h4]; rfl
          rw [k]; clear k
          go_enter Try.func54, Try.ntmps54
          go_wp2_with (first | (go_at_call 24; refine (blen_yes _ _ h1).mono ?_; rintro e wx ⟨rfl, rfl⟩) | (go_at_call 86; refine (within_any _ _ _ _).mono ?_; rintro e wx ⟨rfl, rfl⟩))
          go_ret
          exact ⟨rfl, by (repeat' (first | (with_reducible assumption) | (with_reducible exact Ext.refl _) | (with_reducible refine Ext.grow ?_ _) | (with_reducible refine Ext.drew ?_) | (with_reducible refine Ext.set ?_ ?_ _) | omega | (simp; done) | (simp; omega) | (refine Ext.trans ?_ (by assumption))))⟩
        · skip
          cases h5 : withinB bo 0 1099511627776
          · skip
            have k : rightB at_ gn pn ln bo lt cu = false := by simp only [rightB, h1, h2, h3, h4, h5]; rfl
            rw [k]; clear k
            go_enter Try.func54, Try.ntmps54
            go_wp2_with (first | (go_at_call 24; refine (blen_yes _ _ h1).mono ?_; rintro e wx ⟨rfl, rfl⟩) | (go_at_call 86; refine (within_any _ _ _ _).mono ?_; rintro e wx ⟨rfl, rfl⟩))
            go_ret
            exact ⟨rfl, by (repeat' (first | (with_reducible assumption) | (with_reducible exact Ext.refl _) | (with_reducible refine Ext.grow ?_ _) | (with_reducible refine Ext.drew ?_) | (with_reducible refine Ext.set ?_ ?_ _) | omega | (simp; done) | (simp; omega) | (refine Ext.trans ?_ (by assumption))))⟩
          · skip
            cases h6 : withinB lt 0 1099511627776
            · skip
              have k : rightB at_ gn pn ln bo lt cu = false := by simp only [rightB, h1, h2, h3, h4, h5, h6]; rfl
              rw [k]; clear k
              go_enter Try.func54, Try.ntmps54
              go_wp2_with (first | (go_at_call 24; refine (blen_yes _ _ h1).mono ?_; rintro e wx ⟨rfl, rfl⟩) | (go_at_call 86; refine (within_any _ _ _ _).mono ?_; rintro e wx ⟨rfl, rfl⟩))
              go_ret
              exact ⟨rfl, by (repeat' (first | (with_reducible assumption) | (with_reducible exact Ext.refl _) | (with_reducible refine Ext.grow ?_ _) | (with_reducible refine Ext.drew ?_) | (with_reducible refine Ext.set ?_ ?_ _) | omega | (simp; done) | (simp; omega) | (refine Ext.trans ?_ (by assumption))))⟩
            · skip
              cases h7 : (cu == -1)
              · skip
                cases h8 : withinB cu bo 1099511627776
                · skip
                  have k : rightB at_ gn pn ln bo lt cu = false := by simp only [rightB, h1, h2, h3, h4, h5, h6, h7, h8]; rfl
                  rw [k]; clear k
                  go_enter Try.func54, Try.ntmps54
                  go_wp2_with (first | (go_at_call 24; refine (blen_yes _ _ h1).mono ?_; rintro e wx ⟨rfl, rfl⟩) | (go_at_call 86; refine (within_any _ _ _ _).mono ?_; rintro e wx ⟨rfl, rfl⟩))
                  go_ret
                  exact ⟨rfl, by (repeat' (first | (with_reducible assumption) | (with_reducible exact Ext.refl _) | (with_reducible refine Ext.grow ?_ _) | (with_reducible refine Ext.drew ?_) | (with_reducible refine Ext.set ?_ ?_ _) | omega | (simp; done) | (simp; omega) | (refine Ext.trans ?_ (by assumption))))⟩
                · skip
                  have k : rightB at_ gn pn ln bo lt cu = true := by simp only [rightB, h1, h2, h3, h4, h5, h6, h7, h8]; rfl
                  rw [k]; clear k
                  go_enter Try.func54, Try.ntmps54
                  go_wp2_with (first | (go_at_call 24; refine (blen_yes _ _ h1).mono ?_; rintro e wx ⟨rfl, rfl⟩) | (go_at_call 86; refine (within_any _ _ _ _).mono ?_; rintro e wx ⟨rfl, rfl⟩))
                  go_ret
                  exact ⟨rfl, by (repeat' (first | (with_reducible assumption) | (with_reducible exact Ext.refl _) | (with_reducible refine Ext.grow ?_ _) | (with_reducible refine Ext.drew ?_) | (with_reducible refine Ext.set ?_ ?_ _) | omega | (simp; done) | (simp; omega) | (refine Ext.trans ?_ (by assumption))))⟩
              · skip
                have k : rightB at_ gn pn ln bo lt cu = true := by simp only [rightB, h1, h2, h3, h4, h5, h6, h7]; rfl
                rw [k]; clear k
                go_enter Try.func54, Try.ntmps54
                go_wp2_with (first | (go_at_call 24; refine (blen_yes _ _ h1).mono ?_; rintro e wx ⟨rfl, rfl⟩) | (go_at_call 86; refine (within_any _ _ _ _).mono ?_; rintro e wx ⟨rfl, rfl⟩))
                go_ret
                exact ⟨rfl, by (repeat' (first | (with_reducible assumption) | (with_reducible exact Ext.refl _) | (with_reducible refine Ext.grow ?_ _) | (with_reducible refine Ext.drew ?_) | (with_reducible refine Ext.set ?_ ?_ _) | omega | (simp; done) | (simp; omega) | (refine Ext.trans ?_ (by assumption))))⟩

end Go.Proofs.Ytikdnldngonpoaa
