/- WHAT shape.Move AND ITS REFERENCE COMPUTE. Conditions: arguments within their kinds. Own work. -/
import Derived.Test.YteogppcalekfaaaShape3
namespace Go.Proofs.Yteogppcalekfaaa
open Go.RowKit
set_option linter.unusedVariables false
set_option maxRecDepth 100000

/-- one number of a place, a way on, between two walls: the place, the way, the wall -/
def wq (p v l h : Int) : Int := if sat (p + v) < l then l else if h < sat (p + v) then h else sat (p + v)
def wv (p v l h : Int) : Int := if sat (p + v) < l then backF v else if h < sat (p + v) then backF v else v
def wk (p v l h b a : Int) : Int := if sat (p + v) < l then b else if h < sat (p + v) then a else 0

theorem wq_bd (p v l h : Int) (hl : -2147483648 ≤ l ∧ l ≤ 2147483647) (hh : -2147483648 ≤ h ∧ h ≤ 2147483647) : -2147483648 ≤ wq p v l h ∧ wq p v l h ≤ 2147483647 := by
  have := sat_bd (p + v); unfold wq; repeat' split
  all_goals omega
theorem wq_in (p v l h : Int) (c : l ≤ h) : l ≤ wq p v l h ∧ wq p v l h ≤ h := by
  unfold wq; repeat' split
  all_goals omega
theorem backF_bd (v : Int) : -2147483648 ≤ backF v ∧ backF v ≤ 2147483647 := mulF_bd _ _

theorem wall_any (p v l h b a : Int) (w : World) (hp : -2147483648 ≤ p ∧ p ≤ 2147483647) (hv : -2147483648 ≤ v ∧ v ≤ 2147483647) (hl : -2147483648 ≤ l ∧ l ≤ 2147483647) (hh : -2147483648 ≤ h ∧ h ≤ 2147483647) :
    Calls Try.prog 72 #[.int .i32 p, .int .i32 v, .int .i32 l, .int .i32 h, .int .i64 b, .int .i64 a] w fun e w' => e = .returned (.tuple #[.int .i32 (wq p v l h), .int .i32 (wv p v l h), .int .i64 (wk p v l h b a)]) ∧ w = w' := by
  have hs := sat_bd (p + v)
  have hn := sat_bd (-v)
  have kb := Lib.hid (show mulF (sat (-v)) 32768 = backF v from rfl)
  by_cases c1 : sat (p + v) < l
  · have k : wq p v l h = l ∧ wv p v l h = backF v ∧ wk p v l h b a = b := ⟨if_pos c1, if_pos c1, if_pos c1⟩
    rw [k.1, k.2.1, k.2.2]
    clear k
    go_enter Try.func72, Try.ntmps72
    go_wp2_with (first | (go_at_call 75; refine (add_any _ _ _ (by omega) (by omega)).mono ?_; rintro e wx ⟨rfl, rfl⟩) | (go_at_call 98; refine (neg_any _ _ (by omega)).mono ?_; rintro e wx ⟨rfl, rfl⟩) | (go_at_call 79; refine (mul_any _ _ _ (by omega) (by omega)).mono ?_; rintro e wx ⟨rfl, rfl⟩))
    go_ret3
    exact ⟨rfl, rfl⟩
  · by_cases c2 : h < sat (p + v)
    · have k : wq p v l h = h ∧ wv p v l h = backF v ∧ wk p v l h b a = a := by unfold wq wv wk; rw [if_neg c1, if_neg c1, if_neg c1, if_pos c2, if_pos c2, if_pos c2]; exact ⟨rfl, rfl, rfl⟩
      rw [k.1, k.2.1, k.2.2]
      clear k
      go_enter Try.func72, Try.ntmps72
      go_wp2_with (first | (go_at_call 75; refine (add_any _ _ _ (by omega) (by omega)).mono ?_; rintro e wx ⟨rfl, rfl⟩) | (go_at_call 98; refine (neg_any _ _ (by omega)).mono ?_; rintro e wx ⟨rfl, rfl⟩) | (go_at_call 79; refine (mul_any _ _ _ (by omega) (by omega)).mono ?_; rintro e wx ⟨rfl, rfl⟩))
      go_ret3
      exact ⟨rfl, rfl⟩
    · have k : wq p v l h = sat (p + v) ∧ wv p v l h = v ∧ wk p v l h b a = 0 := by unfold wq wv wk; rw [if_neg c1, if_neg c1, if_neg c1, if_neg c2, if_neg c2, if_neg c2]; exact ⟨rfl, rfl, rfl⟩
      rw [k.1, k.2.1, k.2.2]
      clear k
      go_enter Try.func72, Try.ntmps72
      go_wp2_with (first | (go_at_call 75; refine (add_any _ _ _ (by omega) (by omega)).mono ?_; rintro e wx ⟨rfl, rfl⟩) | (go_at_call 98; refine (neg_any _ _ (by omega)).mono ?_; rintro e wx ⟨rfl, rfl⟩) | (go_at_call 79; refine (mul_any _ _ _ (by omega) (by omega)).mono ?_; rintro e wx ⟨rfl, rfl⟩))
      go_ret3
      exact ⟨rfl, rfl⟩

theorem wk_or (p v l h q u m n : Int) : bits .or .i64 (wk p v l h 1 2) (wk q u m n 4 8) = wk p v l h 1 2 + wk q u m n 4 8 := by
  have h1 : wk p v l h 1 2 = 1 ∨ wk p v l h 1 2 = 2 ∨ wk p v l h 1 2 = 0 := by
    unfold wk
    repeat' split
    all_goals omega
  have h2 : wk q u m n 4 8 = 4 ∨ wk q u m n 4 8 = 8 ∨ wk q u m n 4 8 = 0 := by
    unfold wk
    repeat' split
    all_goals omega
  rcases h1 with h1 | h1 | h1 <;> rcases h2 with h2 | h2 | h2 <;> rw [h1, h2] <;> decide

theorem move_any (px py vx vy lx ly ux uy : Int) (w : World) (hpx : -2147483648 ≤ px ∧ px ≤ 2147483647) (hpy : -2147483648 ≤ py ∧ py ≤ 2147483647) (hvx : -2147483648 ≤ vx ∧ vx ≤ 2147483647) (hvy : -2147483648 ≤ vy ∧ vy ≤ 2147483647) (hlx : -2147483648 ≤ lx ∧ lx ≤ 2147483647) (hly : -2147483648 ≤ ly ∧ ly ≤ 2147483647) (hux : -2147483648 ≤ ux ∧ ux ≤ 2147483647) (huy : -2147483648 ≤ uy ∧ uy ≤ 2147483647) (c1 : lx ≤ ux) (c2 : ly ≤ uy) :
    Calls Try.prog 37 #[.agg #[.int .i32 (px), .int .i32 (py)], .agg #[.int .i32 (vx), .int .i32 (vy)], .agg #[.int .i32 lx, .int .i32 ly, .int .i32 ux, .int .i32 uy]] w fun e w' => e = .returned (.tuple #[.agg #[.int .i32 (wq px vx lx ux), .int .i32 (wq py vy ly uy)], .agg #[.int .i32 (wv px vx lx ux), .int .i32 (wv py vy ly uy)], .int .i64 (wk px vx lx ux 1 2 + wk py vy ly uy 4 8), .int .i64 0]) ∧ Ext w w' := by
  have hor := wk_or px vx lx ux py vy ly uy
  go_enter Try.func37, Try.ntmps37
  go_wp2_with (first | (go_at_call 49; go_in) | (go_at_call 72; refine (wall_any _ _ _ _ _ _ _ (by omega) (by omega) (by omega) (by omega)).mono ?_; rintro e wx ⟨rfl, rfl⟩))
  go_region
  go_wp2
  refine bodyPost_ret (v := .tuple #[.agg #[.int .i32 (wq px vx lx ux), .int .i32 (wq py vy ly uy)], .agg #[.int .i32 (wv px vx lx ux), .int .i32 (wv py vy ly uy)], .int .i64 (wk px vx lx ux 1 2 + wk py vy ly uy 4 8), .int .i64 0]) (by simp [results, Try.results37, go_sem]) rfl ⟨rfl, ?_⟩
  (repeat' (first | (with_reducible assumption) | (with_reducible exact Ext.refl _) | (with_reducible refine Ext.grow ?_ _) | (with_reducible refine Ext.drew ?_) | (with_reducible refine Ext.set ?_ ?_ _) | omega | (simp; done) | (simp; omega) | (refine Ext.trans ?_ (by assumption))))

theorem move_bad (px py vx vy lx ly ux uy : Int) (w : World) (c : ux < lx ∨ uy < ly) :
    Calls Try.prog 37 #[.agg #[.int .i32 (px), .int .i32 (py)], .agg #[.int .i32 (vx), .int .i32 (vy)], .agg #[.int .i32 lx, .int .i32 ly, .int .i32 ux, .int .i32 uy]] w fun e w' => e = .returned (.tuple #[.agg #[.int .i32 (0), .int .i32 (0)], .agg #[.int .i32 (0), .int .i32 (0)], .int .i64 0, .int .i64 1]) ∧ Ext w w' := by
  by_cases c1 : ux < lx
  · go_enter Try.func37, Try.ntmps37
    go_wp2_with (go_at_call 49; go_in)
    refine bodyPost_ret (v := .tuple #[.agg #[.int .i32 (0), .int .i32 (0)], .agg #[.int .i32 (0), .int .i32 (0)], .int .i64 0, .int .i64 1]) (by simp [results, Try.results37, go_sem]) rfl ⟨rfl, ?_⟩
    (repeat' (first | (with_reducible assumption) | (with_reducible exact Ext.refl _) | (with_reducible refine Ext.grow ?_ _) | (with_reducible refine Ext.drew ?_) | (with_reducible refine Ext.set ?_ ?_ _) | omega | (simp; done) | (simp; omega) | (refine Ext.trans ?_ (by assumption))))
  · have c2 : decide (ly ≤ uy) = false := decide_eq_false (by omega)
    have c3 : lx ≤ ux := by omega
    clear c c1
    go_enter Try.func37, Try.ntmps37
    go_wp2_with (go_at_call 49; go_in)
    refine bodyPost_ret (v := .tuple #[.agg #[.int .i32 (0), .int .i32 (0)], .agg #[.int .i32 (0), .int .i32 (0)], .int .i64 0, .int .i64 1]) (by simp [results, Try.results37, go_sem]) rfl ⟨rfl, ?_⟩
    (repeat' (first | (with_reducible assumption) | (with_reducible exact Ext.refl _) | (with_reducible refine Ext.grow ?_ _) | (with_reducible refine Ext.drew ?_) | (with_reducible refine Ext.set ?_ ?_ _) | omega | (simp; done) | (simp; omega) | (refine Ext.trans ?_ (by assumption))))

end Go.Proofs.Yteogppcalekfaaa
