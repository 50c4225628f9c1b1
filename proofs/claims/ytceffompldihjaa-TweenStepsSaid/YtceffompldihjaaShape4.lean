/- WHAT shape.Move AND ITS REFERENCE COMPUTE. Conditions: arguments within their kinds. Own work. -/
import Derived.Test.YtceffompldihjaaShape3
namespace Go.Proofs.Ytceffompldihjaa
open Go.RowKit
set_option linter.unusedVariables false
set_option maxRecDepth 100000

/-- one number of a place, a way on, between two walls: the place, the way, the wall -/
def wq (p v l h : Int) : Int := if sat (p + v) < l then l else if h < sat (p + v) then h else sat (p + v)
def wv (p v l h : Int) : Int := if sat (p + v) < l then backF v else if h < sat (p + v) then backF v else v
def wk (p v l h b a : Int) : Int := if sat (p + v) < l then b else if h < sat (p + v) then a else 0

theorem wq_bd (p v l h : Int) (hl : -2147483648 ≤ l ∧ l ≤ 2147483647) (hh : -2147483648 ≤ h ∧ h ≤ 2147483647) : -2147483648 ≤ wq p v l h ∧ wq p v l h ≤ 2147483647 := by
  have := sat_bd (p + v); unfold wq; repeat' split
  all_goals omega
theorem wq_in (p v l h : Int) (c : l ≤ h) : l ≤ wq p v l h ∧ wq p v l h ≤ h := by
  unfold wq; repeat' split
  all_goals omega
theorem backF_bd (v : Int) : -2147483648 ≤ backF v ∧ backF v ≤ 2147483647 := mulF_bd _ _

theorem wk_or (p v l h q u m n : Int) : bits .or .i64 (wk p v l h 1 2) (wk q u m n 4 8) = wk p v l h 1 2 + wk q u m n 4 8 := by
  have h1 : wk p v l h 1 2 = 1 ∨ wk p v l h 1 2 = 2 ∨ wk p v l h 1 2 = 0 := by
    unfold wk
    repeat' split
    all_goals omega
  have h2 : wk q u m n 4 8 = 4 ∨ wk q u m n 4 8 = 8 ∨ wk q u m n 4 8 = 0 := by
    unfold wk
    repeat' split
    all_goals omega
  rcases h1 with h1 | h1 | h1 <;> rcases h2 with h2 | h2 | h2 <;> rw [h1, h2] <;> decide

end Go.Proofs.Ytceffompldihjaa
