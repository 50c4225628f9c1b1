/- CONTRACTS OF WIDE SHAPES: the pattern read leaf by leaf (no match over all leaves at once). Own work. -/
import Derived.Test.YtceffompldihjaaRex15
namespace Go.Proofs.Ytceffompldihjaa.Rex
open Go.RowKit

def gI {α : Type} (k : IntKind) (ls : List Lf) (f : Int → List Lf → Option α) : Option α :=
  match ls with
  | .int k' _ n :: t => bif decide (k' = k) then f n t else none
  | _ => none
def gB {α : Type} (ls : List Lf) (f : Bool → List Lf → Option α) : Option α :=
  match ls with
  | .bool _ b :: t => f b t
  | _ => none
def gN {α : Type} (ls : List Lf) (a : Option α) : Option α :=
  match ls with
  | [] => a
  | _ => none
def gA {α : Type} (us : List SV) (f : List Lf → List SV → Option α) : Option α :=
  match us with
  | .v (.agg ls) :: t => f ls t
  | _ => none
def gO {α : Type} (us : List SV) (f : List Lf → List SV → Option α) : Option α :=
  match us with
  | .v (.one l) :: t => f [l] t
  | _ => none
def gE {α : Type} (us : List SV) (a : Option α) : Option α :=
  match us with
  | [] => a
  | _ => none

theorem gI_some {α : Type} {k : IntKind} {ls : List Lf} {f : Int → List Lf → Option α} {a : α} (h : gI k ls f = some a) : ∃ kn n t, ls = .int k kn n :: t ∧ f n t = some a := by
  unfold gI at h
  split at h
  · rename_i k' kn n t
    by_cases e : k' = k
    · subst e
      simp only [decide_true, cond_true] at h
      exact ⟨kn, n, t, rfl, h⟩
    · rw [decide_eq_false e] at h
      cases h
  · cases h
theorem gB_some {α : Type} {ls : List Lf} {f : Bool → List Lf → Option α} {a : α} (h : gB ls f = some a) : ∃ kn n t, ls = .bool kn n :: t ∧ f n t = some a := by
  unfold gB at h
  split at h
  · exact ⟨_, _, _, rfl, h⟩
  · cases h
theorem gN_some {α : Type} {ls : List Lf} {b : Option α} {a : α} (h : gN ls b = some a) : ls = [] ∧ b = some a := by
  unfold gN at h
  split at h
  · exact ⟨rfl, h⟩
  · cases h
theorem gA_some {α : Type} {us : List SV} {f : List Lf → List SV → Option α} {a : α} (h : gA us f = some a) : ∃ ls t, us = .v (.agg ls) :: t ∧ f ls t = some a := by
  unfold gA at h
  split at h
  · exact ⟨_, _, rfl, h⟩
  · cases h
theorem gO_some {α : Type} {us : List SV} {f : List Lf → List SV → Option α} {a : α} (h : gO us f = some a) : ∃ l t, us = .v (.one l) :: t ∧ f [l] t = some a := by
  unfold gO at h
  split at h
  · exact ⟨_, _, rfl, h⟩
  · cases h
theorem gE_some {α : Type} {us : List SV} {b : Option α} {a : α} (h : gE us b = some a) : us = [] ∧ b = some a := by
  unfold gE at h
  split at h
  · exact ⟨rfl, h⟩
  · cases h

end Go.Proofs.Ytceffompldihjaa.Rex
