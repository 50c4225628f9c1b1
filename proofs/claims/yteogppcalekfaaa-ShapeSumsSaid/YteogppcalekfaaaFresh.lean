/- A BLOCK THAT A STATEMENT MAKES WHILE ITS CALLS RUN: what is known of it behind them. Own work. -/
import Derived.Test.YteogppcalekfaaaStill
namespace Go.Proofs.Yteogppcalekfaaa
open Go.RowKit
set_option linter.unusedVariables false

theorem Ext.keep1 {w b : World} {q : Nat} {a0 : Value} (hx : Ext w b) (h : w.cell? ⟨q, 0, none⟩ = some a0 ∧ w.frozen? ⟨q, 0, none⟩ = false ∧ q < w.heap.size) : b.cell? ⟨q, 0, none⟩ = some a0 ∧ b.frozen? ⟨q, 0, none⟩ = false ∧ q < b.heap.size := by
  obtain ⟨h0, h1, h2⟩ := h
  exact ⟨(Ext.cell hx h2).trans h0, (Ext.frozen hx h2).trans h1, Nat.lt_of_lt_of_le h2 (Ext.size hx)⟩

theorem Ext.fresh1 {X b : World} {a0 : Value} {t : TypeId} (hx : Ext (X.alloc (.cells #[a0] t)) b) : b.cell? ⟨X.heap.size, 0, none⟩ = some a0 ∧ b.frozen? ⟨X.heap.size, 0, none⟩ = false ∧ X.heap.size < b.heap.size := by
  refine Ext.keep1 hx ⟨?_, ?_, ?_⟩ <;> (go_simp; done)

theorem Ext.freshD1 {X b : World} {a0 : Value} {t : TypeId} (hx : Ext (X.alloc (.cells #[a0] t)).drew b) : b.cell? ⟨X.heap.size, 0, none⟩ = some a0 ∧ b.frozen? ⟨X.heap.size, 0, none⟩ = false ∧ X.heap.size < b.heap.size := by
  refine Ext.keep1 hx ⟨?_, ?_, ?_⟩ <;> (go_simp; done)

theorem Ext.keep2 {w b : World} {q : Nat} {a0 a1 : Value} (hx : Ext w b) (h : w.cell? ⟨q, 0, none⟩ = some a0 ∧ w.cell? ⟨q, 1, none⟩ = some a1 ∧ w.frozen? ⟨q, 0, none⟩ = false ∧ w.frozen? ⟨q, 1, none⟩ = false ∧ q < w.heap.size) : b.cell? ⟨q, 0, none⟩ = some a0 ∧ b.cell? ⟨q, 1, none⟩ = some a1 ∧ b.frozen? ⟨q, 0, none⟩ = false ∧ b.frozen? ⟨q, 1, none⟩ = false ∧ q < b.heap.size := by
  obtain ⟨h0, h1, h2, h3, h4⟩ := h
  exact ⟨(Ext.cell hx h4).trans h0, (Ext.cell hx h4).trans h1, (Ext.frozen hx h4).trans h2, (Ext.frozen hx h4).trans h3, Nat.lt_of_lt_of_le h4 (Ext.size hx)⟩

theorem Ext.fresh2 {X b : World} {a0 a1 : Value} {t : TypeId} (hx : Ext (X.alloc (.cells #[a0, a1] t)) b) : b.cell? ⟨X.heap.size, 0, none⟩ = some a0 ∧ b.cell? ⟨X.heap.size, 1, none⟩ = some a1 ∧ b.frozen? ⟨X.heap.size, 0, none⟩ = false ∧ b.frozen? ⟨X.heap.size, 1, none⟩ = false ∧ X.heap.size < b.heap.size := by
  refine Ext.keep2 hx ⟨?_, ?_, ?_, ?_, ?_⟩ <;> (go_simp; done)

theorem Ext.freshD2 {X b : World} {a0 a1 : Value} {t : TypeId} (hx : Ext (X.alloc (.cells #[a0, a1] t)).drew b) : b.cell? ⟨X.heap.size, 0, none⟩ = some a0 ∧ b.cell? ⟨X.heap.size, 1, none⟩ = some a1 ∧ b.frozen? ⟨X.heap.size, 0, none⟩ = false ∧ b.frozen? ⟨X.heap.size, 1, none⟩ = false ∧ X.heap.size < b.heap.size := by
  refine Ext.keep2 hx ⟨?_, ?_, ?_, ?_, ?_⟩ <;> (go_simp; done)

theorem Ext.keep4 {w b : World} {q : Nat} {a0 a1 a2 a3 : Value} (hx : Ext w b) (h : w.cell? ⟨q, 0, none⟩ = some a0 ∧ w.cell? ⟨q, 1, none⟩ = some a1 ∧ w.cell? ⟨q, 2, none⟩ = some a2 ∧ w.cell? ⟨q, 3, none⟩ = some a3 ∧ w.frozen? ⟨q, 0, none⟩ = false ∧ w.frozen? ⟨q, 1, none⟩ = false ∧ w.frozen? ⟨q, 2, none⟩ = false ∧ w.frozen? ⟨q, 3, none⟩ = false ∧ q < w.heap.size) : b.cell? ⟨q, 0, none⟩ = some a0 ∧ b.cell? ⟨q, 1, none⟩ = some a1 ∧ b.cell? ⟨q, 2, none⟩ = some a2 ∧ b.cell? ⟨q, 3, none⟩ = some a3 ∧ b.frozen? ⟨q, 0, none⟩ = false ∧ b.frozen? ⟨q, 1, none⟩ = false ∧ b.frozen? ⟨q, 2, none⟩ = false ∧ b.frozen? ⟨q, 3, none⟩ = false ∧ q < b.heap.size := by
  obtain ⟨h0, h1, h2, h3, h4, h5, h6, h7, h8⟩ := h
  exact ⟨(Ext.cell hx h8).trans h0, (Ext.cell hx h8).trans h1, (Ext.cell hx h8).trans h2, (Ext.cell hx h8).trans h3, (Ext.frozen hx h8).trans h4, (Ext.frozen hx h8).trans h5, (Ext.frozen hx h8).trans h6, (Ext.frozen hx h8).trans h7, Nat.lt_of_lt_of_le h8 (Ext.size hx)⟩

theorem Ext.fresh4 {X b : World} {a0 a1 a2 a3 : Value} {t : TypeId} (hx : Ext (X.alloc (.cells #[a0, a1, a2, a3] t)) b) : b.cell? ⟨X.heap.size, 0, none⟩ = some a0 ∧ b.cell? ⟨X.heap.size, 1, none⟩ = some a1 ∧ b.cell? ⟨X.heap.size, 2, none⟩ = some a2 ∧ b.cell? ⟨X.heap.size, 3, none⟩ = some a3 ∧ b.frozen? ⟨X.heap.size, 0, none⟩ = false ∧ b.frozen? ⟨X.heap.size, 1, none⟩ = false ∧ b.frozen? ⟨X.heap.size, 2, none⟩ = false ∧ b.frozen? ⟨X.heap.size, 3, none⟩ = false ∧ X.heap.size < b.heap.size := by
  refine Ext.keep4 hx ⟨?_, ?_, ?_, ?_, ?_, ?_, ?_, ?_, ?_⟩ <;> (go_simp; done)

theorem Ext.freshD4 {X b : World} {a0 a1 a2 a3 : Value} {t : TypeId} (hx : Ext (X.alloc (.cells #[a0, a1, a2, a3] t)).drew b) : b.cell? ⟨X.heap.size, 0, none⟩ = some a0 ∧ b.cell? ⟨X.heap.size, 1, none⟩ = some a1 ∧ b.cell? ⟨X.heap.size, 2, none⟩ = some a2 ∧ b.cell? ⟨X.heap.size, 3, none⟩ = some a3 ∧ b.frozen? ⟨X.heap.size, 0, none⟩ = false ∧ b.frozen? ⟨X.heap.size, 1, none⟩ = false ∧ b.frozen? ⟨X.heap.size, 2, none⟩ = false ∧ b.frozen? ⟨X.heap.size, 3, none⟩ = false ∧ X.heap.size < b.heap.size := by
  refine Ext.keep4 hx ⟨?_, ?_, ?_, ?_, ?_, ?_, ?_, ?_, ?_⟩ <;> (go_simp; done)

end Go.Proofs.Yteogppcalekfaaa
