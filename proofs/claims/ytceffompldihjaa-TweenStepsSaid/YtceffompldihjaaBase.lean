/- WHAT THE CALLS OF THIS SEAT MAY DO TO MEMORY: 'Ext w w'': w' is w with, at most, new blocks laid behind it. Conditions: none. Own work. -/
import Derived.Handy
namespace Go.Proofs.Ytceffompldihjaa
open Go.RowKit

/-- Whatever lay in w lies in w' as it lay. -/
def Ext (w w' : World) : Prop := Below w.heap.size w w'

theorem Ext.refl (w : World) : Ext w w := Below.refl _ _

theorem Ext.trans {a b c : World} (h : Ext a b) (k : Ext b c) : Ext a c :=
  Below.trans h (Below.mono k h.size)

theorem Ext.below {a b : World} (h : Ext a b) : Below a.heap.size a b := h

theorem Ext.grow {a b : World} (h : Ext a b) (o : Obj) : Ext a (b.alloc o) := Below.alloc h h.size o

theorem Ext.set {a b : World} (h : Ext a b) {p : Addr} (hp : a.heap.size ≤ p.block) (u : Value) : Ext a (b.setCell p u) := Below.setCell h hp u

theorem Ext.drew {a b : World} (h : Ext a b) : Ext a b.drew := Below.drew h

theorem Ext.size {a b : World} (h : Ext a b) : a.heap.size ≤ b.heap.size := Below.size h

theorem Ext.alloc1 {a b : World} (o : Obj) (h : Ext (a.alloc o) b) : Ext a b := Ext.trans (Ext.grow (Ext.refl a) o) h

theorem Ext.drew1 {a b : World} (h : Ext a.drew b) : Ext a b := Ext.trans (Ext.drew (Ext.refl a)) h

/-- A cell of an older block reads as it did. -/
theorem Ext.cell {a b : World} (h : Ext a b) {p : Addr} (hp : p.block < a.heap.size) : b.cell? p = a.cell? p := Below.cell h hp

theorem Ext.frozen {a b : World} (h : Ext a b) {p : Addr} (hp : p.block < a.heap.size) : b.frozen? p = a.frozen? p := Below.frozen h hp

/-- The world at hand under a new name: of it is known what S says, no more. -/
theorem calls_abs {P : Program} {f : FuncId} {args : Array Value} {w : World} {Q : Ending → World → Prop} (S : World → Prop) (h : S w) (k : ∀ W, S W → Calls P f args W Q) : Calls P f args w Q := k w h
theorem wp_abs {P : Program} {c : Code} {a : Act} {w : World} {Q : Exit → Act → World → Prop} (S : World → Prop) (h : S w) (k : ∀ W, S W → c.wp P Q a W) : c.wp P Q a w := k w h

theorem calls_flip {P : Program} {f : FuncId} {args : Array Value} {w : World} {E : Ending} (h : Calls P f args w fun e w' => e = E ∧ w = w') : Calls P f args w fun e w' => e = E ∧ w' = w :=
  h.mono fun _ _ ⟨a, b⟩ => ⟨a, b.symm⟩

/-- What a cell holds, whatever that is. -/
def heldAt (w : World) (a : Addr) : Value := (w.cell? a).getD undef

theorem heldAt_some {w : World} {a : Addr} (h : (w.cell? a).isSome = true) : w.cell? a = some (heldAt w a) := by
  unfold heldAt
  cases hc : w.cell? a with
  | none => rw [hc] at h; cases h
  | some v => rfl

theorem Ext.held {a b : World} (h : Ext a b) {p : Addr} (hp : p.block < a.heap.size) (hc : a.cell? p = some (heldAt a p)) : b.cell? p = some (heldAt b p) :=
  heldAt_some (by rw [Ext.cell h hp, hc]; rfl)

theorem ret_int {k : IntKind} {a b : Int} (h : a = b) : Ending.returned (.int k a) = .returned (.int k b) := by rw [h]

theorem ret_bool {a b : Bool} (h : a = b) : Ending.returned (.bool a) = .returned (.bool b) := by rw [h]

end Go.Proofs.Ytceffompldihjaa
