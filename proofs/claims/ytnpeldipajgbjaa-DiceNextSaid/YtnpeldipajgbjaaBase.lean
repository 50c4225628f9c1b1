/- WHAT THE CALLS OF THIS SEAT MAY DO TO MEMORY: 'Ext w w'': w' is w with, at most, new blocks laid behind it. Conditions: none. Own work. -/
import Derived.Handy
namespace Go.Proofs.Ytnpeldipajgbjaa
open Go.RowKit

/-- Whatever lay in w lies in w' as it lay. -/
def Ext (w w' : World) : Prop := Below w.heap.size w w'

theorem Ext.refl (w : World) : Ext w w := Below.refl _ _

theorem Ext.trans {a b c : World} (h : Ext a b) (k : Ext b c) : Ext a c :=
  Below.trans h (Below.mono k h.size)

theorem Ext.below {a b : World} (h : Ext a b) : Below a.heap.size a b := h

theorem Ext.grow {a b : World} (h : Ext a b) (o : Obj) : Ext a (b.alloc o) := Below.alloc h h.size o

theorem Ext.set {a b : World} (h : Ext a b) {p : Addr} (hp : a.heap.size ≤ p.block) (u : Value) : Ext a (b.setCell p u) := Below.setCell h hp u

theorem Ext.drew {a b : World} (h : Ext a b) : Ext a b.drew := Below.drew h

theorem Ext.size {a b : World} (h : Ext a b) : a.heap.size ≤ b.heap.size := Below.size h

theorem Ext.alloc1 {a b : World} (o : Obj) (h : Ext (a.alloc o) b) : Ext a b := Ext.trans (Ext.grow (Ext.refl a) o) h

theorem Ext.drew1 {a b : World} (h : Ext a.drew b) : Ext a b := Ext.trans (Ext.drew (Ext.refl a)) h

/-- A cell of an older block reads as it did. -/
theorem Ext.cell {a b : World} (h : Ext a b) {p : Addr} (hp : p.block < a.heap.size) : b.cell? p = a.cell? p := Below.cell h hp

theorem Ext.frozen {a b : World} (h : Ext a b) {p : Addr} (hp : p.block < a.heap.size) : b.frozen? p = a.frozen? p := Below.frozen h hp

theorem ret_int {k : IntKind} {a b : Int} (h : a = b) : Ending.returned (.int k a) = .returned (.int k b) := by rw [h]

end Go.Proofs.Ytnpeldipajgbjaa
