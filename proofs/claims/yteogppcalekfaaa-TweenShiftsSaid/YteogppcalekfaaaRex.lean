/- A WALK BY COMPUTATION: a function's Go text carried out on values whose SHAPE is known and whose numbers are letters; what is left to be shown comes out as one proposition, which the kernel computes. This text: the values, the memory, what they mean. Conditions: none. Own work. -/
import Derived.Handy
import Derived.Laws.Rows
import Derived.Scope
import Derived.Orders
import Derived.DeepKeys
import Derived.Test.YteogppcalekfaaaBase
namespace Go.Proofs.Yteogppcalekfaaa.Rex
open Go.RowKit
set_option linter.unusedVariables false
set_option linter.unusedSimpArgs false

/-- One cell: a number (kn: it is a numeral), a bool, the address of a cell of the block that bears the name x, nil, a slice. -/
inductive Lf where
  | int (k : IntKind) (kn : Bool) (n : Int)
  | bool (kn : Bool) (b : Bool)
  | ptr (x off : Nat)
  | nilp
  | sl (x off : Nat) (kn : Bool) (len cap : Nat)
  | nils
  | op (v : Value)
  | junk

inductive Vv where
  | one (l : Lf)
  | agg (l : List Lf)

inductive SV where
  | v (x : Vv)
  | tup (l : List Vv)
  | clo (f : FuncId) (caps : List Lf)
  | junk

/-- the blocks that the names stand for -/
abbrev Nm := Nat → Option Nat

def Nm.le (β γ : Nm) : Prop := ∀ x b, β x = some b → γ x = some b
theorem Nm.le_refl (β : Nm) : β.le β := fun _ _ h => h
theorem Nm.le_trans {α β γ : Nm} (h : α.le β) (k : β.le γ) : α.le γ := fun x b e => k x b (h x b e)

inductive HasL (β : Nm) : Lf → Value → Prop where
  | int {k kn n} : HasL β (.int k kn n) (.int k n)
  | bool {kn b} : HasL β (.bool kn b) (.bool b)
  | ptr {x o b} (h : β x = some b) : HasL β (.ptr x o) (.pointer (some ⟨b, o, none⟩))
  | nilp : HasL β .nilp (.pointer none)
  | sl {x o kn n c b} (h : β x = some b) : HasL β (.sl x o kn n c) (.slice (some ⟨b, o, none⟩) n c)
  | nils : HasL β .nils (.slice none 0 0)
  | op {v} (h : v.oneCell' = true) : HasL β (.op v) v
  | junk {v} (h : v.oneCell' = true) : HasL β .junk v

/-- element by element -/
inductive All₂ {α β : Type} (R : α → β → Prop) : List α → List β → Prop where
  | nil : All₂ R [] []
  | cons {a b l m} (h : R a b) (t : All₂ R l m) : All₂ R (a :: l) (b :: m)

inductive HasV (β : Nm) : Vv → Value → Prop where
  | one {l v} (h : HasL β l v) : HasV β (.one l) v
  | agg {ls vs} (h : All₂ (HasL β) ls vs) : HasV β (.agg ls) (.agg ⟨vs⟩)

inductive Has (β : Nm) : SV → Value → Prop where
  | v {x u} (h : HasV β x u) : Has β (.v x) u
  | tup {ls vs} (h : All₂ (HasV β) ls vs) : Has β (.tup ls) (.tuple ⟨vs⟩)
  | clo {f ls vs} (h : All₂ (HasL β) ls vs) : Has β (.clo f ls) (.func (.func f) #[] ⟨vs⟩)
  | junk {v} : Has β .junk v

section
variable {A B : Type} {R S : A → B → Prop}
theorem All₂.mono {l : List A} {m : List B} (h : All₂ R l m) (k : ∀ a b, R a b → S a b) : All₂ S l m := by
  induction h with
  | nil => exact .nil
  | cons h _ ih => exact .cons (k _ _ h) ih
theorem All₂.length {l : List A} {m : List B} (h : All₂ R l m) : m.length = l.length := by
  induction h with
  | nil => rfl
  | cons h _ ih => simp [ih]
theorem All₂.append {l l' : List A} {m m' : List B} (h : All₂ R l m) (k : All₂ R l' m') : All₂ R (l ++ l') (m ++ m') := by
  induction h with
  | nil => exact k
  | cons h _ ih => exact .cons h ih
theorem All₂.drop {l : List A} {m : List B} (h : All₂ R l m) : ∀ n, All₂ R (l.drop n) (m.drop n) := by
  induction h with
  | nil => intro n; simpa using All₂.nil
  | cons h t ih => intro n; cases n with
    | zero => exact .cons h t
    | succ n => exact ih n
theorem All₂.take {l : List A} {m : List B} (h : All₂ R l m) : ∀ n, All₂ R (l.take n) (m.take n) := by
  induction h with
  | nil => intro n; simpa using All₂.nil
  | cons h t ih => intro n; cases n with
    | zero => exact .nil
    | succ n => exact .cons h (ih n)
theorem All₂.get {l : List A} {m : List B} (h : All₂ R l m) : ∀ {i : Nat} {a : A}, l[i]? = some a → ∃ b, m[i]? = some b ∧ R a b := by
  induction h with
  | nil => intro i a h; simp at h
  | @cons a b l1 m1 h t ih =>
    intro i x hx
    cases i with
    | zero => simp at hx; subst hx; exact ⟨_, by simp, h⟩
    | succ i => simp at hx; obtain ⟨y, hy, hr⟩ := ih hx; exact ⟨y, by simpa using hy, hr⟩
theorem All₂.get' {l : List A} {m : List B} (h : All₂ R l m) : ∀ {i : Nat} {b : B}, m[i]? = some b → ∃ a, l[i]? = some a ∧ R a b := by
  induction h with
  | nil => intro i a h; simp at h
  | @cons a b l1 m1 h t ih =>
    intro i x hx
    cases i with
    | zero => simp at hx; subst hx; exact ⟨_, by simp, h⟩
    | succ i => simp at hx; obtain ⟨y, hy, hr⟩ := ih hx; exact ⟨y, by simpa using hy, hr⟩
theorem All₂.set {l : List A} {m : List B} (h : All₂ R l m) {a : A} {b : B} (k : R a b) : ∀ n, All₂ R (l.set n a) (m.set n b) := by
  induction h with
  | nil => intro n; simpa using All₂.nil
  | cons h t ih => intro n; cases n with
    | zero => exact .cons k t
    | succ n => exact .cons h (ih n)
theorem All₂.nil_inv {m : List B} (h : All₂ R [] m) : m = [] := by cases h; rfl
theorem All₂.cons_inv {a : A} {l : List A} {m : List B} (h : All₂ R (a :: l) m) : ∃ b bs, m = b :: bs ∧ R a b ∧ All₂ R l bs := by
  cases h with
  | cons h t => exact ⟨_, _, rfl, h, t⟩
end

theorem HasL.mono {β γ : Nm} (h : β.le γ) {l : Lf} {v : Value} (k : HasL β l v) : HasL γ l v := by
  cases k with
  | int => exact .int
  | bool => exact .bool
  | ptr e => exact .ptr (h _ _ e)
  | nilp => exact .nilp
  | sl e => exact .sl (h _ _ e)
  | nils => exact .nils
  | op e => exact .op e
  | junk e => exact .junk e
theorem HasV.mono {β γ : Nm} (h : β.le γ) {l : Vv} {v : Value} (k : HasV β l v) : HasV γ l v := by
  cases k with
  | one e => exact .one (e.mono h)
  | agg e => exact .agg (e.mono fun _ _ => HasL.mono h)
theorem Has.mono {β γ : Nm} (h : β.le γ) {l : SV} {v : Value} (k : Has β l v) : Has γ l v := by
  cases k with
  | v e => exact .v (e.mono h)
  | tup e => exact .tup (e.mono fun _ _ => HasV.mono h)
  | clo e => exact .clo (e.mono fun _ _ => HasL.mono h)
  | junk => exact .junk
theorem HasL.oneCell {β : Nm} {l : Lf} {v : Value} (k : HasL β l v) : v.oneCell' = true := by
  cases k <;> first | rfl | assumption
theorem HasL.cells {β : Nm} {l : Lf} {v : Value} (k : HasL β l v) : v.cells = #[v] := by
  have := k.oneCell
  cases v <;> first | rfl | (simp [Value.oneCell'] at this)

def Vv.cells : Vv → List Lf
  | .one l => [l]
  | .agg l => l
theorem HasV.cells {β : Nm} {x : Vv} {v : Value} (k : HasV β x v) : ∃ vs, v.cells = ⟨vs⟩ ∧ All₂ (HasL β) x.cells vs := by
  cases k with
  | one e => exact ⟨[v], by rw [e.cells], .cons e .nil⟩
  | agg e => exact ⟨_, rfl, e⟩

/-- what is known of a block -/
inductive Blk where
  | cells (l : List Lf) (t : TypeId)

abbrev Mem := List (Option Blk)

def HasB (β : Nm) : Blk → Option Obj → Prop
  | .cells l t, o => ∃ vs, o = some (.cells ⟨vs⟩ t (0, 0)) ∧ All₂ (HasL β) l vs

def known (m : Mem) (x : Nat) : Prop := ∃ b, m[x]? = some (some b)

structure Sat (β : Nm) (m : Mem) (w : World) : Prop where
  blk : ∀ x b, m[x]? = some (some b) → ∃ a, β x = some a ∧ HasB β b w.heap[a]?
  inj : ∀ x y a, known m x → known m y → β x = some a → β y = some a → x = y
  dom : ∀ x a, β x = some a → x < m.length

/-- what has become of the world since (m0, β0, w0) -/
structure Since (m0 : Mem) (β0 : Nm) (w0 : World) (m : Mem) (β : Nm) (w : World) : Prop where
  ext : β0.le β
  len : m0.length ≤ m.length
  new : ∀ x, m0.length ≤ x → known m x → ∃ a, β x = some a ∧ w0.heap.size ≤ a
  sub : ∀ x, x < m0.length → known m x → known m0 x
  os : w.os = w0.os
  tape : w.tape = w0.tape
  output : w.output = w0.output
  size : w0.heap.size ≤ w.heap.size
  frame : ∀ k, k < w0.heap.size → (∀ x, known m0 x → β0 x ≠ some k) → w.heap[k]? = w0.heap[k]?

theorem known_lt {m : Mem} {x : Nat} (h : known m x) : x < m.length := by
  obtain ⟨b, h⟩ := h
  exact (List.getElem?_eq_some_iff.1 h).1

theorem Since.refl (m : Mem) (β : Nm) (w : World) : Since m β w m β w :=
  ⟨Nm.le_refl β, Nat.le_refl _, fun x h k => absurd (known_lt k) (by omega), fun _ _ h => h, rfl, rfl, rfl, Nat.le_refl _, fun _ _ _ => rfl⟩

theorem Since.trans {m0 m1 m2 : Mem} {β0 β1 β2 : Nm} {w0 w1 w2 : World} (hs : Sat β0 m0 w0) (h : Since m0 β0 w0 m1 β1 w1) (k : Since m1 β1 w1 m2 β2 w2) : Since m0 β0 w0 m2 β2 w2 := by
  refine ⟨Nm.le_trans h.ext k.ext, Nat.le_trans h.len k.len, ?_, ?_, k.os.trans h.os, k.tape.trans h.tape, k.output.trans h.output, Nat.le_trans h.size k.size, ?_⟩
  · intro x hx hk
    by_cases h1 : m1.length ≤ x
    · obtain ⟨a, ha, hl⟩ := k.new x h1 hk
      exact ⟨a, ha, Nat.le_trans h.size hl⟩
    · obtain ⟨a, ha, hl⟩ := h.new x hx (k.sub x (by omega) hk)
      exact ⟨a, k.ext _ _ ha, hl⟩
  · intro x hx hk
    exact h.sub x hx (k.sub x (by have := h.len; omega) hk)
  · intro i hi hf
    rw [k.frame i (by have := h.size; omega) ?_, h.frame i hi hf]
    intro x hx he
    by_cases h1 : x < m0.length
    · have k0 := h.sub x h1 hx
      obtain ⟨b, hb⟩ := k0
      obtain ⟨a, ha, _⟩ := hs.blk x b hb
      have := h.ext _ _ ha
      rw [this] at he
      exact hf x ⟨b, hb⟩ (by rw [ha]; exact he)
    · obtain ⟨a, ha, hl⟩ := h.new x (by omega) hx
      rw [ha] at he
      cases he
      omega

theorem HasB.mono {β γ : Nm} (h : β.le γ) {b : Blk} {o : Option Obj} (k : HasB β b o) : HasB γ b o := by
  cases b with
  | cells l t => obtain ⟨vs, e, hv⟩ := k; exact ⟨vs, e, hv.mono fun _ _ => HasL.mono h⟩

theorem HasB.some {β : Nm} {b : Blk} {o : Option Obj} (k : HasB β b o) : o ≠ none := by
  cases b with
  | cells l t => obtain ⟨vs, e, hv⟩ := k; rw [e]; simp

theorem Sat.lt {β : Nm} {m : Mem} {w : World} (h : Sat β m w) {x a : Nat} (hk : known m x) (ha : β x = some a) : a < w.heap.size := by
  obtain ⟨b, hb⟩ := hk
  obtain ⟨a', ha', hB⟩ := h.blk x b hb
  rw [ha] at ha'
  cases ha'
  rcases Nat.lt_or_ge a w.heap.size with h | h
  · exact h
  · exact absurd (Array.getElem?_eq_none h) hB.some

/-- a call that at most lays new blocks -/
theorem Sat.ext {β : Nm} {m : Mem} {w w' : World} (h : Sat β m w) (k : Ext w w') : Sat β m w' := by
  refine ⟨fun x b hb => ?_, h.inj, h.dom⟩
  obtain ⟨a, ha, hB⟩ := h.blk x b hb
  exact ⟨a, ha, by rw [Below.block k a (h.lt ⟨b, hb⟩ ha)]; exact hB⟩
theorem Since.ext' {m : Mem} {β : Nm} {w w' : World} (k : Ext w w') : Since m β w m β w' :=
  ⟨Nm.le_refl β, Nat.le_refl _, fun x h k => absurd (known_lt k) (by omega), fun _ _ h => h, k.os, k.tape, k.output, k.size, fun i hi _ => k.block i hi⟩

/-- a step that turns no known block's name -/
theorem Since.trans0 {m0 m : Mem} {β0 β : Nm} {w0 w w' : World} (h : Since m0 β0 w0 m β w) (k : Since m β w m β w') (hf : ∀ i, i < w.heap.size → w'.heap[i]? = w.heap[i]?) : Since m0 β0 w0 m β w' :=
  ⟨h.ext, h.len, fun x hx hk => h.new x hx hk, h.sub, k.os.trans h.os, k.tape.trans h.tape, k.output.trans h.output, Nat.le_trans h.size k.size, fun i hi hg => by rw [hf i (by have := h.size; omega)]; exact h.frame i hi hg⟩

theorem Since.toExt {β : Nm} {m : Mem} {w w' : World} {β' : Nm} (h : Since [] β w m β' w') : Ext w w' :=
  ⟨h.os, h.tape, h.output, h.size, fun i hi => h.frame i hi fun x hx => by have := known_lt hx; simp at this⟩

/-- a name given to a block -/
def Nm.set (β : Nm) (x a : Nat) : Nm := fun y => if y = x then some a else β y
theorem Nm.le_set {β : Nm} {x a : Nat} (h : β x = none) : β.le (β.set x a) := by
  intro y b e
  unfold Nm.set
  split
  · rename_i hy; rw [hy, h] at e; cases e
  · exact e

theorem getElem?_set_some {m : Mem} {n x : Nat} {b c : Blk} (h : (m.set n (some b))[x]? = some (some c)) : (x = n ∧ c = b) ∨ (x ≠ n ∧ m[x]? = some (some c)) := by
  by_cases e : n = x
  · subst e
    rw [List.getElem?_set] at h
    simp at h
    exact .inl ⟨rfl, h.2.symm⟩
  · rw [List.getElem?_set_ne e] at h
    exact .inr ⟨fun h => e h.symm, h⟩

/-- A new block, under a name that nobody bears. -/
theorem Sat.alloc {β : Nm} {m : Mem} {w : World} (h : Sat β m w) {nm : Nat} (hn : m[nm]? = some none) (hb : β nm = none) {b : Blk} {o : Obj} (hB : HasB (β.set nm w.heap.size) b (some o)) :
    Sat (β.set nm w.heap.size) (m.set nm (some b)) (w.alloc o) := by
  have hle := Nm.le_set (a := w.heap.size) hb
  have hnl : nm < m.length := (List.getElem?_eq_some_iff.1 hn).1
  refine ⟨fun x c hc => ?_, ?_, ?_⟩
  · rcases getElem?_set_some hc with ⟨rfl, rfl⟩ | ⟨hne, hx⟩
    · exact ⟨w.heap.size, by simp [Nm.set], by rw [heap_alloc_new]; exact hB⟩
    · obtain ⟨a, ha, hA⟩ := h.blk x c hx
      exact ⟨a, hle _ _ ha, by rw [Below.heap_alloc _ _ _ (h.lt ⟨c, hx⟩ ha)]; exact hA.mono hle⟩
  · rintro x y a ⟨c, hc⟩ ⟨d, hd⟩ hx hy
    rcases getElem?_set_some hc with ⟨rfl, rfl⟩ | ⟨hne, hxm⟩ <;> rcases getElem?_set_some hd with ⟨rfl, rfl⟩ | ⟨hne', hym⟩
    · rfl
    · simp [Nm.set, hne'] at hx hy
      have := h.lt ⟨_, hym⟩ hy
      omega
    · simp [Nm.set, hne] at hx hy
      have := h.lt ⟨_, hxm⟩ hx
      omega
    · simp [Nm.set, hne, hne'] at hx hy
      exact h.inj x y a ⟨_, hxm⟩ ⟨_, hym⟩ hx hy
  · intro x a hx
    simp only [List.length_set]
    unfold Nm.set at hx
    split at hx
    · rename_i e; rw [e]; exact hnl
    · exact h.dom x a hx

theorem Since.alloc {m0 : Mem} {β0 : Nm} {w0 : World} {β : Nm} {m : Mem} {w : World} (h : Since m0 β0 w0 m β w) {nm : Nat} (hl : m0.length ≤ nm) (hb : β nm = none) (b : Blk) (o : Obj) :
    Since m0 β0 w0 (m.set nm (some b)) (β.set nm w.heap.size) (w.alloc o) := by
  have hle := Nm.le_set (a := w.heap.size) hb
  refine ⟨Nm.le_trans h.ext hle, by simpa using h.len, ?_, ?_, h.os, h.tape, h.output, ?_, ?_⟩
  · rintro x hx ⟨c, hc⟩
    rcases getElem?_set_some hc with ⟨rfl, rfl⟩ | ⟨hne, hxm⟩
    · exact ⟨_, by simp [Nm.set], h.size⟩
    · obtain ⟨a, ha, hs⟩ := h.new x hx ⟨c, hxm⟩
      exact ⟨a, hle _ _ ha, hs⟩
  · rintro x hx ⟨c, hc⟩
    rcases getElem?_set_some hc with ⟨rfl, rfl⟩ | ⟨hne, hxm⟩
    · omega
    · exact h.sub x hx ⟨c, hxm⟩
  · have := h.size; show _ ≤ (w.heap.push o).size; simp; omega
  · intro i hi hf
    rw [Below.heap_alloc _ _ _ (by have := h.size; omega)]
    exact h.frame i hi hf

end Go.Proofs.Yteogppcalekfaaa.Rex
