/- A WALK BY COMPUTATION: a function's Go text carried out on values whose SHAPE is known and whose numbers are letters; what is left to be shown comes out as one proposition, which the kernel computes. This text: the values, the memory, what they mean. Conditions: none. Own work. -/
import Derived.Handy
import Derived.Laws.Rows
import Derived.Scope
import Derived.Orders
import Derived.DeepKeys
import Derived.Test.YtceffompldihjaaBase
import Derived.Test.YtceffompldihjaaGlob
namespace Go.Proofs.Ytceffompldihjaa.Rex
open Go.RowKit
set_option linter.unusedVariables false
set_option linter.unusedSimpArgs false

/-- One cell: a number (kn: it is a numeral), a bool, the address of a cell of the block that bears the name x, nil, a slice. -/
inductive Lf where
  | int (k : IntKind) (kn : Bool) (n : Int)
  | bool (kn : Bool) (b : Bool)
  | ptr (x off : Nat)
  | nilp
  | sl (x off : Nat) (kn : Bool) (len cap : Nat)
  | nils
  | op (v : Value)
  | junk
  | rs (z : Bool) (tg x base sz o n c : Nat)
  | rp (x base sz i f : Nat)

/-! ### rows of numbers and bools -/
inductive Kd where
  | int (k : IntKind)
  | bool
@[reducible] def Kd.T : Kd → Type
  | .int _ => Int
  | .bool => Bool
@[reducible] def Row : List Kd → Type
  | [] => Unit
  | k :: l => k.T × Row l
def Kd.val : (k : Kd) → k.T → Value
  | .int k, n => .int k n
  | .bool, q => .bool q
def Kd.lf : (k : Kd) → k.T → Lf
  | .int k, n => .int k false n
  | .bool, q => .bool false q
def Kd.z : (k : Kd) → k.T
  | .int _ => (0 : Int)
  | .bool => false
def Kd.of : (k : Kd) → Lf → Option k.T
  | .int k, .int k' _ n => match decide (k = k') with
    | true => some n
    | false => none
  | .bool, .bool _ q => some q
  | _, _ => none
def rowV : (sh : List Kd) → Row sh → List Value
  | [], _ => []
  | k :: l, r => k.val r.1 :: rowV l r.2
def rowL : (sh : List Kd) → Row sh → List Lf
  | [], _ => []
  | k :: l, r => k.lf r.1 :: rowL l r.2
def row0 : (sh : List Kd) → Row sh
  | [] => ()
  | k :: l => (k.z, row0 l)
def rowOf : (sh : List Kd) → List Lf → Option (Row sh)
  | [], [] => some ()
  | k :: l, x :: m => match k.of x with
    | some a => match rowOf l m with
      | some r => some (a, r)
      | none => none
    | none => none
  | _, _ => none
/-- the row at a place -/
def getR {sh : List Kd} (xs : List (Row sh)) (i : Nat) : Row sh := xs.getD i (row0 sh)

inductive Vv where
  | one (l : Lf)
  | agg (l : List Lf)

inductive SV where
  | v (x : Vv)
  | tup (l : List Vv)
  | clo (f : FuncId) (caps : List Lf)
  | junk

/-- the blocks that the names stand for -/
abbrev Nm := Nat → Option Nat

def Nm.le (β γ : Nm) : Prop := ∀ x b, β x = some b → γ x = some b
theorem Nm.le_refl (β : Nm) : β.le β := fun _ _ h => h
theorem Nm.le_trans {α β γ : Nm} (h : α.le β) (k : β.le γ) : α.le γ := fun x b e => k x b (h x b e)

/-- a slice of a row's block: z: it is empty, and reaches nowhere; tg: 0: it begins where the rows begin -/
def RsOk (β : Nm) (z : Bool) (tg x base sz o n c : Nat) (v : Value) : Prop :=
  (tg = 0 → o = 0) ∧ n ≤ c ∧ ((z = true ∧ n = 0 ∧ ∃ q, v = .slice q 0 c) ∨ (z = false ∧ ∃ b, β x = some b ∧ v = .slice (some ⟨b, base + o * sz, none⟩) n c))

inductive HasL (β : Nm) : Lf → Value → Prop where
  | int {k kn n} : HasL β (.int k kn n) (.int k n)
  | bool {kn b} : HasL β (.bool kn b) (.bool b)
  | ptr {x o b} (h : β x = some b) : HasL β (.ptr x o) (.pointer (some ⟨b, o, none⟩))
  | nilp : HasL β .nilp (.pointer none)
  | sl {x o kn n c b} (h : β x = some b) : HasL β (.sl x o kn n c) (.slice (some ⟨b, o, none⟩) n c)
  | nils : HasL β .nils (.slice none 0 0)
  | op {v} (h : v.oneCell' = true) : HasL β (.op v) v
  | junk {v} (h : v.oneCell' = true) : HasL β .junk v
  | rs {z tg x base sz o n c v} (h : RsOk β z tg x base sz o n c v) : HasL β (.rs z tg x base sz o n c) v
  | rp {x base sz i f b} (h : β x = some b) : HasL β (.rp x base sz i f) (.pointer (some ⟨b, base + i * sz + f, none⟩))

/-- element by element -/
inductive All₂ {α β : Type} (R : α → β → Prop) : List α → List β → Prop where
  | nil : All₂ R [] []
  | cons {a b l m} (h : R a b) (t : All₂ R l m) : All₂ R (a :: l) (b :: m)

inductive HasV (β : Nm) : Vv → Value → Prop where
  | one {l v} (h : HasL β l v) : HasV β (.one l) v
  | agg {ls vs} (h : All₂ (HasL β) ls vs) : HasV β (.agg ls) (.agg ⟨vs⟩)

inductive Has (β : Nm) : SV → Value → Prop where
  | v {x u} (h : HasV β x u) : Has β (.v x) u
  | tup {ls vs} (h : All₂ (HasV β) ls vs) : Has β (.tup ls) (.tuple ⟨vs⟩)
  | clo {f ls vs} (h : All₂ (HasL β) ls vs) : Has β (.clo f ls) (.func (.func f) #[] ⟨vs⟩)
  | junk {v} : Has β .junk v

section
variable {A B : Type} {R S : A → B → Prop}
theorem All₂.mono {l : List A} {m : List B} (h : All₂ R l m) (k : ∀ a b, R a b → S a b) : All₂ S l m := by
  induction h with
  | nil => exact .nil
  | cons h _ ih => exact .cons (k _ _ h) ih
theorem All₂.length {l : List A} {m : List B} (h : All₂ R l m) : m.length = l.length := by
  induction h with
  | nil => rfl
  | cons h _ ih => simp [ih]
theorem All₂.append {l l' : List A} {m m' : List B} (h : All₂ R l m) (k : All₂ R l' m') : All₂ R (l ++ l') (m ++ m') := by
  induction h with
  | nil => exact k
  | cons h _ ih => exact .cons h ih
theorem All₂.drop {l : List A} {m : List B} (h : All₂ R l m) : ∀ n, All₂ R (l.drop n) (m.drop n) := by
  induction h with
  | nil => intro n; simpa using All₂.nil
  | cons h t ih => intro n; cases n with
    | zero => exact .cons h t
    | succ n => exact ih n
theorem All₂.take {l : List A} {m : List B} (h : All₂ R l m) : ∀ n, All₂ R (l.take n) (m.take n) := by
  induction h with
  | nil => intro n; simpa using All₂.nil
  | cons h t ih => intro n; cases n with
    | zero => exact .nil
    | succ n => exact .cons h (ih n)
theorem All₂.get {l : List A} {m : List B} (h : All₂ R l m) : ∀ {i : Nat} {a : A}, l[i]? = some a → ∃ b, m[i]? = some b ∧ R a b := by
  induction h with
  | nil => intro i a h; simp at h
  | @cons a b l1 m1 h t ih =>
    intro i x hx
    cases i with
    | zero => simp at hx; subst hx; exact ⟨_, by simp, h⟩
    | succ i => simp at hx; obtain ⟨y, hy, hr⟩ := ih hx; exact ⟨y, by simpa using hy, hr⟩
theorem All₂.get' {l : List A} {m : List B} (h : All₂ R l m) : ∀ {i : Nat} {b : B}, m[i]? = some b → ∃ a, l[i]? = some a ∧ R a b := by
  induction h with
  | nil => intro i a h; simp at h
  | @cons a b l1 m1 h t ih =>
    intro i x hx
    cases i with
    | zero => simp at hx; subst hx; exact ⟨_, by simp, h⟩
    | succ i => simp at hx; obtain ⟨y, hy, hr⟩ := ih hx; exact ⟨y, by simpa using hy, hr⟩
theorem All₂.set {l : List A} {m : List B} (h : All₂ R l m) {a : A} {b : B} (k : R a b) : ∀ n, All₂ R (l.set n a) (m.set n b) := by
  induction h with
  | nil => intro n; simpa using All₂.nil
  | cons h t ih => intro n; cases n with
    | zero => exact .cons k t
    | succ n => exact .cons h (ih n)
theorem All₂.nil_inv {m : List B} (h : All₂ R [] m) : m = [] := by cases h; rfl
theorem All₂.cons_inv {a : A} {l : List A} {m : List B} (h : All₂ R (a :: l) m) : ∃ b bs, m = b :: bs ∧ R a b ∧ All₂ R l bs := by
  cases h with
  | cons h t => exact ⟨_, _, rfl, h, t⟩
end

theorem RsOk.mono {β γ : Nm} (h : β.le γ) {z tg x base sz o n c v} (k : RsOk β z tg x base sz o n c v) : RsOk γ z tg x base sz o n c v := by
  obtain ⟨h1, h2, k⟩ := k
  refine ⟨h1, h2, ?_⟩
  rcases k with k | ⟨hz, b, hb, hv⟩
  · exact .inl k
  · exact .inr ⟨hz, b, h _ _ hb, hv⟩
theorem RsOk.isSlice {β : Nm} {z tg x base sz o n c v} (k : RsOk β z tg x base sz o n c v) : ∃ q, v = .slice q n c := by
  rcases k.2.2 with ⟨_, rfl, q, rfl⟩ | ⟨_, b, _, rfl⟩
  · exact ⟨q, rfl⟩
  · exact ⟨_, rfl⟩

theorem HasL.mono {β γ : Nm} (h : β.le γ) {l : Lf} {v : Value} (k : HasL β l v) : HasL γ l v := by
  cases k with
  | int => exact .int
  | bool => exact .bool
  | ptr e => exact .ptr (h _ _ e)
  | nilp => exact .nilp
  | sl e => exact .sl (h _ _ e)
  | nils => exact .nils
  | op e => exact .op e
  | junk e => exact .junk e
  | rs e => exact .rs (e.mono h)
  | rp e => exact .rp (h _ _ e)
theorem HasV.mono {β γ : Nm} (h : β.le γ) {l : Vv} {v : Value} (k : HasV β l v) : HasV γ l v := by
  cases k with
  | one e => exact .one (e.mono h)
  | agg e => exact .agg (e.mono fun _ _ => HasL.mono h)
theorem Has.mono {β γ : Nm} (h : β.le γ) {l : SV} {v : Value} (k : Has β l v) : Has γ l v := by
  cases k with
  | v e => exact .v (e.mono h)
  | tup e => exact .tup (e.mono fun _ _ => HasV.mono h)
  | clo e => exact .clo (e.mono fun _ _ => HasL.mono h)
  | junk => exact .junk
theorem HasL.oneCell {β : Nm} {l : Lf} {v : Value} (k : HasL β l v) : v.oneCell' = true := by
  cases k with
  | rs h => obtain ⟨q, rfl⟩ := h.isSlice; rfl
  | _ => first | rfl | assumption
theorem HasL.cells {β : Nm} {l : Lf} {v : Value} (k : HasL β l v) : v.cells = #[v] := by
  have := k.oneCell
  cases v <;> first | rfl | (simp [Value.oneCell'] at this)

def Vv.cells : Vv → List Lf
  | .one l => [l]
  | .agg l => l
theorem HasV.cells {β : Nm} {x : Vv} {v : Value} (k : HasV β x v) : ∃ vs, v.cells = ⟨vs⟩ ∧ All₂ (HasL β) x.cells vs := by
  cases k with
  | one e => exact ⟨[v], by rw [e.cells], .cons e .nil⟩
  | agg e => exact ⟨_, rfl, e⟩

theorem rowV_has {β : Nm} : ∀ {sh : List Kd} {r : Row sh}, All₂ (HasL β) (rowL sh r) (rowV sh r)
  | [], _ => .nil
  | .int _ :: l, r => .cons .int rowV_has
  | .bool :: l, r => .cons .bool rowV_has
theorem rowV_length : ∀ {sh : List Kd} {r : Row sh}, (rowV sh r).length = sh.length
  | [], _ => rfl
  | k :: l, r => by simp [rowV, rowV_length (sh := l)]
theorem rowOf_has {β : Nm} : ∀ {sh : List Kd} {l : List Lf} {r : Row sh} {vs : List Value}, rowOf sh l = some r → All₂ (HasL β) l vs → vs = rowV sh r
  | [], [], r, vs, h, k => by rw [k.nil_inv]; rfl
  | d :: sh, x :: l, r, vs, h, k => by
    obtain ⟨v, vs, rfl, hv, k⟩ := k.cons_inv
    unfold rowOf at h
    split at h
    · rename_i a ha
      split at h
      · rename_i r' hr
        cases h
        have ih := rowOf_has hr k
        subst ih
        show v :: _ = d.val a :: rowV sh r'
        congr 1
        unfold Kd.of at ha
        split at ha
        · split at ha
          · rename_i e
            have := of_decide_eq_true e
            subst this
            cases ha; cases hv; rfl
          · cases ha
        · cases ha; cases hv; rfl
        · cases ha
      · cases h
    · cases h
  | [], _ :: _, _, _, h, _ => by cases h
  | _ :: _, [], _, _, h, _ => by cases h
theorem flat_length {sh : List Kd} : ∀ {xs : List (Row sh)}, (xs.flatMap (rowV sh)).length = xs.length * sh.length
  | [] => by simp
  | x :: xs => by rw [List.flatMap_cons, List.length_append, rowV_length, flat_length (xs := xs), List.length_cons, Nat.add_mul]; omega

/-- what is known of a block -/
inductive Blk where
  | cells (l : List Lf) (t : TypeId)
  | rows (ro z : Bool) (sh : List Kd) (xs : List (Row sh)) (base tot : Nat) (t : TypeId)
  /-- the record of a loop over a function: what stays of it; how it stands (0 ready, 1 busy, 2 left by 'ret', 3 + id by 'exit id') -/
  | loop (r : Loop) (j : Nat)

/-- a block that need not be there -/
def Blk.dead : Blk → Prop
  | .cells _ _ => False
  | .rows _ z _ xs _ _ _ => z = true ∧ xs = []
  | .loop _ _ => False
/-- a block that may be written -/
def Blk.rw : Blk → Prop
  | .cells _ _ => True
  | .rows ro z _ _ _ _ _ => ro = false ∧ z = false
  | .loop _ _ => True
theorem Blk.rw.alive {b : Blk} (h : b.rw) : ¬ b.dead := by
  cases b with
  | cells => exact id
  | loop => exact id
  | rows => intro k; have h1 := h.2; rw [k.1] at h1; cases h1

abbrev Mem := List (Option Blk)

/-- a row's block: from base on the rows, and behind them whatever there is -/
def RowsAt (sh : List Kd) (xs : List (Row sh)) (base tot : Nat) (vs : List Value) : Prop :=
  xs.length ≤ tot ∧ base + tot * sh.length ≤ vs.length ∧ (vs.drop base).take (xs.length * sh.length) = xs.flatMap (rowV sh)

def loopAt (r : Loop) : Nat → Loop
  | 0 => { r with state := .ready, pending := none }
  | 1 => { r with state := .busy, pending := none }
  | 2 => { r with state := .done, pending := some .ret }
  | n + 3 => { r with state := .done, pending := some (.exit n) }
def HasB (β : Nm) : Blk → Option Obj → Prop
  | .cells l t, o => ∃ vs, o = some (.cells ⟨vs⟩ t (0, 0)) ∧ All₂ (HasL β) l vs
  | .rows ro z sh xs base tot t, o => z = false ∧ ∃ vs fz t', o = some (.cells ⟨vs⟩ t' fz) ∧ (ro = false → fz = (0, 0) ∧ t' = t) ∧ RowsAt sh xs base tot vs
  | .loop r j, o => o = some (.loop (loopAt r j))

def Blk.can : Bool → Blk → Prop
  | true, b => b.rw
  | false, b => ¬ b.dead
theorem Blk.can.alive {q : Bool} {b : Blk} (h : b.can q) : ¬ b.dead := by
  cases q with
  | false => exact h
  | true => exact Blk.rw.alive h
def kq (q : Bool) (m : Mem) (x : Nat) : Prop := ∃ b, m[x]? = some (some b) ∧ b.can q
/-- a block of which something is known -/
def kn (m : Mem) (x : Nat) : Prop := ∃ b, m[x]? = some (some b) ∧ ¬ b.dead
/-- .. and that may be written -/
def kw (m : Mem) (x : Nat) : Prop := ∃ b, m[x]? = some (some b) ∧ b.rw
theorem kq.kn {q : Bool} {m : Mem} {x : Nat} (h : kq q m x) : kn m x := by
  obtain ⟨b, h1, h2⟩ := h
  exact ⟨b, h1, h2.alive⟩
theorem kw.kn {m : Mem} {x : Nat} (h : kw m x) : kn m x := by
  obtain ⟨b, h1, h2⟩ := h
  exact ⟨b, h1, h2.alive⟩

/-- not one of the package's variables whose contents are known -/
def NG (a : Nat) : Prop := ∀ p ∈ GG, p.1 ≠ a
/-- these variables hold what they should -/
def Glob (w : World) : Prop := ∀ p ∈ GG, ∃ t fz, w.heap[p.1]? = some (.cells ⟨p.2⟩ t fz)
theorem Glob.lt {w : World} (h : Glob w) {a : Nat} (ha : w.heap.size ≤ a) : NG a := by
  intro p hp e
  obtain ⟨t, fz, hh⟩ := h p hp
  rw [e, Array.getElem?_eq_none ha] at hh
  cases hh
theorem Glob.keep {w w' : World} (h : Glob w) (k : ∀ p ∈ GG, p.1 < w.heap.size → w'.heap[p.1]? = w.heap[p.1]?) : Glob w' := by
  intro p hp
  obtain ⟨t, fz, hh⟩ := h p hp
  exact ⟨t, fz, by rw [k p hp (Array.getElem?_eq_some_iff.1 hh).1]; exact hh⟩

structure Sat (β : Nm) (m : Mem) (w : World) : Prop where
  blk : ∀ x b, m[x]? = some (some b) → b.dead ∨ ∃ a, β x = some a ∧ HasB β b w.heap[a]?
  inj : ∀ x y a, kw m x → kn m y → β x = some a → β y = some a → x = y
  dom : ∀ x a, β x = some a → x < m.length
  gl : Glob w
  ng : ∀ x a, kw m x → β x = some a → NG a

theorem Sat.live {β : Nm} {m : Mem} {w : World} (h : Sat β m w) {x : Nat} {b : Blk} (hb : m[x]? = some (some b)) (hd : ¬ b.dead) : ∃ a, β x = some a ∧ HasB β b w.heap[a]? := (h.blk x b hb).resolve_left hd
theorem Sat.cells {β : Nm} {m : Mem} {w : World} (h : Sat β m w) {x : Nat} {l : List Lf} {t : TypeId} (hb : m[x]? = some (some (.cells l t))) : ∃ a, β x = some a ∧ HasB β (.cells l t) w.heap[a]? := h.live hb id

/-- what has become of the world since (m0, β0, w0) -/
structure Since (m0 : Mem) (β0 : Nm) (w0 : World) (m : Mem) (β : Nm) (w : World) : Prop where
  ext : β0.le β
  same : ∀ x, x < m0.length → β x = β0 x
  len : m0.length ≤ m.length
  new : ∀ q x, m0.length ≤ x → kq q m x → ∃ a, β x = some a ∧ (w0.heap.size ≤ a ∨ ∃ y, kq q m0 y ∧ β0 y = some a)
  sub : ∀ q x, x < m0.length → kq q m x → kq q m0 x
  os : w.os = w0.os
  tape : w.tape = w0.tape
  output : w.output = w0.output
  size : w0.heap.size ≤ w.heap.size
  frame : ∀ k, k < w0.heap.size → (∀ x, kw m0 x → β0 x ≠ some k) → w.heap[k]? = w0.heap[k]?

theorem kn_lt {m : Mem} {x : Nat} (h : kn m x) : x < m.length := by
  obtain ⟨b, h, _⟩ := h
  exact (List.getElem?_eq_some_iff.1 h).1
theorem known_lt {m : Mem} {x : Nat} (h : kw m x) : x < m.length := kn_lt h.kn
theorem kq_lt {q : Bool} {m : Mem} {x : Nat} (h : kq q m x) : x < m.length := kn_lt h.kn

theorem Since.refl (m : Mem) (β : Nm) (w : World) : Since m β w m β w :=
  ⟨Nm.le_refl β, fun _ _ => rfl, Nat.le_refl _, fun q x h k => absurd (kq_lt k) (by omega), fun _ _ _ h => h, rfl, rfl, rfl, Nat.le_refl _, fun _ _ _ => rfl⟩

theorem Sat.of_kn {β : Nm} {m : Mem} {w : World} (h : Sat β m w) {x : Nat} (k : kn m x) : ∃ a, β x = some a ∧ a < w.heap.size := by
  obtain ⟨b, hb, hd⟩ := k
  obtain ⟨a, ha, hB⟩ := h.live hb hd
  refine ⟨a, ha, ?_⟩
  rcases Nat.lt_or_ge a w.heap.size with h | h
  · exact h
  · rw [Array.getElem?_eq_none h] at hB
    cases b with
    | cells => obtain ⟨vs, e, _⟩ := hB; cases e
    | rows => obtain ⟨_, vs, fz, t', e, _⟩ := hB; cases e
    | loop => cases hB

theorem Since.trans {m0 m1 m2 : Mem} {β0 β1 β2 : Nm} {w0 w1 w2 : World} (hs : Sat β0 m0 w0) (h : Since m0 β0 w0 m1 β1 w1) (k : Since m1 β1 w1 m2 β2 w2) : Since m0 β0 w0 m2 β2 w2 := by
  -- where a block lies of which something is known in m1
  have mid : ∀ q x a, kq q m1 x → β1 x = some a → w0.heap.size ≤ a ∨ ∃ y, kq q m0 y ∧ β0 y = some a := by
    intro q x a hx ha
    by_cases h1 : x < m0.length
    · have k0 := h.sub q x h1 hx
      obtain ⟨a', ha', _⟩ := hs.of_kn k0.kn
      have := h.ext _ _ ha'
      rw [this] at ha; cases ha
      exact .inr ⟨x, k0, ha'⟩
    · obtain ⟨a', ha', hor⟩ := h.new q x (by omega) hx
      rw [ha'] at ha; cases ha
      exact hor
  refine ⟨Nm.le_trans h.ext k.ext, fun x hx => by rw [k.same x (by have := h.len; omega), h.same x hx], Nat.le_trans h.len k.len, ?_, ?_, k.os.trans h.os, k.tape.trans h.tape, k.output.trans h.output, Nat.le_trans h.size k.size, ?_⟩
  · intro q x hx hk
    by_cases h1 : m1.length ≤ x
    · obtain ⟨a, ha, hl⟩ := k.new q x h1 hk
      refine ⟨a, ha, ?_⟩
      rcases hl with hl | ⟨y, hy, hya⟩
      · exact .inl (Nat.le_trans h.size hl)
      · exact mid q y a hy hya
    · have hk1 := k.sub q x (by omega) hk
      obtain ⟨a, ha, hl⟩ := h.new q x hx hk1
      exact ⟨a, k.ext _ _ ha, hl⟩
  · intro q x hx hk
    exact h.sub q x hx (k.sub q x (by have := h.len; omega) hk)
  · intro i hi hf
    rw [k.frame i (by have := h.size; omega) ?_, h.frame i hi hf]
    intro x hx he
    rcases mid true x i hx he with hl | ⟨y, hy, hya⟩
    · omega
    · exact hf y hy hya

theorem HasB.mono {β γ : Nm} (h : β.le γ) {b : Blk} {o : Option Obj} (k : HasB β b o) : HasB γ b o := by
  cases b with
  | cells l t => obtain ⟨vs, e, hv⟩ := k; exact ⟨vs, e, hv.mono fun _ _ => HasL.mono h⟩
  | rows => exact k
  | loop => exact k

theorem Sat.lt {β : Nm} {m : Mem} {w : World} (h : Sat β m w) {x a : Nat} (hk : kn m x) (ha : β x = some a) : a < w.heap.size := by
  obtain ⟨a', ha', hl⟩ := h.of_kn hk
  rw [ha] at ha'
  cases ha'
  exact hl

/-- what is known of a block is so still, where its cells have not turned -/
theorem Sat.blk_keep {β γ : Nm} {m : Mem} {w w' : World} (h : Sat β m w) (hle : β.le γ) {x : Nat} {b : Blk} (hb : m[x]? = some (some b)) (hk : ∀ a, kn m x → β x = some a → w'.heap[a]? = w.heap[a]?) : b.dead ∨ ∃ a, γ x = some a ∧ HasB γ b w'.heap[a]? := by
  rcases h.blk x b hb with hd | ⟨a, ha, hB⟩
  · exact .inl hd
  · by_cases hd : b.dead
    · exact .inl hd
    · exact .inr ⟨a, hle _ _ ha, by rw [hk a ⟨b, hb, hd⟩ ha]; exact hB.mono hle⟩

/-- a call that at most lays new blocks -/
theorem Sat.ext {β : Nm} {m : Mem} {w w' : World} (h : Sat β m w) (k : Ext w w') : Sat β m w' :=
  ⟨fun x b hb => h.blk_keep (Nm.le_refl β) hb fun a hk ha => Below.block k a (h.lt hk ha), h.inj, h.dom, h.gl.keep fun p _ hl => Below.block k p.1 hl, h.ng⟩
theorem Since.ext' {m : Mem} {β : Nm} {w w' : World} (k : Ext w w') : Since m β w m β w' :=
  ⟨Nm.le_refl β, fun _ _ => rfl, Nat.le_refl _, fun q x h k => absurd (kq_lt k) (by omega), fun _ _ _ h => h, k.os, k.tape, k.output, k.size, fun i hi _ => k.block i hi⟩

/-- .. and the block of the deferred calls of a loop's rounds lies as it lay -/
theorem Since.defer {m0 m : Mem} {β0 β : Nm} {w0 w : World} (hs : Sat β0 m0 w0) (h : Since m0 β0 w0 m β w) {D : Nat} {x : Option (List Deferred)} (hD : w0.heap[D]? = some (.deferred x)) : w.heap[D]? = some (.deferred x) := by
  rw [h.frame D (Array.getElem?_eq_some_iff.1 hD).1 ?_, hD]
  rintro y ⟨b, hb, hr⟩ hy
  obtain ⟨a, ha, hB⟩ := hs.live hb hr.alive
  rw [hy] at ha; cases ha
  rw [hD] at hB
  cases b with
  | cells => obtain ⟨vs, e, _⟩ := hB; cases e
  | rows => obtain ⟨_, vs, fz, t', e, _⟩ := hB; cases e
  | loop => cases hB

/-- a step that turns no known block's name -/
theorem Since.trans0 {m0 m : Mem} {β0 β : Nm} {w0 w w' : World} (h : Since m0 β0 w0 m β w) (k : Since m β w m β w') (hf : ∀ i, i < w.heap.size → w'.heap[i]? = w.heap[i]?) : Since m0 β0 w0 m β w' :=
  ⟨h.ext, h.same, h.len, h.new, h.sub, k.os.trans h.os, k.tape.trans h.tape, k.output.trans h.output, Nat.le_trans h.size k.size, fun i hi hg => by rw [hf i (by have := h.size; omega)]; exact h.frame i hi hg⟩

/-- where nothing that came in may be written -/
theorem Since.toExt0 {β : Nm} {m0 m : Mem} {w w' : World} {β' : Nm} (h0 : ∀ x, ¬ kw m0 x) (h : Since m0 β w m β' w') : Ext w w' :=
  ⟨h.os, h.tape, h.output, h.size, fun i hi => h.frame i hi fun x hx => absurd hx (h0 x)⟩
theorem Since.toExt {β : Nm} {m : Mem} {w w' : World} {β' : Nm} (h : Since [] β w m β' w') : Ext w w' :=
  h.toExt0 fun x hx => by have := known_lt hx; simp at this

/-- a name given to a block -/
def Nm.set (β : Nm) (x a : Nat) : Nm := fun y => if y = x then some a else β y
theorem Nm.le_set {β : Nm} {x a : Nat} (h : β x = none) : β.le (β.set x a) := by
  intro y b e
  unfold Nm.set
  split
  · rename_i hy; rw [hy, h] at e; cases e
  · exact e

theorem getElem?_set_some {m : Mem} {n x : Nat} {b c : Blk} (h : (m.set n (some b))[x]? = some (some c)) : (x = n ∧ c = b) ∨ (x ≠ n ∧ m[x]? = some (some c)) := by
  by_cases e : n = x
  · subst e
    rw [List.getElem?_set] at h
    simp at h
    exact .inl ⟨rfl, h.2.symm⟩
  · rw [List.getElem?_set_ne e] at h
    exact .inr ⟨fun h => e h.symm, h⟩

/-- A new block, under a name that nobody bears. -/
theorem Sat.alloc {β : Nm} {m : Mem} {w : World} (h : Sat β m w) {nm : Nat} (hn : m[nm]? = some none) (hb : β nm = none) {b : Blk} {o : Obj} (hB : HasB (β.set nm w.heap.size) b (some o)) :
    Sat (β.set nm w.heap.size) (m.set nm (some b)) (w.alloc o) := by
  have hle := Nm.le_set (a := w.heap.size) hb
  have hnl : nm < m.length := (List.getElem?_eq_some_iff.1 hn).1
  have old : ∀ x a, x ≠ nm → kn (m.set nm (some b)) x → (β.set nm w.heap.size) x = some a → a < w.heap.size ∧ β x = some a ∧ kn m x := by
    rintro x a hne ⟨c, hc, hd⟩ hx
    rcases getElem?_set_some hc with ⟨rfl, rfl⟩ | ⟨_, hxm⟩
    · exact absurd rfl hne
    · simp [Nm.set, hne] at hx
      exact ⟨h.lt ⟨c, hxm, hd⟩ hx, hx, c, hxm, hd⟩
  refine ⟨fun x c hc => ?_, ?_, ?_, h.gl.keep fun p _ hl => Below.heap_alloc _ _ _ hl, ?_⟩
  · rcases getElem?_set_some hc with ⟨rfl, rfl⟩ | ⟨hne, hx⟩
    · exact .inr ⟨w.heap.size, by simp [Nm.set], by rw [heap_alloc_new]; exact hB⟩
    · exact h.blk_keep hle hx fun a hk ha => Below.heap_alloc _ _ _ (h.lt hk ha)
  · rintro x y a hkx hky hx hy
    by_cases ex : x = nm
    · by_cases ey : y = nm
      · rw [ex, ey]
      · obtain ⟨hl, _, _⟩ := old y a ey hky hy
        subst ex
        simp [Nm.set] at hx
        omega
    · obtain ⟨hl, hx', _⟩ := old x a ex hkx.kn hx
      by_cases ey : y = nm
      · subst ey
        simp [Nm.set] at hy
        omega
      · obtain ⟨_, hy', hky'⟩ := old y a ey hky hy
        have hkx' : kw m x := by
          obtain ⟨c, hc, hd⟩ := hkx
          rcases getElem?_set_some hc with ⟨e, _⟩ | ⟨_, hxm⟩
          · exact absurd e ex
          · exact ⟨c, hxm, hd⟩
        exact h.inj x y a hkx' hky' hx' hy'
  · intro x a hx
    simp only [List.length_set]
    unfold Nm.set at hx
    split at hx
    · rename_i e; rw [e]; exact hnl
    · exact h.dom x a hx
  · intro x a hkx hx
    by_cases ex : x = nm
    · subst ex
      simp [Nm.set] at hx
      subst hx
      exact h.gl.lt (Nat.le_refl _)
    · obtain ⟨_, hx', _⟩ := old x a ex hkx.kn hx
      have hkx' : kw m x := by
        obtain ⟨c, hc, hd⟩ := hkx
        rcases getElem?_set_some hc with ⟨e, _⟩ | ⟨_, hxm⟩
        · exact absurd e ex
        · exact ⟨c, hxm, hd⟩
      exact h.ng x a hkx' hx'

theorem Since.alloc {m0 : Mem} {β0 : Nm} {w0 : World} {β : Nm} {m : Mem} {w : World} (h : Since m0 β0 w0 m β w) {nm : Nat} (hl : m0.length ≤ nm) (hb : β nm = none) (b : Blk) (o : Obj) :
    Since m0 β0 w0 (m.set nm (some b)) (β.set nm w.heap.size) (w.alloc o) := by
  have hle := Nm.le_set (a := w.heap.size) hb
  refine ⟨Nm.le_trans h.ext hle, fun x hx => by simp only [Nm.set]; rw [if_neg (by omega)]; exact h.same x hx, by simpa using h.len, ?_, ?_, h.os, h.tape, h.output, ?_, ?_⟩
  · rintro q x hx ⟨c, hc, hd⟩
    rcases getElem?_set_some hc with ⟨rfl, rfl⟩ | ⟨hne, hxm⟩
    · exact ⟨_, by simp [Nm.set], .inl h.size⟩
    · obtain ⟨a, ha, hs⟩ := h.new q x hx ⟨c, hxm, hd⟩
      exact ⟨a, hle _ _ ha, hs⟩
  · rintro q x hx ⟨c, hc, hd⟩
    rcases getElem?_set_some hc with ⟨rfl, rfl⟩ | ⟨hne, hxm⟩
    · omega
    · exact h.sub q x hx ⟨c, hxm, hd⟩
  · have := h.size; show _ ≤ (w.heap.push o).size; simp; omega
  · intro i hi hf
    rw [Below.heap_alloc _ _ _ (by have := h.size; omega)]
    exact h.frame i hi hf

end Go.Proofs.Ytceffompldihjaa.Rex
