/- A WALK BY COMPUTATION, part 4: a quiet operation, computed, and as the model runs it. Conditions: none. Own work. -/
import Derived.Test.YtceffompldihjaaRex3
namespace Go.Proofs.Ytceffompldihjaa.Rex
open Go.RowKit
set_option linter.unusedVariables false
set_option linter.unusedSimpArgs false

/-- what a pure function gives: under which condition, and what -/
abbrev FC := List SV → Option (Option Prop × SV)

def callable (P : Program) (f : FuncId) : Prop := ∃ fn, P.funcs[f]? = some fn ∧ (fn.name == "runtime.NumGoroutine") = false ∧ fn.body.isNone = false

def FSound (P : Program) (f : FuncId) (c : FC) : Prop := callable P f ∧ ∀ β args vals p v w, Glob w → c args = some (p, v) → ob p → All₂ (Has β) args vals →
  Calls P f ⟨vals⟩ w (fun e w' => ∃ r, e = .returned r ∧ Has β v r ∧ Ext w w')

def find {A : Type} : List (Nat × A) → Nat → Option A
  | [], _ => none
  | (g, c) :: l, f => match Nat.beq g f with
    | true => some c
    | false => find l f

theorem find_mem {A : Type} {l : List (Nat × A)} {f : Nat} {c : A} (h : find l f = some c) : (f, c) ∈ l := by
  induction l with
  | nil => cases h
  | cons x l ih =>
    obtain ⟨g, d⟩ := x
    unfold find at h
    split at h
    · rename_i e
      cases h
      rw [Nat.eq_of_beq_eq_true e]; simp
    · exact List.mem_cons_of_mem _ (ih h)

/-- what a function that reads memory alone gives -/
abbrev RC := (Nat → Option Blk) → List SV → Option (Option Prop × SV)
def RSound (P : Program) (f : FuncId) (c : RC) : Prop := callable P f ∧ ∀ β mm args vals p v w, Glob w → (∀ x b, mm x = some b → b.dead ∨ ∃ k, β x = some k ∧ HasB β b w.heap[k]?) → (∀ x l t k, mm x = some (.cells l t) → β x = some k → NG k) → c mm args = some (p, v) → ob p → All₂ (Has β) args vals →
  Calls P f ⟨vals⟩ w (fun e w' => ∃ r, e = .returned r ∧ Has β v r ∧ Ext w w')
inductive FX where
  | pure (c : FC)
  | read (c : RC)
instance : Coe FC FX := ⟨.pure⟩
instance : Coe RC FX := ⟨.read⟩
def FX.run (c : FX) (mm : Nat → Option Blk) (us : List SV) : Option (Option Prop × SV) := match c with
  | .pure c => c us
  | .read c => c mm us
def XSound (P : Program) (f : FuncId) : FX → Prop
  | .pure c => FSound P f c
  | .read c => RSound P f c
theorem XSound.run {P : Program} {f : FuncId} {c : FX} (h : XSound P f c) : callable P f ∧ ∀ β mm args vals p v w, Glob w → (∀ x b, mm x = some b → b.dead ∨ ∃ k, β x = some k ∧ HasB β b w.heap[k]?) → (∀ x l t k, mm x = some (.cells l t) → β x = some k → NG k) → c.run mm args = some (p, v) → ob p → All₂ (Has β) args vals →
    Calls P f ⟨vals⟩ w (fun e w' => ∃ r, e = .returned r ∧ Has β v r ∧ Ext w w') := by
  cases c with
  | pure c => exact ⟨h.1, fun β mm args vals p v w hg _ _ hc hp hv => h.2 β args vals p v w hg hc hp hv⟩
  | read c => exact h

structure Env where
  ev : Operand → Option SV
  mm : Nat → Option Blk

def oneL : SV → Option Lf
  | .v (.one l) => some l
  | _ => none
def asV : SV → Option Vv
  | .v x => some x
  | _ => none

def splice (cs : List Lf) (off : Nat) (vs : List Lf) : List Lf := cs.take off ++ (vs ++ cs.drop (off + vs.length))

def fillL (place : Nat → Option (Nat × Nat)) (cs : List Lf) : List (Nat × Vv) → Option (List Lf)
  | [] => some cs
  | (i, v) :: rest => match place i with
    | none => none
    | some (off, size) => match (decide (v.cells.length ≠ size) || decide (off + v.cells.length > cs.length)) with
      | true => none
      | false => fillL place (splice cs off v.cells) rest

def zeroL (P : Program) (t : TypeId) : Option (List Lf) := match P.info? t with
  | some i => match i.zero with
    | some z => omap ofLeaf z.cells.toList
    | none => none
  | none => none

def placesL (P : Program) : List Field → Option (List (Nat × Nat))
  | [] => some []
  | f :: fs => match tsize P f.type with
    | some n => match placesL P fs with
      | some l => some ((f.offset, n) :: l)
      | none => none
    | none => none

def buildL (P : Program) (t : TypeId) (parts : List (Nat × Vv)) : Option (List Lf) := match zeroL P t with
  | none => none
  | some z => match P.underlying t with
    | some (.struct fs) => match placesL P fs.toList with
      | some pl => fillL (fun i => pl[i]?) z parts
      | none => none
    | some (.array _ e) => match tsize P e with
      | some n => fillL (fun i => some (i * n, n)) z parts
      | none => none
    | _ => none

/-- a row's zeros -/
def zeroRow (P : Program) (e : TypeId) (m : Nat) : Option (List Lf) := match m with
  | 0 => some []
  | m + 1 => match zeroL P e with
    | some (a :: z) => some ((List.range (m + 1)).map fun i => (a :: z).getD (i % (a :: z).length) .nilp)
    | _ => none

def minmaxQ (mx : Bool) (k : IntKind) : Bool → Int → List SV → Option SV
  | ka, a, [] => some (ln k ka a)
  | ka, a, s :: l => match s with
    | .v (.one (.int _ kb b)) => match mx with
      | true => minmaxQ mx k (ka && kb) (if a < b then b else a) l
      | false => minmaxQ mx k (ka && kb) (if b < a then b else a) l
    | _ => none

/-- a row's shape, by its type's zero -/
def shL : List Lf → Option (List Kd)
  | [] => some []
  | .int k _ n :: l => match decide (n = 0) with
    | true => match shL l with
      | some sh => some (.int k :: sh)
      | none => none
    | false => none
  | .bool _ q :: l => match q with
    | false => match shL l with
      | some sh => some (.bool :: sh)
      | none => none
    | true => none
  | _ => none
def shOf (P : Program) (e : TypeId) : Option (List Kd) := match zeroL P e with
  | some l => shL l
  | none => none
def ibytes (P : Program) (e : TypeId) : Option Nat := match P.info? e with
  | some i => some i.bytes
  | none => none

/-- what is read at an element of rows -/
def rdRow (P : Program) (t : TypeId) (base sz i f : Nat) : Blk → Option (Option Prop × Vv)
  | .rows ro _ sh xs base' _ _ => match Nat.beq sz sh.length with
    | true => match partL P t (rowL sh (getR xs i)) f with
      | some v => match ro with
        | true => some (some (base = base' ∧ i < xs.length), v)
        | false => match Nat.beq base base' with
          | true => some (some (i < xs.length), v)
          | false => none
      | none => none
    | false => none
  | _ => none

def intOfS : SV → Option (Bool × Int)
  | .v (.one (.int _ kn i)) => some (kn, i)
  | _ => none

/-- a slice of a slice of rows -/
def slRs (z : Bool) (tg y base sz o n c : Nat) : Option (Bool × Int) → Option (Bool × Int) → Option (Bool × Int) → Option (Option Prop × SV)
  | none, some (_, h), none => some (some (0 ≤ h ∧ h ≤ (n : Int)), .v (.one (.rs z 1 y base sz o h.toNat c)))
  | some (_, l), none, none => some (some (0 ≤ l ∧ l ≤ (n : Int)), .v (.one (.rs (z || decide (c = l.toNat)) 1 y base sz (o + l.toNat) (n - l.toNat) (c - l.toNat))))
  | some (_, l), some (_, h), none => match Nat.beq tg 1 with
    | true => some (some (0 ≤ l ∧ l ≤ h ∧ h ≤ (c : Int) ∧ z = false), .v (.one (.rs (z || decide (c = l.toNat)) 1 y base sz (o + l.toNat) (h.toNat - l.toNat) (c - l.toNat))))
    | false => some (some (0 ≤ l ∧ l ≤ h ∧ h ≤ (n : Int)), .v (.one (.rs (z || decide (c = l.toNat)) 1 y base sz (o + l.toNat) (h.toNat - l.toNat) (c - l.toNat))))
  | none, some (_, h), some (km, m) => match km && decide (m = 0) with
    | true => some (some (0 ≤ h ∧ h ≤ m ∧ m ≤ (n : Int)), .v (.one (.rs z 2 y base sz o h.toNat 0)))
    | false => some (some (0 ≤ h ∧ h ≤ m ∧ m ≤ (n : Int)), .v (.one (.rs z 1 y base sz o h.toNat m.toNat)))
  | some (_, l), some (_, h), some (_, m) => some (some (0 ≤ l ∧ l ≤ h ∧ h ≤ m ∧ m ≤ (n : Int)), .v (.one (.rs (z || decide (m.toNat = l.toNat)) 1 y base sz (o + l.toNat) (h.toNat - l.toNat) (m.toNat - l.toNat))))
  | _, _, _ => none
/-- a known bound -/
def kNat : Option (Bool × Int) → Nat → Option Nat
  | none, d => some d
  | some (true, i), _ => match decide (0 ≤ i) with
    | true => some i.toNat
    | false => none
  | some (false, _), _ => none
/-- known bounds: from, to, capacity -/
def kBnd (len cap : Nat) (lo hi mx : Option (Bool × Int)) : Option (Nat × Nat × Nat) := match kNat lo 0, kNat hi len, kNat mx cap with
  | some l, some h, some m => match hi, mx with
    | none, some _ => none
    | _, _ => match Nat.ble l h && (Nat.ble h m && Nat.ble m cap) with
      | true => some (l, h, m)
      | false => none
  | _, _, _ => none
/-- nil, sliced -/
def slNil (lo hi mx : Option (Bool × Int)) : Option (Option Prop × SV) := match kBnd 0 0 lo hi mx with
  | some _ => some (none, .v (.one .nils))
  | none => none
def offSl (off l m size : Nat) : Nat := match Nat.beq m l with
  | true => off
  | false => off + l * size
def sliceQ (P : Program) (t : TypeId) (x : SV) (lo hi mx : Option (Bool × Int)) : Option (Option Prop × SV) := match P.underlying t with
  | some (.slice e) => match tsize P e with
    | some size => match x with
      | .v (.one (.rs z tg y base sz o n c)) => match Nat.beq size sz with
        | true => slRs z tg y base sz o n c lo hi mx
        | false => none
      | .v (.one .nils) => slNil lo hi mx
      | .v (.one (.sl y off _ len cap)) => match kBnd len cap lo hi mx with
        | some (l, h, m) => some (none, .v (.one (.sl y (offSl off l m size) true (h - l) (m - l))))
        | none => none
      | _ => none
    | none => none
  | some (.array len e) => match tsize P e with
    | some size => match x with
      | .v (.one (.ptr y off)) => match kBnd len len lo hi mx with
        | some (l, h, m) => some (none, .v (.one (.sl y (offSl off l m size) true (h - l) (m - l))))
        | none => none
      | .v (.one (.op (.pointer (some ⟨g, off, none⟩)))) => match kBnd len len lo hi mx with
        | some (l, h, m) => some (none, .v (.one (.op (.slice (some ⟨g, offSl off l m size, none⟩) (h - l) (m - l)))))
        | none => none
      | _ => none
    | none => none
  | _ => none

def lenQ (P : Program) (t : TypeId) (x : SV) : Option SV := match P.underlying t with
  | some (.array n _) => some (ln .i64 true n)
  | some (.pointer arr) => match P.underlying arr with
    | some (.array n _) => some (ln .i64 true n)
    | _ => none
  | some (.slice _) => match x with
    | .v (.one (.sl _ _ kn n _)) => some (ln .i64 kn n)
    | .v (.one (.rs _ _ _ _ _ _ n _)) => some (ln .i64 false n)
    | .v (.one .nils) => some (ln .i64 true 0)
    | .v (.one (.op (.slice _ n _))) => some (ln .i64 true n)
    | _ => none
  | _ => none

def builtQ (P : Program) (b : Builtin) (ts : Array TypeId) (xs : List SV) : Option SV := match b with
  | .len => match ts[0]?, xs with
    | some t, [x] => lenQ P t x
    | _, _ => none
  | .min => match xs with
    | .v (.one (.int k ka a)) :: l => minmaxQ false k ka a l
    | _ => none
  | .max => match xs with
    | .v (.one (.int k ka a)) :: l => minmaxQ true k ka a l
    | _ => none
  | _ => none

/-- one of two values -/
def mergeL (c : Bool) : Lf → Lf → Option Lf
  | .int k _ a, .int k' _ b => match decide (k = k') with
    | true => some (.int k false (if c = true then a else b))
    | false => none
  | .bool _ a, .bool _ b => some (.bool false (if c = true then a else b))
  | _, _ => none
def mergeLs (c : Bool) : List Lf → List Lf → Option (List Lf)
  | [], [] => some []
  | a :: l, b :: m => match mergeL c a b with
    | some x => match mergeLs c l m with
      | some xs => some (x :: xs)
      | none => none
    | none => none
  | _, _ => none
def mergeV (c : Bool) : SV → SV → Option SV
  | .v (.one a), .v (.one b) => match mergeL c a b with
    | some x => some (.v (.one x))
    | none => none
  | .v (.agg a), .v (.agg b) => match mergeLs c a b with
    | some x => some (.v (.agg x))
    | none => none
  | _, _ => none

def idxQ (P : Program) (t : TypeId) (x i : SV) : Option (Option Prop × SV) := match i with
  | .v (.one (.int _ kn i)) => match P.underlying t, x with
    | some (.array len e), .v (.one (.ptr b off)) => match tsize P e with
      | some n => match kn with
        | true => match (decide (0 ≤ i) && decide (i < (len : Int))) with
          | true => some (none, .v (.one (.ptr b (off + i.toNat * n))))
          | false => none
        | false => some (some (0 ≤ i ∧ i < (len : Int)), .v (.one (.ptr b (off + i.toNat * n))))
      | none => none
    | some (.slice e), .v (.one (.sl b off kl len _)) => match tsize P e with
      | some n => match (kn && kl) with
        | true => match (decide (0 ≤ i) && decide (i < (len : Int))) with
          | true => some (none, .v (.one (.ptr b (off + i.toNat * n))))
          | false => none
        | false => some (some (0 ≤ i ∧ i < (len : Int)), .v (.one (.ptr b (off + i.toNat * n))))
      | none => none
    | some (.slice e), .v (.one (.rs _ tg b base sz o len _)) => match tsize P e with
      | some n => match Nat.beq n sz with
        | true => match Nat.beq tg 0 with
          | true => some (some (0 ≤ i ∧ i < (len : Int)), .v (.one (.rp b base sz i.toNat 0)))
          | false => some (some (0 ≤ i ∧ i < (len : Int)), .v (.one (.rp b base sz (o + i.toNat) 0)))
        | false => none
      | none => none
    | some (.array len e), .v (.one (.rp b base sz j f)) => match tsize P e with
      | some n => match kn && (decide (0 ≤ i) && decide (i < (len : Int))) with
        | true => some (none, .v (.one (.rp b base sz j (f + i.toNat * n))))
        | false => none
      | none => none
    | some (.array len e), .v (.one (.op (.pointer (some ⟨g, off, none⟩)))) => match tsize P e with
      | some n => match kn with
        | true => match (decide (0 ≤ i) && decide (i < (len : Int))) with
          | true => some (none, .v (.one (.op (.pointer (some ⟨g, off + i.toNat * n, none⟩)))))
          | false => none
        | false => some (some (0 ≤ i ∧ i < (len : Int)), .v (.one (.op (.pointer (some ⟨g, off + i.toNat * n, none⟩)))))
      | none => none
    | some (.slice e), .v (.one (.op (.slice (some ⟨g, off, none⟩) len _))) => match tsize P e with
      | some n => match kn with
        | true => match (decide (0 ≤ i) && decide (i < (len : Int))) with
          | true => some (none, .v (.one (.op (.pointer (some ⟨g, off + i.toNat * n, none⟩)))))
          | false => none
        | false => some (some (0 ≤ i ∧ i < (len : Int)), .v (.one (.op (.pointer (some ⟨g, off + i.toNat * n, none⟩)))))
      | none => none
    | _, _ => none
  | _ => none

def fieldOf? (P : Program) (t : TypeId) (f : Nat) : Option Field := match P.underlying t with
  | some (.struct fs) => fs[f]?
  | _ => none

def r0 (x : Option SV) : Option (Option Prop × SV × Option Blk) := x.bind fun s => some (none, s, none)
def r1 (x : Option (Option Prop × SV)) : Option (Option Prop × SV × Option Blk) := x.bind fun s => some (s.1, s.2, none)

def optI (E : Env) : Option Operand → Option (Option (Bool × Int))
  | none => some none
  | some x => match E.ev x with
    | some s => match intOfS s with
      | some i => some (some i)
      | none => none
    | none => none

/-- 'make' -/
def makeQ (P : Program) (nm : Nat) (t : TypeId) (l c : Bool × Int) : Option (Option Prop × SV × Option Blk) := match P.underlying t with
  | some (.slice e) => match tsize P e, ibytes P e with
    | some n, some by_ => match l.1 && c.1 with
      | true => match (decide (0 ≤ l.2) && (decide (l.2 ≤ c.2) && decide (c.2 ≤ 1048576))) && decide (by_ ≤ 65536) with
        | true => match zeroRow P e (c.2.toNat * n) with
          | some z => some (none, .v (.one (.sl nm 0 true l.2.toNat c.2.toNat)), some (.cells z e))
          | none => none
        | false => none
      | false => match shOf P e with
        | some sh => match Nat.beq n sh.length with
          | true => some (some (0 ≤ l.2 ∧ l.2 ≤ c.2 ∧ (by_ : Int) * c.2 ≤ 140737488355328 ∧ c.2 ≤ 140737488355328), .v (.one (.rs false 0 nm 0 n 0 l.2.toNat c.2.toNat)), some (.rows false false sh (List.replicate l.2.toNat (row0 sh)) 0 c.2.toNat e))
          | false => none
        | none => none
    | _, _ => none
  | _ => none

/-- what a package's variable holds at a place -/
def gLoad (P : Program) (t : TypeId) (g off : Nat) : Option Vv := match find GG g with
  | some vs => match omap ofLeaf vs with
    | some l => partL P t l off
    | none => none
  | none => none
/-- A QUIET OPERATION: under which condition, what it yields, and which block it makes (under the name nm). -/
def qOp (M : Md) (P : Program) (Γ : List (FuncId × FX)) (E : Env) (nm : Nat) (o : Op) : Option (Option Prop × SV × Option Blk) := match o with
  | .move x => r0 (E.ev x)
  | .assign x => r0 (E.ev x)
  | .pick c a b => (E.ev c).bind fun c => match c with
    | .v (.one (.bool kn t)) => match kn with
      | true => match t with
        | true => r0 (E.ev a)
        | false => r0 (E.ev b)
      | false => (E.ev a).bind fun a => (E.ev b).bind fun b => r0 (mergeV t a b)
    | _ => none
  | .alloc e => (zeroL P e).bind fun l => some (none, .v (.one (.ptr nm 0)), some (.cells l e))
  | .box e x => (E.ev x).bind fun a => (asV a).bind fun a => some (none, .v (.one (.ptr nm 0)), some (.cells a.cells e))
  | .build t parts => (omap (fun ix : Nat × Operand => (E.ev ix.2).bind fun s => (asV s).bind fun x => some (ix.1, x)) parts.toList).bind fun ps => (buildL P t ps).bind fun l => some (none, .v (.agg l), none)
  | .buildSlice t len parts => match P.underlying t with
    | some (.slice e) => match tsize P e with
      | some n => match decide (len * n ≤ 2 ^ 24) with
        | true => (zeroRow P e (len * n)).bind fun z => (omap (fun ix : Nat × Operand => (E.ev ix.2).bind fun s => (asV s).bind fun x => some (ix.1, x)) parts.toList).bind fun ps =>
          (fillL (fun i => some (i * n, n)) z ps).bind fun l => some (none, .v (.one (.sl nm 0 true len len)), some (.cells l e))
        | false => none
      | none => none
    | _ => none
  | .load t a => (E.ev a).bind fun a => match a with
    | .v (.one (.ptr x off)) => (E.mm x).bind fun b => match b with
      | .cells l _ => (partL P t l off).bind fun v => some (none, .v v, none)
      | _ => none
    | .v (.one (.rp x base sz i f)) => (E.mm x).bind fun b => (rdRow P t base sz i f b).bind fun r => some (r.1, .v r.2, none)
    | .v (.one (.op (.pointer (some ⟨g, off, none⟩)))) => (gLoad P t g off).bind fun v => some (none, .v v, none)
    | _ => none
  | .nilCheck x => (E.ev x).bind fun a => match a with
    | .v (.one (.ptr b o)) => some (none, .v (.one (.ptr b o)), none)
    | .v (.one (.rp b base sz i f)) => some (none, .v (.one (.rp b base sz i f)), none)
    | .v (.one (.op (.pointer (some ad)))) => some (none, .v (.one (.op (.pointer (some ad)))), none)
    | _ => none
  | .binOp op t x y _ => (E.ev x).bind fun a => (E.ev y).bind fun b => r1 (binQ M P op t a b)
  | .unOp op _ x => (E.ev x).bind fun a => r1 (unQ M op a)
  | .convert s d x => (E.ev x).bind fun a => r1 (convQ M P s d a)
  | .makeFunc fn first captured => match fn with
    | .func f => match first.toList with
      | [] => (omap (fun x => (E.ev x).bind oneL) captured.toList).bind fun l => some (none, .clo f l, none)
      | _ => none
    | _ => none
  | .fieldAddr t x f => (E.ev x).bind fun a => match a with
    | .v (.one (.ptr b off)) => (fieldOf? P t f).bind fun fd => match tsize P fd.type with
      | some (n + 1) => some (none, .v (.one (.ptr b (off + fd.offset))), none)
      | _ => none
    | .v (.one (.rp b base sz i off)) => (fieldOf? P t f).bind fun fd => match tsize P fd.type with
      | some (n + 1) => some (none, .v (.one (.rp b base sz i (off + fd.offset))), none)
      | _ => none
    | .v (.one (.op (.pointer (some ⟨g, off, none⟩)))) => (fieldOf? P t f).bind fun fd => match tsize P fd.type with
      | some (n + 1) => some (none, .v (.one (.op (.pointer (some ⟨g, off + fd.offset, none⟩)))), none)
      | _ => none
    | _ => none
  | .field t x f => (E.ev x).bind fun a => match a with
    | .v (.agg l) => (fieldOf? P t f).bind fun fd => (partL P fd.type l fd.offset).bind fun v => some (none, .v v, none)
    | _ => none
  | .indexAddr t x i => (E.ev x).bind fun a => (E.ev i).bind fun i => r1 (idxQ P t a i)
  | .index t x i => (E.ev x).bind fun a => (E.ev i).bind fun i => match a, i with
    | .v (.agg l), .v (.one (.int _ true i)) => match P.underlying t with
      | some (.array len e) => match tsize P e with
        | some n => match (decide (0 ≤ i) && decide (i < (len : Int))) with
          | true => (partL P e l (i.toNat * n)).bind fun v => some (none, .v v, none)
          | false => none
        | none => none
      | _ => none
    | _, _ => none
  | .slice t x lo hi mx => (E.ev x).bind fun a => (optI E lo).bind fun l => (optI E hi).bind fun h => (optI E mx).bind fun m => r1 (sliceQ P t a l h m)
  | .makeSlice t l c => (E.ev l).bind fun l => (E.ev c).bind fun c => (intOfS l).bind fun l => (intOfS c).bind fun c => makeQ P nm t l c
  | .extract t i => (E.ev t).bind fun a => match a with
    | .tup l => (l[i]?).bind fun x => some (none, .v x, none)
    | _ => none
  | .call c => match c.callee with
    | .value f => (E.ev f).bind fun fv => match fv with
      | .clo id caps => (omap E.ev c.args.toList).bind fun us => (find Γ id).bind fun fc => r1 (fc.run E.mm (us ++ caps.map fun l => .v (.one l)))
      | _ => none
    | .builtin b => (omap E.ev c.args.toList).bind fun us => r0 (builtQ P b c.argTypes us)
    | _ => none
  | _ => none

end Go.Proofs.Ytceffompldihjaa.Rex
