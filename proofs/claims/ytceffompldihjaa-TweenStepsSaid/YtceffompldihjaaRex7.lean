/- A WALK BY COMPUTATION, part 7: operations in the text's order; code. What is to be shown of a function's body, computed. Conditions: none. Own work. -/
import Derived.Test.YtceffompldihjaaRex6
import Derived.Test.YtceffompldihjaaRexC
namespace Go.Proofs.Ytceffompldihjaa.Rex
open Go.RowKit
set_option linter.unusedVariables false
set_option linter.unusedSimpArgs false

structure St where
  tm : List SV
  m : Mem

inductive XE where
  | normal
  | exit (id : Nat)
  | ret

def mmOf (m : Mem) (x : Nat) : Option Blk := match m[x]? with
  | some (some b) => some b
  | _ => none
def St.env (σ : St) : Env := ⟨ev σ.tm, mmOf σ.m⟩

def putL (tm : List SV) (dst : Option Tmp) (s : SV) : List SV := match dst with
  | some d => tm.set d s
  | none => tm

/-- what a call that may write gives: which proposition suffices -/
abbrev MC := List SV → Mem → (SV → Mem → Prop) → Prop

def MSound (P : Program) (f : FuncId) (c : MC) : Prop := callable P f ∧ ∀ β args vals m w (K : SV → Mem → Prop), c args m K → All₂ (Has β) args vals → Sat β m w →
  Calls P f ⟨vals⟩ w fun e w' => ∃ β' v m' r, Sat β' m' w' ∧ Since m β w m' β' w' ∧ e = .returned r ∧ Has β' v r ∧ K v m'

/-- the memory behind a store -/
def stQ (P : Program) (m : Mem) (t : TypeId) (addr val : SV) : Option Mem := match addr, val with
  | .v (.one (.ptr x off)), .v u => match mmOf m x with
    | some (.cells l e) => match tsize P t with
      | some n => match (decide (u.cells.length = n) && decide (off + n ≤ l.length)) with
        | true => some (m.set x (some (.cells (splice l off u.cells) e)))
        | false => none
      | none => none
    | _ => none
  | _, _ => none

/-- what a call that reads and writes one block alone gives: under which condition, what, and what the block holds behind it -/
abbrev BC := List SV → List Lf → TypeId → Option (Option Prop × SV × List Lf)

structure Ctx where
  M : Md
  P : Program
  Γ : List (FuncId × FX)
  Δ : List (FuncId × MC)
  B : List (FuncId × BC)
  /-- what a call of yield leaves to be shown -/
  Y : Option (Value → List SV → Mem → (SV → Mem → Prop) → Prop) := none
  /-- within a round -/
  rd : Bool := false
  /-- functions that are walked in place -/
  N : List FuncId := []
  /-- .. and what a call of one leaves to be shown -/
  I : Option (FuncId → List SV → Mem → (SV → Mem → Prop) → Prop) := none

def andP (p : Option Prop) (q : Prop) : Prop := match p with
  | none => q
  | some p => p ∧ q

/-- a store into a row -/
def stR (P : Program) (m : Mem) (t : TypeId) (addr val : SV) : Option (Prop × Mem) := match addr, val with
  | .v (.one (.rp x base sz i f)), .v u => match mmOf m x with
    | some (.rows ro z sh xs base' tot e) => match ro with
      | true => none
      | false => match Nat.beq base base' && Nat.beq sz sh.length with
        | true => match tsize P t with
          | some n => match (decide (u.cells.length = n) && decide (f + n ≤ sh.length)) with
            | true => match rowOf sh (splice (rowL sh (getR xs i)) f u.cells) with
              | some r => some (i < xs.length, m.set x (some (.rows false z sh (xs.set i r) base' tot e)))
              | none => none
            | false => none
          | none => none
        | false => none
    | _ => none
  | _, _ => none

/-- what is appended: under which condition, which rows, how many -/
def srcQ (m : Mem) (sh : List Kd) (s : SV) : Option (Option Prop × List (Row sh) × Nat) := match s with
  | .v (.one .nils) => some (none, [], 0)
  | .v (.one (.sl y off _ len _)) => match mmOf m y with
    | some (.cells l _) => match decide (off + len * sh.length ≤ l.length) with
      | true => match rowsOf sh len (l.drop off) with
        | some ys => some (none, ys, len)
        | none => none
      | false => none
    | _ => none
  | .v (.one (.rs z tg y base sz o n c)) => match mmOf m y with
    | some (.rows ro z' sh' ys base' tot e) => match shEq sh' sh, Nat.beq sz sh.length with
      | some ⟨h⟩, true => match tg with
        | 0 => match ro with
          | true => some (some (base = base' ∧ n = ys.length), castR h ys, n)
          | false => match Nat.beq base base' with
            | true => some (some (n = ys.length), castR h ys, n)
            | false => none
        | _ => match ro with
          | true => some (some (base = base' ∧ o + n ≤ ys.length), ((castR h ys).drop o).take n, n)
          | false => match Nat.beq base base' with
            | true => some (some (o + n ≤ ys.length), ((castR h ys).drop o).take n, n)
            | false => none
      | _, _ => none
    | _ => none
  | _ => none

def newQ (m : Mem) (sh : List Kd) (size by_ : Nat) (e : TypeId) (ys : List (Row sh)) (k : Nat) (K : SV → Mem → Prop) : Prop :=
  (k * by_ ≤ 140737488355328) ∧ ∀ c' : Nat, k ≤ c' ∧ (k = 0 → c' = 0) → K (.v (.one (.rs (decide (k = 0)) 0 m.length 0 size 0 k c'))) (m ++ [some (.rows false (decide (k = 0)) sh ys 0 c' e)])

/-- where it is appended -/
def dstQ (m : Mem) (sh : List Kd) (size by_ : Nat) (e : TypeId) (ys : List (Row sh)) (k : Nat) (d : SV) (K : SV → Mem → Prop) : Prop := match d with
  | .v (.one .nils) => newQ m sh size by_ e ys k K
  | .v (.one (.sl _ _ _ len cap)) => match Nat.beq len 0 && Nat.beq cap 0 with
    | true => newQ m sh size by_ e ys k K
    | false => False
  | .v (.one (.rs z tg x base sz o n c)) => match tg with
    | 2 => (n = 0 ∧ c = 0) ∧ newQ m sh size by_ e ys k K
    | tg => match mmOf m x with
      | some (.rows ro z' sh' xs base' tot e') => match ro with
        | true => False
        | false => match shEq sh' sh, Nat.beq base 0 && (Nat.beq base' 0 && (Nat.beq sz size && Nat.beq e' e)) with
          | some ⟨h⟩, true => match tg with
            | 0 => (n = xs.length ∧ c = tot ∧ z = z' ∧ (z = true → c = 0) ∧ (n + k) * by_ ≤ 140737488355328) ∧
                ∀ c' : Nat, n + k ≤ c' → (k = 0 → c' = c) → K (.v (.one (.rs (decide (k = 0) && z) 0 m.length 0 size 0 (n + k) c'))) (m.set x none ++ [some (.rows false (decide (k = 0) && z) sh (castR h xs ++ ys) 0 c' e)])
            | _ => (z = false ∧ z' = false ∧ o + n ≤ xs.length ∧ n + k ≤ c ∧ o + c ≤ tot) ∧
                K (.v (.one (.rs z 1 x 0 size o (n + k) c))) (m.set x (some (.rows false z' sh ((castR h xs).take (o + n) ++ (ys ++ (castR h xs).drop (o + n + k))) 0 tot e)))
          | _, _ => False
      | _ => False
  | _ => False

def appQ (P : Program) (m : Mem) (ts : Array TypeId) (us : List SV) (K : SV → Mem → Prop) : Prop := match us with
  | [d, s] => match ts[0]?, ts[1]?, ts[2]? with
    | some t, some t2, none => match P.underlying t, P.underlying t2 with
      | some (.slice e), some (.slice _) => match shOf P e, tsize P e, ibytes P e with
        | some sh, some size, some by_ => match Nat.beq size sh.length && Nat.blt 0 by_ with
          | true => match srcQ m sh s with
            | some (q, ys, k) => andP q (dstQ m sh size by_ e ys k d K)
            | none => False
          | false => False
        | _, _, _ => False
      | _, _ => False
    | _, _, _ => False
  | _ => False

def clrQ (P : Program) (m : Mem) (ts : Array TypeId) (us : List SV) (K : SV → Mem → Prop) : Prop := match us with
  | [.v (.one (.rs z tg x base sz o n c))] => match ts[0]? with
    | some t => match P.underlying t with
      | some (.slice e) => match shOf P e, mmOf m x with
        | some sh, some (.rows ro z' sh' xs base' tot e') => match ro with
          | true => False
          | false => match shEq sh' sh, Nat.beq base base' && Nat.beq sz sh.length with
            | some ⟨h⟩, true => (o + n ≤ xs.length) ∧ K (.tup []) (m.set x (some (.rows false z' sh ((castR h xs).take o ++ (List.replicate n (row0 sh) ++ (castR h xs).drop (o + n))) base' tot e')))
            | _, _ => False
        | _, _ => False
      | _ => False
    | none => False
  | _ => False

/-- a call that reads and writes one block -/
def bcQ (bc : BC) (us : List SV) (m : Mem) (K : SV → Mem → Prop) : Prop := match us with
  | .v (.one (.ptr y 0)) :: rest => match mmOf m y with
    | some (.cells l t) => match bc rest l t with
      | some (p, s, new) => match Nat.beq new.length l.length with
        | true => andP p (K s (m.set y (some (.cells new t))))
        | false => False
      | none => False
    | _ => False
  | _ => False

/-- a slice of rows, looked at whether it is nil: where it is empty and reaches nowhere one cannot tell -/
def nlQ (P : Program) (op : BinOp) (t : TypeId) (x y : Option SV) (m : Mem) (K : SV → Mem → Prop) : Prop := match x, y with
  | some (.v (.one (.rs z _ _ _ _ _ _ _))), some (.v (.one .nils)) => match P.underlying t with
    | some (.slice _) => match neg? op true, neg? op false with
      | some p, some q => (z = true → K (lb true p) m) ∧ K (lb true q) m
      | _, _ => False
    | _ => False
  | _, _ => False

/-- a loud operation -/
def lOp (C : Ctx) (σ : St) (o : Oper) (K : SV → Mem → Prop) : Prop := match o.op with
  | .store t a x => match ev σ.tm a, ev σ.tm x with
    | some a, some x => match stQ C.P σ.m t a x with
      | some m' => K (.tup []) m'
      | none => match stR C.P σ.m t a x with
        | some (q, m') => q ∧ K (.tup []) m'
        | none => False
    | _, _ => False
  | .call c => match c.callee with
    | .value f => match ev σ.tm f with
      | some (.clo id caps) => match omap (ev σ.tm) c.args.toList with
        | some us => match find C.Δ id with
          | some mc => mc (us ++ caps.map fun l => .v (.one l)) σ.m K
          | none => match find C.B id with
            | some bc => bcQ bc (us ++ caps.map fun l => .v (.one l)) σ.m K
            | none => match C.I with
              | some h => h id (us ++ caps.map fun l => .v (.one l)) σ.m K
              | none => False
        | none => False
      | some (.v (.one (.op v))) => match C.Y with
        | some y => match omap (ev σ.tm) c.args.toList with
          | some us => y v us σ.m K
          | none => False
        | none => False
      | _ => False
    | .builtin b => match omap (ev σ.tm) c.args.toList with
      | some us => match b with
        | .append => appQ C.P σ.m c.argTypes us K
        | .clear => clrQ C.P σ.m c.argTypes us K
        | _ => False
      | none => False
    | _ => False
  | .binOp op t x y _ => nlQ C.P op t (ev σ.tm x) (ev σ.tm y) σ.m K
  | _ => False

/-- an index into a small array that nobody knows: how many elements, where each lies, which index -/
def splitQ (P : Program) (σ : St) (o : Op) : Option (Nat × (Nat → SV) × Int) := match o with
  | .indexAddr t x i => match ev σ.tm i with
    | some (.v (.one (.int _ false i))) => match ev σ.tm x with
      | some (.v (.one (.ptr b off))) => match P.underlying t with
        | some (.array len e) => match tsize P e with
          | some n => match Nat.ble len 16 with
            | true => some (len, fun j => .v (.one (.ptr b (off + j * n))), i)
            | false => none
          | none => none
        | _ => none
      | some (.v (.one (.op (.pointer (some ⟨g, off, none⟩))))) => match P.underlying t with
        | some (.array len e) => match tsize P e with
          | some n => match Nat.ble len 16 with
            | true => some (len, fun j => .v (.one (.op (.pointer (some ⟨g, off + j * n, none⟩)))), i)
            | false => none
          | none => none
        | _ => none
      | some (.v (.one (.sl b off _ len _))) => match P.underlying t with
        | some (.slice e) => match tsize P e with
          | some n => match Nat.ble len 16 with
            | true => some (len, fun j => .v (.one (.ptr b (off + j * n))), i)
            | false => none
          | none => none
        | _ => none
      | _ => none
    | _ => none
  | _ => none
theorem splitQ_spec {M : Md} {P : Program} {Γ : List (FuncId × FX)} {nm : Nat} {σ : St} {o : Op} {len : Nat} {p : Nat → SV} {i : Int} (h : splitQ P σ o = some (len, p, i)) : qOp M P Γ σ.env nm o = some (some (0 ≤ i ∧ i < (len : Int)), p i.toNat, none) := by
  unfold splitQ at h
  split at h
  · split at h
    · rename_i hi
      split at h
      · rename_i hx
        split at h
        · rename_i hu
          split at h
          · rename_i hn
            split at h
            · cases h
              simp only [qOp, St.env, hx, hi, Option.bind_some, idxQ, hu, hn, r1]
            · cases h
          · cases h
        · cases h
      · rename_i hx
        split at h
        · rename_i hu
          split at h
          · rename_i hn
            split at h
            · cases h
              simp only [qOp, St.env, hx, hi, Option.bind_some, idxQ, hu, hn, r1]
            · cases h
          · cases h
        · cases h
      · rename_i hx
        split at h
        · rename_i hu
          split at h
          · rename_i hn
            split at h
            · cases h
              simp only [qOp, St.env, hx, hi, Option.bind_some, idxQ, hu, hn, r1, Bool.false_and]
            · cases h
          · cases h
        · cases h
      · cases h
    · cases h
  · cases h
def allJ (p : Nat → Prop) : Nat → Prop
  | 0 => True
  | 1 => p 0
  | n + 2 => allJ p (n + 1) ∧ p (n + 1)
theorem allJ_spec {p : Nat → Prop} : ∀ {n j : Nat}, allJ p n → j < n → p j
  | 0, j, _, h => by omega
  | 1, j, k, h => by
    obtain rfl : j = 0 := by omega
    exact k
  | n + 2, j, k, h => by
    by_cases e : j = n + 1
    · subst e; exact k.2
    · exact allJ_spec k.1 (by omega)
def xOp (C : Ctx) (σ : St) (o : Oper) (K : SV → Mem → Prop) : Prop := match splitQ C.P σ o.op with
  | some (len, p, i) => (0 ≤ i ∧ i < (len : Int)) ∧ allJ (fun j => i = (j : Int) → K (p j) σ.m) len
  | none => match qOp C.M C.P C.Γ σ.env σ.m.length o.op with
  | some (p, s, none) => andP p (K s σ.m)
  | some (p, s, some b) => andP p (K s (σ.m ++ [some b]))
  | none => lOp C σ o K

/-- what operation j has yielded -/
def yieldQ (ops : List Oper) (tm : List SV) (j : Nat) : Option (Tmp × SV) := match ops[j]? with
  | some o => match o.dst with
    | some t => match tm[t]? with
      | some s => some (t, s)
      | none => none
    | none => none
  | none => none

def xOps (C : Ctx) (all : List Oper) : List Oper → St → (St → Prop) → Prop
  | [], σ, K => K σ
  | o :: rest, σ, K => match o.guard with
    | none => xOp C σ o fun s m => xOps C all rest ⟨putL σ.tm o.dst s, m⟩ K
    | some (j, want) => match yieldQ all σ.tm j with
      | some (d, .v (.one (.bool kn t))) => match kn with
        | true => match decide (t = want) with
          | true => xOp C σ o fun s m => xOps C all rest ⟨putL σ.tm o.dst s, m⟩ K
          | false => xOps C all rest ⟨putL σ.tm o.dst (.tup []), σ.m⟩ K
        | false => (t = want → xOp C ⟨σ.tm.set d (lb true want), σ.m⟩ o fun s m => xOps C all rest ⟨putL (σ.tm.set d (lb true want)) o.dst s, m⟩ K)
          ∧ (t = !want → xOps C all rest ⟨putL (σ.tm.set d (lb true (!want))) o.dst (.tup []), σ.m⟩ K)
      | some (_, .tup []) => xOps C all rest ⟨putL σ.tm o.dst (.tup []), σ.m⟩ K
      | _ => False

/-! ### what they mean -/
/-- an activation's deferred calls: marks of loops over functions alone, their blocks laid since the heap had bs blocks -/
def Marks (bs : Nat) (w : World) : List Deferred → Prop
  | [] => True
  | d :: ds => (∃ D, d = { target := .collected D, args := #[] } ∧ bs ≤ D ∧ w.heap[D]? = some (Obj.deferred (some [])) ∧ ∀ d' ∈ ds, d' ≠ d) ∧ Marks bs w ds
theorem Marks.mono {bs : Nat} {w w' : World} (h : ∀ D : Nat, w.heap[D]? = some (Obj.deferred (some [])) → w'.heap[D]? = some (Obj.deferred (some []))) : ∀ {ds : List Deferred}, Marks bs w ds → Marks bs w' ds
  | [], _ => trivial
  | d :: ds, ⟨⟨D, h1, h2, h3, h4⟩, k⟩ => ⟨⟨D, h1, h2, h D h3, h4⟩, Marks.mono h k⟩

structure Fit (bs : Nat) (σ : St) (β : Nm) (a : Act) (w : World) : Prop where
  tm : All₂ (Has β) σ.tm a.tmps.toList
  sat : Sat β σ.m w
  df : Marks bs w a.defers

theorem ev_has {β : Nm} {tm : List SV} {a : Act} (h : All₂ (Has β) tm a.tmps.toList) {x : Operand} {s : SV} (e : ev tm x = some s) : Has β s (a.eval x) := by
  unfold ev at e
  split at e
  · rename_i t
    split at e
    · cases e
    · rename_i r hr
      obtain ⟨v, hv, hs⟩ := h.get e
      have : a.eval (.tmp t) = v := by
        have hv' : a.tmps[t]? = some v := by simpa using hv
        simp [Act.eval, hv']
      rw [this]; exact hs
  · exact ofValue_has e
  · cases e
    exact .v (.one (.op rfl))
  · cases e
    exact .clo .nil

theorem mmOf_some' {m : Mem} {x : Nat} {b : Blk} (h : mmOf m x = some b) : m[x]? = some (some b) := by
  unfold mmOf at h
  split at h
  · rename_i b' hb; cases h; exact hb
  · cases h
theorem Fit.env {bs : Nat} {σ : St} {β : Nm} {a : Act} {w : World} (h : Fit bs σ β a w) : EOk β σ.env a w := by
  refine ⟨fun x s e => ev_has h.tm e, fun x b e => ?_, h.sat.gl, fun x l t k e hk => h.sat.ng x k ⟨_, mmOf_some' e, trivial⟩ hk⟩
  show b.dead ∨ ∃ k, β x = some k ∧ _
  have e' : mmOf σ.m x = some b := e
  unfold mmOf at e'
  split at e'
  · rename_i b' hb
    cases e'
    exact h.sat.blk x b hb
  · cases e'

theorem putL_has {β : Nm} {tm : List SV} {a : Act} (h : All₂ (Has β) tm a.tmps.toList) {s : SV} {v : Value} (k : Has β s v) (dst : Option Tmp) : All₂ (Has β) (putL tm dst s) (a.put dst v).tmps.toList := by
  cases dst with
  | none => exact h
  | some d =>
    show All₂ (Has β) (tm.set d s) (a.tmps.setIfInBounds d v).toList
    rw [Array.toList_setIfInBounds]
    exact h.set k d

theorem Has.all_mono {β γ : Nm} (h : β.le γ) {tm : List SV} {l : List Value} (k : All₂ (Has β) tm l) : All₂ (Has γ) tm l := k.mono fun _ _ => Has.mono h

theorem append_set {A : Type} (l : List A) (x y : A) : (l ++ [x]).set l.length y = l ++ [y] := by
  rw [List.set_append_right _ _ (Nat.le_refl _)]
  simp

theorem Sat.fresh {β : Nm} {m : Mem} {w : World} (h : Sat β m w) : β m.length = none := by
  cases e : β m.length with
  | none => rfl
  | some a => have := h.dom _ _ e; omega

theorem push_none {m : Mem} {x : Nat} {b : Blk} (hb : (m ++ [none])[x]? = some (some b)) : m[x]? = some (some b) := by
  rcases Nat.lt_or_ge x m.length with hl | hl
  · rwa [List.getElem?_append_left hl] at hb
  · rw [List.getElem?_append_right hl] at hb
    cases hx : x - m.length with
    | zero => rw [hx] at hb; simp at hb
    | succ n => rw [hx] at hb; simp at hb
theorem Sat.grow {β : Nm} {m : Mem} {w : World} (h : Sat β m w) : Sat β (m ++ [none]) w := by
  refine ⟨fun x b hb => h.blk x b (push_none hb), ?_, fun x a hx => ?_, h.gl, fun x a ⟨b, hb, hr⟩ hx => h.ng x a ⟨b, push_none hb, hr⟩ hx⟩
  · rintro x y a ⟨b, hb, hd⟩ ⟨c, hc, he⟩ hx hy
    exact h.inj x y a ⟨b, push_none hb, hd⟩ ⟨c, push_none hc, he⟩ hx hy
  · have := h.dom x a hx
    simp; omega

theorem since_push {β : Nm} {m : Mem} {w : World} (h : Sat β m w) (b : Blk) (obj : Obj) : Since m β w (m ++ [some b]) (β.set m.length w.heap.size) (w.alloc obj) := by
  have := Since.alloc (m0 := m) (β0 := β) (w0 := w) (m := m ++ [none]) (w := w) ⟨Nm.le_refl β, fun _ _ => rfl, by simp, ?_, ?_, rfl, rfl, rfl, Nat.le_refl _, fun _ _ _ => rfl⟩ (Nat.le_refl m.length) h.fresh b obj
  · rwa [append_set] at this
  · rintro q x hx ⟨c, hc, hd⟩
    have := (List.getElem?_eq_some_iff.1 (push_none hc)).1
    omega
  · rintro q x hx ⟨c, hc, hd⟩
    exact ⟨c, push_none hc, hd⟩

theorem sat_push {β : Nm} {m : Mem} {w : World} (h : Sat β m w) {b : Blk} {obj : Obj} (hB : HasB (β.set m.length w.heap.size) b (some obj)) : Sat (β.set m.length w.heap.size) (m ++ [some b]) (w.alloc obj) := by
  have := Sat.alloc h.grow (nm := m.length) (by simp) h.fresh hB
  rwa [append_set] at this

theorem kw.kq {m : Mem} {x : Nat} (h : kw m x) (q : Bool) : kq q m x := by
  cases q with
  | true => exact h
  | false => exact h.kn

/-- a step that turns one block -/
structure Turn1 (w : World) (b : Nat) (w' : World) : Prop where
  else_ : ∀ k, k < w.heap.size → k ≠ b → w'.heap[k]? = w.heap[k]?
  size : w.heap.size ≤ w'.heap.size
  os : w'.os = w.os
  tape : w'.tape = w.tape
  output : w'.output = w.output

theorem set_get {m : Mem} {x y : Nat} {b c : Blk} (h : (m.set x (some b))[y]? = some (some c)) : (y = x ∧ c = b) ∨ (y ≠ x ∧ m[y]? = some (some c)) := getElem?_set_some h

theorem Sat.turn {β : Nm} {m : Mem} {w w' : World} (h : Sat β m w) {x b : Nat} {b0 b1 : Blk} (hx : m[x]? = some (some b0)) (hrw : b0.rw) (hb : β x = some b) (hp : Turn1 w b w') (hB : HasB β b1 w'.heap[b]?) :
    Sat β (m.set x (some b1)) w' := by
  have kx : kw m x := ⟨b0, hx, hrw⟩
  refine ⟨fun y c hc => ?_, ?_, fun y a hy => by simpa using h.dom y a hy, h.gl.keep fun p hp' hl => hp.else_ p.1 hl fun e => h.ng x b kx hb p hp' e, ?_⟩
  · rcases set_get hc with ⟨rfl, rfl⟩ | ⟨hne, hy⟩
    · exact .inr ⟨b, hb, hB⟩
    · refine h.blk_keep (Nm.le_refl β) hy fun a hk ha => hp.else_ a (h.lt hk ha) fun e => hne ?_
      exact (h.inj x y a kx hk (by rw [e]; exact hb) ha).symm
  · rintro y z a ⟨c, hc, hcr⟩ ⟨d, hd, hdd⟩ hy hz
    have k1 : kw m y := by
      rcases set_get hc with ⟨rfl, rfl⟩ | ⟨hne, hy⟩
      · exact kx
      · exact ⟨c, hy, hcr⟩
    have k2 : kn m z := by
      rcases set_get hd with ⟨rfl, rfl⟩ | ⟨hne, hz⟩
      · exact kx.kn
      · exact ⟨d, hz, hdd⟩
    exact h.inj y z a k1 k2 hy hz
  · rintro y a ⟨c, hc, hcr⟩ hy
    have k1 : kw m y := by
      rcases set_get hc with ⟨rfl, rfl⟩ | ⟨hne, hy⟩
      · exact kx
      · exact ⟨c, hy, hcr⟩
    exact h.ng y a k1 hy

theorem since_turn {β : Nm} {m : Mem} {w w' : World} {x b : Nat} {b0 b1 : Blk} (hx : m[x]? = some (some b0)) (hrw : b0.rw) (hb : β x = some b) (hp : Turn1 w b w') : Since m β w (m.set x (some b1)) β w' := by
  have kx : kw m x := ⟨b0, hx, hrw⟩
  refine ⟨Nm.le_refl β, fun _ _ => rfl, by simp, ?_, ?_, hp.os, hp.tape, hp.output, hp.size, ?_⟩
  · intro q y hy hk
    have := kq_lt hk
    simp at this
    omega
  · rintro q y hy ⟨c, hc, hcr⟩
    rcases set_get hc with ⟨rfl, rfl⟩ | ⟨hne, hy⟩
    · exact kx.kq q
    · exact ⟨c, hy, hcr⟩
  · intro k hk hf
    exact hp.else_ k hk fun e => hf x kx (by rw [hb, e])

/-- a block that turns and has another name from now on -/
theorem Sat.move {β : Nm} {m : Mem} {w w' : World} (h : Sat β m w) {x b : Nat} {b0 b1 : Blk} (hx : m[x]? = some (some b0)) (hrw : b0.rw) (hb : β x = some b) (hp : Turn1 w b w') (hB : HasB β b1 w'.heap[b]?) :
    Sat (β.set m.length b) (m.set x none ++ [some b1]) w' := by
  have kx : kw m x := ⟨b0, hx, hrw⟩
  have hle := Nm.le_set (a := b) h.fresh
  have cut : ∀ (y : Nat) (c : Blk), (m.set x none ++ [some b1])[y]? = some (some c) → (y = m.length ∧ c = b1) ∨ (y < m.length ∧ y ≠ x ∧ m[y]? = some (some c)) := by
    intro y c hc
    rcases Nat.lt_or_ge y m.length with hl | hl
    · right
      rw [List.getElem?_append_left (by simpa using hl)] at hc
      by_cases e : x = y
      · subst e
        rw [List.getElem?_set] at hc
        simp at hc
      · rw [List.getElem?_set_ne e] at hc
        exact ⟨hl, fun e' => e e'.symm, hc⟩
    · left
      rw [List.getElem?_append_right (by simpa using hl)] at hc
      simp only [List.length_set] at hc
      cases hy : y - m.length with
      | zero => rw [hy] at hc; simp at hc; exact ⟨by omega, hc.symm⟩
      | succ n => rw [hy] at hc; simp at hc
  have old : ∀ y a, y < m.length → (β.set m.length b) y = some a → β y = some a := by
    intro y a hl hy
    simp only [Nm.set] at hy
    rwa [if_neg (by omega)] at hy
  refine ⟨fun y c hc => ?_, ?_, fun y a hy => ?_, h.gl.keep fun p hp' hl => hp.else_ p.1 hl fun e => h.ng x b kx hb p hp' e, ?_⟩
  · rcases cut y c hc with ⟨rfl, rfl⟩ | ⟨hl, hne, hy⟩
    · exact .inr ⟨b, by simp [Nm.set], hB.mono hle⟩
    · refine h.blk_keep hle hy fun a hk ha => hp.else_ a (h.lt hk ha) fun e => hne ?_
      exact (h.inj x y a kx hk (by rw [e]; exact hb) ha).symm
  · rintro y z a ⟨c, hc, hcr⟩ ⟨d, hd, hdd⟩ hy hz
    rcases cut y c hc with ⟨rfl, rfl⟩ | ⟨hl, hne, hy'⟩ <;> rcases cut z d hd with ⟨rfl, rfl⟩ | ⟨hl', hne', hz'⟩
    · rfl
    · simp [Nm.set] at hy
      subst hy
      exact absurd (h.inj x z b kx ⟨d, hz', hdd⟩ hb (old z b hl' hz)).symm hne'
    · simp [Nm.set] at hz
      subst hz
      exact absurd (h.inj x y b kx ⟨c, hy', hcr.alive⟩ hb (old y b hl hy)).symm hne
    · exact h.inj y z a ⟨c, hy', hcr⟩ ⟨d, hz', hdd⟩ (old y a hl hy) (old z a hl' hz)
  · simp only [List.length_append, List.length_set, List.length_cons, List.length_nil]
    simp only [Nm.set] at hy
    split at hy
    · omega
    · have := h.dom y a hy; omega
  · rintro y a ⟨c, hc, hcr⟩ hy
    rcases cut y c hc with ⟨rfl, rfl⟩ | ⟨hl, hne, hy'⟩
    · simp [Nm.set] at hy
      subst hy
      exact h.ng x b kx hb
    · exact h.ng y a ⟨c, hy', hcr⟩ (old y a hl hy)
theorem since_move {β : Nm} {m : Mem} {w w' : World} (h : Sat β m w) {x b : Nat} {b0 b1 : Blk} (hx : m[x]? = some (some b0)) (hrw : b0.rw) (hb : β x = some b) (hp : Turn1 w b w') : Since m β w (m.set x none ++ [some b1]) (β.set m.length b) w' := by
  have kx : kw m x := ⟨b0, hx, hrw⟩
  refine ⟨Nm.le_set h.fresh, fun y hy => by simp only [Nm.set]; rw [if_neg (by omega)], by simp, ?_, ?_, hp.os, hp.tape, hp.output, hp.size, ?_⟩
  · intro q y hy hk
    have := kq_lt hk
    simp at this
    have : y = m.length := by omega
    subst this
    exact ⟨b, by simp [Nm.set], .inr ⟨x, kx.kq q, hb⟩⟩
  · rintro q y hy ⟨c, hc, hcr⟩
    rw [List.getElem?_append_left (by simpa using hy)] at hc
    by_cases e : x = y
    · subst e; exact kx.kq q
    · rw [List.getElem?_set_ne e] at hc
      exact ⟨c, hc, hcr⟩
  · intro k hk hf
    exact hp.else_ k hk fun e => hf x kx (by rw [hb, e])

section
variable {P : Program}

/-- a block's world behind a store: this block's cells are us; nothing else has turned -/
structure Put (w : World) (b : Nat) (us : List Value) (e : TypeId) (w' : World) : Prop where
  here : w'.heap[b]? = some (.cells ⟨us⟩ e (0, 0))
  else_ : ∀ k, k ≠ b → w'.heap[k]? = w.heap[k]?
  size : w'.heap.size = w.heap.size
  os : w'.os = w.os
  tape : w'.tape = w.tape
  output : w'.output = w.output

theorem run_storeCells {b off : Nat} {e : TypeId} : ∀ (vs : List Value) (i : Nat) (us : List Value) (w : World), w.heap[b]? = some (.cells ⟨us⟩ e (0, 0)) → (∀ v ∈ vs, v.oneCell' = true) → off + i + vs.length ≤ us.length →
    ∃ w', (storeCells ⟨b, off, none⟩ vs i).run P w = .ok () w' ∧ Put w b (us.take (off + i) ++ (vs ++ us.drop (off + i + vs.length))) e w'
  | [], i, us, w, h, _, hl => ⟨w, rfl, by simpa using h, fun _ _ => rfl, rfl, rfl, rfl, rfl⟩
  | v :: vs, i, us, w, h, hv, hl => by
    simp only [List.length_cons] at hl
    have hlt : off + i < us.length := by omega
    have h1 : (w.setCell ⟨b, off + i, none⟩ v).heap[b]? = some (.cells ⟨us.set (off + i) v⟩ e (0, 0)) := by
      rw [heap_setCell_same w b (off + i) ⟨us⟩ e v h]; simp
    obtain ⟨w', hr, hp⟩ := run_storeCells (b := b) (off := off) (e := e) vs (i + 1) (us.set (off + i) v) (w.setCell ⟨b, off + i, none⟩ v) h1 (fun x hx => hv x (by simp [hx])) (by simp; omega)
    refine ⟨w', ?_, ?_, ?_, ?_, ?_, ?_, ?_⟩
    · unfold storeCells
      rw [Sem.run_bind, addr_add, run_store P w _ v _ (hv v (by simp))]
      have hc : w.cell? ⟨b, off + i, none⟩ = us[off + i]? := by simp [World.cell?, h]
      rw [hc, List.getElem?_eq_getElem hlt]
      simp only [frozen_of_row w b (off + i) ⟨us⟩ e h, Bool.false_eq_true, if_false, Result.andThen_ok]
      exact hr
    · rw [hp.here]
      congr 3
      rw [← Nat.add_assoc, List.take_set, List.take_add_one, List.drop_set_of_lt (by omega)]
      simp only [List.getElem?_eq_getElem hlt, Option.toList_some, List.length_cons]
      rw [List.set_append_right _ _ (by simp; omega)]
      have : off + i - (List.take (off + i) us).length = 0 := by simp; omega
      rw [this]
      simp
      congr 1
      omega
    · intro k hk
      rw [hp.else_ k hk, heap_setCell_other _ _ _ _ hk]
    · rw [hp.size]; simp [World.setCell]
    · exact hp.os
    · exact hp.tape
    · exact hp.output

theorem Put.turn {w w' : World} {b : Nat} {us : List Value} {e : TypeId} (h : Put w b us e w') : Turn1 w b w' := ⟨fun k _ => h.else_ k, Nat.le_of_eq h.size.symm, h.os, h.tape, h.output⟩

theorem Sat.put {β : Nm} {m : Mem} {w w' : World} (h : Sat β m w) {x b : Nat} {l l' : List Lf} {e : TypeId} {us : List Value} (hx : m[x]? = some (some (.cells l e))) (hb : β x = some b) (hp : Put w b us e w') (hu : All₂ (HasL β) l' us) :
    Sat β (m.set x (some (.cells l' e))) w' := h.turn hx trivial hb hp.turn ⟨us, hp.here, hu⟩
theorem since_put {β : Nm} {m : Mem} {w w' : World} {x b : Nat} {l l' : List Lf} {e : TypeId} {us : List Value} (hx : m[x]? = some (some (.cells l e))) (hb : β x = some b) (hp : Put w b us e w') :
    Since m β w (m.set x (some (.cells l' e))) β w' := since_turn hx trivial hb hp.turn
end

def BSound (P : Program) (f : FuncId) (c : BC) : Prop := callable P f ∧ ∀ β args vals l t p s new w k us, Glob w → NG k → c args l t = some (p, s, new) → ob p → All₂ (Has β) args vals →
  w.heap[k]? = some (.cells ⟨us⟩ t (0, 0)) → All₂ (HasL β) l us → Calls P f ⟨.pointer (some ⟨k, 0, none⟩) :: vals⟩ w fun e w' => ∃ r us', e = .returned r ∧ Has β s r ∧ All₂ (HasL β) new us' ∧ w'.heap[k]? = some (.cells ⟨us'⟩ t (0, 0)) ∧ Turn1 w k w'

/-- what is to be shown of a call that is walked in place does for it -/
def ISound (P : Program) (h : FuncId → List SV → Mem → (SV → Mem → Prop) → Prop) : Prop := ∀ f us m (K : SV → Mem → Prop), h f us m K → callable P f ∧ ∀ γ vals w, Sat γ m w → All₂ (Has γ) us vals →
  Calls P f ⟨vals⟩ w fun e w' => ∃ β' v m' r, Sat β' m' w' ∧ Since m γ w m' β' w' ∧ e = .returned r ∧ Has β' v r ∧ K v m'
structure Ctx.Ok (C : Ctx) : Prop where
  Γ : ∀ f c, (f, c) ∈ C.Γ → XSound C.P f c
  Δ : ∀ f c, (f, c) ∈ C.Δ → MSound C.P f c
  B : ∀ f c, (f, c) ∈ C.B → BSound C.P f c
  mixed : C.P.follows .mixedOrders = true
  I : ∀ h, C.I = some h → ISound C.P h

def After (σ : St) (β : Nm) (w : World) (K : SV → Mem → Prop) (r : Value) (w' : World) : Prop := ∃ β' s m', Sat β' m' w' ∧ Since σ.m β w m' β' w' ∧ Has β' s r ∧ K s m'

/-- .. of yield -/
def YSound (C : Ctx) (y : Value → List SV → Mem → (SV → Mem → Prop) → Prop) (γ : Nm) : Prop := ∀ v us m (K : SV → Mem → Prop) vals w, y v us m K → Sat γ m w → All₂ (Has γ) us vals →
  ∃ l f tmps assign body, v = .func (.yield l) #[] #[] ∧ (Instr.yield l ⟨vals⟩).run C.P w = .ok (.round l f tmps assign body) w ∧
    ∀ (F : Fence) (n : Nat), Wd F → RoundIn F n C.P l f tmps assign body w fun e w' => ∃ γ' s m' r, e = .returned r ∧ Sat γ' m' w' ∧ Since m γ w m' γ' w' ∧ Has γ' s r ∧ K s m'
def YOk (C : Ctx) (β : Nm) : Prop := ∀ y, C.Y = some y → ∀ γ, β.le γ → YSound C y γ
theorem YOk.le {C : Ctx} {β γ : Nm} (h : YOk C β) (k : β.le γ) : YOk C γ := fun y hy δ hd => h y hy δ (Nm.le_trans k hd)

theorem Doe.mono {P : Program} {o : Oper} {a : Act} {w : World} {R S : Value → World → Prop} (h : Doe P o a w R) (k : ∀ v w', R v w' → S v w') : Doe P o a w S :=
  fun F n hF next Q hn => h F n hF next Q fun v w' hr => hn v w' (k v w' hr)

theorem andP_spec {p : Option Prop} {q : Prop} (h : andP p q) : ob p ∧ q := by
  cases p with
  | none => exact ⟨trivial, h⟩
  | some p => exact h

section
variable {bs : Nat} {C : Ctx} {σ : St} {o : Oper} {K : SV → Mem → Prop} {β : Nm} {a : Act} {w : World}

theorem mmOf_some {m : Mem} {x : Nat} {b : Blk} (h : mmOf m x = some b) : m[x]? = some (some b) := by
  unfold mmOf at h
  split at h
  · cases h; assumption
  · cases h

theorem stR_sound {t : TypeId} {x y : Operand} {xs ys : SV} {q : Prop} {m' : Mem} (ho : o.op = .store t x y) (hm : stR C.P σ.m t xs ys = some (q, m')) (hq : q) (hk : K (.tup []) m') (hf : Fit bs σ β a w) (hxv : Has β xs (a.eval x)) (hyv : Has β ys (a.eval y)) :
    Doe C.P o a w (After σ β w K) := by
  unfold stR at hm
  split at hm
  · rename_i nm base sz i f u
    split at hm
    · rename_i ro z sh rs base' tot e hmm
      split at hm
      · cases hm
      · split at hm
        · rename_i hb
          rw [Bool.and_eq_true] at hb
          obtain ⟨hb1, hb2⟩ := hb
          have hb1 := Nat.eq_of_beq_eq_true hb1
          have hb2 := Nat.eq_of_beq_eq_true hb2
          subst hb1; subst hb2
          split at hm
          · rename_i n hn
            split at hm
            · rename_i hd
              simp only [Bool.and_eq_true, decide_eq_true_eq] at hd
              obtain ⟨d1, d2⟩ := hd
              split at hm
              · rename_i r hr
                cases hm
                have hmb := mmOf_some hmm
                obtain ⟨B, hB, hz, vs, fz, t', hob, hfz, hR⟩ := hf.sat.live hmb (fun hd => by have h2 : rs = [] := hd.2; rw [h2] at hq; simp at hq)
                subst hz
                obtain ⟨rfl, hte⟩ := hfz rfl
                rw [hte] at hob
                cases hyv with
                | v hyv =>
                  obtain ⟨cs, hvc, hvs⟩ := hyv.cells
                  have l1 := hvs.length
                  have hone : ∀ v ∈ cs, v.oneCell' = true := by
                    intro v hv
                    obtain ⟨j, hj, rfl⟩ := List.mem_iff_getElem.1 hv
                    obtain ⟨q, hq, hqv⟩ := hvs.get' (List.getElem?_eq_getElem hj)
                    exact hqv.oneCell
                  have hm1 : (i + 1) * sh.length ≤ tot * sh.length := Nat.mul_le_mul_right _ (by have := hR.1; omega)
                  rw [Nat.add_mul] at hm1
                  have hfit := hR.2.1
                  obtain ⟨w', hrun, hp⟩ := run_storeCells (P := C.P) (b := B) (off := base + i * sh.length + f) (e := e) cs 0 vs w hob hone (by omega)
                  have hav : a.eval x = .pointer (some ⟨B, base + i * sh.length + f, none⟩) := by
                    cases hxv with
                    | v hxv => cases hxv with
                      | one hxv => generalize a.eval x = q at hxv ⊢; cases hxv; rename_i h1; rw [hB] at h1; cases h1; rfl
                  have hrow : rowV sh r = (rowV sh (getR rs i)).take f ++ (cs ++ (rowV sh (getR rs i)).drop (f + cs.length)) := by
                    refine (rowOf_has (β := β) hr ?_).symm
                    unfold splice
                    rw [← l1]
                    exact (rowV_has.take _).append (hvs.append (rowV_has.drop _))
                  have hR' := hR.put hq (by omega) hrow
                  have hh := hp.here
                  rw [Nat.add_zero] at hh
                  have hBn : HasB β (.rows false false sh (rs.set i r) base tot e) w'.heap[B]? := ⟨rfl, _, _, _, hh, fun _ => ⟨rfl, rfl⟩, hR'⟩
                  refine doe_skip (w' := w') ?_ ⟨β, .tup [], _, hf.sat.turn hmb ⟨rfl, rfl⟩ hB hp.turn hBn, since_turn hmb ⟨rfl, rfl⟩ hB hp.turn, .tup .nil, hk⟩
                  rw [execOp, ho]
                  simp only [hav, Instr.storeAt, Instr.sureAddr, storeVar, Sem.run_bind, Sem.run_pure, Result.andThen_ok, run_sizeOf' hn, hvc, List.size_toArray]
                  rw [if_neg (by simp; omega)]
                  rw [hrun]
                  rfl
              · cases hm
            · cases hm
          · cases hm
        · cases hm
    · cases hm
  · cases hm

/-- a builtin, as the model runs it -/
theorem doe_builtin {c : Call} {b : Builtin} {R : Value → World → Prop} (ho : o.op = .call c) (hb : c.callee = .builtin b) {s : Sem Value} (hs : ∀ cs, builtin b c.argTypes o.type cs ⟨c.args.toList.map a.eval⟩ = (do let x ← s; pure (.value x)))
    {v : Value} {w' : World} (hr : s.run C.P w = .ok v w') (hR : R v w') : Doe C.P o a w R := by
  refine doe_run (v := v) (w' := w') ?_ hR
  rw [execOp, ho]
  have e1 : (c.args.map a.eval) = ⟨c.args.toList.map a.eval⟩ := by apply Array.ext'; simp
  simp only [resolve, hb, Sem.run_bind, Sem.run_pure, Result.andThen_ok, invoke, e1, hs]
  rw [hr]; rfl

theorem castR_rfl {sh : List Kd} (h : sh = sh) (xs : List (Row sh)) : castR h xs = xs := rfl

theorem rows_first {k base size n : Nat} {vs cs : List Value} (hc : ∀ i : Nat, w.cell? ⟨k, i, none⟩ = vs[i]?) (hl : cs.length = n * size) (h : ∀ (j : Nat) v, cs[j]? = some v → vs[base + j]? = some v) (len cap : Nat) :
    (Builtin.firstCells size n (.slice (some ⟨k, base, none⟩) len cap)).run C.P w = .ok ⟨cs⟩ w := by
  refine run_firstCells_some w size n ⟨k, base, none⟩ len cap cs hl fun j v hj => ?_
  rw [addr_add, hc]
  exact h j v hj

/-- what is appended -/
theorem srcQ_run {sh : List Kd} {s : SV} {x : Value} {q : Option Prop} {ys : List (Row sh)} {k : Nat} (hq : srcQ σ.m sh s = some (q, ys, k)) (hp : ob q) (hs : Sat β σ.m w) (hx : Has β s x) :
    ys.length = k ∧ (∀ v : World, (Builtin.lenOf x).run C.P v = .ok k v) ∧ ∀ v : World, v.heap = w.heap → (Builtin.firstCells sh.length k x).run C.P v = .ok ⟨ys.flatMap (rowV sh)⟩ v := by
  have cell : ∀ {v : World} {b : Nat} {vs : List Value} {e : TypeId} {fz}, v.heap = w.heap → w.heap[b]? = some (.cells ⟨vs⟩ e fz) → ∀ i : Nat, v.cell? ⟨b, i, none⟩ = vs[i]? := by
    intro v b vs e fz hv hb i
    simp [World.cell?, hv, hb]
  unfold srcQ at hq
  split at hq
  · cases hq
    cases hx with
    | v hx => cases hx with
      | one hx => cases hx with
        | nils => exact ⟨rfl, fun v => rfl, fun v _ => by simp [Builtin.firstCells]⟩
  · rename_i y off kn len cap
    split at hq
    · rename_i l e hmm
      split at hq
      · rename_i hd
        have hd := of_decide_eq_true hd
        split at hq
        · rename_i ys' hys
          cases hq
          obtain ⟨B, hB, vs, hob, hus⟩ := hs.cells (mmOf_some hmm)
          obtain ⟨h1, h2⟩ := rowsOf_has hys (hus.drop off)
          cases hx with
          | v hx => cases hx with
            | one hx => cases hx with
              | sl hb =>
                rw [hB] at hb; cases hb
                refine ⟨h2, fun v => rfl, fun v hv => ?_⟩
                refine rows_first (cell hv hob) (by rw [flat_length, h2]) ?_ _ _
                intro j u hj
                rw [← h1, List.getElem?_take] at hj
                split at hj
                · rw [List.getElem?_drop] at hj; exact hj
                · cases hj
        · cases hq
      · cases hq
    · cases hq
  · rename_i z tg y base sz o n c
    split at hq
    · rename_i ro z' sh' rs base' tot e hmm
      split at hq
      · rename_i hE hsh hsz
        clear hsh
        have hsz := Nat.eq_of_beq_eq_true hsz
        subst hsz
        subst hE
        rw [castR_rfl] at hq
        -- so many rows of those from o on
        have key : ∀ zs : List (Row sh'), base = base' → zs.length = n → (n ≠ 0 → o + n ≤ rs.length ∧ zs = (rs.drop o).take n) → ys = zs → k = n →
            ys.length = k ∧ (∀ v : World, (Builtin.lenOf x).run C.P v = .ok k v) ∧ ∀ v : World, v.heap = w.heap → (Builtin.firstCells sh'.length k x).run C.P v = .ok ⟨ys.flatMap (rowV sh')⟩ v := by
          rintro zs rfl hzl hin rfl rfl
          cases hx with
          | v hx => cases hx with
            | one hx => cases hx with
              | rs hx =>
                obtain ⟨qa, hqa⟩ := hx.isSlice
                refine ⟨hzl, fun v => by rw [hqa]; rfl, fun v hv => ?_⟩
                by_cases h0 : k = 0
                · subst h0
                  have : ys = [] := List.eq_nil_of_length_eq_zero hzl
                  subst this
                  rw [hqa]
                  cases qa with
                  | none => simp [Builtin.firstCells]
                  | some qa => simp [Builtin.firstCells, loadCells, loadCellsFrom]
                · obtain ⟨hin, rfl⟩ := hin h0
                  rcases hx.2.2 with ⟨_, e0, _⟩ | ⟨_, B, hB, rfl⟩
                  · exact absurd e0 h0
                  · obtain ⟨B', hB', _, vs, fz, t', hob, _, hR⟩ := hs.live (mmOf_some hmm) (fun hd => by have h2 : rs = [] := hd.2; rw [h2] at hin; simp at hin; omega)
                    rw [hB] at hB'; cases hB'
                    refine rows_first (cell hv hob) (by rw [flat_length, hzl]) ?_ _ _
                    intro j u hj
                    have hsl : 0 < sh'.length := by
                      have := (List.getElem?_eq_some_iff.1 hj).1
                      rw [flat_length] at this
                      rcases Nat.eq_zero_or_pos sh'.length with e | h
                      · rw [e] at this; simp at this
                      · exact h
                    have hjl : j < k * sh'.length := by
                      have := (List.getElem?_eq_some_iff.1 hj).1
                      rwa [flat_length, hzl] at this
                    have hi : j / sh'.length < k := by rw [Nat.div_lt_iff_lt_mul hsl]; exact hjl
                    have hm : j % sh'.length < sh'.length := Nat.mod_lt _ hsl
                    have hjj : j = j / sh'.length * sh'.length + j % sh'.length := by rw [Nat.mul_comm]; exact (Nat.div_add_mod j sh'.length).symm
                    have g1 : ((rs.drop o).take k)[j / sh'.length]? = some (getR rs (o + j / sh'.length)) := by
                      rw [List.getElem?_take, if_pos hi, List.getElem?_drop]
                      exact getR_some (by omega)
                    have g2 := flat_get g1 hm
                    rw [← hjj, hj] at g2
                    have g3 := hR.get (i := o + j / sh'.length) (by omega) g2.symm
                    rw [← g3]
                    congr 1
                    rw [Nat.add_mul]; omega
        split at hq
        · have h0 : o = 0 := by
            cases hx with
            | v hx => cases hx with
              | one hx => cases hx with
                | rs hx => exact hx.1 rfl
          subst h0
          split at hq
          · cases hq
            exact key rs hp.1 hp.2.symm (fun _ => ⟨by rw [hp.2]; omega, by rw [List.drop_zero, hp.2, List.take_length]⟩) rfl rfl
          · split at hq
            · rename_i hb
              cases hq
              have hp : k = rs.length := hp
              exact key rs (Nat.eq_of_beq_eq_true hb) hp.symm (fun _ => ⟨by rw [hp]; omega, by rw [List.drop_zero, hp, List.take_length]⟩) rfl rfl
            · cases hq
        · split at hq
          · cases hq
            exact key _ hp.1 (by simp; have := hp.2; omega) (fun _ => ⟨hp.2, rfl⟩) rfl rfl
          · split at hq
            · rename_i hb
              cases hq
              have hp : o + k ≤ rs.length := hp
              exact key _ (Nat.eq_of_beq_eq_true hb) (by simp; omega) (fun _ => ⟨hp, rfl⟩) rfl rfl
            · cases hq
      · cases hq
    · cases hq
  · cases hq


/-- a new row's block, out of an array that has been laid -/
theorem new_rows {sh : List Kd} {size by_ : Nat} {e : TypeId} {xs : List (Row sh)} {rest : List Value} {c : Nat} (hc : xs.length ≤ c) (hr : rest.length = (c - xs.length) * sh.length) {γ : Nm} :
    HasB γ (.rows false false sh xs 0 c e) (some (.cells ⟨xs.flatMap (rowV sh) ++ rest⟩ e (0, 0))) := by
  have hm : (c - xs.length) * sh.length = c * sh.length - xs.length * sh.length := Nat.sub_mul _ _ _
  have hm2 : xs.length * sh.length ≤ c * sh.length := Nat.mul_le_mul_right _ hc
  refine ⟨rfl, _, (0, 0), _, rfl, fun _ => ⟨rfl, rfl⟩, hc, by simp only [List.length_append, flat_length, hr]; omega, ?_⟩
  rw [List.drop_zero, ← flat_length, List.take_left]

/-- nothing there as yet: what is appended makes a block, or nothing -/
theorem newQ_run {P : Program} {sh : List Kd} {size by_ : Nat} {t t2 ty e e2 : TypeId} {i : TypeInfo} {z : Value} (ht : P.underlying t = some (.slice e)) (ht2 : P.underlying t2 = some (.slice e2)) (hi : P.info? e = some i) (hz : i.zero = some z) (hzc : z.cells = ⟨rowV sh (row0 sh)⟩)
    (hsize : i.size = sh.length) (hsz : size = sh.length) (hby : i.bytes = by_) (hb0 : 0 < by_) {ys : List (Row sh)} {k : Nat} (h : newQ σ.m sh size by_ e ys k K) (hs : Sat β σ.m w) {q : Option Addr} {x : Value} (hl : ys.length = k)
    (hn : ∀ v : World, (Builtin.lenOf x).run P v = .ok k v) (hnew : ∀ v : World, v.heap = w.heap → (Builtin.firstCells sh.length k x).run P v = .ok ⟨ys.flatMap (rowV sh)⟩ v) :
    ∃ r w', (Builtin.append_ #[t, t2] ty #[.slice q 0 0, x]).run P w = .ok r w' ∧ After σ β w K r w' := by
  subst hsz
  obtain ⟨hbd, hk⟩ := h
  have hz1 : z.cells.size = sh.length := by rw [hzc]; simpa using rowV_length (sh := sh) (r := row0 sh)
  by_cases h0 : k = 0
  · subst h0
    have hy : ys = [] := List.eq_nil_of_length_eq_zero hl
    subst hy
    have hK := hk 0 ⟨Nat.le_refl _, fun _ => rfl⟩
    refine ⟨_, w, run_append_none ht ht2 hi hn (by rw [hsize]; simpa using hnew w rfl) (Nat.le_refl _), β, _, _, ?_, ?_, ?_, hK⟩
    · have cut : ∀ (y : Nat) (c : Blk), (σ.m ++ [some (Blk.rows false (decide (0 = 0)) sh [] 0 0 e)])[y]? = some (some c) → ¬ c.dead → σ.m[y]? = some (some c) := by
        intro y c hc hd
        rcases Nat.lt_or_ge y σ.m.length with hlt | hge
        · rwa [List.getElem?_append_left hlt] at hc
        · rw [List.getElem?_append_right hge] at hc
          cases hyy : y - σ.m.length with
          | zero => rw [hyy] at hc; simp at hc; subst hc; exact absurd ⟨rfl, rfl⟩ hd
          | succ n => rw [hyy] at hc; simp at hc
      refine ⟨fun y c hc => ?_, ?_, fun y a hy => ?_, hs.gl, fun y a ⟨c, hc, hr⟩ hy => hs.ng y a ⟨c, cut y c hc hr.alive, hr⟩ hy⟩
      · rcases Nat.lt_or_ge y σ.m.length with hlt | hge
        · rw [List.getElem?_append_left hlt] at hc
          exact hs.blk y c hc
        · rw [List.getElem?_append_right hge] at hc
          cases hyy : y - σ.m.length with
          | zero => rw [hyy] at hc; simp at hc; subst hc; exact .inl ⟨rfl, rfl⟩
          | succ n => rw [hyy] at hc; simp at hc
      · rintro y y' a ⟨c, hc, hr⟩ ⟨d, hd, hdd⟩ hy hy'
        exact hs.inj y y' a ⟨c, cut y c hc hr.alive, hr⟩ ⟨d, cut y' d hd hdd, hdd⟩ hy hy'
      · have := hs.dom y a hy; simp; omega
    · refine ⟨Nm.le_refl β, fun _ _ => rfl, by simp, ?_, ?_, rfl, rfl, rfl, Nat.le_refl _, fun _ _ _ => rfl⟩
      · rintro q y hy ⟨c, hc, hr⟩
        rw [List.getElem?_append_right hy] at hc
        cases hyy : y - σ.m.length with
        | zero => rw [hyy] at hc; simp at hc; subst hc; exact absurd ⟨rfl, rfl⟩ hr.alive
        | succ n => rw [hyy] at hc; simp at hc
      · rintro q y hy ⟨c, hc, hr⟩
        rw [List.getElem?_append_left hy] at hc
        exact ⟨c, hc, hr⟩
    · exact .v (.one (.rs ⟨fun _ => rfl, Nat.le_refl _, .inl ⟨rfl, rfl, _, rfl⟩⟩))
  · have hd : decide (k = 0) = false := decide_eq_false h0
    rw [hd] at hk
    have hkb : k * 1 ≤ k * by_ := Nat.mul_le_mul_left _ hb0
    obtain ⟨rest, c, hc, hrl, hrun⟩ := run_append_lay (P := P) (w := w) (ty := ty) (base := q) (sLen := 0) (sCap := 0) (old := []) (new := ys.flatMap (rowV sh)) ht ht2 hi hz hn (fun v _ => by cases q <;> simp [Builtin.firstCells, loadCells, loadCellsFrom]) (fun v hv => by rw [hsize]; exact hnew v hv) (by omega) (by rw [hby, Nat.zero_add]; exact hbd) (by omega)
    simp only [Nat.zero_add, List.nil_append] at hc hrl hrun
    rw [hz1, ← hl] at hrl
    have hK := hk c ⟨hc, fun e => absurd e h0⟩
    have hB : HasB (β.set σ.m.length w.heap.size) (.rows false false sh ys 0 c e) (some (.cells ⟨ys.flatMap (rowV sh) ++ rest⟩ e (0, 0))) := new_rows (size := 0) (by_ := 0) (by omega) hrl
    have hs' : Sat β σ.m w.drew := hs.ext (Ext.drew (Ext.refl w))
    refine ⟨_, _, hrun, _, _, _, sat_push hs' hB, ?_, .v (.one (.rs ⟨fun _ => rfl, hc, .inr ⟨rfl, w.heap.size, by simp [Nm.set], by simp⟩⟩)), hK⟩
    exact Since.trans hs (Since.ext' (Ext.drew (Ext.refl w))) (since_push hs' _ _)

theorem tsize_info {P : Program} {e : TypeId} {n : Nat} (h : tsize P e = some n) : ∃ i, P.info? e = some i ∧ i.size = n := by
  unfold tsize at h
  split at h
  · rename_i i hi; cases h; exact ⟨i, hi, rfl⟩
  · cases h
theorem ibytes_info {P : Program} {e : TypeId} {n : Nat} (h : ibytes P e = some n) : ∃ i, P.info? e = some i ∧ i.bytes = n := by
  unfold ibytes at h
  split at h
  · rename_i i hi; cases h; exact ⟨i, hi, rfl⟩
  · cases h

theorem vals2 {us : List SV} {vals : List Value} {d s : SV} (hu : us = [d, s]) (h : All₂ (Has β) us vals) : ∃ dv sv, vals = [dv, sv] ∧ Has β d dv ∧ Has β s sv := by
  subst hu
  obtain ⟨dv, r, rfl, h1, h⟩ := h.cons_inv
  obtain ⟨sv, r, rfl, h2, h⟩ := h.cons_inv
  rw [h.nil_inv]
  exact ⟨dv, sv, rfl, h1, h2⟩
theorem ts2 {ts : Array TypeId} {t t2 : TypeId} (h0 : ts[0]? = some t) (h1 : ts[1]? = some t2) (h2 : ts[2]? = none) : ts = #[t, t2] := by
  obtain ⟨l⟩ := ts
  match l with
  | [] => simp at h0
  | [_] => simp at h1
  | [a, b] => simp at h0 h1; subst h0; subst h1; rfl
  | _ :: _ :: _ :: _ => simp at h2

theorem flat_one {sh : List Kd} {ys : List (Row sh)} : ∀ v ∈ ys.flatMap (rowV sh), v.oneCell' = true := by
  intro v hv
  obtain ⟨r, _, hvr⟩ := List.mem_flatMap.1 hv
  obtain ⟨j, hj, rfl⟩ := List.mem_iff_getElem.1 hvr
  obtain ⟨q, hq, hqv⟩ := (rowV_has (β := fun _ => none) (sh := sh) (r := r)).get' (List.getElem?_eq_getElem hj)
  exact hqv.oneCell

/-- a block of which one forgets what is known -/
theorem forget_some {m : Mem} {x y : Nat} {c : Blk} (h : (m.set x none)[y]? = some (some c)) : m[y]? = some (some c) := by
  by_cases e : x = y
  · subst e; rw [List.getElem?_set] at h; simp at h
  · rwa [List.getElem?_set_ne e] at h
theorem Sat.forget (h : Sat β σ.m w) (x : Nat) : Sat β (σ.m.set x none) w := by
  refine ⟨fun y c hc => h.blk y c (forget_some hc), ?_, fun y a hy => by simpa using h.dom y a hy, h.gl, fun y a ⟨c, hc, hr⟩ hy => h.ng y a ⟨c, forget_some hc, hr⟩ hy⟩
  rintro y y' a ⟨c, hc, hr⟩ ⟨d, hd, hdd⟩ hy hy'
  exact h.inj y y' a ⟨c, forget_some hc, hr⟩ ⟨d, forget_some hd, hdd⟩ hy hy'
theorem since_forget (x : Nat) : Since σ.m β w (σ.m.set x none) β w := by
  refine ⟨Nm.le_refl β, fun _ _ => rfl, by simp, ?_, ?_, rfl, rfl, rfl, Nat.le_refl _, fun _ _ _ => rfl⟩
  · rintro q y hy ⟨c, hc, hr⟩
    have := (List.getElem?_eq_some_iff.1 (forget_some hc)).1
    omega
  · rintro q y hy ⟨c, hc, hr⟩
    exact ⟨c, forget_some hc, hr⟩

set_option maxHeartbeats 1000000 in
theorem appQ_sound {c : Call} {us : List SV} (ho : o.op = .call c) (hb : c.callee = .builtin .append) (h : appQ C.P σ.m c.argTypes us K) (hf : Fit bs σ β a w) (hargs : All₂ (Has β) us (c.args.toList.map a.eval)) : Doe C.P o a w (After σ β w K) := by
  unfold appQ at h
  split at h
  · rename_i d s
    split at h
    · rename_i t t2 ht0 ht1 ht2'
      split at h
      · rename_i e e2 hu hu2
        split at h
        · rename_i sh size by_ hsh hsize hby
          split at h
          · rename_i hd
            rw [Bool.and_eq_true] at hd
            have hd1 := Nat.eq_of_beq_eq_true hd.1
            have hd2 : 0 < by_ := by have := hd.2; rwa [Nat.blt_eq] at this
            subst hd1
            split at h
            · rename_i q ys k hsrc
              have h00 := andP_spec h
              clear h
              obtain ⟨hp, h⟩ := h00
              obtain ⟨dv, sv, hvals, hdv, hsv⟩ := vals2 rfl hargs
              obtain ⟨i, z, hi, hz, hzc⟩ := shOf_spec hsh
              obtain ⟨i', hi', his⟩ := tsize_info hsize
              obtain ⟨i'', hi'', hib⟩ := ibytes_info hby
              rw [hi] at hi' hi''; cases hi'; cases hi''
              obtain ⟨hl, hn, hnew⟩ := srcQ_run (C := C) hsrc hp hf.sat hsv
              have fin : ∀ {r : Value} {w' : World}, (Builtin.append_ #[t, t2] o.type #[dv, sv]).run C.P w = .ok r w' → After σ β w K r w' → Doe C.P o a w (After σ β w K) := by
                intro r w' hr hA
                refine doe_builtin (s := Builtin.append_ #[t, t2] o.type #[dv, sv]) ho hb (fun cs => ?_) hr hA
                rw [hvals, ts2 ht0 ht1 ht2']
                rfl
              have new : newQ σ.m sh sh.length by_ e ys k K → (∃ q, dv = .slice q 0 0) → Doe C.P o a w (After σ β w K) := by
                rintro hq ⟨qa, rfl⟩
                obtain ⟨r, w', hr, hA⟩ := newQ_run hu hu2 hi hz hzc his rfl hib hd2 hq hf.sat hl hn hnew
                exact fin hr hA
              unfold dstQ at h
              split at h
              · cases hdv with
                | v hdv => cases hdv with
                  | one hdv => cases hdv with
                    | nils => exact new h ⟨_, rfl⟩
              · split at h
                · rename_i hbb
                  rw [Bool.and_eq_true] at hbb
                  have b1 := Nat.eq_of_beq_eq_true hbb.1
                  have b2 := Nat.eq_of_beq_eq_true hbb.2
                  subst b1; subst b2
                  cases hdv with
                  | v hdv => cases hdv with
                    | one hdv => cases hdv with
                      | sl hb => exact new h ⟨_, rfl⟩
                · exact h.elim
              · rename_i zz tg x base sz oo n cc
                cases hdv with
                | v hdv => cases hdv with
                  | one hdv => cases hdv with
                    | rs hrs =>
                      split at h
                      · obtain ⟨⟨rfl, rfl⟩, h⟩ := h
                        exact new h hrs.isSlice
                      · split at h
                        · rename_i ro z' sh' xs base' tot e' hmm
                          split at h
                          · exact h.elim
                          · split at h
                            · rename_i hE hshE hbb
                              clear hshE
                              subst hE
                              rw [castR_rfl] at h
                              simp only [Bool.and_eq_true] at hbb
                              obtain ⟨b1, b2, b3, b4⟩ := hbb
                              have b1 := Nat.eq_of_beq_eq_true b1
                              have b2 := Nat.eq_of_beq_eq_true b2
                              have b3 := Nat.eq_of_beq_eq_true b3
                              have b4 := Nat.eq_of_beq_eq_true b4
                              subst b1; subst b2; subst b3; subst b4
                              have hmb := mmOf_some hmm
                              split at h
                              · -- the whole slice
                                obtain ⟨⟨hnl, rfl, rfl, hz0, hbd⟩, h⟩ := h
                                have ho0 := hrs.1 rfl
                                subst ho0
                                obtain ⟨qa, hqa⟩ := hrs.isSlice
                                by_cases hroom : n + k ≤ cc
                                · -- room
                                  rcases hrs.2.2 with ⟨rfl, rfl, q', rfl⟩ | ⟨rfl, B, hB, rfl⟩
                                  · have hc0 := hz0 rfl
                                    subst hc0
                                    have hk0 : k = 0 := by omega
                                    subst hk0
                                    have hy0 : ys = [] := List.eq_nil_of_length_eq_zero hl
                                    subst hy0
                                    have hx0 : xs = [] := List.eq_nil_of_length_eq_zero hnl.symm
                                    subst hx0
                                    have hK := h 0 (Nat.le_refl _) (fun _ => rfl)
                                    refine fin (run_append_none hu hu2 hi hn (by rw [his]; simpa using hnew w rfl) (Nat.le_refl _)) ?_
                                    refine ⟨β, _, _, ?_, ?_, .v (.one (.rs ⟨fun _ => rfl, Nat.le_refl _, .inl ⟨rfl, rfl, _, rfl⟩⟩)), hK⟩
                                    · have cut : ∀ (y : Nat) (c : Blk), (σ.m.set x none ++ [some (Blk.rows false (decide (0 = 0) && true) sh' ([] ++ []) 0 0 e')])[y]? = some (some c) → ¬ c.dead → σ.m[y]? = some (some c) := by
                                        intro y c hc hd
                                        rcases Nat.lt_or_ge y σ.m.length with hlt | hge
                                        · rw [List.getElem?_append_left (by simpa using hlt)] at hc
                                          by_cases e1 : x = y
                                          · subst e1; rw [List.getElem?_set] at hc; simp at hc
                                          · rwa [List.getElem?_set_ne e1] at hc
                                        · rw [List.getElem?_append_right (by simpa using hge)] at hc
                                          simp only [List.length_set] at hc
                                          cases hyy : y - σ.m.length with
                                          | zero => rw [hyy] at hc; simp at hc; subst hc; exact absurd ⟨rfl, rfl⟩ hd
                                          | succ n => rw [hyy] at hc; simp at hc
                                      refine ⟨fun y c hc => ?_, ?_, fun y a hy => ?_, hf.sat.gl, fun y a ⟨c, hc, hr⟩ hy => hf.sat.ng y a ⟨c, cut y c hc hr.alive, hr⟩ hy⟩
                                      · rcases Nat.lt_or_ge y σ.m.length with hlt | hge
                                        · rw [List.getElem?_append_left (by simpa using hlt)] at hc
                                          by_cases e1 : x = y
                                          · subst e1; rw [List.getElem?_set] at hc; simp at hc
                                          · rw [List.getElem?_set_ne e1] at hc; exact hf.sat.blk y c hc
                                        · rw [List.getElem?_append_right (by simpa using hge)] at hc
                                          simp only [List.length_set] at hc
                                          cases hyy : y - σ.m.length with
                                          | zero => rw [hyy] at hc; simp at hc; subst hc; exact .inl ⟨rfl, rfl⟩
                                          | succ n => rw [hyy] at hc; simp at hc
                                      · rintro y y' a ⟨c, hc, hr⟩ ⟨d, hd, hdd⟩ hy hy'
                                        exact hf.sat.inj y y' a ⟨c, cut y c hc hr.alive, hr⟩ ⟨d, cut y' d hd hdd, hdd⟩ hy hy'
                                      · have := hf.sat.dom y a hy; simp; omega
                                    · refine ⟨Nm.le_refl β, fun _ _ => rfl, by simp, ?_, ?_, rfl, rfl, rfl, Nat.le_refl _, fun _ _ _ => rfl⟩
                                      · rintro q y hy ⟨c, hc, hr⟩
                                        rw [List.getElem?_append_right (by simpa using hy)] at hc
                                        simp only [List.length_set] at hc
                                        cases hyy : y - σ.m.length with
                                        | zero => rw [hyy] at hc; simp at hc; subst hc; exact absurd ⟨rfl, rfl⟩ hr.alive
                                        | succ n => rw [hyy] at hc; simp at hc
                                      · rintro q y hy ⟨c, hc, hr⟩
                                        rw [List.getElem?_append_left (by simpa using hy)] at hc
                                        by_cases e1 : x = y
                                        · subst e1; rw [List.getElem?_set] at hc; simp at hc
                                        · rw [List.getElem?_set_ne e1] at hc; exact ⟨c, hc, hr⟩
                                  · obtain ⟨B', hB', _, vs, fz, t', hob, hfz, hR⟩ := hf.sat.live hmb (fun hd => by cases hd.1)
                                    rw [hB] at hB'; cases hB'
                                    obtain ⟨rfl, hte⟩ := hfz rfl
                                    rw [hte] at hob
                                    have hK := h cc hroom (fun _ => rfl)
                                    rw [Bool.and_false] at hK
                                    have hW := hR.write (ys := ys) (a := n) (by omega) (by rw [hl]; exact hroom)
                                    have e1 : xs.take n ++ (ys ++ xs.drop (n + ys.length)) = xs ++ ys := by
                                      rw [hnl, List.take_length, List.drop_eq_nil_of_le (by omega), List.append_nil]
                                    rw [e1, Nat.zero_add] at hW
                                    have hone : ∀ v ∈ ys.flatMap (rowV sh'), v.oneCell' = true := flat_one
                                    have hfit := hR.2.1
                                    have hmul : (n + k) * sh'.length ≤ cc * sh'.length := Nat.mul_le_mul_right _ hroom
                                    rw [Nat.add_mul] at hmul
                                    obtain ⟨w', hrun, hp⟩ := run_storeCells (P := C.P) (b := B) (off := n * sh'.length) (e := e') (ys.flatMap (rowV sh')) 0 vs w hob hone (by rw [flat_length, hl]; omega)
                                    have hh := hp.here
                                    rw [Nat.add_zero] at hh
                                    have hBn : HasB β (.rows false false sh' (xs ++ ys) 0 cc e') w'.heap[B]? := ⟨rfl, _, _, _, hh, fun _ => ⟨rfl, rfl⟩, hW⟩
                                    refine fin (run_append_in hu hu2 hi hn (by rw [his]; exact hnew w rfl) hroom (w' := w') ?_) ?_
                                    · rw [his, addr_add]
                                      have e2 : 0 + 0 * sh'.length + n * sh'.length = n * sh'.length := by omega
                                      rw [e2]; exact hrun
                                    · refine ⟨_, _, _, hf.sat.move hmb ⟨rfl, rfl⟩ hB hp.turn hBn, since_move hf.sat hmb ⟨rfl, rfl⟩ hB hp.turn, ?_, hK⟩
                                      exact .v (.one (.rs ⟨fun _ => rfl, hroom, .inr ⟨rfl, B, by simp [Nm.set], rfl⟩⟩))
                                · -- no room
                                  have hk0 : k ≠ 0 := by
                                    intro e0
                                    have := hrs.2.1
                                    omega
                                  have hdk : decide (k = 0) = false := decide_eq_false hk0
                                  rw [hdk, Bool.false_and] at h
                                  have hkb : (n + k) * 1 ≤ (n + k) * by_ := Nat.mul_le_mul_left _ hd2
                                  have hz1 : z.cells.size = sh'.length := by rw [hzc]; simpa using rowV_length (sh := sh') (r := row0 sh')
                                  have hold : ∀ v : World, v.heap = w.heap → (Builtin.firstCells i.size n (.slice qa n cc)).run C.P v = .ok ⟨xs.flatMap (rowV sh')⟩ v := by
                                    intro v hv
                                    rcases hrs.2.2 with ⟨_, e0, _⟩ | ⟨rfl, B, hB, hve⟩
                                    · subst e0
                                      have hx0 : xs = [] := List.eq_nil_of_length_eq_zero hnl.symm
                                      subst hx0
                                      cases qa with
                                      | none => simp [Builtin.firstCells]
                                      | some qa => simp [Builtin.firstCells, loadCells, loadCellsFrom]
                                    · obtain ⟨B', hB', _, vs, fz, t', hob, _, hR⟩ := hf.sat.live hmb (fun hd => by cases hd.1)
                                      rw [hB] at hB'; cases hB'
                                      rw [hve] at hqa
                                      cases hqa
                                      have h3 := hR.2.2
                                      rw [his]
                                      refine rows_first (vs := vs) (fun i => by simp [World.cell?, hv, hob]) (by rw [flat_length, hnl]) ?_ _ _
                                      intro j u hj
                                      rw [← h3, List.getElem?_take] at hj
                                      split at hj
                                      · rw [List.drop_zero] at hj; simpa using hj
                                      · cases hj
                                  obtain ⟨rest, c2, hc2, hrl, hrun⟩ := run_append_lay (P := C.P) (w := w) (ty := o.type) (base := qa) (sLen := n) (sCap := cc) (old := xs.flatMap (rowV sh')) (new := ys.flatMap (rowV sh')) hu hu2 hi hz hn hold (fun v hv => by rw [his]; exact hnew v hv) (by omega) (by rw [hib]; exact hbd) (by omega)
                                  have hK := h c2 hc2 (fun e => absurd e hk0)
                                  have hlen : (xs ++ ys).length = n + k := by rw [List.length_append, ← hnl, hl]
                                  rw [hz1, ← hlen] at hrl
                                  rw [← List.flatMap_append] at hrun
                                  have hs1 : Sat β σ.m w.drew := hf.sat.ext (Ext.drew (Ext.refl w))
                                  have hs2 := hs1.forget x
                                  have hB : HasB (β.set (σ.m.set x none).length w.heap.size) (.rows false false sh' (xs ++ ys) 0 c2 e') (some (.cells ⟨(xs ++ ys).flatMap (rowV sh') ++ rest⟩ e' (0, 0))) := new_rows (size := 0) (by_ := 0) (by rw [hlen]; exact hc2) hrl
                                  rw [← hqa] at hrun
                                  refine fin hrun ⟨_, _, _, sat_push hs2 hB, ?_, ?_, hK⟩
                                  · exact Since.trans hf.sat (Since.ext' (Ext.drew (Ext.refl w))) (Since.trans hs1 (since_forget x) (since_push hs2 _ _))
                                  · exact .v (.one (.rs ⟨fun _ => rfl, hc2, .inr ⟨rfl, w.heap.size, by simp [Nm.set], by simp⟩⟩))
                              · -- a part of it: there is room
                                obtain ⟨⟨rfl, rfl, hon, hroom, hct⟩, h⟩ := h
                                rcases hrs.2.2 with ⟨e0, _⟩ | ⟨_, B, hB, rfl⟩
                                · cases e0
                                · obtain ⟨B', hB', _, vs, fz, t', hob, hfz, hR⟩ := hf.sat.live hmb (fun hd => by cases hd.1)
                                  rw [hB] at hB'; cases hB'
                                  obtain ⟨rfl, hte⟩ := hfz rfl
                                  rw [hte] at hob
                                  have hW := hR.write (ys := ys) (a := oo + n) hon (by omega)
                                  rw [Nat.zero_add, hl] at hW
                                  have hone : ∀ v ∈ ys.flatMap (rowV sh'), v.oneCell' = true := flat_one
                                  have hfit := hR.2.1
                                  have hmul : (oo + n + k) * sh'.length ≤ tot * sh'.length := Nat.mul_le_mul_right _ (by omega)
                                  rw [Nat.add_mul] at hmul
                                  obtain ⟨w', hrun, hp⟩ := run_storeCells (P := C.P) (b := B) (off := (oo + n) * sh'.length) (e := e') (ys.flatMap (rowV sh')) 0 vs w hob hone (by rw [flat_length, hl]; omega)
                                  have hh := hp.here
                                  rw [Nat.add_zero] at hh
                                  have hBn : HasB β (.rows false false sh' (xs.take (oo + n) ++ (ys ++ xs.drop (oo + n + k))) 0 tot e') w'.heap[B]? := ⟨rfl, _, _, _, hh, fun _ => ⟨rfl, rfl⟩, hW⟩
                                  refine fin (run_append_in hu hu2 hi hn (by rw [his]; exact hnew w rfl) hroom (w' := w') ?_) ?_
                                  · rw [his, addr_add]
                                    have e2 : 0 + oo * sh'.length + n * sh'.length = (oo + n) * sh'.length := by rw [Nat.add_mul]; omega
                                    rw [e2]; exact hrun
                                  · exact ⟨β, _, _, hf.sat.turn hmb ⟨rfl, rfl⟩ hB hp.turn hBn, since_turn hmb ⟨rfl, rfl⟩ hB hp.turn, .v (.one (.rs ⟨fun e => (by cases e), hroom, .inr ⟨rfl, B, hB, rfl⟩⟩)), h⟩
                            · exact h.elim
                        · exact h.elim
              · exact h.elim
            · exact h.elim
          · exact h.elim
        · exact h.elim
      · exact h.elim
    · exact h.elim
  · exact h.elim

theorem clrQ_sound {c : Call} {us : List SV} (ho : o.op = .call c) (hb : c.callee = .builtin .clear) (h : clrQ C.P σ.m c.argTypes us K) (hf : Fit bs σ β a w) (hargs : All₂ (Has β) us (c.args.toList.map a.eval)) : Doe C.P o a w (After σ β w K) := by
  unfold clrQ at h
  split at h
  · rename_i z tg x base sz oo n cc
    split at h
    · rename_i t ht
      split at h
      · rename_i e hu
        split at h
        · rename_i sh ro z' sh' xs base' tot e' hsh hmm
          split at h
          · exact h.elim
          · split at h
            · rename_i hE hshE hbb
              clear hshE
              subst hE
              rw [castR_rfl] at h
              simp only [Bool.and_eq_true] at hbb
              obtain ⟨b1, b2⟩ := hbb
              have b1 := Nat.eq_of_beq_eq_true b1
              have b2 := Nat.eq_of_beq_eq_true b2
              subst b1; subst b2
              have hmb := mmOf_some hmm
              obtain ⟨hon, h⟩ := h
              obtain ⟨v, r, hvals, hv, hr⟩ := hargs.cons_inv
              rw [hr.nil_inv] at hvals
              obtain ⟨i, zv, hi, hz, hzc⟩ := shOf_spec hsh
              have fin : ∀ {w' : World}, (Builtin.clear_ c.argTypes o.type #[v]).run C.P w = .ok (.tuple #[]) w' → After σ β w K (.tuple #[]) w' → Doe C.P o a w (After σ β w K) := by
                intro w' hr hA
                refine doe_builtin (s := Builtin.clear_ c.argTypes o.type #[v]) ho hb (fun cs => ?_) hr hA
                rw [hvals]
                rfl
              cases hv with
              | v hv => cases hv with
                | one hv => cases hv with
                  | rs hrs =>
                    by_cases h0 : n = 0
                    · subst h0
                      obtain ⟨qa, rfl⟩ := hrs.isSlice
                      have e1 : σ.m.set x (some (Blk.rows false z' sh' (xs.take oo ++ (List.replicate 0 (row0 sh') ++ xs.drop (oo + 0))) base tot e')) = σ.m := by
                        have e2 : xs.take oo ++ (List.replicate 0 (row0 sh') ++ xs.drop (oo + 0)) = xs := by simp
                        rw [e2]
                        apply List.ext_getElem?
                        intro y
                        rw [List.getElem?_set]
                        split
                        · rename_i e3; subst e3
                          have hl := (List.getElem?_eq_some_iff.1 hmb).1
                          rw [if_pos hl, hmb]
                        · rfl
                      rw [e1] at h
                      refine fin (w' := w) ?_ ⟨β, _, _, hf.sat, Since.refl _ _ _, .tup .nil, h⟩
                      cases qa <;> simp [Builtin.clear_, ht, run_underlying hu]
                    · rcases hrs.2.2 with ⟨_, e0, _⟩ | ⟨_, B, hB, rfl⟩
                      · exact absurd e0 h0
                      · obtain ⟨B', hB', hz', vs, fz, t', hob, hfz, hR⟩ := hf.sat.live hmb (fun hd => by have h2 : xs = [] := hd.2; rw [h2] at hon; simp at hon; omega)
                        rw [hB] at hB'; cases hB'
                        subst hz'
                        obtain ⟨rfl, hte⟩ := hfz rfl
                        rw [hte] at hob
                        have hlr : (List.replicate n (row0 sh')).length = n := by simp
                        have hW := hR.write (ys := List.replicate n (row0 sh')) (a := oo) (by omega) (by rw [hlr]; have := hR.1; omega)
                        have hfit := hR.2.1
                        have hmul : (oo + n) * sh'.length ≤ tot * sh'.length := Nat.mul_le_mul_right _ (by have := hR.1; omega)
                        rw [Nat.add_mul] at hmul
                        obtain ⟨w', hrun, hp⟩ := run_storeCells (P := C.P) (b := B) (off := base + oo * sh'.length) (e := e') ((List.replicate n (row0 sh')).flatMap (rowV sh')) 0 vs w hob flat_one (by rw [flat_length, hlr]; omega)
                        have hh := hp.here
                        rw [Nat.add_zero] at hh
                        rw [hlr] at hW
                        have hBn : HasB β (.rows false false sh' (xs.take oo ++ (List.replicate n (row0 sh') ++ xs.drop (oo + n))) base tot e') w'.heap[B]? := ⟨rfl, _, _, _, hh, fun _ => ⟨rfl, rfl⟩, hW⟩
                        refine fin (w' := w') ?_ ⟨β, _, _, hf.sat.turn hmb ⟨rfl, rfl⟩ hB hp.turn hBn, since_turn hmb ⟨rfl, rfl⟩ hB hp.turn, .tup .nil, h⟩
                        have hzl : (Builtin.zeroCells zv.cells n).toList = (List.replicate n (row0 sh')).flatMap (rowV sh') := by
                          rcases Nat.eq_zero_or_pos sh'.length with e0 | hpos
                          · have : sh' = [] := List.eq_nil_of_length_eq_zero e0
                            subst this
                            simp [Builtin.zeroCells, hzc, rowV]
                          · rw [← flat_replicate hpos n (n * sh'.length) (Nat.le_refl _), hzc]
                            have : (rowV sh' (row0 sh')).length = sh'.length := rowV_length
                            rw [List.take_of_length_le (by simp)]
                            simp [Builtin.zeroCells, this, Array.toList_range]
                        obtain ⟨n', rfl⟩ : ∃ n', n = n' + 1 := ⟨n - 1, by omega⟩
                        rw [← hzl] at hrun
                        simp [Builtin.clear_, ht, run_underlying hu, zeroValue, typeInfo, hi, hz, hrun]
            · exact h.elim
        · exact h.elim
      · exact h.elim
    · exact h.elim
  · exact h.elim
end

theorem nlQ_sound {bs : Nat} {C : Ctx} {σ : St} {o : Oper} {op : BinOp} {t : TypeId} {x y : Operand} {yt : TypeId} {K : SV → Mem → Prop} {β : Nm} {a : Act} {w : World} (ho : o.op = .binOp op t x y yt) (h : nlQ C.P op t (ev σ.tm x) (ev σ.tm y) σ.m K) (hf : Fit bs σ β a w) : Doe C.P o a w (After σ β w K) := by
  unfold nlQ at h
  split at h
  · rename_i z tg b base sz of n c hx hy
    split at h
    · rename_i e ht
      split at h
      · rename_i p q hp hq
        have hxv := ev_has hf.tm hx
        have hyv := ev_has hf.tm hy
        obtain ⟨hn1, hn2⟩ := h
        cases hxv with
        | v hxv => cases hxv with
          | one hxv => cases hyv with
            | v hyv => cases hyv with
              | one hyv =>
                generalize hu : a.eval x = u at hxv
                generalize hv : a.eval y = v at hyv
                cases hyv
                cases hxv with
                | rs hr =>
                  have fin : ∀ {r s : Bool}, neg? op r = some s → (Op.equal t u (.slice none 0 0)).run C.P w = .ok r w → (∃ q n c, u = .slice q n c) → K (lb true s) σ.m → Doe C.P o a w (After σ β w K) := by
                    intro r s hs he hsl hk
                    obtain ⟨q', n', c', rfl⟩ := hsl
                    refine doe_v (by rw [execOp, ho]) (v := .bool s) (w' := w) ?_ ⟨β, lb true s, σ.m, hf.sat, Since.refl _ _ _, .v (.one .bool), hk⟩
                    simp only [hu, hv]
                    rw [Sem.run_bind, guard_plain (by intros; simp) (by simp)]
                    exact eqlike_run hs he (by intros; simp) (by intros; simp) (by intros; simp) (by intros; simp)
                  rcases hr.2.2 with ⟨hz, hn, q', rfl⟩ | ⟨hz, k, hk, rfl⟩
                  · cases q' with
                    | none => exact fin hp (eqq fun d => by simp [Op.equalIn, run_underlying ht]) ⟨_, _, _, rfl⟩ (hn1 hz)
                    | some q' => exact fin hq (eqq fun d => by simp [Op.equalIn, run_underlying ht]) ⟨_, _, _, rfl⟩ hn2
                  · exact fin hq (eqq fun d => by simp [Op.equalIn, run_underlying ht]) ⟨_, _, _, rfl⟩ hn2
      · exact h.elim
    · exact h.elim
  · exact h.elim

theorem lOp_sound {bs : Nat} {C : Ctx} (hC : C.Ok) {σ : St} {o : Oper} {K : SV → Mem → Prop} {β : Nm} {a : Act} {w : World} (h : lOp C σ o K) (hf : Fit bs σ β a w) (hY : YOk C β) : Doe C.P o a w (After σ β w K) := by
  unfold lOp at h
  split at h
  · rename_i t x y ho
    split at h
    · rename_i xs ys hx hy
      split at h
      · rename_i m' hm
        unfold stQ at hm
        have hxv := ev_has hf.tm hx
        have hyv := ev_has hf.tm hy
        split at hm
        · rename_i b off u
          split at hm
          · rename_i l e hmm
            split at hm
            · rename_i n hn
              split at hm
              · rename_i hd
                cases hm
                simp only [Bool.and_eq_true, decide_eq_true_eq] at hd
                obtain ⟨d1, d2⟩ := hd
                have hmb : σ.m[b]? = some (some (.cells l e)) := by
                  unfold mmOf at hmm
                  split at hmm
                  · cases hmm; assumption
                  · cases hmm
                obtain ⟨B, hB, us, hob, hus⟩ := hf.sat.cells hmb
                cases hyv with
                | v hyv =>
                  obtain ⟨vs, hvc, hvs⟩ := hyv.cells
                  have l1 := hvs.length
                  have l2 := hus.length
                  have hone : ∀ v ∈ vs, v.oneCell' = true := by
                    intro v hv
                    obtain ⟨i, hi, rfl⟩ := List.mem_iff_getElem.1 hv
                    obtain ⟨q, hq, hqv⟩ := hvs.get' (List.getElem?_eq_getElem hi)
                    exact hqv.oneCell
                  obtain ⟨w', hr, hp⟩ := run_storeCells (P := C.P) (b := B) (off := off) (e := e) vs 0 us w hob hone (by omega)
                  have hav : a.eval x = .pointer (some ⟨B, off, none⟩) := by
                    cases hxv with
                    | v hxv => cases hxv with
                      | one hxv => generalize a.eval x = q at hxv ⊢; cases hxv; rename_i h1; rw [hB] at h1; cases h1; rfl
                  have hnew : All₂ (HasL β) (splice l off u.cells) (us.take (off + 0) ++ (vs ++ us.drop (off + 0 + vs.length))) := by
                    unfold splice
                    rw [← l1]
                    exact (hus.take _).append (hvs.append (hus.drop _))
                  refine doe_skip (w' := w') ?_ ⟨β, .tup [], _, hf.sat.put hmb hB hp hnew, since_put hmb hB hp, .tup .nil, h⟩
                  rw [execOp, ho]
                  simp only [hav, Instr.storeAt, Instr.sureAddr, storeVar, Sem.run_bind, Sem.run_pure, Result.andThen_ok, run_sizeOf' hn, hvc, List.size_toArray]
                  rw [if_neg (by simp; omega)]
                  rw [hr]
                  rfl
              · cases hm
            · cases hm
          · cases hm
        · cases hm
      · split at h
        · rename_i q m' hm
          exact stR_sound ho hm h.1 h.2 hf (ev_has hf.tm hx) (ev_has hf.tm hy)
        · exact h.elim
    · exact h.elim
  · rename_i c ho
    split at h
    · rename_i f hfc
      split at h
      · rename_i id caps hcl
        split at h
        · rename_i us hus
          split at h
          · rename_i mc hmc
            obtain ⟨hcall, hsound⟩ := hC.Δ id mc (find_mem hmc)
            have hfh := ev_has hf.tm hcl
            generalize hq : a.eval f = q at hfh
            cases hfh with
            | clo hcaps =>
              rename_i vs
              have hargs := (omap_all (g := a.eval) (fun x s e => ev_has hf.tm e) hus).append (caps_has hcaps)
              refine doe_call (f := id) (args := ⟨c.args.toList.map a.eval ++ vs⟩) ?_ ((hsound β _ _ _ w K h hargs hf.sat).mono ?_)
              · rw [execOp, ho]
                have e1 : (c.args.map a.eval) = ⟨c.args.toList.map a.eval⟩ := by apply Array.ext'; simp
                simp only [resolve, hfc, hq, Deferred.ofValue, Sem.run_bind, Sem.run_pure, Result.andThen_ok, invoke, e1]
                rw [callFunc_run hcall]
                simp
              · rintro e w' ⟨β', v, m', r, h1, h2, rfl, h3, h4⟩
                exact ⟨r, rfl, β', v, m', h1, h2, h3, h4⟩
          · split at h
            · rename_i hmc bc hbc
              unfold bcQ at h
              split at h
              · rename_i y rest hus2
                split at h
                · rename_i l t hmm
                  split at h
                  · rename_i p s new hbcq
                    split at h
                    · obtain ⟨hp, hk⟩ := andP_spec h
                      obtain ⟨hcall, hsound⟩ := hC.B id bc (find_mem hbc)
                      have hfh := ev_has hf.tm hcl
                      generalize hq : a.eval f = q at hfh
                      cases hfh with
                      | clo hcaps =>
                        rename_i vs
                        have hargs := (omap_all (g := a.eval) (fun x s e => ev_has hf.tm e) hus).append (caps_has hcaps)
                        rw [hus2] at hargs
                        obtain ⟨v0, vals, hvals, hv0, hrest⟩ := hargs.cons_inv
                        obtain ⟨B, hB, us', hob, hus'⟩ := hf.sat.cells (mmOf_some hmm)
                        have hv0' : v0 = .pointer (some ⟨B, 0, none⟩) := by
                          cases hv0 with
                          | v hv0 => cases hv0 with
                            | one hv0 => cases hv0 with
                              | ptr e => rw [hB] at e; cases e; rfl
                        subst hv0'
                        have hcc : Calls C.P id ⟨c.args.toList.map a.eval ++ vs⟩ w (fun e w' => ∃ r, e = .returned r ∧ After σ β w K r w') := by
                          rw [hvals]
                          refine (hsound β rest vals l t p s new w B us' hf.sat.gl (hf.sat.ng _ _ ⟨_, mmOf_some hmm, trivial⟩ hB) hbcq hp hrest hob hus').mono ?_
                          rintro e w' ⟨r, us2, rfl, hr, hnew, hhere, hturn⟩
                          exact ⟨r, rfl, β, s, _, hf.sat.turn (b1 := .cells new t) (mmOf_some hmm) trivial hB hturn ⟨us2, hhere, hnew⟩, since_turn (mmOf_some hmm) trivial hB hturn, hr, hk⟩
                        refine doe_call (f := id) (args := ⟨c.args.toList.map a.eval ++ vs⟩) ?_ hcc
                        rw [execOp, ho]
                        have e1 : (c.args.map a.eval) = ⟨c.args.toList.map a.eval⟩ := by apply Array.ext'; simp
                        simp only [resolve, hfc, hq, Deferred.ofValue, Sem.run_bind, Sem.run_pure, Result.andThen_ok, invoke, e1]
                        rw [callFunc_run hcall]
                        simp
                    · exact h.elim
                  · exact h.elim
                · exact h.elim
              · exact h.elim
            · split at h
              · rename_i hI hIe
                obtain ⟨hcall, hsound⟩ := hC.I hI hIe _ _ _ _ h
                have hfh := ev_has hf.tm hcl
                generalize hq : a.eval f = q at hfh
                cases hfh with
                | clo hcaps =>
                  rename_i vs
                  have hargs := (omap_all (g := a.eval) (fun x s e => ev_has hf.tm e) hus).append (caps_has hcaps)
                  refine doe_call (f := id) (args := ⟨c.args.toList.map a.eval ++ vs⟩) ?_ ((hsound β _ w hf.sat hargs).mono ?_)
                  · rw [execOp, ho]
                    have e1 : (c.args.map a.eval) = ⟨c.args.toList.map a.eval⟩ := by apply Array.ext'; simp
                    simp only [resolve, hfc, hq, Deferred.ofValue, Sem.run_bind, Sem.run_pure, Result.andThen_ok, invoke, e1]
                    rw [callFunc_run hcall]
                    simp
                  · rintro e w' ⟨β', v, m', r, h1, h2, rfl, h3, h4⟩
                    exact ⟨r, rfl, β', v, m', h1, h2, h3, h4⟩
              · exact h.elim
        · exact h.elim
      · rename_i v hv
        split at h
        · rename_i y hy
          split at h
          · rename_i us hus
            have hargs := omap_all (g := a.eval) (fun x s e => ev_has hf.tm e) hus
            obtain ⟨l, fn, tmps, assign, body, rfl, hrun, hround⟩ := hY y hy β (Nm.le_refl β) _ us σ.m K _ w h hf.sat hargs
            have hev : a.eval f = .func (.yield l) #[] #[] := by
              have hh := ev_has hf.tm hv
              cases hh with
              | v hh => cases hh with
                | one hh => generalize a.eval f = q at hh ⊢; cases hh; rfl
            intro F n hF next Q hn
            refine doe_in hF (x := .round l fn tmps assign body) (w' := w) ?_ (fun d e => by cases e) ?_
            · rw [execOp, ho]
              have e1 : (c.args.map a.eval) = ⟨c.args.toList.map a.eval⟩ := by apply Array.ext'; simp
              simp only [resolve, hfc, hev, Deferred.ofValue, Sem.run_bind, Sem.run_pure, Result.andThen_ok, invoke, e1]
              simpa using hrun
            · refine ⟨fun e => hF.depth e, (hround F (n - 1) hF).mono ?_⟩
              rintro e w' ⟨γ', s, m', r, rfl, h1, h2, h3, h4⟩
              exact hn _ _ ⟨γ', s, m', h1, h2, h3, h4⟩
          · exact h.elim
        · exact h.elim
      · exact h.elim
    · rename_i b hfc
      split at h
      · rename_i us hus
        have hargs := omap_all (g := a.eval) (fun x s e => ev_has hf.tm e) hus
        split at h
        · exact appQ_sound ho hfc h hf hargs
        · exact clrQ_sound ho hfc h hf hargs
        · exact h.elim
      · exact h.elim
    · exact h.elim
  · rename_i op t x y yt ho
    exact nlQ_sound ho h hf
  · exact h.elim

theorem xOp_sound {bs : Nat} {C : Ctx} (hC : C.Ok) {σ : St} {o : Oper} {K : SV → Mem → Prop} {β : Nm} {a : Act} {w : World} (h : xOp C σ o K) (hf : Fit bs σ β a w) (hY : YOk C β) : Doe C.P o a w (After σ β w K) := by
  unfold xOp at h
  split at h
  · rename_i len n i hsp
    obtain ⟨hr, hk⟩ := h
    have hq := splitQ_spec (M := C.M) (Γ := C.Γ) (nm := σ.m.length) hsp
    refine (qOp_sound hC.Γ hq hr hf.env hf.sat.fresh).mono ?_
    rintro r w' ⟨hs, hx⟩
    have := allJ_spec hk (j := i.toNat) (by omega) (by omega)
    exact ⟨β, _, σ.m, hf.sat.ext hx, Since.ext' hx, hs, this⟩
  split at h
  · rename_i p s hq
    obtain ⟨hp, hk⟩ := andP_spec h
    refine (qOp_sound hC.Γ hq hp hf.env hf.sat.fresh).mono ?_
    rintro r w' ⟨hs, hx⟩
    exact ⟨β, s, σ.m, hf.sat.ext hx, Since.ext' hx, hs, hk⟩
  · rename_i p s b hq
    obtain ⟨hp, hk⟩ := andP_spec h
    refine (qOp_sound hC.Γ hq hp hf.env hf.sat.fresh).mono ?_
    rintro r w' ⟨obj, rfl, hB, hs⟩
    exact ⟨_, s, _, sat_push hf.sat hB, since_push hf.sat b obj, hs, hk⟩
  · exact lOp_sound hC h hf hY

end Go.Proofs.Ytceffompldihjaa.Rex
