/- A WALK BY COMPUTATION, part 9: a statement whose order Go leaves open: its quiet operations give the same in whatever order; a loud one waits for all ahead of it. Conditions: none. Own work. -/
import Derived.Test.YtceffompldihjaaRex8
import Derived.StillTail
namespace Go.Proofs.Ytceffompldihjaa.Rex
open Go.RowKit
set_option linter.unusedVariables false
set_option linter.unusedSimpArgs false

/-- which operations come ahead of which, for sure: as bits -/
def maskOf (ms : List Nat) : List Edge → Option Nat
  | [] => some 0
  | e :: l => match maskOf ms l with
    | none => none
    | some m => match Region.binds .any e with
      | false => some m
      | true => match ms[e.on]? with
        | some k => some (m ||| (2 ^ e.on ||| k))
        | none => none
def masks : List Oper → List Nat → Option (List Nat)
  | [], ms => some ms
  | o :: l, ms => match maskOf ms o.after.toList with
    | some m => masks l (ms ++ [m])
    | none => none

structure Ent where
  p : Option Prop
  s : SV
  b : Option Blk
  st : Option (Nat × Nat × List Lf)

/-- who writes a temporary -/
def wrO (t : Tmp) : Nat → List Oper → Option Nat
  | _, [] => none
  | j, o :: l => match o.dst with
    | none => wrO t (j + 1) l
    | some d => match Nat.beq d t with
      | true => some j
      | false => wrO t (j + 1) l
/-- no temporary is written twice -/
def dstsOk : List Oper → Bool
  | [] => true
  | o :: l => (match o.dst with
    | none => true
    | some t => match wrO t 0 l with
      | none => true
      | some _ => false) && dstsOk l

def dstsIn (n : Nat) : List Oper → Bool
  | [] => true
  | o :: l => (match o.dst with
    | none => true
    | some t => Nat.blt t n) && dstsIn n l
theorem dstsIn_spec {n : Nat} : ∀ {l : List Oper}, dstsIn n l = true → ∀ o ∈ l, ∀ t, o.dst = some t → t < n
  | [], _, o, ho, _, _ => by simp at ho
  | p :: l, h, o, ho, t, ht => by
    unfold dstsIn at h
    rw [Bool.and_eq_true] at h
    rcases List.mem_cons.1 ho with rfl | ho
    · have h1 := h.1
      rw [ht] at h1
      simpa [Nat.blt_eq] using h1
    · exact dstsIn_spec h.2 o ho t ht

/-- does operation j wait for operation i? rest: the masks of those behind i -/
def lateB (rest : List Nat) (i : Nat) (j : Nat) : Bool := match Nat.blt i j with
  | true => match rest[j - (i + 1)]? with
    | some m => m.testBit i
    | none => false
  | false => false
def evR (ops : List Oper) (tm0 : List SV) (acc : List Ent) (late : Nat → Bool) (mask : Nat) (x : Operand) : Option SV := match x with
  | .tmp t => match wrO t 0 ops with
    | some j => match mask.testBit j with
      | true => match acc[j]? with
        | some e => match e.s with
          | .junk => none
          | s => some s
        | none => none
      | false => match late j with
        | true => ev tm0 (.tmp t)
        | false => none
    | none => ev tm0 (.tmp t)
  | x => ev tm0 x
def junks (n : Nat) : List Lf := List.replicate n .junk
/-- cells with others laid over them, from off on -/
def spl (l : List Lf) (off : Nat) (cs : List Lf) : List Lf := (splice l off cs).take l.length

/-- a block's cells: with the stores ahead of which one knows; those that may have been carried out have left one does not know what -/
def stepE (mask x j : Nat) (e : Ent) (l : List Lf) : List Lf := match e.st with
  | some (y, off, cs) => match Nat.beq y x with
    | true => match mask.testBit j with
      | true => spl l off cs
      | false => spl l off (junks cs.length)
    | false => l
  | none => l
def overE (mask x : Nat) : Nat → List Ent → List Lf → List Lf
  | _, [], l => l
  | j, e :: es, l => overE mask x (j + 1) es (stepE mask x j e l)
/-- the same, of the stores that stand further on -/
def stepL (i x : Nat) (f : Option (Nat × Nat × Nat)) (mj : Nat) (l : List Lf) : List Lf := match f with
  | some (y, off, n) => match Nat.beq y x with
    | true => match mj.testBit i with
      | true => l
      | false => spl l off (junks n)
    | false => l
  | none => l
def overL (i x : Nat) : List (Option (Nat × Nat × Nat) × Nat) → List Lf → List Lf
  | [], l => l
  | (f, mj) :: fs, l => overL i x fs (stepL i x f mj l)

def baseR (m0 : Mem) (acc : List Ent) (mask : Nat) (x : Nat) : Option Blk := match Nat.blt x m0.length with
  | true => mmOf m0 x
  | false => match mask.testBit (x - m0.length) with
    | true => match acc[x - m0.length]? with
      | some e => e.b
      | none => none
    | false => none
def mmR (m0 : Mem) (acc : List Ent) (mask : Nat) (later : List (Option (Nat × Nat × Nat) × Nat)) (x : Nat) : Option Blk := match baseR m0 acc mask x with
  | some (.cells l t) => some (.cells (overL acc.length x later (overE mask x 0 acc l)) t)
  | some (.rows ro z sh xs base tot t) => some (.rows ro z sh xs base tot t)
  | some (.loop r j) => some (.loop r j)
  | none => none

inductive DR where
  | ok (acc : List Ent) (tail : List Oper)
  | split (j : Nat) (b : Bool)
  | fail

def asBool : SV → Option (Bool × Bool)
  | .v (.one (.bool kn b)) => some (kn, b)
  | _ => none

/-- whether a guarded operation is wanted -/
inductive GD where
  | run
  | skip
  | split (j : Nat) (b : Bool)
  | fail
def guardR (ops : List Oper) (tm0 : List SV) (acc : List Ent) (late : Nat → Bool) (mask : Nat) : Option (Nat × Bool) → GD
  | none => .run
  | some (j, want) => match ops[j]? with
    | some oj => match oj.dst with
      | some t => match evR ops tm0 acc late mask (.tmp t) with
        | some (.v (.one (.bool kn b))) => match kn with
          | true => match decide (b = want) with
            | true => .run
            | false => .skip
          | false => .split j b
        | some (.tup []) => .skip
        | _ => .fail
      | none => .fail
    | none => .fail

/-- a store -/
def stE (P : Program) (ev : Operand → Option SV) (mm : Nat → Option Blk) (o : Op) : Option Ent := match o with
  | .store t a x => match ev a, ev x with
    | some (.v (.one (.ptr y off))), some (.v u) => match mm y with
      | some (.cells l _) => match tsize P t with
        | some n => match (decide (u.cells.length = n) && decide (off + n ≤ l.length)) with
          | true => some ⟨none, .tup [], none, some (y, off, u.cells)⟩
          | false => none
        | none => none
      | _ => none
    | _, _ => none
  | _ => none

/-- a call that reads and writes one block -/
def callE (C : Ctx) (ev : Operand → Option SV) (mm : Nat → Option Blk) (o : Op) : Option Ent := match o with
  | .call c => match c.callee with
    | .value f => match ev f with
      | some (.clo id []) => match omap ev c.args.toList with
        | some (.v (.one (.ptr y 0)) :: rest) => match mm y with
          | some (.cells l t) => match find C.B id with
            | some bc => match bc rest l t with
              | some (p, s, new) => match Nat.beq new.length l.length with
                | true => some ⟨p, s, none, some (y, 0, new)⟩
                | false => none
              | none => none
            | none => none
          | _ => none
        | _ => none
      | _ => none
    | _ => none
  | _ => none

/-- the head, in the text's order; an operation sees what those have done that come ahead of it for sure -/
def dr (C : Ctx) (ops : List Oper) (tm0 : List SV) (m0 : Mem) (asm : List (Nat × Bool)) : List Oper → List Nat → List (Option (Nat × Nat × Nat)) → List Ent → DR
  | [], _, _, acc => .ok acc []
  | _ :: _, [], _, _ => .fail
  | o :: rest, mask :: ms, fs, acc => match guardR ops tm0 acc (lateB ms acc.length) mask o.guard with
    | .fail => .fail
    | .split j b => .split j b
    | .skip => dr C ops tm0 m0 asm rest ms fs.tail (acc ++ [⟨none, .tup [], none, none⟩])
    | .run => match qOp C.M C.P C.Γ ⟨evR ops tm0 acc (lateB ms acc.length) mask, mmR m0 acc mask (fs.tail.zip ms)⟩ (m0.length + acc.length) o.op with
      | none => match stE C.P (evR ops tm0 acc (lateB ms acc.length) mask) (mmR m0 acc mask (fs.tail.zip ms)) o.op with
        | none => match callE C (evR ops tm0 acc (lateB ms acc.length) mask) (mmR m0 acc mask (fs.tail.zip ms)) o.op with
          | none => .ok acc (o :: rest)
          | some e => dr C ops tm0 m0 asm rest ms fs.tail (acc ++ [e])
        | some e => dr C ops tm0 m0 asm rest ms fs.tail (acc ++ [e])
      | some (p, s, b) => match find asm acc.length with
        | none => dr C ops tm0 m0 asm rest ms fs.tail (acc ++ [⟨p, s, b, none⟩])
        | some t => match asBool s with
          | some (_, b') => dr C ops tm0 m0 asm rest ms fs.tail (acc ++ [⟨andO (b' = t) p, lb true t, b, none⟩])
          | none => .fail

def footOf (e : Ent) : Option (Nat × Nat × Nat) := match e.st with
  | some (y, off, cs) => some (y, off, cs.length)
  | none => none
def foots (acc : List Ent) : List (Option (Nat × Nat × Nat)) := acc.map footOf
def footEq : Option (Nat × Nat × Nat) → Option (Nat × Nat × Nat) → Bool
  | none, none => true
  | some (a, b, c), some (d, e, f) => Nat.beq a d && (Nat.beq b e && Nat.beq c f)
  | _, _ => false
def footsEq : List (Option (Nat × Nat × Nat)) → List (Option (Nat × Nat × Nat)) → Bool
  | [], [] => true
  | a :: l, b :: m => footEq a b && footsEq l m
  | _, _ => false
/-- of two stores that lie over one another the one comes ahead of the other for sure -/
def pairB (i : Nat) (e : Ent) : List Ent → List Nat → Bool
  | [], _ => true
  | _, [] => true
  | d :: l, m :: ms => (match e.st, d.st with
    | some (y, off, cs), some (z, off', cs') => !(Nat.beq y z) || (Nat.ble (off + cs.length) off' || (Nat.ble (off' + cs'.length) off || m.testBit i))
    | _, _ => true) && pairB i e l ms
def pairsB : Nat → List Ent → List Nat → Bool
  | _, [], _ => true
  | _, _, [] => true
  | i, e :: l, _ :: ms => pairB i e l ms && pairsB (i + 1) l ms
def noSt : List Ent → Bool
  | [] => true
  | e :: l => (match e.st with
    | none => true
    | some _ => false) && noSt l

def obl : List Ent → Prop → Prop
  | [], q => q
  | e :: l, q => andP e.p (obl l q)

def finTm (ops : List Oper) (acc : List Ent) : Nat → List SV → List SV
  | _, [] => []
  | t, s :: l => (match wrO t 0 ops with
    | some j => match acc[j]? with
      | some e => e.s
      | none => s
    | none => s) :: finTm ops acc (t + 1) l

/-- a block's cells where the listed stores have been carried out -/
def stepD (listed : Array Bool) (x j : Nat) (e : Ent) (l : List Lf) : List Lf := match e.st with
  | some (y, off, cs) => match Nat.beq y x with
    | true => match listed.getD j false with
      | true => spl l off cs
      | false => l
    | false => l
  | none => l
def overD (listed : Array Bool) (x : Nat) : Nat → List Ent → List Lf → List Lf
  | _, [], l => l
  | j, e :: es, l => overD listed x (j + 1) es (stepD listed x j e l)
def blkD (listed : Array Bool) (acc : List Ent) (k : Nat) : Option Blk → Option Blk
  | some (.cells l t) => some (.cells (overD listed k 0 acc l) t)
  | some (.rows ro z sh xs base tot t) => some (.rows ro z sh xs base tot t)
  | some (.loop r j) => some (.loop r j)
  | none => none
def overM (listed : Array Bool) (acc : List Ent) : Nat → Mem → Mem
  | _, [] => []
  | k, b :: m => blkD listed acc k b :: overM listed acc (k + 1) m

def listedOf (k n : Nat) : Array Bool := ⟨List.replicate k true ++ List.replicate (n - k) false⟩

/-- the tail's operations wait for all ahead of them -/
def tailB (n : Nat) : Nat → List Nat → Bool
  | _, [] => true
  | i, m :: ms => (Nat.blt i n || Nat.beq m (2 ^ i - 1)) && tailB n (i + 1) ms

/-- in the place of an operation that is carried out behind the head, though others that stand further on may come ahead of it -/
def holeE : Ent := ⟨none, .junk, none, none⟩
/-- operations that look at temporaries alone -/
def flt : Op → Bool
  | .move _ => true
  | .nilCheck _ => true
  | .fieldAddr _ _ _ => true
  | _ => false
def noG (o : Oper) : Bool := match o.guard with
  | none => true
  | some _ => false
def listedH (k n m : Nat) : Array Bool := (listedOf n m).setIfInBounds k false
/-- each that the hole (k; m: those for which it waits) does not wait for looks at temporaries alone, does not wait for the hole, and nobody minds when it is carried out -/
def fltB (ops : List Oper) (k m : Nat) : Nat → List Oper → Bool
  | _, [] => true
  | i, o :: l => (Nat.beq i k || ((m.testBit i && Nat.blt i k) || (flt o.op && (noG o && (!(o.after.toList.any fun e => Region.binds .any e && Nat.beq e.on k) && Region.free .any ⟨ops⟩ (listedH k i ops.length) i))))) && fltB ops k m (i + 1) l
def isHole (acc : List Ent) (k : Nat) : Bool := match acc[k]? with
  | some e => (match e.s with
    | .junk => true
    | _ => false) && (match e.b with
    | none => true
    | some _ => false)
  | none => false
def holeB (ops : List Oper) (ms : List Nat) (k n tl : Nat) : Bool :=
  Nat.blt k n && ((match ms[k]? with
    | some m => fltB ops k m 0 (ops.take n)
    | none => false) && (Region.noSelect ⟨ops⟩ &&
    (decide (Region.ready .any ⟨ops⟩ (listedH k n ops.length) = [k]) && Region.seqB .any ⟨ops⟩ tl n ((listedH k n ops.length).setIfInBounds k true))))

def xDraw (C : Ctx) (ops : List Oper) (σ : St) (K : St → Prop) : Nat → List (Nat × Bool) → Prop
  | 0, _ => False
  | n + 1, asm => match masks ops [] with
    | none => False
    | some ms => match dr C ops σ.tm σ.m asm ops ms [] [] with
      | .fail => False
      | .split j b => (b = true → xDraw C ops σ K n ((j, true) :: asm)) ∧ (b = false → xDraw C ops σ K n ((j, false) :: asm))
      | .ok acc tail => match noSt acc with
        | true => match dstsIn σ.tm.length ops && (dstsOk ops && (tailB acc.length 0 ms && Region.seqB .any ⟨ops⟩ tail.length acc.length (listedOf acc.length ops.length))) with
          | false => match tail with
            | [] => False
            | o :: rest => match isHole (acc ++ [holeE]) acc.length && (!C.rd && (dstsIn σ.tm.length ops && (dstsOk ops && (tailB (acc.length + 1) 0 ms && holeB ops ms acc.length (acc.length + 1) rest.length)))) with
              | false => False
              | true => obl (acc ++ [holeE]) (xOps C ops (o :: rest) ⟨finTm ops (acc ++ [holeE]) 0 σ.tm, σ.m ++ (acc ++ [holeE]).map (·.b)⟩ K)
          | true => obl acc (xOps C ops tail ⟨finTm ops acc 0 σ.tm, σ.m ++ acc.map (·.b)⟩ K)
        | false => match dr C ops σ.tm σ.m asm ops ms (foots acc) [] with
          | .ok acc2 tail2 => match footsEq (foots acc2) (foots acc) && (pairsB 0 acc2 ms && (dstsIn σ.tm.length ops && (dstsOk ops && (tailB acc2.length 0 ms && Region.seqB .any ⟨ops⟩ tail2.length acc2.length (listedOf acc2.length ops.length))))) with
            | false => False
            | true => obl acc2 (xOps C ops tail2 ⟨finTm ops acc2 0 σ.tm, overM (listedOf acc2.length ops.length) acc2 0 (σ.m ++ acc2.map (·.b))⟩ K)
          | _ => False

/-! ### that it is so -/
theorem maskOf_spec {ms : List Nat} : ∀ {l : List Edge} {m : Nat}, maskOf ms l = some m →
    (∀ e ∈ l, Region.binds .any e = true → e.on < ms.length) ∧ (∀ j, m.testBit j = true → ∃ e ∈ l, Region.binds .any e = true ∧ (j = e.on ∨ ∃ k, ms[e.on]? = some k ∧ k.testBit j = true))
  | [], m, h => by
    cases h
    exact ⟨fun e he => by simp at he, fun j hj => by simp at hj⟩
  | e :: l, m, h => by
    unfold maskOf at h
    split at h
    · cases h
    · rename_i m' hm
      obtain ⟨h1, h2⟩ := maskOf_spec hm
      split at h
      · rename_i hb
        cases h
        refine ⟨fun e' he' hb' => ?_, fun j hj => ?_⟩
        · rcases List.mem_cons.1 he' with rfl | he'
          · rw [hb] at hb'; cases hb'
          · exact h1 e' he' hb'
        · obtain ⟨e', he', r⟩ := h2 j hj
          exact ⟨e', List.mem_cons_of_mem _ he', r⟩
      · rename_i hb
        split at h
        · rename_i k hk
          cases h
          refine ⟨fun e' he' hb' => ?_, fun j hj => ?_⟩
          · rcases List.mem_cons.1 he' with rfl | he'
            · exact (List.getElem?_eq_some_iff.1 hk).1
            · exact h1 e' he' hb'
          · rw [Nat.testBit_or, Bool.or_eq_true, Nat.testBit_or, Bool.or_eq_true] at hj
            rcases hj with hj | hj | hj
            · obtain ⟨e', he', r⟩ := h2 j hj
              exact ⟨e', List.mem_cons_of_mem _ he', r⟩
            · rw [Nat.testBit_two_pow] at hj
              exact ⟨e, by simp, hb, .inl (of_decide_eq_true hj).symm⟩
            · exact ⟨e, by simp, hb, .inr ⟨k, hk, hj⟩⟩
        · cases h

/-- what the masks are good for -/
def MOk (ops : List Oper) (ms : List Nat) : Prop := ∀ i m o, ms[i]? = some m → ops[i]? = some o →
  (∀ e ∈ o.after.toList, Region.binds .any e = true → e.on < i) ∧ (∀ j, m.testBit j = true → ∃ e ∈ o.after.toList, Region.binds .any e = true ∧ (j = e.on ∨ ∃ k, ms[e.on]? = some k ∧ k.testBit j = true))

theorem masks_spec {ops : List Oper} : ∀ {rest : List Oper} {pre : List Oper} {ms ms' : List Nat}, ops = pre ++ rest → pre.length = ms.length → MOk ops ms → masks rest ms = some ms' → MOk ops ms' ∧ ms'.length = ops.length
  | [], pre, ms, ms', ho, hl, hm, h => by
    cases h
    exact ⟨hm, by rw [ho]; simp [hl]⟩
  | o :: rest, pre, ms, ms', ho, hl, hm, h => by
    unfold masks at h
    split at h
    · rename_i m hmk
      refine masks_spec (pre := pre ++ [o]) (by simp [ho]) (by simp [hl]) ?_ h
      obtain ⟨h1, h2⟩ := maskOf_spec hmk
      intro i m' o' hi hoi
      rcases Nat.lt_or_ge i ms.length with hlt | hge
      · rw [List.getElem?_append_left hlt] at hi
        obtain ⟨g1, g2⟩ := hm i m' o' hi hoi
        refine ⟨g1, fun j hj => ?_⟩
        obtain ⟨e, he, hb, r⟩ := g2 j hj
        refine ⟨e, he, hb, r.imp id ?_⟩
        rintro ⟨k, hk, hkj⟩
        exact ⟨k, by rw [List.getElem?_append_left (List.getElem?_eq_some_iff.1 hk).1]; exact hk, hkj⟩
      · rw [List.getElem?_append_right hge] at hi
        cases hx : i - ms.length with
        | zero =>
          rw [hx] at hi
          simp at hi
          subst hi
          have hi' : i = pre.length := by omega
          subst hi'
          rw [ho] at hoi
          simp at hoi
          subst hoi
          refine ⟨fun e he hb => by rw [hl]; exact h1 e he hb, fun j hj => ?_⟩
          obtain ⟨e, he, hb, r⟩ := h2 j hj
          refine ⟨e, he, hb, r.imp id ?_⟩
          rintro ⟨k, hk, hkj⟩
          exact ⟨k, by rw [List.getElem?_append_left (List.getElem?_eq_some_iff.1 hk).1]; exact hk, hkj⟩
        | succ n => rw [hx] at hi; simp at hi
    · cases h

/-- listed, and all that it waits for -/
def Closed (ops : List Oper) (listed : Array Bool) : Prop := ∀ i o, listed.getD i false = true → ops[i]? = some o → ∀ e ∈ o.after.toList, Region.binds .any e = true → listed.getD e.on false = true

theorem mask_listed {ops : List Oper} {ms : List Nat} {listed : Array Bool} (hm : MOk ops ms) (hc : Closed ops listed) (hlen : ms.length = ops.length) : ∀ (i : Nat) (m : Nat) (o : Oper), ms[i]? = some m → ops[i]? = some o →
    (∀ e ∈ o.after.toList, Region.binds .any e = true → listed.getD e.on false = true) → ∀ j, m.testBit j = true → listed.getD j false = true := by
  intro i
  induction i using Nat.strongRecOn with
  | _ i ih =>
    intro m o hi ho hr j hj
    obtain ⟨h1, h2⟩ := hm i m o hi ho
    obtain ⟨e, he, hb, r⟩ := h2 j hj
    have hel := hr e he hb
    rcases r with rfl | ⟨k, hk, hkj⟩
    · exact hel
    · have hlt := h1 e he hb
      have hk' := (List.getElem?_eq_some_iff.1 hk).1
      have hoe : ops[e.on]? = some (ops[e.on]'(by omega)) := List.getElem?_eq_getElem (by omega)
      exact ih e.on hlt k _ hk hoe (hc e.on _ hel hoe) j hkj

end Go.Proofs.Ytceffompldihjaa.Rex
