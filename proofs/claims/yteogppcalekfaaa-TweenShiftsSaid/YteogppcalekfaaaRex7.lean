/- A WALK BY COMPUTATION, part 7: operations in the text's order; code. What is to be shown of a function's body, computed. Conditions: none. Own work. -/
import Derived.Test.YteogppcalekfaaaRex6
namespace Go.Proofs.Yteogppcalekfaaa.Rex
open Go.RowKit
set_option linter.unusedVariables false
set_option linter.unusedSimpArgs false

structure St where
  tm : List SV
  m : Mem

inductive XE where
  | normal
  | exit (id : Nat)
  | ret

def mmOf (m : Mem) (x : Nat) : Option Blk := match m[x]? with
  | some (some b) => some b
  | _ => none
def St.env (σ : St) : Env := ⟨ev σ.tm, mmOf σ.m⟩

def putL (tm : List SV) (dst : Option Tmp) (s : SV) : List SV := match dst with
  | some d => tm.set d s
  | none => tm

/-- what a call that may write gives: which proposition suffices -/
abbrev MC := List SV → Mem → (SV → Mem → Prop) → Prop

def MSound (P : Program) (f : FuncId) (c : MC) : Prop := callable P f ∧ ∀ β args vals m w (K : SV → Mem → Prop), c args m K → All₂ (Has β) args vals → Sat β m w →
  Calls P f ⟨vals⟩ w fun e w' => ∃ β' v m' r, Sat β' m' w' ∧ Since m β w m' β' w' ∧ e = .returned r ∧ Has β' v r ∧ K v m'

/-- the memory behind a store -/
def stQ (P : Program) (m : Mem) (t : TypeId) (addr val : SV) : Option Mem := match addr, val with
  | .v (.one (.ptr x off)), .v u => match mmOf m x with
    | some (.cells l e) => match tsize P t with
      | some n => match (decide (u.cells.length = n) && decide (off + n ≤ l.length)) with
        | true => some (m.set x (some (.cells (splice l off u.cells) e)))
        | false => none
      | none => none
    | none => none
  | _, _ => none

structure Ctx where
  M : Md
  P : Program
  Γ : List (FuncId × FC)
  Δ : List (FuncId × MC)

def andP (p : Option Prop) (q : Prop) : Prop := match p with
  | none => q
  | some p => p ∧ q

/-- a loud operation -/
def lOp (C : Ctx) (σ : St) (o : Oper) (K : SV → Mem → Prop) : Prop := match o.op with
  | .store t a x => match ev σ.tm a, ev σ.tm x with
    | some a, some x => match stQ C.P σ.m t a x with
      | some m' => K (.tup []) m'
      | none => False
    | _, _ => False
  | .call c => match c.callee with
    | .value f => match ev σ.tm f with
      | some (.clo id caps) => match omap (ev σ.tm) c.args.toList with
        | some us => match find C.Δ id with
          | some mc => mc (us ++ caps.map fun l => .v (.one l)) σ.m K
          | none => False
        | none => False
      | _ => False
    | _ => False
  | _ => False

def xOp (C : Ctx) (σ : St) (o : Oper) (K : SV → Mem → Prop) : Prop := match qOp C.M C.P C.Γ σ.env σ.m.length o.op with
  | some (p, s, none) => andP p (K s σ.m)
  | some (p, s, some b) => andP p (K s (σ.m ++ [some b]))
  | none => lOp C σ o K

/-- what operation j has yielded -/
def yieldQ (ops : List Oper) (tm : List SV) (j : Nat) : Option (Tmp × SV) := match ops[j]? with
  | some o => match o.dst with
    | some t => match tm[t]? with
      | some s => some (t, s)
      | none => none
    | none => none
  | none => none

def xOps (C : Ctx) (all : List Oper) : List Oper → St → (St → Prop) → Prop
  | [], σ, K => K σ
  | o :: rest, σ, K => match o.guard with
    | none => xOp C σ o fun s m => xOps C all rest ⟨putL σ.tm o.dst s, m⟩ K
    | some (j, want) => match yieldQ all σ.tm j with
      | some (d, .v (.one (.bool kn t))) => match kn with
        | true => match decide (t = want) with
          | true => xOp C σ o fun s m => xOps C all rest ⟨putL σ.tm o.dst s, m⟩ K
          | false => xOps C all rest ⟨putL σ.tm o.dst (.tup []), σ.m⟩ K
        | false => (t = want → xOp C ⟨σ.tm.set d (lb true want), σ.m⟩ o fun s m => xOps C all rest ⟨putL (σ.tm.set d (lb true want)) o.dst s, m⟩ K)
          ∧ (t = !want → xOps C all rest ⟨putL (σ.tm.set d (lb true (!want))) o.dst (.tup []), σ.m⟩ K)
      | some (_, .tup []) => xOps C all rest ⟨putL σ.tm o.dst (.tup []), σ.m⟩ K
      | _ => False

/-! ### what they mean -/
structure Fit (σ : St) (β : Nm) (a : Act) (w : World) : Prop where
  tm : All₂ (Has β) σ.tm a.tmps.toList
  sat : Sat β σ.m w
  df : a.defers = []

theorem ev_has {β : Nm} {tm : List SV} {a : Act} (h : All₂ (Has β) tm a.tmps.toList) {x : Operand} {s : SV} (e : ev tm x = some s) : Has β s (a.eval x) := by
  unfold ev at e
  split at e
  · rename_i t
    split at e
    · cases e
    · rename_i r hr
      obtain ⟨v, hv, hs⟩ := h.get e
      have : a.eval (.tmp t) = v := by
        have hv' : a.tmps[t]? = some v := by simpa using hv
        simp [Act.eval, hv']
      rw [this]; exact hs
  · exact ofValue_has e
  · cases e
  · cases e
    exact .clo .nil

theorem Fit.env {σ : St} {β : Nm} {a : Act} {w : World} (h : Fit σ β a w) : EOk β σ.env a w := by
  refine ⟨fun x s e => ev_has h.tm e, fun x b e => ?_⟩
  show ∃ k, β x = some k ∧ _
  have e' : mmOf σ.m x = some b := e
  unfold mmOf at e'
  split at e'
  · rename_i b' hb
    cases e'
    exact h.sat.blk x b hb
  · cases e'

theorem putL_has {β : Nm} {tm : List SV} {a : Act} (h : All₂ (Has β) tm a.tmps.toList) {s : SV} {v : Value} (k : Has β s v) (dst : Option Tmp) : All₂ (Has β) (putL tm dst s) (a.put dst v).tmps.toList := by
  cases dst with
  | none => exact h
  | some d =>
    show All₂ (Has β) (tm.set d s) (a.tmps.setIfInBounds d v).toList
    rw [Array.toList_setIfInBounds]
    exact h.set k d

theorem Has.all_mono {β γ : Nm} (h : β.le γ) {tm : List SV} {l : List Value} (k : All₂ (Has β) tm l) : All₂ (Has γ) tm l := k.mono fun _ _ => Has.mono h

theorem append_set {A : Type} (l : List A) (x y : A) : (l ++ [x]).set l.length y = l ++ [y] := by
  rw [List.set_append_right _ _ (Nat.le_refl _)]
  simp

theorem Sat.grow {β : Nm} {m : Mem} {w : World} (h : Sat β m w) : Sat β (m ++ [none]) w := by
  have key : ∀ (x : Nat) (b : Blk), (m ++ [none])[x]? = some (some b) → m[x]? = some (some b) := by
    intro x b hb
    rcases Nat.lt_or_ge x m.length with hl | hl
    · rwa [List.getElem?_append_left hl] at hb
    · rw [List.getElem?_append_right hl] at hb
      cases hx : x - m.length with
      | zero => rw [hx] at hb; simp at hb
      | succ n => rw [hx] at hb; simp at hb
  refine ⟨fun x b hb => h.blk x b (key x b hb), ?_, fun x a hx => ?_⟩
  · rintro x y a ⟨b, hb⟩ ⟨c, hc⟩ hx hy
    exact h.inj x y a ⟨b, key x b hb⟩ ⟨c, key y c hc⟩ hx hy
  · have := h.dom x a hx
    simp; omega

theorem since_push {β : Nm} {m : Mem} {w : World} (h : Sat β m w) (b : Blk) (obj : Obj) : Since m β w (m ++ [some b]) (β.set m.length w.heap.size) (w.alloc obj) := by
  have hb : β m.length = none := by
    cases e : β m.length with
    | none => rfl
    | some a => have := h.dom _ _ e; omega
  have := Since.alloc (m0 := m) (β0 := β) (w0 := w) (m := m ++ [none]) (w := w) ⟨Nm.le_refl β, by simp, ?_, ?_, rfl, rfl, rfl, Nat.le_refl _, fun _ _ _ => rfl⟩ (Nat.le_refl m.length) hb b obj
  · rwa [append_set] at this
  · rintro x hx ⟨c, hc⟩
    rw [List.getElem?_append_right hx] at hc
    cases e : x - m.length with
    | zero => rw [e] at hc; simp at hc
    | succ n => rw [e] at hc; simp at hc
  · rintro x hx ⟨c, hc⟩
    rw [List.getElem?_append_left hx] at hc
    exact ⟨c, hc⟩

theorem sat_push {β : Nm} {m : Mem} {w : World} (h : Sat β m w) {b : Blk} {obj : Obj} (hB : HasB (β.set m.length w.heap.size) b (some obj)) : Sat (β.set m.length w.heap.size) (m ++ [some b]) (w.alloc obj) := by
  have hb : β m.length = none := by
    cases e : β m.length with
    | none => rfl
    | some a => have := h.dom _ _ e; omega
  have := Sat.alloc h.grow (nm := m.length) (by simp) hb hB
  rwa [append_set] at this

section
variable {P : Program}

/-- a block's world behind a store: this block's cells are us; nothing else has turned -/
structure Put (w : World) (b : Nat) (us : List Value) (e : TypeId) (w' : World) : Prop where
  here : w'.heap[b]? = some (.cells ⟨us⟩ e (0, 0))
  else_ : ∀ k, k ≠ b → w'.heap[k]? = w.heap[k]?
  size : w'.heap.size = w.heap.size
  os : w'.os = w.os
  tape : w'.tape = w.tape
  output : w'.output = w.output

theorem run_storeCells {b off : Nat} {e : TypeId} : ∀ (vs : List Value) (i : Nat) (us : List Value) (w : World), w.heap[b]? = some (.cells ⟨us⟩ e (0, 0)) → (∀ v ∈ vs, v.oneCell' = true) → off + i + vs.length ≤ us.length →
    ∃ w', (storeCells ⟨b, off, none⟩ vs i).run P w = .ok () w' ∧ Put w b (us.take (off + i) ++ (vs ++ us.drop (off + i + vs.length))) e w'
  | [], i, us, w, h, _, hl => ⟨w, rfl, by simpa using h, fun _ _ => rfl, rfl, rfl, rfl, rfl⟩
  | v :: vs, i, us, w, h, hv, hl => by
    simp only [List.length_cons] at hl
    have hlt : off + i < us.length := by omega
    have h1 : (w.setCell ⟨b, off + i, none⟩ v).heap[b]? = some (.cells ⟨us.set (off + i) v⟩ e (0, 0)) := by
      rw [heap_setCell_same w b (off + i) ⟨us⟩ e v h]; simp
    obtain ⟨w', hr, hp⟩ := run_storeCells (b := b) (off := off) (e := e) vs (i + 1) (us.set (off + i) v) (w.setCell ⟨b, off + i, none⟩ v) h1 (fun x hx => hv x (by simp [hx])) (by simp; omega)
    refine ⟨w', ?_, ?_, ?_, ?_, ?_, ?_, ?_⟩
    · unfold storeCells
      rw [Sem.run_bind, addr_add, run_store P w _ v _ (hv v (by simp))]
      have hc : w.cell? ⟨b, off + i, none⟩ = us[off + i]? := by simp [World.cell?, h]
      rw [hc, List.getElem?_eq_getElem hlt]
      simp only [frozen_of_row w b (off + i) ⟨us⟩ e h, Bool.false_eq_true, if_false, Result.andThen_ok]
      exact hr
    · rw [hp.here]
      congr 3
      rw [← Nat.add_assoc, List.take_set, List.take_add_one, List.drop_set_of_lt (by omega)]
      simp only [List.getElem?_eq_getElem hlt, Option.toList_some, List.length_cons]
      rw [List.set_append_right _ _ (by simp; omega)]
      have : off + i - (List.take (off + i) us).length = 0 := by simp; omega
      rw [this]
      simp
      congr 1
      omega
    · intro k hk
      rw [hp.else_ k hk, heap_setCell_other _ _ _ _ hk]
    · rw [hp.size]; simp [World.setCell]
    · exact hp.os
    · exact hp.tape
    · exact hp.output

theorem Sat.put {β : Nm} {m : Mem} {w w' : World} (h : Sat β m w) {x b : Nat} {l l' : List Lf} {e : TypeId} {us : List Value} (hx : m[x]? = some (some (.cells l e))) (hb : β x = some b) (hp : Put w b us e w') (hu : All₂ (HasL β) l' us) :
    Sat β (m.set x (some (.cells l' e))) w' := by
  refine ⟨fun y c hc => ?_, ?_, fun y a hy => by simpa using h.dom y a hy⟩
  · rcases getElem?_set_some hc with ⟨rfl, rfl⟩ | ⟨hne, hy⟩
    · exact ⟨b, hb, us, hp.here, hu⟩
    · obtain ⟨a, ha, hB⟩ := h.blk y c hy
      refine ⟨a, ha, ?_⟩
      rw [hp.else_ a fun e => hne (h.inj y x a ⟨_, hy⟩ ⟨_, hx⟩ ha (by rw [e]; exact hb))]
      exact hB
  · rintro y z a ⟨c, hc⟩ ⟨d, hd⟩ hy hz
    have key : ∀ (y : Nat) (c : Blk), (m.set x (some (.cells l' e)))[y]? = some (some c) → known m y := by
      intro y c hc
      rcases getElem?_set_some hc with ⟨rfl, rfl⟩ | ⟨hne, hy⟩
      · exact ⟨_, hx⟩
      · exact ⟨_, hy⟩
    exact h.inj y z a (key y c hc) (key z d hd) hy hz

theorem since_put {β : Nm} {m : Mem} {w w' : World} {x b : Nat} {l l' : List Lf} {e : TypeId} {us : List Value} (hx : m[x]? = some (some (.cells l e))) (hb : β x = some b) (hp : Put w b us e w') :
    Since m β w (m.set x (some (.cells l' e))) β w' := by
  refine ⟨Nm.le_refl β, by simp, ?_, ?_, hp.os, hp.tape, hp.output, by rw [hp.size]; exact Nat.le_refl _, ?_⟩
  · intro y hy hk
    have := known_lt hk
    simp at this
    omega
  · rintro y hy ⟨c, hc⟩
    rcases getElem?_set_some hc with ⟨rfl, rfl⟩ | ⟨hne, hy⟩
    · exact ⟨_, hx⟩
    · exact ⟨_, hy⟩
  · intro k hk hf
    exact hp.else_ k fun e => hf x ⟨_, hx⟩ (by rw [hb, e])
end

/-- the contracts at hand are so -/
structure Ctx.Ok (C : Ctx) : Prop where
  Γ : ∀ f c, (f, c) ∈ C.Γ → FSound C.P f c
  Δ : ∀ f c, (f, c) ∈ C.Δ → MSound C.P f c
  mixed : C.P.follows .mixedOrders = true

def After (σ : St) (β : Nm) (w : World) (K : SV → Mem → Prop) (r : Value) (w' : World) : Prop := ∃ β' s m', Sat β' m' w' ∧ Since σ.m β w m' β' w' ∧ Has β' s r ∧ K s m'

theorem Doe.mono {P : Program} {o : Oper} {a : Act} {w : World} {R S : Value → World → Prop} (h : Doe P o a w R) (k : ∀ v w', R v w' → S v w') : Doe P o a w S :=
  fun next Q hn => h next Q fun v w' hr => hn v w' (k v w' hr)

theorem andP_spec {p : Option Prop} {q : Prop} (h : andP p q) : ob p ∧ q := by
  cases p with
  | none => exact ⟨trivial, h⟩
  | some p => exact h

theorem Sat.fresh {β : Nm} {m : Mem} {w : World} (h : Sat β m w) : β m.length = none := by
  cases e : β m.length with
  | none => rfl
  | some a => have := h.dom _ _ e; omega

theorem lOp_sound {C : Ctx} (hC : C.Ok) {σ : St} {o : Oper} {K : SV → Mem → Prop} {β : Nm} {a : Act} {w : World} (h : lOp C σ o K) (hf : Fit σ β a w) : Doe C.P o a w (After σ β w K) := by
  unfold lOp at h
  split at h
  · rename_i t x y ho
    split at h
    · rename_i xs ys hx hy
      split at h
      · rename_i m' hm
        unfold stQ at hm
        have hxv := ev_has hf.tm hx
        have hyv := ev_has hf.tm hy
        split at hm
        · rename_i b off u
          split at hm
          · rename_i l e hmm
            split at hm
            · rename_i n hn
              split at hm
              · rename_i hd
                cases hm
                simp only [Bool.and_eq_true, decide_eq_true_eq] at hd
                obtain ⟨d1, d2⟩ := hd
                have hmb : σ.m[b]? = some (some (.cells l e)) := by
                  unfold mmOf at hmm
                  split at hmm
                  · cases hmm; assumption
                  · cases hmm
                obtain ⟨B, hB, us, hob, hus⟩ := hf.sat.blk b _ hmb
                cases hyv with
                | v hyv =>
                  obtain ⟨vs, hvc, hvs⟩ := hyv.cells
                  have l1 := hvs.length
                  have l2 := hus.length
                  have hone : ∀ v ∈ vs, v.oneCell' = true := by
                    intro v hv
                    obtain ⟨i, hi, rfl⟩ := List.mem_iff_getElem.1 hv
                    obtain ⟨q, hq, hqv⟩ := hvs.get' (List.getElem?_eq_getElem hi)
                    exact hqv.oneCell
                  obtain ⟨w', hr, hp⟩ := run_storeCells (P := C.P) (b := B) (off := off) (e := e) vs 0 us w hob hone (by omega)
                  have hav : a.eval x = .pointer (some ⟨B, off, none⟩) := by
                    cases hxv with
                    | v hxv => cases hxv with
                      | one hxv => generalize a.eval x = q at hxv ⊢; cases hxv; rename_i h1; rw [hB] at h1; cases h1; rfl
                  have hnew : All₂ (HasL β) (splice l off u.cells) (us.take (off + 0) ++ (vs ++ us.drop (off + 0 + vs.length))) := by
                    unfold splice
                    rw [← l1]
                    exact (hus.take _).append (hvs.append (hus.drop _))
                  refine doe_skip (w' := w') ?_ ⟨β, .tup [], _, hf.sat.put hmb hB hp hnew, since_put hmb hB hp, .tup .nil, h⟩
                  rw [execOp, ho]
                  simp only [hav, Instr.storeAt, Instr.sureAddr, storeVar, Sem.run_bind, Sem.run_pure, Result.andThen_ok, run_sizeOf' hn, hvc, List.size_toArray]
                  rw [if_neg (by simp; omega)]
                  rw [hr]
                  rfl
              · cases hm
            · cases hm
          · cases hm
        · cases hm
      · exact h.elim
    · exact h.elim
  · rename_i c ho
    split at h
    · rename_i f hfc
      split at h
      · rename_i id caps hcl
        split at h
        · rename_i us hus
          split at h
          · rename_i mc hmc
            obtain ⟨hcall, hsound⟩ := hC.Δ id mc (find_mem hmc)
            have hfh := ev_has hf.tm hcl
            generalize hq : a.eval f = q at hfh
            cases hfh with
            | clo hcaps =>
              rename_i vs
              have hargs := (omap_all (g := a.eval) (fun x s e => ev_has hf.tm e) hus).append (caps_has hcaps)
              refine doe_call (f := id) (args := ⟨c.args.toList.map a.eval ++ vs⟩) ?_ ((hsound β _ _ _ w K h hargs hf.sat).mono ?_)
              · rw [execOp, ho]
                have e1 : (c.args.map a.eval) = ⟨c.args.toList.map a.eval⟩ := by apply Array.ext'; simp
                simp only [resolve, hfc, hq, Deferred.ofValue, Sem.run_bind, Sem.run_pure, Result.andThen_ok, invoke, e1]
                rw [callFunc_run hcall]
                simp
              · rintro e w' ⟨β', v, m', r, h1, h2, rfl, h3, h4⟩
                exact ⟨r, rfl, β', v, m', h1, h2, h3, h4⟩
          · exact h.elim
        · exact h.elim
      · exact h.elim
    · exact h.elim
  · exact h.elim

theorem xOp_sound {C : Ctx} (hC : C.Ok) {σ : St} {o : Oper} {K : SV → Mem → Prop} {β : Nm} {a : Act} {w : World} (h : xOp C σ o K) (hf : Fit σ β a w) : Doe C.P o a w (After σ β w K) := by
  unfold xOp at h
  split at h
  · rename_i p s hq
    obtain ⟨hp, hk⟩ := andP_spec h
    refine (qOp_sound hC.Γ hq hp hf.env hf.sat.fresh).mono ?_
    rintro r w' ⟨hs, hx⟩
    exact ⟨β, s, σ.m, hf.sat.ext hx, Since.ext' hx, hs, hk⟩
  · rename_i p s b hq
    obtain ⟨hp, hk⟩ := andP_spec h
    refine (qOp_sound hC.Γ hq hp hf.env hf.sat.fresh).mono ?_
    rintro r w' ⟨obj, rfl, hB, hs⟩
    exact ⟨_, s, _, sat_push hf.sat hB, since_push hf.sat b obj, hs, hk⟩
  · exact lOp_sound hC h hf

end Go.Proofs.Yteogppcalekfaaa.Rex
