/- A WALK BY COMPUTATION, a statement whose order Go leaves open, order by order: what looks at temporaries alone is taken first; of all else each that may come next. Conditions: none. Own work. -/
import Derived.Test.YtceffompldihjaaRex12
namespace Go.Proofs.Ytceffompldihjaa.Rex
open Go.RowKit
set_option linter.unusedVariables false
set_option linter.unusedSimpArgs false

/-- a value that the state alone determines -/
def detS : SV → Bool
  | .v (.one (.int _ _ _)) => true
  | .v (.one (.bool _ _)) => true
  | .v (.one (.ptr _ _)) => true
  | .v (.one (.rp _ _ _ _ _)) => true
  | _ => false
theorem detS_uniq {β : Nm} {s : SV} {u v : Value} (h : detS s = true) (hu : Has β s u) (hv : Has β s v) : v = u := by
  unfold detS at h
  split at h
  · cases hu with
    | v hu => cases hu with
      | one hu => cases hv with
        | v hv => cases hv with
          | one hv => cases hu; cases hv; rfl
  · cases hu with
    | v hu => cases hu with
      | one hu => cases hv with
        | v hv => cases hv with
          | one hv => cases hu; cases hv; rfl
  · cases hu with
    | v hu => cases hu with
      | one hu => cases hv with
        | v hv => cases hv with
          | one hv => cases hu with
            | ptr h1 => cases hv with
              | ptr h2 => rw [h1] at h2; cases h2; rfl
  · cases hu with
    | v hu => cases hu with
      | one hu => cases hv with
        | v hv => cases hv with
          | one hv => cases hu with
            | rp h1 => cases hv with
              | rp h2 => rw [h1] at h2; cases h2; rfl
  · cases h

/-- operations whose value the temporaries give -/
def tkFl : Op → Bool
  | .move _ => true
  | .assign _ => true
  | .nilCheck _ => true
  | .fieldAddr _ _ _ => true
  | .pick _ _ _ => true
  | .slice _ _ _ _ _ => true
  | _ => false
def tkDet : Op → Bool
  | .binOp _ _ _ _ _ => true
  | .unOp _ _ _ => true
  | .convert _ _ _ => true
  | .indexAddr _ _ _ => true
  | .call c => match c.callee with
    | .builtin _ => true
    | _ => false
  | _ => false
/-- such an operation: under which condition, and what it yields -/
def tkQ (C : Ctx) (σ : St) (o : Op) : Option (Option Prop × SV) := match tkFl o || tkDet o with
  | false => none
  | true => match qOp C.M C.P C.Γ σ.env 0 o with
    | some (p, s, none) => match tkFl o || detS s with
      | true => some (p, s)
      | false => none
    | _ => none
theorem execOp_builtin {o : Oper} {c : Call} {b : Builtin} {a : Act} (ho : o.op = .call c) (hf : c.callee = .builtin b) (P : Program) (w : World) : o.about P w a.eval = none := by
  unfold Oper.about
  rw [ho]
  simp only [resolve, hf, Sem.run_pure]
  rfl

theorem kind_about {P : Program} {o : Oper} {a : Act} (hk : (tkFl o.op || tkDet o.op) = true) (w : World) : o.about P w a.eval = none := by
  cases ho : o.op with
  | call c =>
    rw [ho] at hk
    simp only [tkFl, tkDet, Bool.false_or] at hk
    split at hk
    · rename_i b hf
      exact execOp_builtin ho hf P w
    · cases hk
  | _ => unfold Oper.about; rw [ho]
theorem tk_run {M : Md} {P : Program} {Γ : List (FuncId × FX)} {E : Env} {o : Oper} {p : Option Prop} {s : SV} {bl : Option Blk} {β : Nm} {a : Act} {w : World} (hk : (tkFl o.op || tkDet o.op) = true) (h : qOp M P Γ E 0 o.op = some (p, s, bl)) (hd : (tkFl o.op || detS s) = true) (hp : ob p) (hE : EOk β E a w) :
    ∃ v, Has β s v ∧ (∀ w', (execOp a.eval o).run P w' = .ok (.value v) w') ∧ ∀ w', o.about P w' a.eval = none := by
  have vOf : ∀ (sm : Sem Value), execOp a.eval o = (do let x ← sm; pure (.value x)) → (∀ w', o.about P w' a.eval = none) → detS s = true → (∀ w' : World, ∃ r, sm.run P w' = .ok r w' ∧ Has β s r) → ∃ v, Has β s v ∧ (∀ w', (execOp a.eval o).run P w' = .ok (.value v) w') ∧ ∀ w', o.about P w' a.eval = none := by
    intro sm he hab hds hr
    obtain ⟨v, _, hv⟩ := hr w
    refine ⟨v, hv, fun w' => ?_, hab⟩
    obtain ⟨r, h1, h2⟩ := hr w'
    have := detS_uniq hds hv h2
    subst this
    rw [he, Sem.run_bind, h1]
    rfl
  have hfl : flt o.op = true → _ := fun hf => flt_run (P := P) (w := w) (β := β) hf h hE
  cases ho : o.op with
  | move x => exact (hfl (by rw [ho]; rfl)).2.2
  | nilCheck x => exact (hfl (by rw [ho]; rfl)).2.2
  | fieldAddr t x f => exact (hfl (by rw [ho]; rfl)).2.2
  | assign x =>
    rw [ho] at h
    unfold qOp at h
    obtain ⟨s', h', e⟩ := r0_spec h
    cases e
    exact ⟨_, hE.ev _ _ h', fun w' => by rw [execOp, ho]; rfl, fun w' => by unfold Oper.about; rw [ho]⟩
  | pick c x y =>
    rw [ho] at h
    unfold qOp at h
    have hab : ∀ w', o.about P w' a.eval = none := fun w' => by unfold Oper.about; rw [ho]
    obtain ⟨c', hc, h⟩ := Option.bind_eq_some_iff.1 h
    have hcv := hE.ev _ _ hc
    split at h
    · rename_i kn t
      have hbv : a.eval c = .bool t := by
        cases hcv with
        | v hcv => cases hcv with
          | one hcv => generalize a.eval c = q at hcv ⊢; cases hcv; rfl
      have hrun : ∀ w', (execOp a.eval o).run P w' = .ok (.value (if t = true then a.eval x else a.eval y)) w' := fun w' => by
        rw [execOp, ho]; simp [hbv, Go.asBool]
      split at h
      · split at h
        · obtain ⟨s', h', e⟩ := r0_spec h
          cases e
          exact ⟨_, hE.ev _ _ h', hrun, hab⟩
        · obtain ⟨s', h', e⟩ := r0_spec h
          cases e
          exact ⟨_, hE.ev _ _ h', hrun, hab⟩
      · obtain ⟨x', hx, h⟩ := Option.bind_eq_some_iff.1 h
        obtain ⟨y', hy, h⟩ := Option.bind_eq_some_iff.1 h
        obtain ⟨s', h', e⟩ := r0_spec h
        cases e
        exact ⟨_, mergeV_has h' (hE.ev _ _ hx) (hE.ev _ _ hy), hrun, hab⟩
    · cases h
  | binOp op t x y yt =>
    rw [ho] at h hd
    unfold qOp at h
    obtain ⟨x', hx, h⟩ := Option.bind_eq_some_iff.1 h
    obtain ⟨y', hy, h⟩ := Option.bind_eq_some_iff.1 h
    obtain ⟨p', s', h', e⟩ := r1_spec h
    cases e
    exact vOf _ (by rw [execOp, ho]) (fun w' => by unfold Oper.about; rw [ho]) hd fun w' => binQ_run (P := P) (w := w') h' hp (hE.ev _ _ hx) (hE.ev _ _ hy) x y
  | unOp op t x =>
    rw [ho] at h hd
    unfold qOp at h
    obtain ⟨x', hx, h⟩ := Option.bind_eq_some_iff.1 h
    obtain ⟨p', s', h', e⟩ := r1_spec h
    cases e
    exact vOf _ (by rw [execOp, ho]) (fun w' => by unfold Oper.about; rw [ho]) hd fun w' => unQ_run (P := P) (w := w') h' hp (hE.ev _ _ hx)
  | convert sr d x =>
    rw [ho] at h hd
    unfold qOp at h
    obtain ⟨x', hx, h⟩ := Option.bind_eq_some_iff.1 h
    obtain ⟨p', s', h', e⟩ := r1_spec h
    cases e
    exact vOf _ (by rw [execOp, ho]) (fun w' => by unfold Oper.about; rw [ho]) hd fun w' => convQ_run (P := P) (w := w') h' hp (hE.ev _ _ hx)
  | indexAddr t x i =>
    rw [ho] at h hd
    unfold qOp at h
    obtain ⟨x', hx, h⟩ := Option.bind_eq_some_iff.1 h
    obtain ⟨y', hy, h⟩ := Option.bind_eq_some_iff.1 h
    obtain ⟨p', s', h', e⟩ := r1_spec h
    cases e
    exact vOf _ (by rw [execOp, ho]) (fun w' => by unfold Oper.about; rw [ho]) hd fun w' => idxQ_run (P := P) (w := w') h' hp (hE.ev _ _ hx) (hE.ev _ _ hy)
  | slice t x lo hi mx =>
    rw [ho] at h
    unfold qOp at h
    obtain ⟨x', hx, h⟩ := Option.bind_eq_some_iff.1 h
    obtain ⟨l, hl, h⟩ := Option.bind_eq_some_iff.1 h
    obtain ⟨hh, hhi, h⟩ := Option.bind_eq_some_iff.1 h
    obtain ⟨m, hm, h⟩ := Option.bind_eq_some_iff.1 h
    obtain ⟨p', s', h', e⟩ := r1_spec h
    cases e
    obtain ⟨r, hr, hs⟩ := sliceQ_runs (P := P) w h' hp (hE.ev _ _ hx) (optI_bh hE hl) (optI_bh hE hhi) (optI_bh hE hm)
    exact ⟨r, hs, fun w' => by rw [execOp, ho]; simp only [Sem.run_bind, hr w']; rfl, fun w' => by unfold Oper.about; rw [ho]⟩
  | call c =>
    rw [ho] at h hd hk
    unfold qOp at h
    simp only [tkFl, tkDet, Bool.false_or] at hk hd
    split at hk
    · rename_i b hf
      simp only [hf] at h
      obtain ⟨us, hus, h⟩ := Option.bind_eq_some_iff.1 h
      obtain ⟨s', h', e⟩ := r0_spec h
      cases e
      have hargs := omap_has hE hus
      have hab := fun w' => execOp_builtin (a := a) ho hf P w'
      have run : ∀ w' : World, ∃ r, (execOp a.eval o).run P w' = .ok (.value r) w' ∧ Has β s r := by
        intro w'
        obtain ⟨r, hr, hs⟩ := builtQ_run (P := P) (w := w') (T := o.type) (cs := c.args.map fun | .const _ => true | _ => false) h' hargs
        refine ⟨r, ?_, hs⟩
        rw [execOp, ho]
        have e1 : (c.args.map a.eval) = ⟨c.args.toList.map a.eval⟩ := by apply Array.ext'; simp
        simp only [resolve, hf, Sem.run_bind, Sem.run_pure, Result.andThen_ok, invoke, e1]
        exact hr
      obtain ⟨v, _, hv⟩ := run w
      refine ⟨v, hv, fun w' => ?_, hab⟩
      obtain ⟨r, h1, h2⟩ := run w'
      have := detS_uniq hd hv h2
      subst this
      exact h1
    · cases hk
  | _ => rw [ho] at hk; cases hk

/-! ### blocks that the statement's operations leave as they are: loads out of them are taken first, too -/
def lfSame : Lf → Lf → Prop
  | .int k _ a, .int k' _ b => ifB (decide (k = k')) (a = b)
  | .bool _ a, .bool _ b => a = b
  | .ptr x o, .ptr x' o' => ifB (Nat.beq x x' && Nat.beq o o') True
  | _, _ => False
def lfsSame : List Lf → List Lf → Prop
  | [], [] => True
  | [a], [b] => lfSame a b
  | a :: l, b :: m => lfSame a b ∧ lfsSame l m
  | _, _ => False
def blkSame : Option Blk → Option Blk → Prop
  | some (.cells l t), some (.cells m u) => ifB (Nat.beq t u) (lfsSame l m)
  | _, _ => False
/-- each of the blocks is what it was -/
def heldQ (m0 m : Mem) : List Nat → Prop → Prop
  | [], q => q
  | x :: hs, q => blkSame (mmOf m0 x) (mmOf m x) ∧ heldQ m0 m hs q
def HeldW (β0 : Nm) (w0 : World) (hs : List Nat) (w : World) : Prop := ∀ x ∈ hs, ∀ k, β0 x = some k → w.heap[k]? = w0.heap[k]?
theorem lfSame_val {β γ : Nm} (hle : β.le γ) {a b : Lf} {u v : Value} (h : lfSame a b) (hu : HasL β a u) (hv : HasL γ b v) : v = u := by
  unfold lfSame at h
  split at h
  · have h1 := of_decide_eq_true (ifB_spec h).1
    have h2 := (ifB_spec h).2
    subst h1 h2
    cases hu; cases hv; rfl
  · subst h; cases hu; cases hv; rfl
  · have h1 := (ifB_spec h).1
    rw [Bool.and_eq_true] at h1
    have e1 := Nat.eq_of_beq_eq_true h1.1
    have e2 := Nat.eq_of_beq_eq_true h1.2
    subst e1 e2
    cases hu with
    | ptr k1 => cases hv with
      | ptr k2 => rw [hle _ _ k1] at k2; cases k2; rfl
  · exact h.elim
theorem lfsSame_val {β γ : Nm} (hle : β.le γ) : ∀ {a b : List Lf} {u v : List Value}, lfsSame a b → All₂ (HasL β) a u → All₂ (HasL γ) b v → v = u
  | [], [], u, v, _, hu, hv => by rw [hu.nil_inv, hv.nil_inv]
  | [a], [b], u, v, h, hu, hv => by
    obtain ⟨u0, us, rfl, h1, h2⟩ := hu.cons_inv
    obtain ⟨v0, vs, rfl, h3, h4⟩ := hv.cons_inv
    rw [h2.nil_inv, h4.nil_inv, lfSame_val hle h h1 h3]
  | a :: a2 :: l, b :: b2 :: m, u, v, h, hu, hv => by
    obtain ⟨u0, us, rfl, h1, h2⟩ := hu.cons_inv
    obtain ⟨v0, vs, rfl, h3, h4⟩ := hv.cons_inv
    have h : lfSame a b ∧ lfsSame (a2 :: l) (b2 :: m) := h
    rw [lfSame_val hle h.1 h1 h3, lfsSame_val hle h.2 h2 h4]
  | [], _ :: _, _, _, h, _, _ => h.elim
  | [_], [], _, _, h, _, _ => h.elim
  | [_], _ :: _ :: _, _, _, h, _, _ => by
    have h : lfSame _ _ ∧ lfsSame [] (_ :: _) := h
    exact h.2.elim
  | _ :: _ :: _, [], _, _, h, _, _ => h.elim
  | _ :: b :: l, [_], _, _, h, _, _ => by
    have h : lfSame _ _ ∧ lfsSame (b :: l) [] := h
    cases l <;> exact (show False from h.2).elim
theorem heldQ_spec {β0 γ : Nm} {m0 m : Mem} {w0 w : World} (hs0 : Sat β0 m0 w0) (hs : Sat γ m w) (hle : β0.le γ) {q : Prop} : ∀ {l : List Nat}, heldQ m0 m l q → HeldW β0 w0 l w ∧ q
  | [], h => ⟨fun x hx => (by cases hx), h⟩
  | y :: l, h => by
    obtain ⟨h1, h2⟩ := h
    obtain ⟨h3, h4⟩ := heldQ_spec hs0 hs hle h2
    refine ⟨fun x hx k hk => ?_, h4⟩
    rcases List.mem_cons.1 hx with rfl | hx
    · unfold blkSame at h1
      split at h1
      · rename_i l t m' u ha hb
        have ht := Nat.eq_of_beq_eq_true (ifB_spec h1).1
        have hl := (ifB_spec h1).2
        subst ht
        obtain ⟨k1, e1, us, hu, hus⟩ := hs0.cells (mmOf_some ha)
        obtain ⟨k2, e2, vs, hv, hvs⟩ := hs.cells (mmOf_some hb)
        rw [hk] at e1
        cases e1
        rw [hle _ _ hk] at e2
        cases e2
        rw [hu, hv, lfsSame_val hle hl hus hvs]
      · exact h1.elim
    · exact h3 x hx k hk

/-- values that the state determines -/
def detL : Lf → Bool
  | .int _ _ _ => true
  | .bool _ _ => true
  | .ptr _ _ => true
  | _ => false
def detLs : List Lf → Bool
  | [] => true
  | a :: l => detL a && detLs l
def detV : Vv → Bool
  | .one l => detL l
  | .agg l => detLs l
theorem detL_uniq {β : Nm} {l : Lf} {u v : Value} (h : detL l = true) (hu : HasL β l u) (hv : HasL β l v) : v = u := by
  unfold detL at h
  split at h
  · cases hu; cases hv; rfl
  · cases hu; cases hv; rfl
  · cases hu with
    | ptr h1 => cases hv with
      | ptr h2 => rw [h1] at h2; cases h2; rfl
  · cases h
theorem detLs_uniq {β : Nm} : ∀ {l : List Lf} {u v : List Value}, detLs l = true → All₂ (HasL β) l u → All₂ (HasL β) l v → v = u
  | [], _, _, _, hu, hv => by rw [hu.nil_inv, hv.nil_inv]
  | a :: l, _, _, h, hu, hv => by
    obtain ⟨u0, us, rfl, h1, h2⟩ := hu.cons_inv
    obtain ⟨v0, vs, rfl, h3, h4⟩ := hv.cons_inv
    unfold detLs at h
    rw [Bool.and_eq_true] at h
    rw [detL_uniq h.1 h1 h3, detLs_uniq h.2 h2 h4]
theorem detV_uniq {β : Nm} {x : Vv} {u v : Value} (h : detV x = true) (hu : HasV β x u) (hv : HasV β x v) : v = u := by
  cases hu with
  | one hu => cases hv with
    | one hv => exact detL_uniq h hu hv
  | agg hu => cases hv with
    | agg hv => rw [detLs_uniq h hu hv]
def isLd : Op → Bool
  | .load _ _ => true
  | _ => false
/-- a load out of such a block -/
def ldQ (C : Ctx) (m0 : Mem) (hs : List Nat) (σ : St) (o : Op) : Option SV := match o with
  | .load t a => match ev σ.tm a with
    | some (.v (.one (.ptr x off))) => match notIn x hs with
      | true => none
      | false => match mmOf m0 x, mmOf σ.m x with
        | some _, some (.cells l _) => match partL C.P t l off with
          | some v => match detV v with
            | true => some (.v v)
            | false => none
          | none => none
        | _, _ => none
    | _ => none
  | _ => none
def tkR (C : Ctx) (m0 : Mem) (hs : List Nat) (σ : St) (o : Op) : Option (Option Prop × SV) := match tkQ C σ o with
  | some r => some r
  | none => match ldQ C m0 hs σ o with
    | some s => some (none, s)
    | none => none
def tkK (o : Op) : Bool := isLd o || (tkFl o || tkDet o)
theorem tkK_about {P : Program} {o : Oper} {a : Act} (hk : tkK o.op = true) (w : World) : o.about P w a.eval = none := by
  unfold tkK at hk
  rw [Bool.or_eq_true] at hk
  rcases hk with hk | hk
  · cases ho : o.op with
    | load t x => unfold Oper.about; rw [ho]
    | _ => rw [ho] at hk; cases hk
  · exact kind_about hk w

def tk1 (C : Ctx) (m0 : Mem) (hs : List Nat) (σ : St) (o : Oper) (K : St → Prop) : Prop := match tkR C m0 hs σ o.op with
  | some (p, s) => andP p (K ⟨putL σ.tm o.dst s, σ.m⟩)
  | none => False
def xTk (C : Ctx) (m0 : Mem) (hs : List Nat) (ops : List Oper) (σ : St) (o : Oper) (K : St → Prop) : Prop := match o.guard with
  | none => tk1 C m0 hs σ o K
  | some (j, want) => match yieldQ ops σ.tm j with
    | some (d, .v (.one (.bool kn t))) => match kn with
      | true => match decide (t = want) with
        | true => tk1 C m0 hs σ o K
        | false => K ⟨putL σ.tm o.dst (.tup []), σ.m⟩
      | false => (t = want → tk1 C m0 hs ⟨σ.tm.set d (lb true want), σ.m⟩ o K) ∧ (t = !want → K ⟨putL (σ.tm.set d (lb true (!want))) o.dst (.tup []), σ.m⟩)
    | some (_, .tup []) => K ⟨putL σ.tm o.dst (.tup []), σ.m⟩
    | _ => False
def someB {A : Type} : Option A → Bool
  | some _ => true
  | none => false
def tkOk (C : Ctx) (m0 : Mem) (hs : List Nat) (ops : List Oper) (σ : St) (o : Oper) : Bool := match o.guard with
  | none => someB (tkR C m0 hs σ o.op)
  | some (j, want) => match yieldQ ops σ.tm j with
    | some (_, .v (.one (.bool kn t))) => match kn with
      | true => match decide (t = want) with
        | true => someB (tkR C m0 hs σ o.op)
        | false => true
      | false => someB (tkR C m0 hs σ o.op)
    | some (_, .tup []) => true
    | _ => false
def tkFind (C : Ctx) (m0 : Mem) (hs : List Nat) (ops : List Oper) (listed : Array Bool) (σ : St) : List Nat → Option (Nat × Oper)
  | [] => none
  | j :: l => match ops[j]? with
    | some o => match tkK o.op && (tkOk C m0 hs ops σ o && Region.free .any ⟨ops⟩ listed j) with
      | true => some (j, o)
      | false => tkFind C m0 hs ops listed σ l
    | none => tkFind C m0 hs ops listed σ l
theorem tkFind_spec {C : Ctx} {m0 : Mem} {hs : List Nat} {ops : List Oper} {listed : Array Bool} {σ : St} {j : Nat} {o : Oper} : ∀ {l : List Nat}, tkFind C m0 hs ops listed σ l = some (j, o) → j ∈ l ∧ ops[j]? = some o ∧ Region.free .any ⟨ops⟩ listed j = true ∧ tkK o.op = true
  | [], h => by cases h
  | k :: l, h => by
    unfold tkFind at h
    split at h
    · rename_i o' ho
      split at h
      · rename_i hb
        cases h
        rw [Bool.and_eq_true, Bool.and_eq_true] at hb
        exact ⟨by simp, ho, hb.2.2, hb.1⟩
      · obtain ⟨h1, h2⟩ := tkFind_spec h
        exact ⟨List.mem_cons_of_mem _ h1, h2⟩
    · obtain ⟨h1, h2⟩ := tkFind_spec h
      exact ⟨List.mem_cons_of_mem _ h1, h2⟩
def allR (p : Nat → Prop) : List Nat → Prop
  | [] => True
  | [i] => p i
  | i :: l => p i ∧ allR p l
theorem allR_spec {p : Nat → Prop} : ∀ {l : List Nat}, allR p l → ∀ i ∈ l, p i
  | [], _, i, hi => by cases hi
  | [j], h, i, hi => by
    obtain rfl : i = j := by simpa using hi
    exact h
  | j :: k :: l, h, i, hi => by
    rcases List.mem_cons.1 hi with rfl | hi
    · exact h.1
    · exact allR_spec (l := k :: l) h.2 i hi
/-- order by order; hs: blocks that the operations leave as they are (m0: the memory where the statement begins) -/
def xEnum (C : Ctx) (m0 : Mem) (hs : List Nat) (ops : List Oper) (K : St → Prop) : Nat → Array Bool → St → Prop
  | 0, _, _ => False
  | n + 1, listed, σ => match Region.ready .any ⟨ops⟩ listed with
    | [] => K σ
    | i :: rs => match tkFind C m0 hs ops listed σ (i :: rs) with
      | some (j, o) => xTk C m0 hs ops σ o fun σ' => xEnum C m0 hs ops K n (listed.setIfInBounds j true) σ'
      | none => allR (fun j => match ops[j]? with
        | some o => xOps C ops [o] σ fun σ' => heldQ m0 σ'.m hs (xEnum C m0 hs ops K n (listed.setIfInBounds j true) σ')
        | none => False) (i :: rs)

section
variable {F : Fence} {n : Nat} {P : Program} {ops : Array Oper} {Q : Exit → Act → World → Prop} {S : World → Prop}
/-- in every world of S this operation yields this value, and calls nobody -/
def YieldsS (P : Program) (ops : Array Oper) (S : World → Prop) (o : Oper) (v : Value) (a : Act) : Prop :=
  ((Region.wanted o (yielded ops a.tmps) = true ∧ ∀ w, S w → (execOp a.eval o).run P w = .ok (.value v) w) ∨ (Region.wanted o (yielded ops a.tmps) = false ∧ v = undef)) ∧ ∀ w, o.about P w a.eval = none
/-- whichever order comes up, the world stays within S -/
def wpAnyS (F : Fence) (n : Nat) (P : Program) (ops : Array Oper) (Q : Exit → Act → World → Prop) (S : World → Prop) : Nat → Array Bool → Act → World → Prop
  | 0, listed, a, w => Region.ready .any ops listed = [] ∧ Q .normal a w
  | fuel + 1, listed, a, w => (Region.ready .any ops listed = [] → Q .normal a w) ∧ ∀ i ∈ Region.ready .any ops listed, wpOpIn F n P ops Q i (fun a' w' => S w' ∧ wpAnyS F n P ops Q S fuel (listed.setIfInBounds i true) a' w') a w
theorem wpAnyS_any : ∀ (fuel : Nat) (listed : Array Bool) (a : Act) (w : World), wpAnyS F n P ops Q S fuel listed a w → wpAnyIn F n P .any ops Q fuel listed a w
  | 0, _, _, _, h => h
  | k + 1, _, _, _, h => ⟨h.1, fun i hi => wpOpIn_mono (fun a' w' h' => wpAnyS_any k _ a' w' h'.2) (h.2 i hi)⟩
theorem wpAnyS_done {listed : Array Bool} {a : Act} {w : World} (hr : Region.ready .any ops listed = []) (h : Q .normal a w) : ∀ fuel, wpAnyS F n P ops Q S fuel listed a w
  | 0 => ⟨hr, h⟩
  | _ + 1 => ⟨fun _ => h, by rw [hr]; simp⟩
theorem YieldsS.now {i : Nat} {o : Oper} {v : Value} {a : Act} (hro : F.round = none) (hi : ops[i]? = some o) (hy : YieldsS P ops S o v a) {K : Act → World → Prop} {w : World} (hS : S w) (h : K (a.put o.dst v) w) : wpOpIn F n P ops Q i K a w := by
  have hab : ∀ f, o.about P w a.eval = some f → F.fn f := fun f hf => by rw [hy.2 w] at hf; cases hf
  unfold wpOpIn
  rw [hi]
  dsimp only
  rcases hy.1 with ⟨hw, hv⟩ | ⟨hw, rfl⟩
  · rw [if_pos hw]
    unfold Oper.wpIn
    rw [hro, Oper.semAt_none, hv w hS]
    exact ⟨hab, h⟩
  · rw [if_neg (by rw [hw]; simp)]
    exact ⟨hab, h⟩
theorem YieldsS.keep {oi oj : Oper} {v : Value} {a : Act} (hs : ∀ cs b, oi.op ≠ .select cs b) (h3 : ∀ d, oj.dst = some d → d ∉ oi.looksAt ops) (hy : YieldsS P ops S oi v a) (u : Value) : YieldsS P ops S oi v (a.put oj.dst u) := by
  unfold YieldsS at *
  rw [wanted_put oi a oj.dst u h3, execOp_put oi hs a oj.dst u h3]
  exact ⟨hy.1, fun w => by rw [about_put oi w a oj.dst u h3]; exact hy.2 w⟩
/-- an operation does not mind whether another one's value lies there; what it keeps of the activation, it keeps -/
theorem wpOpIn_carry {Y : Act → Prop} {j : Nat} {oj : Oper} {dst : Option Tmp} {v : Value} (hro : F.round = none) (hj : ops[j]? = some oj) (h1 : ∀ d, dst = some d → d ∉ oj.looksAt ops) (h2 : ∀ d, dst = some d → oj.dst ≠ some d)
    (hk : ∀ a u, Y a → Y (a.put oj.dst u)) (hkd : ∀ (a : Act) (d : Deferred), Y a → Y { a with defers := d :: a.defers }) (hsj : ∀ cs b, oj.op ≠ .select cs b) (hpan : ∀ c a w, ¬ Q (.panic c) a w) {K : Act → World → Prop} {a : Act} {w : World} (hy : Y a)
    (h : wpOpIn F n P ops Q j K (a.put dst v) w) : wpOpIn F n P ops Q j (fun a' w' => Y a' ∧ K (a'.put dst v) w') a w := by
  unfold wpOpIn at h ⊢
  rw [hj] at h ⊢
  dsimp only at h ⊢
  rw [wanted_put oj a dst v h1, about_put oj w a dst v h1] at h
  by_cases hw : Region.wanted oj (yielded ops a.tmps) = true
  · rw [if_pos hw] at h ⊢
    unfold Oper.wpIn at h ⊢
    rw [about_put oj w a dst v h1, hro, Oper.semAt_none, execOp_put oj hsj a dst v h1] at h
    rw [hro, Oper.semAt_none]
    refine ⟨h.1, ?_⟩
    have h := h.2
    have put : ∀ u w'', K ((a.put dst v).put oj.dst u) w'' → Y (a.put oj.dst u) ∧ K ((a.put oj.dst u).put dst v) w'' := fun u w'' he => ⟨hk a u hy, by rw [← Act.put_comm a v u h2]; exact he⟩
    generalize (execOp a.eval oj).run P w = r at h ⊢
    cases r with
    | ok x w' =>
      cases x <;> simp only [Oper.uponIn] at h ⊢
      case value u => exact put u w' h
      case skip => exact put undef w' h
      case defer d =>
        refine ⟨hk _ _ (hkd a d hy), ?_⟩
        rw [← Act.put_comm _ v undef h2, ← Act.put_defers]
        exact h
      case enter f args =>
        refine ⟨h.1, CallsIn.mono h.2 fun e w'' he => ?_⟩
        cases e with
        | returned u => exact put u w'' he
        | panicked c => exact absurd he (hpan _ _ _)
        | outgrown => exact he
      case row row args => exact ⟨h.1, RowsIn.mono h.2 fun u w'' he => put u w'' he⟩
      case round l f tmps assign body =>
        refine ⟨h.1, RoundIn.mono h.2 fun e w'' he => ?_⟩
        cases e with
        | returned u => exact put u w'' he
        | panicked c => exact absurd he (hpan _ _ _)
        | outgrown => exact he
    | halt x w' =>
      cases x <;> simp only [Oper.uponIn] at h ⊢
      case panic u => exact absurd h (hpan _ _ _)
  · rw [if_neg hw] at h ⊢
    exact ⟨h.1, hk a _ hy, by rw [← Act.put_comm a v undef h2]; exact h.2⟩
/-- what yields the same in all worlds of S may come first -/
theorem wpAnyS_first {i : Nat} {oi : Oper} {v : Value} (hro : F.round = none) (hi : ops[i]? = some oi) (hsel : Region.noSelect ops = true) (hpan : ∀ c a w, ¬ Q (.panic c) a w) :
    ∀ (fuel : Nat) (listed : Array Bool) (a : Act) (w : World), (∀ j oj, ops[j]? = some oj → j ≠ i → listed.getD j true = false → (∀ e ∈ oj.after, Region.binds .any e = true → e.on ≠ i) → oi.apart ops oj = true) →
      i ∈ Region.ready .any ops listed → YieldsS P ops S oi v a → S w → wpAnyS F n P ops Q S fuel (listed.setIfInBounds i true) (a.put oi.dst v) w → wpAnyS F n P ops Q S (fuel + 1) listed a w := by
  intro fuel
  induction fuel with
  | zero =>
    intro listed a w _ hr hy hS H
    refine ⟨fun h => (by rw [h] at hr; cases hr), fun j hj => ?_⟩
    by_cases e : j = i
    · subst e; exact hy.now hro hi hS ⟨hS, H⟩
    · have := ready_mono hj e
      rw [H.1] at this
      cases this
  | succ fuel ih =>
    intro listed a w hfree hr hy hS H
    refine ⟨fun h => (by rw [h] at hr; cases hr), fun j hj => ?_⟩
    by_cases e : j = i
    · subst e; exact hy.now hro hi hS ⟨hS, H⟩
    · obtain ⟨hun, oj, hoj, hall⟩ := mem_ready.1 hj
      have hwait : ∀ e ∈ oj.after, Region.binds .any e = true → e.on ≠ i := fun e he hb heq => by
        have h1 := hall e he hb
        have h0 := (mem_ready.1 hr).1
        rw [heq] at h1
        rcases Nat.lt_or_ge i listed.size with h' | h'
        · simp [h'] at h0 h1; rw [h0] at h1; cases h1
        · simp [Array.getElem?_eq_none h'] at h1
      obtain ⟨p1, p2, p3⟩ := Oper.apart_spec (hfree j oj hoj e hun hwait)
      have hst := wpOpIn_carry (Y := YieldsS P ops S oi v) hro hoj p1 p2 (fun a u h => h.keep (Region.noSelect_spec hsel i oi · · hi) p3 u) (fun a d h => h) (Region.noSelect_spec hsel j oj · · hoj) hpan hy (H.2 j (ready_mono hj e))
      refine wpOpIn_mono (fun a' w' h3 => ⟨h3.2.1, ih _ a' w' (fun k ok hk hki hun' hno => ?_) (ready_mono hr (Ne.symm e)) h3.1 h3.2.1 ?_⟩) hst
      · refine hfree k ok hk hki ?_ hno
        by_cases hjk : j = k
        · subst hjk; exact hun
        · rw [getD_set_ne true hjk] at hun'; exact hun'
      · rw [Array.setIfInBounds_comm _ _ e]
        exact h3.2.2
end

section
variable {bs : Nat} {F : Fence} {n : Nat} {C : Ctx} {ops : List Oper} {β : Nm} {a : Act} {w : World} {m0 : Mem} {β0 : Nm} {w0 : World} {hs : List Nat}
theorem tk1_sound {σ : St} {o : Oper} {K : St → Prop} (h : tk1 C m0 hs σ o K) (hf : Fit bs σ β a w) (hsi : Since m0 β0 w0 σ.m β w) (hS : HeldW β0 w0 hs w) : ∃ v, (∀ w', HeldW β0 w0 hs w' → (execOp a.eval o).run C.P w' = .ok (.value v) w') ∧ (∀ w', o.about C.P w' a.eval = none) ∧ ∃ σ', Fit bs σ' β (a.put o.dst v) w ∧ σ'.m = σ.m ∧ K σ' := by
  unfold tk1 at h
  split at h
  · rename_i p s hq
    obtain ⟨hp, hk⟩ := andP_spec h
    unfold tkR at hq
    split at hq
    · rename_i r hq2
      cases hq
      unfold tkQ at hq2
      split at hq2
      · cases hq2
      · rename_i hkind
        split at hq2
        · rename_i p' s' hq'
          split at hq2
          · rename_i hd
            cases hq2
            obtain ⟨v, h1, h2, h3⟩ := tk_run hkind hq' hd hp hf.env
            exact ⟨v, fun w' _ => h2 w', h3, ⟨putL σ.tm o.dst s, σ.m⟩, ⟨putL_has hf.tm h1 o.dst, hf.sat, by rw [put_defers]; exact hf.df⟩, rfl, hk⟩
          · cases hq2
        · cases hq2
    · split at hq
      · rename_i s' hl
        cases hq
        unfold ldQ at hl
        split at hl
        · rename_i t x ho
          split at hl
          · rename_i y off hx
            split at hl
            · cases hl
            · rename_i hin
              split at hl
              · rename_i b0 l t' hb0 hb
                split at hl
                · rename_i v hv
                  split at hl
                  · rename_i hd
                    cases hl
                    have hy0 : y ∈ hs := by
                      have key : ∀ l : List Nat, notIn y l = false → y ∈ l := by
                        intro l
                        induction l with
                        | nil => intro h; cases h
                        | cons z l ih =>
                          intro h
                          unfold notIn at h
                          split at h
                          · rename_i e; rw [Nat.eq_of_beq_eq_true e]; exact List.mem_cons_self ..
                          · exact List.mem_cons_of_mem _ (ih h)
                      exact key hs hin
                    have hlt : y < m0.length := by
                      rcases Nat.lt_or_ge y m0.length with h' | h'
                      · exact h'
                      · have := mmOf_some hb0
                        rw [List.getElem?_eq_none h'] at this
                        cases this
                    obtain ⟨k, hk0, vs, hob, hvs⟩ := hf.sat.cells (mmOf_some hb)
                    have hxv := ev_has hf.tm hx
                    have hav : a.eval x = .pointer (some ⟨k, off, none⟩) := by
                      cases hxv with
                      | v hxv => cases hxv with
                        | one hxv => generalize a.eval x = q at hxv ⊢; cases hxv; rename_i h1; rw [hk0] at h1; cases h1; rfl
                    have run : ∀ w', HeldW β0 w0 hs w' → ∃ r, (execOp a.eval o).run C.P w' = .ok (.value r) w' ∧ HasV β v r := by
                      intro w' hS'
                      have e0 : β0 y = some k := by rw [← hsi.same y hlt]; exact hk0
                      have hob' : w'.heap[k]? = some (.cells ⟨vs⟩ t' (0, 0)) := by rw [hS' y hy0 k e0, ← hS y hy0 k e0]; exact hob
                      have hcell : ∀ i : Nat, w'.cell? ⟨k, i, none⟩ = vs[i]? := fun i => by simp [World.cell?, hob']
                      obtain ⟨r, hr, hh⟩ := load_part (P := C.P) (w := w') (k := k) (base := 0) hv hvs (fun j u hu => by rw [hcell, Nat.zero_add]; exact hu)
                      rw [Nat.zero_add] at hr
                      refine ⟨r, ?_, hh⟩
                      rw [execOp, ho]
                      simp only [hav, Instr.loadAt, Instr.sureAddr, Sem.run_bind, Sem.run_pure, Result.andThen_ok, hr]
                    obtain ⟨r, hr, hh⟩ := run w hS
                    refine ⟨r, fun w' hS' => ?_, fun w' => by unfold Oper.about; rw [ho], ⟨putL σ.tm o.dst (.v v), σ.m⟩, ⟨putL_has hf.tm (.v hh) o.dst, hf.sat, by rw [put_defers]; exact hf.df⟩, rfl, hk⟩
                    obtain ⟨r', h1, h2⟩ := run w' hS'
                    rw [h1, detV_uniq hd hh h2]
                  · cases hl
                · cases hl
              · cases hl
          · cases hl
        · cases hl
      · cases hq
  · exact h.elim

theorem xTk_sound {σ : St} {o : Oper} {K : St → Prop} (h : xTk C m0 hs ops σ o K) (hf : Fit bs σ β a w) (hkd : tkK o.op = true) (hsi : Since m0 β0 w0 σ.m β w) (hS : HeldW β0 w0 hs w) :
    ∃ v, YieldsS C.P ⟨ops⟩ (HeldW β0 w0 hs) o v a ∧ ∃ σ', Fit bs σ' β (a.put o.dst v) w ∧ σ'.m = σ.m ∧ K σ' := by
  have run : ∀ tm', Fit bs ⟨tm', σ.m⟩ β a w → tk1 C m0 hs ⟨tm', σ.m⟩ o K → Region.wanted o (yielded ⟨ops⟩ a.tmps) = true → ∃ v, YieldsS C.P ⟨ops⟩ (HeldW β0 w0 hs) o v a ∧ ∃ σ', Fit bs σ' β (a.put o.dst v) w ∧ σ'.m = σ.m ∧ K σ' := by
    intro tm' hf' hx hw
    obtain ⟨v, h1, h2, σ', h3, h4, h5⟩ := tk1_sound hx hf' hsi hS
    exact ⟨v, ⟨.inl ⟨hw, h1⟩, h2⟩, σ', h3, h4, h5⟩
  have skip : ∀ tm', Fit bs ⟨tm', σ.m⟩ β a w → K ⟨putL tm' o.dst (.tup []), σ.m⟩ → Region.wanted o (yielded ⟨ops⟩ a.tmps) = false → ∃ v, YieldsS C.P ⟨ops⟩ (HeldW β0 w0 hs) o v a ∧ ∃ σ', Fit bs σ' β (a.put o.dst v) w ∧ σ'.m = σ.m ∧ K σ' := by
    intro tm' hf' hx hw
    exact ⟨undef, ⟨.inr ⟨hw, rfl⟩, fun w' => tkK_about hkd w'⟩, ⟨putL tm' o.dst (.tup []), σ.m⟩, ⟨putL_has hf'.tm (.tup .nil) o.dst, hf'.sat, by rw [put_defers]; exact hf'.df⟩, rfl, hx⟩
  unfold xTk at h
  split at h
  · rename_i hg
    exact run σ.tm hf h (by simp [Region.wanted, hg])
  · rename_i j want hg
    have wb : ∀ t, ((((⟨ops⟩ : Array Oper)[j]?).bind (·.dst)).bind (a.tmps[·]?) = some (.bool t)) → Region.wanted o (yielded ⟨ops⟩ a.tmps) = decide (t = want) := by
      intro t ht
      simp only [Region.wanted, hg, yielded, ht]
      cases t <;> cases want <;> rfl
    split at h
    · rename_i d kn t hy
      obtain ⟨v, hv, hs, hd⟩ := yieldQ_spec (ops := ⟨ops⟩) rfl hf hy
      have : v = .bool t := by
        cases hs with
        | v hs => cases hs with
          | one hs => cases hs; rfl
      subst this
      have hw := wb t hv
      split at h
      · split at h
        · rename_i hdd
          exact run σ.tm hf h (by rw [hw, hdd])
        · rename_i hdd
          exact skip σ.tm hf h (by rw [hw, hdd])
      · by_cases e : t = want
        · exact run _ (hf.know (by rw [← e]; exact hd)) (h.1 e) (by rw [hw]; simpa using e)
        · have e' : t = !want := by revert e; cases t <;> cases want <;> simp
          exact skip _ (hf.know (by rw [← e']; exact hd)) (h.2 e') (by rw [hw]; simpa using e)
    · rename_i hy
      obtain ⟨v, hv, hs, _⟩ := yieldQ_spec (ops := ⟨ops⟩) rfl hf hy
      have : v = .tuple ⟨[]⟩ := by
        cases hs with
        | tup hs => rw [hs.nil_inv]
      subst this
      exact skip σ.tm hf h (by simp only [Region.wanted, hg, yielded, hv]; rfl)
    · exact h.elim

theorem wpIn_q {P : Program} {o : Oper} {K : Act → World → Prop} {Q Q' : Exit → Act → World → Prop} (hq : ∀ e a w, e ≠ .normal → Q' e a w → Q e a w) (hh : o.wpIn F n P a w K Q') : o.wpIn F n P a w K Q := by
  unfold Oper.wpIn at *
  refine ⟨hh.1, ?_⟩
  have hh := hh.2
  generalize (o.semAt F.round a.eval).run P w = r at *
  cases r with
  | ok x w' =>
    cases x <;> simp only [Oper.uponIn] at hh ⊢ <;>
      first
        | exact hh
        | exact ⟨hh.1, CallsIn.mono hh.2 (fun e w'' he => by cases e <;> first | exact hq _ _ _ (by simp) he | exact (he.elim fun a he => he.elim fun w he => ⟨a, w, hq _ _ _ (by simp) he⟩) | exact he)⟩
        | exact ⟨hh.1, RoundIn.mono hh.2 (fun e w'' he => by cases e <;> first | exact hq _ _ _ (by simp) he | exact (he.elim fun a he => he.elim fun w he => ⟨a, w, hq _ _ _ (by simp) he⟩) | exact he)⟩
  | halt x w' => cases x <;> simp only [Oper.uponIn] at hh ⊢ <;> first | exact hh | exact hq _ _ _ (by simp) hh
theorem xEnum_sound0 (hro : F.round = none) (hF : Wd F) (hC : C.Ok) (hsel : Region.noSelect ⟨ops⟩ = true) (Q : Exit → Act → World → Prop) (hpan : ∀ c a w, ¬ Q (.panic c) a w) {K : St → Prop} (hs0 : Sat β0 m0 w0) (hY : YOk C β0)
    (hQ : ∀ a' w', Ends bs C m0 β0 w0 K a' w' → Q .normal a' w') : ∀ (k : Nat) (listed : Array Bool) (σ : St) (β : Nm) (a : Act) (w : World) (fuel : Nat), xEnum C m0 hs ops K k listed σ → fuel = cnt listed → Fit bs σ β a w → Since m0 β0 w0 σ.m β w → HeldW β0 w0 hs w →
    wpAnyS F n C.P ⟨ops⟩ Q (HeldW β0 w0 hs) fuel listed a w
  | 0, _, _, _, _, _, _, h, _, _, _, _ => h.elim
  | k + 1, listed, σ, β, a, w, fuel, h, hfu, hf, hsi, hS => by
    unfold xEnum at h
    have some_ : ∀ j, j ∈ Region.ready .any ⟨ops⟩ listed → ∃ f', fuel = f' + 1 ∧ f' = cnt (listed.setIfInBounds j true) ∧ (Region.ready .any ⟨ops⟩ listed).contains j = true := by
      intro j hj
      have h0 := (mem_ready.1 hj).1
      have hsz : j < listed.size := by
        rcases Nat.lt_or_ge j listed.size with h' | h'
        · exact h'
        · simp [Array.getD_eq_getD_getElem?, Array.getElem?_eq_none h'] at h0
      have h1 : listed.getD j false = false := by
        simp only [Array.getD_eq_getD_getElem?, Array.getElem?_eq_getElem hsz, Option.getD_some] at h0 ⊢
        exact h0
      have := cnt_set hsz h1
      exact ⟨cnt (listed.setIfInBounds j true), by omega, rfl, by simpa using hj⟩
    split at h
    · rename_i hr
      exact wpAnyS_done hr (hQ a w ⟨σ, β, hf, hsi, h⟩) fuel
    · rename_i i rs hr
      split at h
      · rename_i j o hfd
        obtain ⟨hj, ho, hfree, hkd⟩ := tkFind_spec hfd
        rw [← hr] at hj
        obtain ⟨f', rfl, hf', hcon⟩ := some_ j hj
        obtain ⟨v, hy, σ', h1, h2, h3⟩ := xTk_sound h hf hkd hsi hS
        exact wpAnyS_first hro (by simpa using ho) hsel hpan f' listed a w (Region.free_spec (by simpa using ho) hfree) (by simpa using hcon) hy hS (xEnum_sound0 hro hF hC hsel Q hpan hs0 hY hQ k _ σ' β _ w f' h3 hf' h1 (by rw [h2]; exact hsi) hS)
      · have hne : i :: rs ≠ [] := by simp
        obtain ⟨f0, hf0⟩ : ∃ f0, fuel = f0 + 1 := by
          obtain ⟨f', e, _⟩ := some_ i (by rw [hr]; simp)
          exact ⟨f', e⟩
        subst hf0
        refine ⟨fun h0 => absurd (hr ▸ h0) hne, fun j hj => ?_⟩
        rw [hr] at hj
        have hx := allR_spec h j hj
        rw [← hr] at hj
        obtain ⟨f', e, hf', _⟩ := some_ j hj
        obtain rfl : f0 = f' := by omega
        split at hx
        · rename_i o ho
          have ho2 : (⟨ops⟩ : Array Oper)[j]? = some o := by simpa using ho
          have hW := xOps_sound (n := n) hC hF (ops := ⟨ops⟩) (all := ops) rfl [o] σ _ β a w hx hf (hY.le hsi.ext) (fun e a w => match e with
            | .normal => HeldW β0 w0 hs w ∧ wpAnyS F n C.P ⟨ops⟩ Q (HeldW β0 w0 hs) f0 (listed.setIfInBounds j true) a w
            | e => Q e a w) fun a2 w2 he => by
              obtain ⟨σ2, β2, e1, e2, e3⟩ := he
              have e4 := Since.trans hs0 hsi e2
              obtain ⟨e5, e6⟩ := heldQ_spec hs0 e1.sat e4.ext e3
              exact ⟨e5, xEnum_sound0 hro hF hC hsel Q hpan hs0 hY hQ k _ σ2 β2 a2 w2 f0 e6 hf' e1 e4 e5⟩
          unfold wpListIn at hW
          unfold wpOpIn
          rw [ho2]
          simp only
          split
          · rename_i hw
            rw [if_pos hw] at hW
            refine wpIn_q (fun e a w hne hq => ?_) hW
            cases e <;> first | exact absurd rfl hne | exact hq
          · rename_i hw
            rw [if_neg hw] at hW
            exact hW
        · exact hx.elim
theorem xEnum_sound (hro : F.round = none) (hF : Wd F) (hC : C.Ok) (hsel : Region.noSelect ⟨ops⟩ = true) (Q : Exit → Act → World → Prop) (hpan : ∀ c a w, ¬ Q (.panic c) a w) {K : St → Prop} {σ : St} (hs0 : Sat β σ.m w) (hY : YOk C β)
    (hQ : ∀ a' w', Ends bs C σ.m β w K a' w' → Q .normal a' w') {k : Nat} {listed : Array Bool} {w1 : World} {fuel : Nat} (h : xEnum C σ.m hs ops K k listed σ) (hfu : fuel = cnt listed) (hf : Fit bs σ β a w1) (hsi : Since σ.m β w σ.m β w1) (hh : w1.heap = w.heap) :
    wpAnyIn F n C.P .any ⟨ops⟩ Q fuel listed a w1 :=
  wpAnyS_any _ _ _ _ (xEnum_sound0 (hs := hs) hro hF hC hsel Q hpan hs0 hY hQ k listed σ β a w1 fuel h hfu hf hsi fun x _ k _ => by rw [hh])
theorem Fit.drawn {σ : St} (hf : Fit bs σ β a w) : Fit bs σ β a { w with drawn := w.drawn + 1 } ∧ Since σ.m β w σ.m β { w with drawn := w.drawn + 1 } := by
  refine ⟨⟨hf.tm, ⟨hf.sat.blk, hf.sat.inj, hf.sat.dom, hf.sat.gl, hf.sat.ng⟩, Marks.mono (w := w) (w' := { w with drawn := w.drawn + 1 }) (fun _ h => h) hf.df⟩, ?_⟩
  exact ⟨Nm.le_refl β, fun _ _ => rfl, Nat.le_refl _, fun q x h k => absurd (kq_lt k) (by omega), fun _ _ _ h => h, rfl, rfl, rfl, Nat.le_refl _, fun _ _ _ => rfl⟩
end

end Go.Proofs.Ytceffompldihjaa.Rex
