/- A WALK BY COMPUTATION, a statement whose order Go leaves open, order by order: what looks at temporaries alone is taken first; of all else each that may come next. Conditions: none. Own work. -/
import Derived.Test.YtoanempchbejhaaDoorRex12
namespace Go.Proofs.YtoanempchbejhaaDoor.Rex
open Go.RowKit
set_option linter.unusedVariables false
set_option linter.unusedSimpArgs false

/-- a value that the state alone determines -/
def detS : SV → Bool
  | .v (.one (.int _ _ _)) => true
  | .v (.one (.bool _ _)) => true
  | .v (.one (.ptr _ _)) => true
  | .v (.one (.rp _ _ _ _ _)) => true
  | _ => false
theorem detS_uniq {β : Nm} {s : SV} {u v : Value} (h : detS s = true) (hu : Has β s u) (hv : Has β s v) : v = u := by
  unfold detS at h
  split at h
  · cases hu with
    | v hu => cases hu with
      | one hu => cases hv with
        | v hv => cases hv with
          | one hv => cases hu; cases hv; rfl
  · cases hu with
    | v hu => cases hu with
      | one hu => cases hv with
        | v hv => cases hv with
          | one hv => cases hu; cases hv; rfl
  · cases hu with
    | v hu => cases hu with
      | one hu => cases hv with
        | v hv => cases hv with
          | one hv => cases hu with
            | ptr h1 => cases hv with
              | ptr h2 => rw [h1] at h2; cases h2; rfl
  · cases hu with
    | v hu => cases hu with
      | one hu => cases hv with
        | v hv => cases hv with
          | one hv => cases hu with
            | rp h1 => cases hv with
              | rp h2 => rw [h1] at h2; cases h2; rfl
  · cases h

/-- operations whose value the temporaries give -/
def tkFl : Op → Bool
  | .move _ => true
  | .assign _ => true
  | .nilCheck _ => true
  | .fieldAddr _ _ _ => true
  | .pick _ _ _ => true
  | .slice _ _ _ _ _ => true
  | _ => false
def tkDet : Op → Bool
  | .binOp _ _ _ _ _ => true
  | .unOp _ _ _ => true
  | .convert _ _ _ => true
  | .indexAddr _ _ _ => true
  | .call c => match c.callee with
    | .builtin _ => true
    | _ => false
  | _ => false
/-- such an operation: under which condition, and what it yields -/
def tkQ (C : Ctx) (σ : St) (o : Op) : Option (Option Prop × SV) := match tkFl o || tkDet o with
  | false => none
  | true => match qOp C.M C.P C.Γ σ.env 0 o with
    | some (p, s, none) => match tkFl o || detS s with
      | true => some (p, s)
      | false => none
    | _ => none
theorem execOp_builtin {o : Oper} {c : Call} {b : Builtin} {a : Act} (ho : o.op = .call c) (hf : c.callee = .builtin b) (P : Program) (w : World) : o.about P w a.eval = none := by
  unfold Oper.about
  rw [ho]
  simp only [resolve, hf, Sem.run_pure]
  rfl

theorem kind_about {P : Program} {o : Oper} {a : Act} (hk : (tkFl o.op || tkDet o.op) = true) (w : World) : o.about P w a.eval = none := by
  cases ho : o.op with
  | call c =>
    rw [ho] at hk
    simp only [tkFl, tkDet, Bool.false_or] at hk
    split at hk
    · rename_i b hf
      exact execOp_builtin ho hf P w
    · cases hk
  | _ => unfold Oper.about; rw [ho]
theorem tk_run {M : Md} {P : Program} {Γ : List (FuncId × FX)} {E : Env} {o : Oper} {p : Option Prop} {s : SV} {bl : Option Blk} {β : Nm} {a : Act} {w : World} (hk : (tkFl o.op || tkDet o.op) = true) (h : qOp M P Γ E 0 o.op = some (p, s, bl)) (hd : (tkFl o.op || detS s) = true) (hp : ob p) (hE : EOk β E a w) :
    ∃ v, Has β s v ∧ (∀ w', (execOp a.eval o).run P w' = .ok (.value v) w') ∧ ∀ w', o.about P w' a.eval = none := by
  have vOf : ∀ (sm : Sem Value), execOp a.eval o = (do let x ← sm; pure (.value x)) → (∀ w', o.about P w' a.eval = none) → detS s = true → (∀ w' : World, ∃ r, sm.run P w' = .ok r w' ∧ Has β s r) → ∃ v, Has β s v ∧ (∀ w', (execOp a.eval o).run P w' = .ok (.value v) w') ∧ ∀ w', o.about P w' a.eval = none := by
    intro sm he hab hds hr
    obtain ⟨v, _, hv⟩ := hr w
    refine ⟨v, hv, fun w' => ?_, hab⟩
    obtain ⟨r, h1, h2⟩ := hr w'
    have := detS_uniq hds hv h2
    subst this
    rw [he, Sem.run_bind, h1]
    rfl
  have hfl : flt o.op = true → _ := fun hf => flt_run (P := P) (w := w) (β := β) hf h hE
  cases ho : o.op with
  | move x => exact (hfl (by rw [ho]; rfl)).2.2
  | nilCheck x => exact (hfl (by rw [ho]; rfl)).2.2
  | fieldAddr t x f => exact (hfl (by rw [ho]; rfl)).2.2
  | assign x =>
    rw [ho] at h
    unfold qOp at h
    obtain ⟨s', h', e⟩ := r0_spec h
    cases e
    exact ⟨_, hE.ev _ _ h', fun w' => by rw [execOp, ho]; rfl, fun w' => by unfold Oper.about; rw [ho]⟩
  | pick c x y =>
    rw [ho] at h
    unfold qOp at h
    have hab : ∀ w', o.about P w' a.eval = none := fun w' => by unfold Oper.about; rw [ho]
    obtain ⟨c', hc, h⟩ := Option.bind_eq_some_iff.1 h
    have hcv := hE.ev _ _ hc
    split at h
    · rename_i kn t
      have hbv : a.eval c = .bool t := by
        cases hcv with
        | v hcv => cases hcv with
          | one hcv => generalize a.eval c = q at hcv ⊢; cases hcv; rfl
      have hrun : ∀ w', (execOp a.eval o).run P w' = .ok (.value (if t = true then a.eval x else a.eval y)) w' := fun w' => by
        rw [execOp, ho]; simp [hbv, Go.asBool]
      split at h
      · split at h
        · obtain ⟨s', h', e⟩ := r0_spec h
          cases e
          exact ⟨_, hE.ev _ _ h', hrun, hab⟩
        · obtain ⟨s', h', e⟩ := r0_spec h
          cases e
          exact ⟨_, hE.ev _ _ h', hrun, hab⟩
      · obtain ⟨x', hx, h⟩ := Option.bind_eq_some_iff.1 h
        obtain ⟨y', hy, h⟩ := Option.bind_eq_some_iff.1 h
        obtain ⟨s', h', e⟩ := r0_spec h
        cases e
        exact ⟨_, mergeV_has h' (hE.ev _ _ hx) (hE.ev _ _ hy), hrun, hab⟩
    · cases h
  | binOp op t x y yt =>
    rw [ho] at h hd
    unfold qOp at h
    obtain ⟨x', hx, h⟩ := Option.bind_eq_some_iff.1 h
    obtain ⟨y', hy, h⟩ := Option.bind_eq_some_iff.1 h
    obtain ⟨p', s', h', e⟩ := r1_spec h
    cases e
    exact vOf _ (by rw [execOp, ho]) (fun w' => by unfold Oper.about; rw [ho]) hd fun w' => binQ_run (P := P) (w := w') h' hp (hE.ev _ _ hx) (hE.ev _ _ hy) x y
  | unOp op t x =>
    rw [ho] at h hd
    unfold qOp at h
    obtain ⟨x', hx, h⟩ := Option.bind_eq_some_iff.1 h
    obtain ⟨p', s', h', e⟩ := r1_spec h
    cases e
    exact vOf _ (by rw [execOp, ho]) (fun w' => by unfold Oper.about; rw [ho]) hd fun w' => unQ_run (P := P) (w := w') h' hp (hE.ev _ _ hx)
  | convert sr d x =>
    rw [ho] at h hd
    unfold qOp at h
    obtain ⟨x', hx, h⟩ := Option.bind_eq_some_iff.1 h
    obtain ⟨p', s', h', e⟩ := r1_spec h
    cases e
    exact vOf _ (by rw [execOp, ho]) (fun w' => by unfold Oper.about; rw [ho]) hd fun w' => convQ_run (P := P) (w := w') h' hp (hE.ev _ _ hx)
  | indexAddr t x i =>
    rw [ho] at h hd
    unfold qOp at h
    obtain ⟨x', hx, h⟩ := Option.bind_eq_some_iff.1 h
    obtain ⟨y', hy, h⟩ := Option.bind_eq_some_iff.1 h
    obtain ⟨p', s', h', e⟩ := r1_spec h
    cases e
    exact vOf _ (by rw [execOp, ho]) (fun w' => by unfold Oper.about; rw [ho]) hd fun w' => idxQ_run (P := P) (w := w') h' hp (hE.ev _ _ hx) (hE.ev _ _ hy)
  | slice t x lo hi mx =>
    rw [ho] at h
    unfold qOp at h
    obtain ⟨x', hx, h⟩ := Option.bind_eq_some_iff.1 h
    obtain ⟨l, hl, h⟩ := Option.bind_eq_some_iff.1 h
    obtain ⟨hh, hhi, h⟩ := Option.bind_eq_some_iff.1 h
    obtain ⟨m, hm, h⟩ := Option.bind_eq_some_iff.1 h
    obtain ⟨p', s', h', e⟩ := r1_spec h
    cases e
    obtain ⟨r, hr, hs⟩ := sliceQ_runs (P := P) w h' hp (hE.ev _ _ hx) (optI_bh hE hl) (optI_bh hE hhi) (optI_bh hE hm)
    exact ⟨r, hs, fun w' => by rw [execOp, ho]; simp only [Sem.run_bind, hr w']; rfl, fun w' => by unfold Oper.about; rw [ho]⟩
  | call c =>
    rw [ho] at h hd hk
    unfold qOp at h
    simp only [tkFl, tkDet, Bool.false_or] at hk hd
    split at hk
    · rename_i b hf
      simp only [hf] at h
      obtain ⟨us, hus, h⟩ := Option.bind_eq_some_iff.1 h
      obtain ⟨s', h', e⟩ := r0_spec h
      cases e
      have hargs := omap_has hE hus
      have hab := fun w' => execOp_builtin (a := a) ho hf P w'
      have run : ∀ w' : World, ∃ r, (execOp a.eval o).run P w' = .ok (.value r) w' ∧ Has β s r := by
        intro w'
        obtain ⟨r, hr, hs⟩ := builtQ_run (P := P) (w := w') (T := o.type) (cs := c.args.map fun | .const _ => true | _ => false) h' hargs
        refine ⟨r, ?_, hs⟩
        rw [execOp, ho]
        have e1 : (c.args.map a.eval) = ⟨c.args.toList.map a.eval⟩ := by apply Array.ext'; simp
        simp only [resolve, hf, Sem.run_bind, Sem.run_pure, Result.andThen_ok, invoke, e1]
        exact hr
      obtain ⟨v, _, hv⟩ := run w
      refine ⟨v, hv, fun w' => ?_, hab⟩
      obtain ⟨r, h1, h2⟩ := run w'
      have := detS_uniq hd hv h2
      subst this
      exact h1
    · cases hk
  | _ => rw [ho] at hk; cases hk

def tk1 (C : Ctx) (σ : St) (o : Oper) (K : St → Prop) : Prop := match tkQ C σ o.op with
  | some (p, s) => andP p (K ⟨putL σ.tm o.dst s, σ.m⟩)
  | none => False
def xTk (C : Ctx) (ops : List Oper) (σ : St) (o : Oper) (K : St → Prop) : Prop := match o.guard with
  | none => tk1 C σ o K
  | some (j, want) => match yieldQ ops σ.tm j with
    | some (d, .v (.one (.bool kn t))) => match kn with
      | true => match decide (t = want) with
        | true => tk1 C σ o K
        | false => K ⟨putL σ.tm o.dst (.tup []), σ.m⟩
      | false => (t = want → tk1 C ⟨σ.tm.set d (lb true want), σ.m⟩ o K) ∧ (t = !want → K ⟨putL (σ.tm.set d (lb true (!want))) o.dst (.tup []), σ.m⟩)
    | some (_, .tup []) => K ⟨putL σ.tm o.dst (.tup []), σ.m⟩
    | _ => False
def someB {A : Type} : Option A → Bool
  | some _ => true
  | none => false
def tkOk (C : Ctx) (ops : List Oper) (σ : St) (o : Oper) : Bool := match o.guard with
  | none => someB (tkQ C σ o.op)
  | some (j, want) => match yieldQ ops σ.tm j with
    | some (_, .v (.one (.bool kn t))) => match kn with
      | true => match decide (t = want) with
        | true => someB (tkQ C σ o.op)
        | false => true
      | false => someB (tkQ C σ o.op)
    | some (_, .tup []) => true
    | _ => false
def tkFind (C : Ctx) (ops : List Oper) (listed : Array Bool) (σ : St) : List Nat → Option (Nat × Oper)
  | [] => none
  | j :: l => match ops[j]? with
    | some o => match (tkFl o.op || tkDet o.op) && (tkOk C ops σ o && Region.free .any ⟨ops⟩ listed j) with
      | true => some (j, o)
      | false => tkFind C ops listed σ l
    | none => tkFind C ops listed σ l
theorem tkFind_spec {C : Ctx} {ops : List Oper} {listed : Array Bool} {σ : St} {j : Nat} {o : Oper} : ∀ {l : List Nat}, tkFind C ops listed σ l = some (j, o) → j ∈ l ∧ ops[j]? = some o ∧ Region.free .any ⟨ops⟩ listed j = true ∧ (tkFl o.op || tkDet o.op) = true
  | [], h => by cases h
  | k :: l, h => by
    unfold tkFind at h
    split at h
    · rename_i o' ho
      split at h
      · rename_i hb
        cases h
        rw [Bool.and_eq_true, Bool.and_eq_true] at hb
        exact ⟨by simp, ho, hb.2.2, hb.1⟩
      · obtain ⟨h1, h2⟩ := tkFind_spec h
        exact ⟨List.mem_cons_of_mem _ h1, h2⟩
    · obtain ⟨h1, h2⟩ := tkFind_spec h
      exact ⟨List.mem_cons_of_mem _ h1, h2⟩
def allR (p : Nat → Prop) : List Nat → Prop
  | [] => True
  | [i] => p i
  | i :: l => p i ∧ allR p l
theorem allR_spec {p : Nat → Prop} : ∀ {l : List Nat}, allR p l → ∀ i ∈ l, p i
  | [], _, i, hi => by cases hi
  | [j], h, i, hi => by
    obtain rfl : i = j := by simpa using hi
    exact h
  | j :: k :: l, h, i, hi => by
    rcases List.mem_cons.1 hi with rfl | hi
    · exact h.1
    · exact allR_spec (l := k :: l) h.2 i hi
/-- order by order -/
def xEnum (C : Ctx) (ops : List Oper) (K : St → Prop) : Nat → Array Bool → St → Prop
  | 0, _, _ => False
  | n + 1, listed, σ => match Region.ready .any ⟨ops⟩ listed with
    | [] => K σ
    | i :: rs => match tkFind C ops listed σ (i :: rs) with
      | some (j, o) => xTk C ops σ o fun σ' => xEnum C ops K n (listed.setIfInBounds j true) σ'
      | none => allR (fun j => match ops[j]? with
        | some o => xOps C ops [o] σ fun σ' => xEnum C ops K n (listed.setIfInBounds j true) σ'
        | none => False) (i :: rs)

section
variable {bs : Nat} {F : Fence} {n : Nat} {C : Ctx} {ops : List Oper} {β : Nm} {a : Act} {w : World}
theorem tk1_sound {σ : St} {o : Oper} {K : St → Prop} (h : tk1 C σ o K) (hf : Fit bs σ β a w) : ∃ v, Has β (.junk) v ∧ (∀ w', (execOp a.eval o).run C.P w' = .ok (.value v) w') ∧ (∀ w', o.about C.P w' a.eval = none) ∧ ∃ σ', Fit bs σ' β (a.put o.dst v) w ∧ σ'.m = σ.m ∧ K σ' := by
  unfold tk1 at h
  split at h
  · rename_i p s hq
    obtain ⟨hp, hk⟩ := andP_spec h
    unfold tkQ at hq
    split at hq
    · cases hq
    · rename_i hkind
      split at hq
      · rename_i p' s' hq'
        split at hq
        · rename_i hd
          cases hq
          obtain ⟨v, h1, h2, h3⟩ := tk_run hkind hq' hd hp hf.env
          exact ⟨v, .junk, h2, h3, ⟨putL σ.tm o.dst s, σ.m⟩, ⟨putL_has hf.tm h1 o.dst, hf.sat, by rw [put_defers]; exact hf.df⟩, rfl, hk⟩
        · cases hq
      · cases hq
  · exact h.elim

theorem xTk_sound {σ : St} {o : Oper} {K : St → Prop} (h : xTk C ops σ o K) (hf : Fit bs σ β a w) (hkd : (tkFl o.op || tkDet o.op) = true) :
    ∃ v, YieldsFenced C.P ⟨ops⟩ o v a ∧ ∃ σ', Fit bs σ' β (a.put o.dst v) w ∧ σ'.m = σ.m ∧ K σ' := by
  have run : ∀ tm', Fit bs ⟨tm', σ.m⟩ β a w → tk1 C ⟨tm', σ.m⟩ o K → Region.wanted o (yielded ⟨ops⟩ a.tmps) = true → ∃ v, YieldsFenced C.P ⟨ops⟩ o v a ∧ ∃ σ', Fit bs σ' β (a.put o.dst v) w ∧ σ'.m = σ.m ∧ K σ' := by
    intro tm' hf' hx hw
    obtain ⟨v, _, h1, h2, σ', h3, h4, h5⟩ := tk1_sound hx hf'
    exact ⟨v, ⟨.inl ⟨hw, h1⟩, h2⟩, σ', h3, h4, h5⟩
  have skip : ∀ tm', Fit bs ⟨tm', σ.m⟩ β a w → K ⟨putL tm' o.dst (.tup []), σ.m⟩ → Region.wanted o (yielded ⟨ops⟩ a.tmps) = false → ∃ v, YieldsFenced C.P ⟨ops⟩ o v a ∧ ∃ σ', Fit bs σ' β (a.put o.dst v) w ∧ σ'.m = σ.m ∧ K σ' := by
    intro tm' hf' hx hw
    exact ⟨undef, ⟨.inr ⟨hw, rfl⟩, fun w' => kind_about hkd w'⟩, ⟨putL tm' o.dst (.tup []), σ.m⟩, ⟨putL_has hf'.tm (.tup .nil) o.dst, hf'.sat, by rw [put_defers]; exact hf'.df⟩, rfl, hx⟩
  unfold xTk at h
  split at h
  · rename_i hg
    exact run σ.tm hf h (by simp [Region.wanted, hg])
  · rename_i j want hg
    have wb : ∀ t, ((((⟨ops⟩ : Array Oper)[j]?).bind (·.dst)).bind (a.tmps[·]?) = some (.bool t)) → Region.wanted o (yielded ⟨ops⟩ a.tmps) = decide (t = want) := by
      intro t ht
      simp only [Region.wanted, hg, yielded, ht]
      cases t <;> cases want <;> rfl
    split at h
    · rename_i d kn t hy
      obtain ⟨v, hv, hs, hd⟩ := yieldQ_spec (ops := ⟨ops⟩) rfl hf hy
      have : v = .bool t := by
        cases hs with
        | v hs => cases hs with
          | one hs => cases hs; rfl
      subst this
      have hw := wb t hv
      split at h
      · split at h
        · rename_i hdd
          exact run σ.tm hf h (by rw [hw, hdd])
        · rename_i hdd
          exact skip σ.tm hf h (by rw [hw, hdd])
      · by_cases e : t = want
        · exact run _ (hf.know (by rw [← e]; exact hd)) (h.1 e) (by rw [hw]; simpa using e)
        · have e' : t = !want := by revert e; cases t <;> cases want <;> simp
          exact skip _ (hf.know (by rw [← e']; exact hd)) (h.2 e') (by rw [hw]; simpa using e)
    · rename_i hy
      obtain ⟨v, hv, hs, _⟩ := yieldQ_spec (ops := ⟨ops⟩) rfl hf hy
      have : v = .tuple ⟨[]⟩ := by
        cases hs with
        | tup hs => rw [hs.nil_inv]
      subst this
      exact skip σ.tm hf h (by simp only [Region.wanted, hg, yielded, hv]; rfl)
    · exact h.elim

theorem wpIn_q {P : Program} {o : Oper} {K : Act → World → Prop} {Q Q' : Exit → Act → World → Prop} (hq : ∀ e a w, e ≠ .normal → Q' e a w → Q e a w) (hh : o.wpIn F n P a w K Q') : o.wpIn F n P a w K Q := by
  unfold Oper.wpIn at *
  refine ⟨hh.1, ?_⟩
  have hh := hh.2
  generalize (o.semAt F.round a.eval).run P w = r at *
  cases r with
  | ok x w' =>
    cases x <;> simp only [Oper.uponIn] at hh ⊢ <;>
      first
        | exact hh
        | exact ⟨hh.1, CallsIn.mono hh.2 (fun e w'' he => by cases e <;> first | exact hq _ _ _ (by simp) he | exact (he.elim fun a he => he.elim fun w he => ⟨a, w, hq _ _ _ (by simp) he⟩) | exact he)⟩
        | exact ⟨hh.1, RoundIn.mono hh.2 (fun e w'' he => by cases e <;> first | exact hq _ _ _ (by simp) he | exact (he.elim fun a he => he.elim fun w he => ⟨a, w, hq _ _ _ (by simp) he⟩) | exact he)⟩
  | halt x w' => cases x <;> simp only [Oper.uponIn] at hh ⊢ <;> first | exact hh | exact hq _ _ _ (by simp) hh
theorem xEnum_sound (hro : F.round = none) (hF : Wd F) (hC : C.Ok) (hsel : Region.noSelect ⟨ops⟩ = true) (Q : Exit → Act → World → Prop) (hpan : ∀ c a w, ¬ Q (.panic c) a w) {K : St → Prop} {m0 : Mem} {β0 : Nm} {w0 : World} (hs0 : Sat β0 m0 w0) (hY : YOk C β0)
    (hQ : ∀ a' w', Ends bs C m0 β0 w0 K a' w' → Q .normal a' w') : ∀ (k : Nat) (listed : Array Bool) (σ : St) (β : Nm) (a : Act) (w : World) (fuel : Nat), xEnum C ops K k listed σ → fuel = cnt listed → Fit bs σ β a w → Since m0 β0 w0 σ.m β w →
    wpAnyIn F n C.P .any ⟨ops⟩ Q fuel listed a w
  | 0, _, _, _, _, _, _, h, _, _, _ => h.elim
  | k + 1, listed, σ, β, a, w, fuel, h, hfu, hf, hsi => by
    unfold xEnum at h
    have some_ : ∀ j, j ∈ Region.ready .any ⟨ops⟩ listed → ∃ f', fuel = f' + 1 ∧ f' = cnt (listed.setIfInBounds j true) ∧ (Region.ready .any ⟨ops⟩ listed).contains j = true := by
      intro j hj
      have h0 := (mem_ready.1 hj).1
      have hsz : j < listed.size := by
        rcases Nat.lt_or_ge j listed.size with h' | h'
        · exact h'
        · simp [Array.getD_eq_getD_getElem?, Array.getElem?_eq_none h'] at h0
      have h1 : listed.getD j false = false := by
        simp only [Array.getD_eq_getD_getElem?, Array.getElem?_eq_getElem hsz, Option.getD_some] at h0 ⊢
        exact h0
      have := cnt_set hsz h1
      exact ⟨cnt (listed.setIfInBounds j true), by omega, rfl, by simpa using hj⟩
    split at h
    · rename_i hr
      exact wpAnyIn_done hr (hQ a w ⟨σ, β, hf, hsi, h⟩) fuel
    · rename_i i rs hr
      split at h
      · rename_i j o hfd
        obtain ⟨hj, ho, hfree, hkd⟩ := tkFind_spec hfd
        rw [← hr] at hj
        obtain ⟨f', rfl, hf', hcon⟩ := some_ j hj
        obtain ⟨v, hy, σ', h1, h2, h3⟩ := xTk_sound h hf hkd
        exact wpAnyIn_take hro (by simpa using ho) hsel hfree hcon (fun c a w hq => absurd hq (hpan c _ w)) hy (xEnum_sound hro hF hC hsel Q hpan hs0 hY hQ k _ σ' β _ w f' h3 hf' h1 (by rw [h2]; exact hsi))
      · have hne : i :: rs ≠ [] := by simp
        obtain ⟨f0, hf0⟩ : ∃ f0, fuel = f0 + 1 := by
          obtain ⟨f', e, _⟩ := some_ i (by rw [hr]; simp)
          exact ⟨f', e⟩
        subst hf0
        refine wpAnyIn_all hr hne fun j hj => ?_
        have hx := allR_spec h j hj
        rw [← hr] at hj
        obtain ⟨f', e, hf', _⟩ := some_ j hj
        obtain rfl : f0 = f' := by omega
        split at hx
        · rename_i o ho
          have ho2 : (⟨ops⟩ : Array Oper)[j]? = some o := by simpa using ho
          have hW := xOps_sound (n := n) hC hF (ops := ⟨ops⟩) (all := ops) rfl [o] σ _ β a w hx hf (hY.le hsi.ext) (fun e a w => match e with
            | .normal => wpAnyIn F n C.P .any ⟨ops⟩ Q f0 (listed.setIfInBounds j true) a w
            | e => Q e a w) fun a2 w2 he => by
              obtain ⟨σ2, β2, e1, e2, e3⟩ := he
              exact xEnum_sound hro hF hC hsel Q hpan hs0 hY hQ k _ σ2 β2 a2 w2 f0 e3 hf' e1 (Since.trans hs0 hsi e2)
          unfold wpListIn at hW
          unfold wpOpIn
          rw [ho2]
          simp only
          split
          · rename_i hw
            rw [if_pos hw] at hW
            refine wpIn_q (fun e a w hne hq => ?_) hW
            cases e <;> first | exact absurd rfl hne | exact hq
          · rename_i hw
            rw [if_neg hw] at hW
            exact hW
        · exact hx.elim
theorem Fit.drawn {σ : St} (hf : Fit bs σ β a w) : Fit bs σ β a { w with drawn := w.drawn + 1 } ∧ Since σ.m β w σ.m β { w with drawn := w.drawn + 1 } := by
  refine ⟨⟨hf.tm, ⟨hf.sat.blk, hf.sat.inj, hf.sat.dom, hf.sat.gl, hf.sat.ng⟩, Marks.mono (w := w) (w' := { w with drawn := w.drawn + 1 }) (fun _ h => h) hf.df⟩, ?_⟩
  exact ⟨Nm.le_refl β, fun _ _ => rfl, Nat.le_refl _, fun q x h k => absurd (kq_lt k) (by omega), fun _ _ _ h => h, rfl, rfl, rfl, Nat.le_refl _, fun _ _ _ => rfl⟩
end

end Go.Proofs.YtoanempchbejhaaDoor.Rex
