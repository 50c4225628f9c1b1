/- A WALK BY COMPUTATION, part 14: contracts from and for elsewhere; lists of contracts. Conditions: none. Own work. -/
import Derived.Test.YtceffompldihjaaRex13
namespace Go.Proofs.Ytceffompldihjaa.Rex
open Go.RowKit
set_option linter.unusedVariables false
set_option linter.unusedSimpArgs false

def valL : Lf → Option Value
  | .int k _ n => some (.int k n)
  | .bool _ b => some (.bool b)
  | .nilp => some (.pointer none)
  | .nils => some (.slice none 0 0)
  | .op v => match v.oneCell' with
    | true => some v
    | false => none
  | _ => none
def valV : Vv → Option Value
  | .one l => valL l
  | .agg l => match omap valL l with
    | some vs => some (.agg ⟨vs⟩)
    | none => none
def valS : SV → Option Value
  | .v x => valV x
  | .tup l => match omap valV l with
    | some vs => some (.tuple ⟨vs⟩)
    | none => none
  | _ => none

section
variable {β : Nm}
theorem valL_has {l : Lf} {v : Value} (h : valL l = some v) : HasL β l v ∧ ∀ γ u, HasL γ l u → u = v := by
  unfold valL at h
  split at h
  all_goals first
    | (cases h; done)
    | (cases h; refine ⟨by first | exact .int | exact .bool | exact .nilp | exact .nils, ?_⟩; intro γ u hu; cases hu; rfl)
    | skip
  split at h
  · rename_i hv
    cases h
    refine ⟨.op hv, ?_⟩
    intro γ u hu; cases hu; rfl
  · cases h
theorem omap_vals {A : Type} {f : A → Option Value} {R : Nm → A → Value → Prop} (hf : ∀ a v, f a = some v → R β a v ∧ ∀ γ u, R γ a u → u = v) : ∀ {l : List A} {vs : List Value}, omap f l = some vs → All₂ (R β) l vs ∧ ∀ γ us, All₂ (R γ) l us → us = vs
  | [], vs, h => by cases h; exact ⟨.nil, fun γ us hu => hu.nil_inv⟩
  | a :: l, vs, h => by
    unfold omap at h
    split at h
    · cases h
    · rename_i b hb
      split at h
      · cases h
      · rename_i bs hbs
        cases h
        obtain ⟨h1, h2⟩ := hf a b hb
        obtain ⟨h3, h4⟩ := omap_vals hf hbs
        refine ⟨.cons h1 h3, fun γ us hu => ?_⟩
        obtain ⟨u, us, rfl, k1, k2⟩ := hu.cons_inv
        rw [h2 γ u k1, h4 γ us k2]
theorem valV_has {x : Vv} {v : Value} (h : valV x = some v) : HasV β x v ∧ ∀ γ u, HasV γ x u → u = v := by
  unfold valV at h
  split at h
  · obtain ⟨h1, h2⟩ := valL_has (β := β) h
    exact ⟨.one h1, fun γ u hu => by cases hu with
      | one hu => exact h2 γ u hu⟩
  · split at h
    · rename_i vs hvs
      cases h
      obtain ⟨h1, h2⟩ := omap_vals (β := β) (R := fun γ => HasL γ) (fun a v e => valL_has e) hvs
      refine ⟨.agg h1, fun γ u hu => ?_⟩
      cases hu with
      | agg hu => rw [h2 γ _ hu]
    · cases h
theorem valS_has {x : SV} {v : Value} (h : valS x = some v) : Has β x v ∧ ∀ γ u, Has γ x u → u = v := by
  unfold valS at h
  split at h
  · obtain ⟨h1, h2⟩ := valV_has (β := β) h
    exact ⟨.v h1, fun γ u hu => by cases hu with
      | v hu => exact h2 γ u hu⟩
  · split at h
    · rename_i vs hvs
      cases h
      obtain ⟨h1, h2⟩ := omap_vals (β := β) (R := fun γ => HasV γ) (fun a v e => valV_has e) hvs
      refine ⟨.tup h1, fun γ u hu => ?_⟩
      cases hu with
      | tup hu => rw [h2 γ _ hu]
    · cases h
  · cases h
end

/-- a contract that was proved elsewhere -/
theorem fsound_calls {P : Program} {f : FuncId} {fn : Func} (hfn : P.funcs[f]? = some fn) (hname : (fn.name == "runtime.NumGoroutine") = false) (hbody : fn.body.isNone = false) {c : FC}
    (h : ∀ us p v, c us = some (p, v) → ob p → ∃ vals r, omap valS us = some vals ∧ valS v = some r ∧ ∀ w, Calls P f ⟨vals⟩ w fun e w' => e = .returned r ∧ Ext w w') : FSound P f c := by
  refine ⟨⟨fn, hfn, hname, hbody⟩, ?_⟩
  intro β us vals p v w _ hc hp hv
  obtain ⟨vals', r, h1, h2, h3⟩ := h us p v hc hp
  have := (omap_vals (β := β) (R := fun γ => Has γ) (fun a v e => valS_has e) h1).2 β vals hv
  subst this
  refine (h3 w).mono ?_
  rintro e w' ⟨rfl, hx⟩
  exact ⟨r, rfl, (valS_has h2).1, hx⟩

/-- a contract for elsewhere -/
theorem calls_of_fsound {P : Program} {f : FuncId} {c : FC} (h : FSound P f c) {us : List SV} {p : Option Prop} {v : SV} (hc : c us = some (p, v)) (hp : ob p) {vals : List Value} {r : Value} (h1 : omap valS us = some vals) (h2 : valS v = some r) (w : World) (hG : Glob w) :
    Calls P f ⟨vals⟩ w fun e w' => e = .returned r ∧ Ext w w' := by
  have hv := (omap_vals (β := fun _ => none) (R := fun γ => Has γ) (fun a v e => valS_has e) h1).1
  refine (h.2 _ us vals p v w hG hc hp hv).mono ?_
  rintro e w' ⟨u, rfl, hu, hx⟩
  exact ⟨by rw [(valS_has (β := fun _ => none) h2).2 _ u hu], hx⟩

theorem same_ext {P : Program} {f : FuncId} {args : Array Value} {w : World} {r : Value} (h : Calls P f args w fun e w' => e = .returned r ∧ w = w') : Calls P f args w fun e w' => e = .returned r ∧ Ext w w' :=
  h.mono fun e w' ⟨a, b⟩ => ⟨a, by rw [← b]; exact Ext.refl w⟩

def ΓOk (P : Program) (Γ : List (FuncId × FX)) : Prop := ∀ f c, (f, c) ∈ Γ → XSound P f c
theorem ΓOk.nil (P : Program) : ΓOk P [] := fun f c h => by simp at h
theorem ΓOk.cons {P : Program} {Γ : List (FuncId × FX)} {f : FuncId} {c : FX} (h : XSound P f c) (k : ΓOk P Γ) : ΓOk P ((f, c) :: Γ) := by
  intro g d hm
  rcases List.mem_cons.1 hm with e | hm
  · cases e; exact h
  · exact k g d hm

/-- exact: sums and the like are shown to stay in their kinds -/
def Mx : Md := ⟨fun _ => true, fun _ => true⟩
/-- round: they may go round -/
def Mw : Md := ⟨fun _ => false, fun _ => false⟩
/-- ints exact, the rest round -/
def Mi : Md := ⟨fun k => match k with
  | .i64 => true
  | _ => false, fun k => match k with
  | .i64 => true
  | _ => false⟩

theorem Ctx.ok_of {M : Md} {P : Program} {Γ : List (FuncId × FX)} (hm : P.follows .mixedOrders = true) (h : ΓOk P Γ) : Ctx.Ok ⟨M, P, Γ, [], [], none, false, [], none⟩ :=
  ⟨h, (fun f c hm => by simp at hm), (fun f c hm => by simp at hm), hm, fun h e => by cases e⟩

/-- no loop has a state of its own: each is carried out round by round -/
def noL : Nat → Option LS := fun _ => none

/-- from what is to be shown, in plain words, to the contract -/
theorem by_nf {p q : Prop} (h : p = q) (k : q) : p := h ▸ k

end Go.Proofs.Ytceffompldihjaa.Rex
