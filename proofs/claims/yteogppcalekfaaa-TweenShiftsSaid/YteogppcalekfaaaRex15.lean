/- A WALK BY COMPUTATION, part 15: contracts of functions that read, and may write, one block that comes in as the first argument. Conditions: none. Own work. -/
import Derived.Test.YteogppcalekfaaaRex14
namespace Go.Proofs.Yteogppcalekfaaa.Rex
open Go.RowKit
set_option linter.unusedVariables false
set_option linter.unusedSimpArgs false

/-- an address, or a slice, of a block under whatever name -/
inductive Hd : (Nat → SV) → Prop where
  | ptr (off : Nat) : Hd fun x => .v (.one (.ptr x off))
  | sl (off : Nat) (kn : Bool) (n c : Nat) : Hd fun x => .v (.one (.sl x off kn n c))

theorem Hd.has {hd : Nat → SV} (h : Hd hd) {β γ : Nm} {x y k : Nat} (hx : β x = some k) (hy : γ y = some k) {v : Value} (hv : Has β (hd x) v) : Has γ (hd y) v := by
  cases h with
  | ptr off => cases hv with
    | v hv => cases hv with
      | one hv => cases hv with
        | ptr e => rw [hx] at e; cases e; exact .v (.one (.ptr hy))
  | sl off kn n c => cases hv with
    | v hv => cases hv with
      | one hv => cases hv with
        | sl e => rw [hx] at e; cases e; exact .v (.one (.sl hy))

def headIs (m : Mem) (l : List Lf) (t : TypeId) : Prop := match m with
  | some (.cells l' t') :: _ => ifB (Nat.beq t' t) (lfsLe l' l)
  | _ => False

theorem headIs_spec {m : Mem} {l : List Lf} {t : TypeId} (h : headIs m l t) : ∃ l', m[0]? = some (some (.cells l' t)) ∧ lfsLe l' l := by
  unfold headIs at h
  split at h
  · obtain ⟨h1, h2⟩ := ifB_spec h
    have := Nat.eq_of_beq_eq_true h1
    subst this
    exact ⟨_, rfl, h2⟩
  · exact h.elim

theorem mmOf_spec {m : Mem} {x : Nat} {b : Blk} (h : mmOf m x = some b) : m[x]? = some (some b) := by
  unfold mmOf at h
  split at h
  · cases h; assumption
  · cases h

theorem msound_of1 {C : Ctx} (hC : C.Ok) {f : FuncId} {fn : Func} (hfn : C.P.funcs[f]? = some fn) (hname : (fn.name == "runtime.NumGoroutine") = false) (hbody : fn.body.isNone = false) {c : MC} (hd : Nat → SV) (hhd : Hd hd)
    (h : ∀ us m K, c us m K → ∃ L fuel x rest rest' l l' t res new, us = hd x :: rest ∧ mmOf m x = some (.cells l t) ∧ tmLe rest rest' ∧ lfsLe l l' ∧ rest'.all pf = true ∧ l'.all pfL = true ∧ pf res = true ∧ new.all pfL = true ∧
      goal C L fuel fn (hd 0 :: rest') [some (.cells l' t)] (fun r m' => svLe r res ∧ headIs m' new t) ∧ K res (m.set x (some (.cells new t)))) : MSound C.P f c := by
  refine ⟨⟨fn, hfn, hname, hbody⟩, ?_⟩
  intro β args vals m w K hc hv hs
  obtain ⟨L, fuel, x, rest, rest', l, l', t, res, new, rfl, hm, hr, hl, hpr, hpl, hpres, hpn, hg, hk⟩ := h args m K hc
  have hmx := mmOf_spec hm
  obtain ⟨k, hbk, us, hob, hus⟩ := hs.blk x _ hmx
  obtain ⟨v0, vs, rfl, hv0, hvs⟩ := hv.cons_inv
  let γ : Nm := fun y => if y = 0 then some k else none
  have h0 : γ 0 = some k := rfl
  have hsat : Sat γ [some (.cells l' t)] w := by
    refine ⟨fun y b hy => ?_, ?_, fun y a hy => ?_⟩
    · cases y with
      | zero =>
        simp at hy
        subst hy
        exact ⟨k, rfl, us, hob, pfLs_has hpl (lfsLe_has hl hus)⟩
      | succ y => simp at hy
    · intro y z a hy hz _ _
      have := known_lt hy
      have := known_lt hz
      simp at *
      omega
    · show y < 1
      have : γ y = some a := hy
      simp only [γ] at this
      split at this
      · omega
      · cases this
  have hargs : All₂ (Has γ) (hd 0 :: rest') (v0 :: vs) := .cons (hhd.has hbk h0 hv0) (pfs_has hpr (tmLe_has hr hvs))
  refine (calls_of_goal hC hfn hg hargs hsat).mono ?_
  rintro e w' ⟨β', v, m', r, hs', hsin, rfl, hr', hsv, hhead⟩
  obtain ⟨l2, hm2, hle2⟩ := headIs_spec hhead
  have hk0 : β' 0 = some k := hsin.ext 0 k h0
  obtain ⟨k2, hk2, us2, hob2, hus2⟩ := hs'.blk 0 _ hm2
  rw [hk0] at hk2; cases hk2
  have hframe : ∀ i, i < w.heap.size → i ≠ k → w'.heap[i]? = w.heap[i]? := by
    intro i hi hne
    refine hsin.frame i hi fun y hy => ?_
    have := known_lt hy
    simp at this
    subst this
    rw [h0]
    intro e
    cases e
    exact hne rfl
  refine ⟨β, res, m.set x (some (.cells new t)), r, ?_, ?_, rfl, pf_has hpres (svLe_has hsv hr'), hk⟩
  · refine ⟨fun y b hy => ?_, ?_, fun y a hy => by simpa using hs.dom y a hy⟩
    · rcases getElem?_set_some hy with ⟨rfl, rfl⟩ | ⟨hne, hy⟩
      · exact ⟨k, hbk, us2, hob2, pfLs_has hpn (lfsLe_has hle2 hus2)⟩
      · obtain ⟨a, ha, hB⟩ := hs.blk y b hy
        refine ⟨a, ha, ?_⟩
        rw [hframe a (hs.lt ⟨b, hy⟩ ha) fun e => hne (hs.inj y x a ⟨_, hy⟩ ⟨_, hmx⟩ ha (by rw [e]; exact hbk))]
        exact hB
    · rintro y z a ⟨b, hb⟩ ⟨d, hd'⟩ hy hz
      have key : ∀ (y : Nat) (c : Blk), (m.set x (some (.cells new t)))[y]? = some (some c) → known m y := by
        intro y c hc
        rcases getElem?_set_some hc with ⟨rfl, rfl⟩ | ⟨hne, hy⟩
        · exact ⟨_, hmx⟩
        · exact ⟨_, hy⟩
      exact hs.inj y z a (key y b hb) (key z d hd') hy hz
  · refine ⟨Nm.le_refl β, by simp, ?_, ?_, hsin.os, hsin.tape, hsin.output, hsin.size, ?_⟩
    · intro y hy hk
      have := known_lt hk
      simp at this
      omega
    · rintro y hy ⟨b, hb⟩
      rcases getElem?_set_some hb with ⟨rfl, rfl⟩ | ⟨hne, hy⟩
      · exact ⟨_, hmx⟩
      · exact ⟨_, hy⟩
    · intro i hi hf
      exact hframe i hi fun e => hf x ⟨_, hmx⟩ (by rw [hbk, e])

def ΔOk (P : Program) (Δ : List (FuncId × MC)) : Prop := ∀ f c, (f, c) ∈ Δ → MSound P f c
theorem ΔOk.nil (P : Program) : ΔOk P [] := fun f c h => by simp at h
theorem ΔOk.cons {P : Program} {Δ : List (FuncId × MC)} {f : FuncId} {c : MC} (h : MSound P f c) (k : ΔOk P Δ) : ΔOk P ((f, c) :: Δ) := by
  intro g d hm
  rcases List.mem_cons.1 hm with e | hm
  · cases e; exact h
  · exact k g d hm
theorem Ctx.ok_of2 {M : Md} {P : Program} {Γ : List (FuncId × FC)} {Δ : List (FuncId × MC)} (hm : P.follows .mixedOrders = true) (h : ΓOk P Γ) (k : ΔOk P Δ) : Ctx.Ok ⟨M, P, Γ, Δ⟩ :=
  ⟨h, k, hm⟩

end Go.Proofs.Yteogppcalekfaaa.Rex
