/- A WALK BY COMPUTATION, part 5: a quiet operation does what was computed. Conditions: none. Own work. -/
import Derived.Test.YtceffompldihjaaRex4
import Derived.OrdersIn
import Derived.TacticsIn
namespace Go.Proofs.Ytceffompldihjaa.Rex
open Go.RowKit
set_option linter.unusedVariables false
set_option linter.unusedSimpArgs false

/-- the whole program is let in; a round of a loop, or none -/
def Wd (F : Fence) : Prop := F.plain = Fence.wide
theorem wd_wide : Wd Fence.wide := rfl
section
variable {F : Fence} (h : Wd F)
include h
theorem Wd.inRound (l : Nat) : Wd (F.inRound l) := h
theorem Wd.fn (f : FuncId) : F.fn f := by
  have : F.plain.fn = Fence.wide.fn := congrArg Fence.fn (show F.plain = Fence.wide from h)
  show F.plain.fn f
  rw [this]; exact trivial
theorem Wd.depth : F.depth.isSome = true → ∀ {n : Nat}, 1 ≤ n := by
  have : F.plain.depth = Fence.wide.depth := congrArg Fence.depth (show F.plain = Fence.wide from h)
  show F.plain.depth.isSome = true → _
  rw [this]; intro e; cases e
theorem Wd.calls {n : Nat} {P : Program} {f : FuncId} {args : Array Value} {w : World} {R : Ending → World → Prop} (hc : Calls P f args w R) : CallsIn F n P f args w R := by
  have : CallsIn F.plain n P f args w R := by rw [show F.plain = Fence.wide from h]; exact callsIn_wide.2 hc
  exact this
theorem Wd.of_calls {n : Nat} {P : Program} {f : FuncId} {args : Array Value} {w : World} {R : Ending → World → Prop} (hc : CallsIn F n P f args w R) : Calls P f args w R := by
  have h1 : CallsIn F.plain n P f args w R := hc
  rw [show F.plain = Fence.wide from h] at h1
  exact callsIn_wide.1 h1
end

/-- the operation o, in the state a, w, ends in a value and a world of which R holds -/
def Doe (P : Program) (o : Oper) (a : Act) (w : World) (R : Value → World → Prop) : Prop :=
  ∀ (F : Fence) (n : Nat), Wd F → ∀ (next : Act → World → Prop) (Q : Exit → Act → World → Prop), (∀ v w', R v w' → next (a.put o.dst v) w') → o.wpIn F n P a w next Q

section
variable {P : Program} {o : Oper} {a : Act} {w : World} {R : Value → World → Prop}

theorem semAt_eq {r : Option Nat} {ρ : Operand → Value} {x : Next} {w' : World} (h : (execOp ρ o).run P w = .ok x w') (hx : ∀ d, x ≠ .defer d) : o.semAt r ρ = execOp ρ o := by
  cases r with
  | none => exact Oper.semAt_none ..
  | some l =>
    apply Oper.semAt_some
    intro c hc
    rw [execOp, hc] at h
    simp only [Sem.run_bind] at h
    cases hr : (resolve ρ c o.type).run P w with
    | ok d w1 =>
      rw [hr] at h
      simp only [Result.andThen_ok, Sem.run_pure] at h
      cases h
      exact hx _ rfl
    | halt x w1 =>
      rw [hr] at h
      cases h
theorem doe_in {F : Fence} {n : Nat} (hF : Wd F) {x : Next} {w' : World} (h : (execOp a.eval o).run P w = .ok x w') (hx : ∀ d, x ≠ .defer d) {next : Act → World → Prop} {Q : Exit → Act → World → Prop} (hk : o.uponIn F n P a next Q (.ok x w')) : o.wpIn F n P a w next Q := by
  refine ⟨fun f _ => hF.fn f, ?_⟩
  rw [semAt_eq h hx, h]
  exact hk
theorem doe_run {v : Value} {w' : World} (h : (execOp a.eval o).run P w = .ok (.value v) w') (hR : R v w') : Doe P o a w R :=
  fun F n hF next Q hn => doe_in hF h (fun d e => by cases e) (hn _ _ hR)
theorem doe_skip {w' : World} (h : (execOp a.eval o).run P w = .ok .skip w') (hR : R undef w') : Doe P o a w R :=
  fun F n hF next Q hn => doe_in hF h (fun d e => by cases e) (hn _ _ hR)
theorem doe_call {f : FuncId} {args : Array Value} (h : (execOp a.eval o).run P w = .ok (.enter f args) w) (hc : Calls P f args w fun e w' => ∃ r, e = .returned r ∧ R r w') : Doe P o a w R := by
  intro F n hF next Q hn
  refine doe_in hF h (fun d e => by cases e) ⟨fun e => hF.depth e, hF.calls (hc.mono ?_)⟩
  rintro e w' ⟨r, rfl, hr⟩
  exact hn _ _ hr
/-- an operation that yields what s yields -/
theorem doe_v {s : Sem Value} (he : execOp a.eval o = (do let x ← s; pure (.value x))) {v : Value} {w' : World} (hs : s.run P w = .ok v w') (hR : R v w') : Doe P o a w R :=
  doe_run (by rw [he, Sem.run_bind, hs]; rfl) hR
end

structure EOk (β : Nm) (E : Env) (a : Act) (w : World) : Prop where
  ev : ∀ x s, E.ev x = some s → Has β s (a.eval x)
  mm : ∀ x b, E.mm x = some b → b.dead ∨ ∃ k, β x = some k ∧ HasB β b w.heap[k]?
  gl : Glob w
  ng : ∀ x l t k, E.mm x = some (.cells l t) → β x = some k → NG k
theorem EOk.cells {β : Nm} {E : Env} {a : Act} {w : World} (h : EOk β E a w) {x : Nat} {l : List Lf} {t : TypeId} (e : E.mm x = some (.cells l t)) : ∃ k, β x = some k ∧ HasB β (.cells l t) w.heap[k]? := (h.mm x _ e).resolve_left id

/-- what a quiet operation leaves -/
def Left (β : Nm) (w : World) (nm : Nat) (s : SV) (r : Value) (w' : World) : Option Blk → Prop
  | none => Has β s r ∧ Ext w w'
  | some b => ∃ obj, w' = w.alloc obj ∧ HasB (β.set nm w.heap.size) b (some obj) ∧ Has (β.set nm w.heap.size) s r

section
variable {M : Md} {P : Program} {Γ : List (FuncId × FX)} {E : Env} {nm : Nat} {o : Oper} {p : Option Prop} {s : SV} {bl : Option Blk} {β : Nm} {a : Act} {w : World}

theorem addr_add (b off n : Nat) : (⟨b, off, none⟩ : Addr).add n = ⟨b, off + n, none⟩ := by
  unfold Addr.add; split <;> simp_all

theorem zeroL_run {t : TypeId} {l : List Lf} (h : zeroL P t = some l) : ∃ z vs, (zeroValue t).run P w = .ok z w ∧ z.cells = ⟨vs⟩ ∧ All₂ (HasL β) l vs := by
  unfold zeroL at h
  split at h
  · rename_i i hi
    split at h
    · rename_i z hz
      have := omap_all (g := id) (R := HasL β) (fun a b e => ofLeaf_has e) h
      rw [List.map_id] at this
      exact ⟨z, z.cells.toList, by simp [zeroValue, typeInfo, hi, hz], rfl, this⟩
    · cases h
  · cases h

theorem placesL_run : ∀ {fs : List Field} {l : List (Nat × Nat)}, placesL P fs = some l → (fs.mapM fun f => (do pure (f.offset, ← sizeOf f.type) : Sem (Nat × Nat))).run P w = .ok l w
  | [], l, h => by cases h; rfl
  | f :: fs, l, h => by
    unfold placesL at h
    split at h
    · rename_i n hn
      split at h
      · rename_i l' hl
        cases h
        rw [List.mapM_cons]
        simp only [Sem.run_bind, run_sizeOf' hn, Result.andThen_ok, placesL_run hl, Sem.run_pure]
      · cases h
    · cases h

theorem all₂_map {A B D : Type} {R : A → B → Prop} {f : D → A} {g : D → B} : ∀ {l : List D}, (∀ i ∈ l, R (f i) (g i)) → All₂ R (l.map f) (l.map g)
  | [], _ => .nil
  | i :: l, h => .cons (h i (by simp)) (all₂_map fun j hj => h j (by simp [hj]))

theorem zeroRow_run {e : TypeId} {m : Nat} {l : List Lf} (h : zeroRow P e m = some l) : ∃ zs : Array Value, ((if m = 0 then pure #[] else do pure (← zeroValue e).cells : Sem (Array Value)).run P w = .ok zs w) ∧ All₂ (HasL β) l ((Array.range m).map (fun i => zs[i % zs.size]!)).toList := by
  cases m with
  | zero =>
    cases h
    exact ⟨#[], by simp, by simpa using All₂.nil⟩
  | succ m =>
    unfold zeroRow at h
    simp only at h
    split at h
    · rename_i a z hz
      cases h
      obtain ⟨zv, vs, hr, hc, hv⟩ := zeroL_run (P := P) (w := w) (β := β) hz
      refine ⟨⟨vs⟩, by simp [hr, hc], ?_⟩
      have e1 : ((Array.range (m + 1)).map (fun i => (⟨vs⟩ : Array Value)[i % (⟨vs⟩ : Array Value).size]!)).toList = (List.range (m + 1)).map (fun i => (⟨vs⟩ : Array Value)[i % (⟨vs⟩ : Array Value).size]!) := by simp [Array.toList_range]
      rw [e1]
      refine all₂_map fun i _ => ?_
      have hl := hv.length
      have hlt : i % (a :: z).length < (a :: z).length := Nat.mod_lt _ (by simp)
      obtain ⟨v, hv1, hv2⟩ := hv.get (List.getElem?_eq_getElem hlt)
      have e2 : (a :: z).getD (i % (a :: z).length) .nilp = (a :: z)[i % (a :: z).length] := by
        rw [List.getD_eq_getElem?_getD, List.getElem?_eq_getElem hlt]; rfl
      rw [e2]
      have e3 : (⟨vs⟩ : Array Value)[i % (⟨vs⟩ : Array Value).size]! = v := by
        have : (⟨vs⟩ : Array Value).size = (a :: z).length := by simpa using hl
        rw [this]
        have hlt' : i % (a :: z).length < (⟨vs⟩ : Array Value).size := by rw [this]; exact hlt
        rw [getElem!_pos (⟨vs⟩ : Array Value) (i % (a :: z).length) hlt']
        have := hv1
        rw [List.getElem?_eq_some_iff] at this
        obtain ⟨_, h3⟩ := this
        exact h3
      rw [e3]; exact hv2
    · cases h

theorem foldl_splice (off : Nat) : ∀ (vs : List Value) (j : Nat) (cs : List Value), off + j + vs.length ≤ cs.length →
    ((vs.zipIdx j).foldl (fun (cs : Array Value) (x : Value × Nat) => cs.setIfInBounds (off + x.2) x.1) ⟨cs⟩) = ⟨cs.take (off + j) ++ (vs ++ cs.drop (off + j + vs.length))⟩
  | [], j, cs, h => by simp
  | v :: vs, j, cs, h => by
    simp only [List.zipIdx_cons, List.foldl_cons, List.setIfInBounds_toArray]
    simp only [List.length_cons] at h
    rw [foldl_splice off vs (j + 1) (cs.set (off + j) v) (by simp; omega)]
    congr 1
    have hlt : off + j < cs.length := by omega
    rw [← Nat.add_assoc, List.take_set, List.take_add_one, List.drop_set_of_lt (by omega)]
    simp only [List.getElem?_eq_getElem hlt, Option.toList_some, List.length_cons]
    rw [List.set_append_right _ _ (by simp; omega)]
    have : off + j - (List.take (off + j) cs).length = 0 := by simp; omega
    rw [this]
    simp
    congr 1
    omega

theorem fillL_fill {place : Nat → Option (Nat × Nat)} : ∀ {parts : List (Nat × Vv)} {cs l : List Lf} {us : List Value} {qs : List (Nat × Value)}, fillL place cs parts = some l → All₂ (HasL β) cs us →
    All₂ (fun (x : Nat × Vv) (y : Nat × Value) => x.1 = y.1 ∧ HasV β x.2 y.2) parts qs → ∃ vs, Instr.fill place ⟨us⟩ qs = some ⟨vs⟩ ∧ All₂ (HasL β) l vs
  | [], cs, l, us, qs, h, hc, hq => by
    cases h
    rw [hq.nil_inv]
    exact ⟨us, rfl, hc⟩
  | (i, v) :: rest, cs, l, us, qs, h, hc, hq => by
    obtain ⟨⟨j, u⟩, qs', rfl, ⟨e, hv⟩, hq'⟩ := hq.cons_inv
    simp only at e hv
    subst e
    unfold fillL at h
    unfold Instr.fill
    split at h
    · cases h
    · rename_i off size hpl
      split at h
      · cases h
      · rename_i hb
        simp only [Bool.or_eq_false_iff, decide_eq_false_iff_not, Decidable.not_not, Nat.not_lt] at hb
        obtain ⟨b1, b2⟩ := hb
        obtain ⟨vs, hvs, hav⟩ := hv.cells
        have l1 := hav.length
        have l2 := hc.length
        simp only [hpl, hvs, List.size_toArray]
        rw [if_neg (by simp; omega)]
        have hz : (Array.zipIdx (⟨vs⟩ : Array Value)) = ⟨vs.zipIdx⟩ := by simp
        rw [hz]
        have := foldl_splice off vs 0 us (by omega)
        simp only [List.foldl_toArray] at this ⊢
        rw [this]
        refine fillL_fill h ?_ hq'
        unfold splice
        rw [← l1]
        exact (hc.take _).append (hav.append (hc.drop _))

theorem buildL_run {t : TypeId} {parts : List (Nat × Vv)} {qs : List (Nat × Value)} {l : List Lf} (h : buildL P t parts = some l) (hq : All₂ (fun (x : Nat × Vv) (y : Nat × Value) => x.1 = y.1 ∧ HasV β x.2 y.2) parts qs) :
    ∃ vs, (Instr.build t ⟨qs⟩).run P w = .ok (.agg ⟨vs⟩) w ∧ All₂ (HasL β) l vs := by
  unfold buildL at h
  split at h
  · cases h
  · rename_i z hz
    obtain ⟨zv, zs, hzr, hzc, hza⟩ := zeroL_run (P := P) (w := w) (β := β) hz
    split at h
    · rename_i fs hu
      split at h
      · rename_i pl hpl
        obtain ⟨vs, hf, hv⟩ := fillL_fill h hza hq
        refine ⟨vs, ?_, hv⟩
        simp only [Instr.build, Sem.run_bind, hzr, Result.andThen_ok, run_underlying hu, Array.mapM_eq_mapM_toList, Sem.run_map, placesL_run hpl]
        simp only [Sem.run_bind, placesL_run hpl, Result.andThen_ok, hzc, Sem.run_map, List.getElem?_toArray, hf, Sem.run_pure]
      · cases h
    · rename_i n e hu
      split at h
      · rename_i n hn
        obtain ⟨vs, hf, hv⟩ := fillL_fill h hza hq
        refine ⟨vs, ?_, hv⟩
        simp only [Instr.build, Sem.run_bind, hzr, Result.andThen_ok, run_underlying hu, run_sizeOf' hn, hzc, hf, Sem.run_pure]
      · cases h
    · cases h
end
end Go.Proofs.Ytceffompldihjaa.Rex
