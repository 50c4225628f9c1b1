/- A WALK BY COMPUTATION, part 17: slices that are read alone; short roads to contracts. Conditions: none. Own work. -/
import Derived.Test.YtlmhklaobfmhbaaRex16
namespace Go.Proofs.Ytlmhklaobfmhbaa.Rex
open Go.RowKit
set_option linter.unusedVariables false
set_option linter.unusedSimpArgs false

/-- a slice that is read alone: under which condition; its block's name; whether it is nil; where the rows begin; how many, of which capacity; of how many rows the block is; the rows -/
def rdS (sh : List Kd) (m : Mem) : SV → Option (Prop × Nat × Bool × Nat × Nat × Nat × Nat × List (Row sh))
  | .v (.one .nils) => some (True, m.length, true, 0, 0, 0, 0, [])
  | .v (.one (.rs z tg x base sz _ n c)) => match tg, mmOf m x with
    | 0, some (.rows ro z' sh' xs base' tot t) => match shEq sh' sh, Nat.beq sz sh.length with
      | some ⟨h⟩, true => some (n = xs.length ∧ z = z' ∧ base = base', x, z, base, n, c, tot, castR h xs)
      | _, _ => none
    | _, _ => none
  | _ => none

/-- .. is no more than what a reader is told -/
theorem rdS_le {sh : List Kd} {m : Mem} {s : SV} {q : Prop} {x : Nat} {z : Bool} {base n c tot : Nat} {xs : List (Row sh)} (h : rdS sh m s = some (q, x, z, base, n, c, tot, xs)) (hq : q) (i : Nat) {ρ : Rn} (hρ : ρ i = some x) (t : TypeId) {β : Nm} {v : Value} (hv : Has β s v) :
    Has (β.by ρ) (.v (.one (.rs z 0 i base sh.length 0 n c))) v ∧ bLe ρ (srcB m (some x)) (some (.rows true z sh xs base tot t)) ∧ n = xs.length := by
  unfold rdS at h
  split at h
  · cases h
    refine ⟨?_, ?_, rfl⟩
    · cases hv with
      | v hv => cases hv with
        | one hv => cases hv; exact .v (.one (.rs ⟨fun _ => rfl, Nat.le_refl _, .inl ⟨rfl, rfl, _, rfl⟩⟩))
    · have : srcB m (some m.length) = none := by
        unfold srcB mmOf
        simp
      rw [this]
      exact ⟨rfl, rfl⟩
  · split at h
    · rename_i ro z' sh' xs' base' tot' t' hmm
      split at h
      · rename_i hE hsh hsz
        cases h
        obtain ⟨h1, rfl, rfl⟩ := hq
        have hsz := Nat.eq_of_beq_eq_true hsz
        subst hsz
        subst hE
        refine ⟨?_, ?_, by rw [castR_rfl]; exact h1⟩
        · cases hv with
          | v hv => cases hv with
            | one hv => cases hv with
              | rs hv =>
                obtain ⟨e1, e2, e3⟩ := hv
                refine .v (.one (.rs ⟨fun _ => rfl, e2, ?_⟩))
                rcases e3 with e3 | ⟨q1, b, q2, q3⟩
                · exact .inl e3
                · rw [e1 rfl] at q3
                  exact .inr ⟨q1, b, by_some hρ q2, q3⟩
        · have : srcB m (some x) = some (.rows ro z sh' xs' base tot t') := hmm
          rw [this]
          have e1 : (roLe ro true && orT true (Nat.beq t' t)) = true := by cases ro <;> rfl
          simp only [bLe, e1, hsh]
          exact ⟨trivial, trivial, trivial, by rw [castR_rfl, List.take_length]⟩
      · cases h
    · cases h
  · cases h

/-! ### short roads -/
def allRo (q : Bool) : Mem → Bool
  | [] => true
  | none :: l => allRo q l
  | some b :: l => match q, b.isRo with
    | true, true => allRo q l
    | false, false => allRo q l
    | _, _ => false
theorem allRo_spec {q : Bool} : ∀ {l : Mem} {i : Nat} {b : Blk}, allRo q l = true → l[i]? = some (some b) → b.isRo = q
  | [], i, b, _, h => by simp at h
  | none :: l, 0, b, _, h => by simp at h
  | none :: l, i + 1, b, hq, h => allRo_spec (l := l) (i := i) hq (by simpa using h)
  | some c :: l, i, b, hq, h => by
    have h2 : c.isRo = q ∧ allRo q l = true := by
      unfold allRo at hq
      cases q <;> cases hc : c.isRo <;> rw [hc] at hq <;> first | exact ⟨rfl, hq⟩ | cases hq
    cases i with
    | zero => simp at h; subst h; exact h2.1
    | succ i => exact allRo_spec (l := l) (i := i) h2.2 (by simpa using h)
theorem roFrom_of {m : Mem} {n : Nat} (h : allRo true (m.drop n) = true) : roFrom m n := by
  intro i b hi hb
  refine allRo_spec (i := i - n) h ?_
  rw [List.getElem?_drop, show n + (i - n) = i by omega]; exact hb
theorem rwFrom_of {m : Mem} {n : Nat} (h : allRo false (m.drop n) = true) : rwFrom m n := by
  intro i b hi hb
  refine allRo_spec (i := i - n) h ?_
  rw [List.getElem?_drop, show n + (i - n) = i by omega]; exact hb

theorem getR_mem {sh : List Kd} {xs : List (Row sh)} {i : Nat} (h : i < xs.length) : getR xs i ∈ xs := List.mem_of_getElem? (getR_some h)

/-- each number of a row fits its kind -/
def rowWf : (sh : List Kd) → Row sh → Prop
  | [], _ => True
  | .int k :: l, r => (Lit.int k r.1).wf = true ∧ rowWf l r.2
  | .bool :: l, r => rowWf l r.2

/-- a function that makes a block and hands its address out -/
theorem msound_new {C : Ctx} (hC : C.Ok) {f : FuncId} {fn : Func} (hfn : C.P.funcs[f]? = some fn) (hname : (fn.name == "runtime.NumGoroutine") = false) (hbody : fn.body.isNone = false) {c : MC} {l : List Lf} {t : TypeId} {fuel : Nat} {L : Nat → Option LS}
    (hc : ∀ us m K, c us m K → us = [] ∧ K (.v (.one (.ptr m.length 0))) (m ++ [some (.cells (l.map (Lf.ren (back [] m.length))) t)]))
    (hg : goal C L fuel fn [] [] fun r m' => stLe 0 ⟨[r], m'⟩ ⟨[.v (.one (.ptr 0 0))], [some (.cells l t)]⟩) : MSound C.P f c := by
  refine msound_of hC hfn hname hbody ?_
  intro us m K h
  obtain ⟨rfl, hk⟩ := hc us m K h
  exact ⟨Unit, fun _ => True, L, fuel, [], [], [], [], fun _ => .v (.one (.ptr 0 0)), fun _ => [some (.cells l t)], _, ⟨rfl, rfl, roFrom_of rfl, fun _ => rwFrom_of rfl⟩, trivial, trivial, hg, fun r m' hr => ⟨(), trivial, hr⟩, fun _ _ => hk⟩

/-- a function that writes nothing that came in, and lays blocks -/
theorem msound_mk {C : Ctx} (hC : C.Ok) {f : FuncId} {fn : Func} (hfn : C.P.funcs[f]? = some fn) (hname : (fn.name == "runtime.NumGoroutine") = false) (hbody : fn.body.isNone = false) {c : MC}
    (h : ∀ us m K, c us m K → ∃ (E : Type) (ok : E → Prop) (L : Nat → Option LS) (fuel : Nat) (args : List SV) (res : E → SV) (mem : E → Mem) (R : SV → Mem → Prop), tmLe (fun i => ([] : List Nat)[i]?) us args ∧ (∀ e, allRo false (mem e) = true) ∧
      goal C L fuel fn args [] R ∧ (∀ r m', R r m' → ∃ e, ok e ∧ stLe 0 ⟨[r], m'⟩ ⟨[res e], mem e⟩) ∧ ∀ e, ok e → K ((res e).ren (back [] m.length)) (backM [] [] m (mem e))) : MSound C.P f c := by
  refine msound_of hC hfn hname hbody ?_
  intro us m K hc
  obtain ⟨E, ok, L, fuel, args, res, mem, R, h1, h2, h3, h4, h5⟩ := h us m K hc
  exact ⟨E, ok, L, fuel, [], [], args, [], res, mem, R, ⟨rfl, rfl, roFrom_of rfl, fun e => rwFrom_of (h2 e)⟩, h1, trivial, h3, h4, h5⟩

/-- an argument of a law: a slice that reads as rows -/
def SlArg (W : World) (sh : List Kd) (xs : List (Row sh)) (v : Value) : Prop := ∃ c, xs.length ≤ c ∧
  ((xs = [] ∧ ∃ q, v = .slice q 0 c) ∨ ∃ (b base : Nat) (vs : List Value) (t : TypeId) (fz : Nat × Nat), v = .slice (some ⟨b, base, none⟩) xs.length c ∧ W.heap[b]? = some (.cells ⟨vs⟩ t fz) ∧ RowsAt sh xs base xs.length vs)

/-- .. as the walk has it -/
theorem SlArg.open {W : World} {sh : List Kd} {xs : List (Row sh)} {v : Value} (h : SlArg W sh xs v) : ∃ (z : Bool) (b base c : Nat),
    (∀ β : Nm, ∀ i, β i = some b → Has β (.v (.one (.rs z 0 i base sh.length 0 xs.length c))) v) ∧ ∀ (β : Nm) (t : TypeId), Blk.dead (.rows true z sh xs base xs.length t) ∨ HasB β (.rows true z sh xs base xs.length t) W.heap[b]? := by
  obtain ⟨c, hc, h⟩ := h
  rcases h with ⟨rfl, q, rfl⟩ | ⟨b, base, vs, t, fz, rfl, hob, hR⟩
  · exact ⟨true, 0, 0, c, fun β i _ => .v (.one (.rs ⟨fun _ => rfl, Nat.zero_le _, .inl ⟨rfl, rfl, q, rfl⟩⟩)), fun β t => .inl ⟨rfl, rfl⟩⟩
  · exact ⟨false, b, base, c, fun β i hi => .v (.one (.rs ⟨fun _ => rfl, hc, .inr ⟨rfl, b, hi, by simp⟩⟩)), fun β t' => .inr ⟨rfl, vs, fz, t, hob, (fun e => by cases e), hR⟩⟩

/-- THE WALK OF A LAW OF ONE SLICE AND OF NUMBERS -/
theorem law_of1 {C : Ctx} (hC : C.Ok) {f : FuncId} {fn : Func} (hfn : C.P.funcs[f]? = some fn) {pre post : List SV} {vpre vpost : List Value} {sh : List Kd} {xs : List (Row sh)} {v : Value} {W : World} (hv : SlArg W sh xs v)
    (hpre : ∀ β : Nm, All₂ (Has β) pre vpre) (hpost : ∀ β : Nm, All₂ (Has β) post vpost) (t : TypeId)
    (h : ∀ z base c, ∃ L fuel, goal C L fuel fn (pre ++ .v (.one (.rs z 0 0 base sh.length 0 xs.length c)) :: post) [some (.rows true z sh xs base xs.length t)] fun r _ => svLe idR r (.v (.one (.bool false true)))) :
    Calls C.P f ⟨vpre ++ v :: vpost⟩ W fun e w' => e = .returned (.bool true) ∧ Ext W w' := by
  obtain ⟨z, b, base, c, h1, h2⟩ := hv.open
  let β : Nm := fun y => if y = 0 then some b else none
  have hb0 : β 0 = some b := rfl
  have hs : Sat β [some (.rows true z sh xs base xs.length t)] W := by
    refine ⟨fun x bl hx => ?_, ?_, fun x a hx => ?_⟩
    · cases x with
      | zero =>
        simp at hx
        subst hx
        exact (h2 β t).imp id fun h => ⟨b, hb0, h⟩
      | succ x => simp at hx
    · rintro x y a ⟨bl, hx, hr⟩
      cases x with
      | zero => simp at hx; subst hx; cases hr.1
      | succ x => simp at hx
    · show x < 1
      have : β x = some a := hx
      simp only [β] at this
      split at this
      · omega
      · cases this
  obtain ⟨L, fuel, hg⟩ := h z base c
  refine (calls_of_goal hC hfn hg ((hpre β).append (.cons (h1 β 0 hb0) (hpost β))) hs).mono ?_
  rintro e w' ⟨β', s, m', r, _, hsi, rfl, hr, hle⟩
  have hr' := svLe_has hle hr
  refine ⟨?_, hsi.toExt0 ?_⟩
  · cases hr' with
    | v hr' => cases hr' with
      | one hr' => cases hr'; rfl
  · rintro x ⟨bl, hx, hrw⟩
    cases x with
    | zero => simp at hx; subst hx; cases hrw.1
    | succ x => simp at hx

end Go.Proofs.Ytlmhklaobfmhbaa.Rex
