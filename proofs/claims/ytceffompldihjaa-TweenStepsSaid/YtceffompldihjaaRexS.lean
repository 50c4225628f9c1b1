/- A WALK BY COMPUTATION, part 17: slices that are read alone; short roads to contracts. Conditions: none. Own work. -/
import Derived.Test.YtceffompldihjaaRex16
namespace Go.Proofs.Ytceffompldihjaa.Rex
open Go.RowKit
set_option linter.unusedVariables false
set_option linter.unusedSimpArgs false

/-- a slice that is read alone: under which condition; its block's name; whether it is nil; where the rows begin; how many, of which capacity; of how many rows the block is; the rows -/
def rdS (sh : List Kd) (m : Mem) : SV → Option (Prop × Nat × Bool × Nat × Nat × Nat × Nat × List (Row sh))
  | .v (.one .nils) => some (True, m.length, true, 0, 0, 0, 0, [])
  | .v (.one (.rs z tg x base sz _ n c)) => match tg, mmOf m x with
    | 0, some (.rows ro z' sh' xs base' tot t) => match shEq sh' sh, Nat.beq sz sh.length with
      | some ⟨h⟩, true => some (n = xs.length ∧ z = z' ∧ base = base', x, z, base, n, c, tot, castR h xs)
      | _, _ => none
    | _, _ => none
  | _ => none

/-- .. is no more than what a reader is told -/
theorem All₂.split {A B : Type} {R : A → B → Prop} : ∀ {l l' : List A} {m : List B}, All₂ R (l ++ l') m → ∃ m1 m2, m = m1 ++ m2 ∧ All₂ R l m1 ∧ All₂ R l' m2
  | [], l', m, h => ⟨[], m, rfl, .nil, h⟩
  | a :: l, l', m, h => by
    obtain ⟨b, m, rfl, h1, h2⟩ := All₂.cons_inv (show All₂ R (a :: (l ++ l')) m from h)
    obtain ⟨m1, m2, rfl, h3, h4⟩ := All₂.split h2
    exact ⟨b :: m1, m2, rfl, .cons h1 h3, h4⟩
theorem rdS_le {sh : List Kd} {m : Mem} {s : SV} {q : Prop} {x : Nat} {z : Bool} {base n c tot : Nat} {xs : List (Row sh)} (h : rdS sh m s = some (q, x, z, base, n, c, tot, xs)) (hq : q) (i : Nat) {ρ : Rn} (hρ : ρ i = some x) (t : TypeId) :
    (∀ (β : Nm) (v : Value), Has β s v → Has (β.by ρ) (.v (.one (.rs z 0 i base sh.length 0 n c))) v) ∧ bLe ρ (srcB m (some x)) (some (.rows true z sh xs base tot t)) ∧ n = xs.length := by
  unfold rdS at h
  split at h
  · cases h
    refine ⟨?_, ?_, rfl⟩
    · intro β v hv
      cases hv with
      | v hv => cases hv with
        | one hv => cases hv; exact .v (.one (.rs ⟨fun _ => rfl, Nat.le_refl _, .inl ⟨rfl, rfl, _, rfl⟩⟩))
    · have : srcB m (some m.length) = none := by
        unfold srcB mmOf
        simp
      rw [this]
      exact ⟨rfl, rfl⟩
  · split at h
    · rename_i ro z' sh' xs' base' tot' t' hmm
      split at h
      · rename_i hE hsh hsz
        cases h
        obtain ⟨h1, rfl, rfl⟩ := hq
        have hsz := Nat.eq_of_beq_eq_true hsz
        subst hsz
        subst hE
        refine ⟨?_, ?_, by rw [castR_rfl]; exact h1⟩
        · intro β v hv
          cases hv with
          | v hv => cases hv with
            | one hv => cases hv with
              | rs hv =>
                obtain ⟨e1, e2, e3⟩ := hv
                refine .v (.one (.rs ⟨fun _ => rfl, e2, ?_⟩))
                rcases e3 with e3 | ⟨q1, b, q2, q3⟩
                · exact .inl e3
                · rw [e1 rfl] at q3
                  exact .inr ⟨q1, b, by_some hρ q2, q3⟩
        · have : srcB m (some x) = some (.rows ro z sh' xs' base tot t') := hmm
          rw [this]
          have e1 : (roLe ro true && orT true (Nat.beq t' t)) = true := by cases ro <;> rfl
          simp only [bLe, e1, hsh]
          exact ⟨trivial, trivial, trivial, by rw [castR_rfl, List.take_length]⟩
      · cases h
    · cases h
  · cases h

/-! ### short roads -/
def allRo (q : Bool) : Mem → Bool
  | [] => true
  | none :: l => allRo q l
  | some b :: l => match q, b.isRo with
    | true, true => allRo q l
    | false, false => allRo q l
    | _, _ => false
theorem allRo_spec {q : Bool} : ∀ {l : Mem} {i : Nat} {b : Blk}, allRo q l = true → l[i]? = some (some b) → b.isRo = q
  | [], i, b, _, h => by simp at h
  | none :: l, 0, b, _, h => by simp at h
  | none :: l, i + 1, b, hq, h => allRo_spec (l := l) (i := i) hq (by simpa using h)
  | some c :: l, i, b, hq, h => by
    have h2 : c.isRo = q ∧ allRo q l = true := by
      unfold allRo at hq
      cases q <;> cases hc : c.isRo <;> rw [hc] at hq <;> first | exact ⟨rfl, hq⟩ | cases hq
    cases i with
    | zero => simp at h; subst h; exact h2.1
    | succ i => exact allRo_spec (l := l) (i := i) h2.2 (by simpa using h)
theorem roFrom_of {m : Mem} {n : Nat} (h : allRo true (m.drop n) = true) : roFrom m n := by
  intro i b hi hb
  refine allRo_spec (i := i - n) h ?_
  rw [List.getElem?_drop, show n + (i - n) = i by omega]; exact hb
theorem rwFrom_of {m : Mem} {n : Nat} (h : allRo false (m.drop n) = true) : rwFrom m n := by
  intro i b hi hb
  refine allRo_spec (i := i - n) h ?_
  rw [List.getElem?_drop, show n + (i - n) = i by omega]; exact hb

theorem getR_mem {sh : List Kd} {xs : List (Row sh)} {i : Nat} (h : i < xs.length) : getR xs i ∈ xs := List.mem_of_getElem? (getR_some h)

/-- each number of a row fits its kind -/
def rowWf : (sh : List Kd) → Row sh → Prop
  | [], _ => True
  | .int k :: l, r => (Lit.int k r.1).wf = true ∧ rowWf l r.2
  | .bool :: l, r => rowWf l r.2

/-- a function that makes a block and hands its address out -/
theorem msound_new {C : Ctx} (hC : C.Ok) {f : FuncId} {fn : Func} (hfn : C.P.funcs[f]? = some fn) (hname : (fn.name == "runtime.NumGoroutine") = false) (hbody : fn.body.isNone = false) {c : MC} {l : List Lf} {t : TypeId} {fuel : Nat} {L : Nat → Option LS}
    (hc : ∀ us m K, c us m K → us = [] ∧ K (.v (.one (.ptr m.length 0))) (m ++ [some (.cells (l.map (Lf.ren (back [] m.length))) t)]))
    (hg : goal C L fuel fn [] [] fun r m' => stLe 0 ⟨[r], m'⟩ ⟨[.v (.one (.ptr 0 0))], [some (.cells l t)]⟩) : MSound C.P f c := by
  refine msound_of hC hfn hname hbody ?_
  intro us m K h
  obtain ⟨rfl, hk⟩ := hc us m K h
  exact ⟨Unit, fun _ => True, L, fuel, [], [], [], [], fun _ => .v (.one (.ptr 0 0)), fun _ => [some (.cells l t)], _, ⟨rfl, rfl, roFrom_of rfl, fun _ => rwFrom_of rfl⟩, trivial, trivial, hg, fun r m' hr => ⟨(), trivial, hr⟩, fun _ _ => hk⟩

/-- a function that writes nothing that came in, and lays blocks -/
theorem msound_mk {C : Ctx} (hC : C.Ok) {f : FuncId} {fn : Func} (hfn : C.P.funcs[f]? = some fn) (hname : (fn.name == "runtime.NumGoroutine") = false) (hbody : fn.body.isNone = false) {c : MC}
    (h : ∀ us m K, c us m K → ∃ (E : Type) (ok : E → Prop) (L : Nat → Option LS) (fuel : Nat) (args : List SV) (res : E → SV) (mem : E → Mem) (R : SV → Mem → Prop), tmLe (fun i => ([] : List Nat)[i]?) us args ∧ (∀ e, allRo false (mem e) = true) ∧
      goal C L fuel fn args [] R ∧ (∀ r m', R r m' → ∃ e, ok e ∧ stLe 0 ⟨[r], m'⟩ ⟨[res e], mem e⟩) ∧ ∀ e, ok e → K ((res e).ren (back [] m.length)) (backM [] [] m (mem e))) : MSound C.P f c := by
  refine msound_of hC hfn hname hbody ?_
  intro us m K hc
  obtain ⟨E, ok, L, fuel, args, res, mem, R, h1, h2, h3, h4, h5⟩ := h us m K hc
  exact ⟨E, ok, L, fuel, [], [], args, [], res, mem, R, ⟨rfl, rfl, roFrom_of rfl, fun e => rwFrom_of (h2 e)⟩, h1, trivial, h3, h4, h5⟩

theorem pfs_by {β γ : Nm} {l l' : List SV} {vs : List Value} (h : tmLe idR l l') (hp : l'.all pf = true) (k : All₂ (Has β) l vs) : All₂ (Has γ) l' vs := pfs_has hp (tmLe_has h k)

/-- a function that reads one slice -/
theorem rsound1 {C : Ctx} (hC : C.Ok) {f : FuncId} {fn : Func} (hfn : C.P.funcs[f]? = some fn) (hname : (fn.name == "runtime.NumGoroutine") = false) (hbody : fn.body.isNone = false) {c : MC}
    (h : ∀ us m K, c us m K → ∃ (sh : List Kd) (q : Prop) (x : Nat) (z : Bool) (base n cc tot : Nat) (xs : List (Row sh)) (t : TypeId) (s res : SV) (pre pre' post post' : List SV) (L : Nat → Option LS) (fuel : Nat),
      us = pre ++ s :: post ∧ rdS sh m s = some (q, x, z, base, n, cc, tot, xs) ∧ q ∧ (tmLe idR pre pre' ∧ pre'.all pf = true) ∧ (tmLe idR post post' ∧ post'.all pf = true) ∧
      (n = xs.length → goal C L fuel fn (pre' ++ .v (.one (.rs z 0 0 base sh.length 0 n cc)) :: post') [some (.rows true z sh xs base tot t)] fun r m' => stLe 1 ⟨[r], m'⟩ ⟨[res], [none]⟩) ∧ K (res.ren (back [x] m.length)) m) : MSound C.P f c := by
  refine msound_of_v hC hfn hname hbody fun us m K hc => ?_
  obtain ⟨sh, q, x, z, base, n, cc, tot, xs, t, s, res, pre, pre', post, post', L, fuel, rfl, hrd, hq, ⟨h1, h2⟩, ⟨h3, h4⟩, hg, hk⟩ := h us m K hc
  obtain ⟨hle, hb, hn⟩ := rdS_le (ρ := fun i => ([] ++ [x])[i]?) hrd hq 0 rfl t
  refine ⟨Unit, fun _ => True, L, fuel, [], [x], _, [some (.rows true z sh xs base tot t)], fun _ => res, fun _ => [none], _, ⟨rfl, rfl, roFrom_of rfl, fun _ => rwFrom_of rfl⟩, ?_, ⟨hb, trivial⟩, hg hn, fun r m' hr => ⟨(), trivial, hr⟩, fun _ _ => ?_⟩
  · intro β vals hv
    obtain ⟨v1, v2, rfl, a1, a2⟩ := All₂.split hv
    obtain ⟨v, v3, rfl, a3, a4⟩ := a2.cons_inv
    exact (pfs_by h1 h2 a1).append (.cons (hle β v a3) (pfs_by h3 h4 a4))
  · show K _ (setL m [] _ ++ _)
    have : setL m [] (([none] : Mem).map (oren (back ([] ++ [x]) m.length))) ++ (([none] : Mem).drop ([] ++ [x]).length).map (oren (back ([] ++ [x]) m.length)) = m := by simp [setL, oren]
    rw [this]
    exact hk

/-- a slice, read where one has no more than blocks -/
def rdM (sh : List Kd) (mm : Nat → Option Blk) : SV → Option (Prop × Nat × Bool × Nat × Nat × Nat × Nat × List (Row sh))
  | .v (.one .nils) => some (True, 0, true, 0, 0, 0, 0, [])
  | .v (.one (.rs z tg x base sz _ n c)) => match tg, mm x with
    | 0, some (.rows ro z' sh' xs base' tot t) => match shEq sh' sh, Nat.beq sz sh.length with
      | some ⟨h⟩, true => some (n = xs.length ∧ z = z' ∧ base = base', x, z, base, n, c, tot, castR h xs)
      | _, _ => none
    | _, _ => none
  | _ => none
theorem rdM_le {sh : List Kd} {mm : Nat → Option Blk} {s : SV} {q : Prop} {x : Nat} {z : Bool} {base n c tot : Nat} {xs : List (Row sh)} (h : rdM sh mm s = some (q, x, z, base, n, c, tot, xs)) (hq : q) (t : TypeId) {β : Nm} {w : World} (hm : ∀ x b, mm x = some b → b.dead ∨ ∃ k, β x = some k ∧ HasB β b w.heap[k]?) :
    (∀ (v : Value), Has β s v → Has (β.by fun i => [x][i]?) (.v (.one (.rs z 0 0 base sh.length 0 n c))) v) ∧ (Blk.dead (.rows true z sh xs base tot t) ∨ ∃ k, β x = some k ∧ HasB (β.by fun i => [x][i]?) (.rows true z sh xs base tot t) w.heap[k]?) ∧ n = xs.length := by
  unfold rdM at h
  split at h
  · cases h
    refine ⟨?_, .inl ⟨rfl, rfl⟩, rfl⟩
    intro v hv
    cases hv with
    | v hv => cases hv with
      | one hv => cases hv; exact .v (.one (.rs ⟨fun _ => rfl, Nat.le_refl _, .inl ⟨rfl, rfl, _, rfl⟩⟩))
  · split at h
    · rename_i ro z' sh' xs' base' tot' t' hmm
      split at h
      · rename_i hE hsh hsz
        cases h
        obtain ⟨h1, rfl, rfl⟩ := hq
        have hsz := Nat.eq_of_beq_eq_true hsz
        subst hsz
        subst hE
        refine ⟨?_, ?_, by rw [castR_rfl]; exact h1⟩
        · intro v hv
          cases hv with
          | v hv => cases hv with
            | one hv => cases hv with
              | rs hv =>
                obtain ⟨e1, e2, e3⟩ := hv
                refine .v (.one (.rs ⟨fun _ => rfl, e2, ?_⟩))
                rcases e3 with e3 | ⟨q1, b, q2, q3⟩
                · exact .inl e3
                · rw [e1 rfl] at q3
                  exact .inr ⟨q1, b, by_some (ρ := fun i => [x][i]?) rfl q2, q3⟩
        · rw [castR_rfl]
          rcases hm x _ hmm with hd | ⟨k, hk, h0, vs, fz, t2, ho, _, hr⟩
          · exact .inl hd
          · exact .inr ⟨k, hk, h0, vs, fz, t2, ho, fun e => (by cases e), hr⟩
      · cases h
    · cases h
  · cases h
/-- a function that reads one slice, wherever it is called -/
theorem rsoundR {C : Ctx} (hC : C.Ok) {f : FuncId} {fn : Func} (hfn : C.P.funcs[f]? = some fn) (hname : (fn.name == "runtime.NumGoroutine") = false) (hbody : fn.body.isNone = false) {c : RC}
    (h : ∀ us mm p v, c mm us = some (p, v) → ob p → ∃ (sh : List Kd) (q : Prop) (x : Nat) (z : Bool) (base n cc tot : Nat) (xs : List (Row sh)) (t : TypeId) (s : SV) (pre pre' post post' : List SV) (L : Nat → Option LS) (fuel : Nat),
      us = pre ++ s :: post ∧ rdM sh mm s = some (q, x, z, base, n, cc, tot, xs) ∧ q ∧ (tmLe idR pre pre' ∧ pre'.all pf = true) ∧ (tmLe idR post post' ∧ post'.all pf = true) ∧ pf v = true ∧
      (n = xs.length → goal C L fuel fn (pre' ++ .v (.one (.rs z 0 0 base sh.length 0 n cc)) :: post') [some (.rows true z sh xs base tot t)] fun r m' => stLe 1 ⟨[r], m'⟩ ⟨[v], [none]⟩)) : RSound C.P f c := by
  refine ⟨⟨fn, hfn, hname, hbody⟩, ?_⟩
  intro β mm us vals p v w hgl hmm _ hc hp hv
  obtain ⟨sh, q, x, z, base, n, cc, tot, xs, t, s, pre, pre', post, post', L, fuel, rfl, hrd, hq, ⟨h1, h2⟩, ⟨h3, h4⟩, hpf, hg⟩ := h us mm p v hc hp
  obtain ⟨hle, hb, hn⟩ := rdM_le hrd hq t hmm
  have cut : ∀ (y : Nat) (bl : Blk), ([some (.rows true z sh xs base tot t)] : Mem)[y]? = some (some bl) → y = 0 ∧ bl = .rows true z sh xs base tot t := by
    intro y bl hy
    cases y with
    | zero => simp at hy; exact ⟨rfl, hy.symm⟩
    | succ y => simp at hy
  have nkw : ∀ y, ¬ kw [some (.rows true z sh xs base tot t)] y := by
    rintro y ⟨bl, hy, hr⟩
    obtain ⟨_, rfl⟩ := cut y bl hy
    cases hr.1
  have hs : Sat (β.by fun i => [x][i]?) [some (.rows true z sh xs base tot t)] w := by
    refine ⟨fun y bl hy => ?_, fun y y' a hy => absurd hy (nkw y), fun y a hy => ?_, hgl, fun y a hy => absurd hy (nkw y)⟩
    · obtain ⟨rfl, rfl⟩ := cut y bl hy
      exact hb.imp id fun ⟨k, hk, hB⟩ => ⟨k, by_some (ρ := fun i => [x][i]?) rfl hk, hB⟩
    · simp only [Nm.by, Option.bind_eq_some_iff] at hy
      obtain ⟨z', hz, _⟩ := hy
      have := (List.getElem?_eq_some_iff.1 hz).1
      simpa using this
  obtain ⟨v1, v2, rfl, a1, a2⟩ := All₂.split hv
  obtain ⟨v0, v3, rfl, a3, a4⟩ := a2.cons_inv
  refine (calls_of_goal hC hfn (hg hn) ((pfs_by h1 h2 a1).append (.cons (hle v0 a3) (pfs_by h3 h4 a4))) hs).mono ?_
  rintro e w' ⟨β', r, m', u, h5, hsi, rfl, h6, h7⟩
  obtain ⟨γ', ⟨ht, _, _⟩, _⟩ := Fit.le (bs := 0) (a := ⟨#[u], []⟩) (k := 1) rfl hs ⟨.cons h6 .nil, h5, (trivial : Marks 0 w' [])⟩ hsi h7
  obtain ⟨r', rs, e1, hr2, _⟩ := ht.cons_inv
  cases e1
  exact ⟨u, rfl, pf_has hpf hr2, hsi.toExt0 nkw⟩

/-- a leaf that names its value -/
def opL : Lf → Value → Lf
  | .int k kn n, _ => .int k false n
  | .bool kn b, _ => .bool false b
  | _, v => .op v
def opLs : List Lf → List Value → List Lf
  | l :: ls, v :: vs => opL l v :: opLs ls vs
  | _, _ => []
theorem opL_has {β γ : Nm} {l : Lf} {v : Value} (h : HasL β l v) : HasL γ (opL l v) v ∧ ∀ δ u, HasL δ (opL l v) u → u = v := by
  have ho := h.oneCell
  cases h <;> first
    | exact ⟨.int, fun δ u hu => by cases hu; rfl⟩
    | exact ⟨.bool, fun δ u hu => by cases hu; rfl⟩
    | exact ⟨.op ho, fun δ u hu => by cases hu; rfl⟩
theorem opLs_has {β γ : Nm} : ∀ {ls : List Lf} {vs : List Value}, All₂ (HasL β) ls vs → All₂ (HasL γ) (opLs ls vs) vs ∧ ∀ δ us, All₂ (HasL δ) (opLs ls vs) us → us = vs
  | [], _, h => by
    rw [h.nil_inv]
    exact ⟨.nil, fun δ us hu => hu.nil_inv⟩
  | l :: ls, _, h => by
    obtain ⟨v, vs, rfl, h1, h2⟩ := h.cons_inv
    obtain ⟨a1, a2⟩ := opL_has (γ := γ) h1
    obtain ⟨b1, b2⟩ := opLs_has (γ := γ) h2
    refine ⟨.cons a1 b1, fun δ us hu => ?_⟩
    obtain ⟨u, us', rfl, h3, h4⟩ := All₂.cons_inv (show All₂ (HasL δ) (opL l v :: opLs ls vs) us from hu)
    rw [a2 δ u h3, b2 δ us' h4]
/-- a function that reads one block of cells alone, wherever it is called -/
theorem rsoundO {C : Ctx} (hC : C.Ok) {f : FuncId} {fn : Func} (hfn : C.P.funcs[f]? = some fn) (hname : (fn.name == "runtime.NumGoroutine") = false) (hbody : fn.body.isNone = false) {c : RC}
    (h : ∀ us mm p v, c mm us = some (p, v) → ob p → ∃ (y : Nat) (ls : List Lf) (t : TypeId) (post post' : List SV), us = .v (.one (.ptr y 0)) :: post ∧ mm y = some (.cells ls t) ∧ (tmLe idR post post' ∧ post'.all pf = true) ∧ pf v = true ∧
      ∀ vs : List Value, vs.length = ls.length → ∃ (L : Nat → Option LS) (fuel : Nat), goal C L fuel fn (.v (.one (.ptr 0 0)) :: post') [some (.cells (opLs ls vs) t)] fun r m' => stLe 1 ⟨[r], m'⟩ ⟨[v], [some (.cells (opLs ls vs) t)]⟩) : RSound C.P f c := by
  refine ⟨⟨fn, hfn, hname, hbody⟩, ?_⟩
  intro β mm us vals p v w hgl hmm hng hc hp hv
  obtain ⟨y, ls, t, post, post', rfl, hy, ⟨h3, h4⟩, hpf, hg⟩ := h us mm p v hc hp
  obtain ⟨k, hk, vs, hob, hvs⟩ := (hmm y _ hy).resolve_left id
  obtain ⟨L, fuel, hg⟩ := hg vs hvs.length
  let γ : Nm := fun x => if x = 0 then some k else none
  have h0 : γ 0 = some k := rfl
  obtain ⟨o1, o2⟩ := opLs_has (γ := γ) hvs
  have hkl : k < w.heap.size := (Array.getElem?_eq_some_iff.1 hob).1
  have only : ∀ x a, γ x = some a → x = 0 ∧ a = k := by
    intro x a hx
    have hx : (if x = 0 then some k else none) = some a := hx
    split at hx
    · cases hx; exact ⟨by assumption, rfl⟩
    · cases hx
  have hs : Sat γ [some (.cells (opLs ls vs) t)] w := by
    refine ⟨fun x b hx => ?_, fun x x' a hx hx' ha ha' => ?_, fun x a hx => ?_, hgl, fun x a _ hx => ?_⟩
    · cases x with
      | zero => simp at hx; subst hx; exact .inr ⟨k, rfl, vs, hob, o1⟩
      | succ x => simp at hx
    · rw [(only x a ha).1, (only x' a ha').1]
    · have := (only x a hx).1; simp; omega
    · obtain ⟨_, rfl⟩ := only x a hx
      exact hng y ls t _ hy hk
  obtain ⟨v0, vals', rfl, hv0, hrest⟩ := hv.cons_inv
  have hv0' : v0 = .pointer (some ⟨k, 0, none⟩) := by
    cases hv0 with
    | v hv0 => cases hv0 with
      | one hv0 => cases hv0 with
        | ptr e => rw [hk] at e; cases e; rfl
  subst hv0'
  refine (calls_of_goal hC hfn hg (.cons (.v (.one (.ptr h0))) (pfs_by h3 h4 hrest)) hs).mono ?_
  rintro e w' ⟨β', r, m', u, h5, hsi, rfl, h6, h7⟩
  obtain ⟨γ', ⟨ht, hsat', _⟩, hsin'⟩ := Fit.le (bs := 0) (a := ⟨#[u], []⟩) (k := 1) rfl hs ⟨.cons h6 .nil, h5, (trivial : Marks 0 w' [])⟩ hsi h7
  obtain ⟨r', rs, e1, hr2, _⟩ := ht.cons_inv
  cases e1
  obtain ⟨k', hk', us', hob', hus'⟩ := hsat'.cells (x := 0) (l := opLs ls vs) (t := t) rfl
  rw [hsin'.ext 0 k h0] at hk'; cases hk'
  have e3 := o2 _ us' hus'
  subst e3
  refine ⟨u, rfl, pf_has hpf hr2, hsi.os, hsi.tape, hsi.output, hsi.size, fun i hi => ?_⟩
  by_cases ei : i = k
  · subst ei; rw [hob, hob']
  · refine hsi.frame i hi fun x hx e => ?_
    obtain ⟨_, rfl⟩ := only x i e
    exact ei rfl

/-- an argument of a law: a slice that reads as rows -/
def SlArg (W : World) (sh : List Kd) (xs : List (Row sh)) (v : Value) : Prop := ∃ c, xs.length ≤ c ∧
  ((xs = [] ∧ ∃ q, v = .slice q 0 c) ∨ ∃ (b base : Nat) (vs : List Value) (t : TypeId) (fz : Nat × Nat), v = .slice (some ⟨b, base, none⟩) xs.length c ∧ W.heap[b]? = some (.cells ⟨vs⟩ t fz) ∧ RowsAt sh xs base xs.length vs)

/-- .. as the walk has it -/
theorem SlArg.open {W : World} {sh : List Kd} {xs : List (Row sh)} {v : Value} (h : SlArg W sh xs v) : ∃ (z : Bool) (b base c : Nat),
    (∀ β : Nm, ∀ i, β i = some b → Has β (.v (.one (.rs z 0 i base sh.length 0 xs.length c))) v) ∧ ∀ (β : Nm) (t : TypeId), Blk.dead (.rows true z sh xs base xs.length t) ∨ HasB β (.rows true z sh xs base xs.length t) W.heap[b]? := by
  obtain ⟨c, hc, h⟩ := h
  rcases h with ⟨rfl, q, rfl⟩ | ⟨b, base, vs, t, fz, rfl, hob, hR⟩
  · exact ⟨true, 0, 0, c, fun β i _ => .v (.one (.rs ⟨fun _ => rfl, Nat.zero_le _, .inl ⟨rfl, rfl, q, rfl⟩⟩)), fun β t => .inl ⟨rfl, rfl⟩⟩
  · exact ⟨false, b, base, c, fun β i hi => .v (.one (.rs ⟨fun _ => rfl, hc, .inr ⟨rfl, b, hi, by simp⟩⟩)), fun β t' => .inr ⟨rfl, vs, fz, t, hob, (fun e => by cases e), hR⟩⟩

/-- THE WALK OF A LAW OF ONE SLICE AND OF NUMBERS -/
theorem law_of1 {C : Ctx} (hC : C.Ok) {f : FuncId} {fn : Func} (hfn : C.P.funcs[f]? = some fn) {pre post : List SV} {vpre vpost : List Value} {sh : List Kd} {xs : List (Row sh)} {v : Value} {W : World} (hG : Glob W) (hv : SlArg W sh xs v)
    (hpre : ∀ β : Nm, All₂ (Has β) pre vpre) (hpost : ∀ β : Nm, All₂ (Has β) post vpost) (t : TypeId)
    (h : ∀ z base c, (z = true → xs = []) → ∃ L fuel, goal C L fuel fn (pre ++ .v (.one (.rs z 0 0 base sh.length 0 xs.length c)) :: post) [some (.rows true z sh xs base xs.length t)] fun r _ => svLe idR r (.v (.one (.bool false true)))) :
    Calls C.P f ⟨vpre ++ v :: vpost⟩ W fun e w' => e = .returned (.bool true) ∧ Ext W w' := by
  obtain ⟨z, b, base, c, h1, h2⟩ := hv.open
  let β : Nm := fun y => if y = 0 then some b else none
  have hb0 : β 0 = some b := rfl
  have hs : Sat β [some (.rows true z sh xs base xs.length t)] W := by
    refine ⟨fun x bl hx => ?_, ?_, fun x a hx => ?_, hG, fun x a ⟨bl, hx, hr⟩ _ => ?_⟩
    · cases x with
      | zero =>
        simp at hx
        subst hx
        exact (h2 β t).imp id fun h => ⟨b, hb0, h⟩
      | succ x => simp at hx
    · rintro x y a ⟨bl, hx, hr⟩
      cases x with
      | zero => simp at hx; subst hx; cases hr.1
      | succ x => simp at hx
    · show x < 1
      have : β x = some a := hx
      simp only [β] at this
      split at this
      · omega
      · cases this
    · cases x with
      | zero => simp at hx; subst hx; cases hr.1
      | succ x => simp at hx
  have hzx : z = true → xs = [] := fun hz => by
    rcases h2 β t with h | h
    · exact h.2
    · have h := h.1
      rw [hz] at h
      cases h
  obtain ⟨L, fuel, hg⟩ := h z base c hzx
  refine (calls_of_goal hC hfn hg ((hpre β).append (.cons (h1 β 0 hb0) (hpost β))) hs).mono ?_
  rintro e w' ⟨β', s, m', r, _, hsi, rfl, hr, hle⟩
  have hr' := svLe_has hle hr
  refine ⟨?_, hsi.toExt0 ?_⟩
  · cases hr' with
    | v hr' => cases hr' with
      | one hr' => cases hr'; rfl
  · rintro x ⟨bl, hx, hrw⟩
    cases x with
    | zero => simp at hx; subst hx; cases hrw.1
    | succ x => simp at hx

/-- a function that reads two slices, and lays blocks -/
theorem rsound2 {C : Ctx} (hC : C.Ok) {f : FuncId} {fn : Func} (hfn : C.P.funcs[f]? = some fn) (hname : (fn.name == "runtime.NumGoroutine") = false) (hbody : fn.body.isNone = false) {c : MC}
    (h : ∀ us m K, c us m K → ∃ (E : Type) (ok : E → Prop) (sha shb : List Kd) (qa : Prop) (x : Nat) (za : Bool) (basea na cca tota : Nat) (xa : List (Row sha)) (ta : TypeId) (qb : Prop) (y : Nat) (zb : Bool) (baseb nb ccb totb : Nat) (xb : List (Row shb)) (tb : TypeId) (sa sb : SV)
        (pre pre' post post' : List SV) (L : Nat → Option LS) (fuel : Nat) (res : E → SV) (mem : E → Mem) (R : SV → Mem → Prop),
      us = pre ++ sa :: sb :: post ∧ rdS sha m sa = some (qa, x, za, basea, na, cca, tota, xa) ∧ qa ∧ rdS shb m sb = some (qb, y, zb, baseb, nb, ccb, totb, xb) ∧ qb ∧ (tmLe idR pre pre' ∧ pre'.all pf = true) ∧ (tmLe idR post post' ∧ post'.all pf = true) ∧ (∀ e, allRo false (mem e) = true) ∧
      (na = xa.length → nb = xb.length → goal C L fuel fn (pre' ++ .v (.one (.rs za 0 0 basea sha.length 0 na cca)) :: .v (.one (.rs zb 0 1 baseb shb.length 0 nb ccb)) :: post') [some (.rows true za sha xa basea tota ta), some (.rows true zb shb xb baseb totb tb)] R) ∧
      (∀ r m', R r m' → ∃ e, ok e ∧ stLe 2 ⟨[r], m'⟩ ⟨[res e], none :: none :: mem e⟩) ∧ ∀ e, ok e → K ((res e).ren (back [x, y] m.length)) (m ++ (mem e).map (oren (back [x, y] m.length)))) : MSound C.P f c := by
  refine msound_of_v hC hfn hname hbody fun us m K hc => ?_
  obtain ⟨E, ok, sha, shb, qa, x, za, basea, na, cca, tota, xa, ta, qb, y, zb, baseb, nb, ccb, totb, xb, tb, sa, sb, pre, pre', post, post', L, fuel, res, mem, R, rfl, hrd, hq, hrd', hq', ⟨h1, h2⟩, ⟨h3, h4⟩, hro, hg, hR, hk⟩ := h us m K hc
  obtain ⟨hle, hb, hn⟩ := rdS_le (ρ := fun i => ([] ++ [x, y])[i]?) hrd hq 0 rfl ta
  obtain ⟨hle', hb', hn'⟩ := rdS_le (ρ := fun i => ([] ++ [x, y])[i]?) hrd' hq' 1 rfl tb
  refine ⟨E, ok, L, fuel, [], [x, y], _, [some (.rows true za sha xa basea tota ta), some (.rows true zb shb xb baseb totb tb)], res, fun e => none :: none :: mem e, R, ⟨rfl, rfl, roFrom_of rfl, fun e => rwFrom_of (hro e)⟩, ?_, ⟨hb, hb', trivial⟩, hg hn hn', hR, fun e he => ?_⟩
  · intro β vals hv
    obtain ⟨v1, v2, rfl, a1, a2⟩ := All₂.split hv
    obtain ⟨v, v3, rfl, a3, a4⟩ := a2.cons_inv
    obtain ⟨v', v4, rfl, a5, a6⟩ := a4.cons_inv
    exact (pfs_by h1 h2 a1).append (.cons (hle β v a3) (.cons (hle' β v' a5) (pfs_by h3 h4 a6)))
  · show K _ (setL m [] _ ++ _)
    have : setL m [] (((none :: none :: mem e : Mem)).map (oren (back ([] ++ [x, y]) m.length))) ++ (((none :: none :: mem e : Mem)).drop ([] ++ [x, y]).length).map (oren (back ([] ++ [x, y]) m.length)) = m ++ (mem e).map (oren (back [x, y] m.length)) := by simp [setL]
    rw [this]
    exact hk e he

/-- THE WALK OF A LAW OF TWO SLICES AND OF NUMBERS -/
theorem law_of2 {C : Ctx} (hC : C.Ok) {f : FuncId} {fn : Func} (hfn : C.P.funcs[f]? = some fn) {pre post : List SV} {vpre vpost : List Value} {sha shb : List Kd} {xa : List (Row sha)} {xb : List (Row shb)} {va vb : Value} {W : World} (hG : Glob W) (hva : SlArg W sha xa va) (hvb : SlArg W shb xb vb)
    (hpre : ∀ β : Nm, All₂ (Has β) pre vpre) (hpost : ∀ β : Nm, All₂ (Has β) post vpost) (ta tb : TypeId)
    (h : ∀ za basea ca zb baseb cb, (za = true → xa = []) → (zb = true → xb = []) → ∃ L fuel, goal C L fuel fn (pre ++ .v (.one (.rs za 0 0 basea sha.length 0 xa.length ca)) :: .v (.one (.rs zb 0 1 baseb shb.length 0 xb.length cb)) :: post) [some (.rows true za sha xa basea xa.length ta), some (.rows true zb shb xb baseb xb.length tb)] fun r _ => svLe idR r (.v (.one (.bool false true)))) :
    Calls C.P f ⟨vpre ++ va :: vb :: vpost⟩ W fun e w' => e = .returned (.bool true) ∧ Ext W w' := by
  obtain ⟨z, b, base, c, h1, h2⟩ := hva.open
  obtain ⟨z', b', base', c', h1', h2'⟩ := hvb.open
  let β : Nm := fun y => if y = 0 then some b else if y = 1 then some b' else none
  have hb0 : β 0 = some b := rfl
  have hb1 : β 1 = some b' := rfl
  have cut : ∀ (x : Nat) (bl : Blk), ([some (.rows true z sha xa base xa.length ta), some (.rows true z' shb xb base' xb.length tb)] : Mem)[x]? = some (some bl) → (x = 0 ∧ bl = .rows true z sha xa base xa.length ta) ∨ (x = 1 ∧ bl = .rows true z' shb xb base' xb.length tb) := by
    intro x bl hx
    match x, hx with
    | 0, hx => simp at hx; exact .inl ⟨rfl, hx.symm⟩
    | 1, hx => simp at hx; exact .inr ⟨rfl, hx.symm⟩
    | n + 2, hx => simp at hx
  have nkw : ∀ x, ¬ kw [some (.rows true z sha xa base xa.length ta), some (.rows true z' shb xb base' xb.length tb)] x := by
    rintro x ⟨bl, hx, hr⟩
    rcases cut x bl hx with ⟨_, rfl⟩ | ⟨_, rfl⟩ <;> cases hr.1
  have hs : Sat β [some (.rows true z sha xa base xa.length ta), some (.rows true z' shb xb base' xb.length tb)] W := by
    refine ⟨fun x bl hx => ?_, fun x y a hx => absurd hx (nkw x), fun x a hx => ?_, hG, fun x a hx => absurd hx (nkw x)⟩
    · rcases cut x bl hx with ⟨rfl, rfl⟩ | ⟨rfl, rfl⟩
      · exact (h2 β ta).imp id fun h => ⟨b, hb0, h⟩
      · exact (h2' β tb).imp id fun h => ⟨b', hb1, h⟩
    · show x < 2
      have : β x = some a := hx
      simp only [β] at this
      split at this
      · omega
      · split at this
        · omega
        · cases this
  have hza : z = true → xa = [] := fun hz => by
    rcases h2 β ta with h | h
    · exact h.2
    · have h := h.1
      rw [hz] at h
      cases h
  have hzb : z' = true → xb = [] := fun hz => by
    rcases h2' β tb with h | h
    · exact h.2
    · have h := h.1
      rw [hz] at h
      cases h
  obtain ⟨L, fuel, hg⟩ := h z base c z' base' c' hza hzb
  refine (calls_of_goal hC hfn hg ((hpre β).append (.cons (h1 β 0 hb0) (.cons (h1' β 1 hb1) (hpost β)))) hs).mono ?_
  rintro e w' ⟨β', s, m', r, _, hsi, rfl, hr, hle⟩
  have hr' := svLe_has hle hr
  refine ⟨?_, hsi.toExt0 nkw⟩
  cases hr' with
  | v hr' => cases hr' with
    | one hr' => cases hr'; rfl

end Go.Proofs.Ytceffompldihjaa.Rex
