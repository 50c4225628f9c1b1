/- A WALK BY COMPUTATION, part 18: functions of an object that holds numbers, and one slice of rows among them; functions that read one slice and lay blocks. Conditions: none. Own work. -/
import Derived.Test.YtceffompldihjaaRexS
namespace Go.Proofs.Ytceffompldihjaa.Rex
open Go.RowKit
set_option linter.unusedVariables false
set_option linter.unusedSimpArgs false

/-- an object of numbers (shA, shB) and, between them, a slice of rows: under which condition; the object's block, the rows' block; whether the slice is nil; how many, of which capacity; the rows; the numbers -/
def obS (shA sh shB : List Kd) (tO tR : TypeId) (m : Mem) : SV → Option (Prop × Nat × Nat × Bool × Nat × Nat × List (Row sh) × Row shA × Row shB)
  | .v (.one (.ptr y off)) => match off, mmOf m y with
    | 0, some (.cells l t) => match rowOf shA (l.take shA.length), l.drop shA.length with
      | some ra, .rs z tg x base sz o n c :: l' => match rowOf shB l' with
        | some rb => match tg, base, mmOf m x with
          | 0, 0, some (.rows ro z' sh' xs base' tot t') => match ro, Nat.beq t tO && (Nat.beq t' tR && (Nat.beq base' 0 && (Nat.beq sz sh.length && (Nat.beq o 0 && (!(Nat.beq y x)))))), shEq sh' sh with
            | false, true, some ⟨h⟩ => some (n = xs.length ∧ z = z' ∧ c = tot ∧ (z = true → c = 0), y, x, z, n, c, castR h xs, ra, rb)
            | _, _, _ => none
          | _, _, _ => none
        | none => none
      | _, _ => none
    | _, _ => none
  | _ => none

theorem obS_spec {shA sh shB : List Kd} {tO tR : TypeId} {m : Mem} {s : SV} {q : Prop} {y x : Nat} {z : Bool} {n c : Nat} {xs : List (Row sh)} {ra : Row shA} {rb : Row shB} (h : obS shA sh shB tO tR m s = some (q, y, x, z, n, c, xs, ra, rb)) (hq : q) :
    s = .v (.one (.ptr y 0)) ∧ (∃ la lb, mmOf m y = some (.cells (la ++ .rs z 0 x 0 sh.length 0 n c :: lb) tO) ∧ rowOf shA la = some ra ∧ rowOf shB lb = some rb) ∧ mmOf m x = some (.rows false z sh xs 0 c tR) ∧ y ≠ x ∧ n = xs.length ∧ (z = true → c = 0) ∧ shEq sh sh = some ⟨rfl⟩ := by
  unfold obS at h
  split at h
  · split at h
    · rename_i hy
      split at h
      · rename_i hra hdr
        split at h
        · rename_i hrb
          split at h
          · rename_i hx
            split at h
            · rename_i hb hsh
              cases h
              simp only [Bool.and_eq_true, Bool.not_eq_true'] at hb
              obtain ⟨h1, h2, h3, h4, h6, h5⟩ := hb
              obtain ⟨k1, k2, k3, k4⟩ := hq
              have h1 := Nat.eq_of_beq_eq_true h1
              have h2 := Nat.eq_of_beq_eq_true h2
              have h3 := Nat.eq_of_beq_eq_true h3
              have h4 := Nat.eq_of_beq_eq_true h4
              have h6 := Nat.eq_of_beq_eq_true h6
              have h5 := Nat.ne_of_beq_eq_false h5
              subst h1 h2 h3 h4 h6 k2 k3
              rename_i hE _
              subst hE
              refine ⟨rfl, ⟨_, _, ?_, hra, hrb⟩, ?_, h5, ?_, k4, hsh⟩
              · rw [← hdr, List.take_append_drop]; exact hy
              · rw [castR_rfl]; exact hx
              · rw [castR_rfl]; exact k1
            · cases h
          · cases h
        · cases h
      · cases h
    · cases h
  · cases h

theorem lfsLe_of {ρ : Rn} {l m : List Lf} (h : All₂ (lfLe ρ) l m) : lfsLe ρ l m := by
  induction h with
  | nil => trivial
  | @cons a b l m h t ih =>
    cases t with
    | nil => exact h
    | cons h2 t2 => exact ⟨h, ih⟩
theorem lfLe_of {ρ : Rn} {d : Kd} {x : Lf} {a : d.T} (h : d.of x = some a) : lfLe ρ x (d.lf a) := by
  unfold Kd.of at h
  split at h
  · split at h
    · rename_i e
      cases h
      have := of_decide_eq_true e
      subst this
      simp [lfLe, Kd.lf, ifB]
    · cases h
  · cases h; rfl
  · cases h
theorem rowOf_le {ρ : Rn} : ∀ {sh : List Kd} {l : List Lf} {r : Row sh}, rowOf sh l = some r → All₂ (lfLe ρ) l (rowL sh r)
  | [], [], r, h => .nil
  | d :: sh, x :: l, r, h => by
    unfold rowOf at h
    split at h
    · rename_i a ha
      split at h
      · rename_i r' hr
        cases h
        exact .cons (lfLe_of ha) (rowOf_le hr)
      · cases h
    · cases h
  | [], _ :: _, _, h => by cases h
  | _ :: _, [], _, h => by cases h

/-- what stands behind the two blocks -/
def obM (m : Mem) (y x : Nat) (mem : Mem) : Mem := backM [y, x] [] m mem
def obR (m : Mem) (y x : Nat) (s : SV) : SV := s.ren (back [y, x] m.length)

/-- what is to be shown of a walk, shut: nothing looks into it unasked -/
structure Gl (p : Prop) : Prop where
  out : p
theorem by_nfG {p q : Prop} (h : p = q) (k : q) : Gl p := ⟨by rw [h]; exact k⟩

theorem osound {C : Ctx} (hC : C.Ok) {f : FuncId} {fn : Func} (hfn : C.P.funcs[f]? = some fn) (hname : (fn.name == "runtime.NumGoroutine") = false) (hbody : fn.body.isNone = false) {c : MC}
    (h : ∀ us m K, c us m K → ∃ (E : Type) (ok : E → Prop) (shA sh shB : List Kd) (tO tR : TypeId) (q : Prop) (y x : Nat) (z : Bool) (n cc : Nat) (xs : List (Row sh)) (ra : Row shA) (rb : Row shB) (l0 : List Lf) (s : SV) (post post' : List SV) (L : Nat → Option LS) (fuel : Nat) (res : E → SV) (mem : E → Mem) (R : SV → Mem → Prop),
      us = s :: post ∧ obS shA sh shB tO tR m s = some (q, y, x, z, n, cc, xs, ra, rb) ∧ q ∧ (tmLe idR post post' ∧ post'.all pf = true) ∧ (∀ e, allRo false ((mem e).drop 2) = true) ∧ l0 = rowL shA ra ++ .rs z 0 1 0 sh.length 0 n cc :: rowL shB rb ∧
      (n = xs.length → (z = true → cc = 0) → xs.length ≤ cc → (z = true → xs.length = 0) → Gl (goal C L fuel fn (.v (.one (.ptr 0 0)) :: post') [some (.cells l0 tO), some (.rows false z sh xs 0 cc tR)] R)) ∧
      (∀ r m', R r m' → ∃ e, ok e ∧ stLe 2 ⟨[r], m'⟩ ⟨[res e], mem e⟩) ∧ ∀ e, ok e → K (obR m y x (res e)) (obM m y x (mem e))) : MSound C.P f c := by
  refine msound_of_w hC hfn hname hbody fun us m K hc => ?_
  obtain ⟨E, ok, shA, sh, shB, tO, tR, q, y, x, z, n, cc, xs, ra, rb, l0, s, post, post', L, fuel, res, mem, R, rfl, hob, hq, ⟨h3, h4⟩, hro, rfl, hg, hR, hk⟩ := h us m K hc
  obtain ⟨rfl, ⟨la, lb, hy, hla, hlb⟩, hx, hne, hn, hz, hsh⟩ := obS_spec hob hq
  refine ⟨E, ok, L, fuel, [y, x], [], _, [some (.cells (rowL shA ra ++ .rs z 0 1 0 sh.length 0 n cc :: rowL shB rb) tO), some (.rows false z sh xs 0 cc tR)], res, mem, R, ⟨?_, rfl, ?_, fun e => rwFrom_of (hro e)⟩, ?_, ?_, fun hfit => (hg hn hz (hfit 1 _ _ _ _ _ _ _ rfl).1 (hfit 1 _ _ _ _ _ _ _ rfl).2).out, hR, hk⟩
  · have h1 : Nat.beq y x = false := by
      cases e : Nat.beq y x with
      | false => rfl
      | true => exact absurd (Nat.eq_of_beq_eq_true e) hne
    simp [ndN, notIn, h1]
  · intro i b hi hb
    match i, hi, hb with
    | 0, hi, _ => simp at hi
    | 1, hi, _ => simp at hi
    | i + 2, _, hb => simp at hb
  · intro β vals hv
    obtain ⟨v, vs, rfl, hv0, hrest⟩ := hv.cons_inv
    have hr0 : (fun i => ([y, x] ++ [] : List Nat)[i]?) 0 = some y := rfl
    refine .cons ?_ (pfs_by h3 h4 hrest)
    cases hv0 with
    | v hv0 => cases hv0 with
      | one hv0 => cases hv0 with
        | ptr e => exact .v (.one (.ptr (by_some hr0 e)))
  · refine ⟨?_, ?_, trivial⟩
    · have e1 : srcB m ((fun i => ([y, x] ++ [] : List Nat)[i]?) 0) = some (.cells (la ++ .rs z 0 x 0 sh.length 0 n cc :: lb) tO) := hy
      rw [e1]
      have e2 : Nat.beq tO tO = true := Nat.beq_refl tO
      have e3 : Nat.beq sh.length sh.length = true := Nat.beq_refl _
      have e4 : Nat.beq x x = true := Nat.beq_refl x
      simp only [bLe, e2, ifB]
      refine lfsLe_of ((rowOf_le hla).append (.cons ?_ (rowOf_le hlb)))
      simp [lfLe, nmIs, e3, e4, ifB, tgP]
    · have e1 : srcB m ((fun i => ([y, x] ++ [] : List Nat)[i]?) (0 + 1)) = some (.rows false z sh xs 0 cc tR) := hx
      rw [e1]
      have e2 : Nat.beq tR tR = true := Nat.beq_refl tR
      simp only [bLe, roLe, orT, e2, hsh, ifB, Bool.and_self]
      exact ⟨trivial, trivial, trivial, by rw [castR_rfl, List.take_length]⟩

/-- a function that reads one slice, and lays blocks -/
theorem rsoundM {C : Ctx} (hC : C.Ok) {f : FuncId} {fn : Func} (hfn : C.P.funcs[f]? = some fn) (hname : (fn.name == "runtime.NumGoroutine") = false) (hbody : fn.body.isNone = false) {c : MC}
    (h : ∀ us m K, c us m K → ∃ (E : Type) (ok : E → Prop) (sh : List Kd) (q : Prop) (x : Nat) (z : Bool) (base n cc tot : Nat) (xs : List (Row sh)) (t : TypeId) (s : SV)
        (pre pre' post post' : List SV) (L : Nat → Option LS) (fuel : Nat) (res : E → SV) (mem : E → Mem) (R : SV → Mem → Prop),
      us = pre ++ s :: post ∧ rdS sh m s = some (q, x, z, base, n, cc, tot, xs) ∧ q ∧ (tmLe idR pre pre' ∧ pre'.all pf = true) ∧ (tmLe idR post post' ∧ post'.all pf = true) ∧ (∀ e, allRo false (mem e) = true) ∧
      (n = xs.length → (z = true → xs.length = 0) → goal C L fuel fn (pre' ++ .v (.one (.rs z 0 0 base sh.length 0 n cc)) :: post') [some (.rows true z sh xs base tot t)] R) ∧
      (∀ r m', R r m' → ∃ e, ok e ∧ stLe 1 ⟨[r], m'⟩ ⟨[res e], none :: mem e⟩) ∧ ∀ e, ok e → K ((res e).ren (back [x] m.length)) (m ++ (mem e).map (oren (back [x] m.length)))) : MSound C.P f c := by
  refine msound_of_w hC hfn hname hbody fun us m K hc => ?_
  obtain ⟨E, ok, sh, q, x, z, base, n, cc, tot, xs, t, s, pre, pre', post, post', L, fuel, res, mem, R, rfl, hrd, hq, ⟨h1, h2⟩, ⟨h3, h4⟩, hro, hg, hR, hk⟩ := h us m K hc
  obtain ⟨hle, hb, hn⟩ := rdS_le (ρ := fun i => ([] ++ [x])[i]?) hrd hq 0 rfl t
  refine ⟨E, ok, L, fuel, [], [x], _, [some (.rows true z sh xs base tot t)], res, fun e => none :: mem e, R, ⟨rfl, rfl, roFrom_of rfl, fun e => rwFrom_of (hro e)⟩, ?_, ⟨hb, trivial⟩, fun hfit => hg hn (hfit 0 _ _ _ _ _ _ _ rfl).2, hR, fun e he => ?_⟩
  · intro β vals hv
    obtain ⟨v1, v2, rfl, a1, a2⟩ := All₂.split hv
    obtain ⟨v, v3, rfl, a3, a4⟩ := a2.cons_inv
    exact (pfs_by h1 h2 a1).append (.cons (hle β v a3) (pfs_by h3 h4 a4))
  · show K _ (setL m [] _ ++ _)
    have : setL m [] ((none :: mem e : Mem).map (oren (back ([] ++ [x]) m.length))) ++ ((none :: mem e : Mem).drop ([] ++ [x]).length).map (oren (back ([] ++ [x]) m.length)) = m ++ (mem e).map (oren (back [x] m.length)) := by simp [setL]
    rw [this]
    exact hk e he

/-- an owned slice (all its rows, from their beginning on): under which condition; its block; whether it is nil; how many, of which capacity; the rows -/
def owS (sh : List Kd) (tR : TypeId) (m : Mem) : SV → Option (Prop × Nat × Bool × Nat × Nat × List (Row sh))
  | .v (.one (.rs z tg x base sz o n c)) => match tg, base, mmOf m x with
    | 0, 0, some (.rows ro z' sh' xs base' tot t') => match ro, Nat.beq t' tR && (Nat.beq base' 0 && (Nat.beq sz sh.length && Nat.beq o 0)), shEq sh' sh with
      | false, true, some ⟨h⟩ => some (n = xs.length ∧ z = z' ∧ c = tot ∧ (z = true → c = 0), x, z, n, c, castR h xs)
      | _, _, _ => none
    | _, _, _ => none
  | _ => none
theorem owS_spec {sh : List Kd} {tR : TypeId} {m : Mem} {s : SV} {q : Prop} {x : Nat} {z : Bool} {n c : Nat} {xs : List (Row sh)} (h : owS sh tR m s = some (q, x, z, n, c, xs)) (hq : q) :
    s = .v (.one (.rs z 0 x 0 sh.length 0 n c)) ∧ mmOf m x = some (.rows false z sh xs 0 c tR) ∧ n = xs.length ∧ (z = true → c = 0) ∧ shEq sh sh = some ⟨rfl⟩ := by
  unfold owS at h
  split at h
  · split at h
    · rename_i hx
      split at h
      · rename_i hb hsh
        cases h
        simp only [Bool.and_eq_true] at hb
        obtain ⟨h2, h3, h4, h6⟩ := hb
        obtain ⟨k1, k2, k3, k4⟩ := hq
        have h2 := Nat.eq_of_beq_eq_true h2
        have h3 := Nat.eq_of_beq_eq_true h3
        have h4 := Nat.eq_of_beq_eq_true h4
        have h6 := Nat.eq_of_beq_eq_true h6
        subst h2 h3 h4 h6 k2 k3
        rename_i hE
        subst hE
        refine ⟨rfl, ?_, ?_, k4, hsh⟩
        · rw [castR_rfl]; exact hx
        · rw [castR_rfl]; exact k1
      · cases h
    · cases h
  · cases h

/-- a function that is handed an owned slice: what stands behind it is the function's to say -/
theorem wsound {C : Ctx} (hC : C.Ok) {f : FuncId} {fn : Func} (hfn : C.P.funcs[f]? = some fn) (hname : (fn.name == "runtime.NumGoroutine") = false) (hbody : fn.body.isNone = false) {c : MC}
    (h : ∀ us m K, c us m K → ∃ (E : Type) (ok : E → Prop) (sh : List Kd) (tR : TypeId) (q : Prop) (x : Nat) (z : Bool) (n cc : Nat) (xs : List (Row sh)) (s : SV) (pre pre' post post' : List SV) (L : Nat → Option LS) (fuel : Nat) (res : E → SV) (mem : E → Mem) (R : SV → Mem → Prop),
      us = pre ++ s :: post ∧ owS sh tR m s = some (q, x, z, n, cc, xs) ∧ q ∧ (tmLe idR pre pre' ∧ pre'.all pf = true) ∧ (tmLe idR post post' ∧ post'.all pf = true) ∧ (∀ e, allRo false ((mem e).drop 1) = true) ∧
      (n = xs.length → (z = true → cc = 0) → xs.length ≤ cc → (z = true → xs.length = 0) → Gl (goal C L fuel fn (pre' ++ .v (.one (.rs z 0 0 0 sh.length 0 n cc)) :: post') [some (.rows false z sh xs 0 cc tR)] R)) ∧
      (∀ r m', R r m' → ∃ e, ok e ∧ stLe 1 ⟨[r], m'⟩ ⟨[res e], mem e⟩) ∧ ∀ e, ok e → K ((res e).ren (back [x] m.length)) (backM [x] [] m (mem e))) : MSound C.P f c := by
  refine msound_of_w hC hfn hname hbody fun us m K hc => ?_
  obtain ⟨E, ok, sh, tR, q, x, z, n, cc, xs, s, pre, pre', post, post', L, fuel, res, mem, R, rfl, hob, hq, ⟨h1, h2⟩, ⟨h3, h4⟩, hro, hg, hR, hk⟩ := h us m K hc
  obtain ⟨rfl, hx, hn, hz, hsh⟩ := owS_spec hob hq
  refine ⟨E, ok, L, fuel, [x], [], _, [some (.rows false z sh xs 0 cc tR)], res, mem, R, ⟨rfl, rfl, ?_, fun e => rwFrom_of (hro e)⟩, ?_, ?_, fun hfit => (hg hn hz (hfit 0 _ _ _ _ _ _ _ rfl).1 (hfit 0 _ _ _ _ _ _ _ rfl).2).out, hR, hk⟩
  · intro i b hi hb
    match i, hi, hb with
    | 0, hi, _ => simp at hi
    | i + 1, _, hb => simp at hb
  · intro β vals hv
    obtain ⟨v1, v2, rfl, a1, a2⟩ := All₂.split hv
    obtain ⟨v, v3, rfl, a3, a4⟩ := a2.cons_inv
    refine (pfs_by h1 h2 a1).append (.cons ?_ (pfs_by h3 h4 a4))
    have hr0 : (fun i => ([x] ++ [] : List Nat)[i]?) 0 = some x := rfl
    cases a3 with
    | v a3 => cases a3 with
      | one a3 => cases a3 with
        | rs e =>
          refine .v (.one (.rs ⟨e.1, e.2.1, ?_⟩))
          rcases e.2.2 with k | ⟨hz', b, hb, hv'⟩
          · exact .inl k
          · exact .inr ⟨hz', b, by_some hr0 hb, hv'⟩
  · refine ⟨?_, trivial⟩
    have e1 : srcB m ((fun i => ([x] ++ [] : List Nat)[i]?) 0) = some (.rows false z sh xs 0 cc tR) := hx
    rw [e1]
    have e2 : Nat.beq tR tR = true := Nat.beq_refl tR
    simp only [bLe, roLe, orT, e2, hsh, ifB, Bool.and_self]
    exact ⟨trivial, trivial, trivial, by rw [castR_rfl, List.take_length]⟩

/-! ### structs of many numbers: by place -/
/-- the leaves of a struct of numbers, by their places -/
def stU : List IntKind → Nat → (Nat → Int) → List Lf
  | [], _, _ => []
  | k :: l, i, u => .int k false (u i) :: stU l (i + 1) u
def decL : List IntKind → List Lf → Option (List Int)
  | [], [] => some []
  | k :: l, .int k' _ n :: m => match decide (k = k') with
    | true => match decL l m with
      | some r => some (n :: r)
      | none => none
    | false => none
  | _, _ => none
def withU (ks : List IntKind) (ls : List Lf) (B : (Nat → Int) → Prop) : Prop := match decL ks ls with
  | some vs => B fun i => vs.getD i 0
  | none => False
theorem stU_shift (v : Int) (vs : List Int) : ∀ (ks : List IntKind) (i : Nat), stU ks (i + 1) (fun j => (v :: vs).getD j 0) = stU ks i (fun j => vs.getD j 0)
  | [], _ => rfl
  | k :: l, i => by unfold stU; rw [stU_shift v vs l (i + 1)]; rfl
theorem decL_le {ρ : Rn} : ∀ {ks : List IntKind} {ls : List Lf} {vs : List Int}, decL ks ls = some vs → All₂ (lfLe ρ) ls (stU ks 0 fun i => vs.getD i 0)
  | [], [], _, h => .nil
  | k :: l, x :: m, vs, h => by
    unfold decL at h
    split at h
    · rename_i hx; cases hx
    · rename_i hx1 hx2
      cases hx1; cases hx2
      split at h
      · rename_i hk
        have hk := of_decide_eq_true hk
        subst hk
        split at h
        · rename_i r hr
          cases h
          refine .cons (by simp [lfLe, ifB]) ?_
          rw [stU_shift]
          exact decL_le hr
        · cases h
      · cases h
    · cases h
  | [], _ :: _, _, h => by cases h
  | _ :: _, [], _, h => by cases h
theorem withU_spec {ks : List IntKind} {ls : List Lf} {B : (Nat → Int) → Prop} (h : withU ks ls B) : ∃ u, lfsLe idR ls (stU ks 0 u) ∧ B u := by
  unfold withU at h
  split at h
  · rename_i vs hv
    exact ⟨_, lfsLe_of (decL_le hv), h⟩
  · exact h.elim
theorem stU_pf : ∀ (ks : List IntKind) (i : Nat) (u : Nat → Int), (stU ks i u).all pfL = true
  | [], _, _ => rfl
  | _ :: l, i, u => by unfold stU; rw [List.all_cons, stU_pf l]; rfl

end Go.Proofs.Ytceffompldihjaa.Rex
