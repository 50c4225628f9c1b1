/- A WALK BY COMPUTATION, part 18: functions of an object that holds one slice of rows. Conditions: none. Own work. -/
import Derived.Test.YtoanempchbejhaaDoorRexS
namespace Go.Proofs.YtoanempchbejhaaDoor.Rex
open Go.RowKit
set_option linter.unusedVariables false
set_option linter.unusedSimpArgs false

/-- an object whose one cell is a slice of rows: under which condition; the object's block, the rows' block; whether the slice is nil; how many, of which capacity; the rows -/
def obS (sh : List Kd) (tO tR : TypeId) (m : Mem) : SV → Option (Prop × Nat × Nat × Bool × Nat × Nat × List (Row sh))
  | .v (.one (.ptr y off)) => match off, mmOf m y with
    | 0, some (.cells [l] t) => match l with
      | .rs z tg x base sz o n c => match tg, base, mmOf m x with
        | 0, 0, some (.rows ro z' sh' xs base' tot t') => match ro, Nat.beq t tO && (Nat.beq t' tR && (Nat.beq base' 0 && (Nat.beq sz sh.length && (Nat.beq o 0 && (!(Nat.beq y x)))))), shEq sh' sh with
          | false, true, some ⟨h⟩ => some (n = xs.length ∧ z = z' ∧ c = tot ∧ (z = true → c = 0), y, x, z, n, c, castR h xs)
          | _, _, _ => none
        | _, _, _ => none
      | _ => none
    | _, _ => none
  | _ => none

theorem obS_spec {sh : List Kd} {tO tR : TypeId} {m : Mem} {s : SV} {q : Prop} {y x : Nat} {z : Bool} {n c : Nat} {xs : List (Row sh)} (h : obS sh tO tR m s = some (q, y, x, z, n, c, xs)) (hq : q) :
    s = .v (.one (.ptr y 0)) ∧ mmOf m y = some (.cells [.rs z 0 x 0 sh.length 0 n c] tO) ∧ mmOf m x = some (.rows false z sh xs 0 c tR) ∧ y ≠ x ∧ n = xs.length ∧ (z = true → c = 0) ∧ shEq sh sh = some ⟨rfl⟩ := by
  unfold obS at h
  split at h
  · split at h
    · rename_i hy
      split at h
      · split at h
        · rename_i hx
          split at h
          · rename_i hb hsh
            cases h
            simp only [Bool.and_eq_true, Bool.not_eq_true'] at hb
            obtain ⟨h1, h2, h3, h4, h6, h5⟩ := hb
            obtain ⟨k1, k2, k3, k4⟩ := hq
            have h1 := Nat.eq_of_beq_eq_true h1
            have h2 := Nat.eq_of_beq_eq_true h2
            have h3 := Nat.eq_of_beq_eq_true h3
            have h4 := Nat.eq_of_beq_eq_true h4
            have h6 := Nat.eq_of_beq_eq_true h6
            have h5 := Nat.ne_of_beq_eq_false h5
            subst h1 h2 h3 h4 h6 k2 k3
            rename_i hE _
            subst hE
            refine ⟨rfl, hy, ?_, h5, ?_, k4, hsh⟩
            · rw [castR_rfl]; exact hx
            · rw [castR_rfl]; exact k1
          · cases h
        · cases h
      · cases h
    · cases h
  · cases h

/-- what stands behind the two blocks -/
def obM (m : Mem) (y x : Nat) (mem : Mem) : Mem := backM [y, x] [] m mem
def obR (m : Mem) (y x : Nat) (s : SV) : SV := s.ren (back [y, x] m.length)

theorem osound {C : Ctx} (hC : C.Ok) {f : FuncId} {fn : Func} (hfn : C.P.funcs[f]? = some fn) (hname : (fn.name == "runtime.NumGoroutine") = false) (hbody : fn.body.isNone = false) {c : MC}
    (h : ∀ us m K, c us m K → ∃ (E : Type) (ok : E → Prop) (sh : List Kd) (tO tR : TypeId) (q : Prop) (y x : Nat) (z : Bool) (n cc : Nat) (xs : List (Row sh)) (s : SV) (post post' : List SV) (L : Nat → Option LS) (fuel : Nat) (res : E → SV) (mem : E → Mem) (R : SV → Mem → Prop),
      us = s :: post ∧ obS sh tO tR m s = some (q, y, x, z, n, cc, xs) ∧ q ∧ (tmLe idR post post' ∧ post'.all pf = true) ∧ (∀ e, allRo false ((mem e).drop 2) = true) ∧
      (n = xs.length → (z = true → cc = 0) → goal C L fuel fn (.v (.one (.ptr 0 0)) :: post') [some (.cells [.rs z 0 1 0 sh.length 0 n cc] tO), some (.rows false z sh xs 0 cc tR)] R) ∧
      (∀ r m', R r m' → ∃ e, ok e ∧ stLe 2 ⟨[r], m'⟩ ⟨[res e], mem e⟩) ∧ ∀ e, ok e → K (obR m y x (res e)) (obM m y x (mem e))) : MSound C.P f c := by
  refine msound_of_v hC hfn hname hbody fun us m K hc => ?_
  obtain ⟨E, ok, sh, tO, tR, q, y, x, z, n, cc, xs, s, post, post', L, fuel, res, mem, R, rfl, hob, hq, ⟨h3, h4⟩, hro, hg, hR, hk⟩ := h us m K hc
  obtain ⟨rfl, hy, hx, hne, hn, hz, hsh⟩ := obS_spec hob hq
  refine ⟨E, ok, L, fuel, [y, x], [], _, [some (.cells [.rs z 0 1 0 sh.length 0 n cc] tO), some (.rows false z sh xs 0 cc tR)], res, mem, R, ⟨?_, rfl, ?_, fun e => rwFrom_of (hro e)⟩, ?_, ?_, hg hn hz, hR, hk⟩
  · have h1 : Nat.beq y x = false := by
      cases e : Nat.beq y x with
      | false => rfl
      | true => exact absurd (Nat.eq_of_beq_eq_true e) hne
    simp [ndN, notIn, h1]
  · intro i b hi hb
    match i, hi, hb with
    | 0, hi, _ => simp at hi
    | 1, hi, _ => simp at hi
    | i + 2, _, hb => simp at hb
  · intro β vals hv
    obtain ⟨v, vs, rfl, hv0, hrest⟩ := hv.cons_inv
    have hr0 : (fun i => ([y, x] ++ [] : List Nat)[i]?) 0 = some y := rfl
    refine .cons ?_ (pfs_by h3 h4 hrest)
    cases hv0 with
    | v hv0 => cases hv0 with
      | one hv0 => cases hv0 with
        | ptr e => exact .v (.one (.ptr (by_some hr0 e)))
  · refine ⟨?_, ?_, trivial⟩
    · have e1 : srcB m ((fun i => ([y, x] ++ [] : List Nat)[i]?) 0) = some (.cells [.rs z 0 x 0 sh.length 0 n cc] tO) := hy
      rw [e1]
      have e2 : Nat.beq tO tO = true := Nat.beq_refl tO
      have e3 : Nat.beq sh.length sh.length = true := Nat.beq_refl _
      simp [bLe, lfsLe, lfLe, ifB, nmIs, tgP, e2, e3]
    · have e1 : srcB m ((fun i => ([y, x] ++ [] : List Nat)[i]?) (0 + 1)) = some (.rows false z sh xs 0 cc tR) := hx
      rw [e1]
      have e2 : Nat.beq tR tR = true := Nat.beq_refl tR
      simp only [bLe, roLe, orT, e2, hsh, ifB, Bool.and_self]
      exact ⟨trivial, trivial, trivial, by rw [castR_rfl, List.take_length]⟩

end Go.Proofs.YtoanempchbejhaaDoor.Rex
