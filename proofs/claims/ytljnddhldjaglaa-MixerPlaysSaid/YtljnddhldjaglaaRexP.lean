/- A WALK BY COMPUTATION, part 19: functions of two objects, each of which holds numbers and one slice of rows among them. Conditions: none. Own work. -/
import Derived.Test.YtljnddhldjaglaaRexO
namespace Go.Proofs.Ytljnddhldjaglaa.Rex
open Go.RowKit
set_option linter.unusedVariables false
set_option linter.unusedSimpArgs false

theorem osound2 {C : Ctx} (hC : C.Ok) {f : FuncId} {fn : Func} (hfn : C.P.funcs[f]? = some fn) (hname : (fn.name == "runtime.NumGoroutine") = false) (hbody : fn.body.isNone = false) {c : MC}
    (h : ∀ us m K, c us m K → ∃ (E : Type) (ok : E → Prop) (shA sh shB : List Kd) (tO tR : TypeId) (q : Prop) (y x : Nat) (z : Bool) (n cc : Nat) (xs : List (Row sh)) (ra : Row shA) (rb : Row shB) (l0 : List Lf)
        (shA2 sh2 shB2 : List Kd) (tO2 tR2 : TypeId) (q2 : Prop) (y2 x2 : Nat) (z2 : Bool) (n2 cc2 : Nat) (xs2 : List (Row sh2)) (ra2 : Row shA2) (rb2 : Row shB2) (l2 : List Lf) (s s2 : SV) (post post' : List SV) (L : Nat → Option LS) (fuel : Nat) (res : E → SV) (mem : E → Mem) (R : SV → Mem → Prop),
      us = s :: s2 :: post ∧ (obS shA sh shB tO tR m s = some (q, y, x, z, n, cc, xs, ra, rb) ∧ q) ∧ (obS shA2 sh2 shB2 tO2 tR2 m s2 = some (q2, y2, x2, z2, n2, cc2, xs2, ra2, rb2) ∧ q2) ∧ ndN [y, x, y2, x2] [] = true ∧
      (tmLe idR post post' ∧ post'.all pf = true) ∧ (∀ e, allRo false ((mem e).drop 4) = true) ∧ (l0 = rowL shA ra ++ .rs z 0 1 0 sh.length 0 n cc :: rowL shB rb ∧ l2 = rowL shA2 ra2 ++ .rs z2 0 3 0 sh2.length 0 n2 cc2 :: rowL shB2 rb2) ∧
      ((n = xs.length ∧ n2 = xs2.length) → ((z = true → cc = 0) ∧ (z2 = true → cc2 = 0)) → (xs.length ≤ cc ∧ xs2.length ≤ cc2) → ((z = true → xs.length = 0) ∧ (z2 = true → xs2.length = 0)) →
        Gl (goal C L fuel fn (.v (.one (.ptr 0 0)) :: .v (.one (.ptr 2 0)) :: post') [some (.cells l0 tO), some (.rows false z sh xs 0 cc tR), some (.cells l2 tO2), some (.rows false z2 sh2 xs2 0 cc2 tR2)] R)) ∧
      (∀ r m', R r m' → ∃ e, ok e ∧ stLe 4 ⟨[r], m'⟩ ⟨[res e], mem e⟩) ∧ ∀ e, ok e → K ((res e).ren (back [y, x, y2, x2] m.length)) (backM [y, x, y2, x2] [] m (mem e))) : MSound C.P f c := by
  refine msound_of_w hC hfn hname hbody fun us m K hc => ?_
  obtain ⟨E, ok, shA, sh, shB, tO, tR, q, y, x, z, n, cc, xs, ra, rb, l0, shA2, sh2, shB2, tO2, tR2, q2, y2, x2, z2, n2, cc2, xs2, ra2, rb2, l2, s, s2, post, post', L, fuel, res, mem, R, rfl, ⟨hob, hq⟩, ⟨hob2, hq2⟩, hnd, ⟨h3, h4⟩, hro, ⟨rfl, rfl⟩, hg, hR, hk⟩ := h us m K hc
  obtain ⟨rfl, ⟨la, lb, hy, hla, hlb⟩, hx, hne, hn, hz, hsh⟩ := obS_spec hob hq
  obtain ⟨rfl, ⟨la2, lb2, hy2, hla2, hlb2⟩, hx2, hne2, hn2, hz2, hsh2⟩ := obS_spec hob2 hq2
  refine ⟨E, ok, L, fuel, [y, x, y2, x2], [], _, [some (.cells (rowL shA ra ++ .rs z 0 1 0 sh.length 0 n cc :: rowL shB rb) tO), some (.rows false z sh xs 0 cc tR), some (.cells (rowL shA2 ra2 ++ .rs z2 0 3 0 sh2.length 0 n2 cc2 :: rowL shB2 rb2) tO2), some (.rows false z2 sh2 xs2 0 cc2 tR2)], res, mem, R, ⟨hnd, rfl, ?_, fun e => rwFrom_of (hro e)⟩, ?_, ?_,
    fun hfit => (hg ⟨hn, hn2⟩ ⟨hz, hz2⟩ ⟨(hfit 1 _ _ _ _ _ _ _ rfl).1, (hfit 3 _ _ _ _ _ _ _ rfl).1⟩ ⟨(hfit 1 _ _ _ _ _ _ _ rfl).2, (hfit 3 _ _ _ _ _ _ _ rfl).2⟩).out, hR, hk⟩
  · intro i b hi hb
    match i, hi, hb with
    | 0, hi, _ => simp at hi
    | 1, hi, _ => simp at hi
    | 2, hi, _ => simp at hi
    | 3, hi, _ => simp at hi
    | i + 4, _, hb => simp at hb
  · intro β vals hv
    obtain ⟨v, vs, rfl, hv0, hrest⟩ := hv.cons_inv
    obtain ⟨v2, vs2, rfl, hv2, hrest⟩ := hrest.cons_inv
    have hr0 : (fun i => ([y, x, y2, x2] ++ [] : List Nat)[i]?) 0 = some y := rfl
    have hr2 : (fun i => ([y, x, y2, x2] ++ [] : List Nat)[i]?) 2 = some y2 := rfl
    refine .cons ?_ (.cons ?_ (pfs_by h3 h4 hrest))
    · cases hv0 with
      | v hv0 => cases hv0 with
        | one hv0 => cases hv0 with
          | ptr e => exact .v (.one (.ptr (by_some hr0 e)))
    · cases hv2 with
      | v hv2 => cases hv2 with
        | one hv2 => cases hv2 with
          | ptr e => exact .v (.one (.ptr (by_some hr2 e)))
  · refine ⟨?_, ?_, ?_, ?_, trivial⟩
    · have e1 : srcB m ((fun i => ([y, x, y2, x2] ++ [] : List Nat)[i]?) 0) = some (.cells (la ++ .rs z 0 x 0 sh.length 0 n cc :: lb) tO) := hy
      rw [e1]
      have e2 : Nat.beq tO tO = true := Nat.beq_refl tO
      have e3 : Nat.beq sh.length sh.length = true := Nat.beq_refl _
      have e4 : Nat.beq x x = true := Nat.beq_refl x
      simp only [bLe, e2, ifB]
      refine lfsLe_of ((rowOf_le hla).append (.cons ?_ (rowOf_le hlb)))
      simp [lfLe, nmIs, e3, e4, ifB, tgP]
    · have e1 : srcB m ((fun i => ([y, x, y2, x2] ++ [] : List Nat)[i]?) (0 + 1)) = some (.rows false z sh xs 0 cc tR) := hx
      rw [e1]
      have e2 : Nat.beq tR tR = true := Nat.beq_refl tR
      simp only [bLe, roLe, orT, e2, hsh, ifB, Bool.and_self]
      exact ⟨trivial, trivial, trivial, by rw [castR_rfl, List.take_length]⟩
    · have e1 : srcB m ((fun i => ([y, x, y2, x2] ++ [] : List Nat)[i]?) (0 + 1 + 1)) = some (.cells (la2 ++ .rs z2 0 x2 0 sh2.length 0 n2 cc2 :: lb2) tO2) := hy2
      rw [e1]
      have e2 : Nat.beq tO2 tO2 = true := Nat.beq_refl tO2
      have e3 : Nat.beq sh2.length sh2.length = true := Nat.beq_refl _
      have e4 : Nat.beq x2 x2 = true := Nat.beq_refl x2
      simp only [bLe, e2, ifB]
      refine lfsLe_of ((rowOf_le hla2).append (.cons ?_ (rowOf_le hlb2)))
      simp [lfLe, nmIs, e3, e4, ifB, tgP]
    · have e1 : srcB m ((fun i => ([y, x, y2, x2] ++ [] : List Nat)[i]?) (0 + 1 + 1 + 1)) = some (.rows false z2 sh2 xs2 0 cc2 tR2) := hx2
      rw [e1]
      have e2 : Nat.beq tR2 tR2 = true := Nat.beq_refl tR2
      simp only [bLe, roLe, orT, e2, hsh2, ifB, Bool.and_self]
      exact ⟨trivial, trivial, trivial, by rw [castR_rfl, List.take_length]⟩
end Go.Proofs.Ytljnddhldjaglaa.Rex
