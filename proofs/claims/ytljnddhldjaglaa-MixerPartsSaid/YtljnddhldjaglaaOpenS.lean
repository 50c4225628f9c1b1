/- A SLICE OF A FLAT TYPE, OPENED: it reads as rows of numbers and bools; each number fits its kind. Conditions: the type's leaves, computed by the kernel. Own work. -/
import Derived.Test.YtljnddhldjaglaaOpen
import Derived.Test.YtljnddhldjaglaaRexS
import Derived.Deep.Slices
import Derived.WideShapes
namespace Go.Proofs.Ytljnddhldjaglaa
open Go.RowKit Go.ChangeShapes Go.WideShapes Go.Deep Rex
set_option linter.unusedVariables false

def kdOf : Kd → Option IntKind
  | .int k => some k
  | .bool => none

theorem row_fit : ∀ {sh : List Kd} {cs : List Value}, AllFit (sh.map kdOf) cs → ∃ r : Row sh, cs = rowV sh r ∧ rowWf sh r
  | [], cs, h => ⟨(), by rw [h.nil_inv]; rfl, trivial⟩
  | .int k :: sh, cs, h' => by
    obtain ⟨v, us, rfl, ⟨n, rfl, hw⟩, h⟩ := AllFit.cons_inv h'
    obtain ⟨r, rfl, hr⟩ := row_fit h
    exact ⟨(n, r), rfl, hw, hr⟩
  | .bool :: sh, cs, h' => by
    obtain ⟨v, us, rfl, ⟨n, rfl⟩, h⟩ := AllFit.cons_inv h'
    obtain ⟨r, rfl, hr⟩ := row_fit h
    exact ⟨(n, r), rfl, hr⟩

theorem rows_ex {sh : List Kd} {f : Nat → List Value} : ∀ (n : Nat), (∀ i, i < n → ∃ r : Row sh, f i = rowV sh r ∧ rowWf sh r) → ∃ xs : List (Row sh), xs.length = n ∧ (∀ i r, xs[i]? = some r → f i = rowV sh r) ∧ ∀ r ∈ xs, rowWf sh r
  | 0, _ => ⟨[], rfl, fun i r h => by simp at h, fun r h => by simp at h⟩
  | n + 1, h => by
    obtain ⟨xs, hl, hx, hw⟩ := rows_ex n fun i hi => h i (by omega)
    obtain ⟨r, hr, hrw⟩ := h n (by omega)
    refine ⟨xs ++ [r], by simp [hl], fun i s hi => ?_, fun s hs => ?_⟩
    · rcases Nat.lt_or_ge i xs.length with hlt | hge
      · rw [List.getElem?_append_left hlt] at hi
        exact hx i s hi
      · rw [List.getElem?_append_right hge] at hi
        cases hq : i - xs.length with
        | zero =>
          rw [hq] at hi
          simp at hi
          subst hi
          rw [show i = n by omega]; exact hr
        | succ q => rw [hq] at hi; simp at hi
    · rcases List.mem_append.1 hs with hs | hs
      · exact hw s hs
      · simp at hs; subst hs; exact hrw

section
variable {H : Type} {enc : TypeId × Value → H} {P : Program} {w : World} {base : Nat} {spare : Nat → Bool} {held : Bool}

/-- A slice that came in. -/
theorem open_rows {r : Reach} {b0 fuel : Nat} {t e : TypeId} {sh : List Kd} {v : Value} {d : DataW H} {ps : List MemPlace} (ht : P.underlying t = some (.slice e)) (hk : leaves P fuel e = some (sh.map kdOf)) (hC : P.cellsOf e = sh.length) (h0 : 0 < sh.length)
    (hval : Value.okWide P w r b0 t v) (hd : DataW.Trod enc P w base spare held t v d ps) : ∃ xs : List (Row sh), SlArg w sh xs v ∧ ∀ r ∈ xs, rowWf sh r := by
  obtain ⟨a, len, cap, rfl⟩ := okWide_slice ht hval
  obtain ⟨m, hm⟩ := hd
  rcases open_slice ht hm with ⟨hcs, _⟩ | ⟨a', len', cap', m', n, D, Pl, hcs, hb, hl, hmx, hmm, hx, hi⟩
  · have hv : Value.slice a len cap = .slice none 0 0 := by
      have : [Value.slice a len cap] = [.slice none 0 0] := hcs
      exact (List.cons.inj this).1
    cases hv
    exact ⟨[], ⟨0, Nat.le_refl _, .inl ⟨rfl, _, rfl⟩⟩, fun r h => by simp at h⟩
  · have hv : Value.slice a len cap = .slice (some a') len' cap' := by
      have : [Value.slice a len cap] = [.slice (some a') len' cap'] := hcs
      exact (List.cons.inj this).1
    cases hv
    have hlm : len ≤ m' := by rw [hmm]; split <;> omega
    rw [hC] at hi
    have cell : ∀ i, i < len → ∃ r : Row sh, (fun i => (List.range sh.length).map fun j => (w.cell? (a'.add (i * sh.length + j))).getD undef) i = rowV sh r ∧ rowWf sh r := by
      intro i hil
      obtain ⟨cs', hc, htr⟩ := hi i (by omega)
      obtain ⟨_, hcl, hat⟩ := World.cells?_some hc
      have hfit := leaves_fit fuel n e _ _ _ hk htr
      obtain ⟨r, hr, hw⟩ := row_fit hfit
      refine ⟨r, ?_, hw⟩
      rw [← hr]
      apply List.ext_getElem?
      intro j
      rw [List.getElem?_map]
      rcases Nat.lt_or_ge j sh.length with hj | hj
      · rw [List.getElem?_range hj]
        have h1 := hat j hj
        rw [Go.Deep.add_add] at h1
        simp only [Option.map_some]
        rw [h1, List.getElem?_eq_getElem (by omega)]
        rfl
      · rw [List.getElem?_eq_none (by simpa using hj), List.getElem?_eq_none (by omega)]; rfl
    obtain ⟨xs, hxl, hxr, hxw⟩ := rows_ex len cell
    refine ⟨xs, ?_, hxw⟩
    refine ⟨cap, by omega, ?_⟩
    rcases Nat.eq_zero_or_pos len with rfl | hpos
    · left
      exact ⟨List.eq_nil_of_length_eq_zero hxl, _, rfl⟩
    · right
      -- each cell of theirs is there
      have there : ∀ i r j, xs[i]? = some r → j < sh.length → w.cell? (a'.add (i * sh.length + j)) = (rowV sh r)[j]? := by
        intro i r j hir hj
        have hil : i < len := by rw [← hxl]; exact (List.getElem?_eq_some_iff.1 hir).1
        obtain ⟨cs', hc, htr⟩ := hi i (by omega)
        obtain ⟨_, hcl, hat⟩ := World.cells?_some hc
        have h1 := hat j hj
        rw [Go.Deep.add_add] at h1
        have h2 := hxr i r hir
        rw [← h2, List.getElem?_map, List.getElem?_range hj]
        simp only [Option.map_some]
        rw [h1, List.getElem?_eq_getElem (by omega)]
        rfl
      obtain ⟨r0, hr0⟩ : ∃ r, xs[0]? = some r := ⟨_, List.getElem?_eq_getElem (by omega)⟩
      have t0 := there 0 r0 0 hr0 h0
      have hs0 : ∃ v0, (rowV sh r0)[0]? = some v0 := ⟨_, List.getElem?_eq_getElem (by rw [rowV_length]; exact h0)⟩
      obtain ⟨v0, hv0⟩ := hs0
      rw [hv0] at t0
      obtain ⟨blk, off, spot⟩ := a'
      have hspot : spot = none ∧ ∃ vs t fz, w.heap[blk]? = some (.cells ⟨vs⟩ t fz) := by
        simp only [Nat.zero_mul, Nat.zero_add] at t0
        cases spot with
        | none =>
          rw [addr_add] at t0
          unfold World.cell? at t0
          cases hob : w.heap[blk]? with
          | none => simp [hob] at t0
          | some o =>
            cases o with
            | cells c e' f' => obtain ⟨c⟩ := c; exact ⟨rfl, c, e', f', rfl⟩
            | _ => simp [hob] at t0
        | some s =>
          exfalso
          unfold World.cell? Addr.add at t0
          split at t0
          · simp at t0
          · cases t0
      obtain ⟨rfl, vs, te, fz, hob⟩ := hspot
      refine ⟨blk, off, vs, te, fz, by rw [hxl], hob, ?_⟩
      have hcell : ∀ i r j, xs[i]? = some r → j < sh.length → vs[off + i * sh.length + j]? = (rowV sh r)[j]? := by
        intro i r j hir hj
        have := there i r j hir hj
        rw [addr_add] at this
        rw [← this]
        simp [World.cell?, hob, Nat.add_assoc]
      rw [RowsAt.iff]
      refine ⟨Nat.le_refl _, ?_, fun i r hir j hj => hcell i r j hir hj⟩
      -- the last cell is there: so are all
      obtain ⟨rl, hrl⟩ : ∃ r, xs[len - 1]? = some r := ⟨_, List.getElem?_eq_getElem (by omega)⟩
      have hlast := hcell (len - 1) rl (sh.length - 1) hrl (by omega)
      have hs1 : (rowV sh rl)[sh.length - 1]? = some ((rowV sh rl)[sh.length - 1]'(by rw [rowV_length]; omega)) := List.getElem?_eq_getElem _
      rw [hs1] at hlast
      have hlt := (List.getElem?_eq_some_iff.1 hlast).1
      have hmul : (len - 1 + 1) * sh.length = (len - 1) * sh.length + sh.length := by rw [Nat.add_mul]; omega
      rw [show len - 1 + 1 = len by omega] at hmul
      rw [hxl]; omega
end
end Go.Proofs.Ytljnddhldjaglaa
