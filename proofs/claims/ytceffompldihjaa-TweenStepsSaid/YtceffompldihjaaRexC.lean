/- A WALK BY COMPUTATION, rows: 'append', 'clear', as the model runs them. Conditions: none. Own work. -/
import Derived.Test.YtceffompldihjaaRexB
import Derived.Laws.Append
import Derived.Laws.AppendOwn
namespace Go.Proofs.Ytceffompldihjaa.Rex
open Go.RowKit
set_option linter.unusedVariables false
set_option linter.unusedSimpArgs false

def kdEq : (a b : Kd) → Option (PLift (a = b))
  | .int k, .int k' => if h : k = k' then some ⟨by rw [h]⟩ else none
  | .bool, .bool => some ⟨rfl⟩
  | _, _ => none
def shEq : (a b : List Kd) → Option (PLift (a = b))
  | [], [] => some ⟨rfl⟩
  | a :: l, b :: m => match kdEq a b, shEq l m with
    | some ⟨h⟩, some ⟨h'⟩ => some ⟨by rw [h, h']⟩
    | _, _ => none
  | _, _ => none
def castR {sh sh' : List Kd} (h : sh' = sh) (xs : List (Row sh')) : List (Row sh) := h ▸ xs

/-- so many rows, out of cells -/
def rowsOf (sh : List Kd) : Nat → List Lf → Option (List (Row sh))
  | 0, _ => some []
  | n + 1, l => match rowOf sh (l.take sh.length), rowsOf sh n (l.drop sh.length) with
    | some r, some rs => some (r :: rs)
    | _, _ => none

theorem rowsOf_has {β : Nm} {sh : List Kd} : ∀ {n : Nat} {l : List Lf} {rs : List (Row sh)} {vs : List Value}, rowsOf sh n l = some rs → All₂ (HasL β) l vs → vs.take (n * sh.length) = rs.flatMap (rowV sh) ∧ rs.length = n
  | 0, l, rs, vs, h, _ => by cases h; simp
  | n + 1, l, rs, vs, h, hv => by
    unfold rowsOf at h
    split at h
    · rename_i r rs' h1 h2
      cases h
      obtain ⟨e2, e3⟩ := rowsOf_has h2 (hv.drop sh.length)
      have e1 := rowOf_has h1 (hv.take sh.length)
      refine ⟨?_, by simp [e3]⟩
      rw [List.flatMap_cons, ← e1, ← e2, Nat.add_mul, Nat.one_mul, Nat.add_comm, List.take_add]
    · cases h

theorem take_flat {sh : List Kd} : ∀ {xs : List (Row sh)} {n : Nat}, (xs.take n).flatMap (rowV sh) = (xs.flatMap (rowV sh)).take (n * sh.length)
  | [], n => by simp
  | x :: xs, 0 => by simp
  | x :: xs, n + 1 => by
    rw [List.take_succ_cons, List.flatMap_cons, List.flatMap_cons, take_flat (xs := xs) (n := n), List.take_append, rowV_length, List.take_of_length_le (l := rowV sh x) (by rw [rowV_length, Nat.add_mul]; omega)]
    congr 2
    rw [Nat.add_mul]; omega
theorem drop_flat {sh : List Kd} : ∀ {xs : List (Row sh)} {n : Nat}, (xs.drop n).flatMap (rowV sh) = (xs.flatMap (rowV sh)).drop (n * sh.length)
  | [], n => by simp
  | x :: xs, 0 => by simp
  | x :: xs, n + 1 => by
    have hd : (rowV sh x).drop ((n + 1) * sh.length) = [] := List.drop_eq_nil_of_le (by rw [rowV_length, Nat.add_mul]; omega)
    rw [List.drop_succ_cons, List.flatMap_cons, drop_flat (xs := xs) (n := n), List.drop_append, rowV_length, hd, List.nil_append]
    congr 1
    rw [Nat.add_mul]; omega

/-- rows, cell by cell -/
theorem RowsAt.iff {sh : List Kd} {xs : List (Row sh)} {base tot : Nat} {vs : List Value} : RowsAt sh xs base tot vs ↔ xs.length ≤ tot ∧ base + tot * sh.length ≤ vs.length ∧ ∀ i r, xs[i]? = some r → ∀ j, j < sh.length → vs[base + i * sh.length + j]? = (rowV sh r)[j]? := by
  constructor
  · rintro ⟨h1, h2, h3⟩
    refine ⟨h1, h2, fun i r hi j hj => ?_⟩
    have h4 := flat_get hi hj
    have hl : (rowV sh r).length = sh.length := rowV_length
    rw [← h3, List.getElem?_take] at h4
    split at h4
    · rw [List.getElem?_drop] at h4
      rw [Nat.add_assoc]; exact h4
    · rename_i hq
      have hil := (List.getElem?_eq_some_iff.1 hi).1
      have : (i + 1) * sh.length ≤ xs.length * sh.length := Nat.mul_le_mul_right _ hil
      rw [Nat.add_mul] at this
      omega
  · rintro ⟨h1, h2, h3⟩
    refine ⟨h1, h2, ?_⟩
    apply List.ext_getElem?
    intro q
    rw [List.getElem?_take]
    split
    · rename_i hq
      have h0 : 0 < sh.length := by
        rcases Nat.eq_zero_or_pos sh.length with e | h
        · rw [e] at hq; simp at hq
        · exact h
      have hi : q / sh.length < xs.length := by rw [Nat.div_lt_iff_lt_mul h0]; exact hq
      have hj : q % sh.length < sh.length := Nat.mod_lt _ h0
      have hqq : q = q / sh.length * sh.length + q % sh.length := by rw [Nat.mul_comm]; exact (Nat.div_add_mod q sh.length).symm
      have h4 := flat_get (getR_some hi) hj
      have h5 := h3 _ _ (getR_some hi) _ hj
      rw [← hqq] at h4
      rw [h4, ← h5, List.getElem?_drop]
      congr 1
      omega
    · rw [List.getElem?_eq_none]
      rw [flat_length]; omega

theorem lay_get (vs cs : List Value) (off p : Nat) (h : off + cs.length ≤ vs.length) : (vs.take off ++ (cs ++ vs.drop (off + cs.length)))[p]? = if p < off then vs[p]? else if p < off + cs.length then cs[p - off]? else vs[p]? := by
  have hl : (vs.take off).length = off := by simp; omega
  split
  · rename_i hp
    rw [List.getElem?_append_left (by omega), List.getElem?_take, if_pos hp]
  · rename_i hp
    rw [List.getElem?_append_right (by omega), hl]
    split
    · rename_i hq
      rw [List.getElem?_append_left (by omega)]
    · rename_i hq
      rw [List.getElem?_append_right (by omega), List.getElem?_drop]
      congr 1; omega
theorem lay_length (vs cs : List Value) (off : Nat) (h : off + cs.length ≤ vs.length) : (vs.take off ++ (cs ++ vs.drop (off + cs.length))).length = vs.length := by
  simp; omega

/-- rows laid over rows, or behind them -/
theorem RowsAt.write {sh : List Kd} {xs ys : List (Row sh)} {base tot a : Nat} {vs : List Value} (h : RowsAt sh xs base tot vs) (ha : a ≤ xs.length) (hk : a + ys.length ≤ tot) :
    RowsAt sh (xs.take a ++ (ys ++ xs.drop (a + ys.length))) base tot (vs.take (base + a * sh.length) ++ (ys.flatMap (rowV sh) ++ vs.drop (base + a * sh.length + (ys.flatMap (rowV sh)).length))) := by
  rw [RowsAt.iff] at h ⊢
  obtain ⟨h1, h2, h3⟩ := h
  have hm : (a + ys.length) * sh.length ≤ tot * sh.length := Nat.mul_le_mul_right _ hk
  rw [Nat.add_mul] at hm
  have hfl : (ys.flatMap (rowV sh)).length = ys.length * sh.length := flat_length
  have hfit : base + a * sh.length + (ys.flatMap (rowV sh)).length ≤ vs.length := by rw [hfl]; omega
  refine ⟨by simp; omega, by rw [lay_length _ _ _ hfit]; exact h2, ?_⟩
  intro i r hi j hj
  rw [lay_get _ _ _ _ hfit, hfl]
  have hta : (xs.take a).length = a := by simp; omega
  rcases Nat.lt_or_ge i a with hia | hia
  · have hmul : (i + 1) * sh.length ≤ a * sh.length := Nat.mul_le_mul_right _ hia
    rw [Nat.add_mul] at hmul
    rw [List.getElem?_append_left (by omega), List.getElem?_take, if_pos hia] at hi
    rw [if_pos (by omega)]
    exact h3 i r hi j hj
  · have hmul : a * sh.length ≤ i * sh.length := Nat.mul_le_mul_right _ hia
    rw [if_neg (by omega)]
    rw [List.getElem?_append_right (by omega), hta] at hi
    rcases Nat.lt_or_ge (i - a) ys.length with hib | hib
    · rw [List.getElem?_append_left hib] at hi
      have hmul2 : (i - a + 1) * sh.length ≤ ys.length * sh.length := Nat.mul_le_mul_right _ hib
      have e1 : i * sh.length = (i - a) * sh.length + a * sh.length := by rw [← Nat.add_mul]; congr 1; omega
      rw [Nat.add_mul] at hmul2
      rw [if_pos (by omega), ← flat_get hi hj]
      congr 1; omega
    · rw [List.getElem?_append_right hib, List.getElem?_drop] at hi
      have hmul2 : ys.length * sh.length ≤ (i - a) * sh.length := Nat.mul_le_mul_right _ hib
      have e1 : i * sh.length = (i - a) * sh.length + a * sh.length := by rw [← Nat.add_mul]; congr 1; omega
      rw [if_neg (by omega)]
      refine h3 i r ?_ j hj
      rw [← hi]; congr 1; omega

/-- a part of one row -/
theorem RowsAt.put {sh : List Kd} {xs : List (Row sh)} {base tot i f : Nat} {vs cs : List Value} {r : Row sh} (h : RowsAt sh xs base tot vs) (hi : i < xs.length) (hf : f + cs.length ≤ sh.length)
    (hr : rowV sh r = (rowV sh (getR xs i)).take f ++ (cs ++ (rowV sh (getR xs i)).drop (f + cs.length))) :
    RowsAt sh (xs.set i r) base tot (vs.take (base + i * sh.length + f) ++ (cs ++ vs.drop (base + i * sh.length + f + cs.length))) := by
  rw [RowsAt.iff] at h ⊢
  obtain ⟨h1, h2, h3⟩ := h
  have hm : (i + 1) * sh.length ≤ tot * sh.length := Nat.mul_le_mul_right _ (by omega)
  rw [Nat.add_mul] at hm
  have hfit : base + i * sh.length + f + cs.length ≤ vs.length := by omega
  refine ⟨by simpa using h1, by rw [lay_length _ _ _ hfit]; exact h2, ?_⟩
  intro q s hq j hj
  rw [lay_get _ _ _ _ hfit]
  by_cases e : i = q
  · subst e
    rw [List.getElem?_set_self hi] at hq
    cases hq
    have hl : (rowV sh (getR xs i)).length = sh.length := rowV_length
    rw [hr, lay_get _ _ _ _ (by omega)]
    have hg := h3 i _ (getR_some hi) j hj
    by_cases h5 : j < f
    · rw [if_pos (by omega), if_pos h5]; exact hg
    · rw [if_neg (by omega), if_neg h5]
      by_cases h6 : j < f + cs.length
      · rw [if_pos (by omega), if_pos h6]; congr 1; omega
      · rw [if_neg (by omega), if_neg h6]; exact hg
  · rw [List.getElem?_set_ne e] at hq
    have hg := h3 q s hq j hj
    rcases Nat.lt_or_gt_of_ne e with hlt | hgt
    · have : (i + 1) * sh.length ≤ q * sh.length := Nat.mul_le_mul_right _ hlt
      rw [Nat.add_mul] at this
      rw [if_neg (by omega), if_neg (by omega)]; exact hg
    · have : (q + 1) * sh.length ≤ i * sh.length := Nat.mul_le_mul_right _ hgt
      rw [Nat.add_mul] at this
      rw [if_pos (by omega)]; exact hg

section
variable {P : Program} {w : World}

theorem cut_cap (need old : Nat) (e : TypeId) (x : Nat) (h : need ≤ 140737488355328) : need ≤ (Question.appendCap need old e).cut x := by
  simp only [Question.cut]
  omega

/-- 'append', where the new array must be laid -/
theorem run_append_lay {t t2 ty e e2 : TypeId} {i : TypeInfo} {z : Value} (ht : P.underlying t = some (.slice e)) (ht2 : P.underlying t2 = some (.slice e2)) (hi : P.info? e = some i) (hz : i.zero = some z)
    {base : Option Addr} {sLen sCap n : Nat} {x : Value} {old new : List Value} (hn : ∀ v : World, (Builtin.lenOf x).run P v = .ok n v)
    (hold : ∀ v : World, v.heap = w.heap → (Builtin.firstCells i.size sLen (.slice base sLen sCap)).run P v = .ok ⟨old⟩ v) (hnew : ∀ v : World, v.heap = w.heap → (Builtin.firstCells i.size n x).run P v = .ok ⟨new⟩ v)
    (hg : sCap < sLen + n) (hb : (sLen + n) * i.bytes ≤ 140737488355328) (h63 : sLen + n ≤ 140737488355328) :
    ∃ rest c, sLen + n ≤ c ∧ rest.length = (c - (sLen + n)) * z.cells.size ∧ (Builtin.append_ #[t, t2] ty #[.slice base sLen sCap, x]).run P w = .ok (.slice (some ⟨w.heap.size, 0, none⟩) (sLen + n) c) (w.drew.alloc (.cells ⟨old ++ new ++ rest⟩ e)) := by
  have hfit := growslice_fits hg hb
  have h1 : ¬ (sLen + n ≤ sCap) := by omega
  have h2 : ¬ (9223372036854775807 < ((sLen : Int) + (n : Int))) := by omega
  have h3 : ¬ (281474976710656 < Builtin.nextslicecap (sLen + n) sCap * i.bytes) := by omega
  refine ⟨(Builtin.zeroCells z.cells (grownCap w (sLen + n) sCap e - (sLen + n))).toList, grownCap w (sLen + n) sCap e, cut_cap _ _ _ _ h63, by simp [size_zeroCells], ?_⟩
  have e1 := hold w.drew rfl
  have e2' := hnew w.drew rfl
  have e3 := hn w
  simp [Builtin.append_, run_underlying ht, run_underlying ht2, sizeOf, typeInfo, zeroValue, hi, hz, e3, h1, h2, h3, Question.forced, e1, e2', newRow, grownCap]
  congr 2
  apply Array.ext'
  simp [List.append_assoc]

/-- .. where there is room -/
theorem run_append_in {t t2 ty e e2 : TypeId} {i : TypeInfo} (ht : P.underlying t = some (.slice e)) (ht2 : P.underlying t2 = some (.slice e2)) (hi : P.info? e = some i)
    {a : Addr} {sLen sCap n : Nat} {x : Value} {new : List Value} (hn : ∀ v : World, (Builtin.lenOf x).run P v = .ok n v) (hnew : (Builtin.firstCells i.size n x).run P w = .ok ⟨new⟩ w) (hg : sLen + n ≤ sCap) {w' : World}
    (hs : (storeCells (a.add (sLen * i.size)) new).run P w = .ok () w') :
    (Builtin.append_ #[t, t2] ty #[.slice (some a) sLen sCap, x]).run P w = .ok (.slice (some a) (sLen + n) sCap) w' := by
  have e3 := hn w
  simp [Builtin.append_, run_underlying ht, run_underlying ht2, sizeOf, typeInfo, hi, e3, hg, hnew, hs]

/-- .. where nothing is appended -/
theorem run_append_none {t t2 ty e e2 : TypeId} {i : TypeInfo} (ht : P.underlying t = some (.slice e)) (ht2 : P.underlying t2 = some (.slice e2)) (hi : P.info? e = some i)
    {base : Option Addr} {sLen sCap : Nat} {x : Value} (hn : ∀ v : World, (Builtin.lenOf x).run P v = .ok 0 v) (hnew : (Builtin.firstCells i.size 0 x).run P w = .ok #[] w) (hg : sLen ≤ sCap) :
    (Builtin.append_ #[t, t2] ty #[.slice base sLen sCap, x]).run P w = .ok (.slice base sLen sCap) w := by
  have e3 := hn w
  cases base with
  | none => simp [Builtin.append_, run_underlying ht, run_underlying ht2, sizeOf, typeInfo, hi, e3, hg, hnew]
  | some a => simp [Builtin.append_, run_underlying ht, run_underlying ht2, sizeOf, typeInfo, hi, e3, hg, hnew, storeCells]

end
end Go.Proofs.Ytceffompldihjaa.Rex
