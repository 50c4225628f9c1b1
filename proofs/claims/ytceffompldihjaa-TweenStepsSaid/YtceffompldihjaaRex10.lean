/- A WALK BY COMPUTATION, part 10: a statement whose order Go leaves open ends as computed. Conditions: none. Own work. -/
import Derived.Test.YtceffompldihjaaRex9
namespace Go.Proofs.Ytceffompldihjaa.Rex
open Go.RowKit
set_option linter.unusedVariables false
set_option linter.unusedSimpArgs false

/-- the stores further on -/
def laterOf (fs : List (Option (Nat × Nat × Nat))) (ms : List Nat) (i : Nat) : List (Option (Nat × Nat × Nat) × Nat) := (fs.drop (i + 1)).zip (ms.drop (i + 1))

inductive EntOk (kH : Nat) (C : Ctx) (ops : List Oper) (tm0 : List SV) (m0 : Mem) (acc : List Ent) (later : List (Option (Nat × Nat × Nat) × Nat)) (late : Nat → Bool) (i m : Nat) (o : Oper) (e : Ent) : Prop where
  | skip (h : guardR ops tm0 acc late m o.guard = .skip) (he : e = ⟨none, .tup [], none, none⟩)
  | run {p s b} (h : guardR ops tm0 acc late m o.guard = .run) (hq : qOp C.M C.P C.Γ ⟨evR ops tm0 acc late m, mmR m0 acc m later⟩ (m0.length + i) o.op = some (p, s, b))
      (he : e = ⟨p, s, b, none⟩ ∨ ∃ t kn b', s = .v (.one (.bool kn b')) ∧ e = ⟨andO (b' = t) p, lb true t, b, none⟩)
  | store (h : guardR ops tm0 acc late m o.guard = .run) (hs : stE C.P (evR ops tm0 acc late m) (mmR m0 acc m later) o.op = some e)
  | call (h : guardR ops tm0 acc late m o.guard = .run) (hs : callE C (evR ops tm0 acc late m) (mmR m0 acc m later) o.op = some e)
  | hole (h : i = kH) (he : e = holeE)

theorem dr_spec {kH : Nat} {C : Ctx} {ops : List Oper} {tm0 : List SV} {m0 : Mem} {asm : List (Nat × Bool)} {acc' : List Ent} {tail : List Oper} {msAll : List Nat} {fsAll : List (Option (Nat × Nat × Nat))} : ∀ {rest : List Oper} {ms : List Nat} {fs : List (Option (Nat × Nat × Nat))} {acc : List Ent} {pre : List Oper} {mpre : List Nat},
    ops = pre ++ rest → pre.length = acc.length → msAll = mpre ++ ms → mpre.length = acc.length → fs = fsAll.drop acc.length →
    (∀ i e, acc[i]? = some e → ∃ o m, ops[i]? = some o ∧ msAll[i]? = some m ∧ EntOk kH C ops tm0 m0 (acc.take i) (laterOf fsAll msAll i) (lateB (msAll.drop (i + 1)) i) i m o e) →
    dr C ops tm0 m0 asm rest ms fs acc = .ok acc' tail →
    (∀ i e, acc'[i]? = some e → ∃ o m, ops[i]? = some o ∧ msAll[i]? = some m ∧ EntOk kH C ops tm0 m0 (acc'.take i) (laterOf fsAll msAll i) (lateB (msAll.drop (i + 1)) i) i m o e) ∧ ∃ pre', ops = pre' ++ tail ∧ pre'.length = acc'.length := by
  intro rest
  induction rest with
  | nil =>
    intro ms fs acc pre mpre h1 h2 h3 h4 h6 h5 h
    unfold dr at h
    cases h
    exact ⟨h5, pre, h1, h2⟩
  | cons o rest ih =>
    intro ms fs acc pre mpre h1 h2 h3 h4 h6 h5 h
    cases ms with
    | nil => unfold dr at h; cases h
    | cons mask ms =>
      have ho : ops[acc.length]? = some o := by rw [h1, ← h2]; simp
      have hm : msAll[acc.length]? = some mask := by rw [h3, ← h4]; simp
      have hfs : fs.tail = fsAll.drop (acc.length + 1) := by rw [h6, List.tail_drop]
      have hlater : fs.tail.zip ms = laterOf fsAll msAll acc.length := by
        unfold laterOf
        rw [hfs, h3, ← h4]
        congr 1
        rw [List.drop_append]
        simp
      have hmsd : ms = msAll.drop (acc.length + 1) := by
        rw [h3, ← h4, List.drop_append]
        simp
      have grow : ∀ e, EntOk kH C ops tm0 m0 acc (laterOf fsAll msAll acc.length) (lateB (msAll.drop (acc.length + 1)) acc.length) acc.length mask o e → ∀ i e', (acc ++ [e])[i]? = some e' → ∃ o m, ops[i]? = some o ∧ msAll[i]? = some m ∧ EntOk kH C ops tm0 m0 ((acc ++ [e]).take i) (laterOf fsAll msAll i) (lateB (msAll.drop (i + 1)) i) i m o e' := by
        intro e he i e' hi
        rcases Nat.lt_or_ge i acc.length with hl | hl
        · rw [List.getElem?_append_left hl] at hi
          rw [List.take_append_of_le_length (Nat.le_of_lt hl)]
          exact h5 i e' hi
        · rw [List.getElem?_append_right hl] at hi
          cases hx : i - acc.length with
          | zero =>
            rw [hx] at hi
            simp at hi
            subst hi
            have : i = acc.length := by omega
            subst this
            refine ⟨o, mask, ho, hm, ?_⟩
            rw [List.take_append_of_le_length (Nat.le_refl _), List.take_length]
            exact he
          | succ n => rw [hx] at hi; simp at hi
      have step : ∀ e, EntOk kH C ops tm0 m0 acc (laterOf fsAll msAll acc.length) (lateB (msAll.drop (acc.length + 1)) acc.length) acc.length mask o e → dr C ops tm0 m0 asm rest (msAll.drop (acc.length + 1)) fs.tail (acc ++ [e]) = .ok acc' tail → _ := fun e he hd =>
        ih (pre := pre ++ [o]) (mpre := mpre ++ [mask]) (by simp [h1]) (by simp [h2]) (by rw [← hmsd]; simp [h3]) (by simp [h4]) (by rw [hfs]; simp) (grow e he) hd
      unfold dr at h
      rw [hlater, hmsd] at h
      split at h
      · cases h
      · cases h
      · rename_i hg
        exact step _ (.skip hg rfl) h
      · rename_i hg
        split at h
        · split at h
          · split at h
            · cases h
              exact ⟨h5, pre, h1, h2⟩
            · rename_i e he
              exact step _ (.call hg he) h
          · rename_i e he
            exact step _ (.store hg he) h
        · rename_i p s b hq
          split at h
          · exact step _ (.run hg hq (.inl rfl)) h
          · rename_i t ht
            split at h
            · rename_i kn b' hs
              refine step _ (.run hg hq (.inr ⟨t, kn, b', ?_, rfl⟩)) h
              unfold asBool at hs
              split at hs
              · cases hs; rfl
              · cases hs
            · cases h

def memT (listed : Array Bool) : Nat → List Ent → Mem
  | _, [] => []
  | j, e :: l => (match listed.getD j false with
    | true => e.b
    | false => none) :: memT listed (j + 1) l

theorem memT_length (listed : Array Bool) : ∀ (acc : List Ent) (k : Nat), (memT listed k acc).length = acc.length
  | [], k => rfl
  | e :: l, k => by simp [memT, memT_length listed l (k + 1)]
theorem memT_get (listed : Array Bool) : ∀ (acc : List Ent) (k x : Nat), (memT listed k acc)[x]? = (acc[x]?).map fun e => match listed.getD (k + x) false with
    | true => e.b
    | false => none
  | [], k, x => by simp [memT]
  | e :: l, k, 0 => by simp [memT]
  | e :: l, k, x + 1 => by
    rw [memT, List.getElem?_cons_succ, List.getElem?_cons_succ, memT_get listed l (k + 1) x, show k + 1 + x = k + (x + 1) by omega]

theorem getD_set {listed : Array Bool} {i j : Nat} (hi : i < listed.size) : (listed.setIfInBounds i true).getD j false = if i = j then true else listed.getD j false := by
  simp only [Array.getD_eq_getD_getElem?, Array.getElem?_setIfInBounds]
  split
  · rename_i e; subst e; simp [hi]
  · rfl

theorem memT_set {listed : Array Bool} {i : Nat} (hi : i < listed.size) {acc : List Ent} {e : Ent} (he : acc[i]? = some e) : memT (listed.setIfInBounds i true) 0 acc = (memT listed 0 acc).set i e.b := by
  apply List.ext_getElem?
  intro x
  rw [memT_get, List.getElem?_set, memT_get, getD_set hi, memT_length]
  simp only [Nat.zero_add]
  by_cases hx : i = x
  · subst hx
    obtain ⟨hl, rfl⟩ := List.getElem?_eq_some_iff.1 he
    simp [he, hl]
  · simp [hx]

def lookD (ops : List Oper) (tm0 : List SV) (acc : List Ent) (listed : Array Bool) (t : Tmp) : Option SV := match wrO t 0 ops with
  | some j => match listed.getD j false with
    | true => (acc[j]?).map (·.s)
    | false => tm0[t]?
  | none => tm0[t]?

theorem wrO_some {t : Tmp} : ∀ {ops : List Oper} {k j : Nat}, wrO t k ops = some j → k ≤ j ∧ ∃ o, ops[j - k]? = some o ∧ o.dst = some t
  | [], k, j, h => by cases h
  | o :: l, k, j, h => by
    unfold wrO at h
    split at h
    · obtain ⟨h1, o', h2, h3⟩ := wrO_some h
      exact ⟨by omega, o', by rw [show j - k = (j - (k + 1)) + 1 by omega, List.getElem?_cons_succ]; exact h2, h3⟩
    · rename_i d hd
      split at h
      · rename_i e
        cases h
        exact ⟨Nat.le_refl _, o, by simp, by rw [hd, Nat.eq_of_beq_eq_true e]⟩
      · obtain ⟨h1, o', h2, h3⟩ := wrO_some h
        exact ⟨by omega, o', by rw [show j - k = (j - (k + 1)) + 1 by omega, List.getElem?_cons_succ]; exact h2, h3⟩
theorem wrO_none {t : Tmp} : ∀ {ops : List Oper} {k : Nat}, wrO t k ops = none → ∀ o ∈ ops, o.dst ≠ some t
  | [], k, h, o, ho => by simp at ho
  | o :: l, k, h, o', ho => by
    unfold wrO at h
    split at h
    · rename_i hd
      rcases List.mem_cons.1 ho with rfl | ho
      · rw [hd]; simp
      · exact wrO_none h o' ho
    · rename_i d hd
      split at h
      · cases h
      · rename_i e
        rcases List.mem_cons.1 ho with rfl | ho
        · rw [hd]; intro e'; cases e'; exact Nat.ne_of_beq_eq_false e rfl
        · exact wrO_none h o' ho
theorem wrO_self {t : Tmp} : ∀ {ops : List Oper} {k i : Nat} {o : Oper}, dstsOk ops = true → ops[i]? = some o → o.dst = some t → wrO t k ops = some (k + i)
  | [], k, i, o, _, h, _ => by simp at h
  | p :: l, k, 0, o, hd, h, ht => by
    simp at h
    subst h
    unfold wrO
    rw [ht]
    simp
  | p :: l, k, i + 1, o, hd, h, ht => by
    simp at h
    unfold dstsOk at hd
    rw [Bool.and_eq_true] at hd
    have ih := wrO_self (k := k + 1) hd.2 h ht
    unfold wrO
    cases hp : p.dst with
    | none => simp only []; rw [ih]; congr 1; omega
    | some d =>
      simp only []
      have hne : Nat.beq d t = false := by
        cases hb : Nat.beq d t with
        | false => rfl
        | true =>
          have := Nat.eq_of_beq_eq_true hb
          subst this
          have h1 := hd.1
          rw [hp] at h1
          simp only at h1
          split at h1
          · rename_i hn
            exact absurd ht (wrO_none hn o (List.mem_of_getElem? h))
          · cases h1
      rw [hne]
      simp only []
      rw [ih]; congr 1; omega


/-! ### stores laid over cells -/
theorem spl_length (l : List Lf) (off : Nat) (cs : List Lf) : (spl l off cs).length = l.length := by
  unfold spl splice
  simp only [List.length_take, List.length_append, List.length_drop]
  omega
theorem spl_get (l : List Lf) (off : Nat) (cs : List Lf) (c : Nat) : (spl l off cs)[c]? = if c < l.length then (if off ≤ c ∧ c < off + cs.length then cs[c - off]? else l[c]?) else none := by
  unfold spl splice
  rw [List.getElem?_take]
  split
  · rename_i hc
    rcases Nat.lt_or_ge c off with h1 | h1
    · rw [if_neg (by omega), List.getElem?_append_left (by simp; omega), List.getElem?_take, if_pos h1]
    · have hlen : (List.take off l).length = off := by simp; omega
      rw [List.getElem?_append_right (by omega), hlen]
      rcases Nat.lt_or_ge c (off + cs.length) with h2 | h2
      · rw [if_pos ⟨h1, h2⟩, List.getElem?_append_left (by omega)]
      · rw [if_neg (by omega), List.getElem?_append_right (by omega), List.getElem?_drop]
        congr 1; omega
  · rfl
theorem spl_in {l : List Lf} {off : Nat} {cs : List Lf} (h : off + cs.length ≤ l.length) : spl l off cs = splice l off cs := by
  unfold spl
  rw [List.take_of_length_le]
  unfold splice
  simp; omega
theorem spl_comm {l : List Lf} {off off' : Nat} {cs cs' : List Lf} (h : off + cs.length ≤ off' ∨ off' + cs'.length ≤ off) : spl (spl l off cs) off' cs' = spl (spl l off' cs') off cs := by
  apply List.ext_getElem?
  intro c
  simp only [spl_get, spl_length]
  split
  · split
    · split
      · omega
      · first | rfl | simp_all
    · split
      · first | rfl | simp_all
      · first | rfl | simp_all
  · rfl

/-- the second says no more than the first: cell by cell the same, or one does not know what -/
def JLe (a b : List Lf) : Prop := a.length = b.length ∧ ∀ (c : Nat) (x y : Lf), a[c]? = some x → b[c]? = some y → y = x ∨ y = Lf.junk
theorem JLe.refl (a : List Lf) : JLe a a := ⟨rfl, fun c x y h k => .inl (by rw [h] at k; cases k; rfl)⟩
theorem JLe.has {β : Nm} : ∀ {a b : List Lf} {vs : List Value}, JLe a b → All₂ (HasL β) a vs → All₂ (HasL β) b vs
  | [], [], _, _, k => k
  | x :: a, y :: b, vs, h, k => by
    obtain ⟨v, vs, rfl, hv, k⟩ := k.cons_inv
    refine .cons ?_ (JLe.has (a := a) ⟨by simpa using h.1, fun c x y hx hy => h.2 (c + 1) x y (by simpa using hx) (by simpa using hy)⟩ k)
    rcases h.2 0 x y (by simp) (by simp) with rfl | rfl
    · exact hv
    · exact .junk hv.oneCell
  | [], _ :: _, _, h, _ => by have := h.1; simp at this
  | _ :: _, [], _, h, _ => by have := h.1; simp at this

theorem JLe.spl {a b : List Lf} (h : JLe a b) (off : Nat) (cs : List Lf) : JLe (Rex.spl a off cs) (Rex.spl b off cs) := by
  refine ⟨by rw [spl_length, spl_length]; exact h.1, fun c x y hx hy => ?_⟩
  rw [spl_get] at hx hy
  rw [h.1] at hx
  split at hx
  · rename_i hc
    rw [if_pos hc] at hy
    split at hx
    · rename_i hr
      rw [if_pos hr] at hy
      rw [hx] at hy; cases hy; exact .inl rfl
    · rename_i hr
      rw [if_neg hr] at hy
      exact h.2 c x y hx hy
  · cases hx
theorem JLe.junk {a b : List Lf} (h : JLe a b) (off n : Nat) : JLe a (Rex.spl b off (junks n)) := by
  refine ⟨by rw [spl_length]; exact h.1, fun c x y hx hy => ?_⟩
  rw [spl_get] at hy
  split at hy
  · split at hy
    · right
      unfold junks at hy
      rw [List.getElem?_replicate] at hy
      split at hy
      · cases hy; rfl
      · cases hy
    · exact h.2 c x y hx hy
  · cases hy
theorem JLe.splJunk {a b : List Lf} (h : JLe a b) (off : Nat) (cs : List Lf) : JLe (Rex.spl a off cs) (Rex.spl b off (junks cs.length)) := by
  refine ⟨by rw [spl_length, spl_length]; exact h.1, fun c x y hx hy => ?_⟩
  rw [spl_get] at hx hy
  have hj : (junks cs.length).length = cs.length := by simp [junks]
  rw [h.1] at hx
  rw [hj] at hy
  split at hx
  · rename_i hc
    rw [if_pos hc] at hy
    split at hx
    · rename_i hr
      rw [if_pos hr] at hy
      right
      unfold junks at hy
      rw [List.getElem?_replicate] at hy
      split at hy
      · cases hy; rfl
      · cases hy
    · rename_i hr
      rw [if_neg hr] at hy
      exact h.2 c x y hx hy
  · cases hx

theorem stepD_length (listed : Array Bool) (x k : Nat) (e : Ent) (l : List Lf) : (stepD listed x k e l).length = l.length := by
  unfold stepD
  split
  · split
    · split
      · rw [spl_length]
      · rfl
    · rfl
  · rfl
theorem overD_length (listed : Array Bool) (x : Nat) : ∀ (acc : List Ent) (k : Nat) (l : List Lf), (overD listed x k acc l).length = l.length
  | [], k, l => rfl
  | e :: es, k, l => by rw [overD, overD_length listed x es (k + 1), stepD_length]
theorem overD_append (listed : Array Bool) (x : Nat) : ∀ (a b : List Ent) (k : Nat) (l : List Lf), overD listed x k (a ++ b) l = overD listed x (k + a.length) b (overD listed x k a l)
  | [], b, k, l => rfl
  | e :: a, b, k, l => by
    rw [List.cons_append, overD, overD, overD_append listed x a b (k + 1)]
    congr 1
    simp; omega
theorem overD_none {listed : Array Bool} {x : Nat} : ∀ {acc : List Ent} {k : Nat} {l : List Lf}, (∀ (j : Nat) e y off cs, acc[j]? = some e → listed.getD (k + j) false = true → e.st = some (y, off, cs) → y ≠ x) → overD listed x k acc l = l
  | [], k, l, _ => rfl
  | e :: es, k, l, h => by
    have : stepD listed x k e l = l := by
      unfold stepD
      split
      · rename_i y off cs hs
        split
        · rename_i hb
          split
          · rename_i hl
            exact absurd (Nat.eq_of_beq_eq_true hb) (h 0 e y off cs (by simp) hl hs)
          · rfl
        · rfl
      · rfl
    rw [overD, this]
    exact overD_none fun j e' y off cs h1 h2 h3 => h (j + 1) e' y off cs (by simpa using h1) (by rw [show k + (j + 1) = k + 1 + j by omega]; exact h2) h3
theorem overD_congr {listed listed' : Array Bool} {x : Nat} : ∀ {acc : List Ent} {k : Nat} {l : List Lf}, (∀ (j : Nat) e y off cs, acc[j]? = some e → e.st = some (y, off, cs) → y = x → listed.getD (k + j) false = listed'.getD (k + j) false) → overD listed x k acc l = overD listed' x k acc l
  | [], k, l, _ => rfl
  | e :: es, k, l, h => by
    have : stepD listed x k e l = stepD listed' x k e l := by
      unfold stepD
      cases hs : e.st with
      | none => rfl
      | some z =>
        obtain ⟨y, off, cs⟩ := z
        simp only
        cases hb : Nat.beq y x with
        | false => rfl
        | true =>
          simp only
          have := h 0 e y off cs (by simp) hs (Nat.eq_of_beq_eq_true hb)
          simp only [Nat.add_zero] at this
          rw [this]
    rw [overD, overD, this]
    exact overD_congr fun j e' y off cs h1 h2 h3 => by
      have := h (j + 1) e' y off cs (by simpa using h1) h2 h3
      rw [show k + 1 + j = k + (j + 1) by omega]; exact this
/-- one store more, that lies over none of those further on -/
theorem overD_spl {listed : Array Bool} {x off : Nat} {cs : List Lf} : ∀ {acc : List Ent} {k : Nat} {l : List Lf}, (∀ (j : Nat) e y off' cs', acc[j]? = some e → listed.getD (k + j) false = true → e.st = some (y, off', cs') → y = x → off + cs.length ≤ off' ∨ off' + cs'.length ≤ off) →
    overD listed x k acc (spl l off cs) = spl (overD listed x k acc l) off cs
  | [], k, l, _ => rfl
  | e :: es, k, l, h => by
    have : stepD listed x k e (spl l off cs) = spl (stepD listed x k e l) off cs := by
      unfold stepD
      cases hs : e.st with
      | none => rfl
      | some z =>
        obtain ⟨y, off', cs'⟩ := z
        simp only
        cases hb : Nat.beq y x with
        | false => rfl
        | true =>
          simp only
          cases hl : listed.getD k false with
          | false => rfl
          | true => exact spl_comm (h 0 e y off' cs' (by simp) hl hs (Nat.eq_of_beq_eq_true hb))
    rw [overD, overD, this]
    exact overD_spl fun j e' y off' cs' h1 h2 h3 h4 => h (j + 1) e' y off' cs' (by simpa using h1) (by rw [show k + (j + 1) = k + 1 + j by omega]; exact h2) h3 h4

theorem overM_length (listed : Array Bool) (acc : List Ent) : ∀ (m : Mem) (k : Nat), (overM listed acc k m).length = m.length
  | [], k => rfl
  | b :: m, k => by simp [overM, overM_length listed acc m (k + 1)]
theorem overM_get (listed : Array Bool) (acc : List Ent) : ∀ (m : Mem) (k y : Nat), (overM listed acc k m)[y]? = (m[y]?).map (blkD listed acc (k + y))
  | [], k, y => by simp [overM]
  | b :: m, k, 0 => rfl
  | b :: m, k, y + 1 => by
    rw [overM, List.getElem?_cons_succ, List.getElem?_cons_succ, overM_get listed acc m (k + 1) y, show k + 1 + y = k + (y + 1) by omega]

/-- what an operation is told of a block is no more than what is so -/
theorem overE_le {listed : Array Bool} {mask x : Nat} (hm : ∀ j, mask.testBit j = true → listed.getD j false = true) : ∀ {acc : List Ent} {k : Nat} {a b : List Lf}, JLe a b → JLe (overD listed x k acc a) (overE mask x k acc b)
  | [], k, a, b, h => h
  | e :: es, k, a, b, h => by
    rw [overD, overE]
    refine overE_le hm ?_
    unfold stepD stepE
    cases hs : e.st with
    | none => exact h
    | some z =>
      obtain ⟨y, off, cs⟩ := z
      simp only
      cases hb : Nat.beq y x with
      | false => exact h
      | true =>
        simp only
        cases ht : mask.testBit k with
        | true => rw [hm k ht]; exact h.spl off cs
        | false =>
          simp only
          cases hl : listed.getD k false with
          | true => exact h.splJunk off cs
          | false => exact h.junk off cs.length
theorem stepL_le {i x mj : Nat} {f : Option (Nat × Nat × Nat)} {a b : List Lf} (h : JLe a b) : JLe a (stepL i x f mj b) := by
  unfold stepL
  split
  · split
    · split
      · exact h
      · exact h.junk _ _
    · exact h
  · exact h
theorem overL_le0 {i x : Nat} : ∀ {later : List (Option (Nat × Nat × Nat) × Nat)} {a b : List Lf}, JLe a b → JLe a (overL i x later b)
  | [], a, b, h => h
  | (f, mj) :: later, a, b, h => by rw [overL]; exact overL_le0 (stepL_le h)
theorem overL_le {listed : Array Bool} {i x : Nat} : ∀ {acc : List Ent} {k : Nat} {later : List (Option (Nat × Nat × Nat) × Nat)} {a b : List Lf}, JLe a b →
    (∀ (j : Nat) e y off cs, acc[j]? = some e → e.st = some (y, off, cs) → ∃ mj, later[j]? = some (some (y, off, cs.length), mj) ∧ (mj.testBit i = true → listed.getD (k + j) false = false)) → JLe (overD listed x k acc a) (overL i x later b)
  | [], k, later, a, b, h, _ => overL_le0 h
  | e :: es, k, [], a, b, h, hl => by
    have hn : e.st = none := by
      cases hs : e.st with
      | none => rfl
      | some z =>
        obtain ⟨y, off, cs⟩ := z
        obtain ⟨mj, h1, _⟩ := hl 0 e y off cs (by simp) hs
        simp at h1
    have : stepD listed x k e a = a := by unfold stepD; rw [hn]
    rw [overD, this]
    exact overL_le h fun j e' y off cs h1 h2 => by
      obtain ⟨mj, h3, _⟩ := hl (j + 1) e' y off cs (by simpa using h1) h2
      simp at h3
  | e :: es, k, (f, mj) :: later, a, b, h, hl => by
    rw [overD, overL]
    refine overL_le ?_ fun j e' y off cs h1 h2 => by
      obtain ⟨mj, h3, h4⟩ := hl (j + 1) e' y off cs (by simpa using h1) h2
      exact ⟨mj, by simpa using h3, fun ht => by rw [show k + 1 + j = k + (j + 1) by omega]; exact h4 ht⟩
    cases hs : e.st with
    | none =>
      have : stepD listed x k e a = a := by unfold stepD; rw [hs]
      rw [this]
      exact stepL_le h
    | some z =>
      obtain ⟨y, off, cs⟩ := z
      obtain ⟨mj', h3, h4⟩ := hl 0 e y off cs (by simp) hs
      simp only [List.getElem?_cons_zero, Option.some.injEq, Prod.mk.injEq] at h3
      obtain ⟨rfl, rfl⟩ := h3
      unfold stepD stepL
      rw [hs]
      simp only
      cases hb : Nat.beq y x with
      | false => exact h
      | true =>
        simp only
        cases ht : mj.testBit i with
        | true =>
          have := h4 ht
          simp only [Nat.add_zero] at this
          rw [this]
          exact h
        | false =>
          simp only
          cases hq : listed.getD k false with
          | true => exact h.splJunk off cs
          | false => exact h.junk off cs.length

end Go.Proofs.Ytceffompldihjaa.Rex
