/- A WALK BY COMPUTATION, part 11: a statement whose order Go leaves open ends as computed. Conditions: none. Own work. -/
import Derived.Test.YtceffompldihjaaRex10
namespace Go.Proofs.Ytceffompldihjaa.Rex
open Go.RowKit
set_option linter.unusedVariables false
set_option linter.unusedSimpArgs false

/-- what has been checked of such a statement -/
structure RegOk (kH : Nat) (C : Ctx) (ops : List Oper) (tm0 : List SV) (m0 : Mem) (ms : List Nat) (fs : List (Option (Nat × Nat × Nat))) (acc : List Ent) : Prop where
  ent : ∀ i e, acc[i]? = some e → ∃ o m, ops[i]? = some o ∧ ms[i]? = some m ∧ EntOk kH C ops tm0 m0 (acc.take i) (laterOf fs ms i) (lateB (ms.drop (i + 1)) i) i m o e
  mok : MOk ops ms
  mlen : ms.length = ops.length
  foot : ∀ (i j : Nat) e y off cs, i < j → acc[j]? = some e → e.st = some (y, off, cs) → ∃ mj, (laterOf fs ms i)[j - (i + 1)]? = some (some (y, off, cs.length), mj) ∧ ms[j]? = some mj
  pair : ∀ (i j : Nat) ei ej (m : Nat) y off cs off' cs', i < j → acc[i]? = some ei → acc[j]? = some ej → ei.st = some (y, off, cs) → ej.st = some (y, off', cs') → ms[j]? = some m → off + cs.length ≤ off' ∨ off' + cs'.length ≤ off ∨ m.testBit i = true
  ds : dstsOk ops = true
  din : ∀ o ∈ ops, ∀ t, o.dst = some t → t < tm0.length
  obs : ∀ e ∈ acc, ob e.p

def memD (m0 : Mem) (acc : List Ent) (listed : Array Bool) : Mem := overM listed acc 0 (m0 ++ memT listed 0 acc)

/-- in the midst of such a statement: what has been listed has been done -/
structure Inv (bs : Nat) (ops : List Oper) (tm0 : List SV) (m0 : Mem) (acc : List Ent) (β0 : Nm) (w0 : World) (listed : Array Bool) (β : Nm) (a : Act) (w : World) : Prop where
  size : listed.size = ops.length
  head : ∀ i, listed.getD i false = true → i < acc.length
  closed : Closed ops listed
  sat : Sat β (memD m0 acc listed) w
  fresh : ∀ (j : Nat) (e : Ent), acc[j]? = some e → (listed.getD j false = false ∨ e.b = none) → β (m0.length + j) = none
  since : Since m0 β0 w0 (memD m0 acc listed) β w
  tm : ∀ t s, lookD ops tm0 acc listed t = some s → ∃ v, a.tmps[t]? = some v ∧ Has β s v
  tsize : a.tmps.size = tm0.length
  df : Marks bs w0 a.defers

section
variable {kH bs : Nat} {C : Ctx} {ops : List Oper} {tm0 : List SV} {m0 : Mem} {acc : List Ent} {β0 : Nm} {w0 : World} {listed : Array Bool} {β : Nm} {a : Act} {w : World} {ms : List Nat} {fs : List (Option (Nat × Nat × Nat))}

/-- a listed operation's elders are listed -/
theorem Closed.mask (hR : RegOk kH C ops tm0 m0 ms fs acc) (hc : Closed ops listed) {j m : Nat} {o : Oper} (hm : ms[j]? = some m) (ho : ops[j]? = some o) (hl : listed.getD j false = true) : ∀ k, m.testBit k = true → listed.getD k false = true :=
  mask_listed hR.mok hc hR.mlen j m o hm ho fun e he hb => hc j o hl ho e he hb

theorem mmR_base {m : Nat} {later : List (Option (Nat × Nat × Nat) × Nat)} {y : Nat} {bl : Blk} {acc' : List Ent} (hmm : mmR m0 acc' m later y = some bl) : y < m0.length ∨ m.testBit (y - m0.length) = true := by
  unfold mmR baseR at hmm
  cases hb : Nat.blt y m0.length with
  | true => left; rw [Nat.blt_eq] at hb; exact hb
  | false =>
    right
    rw [hb] at hmm
    cases ht : m.testBit (y - m0.length) with
    | true => rfl
    | false => rw [ht] at hmm; simp at hmm

theorem callE_spec {ev : Operand → Option SV} {mm : Nat → Option Blk} {o : Op} {e : Ent} (h : callE C ev mm o = some e) : ∃ (c : Call) (f : Operand) (id : FuncId) (y : Nat) (rest : List SV) (l : List Lf) (t : TypeId) (bc : BC) (p : Option Prop) (s : SV) (new : List Lf),
    o = .call c ∧ c.callee = .value f ∧ ev f = some (.clo id []) ∧ omap ev c.args.toList = some (.v (.one (.ptr y 0)) :: rest) ∧ mm y = some (.cells l t) ∧ find C.B id = some bc ∧ bc rest l t = some (p, s, new) ∧ new.length = l.length ∧ e = ⟨p, s, none, some (y, 0, new)⟩ := by
  unfold callE at h
  split at h
  · rename_i c
    split at h
    · rename_i f hf
      split at h
      · rename_i id hid
        split at h
        · rename_i y rest hr
          split at h
          · rename_i l t hl
            split at h
            · rename_i bc hbc
              split at h
              · rename_i p s new hq
                split at h
                · rename_i hn
                  cases h
                  exact ⟨c, f, id, y, rest, l, t, bc, p, s, new, rfl, hf, hid, hr, hl, hbc, hq, Nat.eq_of_beq_eq_true hn, rfl⟩
                · cases h
              · cases h
            · cases h
          · cases h
        · cases h
      · cases h
    · cases h
  · cases h

/-- where a store lies: in a block that was there, or was made ahead of it for sure -/
theorem store_base {i m : Nat} {o : Oper} {e : Ent} {later : List (Option (Nat × Nat × Nat) × Nat)} {late : Nat → Bool} (hE : EntOk kH C ops tm0 m0 (acc.take i) later late i m o e) {y off : Nat} {cs : List Lf} (hs : e.st = some (y, off, cs)) : y < m0.length ∨ m.testBit (y - m0.length) = true := by
  cases hE with
  | hole h he => subst he; cases hs
  | skip h he => subst he; cases hs
  | run h hq he => rcases he with rfl | ⟨t, kn, b', _, rfl⟩ <;> cases hs
  | call h hst =>
    obtain ⟨c, f, id, y', rest, l, t, bc, p, s, new, _, _, _, _, hmm, _, _, _, rfl⟩ := callE_spec hst
    cases hs
    exact mmR_base hmm
  | store h hst =>
    unfold stE at hst
    split at hst
    · split at hst
      · split at hst
        · rename_i l t hmm
          split at hst
          · split at hst
            · cases hst
              cases hs
              unfold mmR baseR at hmm
              cases hb : Nat.blt y m0.length with
              | true => left; rw [Nat.blt_eq] at hb; exact hb
              | false =>
                right
                rw [hb] at hmm
                cases ht : m.testBit (y - m0.length) with
                | true => rfl
                | false => rw [ht] at hmm; simp at hmm
            · cases hst
          · cases hst
        · cases hst
      · cases hst
    · cases hst

theorem Inv.ev (h : Inv bs ops tm0 m0 acc β0 w0 listed β a w) {i m : Nat} (hm : ∀ j, m.testBit j = true → listed.getD j false = true) {late : Nat → Bool} (hla : ∀ j, late j = true → listed.getD j false = false) {x : Operand} {s : SV} (hx : evR ops tm0 (acc.take i) late m x = some s) : Has β s (a.eval x) := by
  have tmp : ∀ (t : Tmp) (s : SV), lookD ops tm0 acc listed t = some s → Has β s (a.eval (.tmp t)) := by
    intro t s hl
    obtain ⟨v, hv, hs⟩ := h.tm t s hl
    have : a.eval (.tmp t) = v := by simp [Act.eval, hv]
    rw [this]; exact hs
  unfold evR at hx
  split at hx
  · rename_i t
    split at hx
    · rename_i j hw
      split at hx
      · rename_i hb
        split at hx
        · rename_i e he
          have he' : acc[j]? = some e := by
            rw [List.getElem?_take] at he
            split at he
            · exact he
            · cases he
          have hl : lookD ops tm0 acc listed t = some e.s := by
            unfold lookD
            rw [hw]
            simp only
            rw [hm j hb]
            simp [he']
          have := tmp t _ hl
          split at hx
          · cases hx
          · cases hx; exact this
        · cases hx
      · split at hx
        · rename_i hl
          have hl := hla j hl
          unfold Rex.ev at hx
          simp only at hx
          have ht0 : tm0[t]? = some s := by
            split at hx
            · cases hx
            · exact hx
          exact tmp t s (by unfold lookD; rw [hw]; simp only; rw [hl]; exact ht0)
        · cases hx
    · rename_i hw
      unfold Rex.ev at hx
      simp only at hx
      have hl : tm0[t]? = some s := by
        split at hx
        · cases hx
        · exact hx
      exact tmp t s (by unfold lookD; rw [hw]; exact hl)
  · rename_i hne
    unfold Rex.ev at hx
    split at hx
    · exact absurd rfl (hne _)
    · exact ofValue_has hx
    · cases hx; exact .v (.one (.op rfl))
    · cases hx; exact .clo .nil

theorem base_mem {m : Nat} (hm : ∀ j, m.testBit j = true → listed.getD j false = true) {i x : Nat} {bl : Blk} (hbase : baseR m0 (acc.take i) m x = some bl) : (m0 ++ memT listed 0 acc)[x]? = some (some bl) := by
  unfold baseR at hbase
  split at hbase
  · rename_i hlt
    have hlt' : x < m0.length := by simpa [Nat.blt_eq] using hlt
    rw [List.getElem?_append_left hlt']
    unfold mmOf at hbase
    split at hbase
    · cases hbase; assumption
    · cases hbase
  · rename_i hlt
    have hge : m0.length ≤ x := by
      rcases Nat.lt_or_ge x m0.length with h | h
      · rw [show Nat.blt x m0.length = true by rw [Nat.blt_eq]; exact h] at hlt; cases hlt
      · exact h
    split at hbase
    · rename_i hb
      split at hbase
      · rename_i e he
        have he' : acc[x - m0.length]? = some e := by
          rw [List.getElem?_take] at he
          split at he
          · exact he
          · cases he
        rw [List.getElem?_append_right hge, memT_get]
        simp only [Nat.zero_add, hm _ hb, he', Option.map_some, hbase]
      · cases hbase
    · cases hbase

theorem Inv.env (hR : RegOk kH C ops tm0 m0 ms fs acc) (h : Inv bs ops tm0 m0 acc β0 w0 listed β a w) {i m : Nat} (hi : i < acc.length) (hun : listed.getD i false = false) (hm : ∀ j, m.testBit j = true → listed.getD j false = true) {late : Nat → Bool} (hla : ∀ j, late j = true → listed.getD j false = false) :
    EOk β ⟨evR ops tm0 (acc.take i) late m, mmR m0 (acc.take i) m (laterOf fs ms i)⟩ a w := by
  refine ⟨fun x s hx => h.ev hm hla hx, fun x b hx => ?_, h.sat.gl, fun x l t k hx hk => ?_⟩
  have hx' : mmR m0 (acc.take i) m (laterOf fs ms i) x = some b := hx
  unfold mmR at hx'
  split at hx'
  · rename_i l t hbase
    cases hx'
    have hlen : (acc.take i).length = i := by simp; omega
    have hmem := base_mem (listed := listed) hm hbase
    have hD : (memD m0 acc listed)[x]? = some (some (.cells (overD listed x 0 acc l) t)) := by
      unfold memD
      rw [overM_get, hmem]
      simp only [Option.map_some, Nat.zero_add, blkD]
    obtain ⟨k, hk, vs, hob, hvs⟩ := h.sat.cells hD
    refine .inr ⟨k, hk, vs, hob, JLe.has ?_ hvs⟩
    obtain ⟨e, he⟩ : ∃ e, acc[i]? = some e := ⟨_, List.getElem?_eq_getElem hi⟩
    have hsplit : acc = acc.take i ++ (e :: acc.drop (i + 1)) := by
      have h1 : acc[i] = e := (List.getElem?_eq_some_iff.1 he).2
      rw [← h1]
      simp
    have hs : overD listed x 0 acc l = overD listed x (i + 1) (acc.drop (i + 1)) (overD listed x 0 (acc.take i) l) := by
      conv => lhs; rw [hsplit]
      rw [overD_append, hlen, overD]
      simp only [Nat.zero_add]
      congr 1
      unfold stepD
      split
      · split
        · rw [hun]
        · rfl
      · rfl
    rw [hs, hlen]
    refine overL_le (overE_le hm (JLe.refl l)) ?_
    intro j e' y off cs hj hst
    have hj' : acc[i + 1 + j]? = some e' := by rw [List.getElem?_drop] at hj; exact hj
    obtain ⟨mj, h1, h2⟩ := hR.foot i (i + 1 + j) e' y off cs (by omega) hj' hst
    rw [show i + 1 + j - (i + 1) = j by omega] at h1
    refine ⟨mj, h1, fun ht => ?_⟩
    cases hl : listed.getD (i + 1 + j) false with
    | false => rfl
    | true =>
      obtain ⟨o', m', ho', hm', _⟩ := hR.ent _ _ hj'
      rw [h2] at hm'
      cases hm'
      have := h.closed.mask hR h2 ho' hl i ht
      rw [hun] at this
      cases this
  · rename_i ro z sh xs base tot t hbase
    cases hx'
    have hmem := base_mem (listed := listed) hm hbase
    have hD : (memD m0 acc listed)[x]? = some (some (.rows ro z sh xs base tot t)) := by
      unfold memD
      rw [overM_get, hmem]
      simp only [Option.map_some, Nat.zero_add, blkD]
    exact h.sat.blk x _ hD
  · rename_i r j hbase
    cases hx'
    have hmem := base_mem (listed := listed) hm hbase
    have hD : (memD m0 acc listed)[x]? = some (some (.loop r j)) := by
      unfold memD
      rw [overM_get, hmem]
      simp only [Option.map_some, Nat.zero_add, blkD]
    exact h.sat.blk x _ hD
  · cases hx'
  · have hx' : mmR m0 (acc.take i) m (laterOf fs ms i) x = some (.cells l t) := hx
    unfold mmR at hx'
    split at hx'
    · rename_i l0 t0 hbase
      cases hx'
      have hmem := base_mem (listed := listed) hm hbase
      have hD : (memD m0 acc listed)[x]? = some (some (.cells (overD listed x 0 acc l0) t)) := by
        unfold memD
        rw [overM_get, hmem]
        simp only [Option.map_some, Nat.zero_add, blkD]
      exact h.sat.ng x k ⟨_, hD, trivial⟩ hk
    · cases hx'
    · cases hx'
    · cases hx'

theorem Inv.guard (h : Inv bs ops tm0 m0 acc β0 w0 listed β a w) {i m : Nat} (hm : ∀ j, m.testBit j = true → listed.getD j false = true) {late : Nat → Bool} (hla : ∀ j, late j = true → listed.getD j false = false) {o : Oper} :
    (guardR ops tm0 (acc.take i) late m o.guard = .run → Region.wanted o (yielded ⟨ops⟩ a.tmps) = true) ∧ (guardR ops tm0 (acc.take i) late m o.guard = .skip → Region.wanted o (yielded ⟨ops⟩ a.tmps) = false) := by
  cases hg : o.guard with
  | none => exact ⟨fun _ => by simp [Region.wanted, hg], fun h => by simp [guardR] at h⟩
  | some jw =>
    obtain ⟨j, want⟩ := jw
    unfold guardR
    simp only
    cases hj : ops[j]? with
    | none => simp
    | some oj =>
      simp only
      cases hd : oj.dst with
      | none => simp
      | some t =>
        simp only
        cases he : evR ops tm0 (acc.take i) late m (.tmp t) with
        | none => simp
        | some s =>
          have hs := h.ev hm hla he
          have hy : ∀ v, a.eval (.tmp t) = v → v ≠ undef → (((⟨ops⟩ : Array Oper)[j]?).bind (·.dst)).bind (a.tmps[·]?) = some v := by
            intro v hv hne
            have hj' : (⟨ops⟩ : Array Oper)[j]? = some oj := by simpa using hj
            rw [hj']
            simp only [Option.bind_some, hd]
            cases hq : a.tmps[t]? with
            | none => exfalso; apply hne; rw [← hv]; simp [Act.eval, hq]
            | some u => rw [← hv]; simp [Act.eval, hq]
          have hskip : a.eval (.tmp t) = .tuple #[] → Region.wanted o (yielded ⟨ops⟩ a.tmps) = false := by
            intro hv
            have hj' : (⟨ops⟩ : Array Oper)[j]? = some oj := by simpa using hj
            simp only [Region.wanted, hg, yielded, hj', Option.bind_some, hd]
            cases hq : a.tmps[t]? with
            | none => rfl
            | some u =>
              have : u = .tuple #[] := by rw [← hv]; simp [Act.eval, hq]
              subst this; rfl
          split
          · rename_i kn b heq
            cases heq
            have hb : a.eval (.tmp t) = .bool b := by
              cases hs with
              | v hs => cases hs with
                | one hs => generalize a.eval (.tmp t) = q at hs ⊢; cases hs; rfl
            have hyb := hy _ hb (by simp [undef])
            have key : Region.wanted o (yielded ⟨ops⟩ a.tmps) = decide (b = want) := by
              simp only [Region.wanted, hg, yielded, hyb]
              cases b <;> cases want <;> rfl
            split
            · split
              · rename_i hd; exact ⟨fun _ => by rw [key, hd], fun h => by cases h⟩
              · rename_i hd; exact ⟨fun h => (by cases h), fun _ => by rw [key, hd]⟩
            · exact ⟨fun h => (by cases h), fun h => (by cases h)⟩
          · rename_i heq
            cases heq
            refine ⟨fun h => (by cases h), fun _ => hskip ?_⟩
            generalize a.eval (.tmp t) = q at hs ⊢
            cases hs with
            | tup hs => rw [hs.nil_inv]
          · exact ⟨fun h => (by cases h), fun h => (by cases h)⟩

/-- the state behind one more -/
theorem Inv.step (hR : RegOk kH C ops tm0 m0 ms fs acc) (h : Inv bs ops tm0 m0 acc β0 w0 listed β a w) {i : Nat} {o : Oper} {e : Ent} (ho : ops[i]? = some o) (he : acc[i]? = some e) (hun : listed.getD i false = false)
    (hdeps : ∀ d ∈ o.after.toList, Region.binds .any d = true → listed.getD d.on false = true) {β' : Nm} {r : Value} {w' : World} (hs : Has β' e.s r)
    (hsat : Sat β' (memD m0 acc (listed.setIfInBounds i true)) w') (hsin : Since m0 β0 w0 (memD m0 acc (listed.setIfInBounds i true)) β' w') (hle : β.le β') (hfr : ∀ j, m0.length + j ≠ m0.length + i ∨ e.b = none → β (m0.length + j) = none → β' (m0.length + j) = none) :
    Inv bs ops tm0 m0 acc β0 w0 (listed.setIfInBounds i true) β' (a.put o.dst r) w' := by
  have hi : i < listed.size := by rw [h.size]; exact (List.getElem?_eq_some_iff.1 ho).1
  have hia : i < acc.length := (List.getElem?_eq_some_iff.1 he).1
  refine ⟨by simpa using h.size, ?_, ?_, hsat, ?_, hsin, ?_, ?_, by rw [put_defers]; exact h.df⟩
  · intro j hj
    rw [getD_set hi] at hj
    split at hj
    · omega
    · exact h.head j hj
  · intro j oj hj hoj d hd hb
    rw [getD_set hi] at hj
    rw [getD_set hi]
    split
    · rfl
    · split at hj
      · rename_i e1; subst e1
        rw [ho] at hoj; cases hoj
        exact hdeps d hd hb
      · exact h.closed j oj hj hoj d hd hb
  · intro j ej hj hor
    rw [getD_set hi] at hor
    by_cases hij : i = j
    · subst hij
      rw [he] at hj; cases hj
      rw [if_pos rfl] at hor
      have hb : e.b = none := hor.resolve_left (by simp)
      exact hfr i (.inr hb) (h.fresh i e he (.inl hun))
    · rw [if_neg hij] at hor
      exact hfr j (.inl (by omega)) (h.fresh j ej hj hor)
  · intro t s hl
    unfold lookD at hl
    have same : o.dst ≠ some t → ∀ v, a.tmps[t]? = some v → (a.put o.dst r).tmps[t]? = some v := by
      intro hne v hv
      cases hd : o.dst with
      | none => exact hv
      | some d =>
        show (a.tmps.setIfInBounds d r)[t]? = some v
        rw [Array.getElem?_setIfInBounds_ne (by intro e1; subst e1; exact hne hd)]
        exact hv
    cases hw : wrO t 0 ops with
    | none =>
      rw [hw] at hl
      obtain ⟨v, hv, hh⟩ := h.tm t s (by unfold lookD; rw [hw]; exact hl)
      exact ⟨v, same (wrO_none hw o (List.mem_of_getElem? ho)) v hv, hh.mono hle⟩
    | some j =>
      rw [hw] at hl
      simp only at hl
      rw [getD_set hi] at hl
      by_cases hij : i = j
      · subst hij
        rw [if_pos rfl] at hl
        simp only [he, Option.map_some, Option.some.injEq] at hl
        subst hl
        obtain ⟨_, o', ho', hd'⟩ := wrO_some hw
        simp only [Nat.sub_zero] at ho'
        rw [ho] at ho'; cases ho'
        refine ⟨r, ?_, hs⟩
        have : t < a.tmps.size := by
          rw [h.tsize]
          exact hR.din o (List.mem_of_getElem? ho) t hd'
        rw [hd']
        show (a.tmps.setIfInBounds t r)[t]? = some r
        simp [this]
      · rw [if_neg hij] at hl
        obtain ⟨v, hv, hh⟩ := h.tm t s (by unfold lookD; rw [hw]; exact hl)
        refine ⟨v, same ?_ v hv, hh.mono hle⟩
        intro e1
        have := wrO_self (k := 0) hR.ds ho e1
        rw [hw] at this
        simp at this
        omega
  · cases hd : o.dst with
    | none => exact h.tsize
    | some d => show (a.tmps.setIfInBounds d r).size = _; simpa using h.tsize

/-- what becomes of the memory's picture: nothing -/
theorem memD_same {i : Nat} (hi : i < listed.size) {e : Ent} (he : acc[i]? = some e) (hun : listed.getD i false = false) (hb : e.b = none) (hst : e.st = none) : memD m0 acc (listed.setIfInBounds i true) = memD m0 acc listed := by
  have hmemi : (memT listed 0 acc)[i]? = some none := by
    rw [memT_get, he]
    simp only [Nat.zero_add, hun, Option.map_some]
  have hset : memT (listed.setIfInBounds i true) 0 acc = memT listed 0 acc := by
    rw [memT_set hi he, hb]
    apply List.ext_getElem?
    intro x
    rw [List.getElem?_set]
    split
    · rename_i e1; subst e1
      have hl := (List.getElem?_eq_some_iff.1 hmemi).1
      rw [if_pos hl, hmemi]
    · rfl
  unfold memD
  rw [hset]
  apply List.ext_getElem?
  intro x
  rw [overM_get, overM_get]
  congr 1
  funext b
  cases b with
  | none => rfl
  | some b =>
    cases b with
    | rows => rfl
    | loop => rfl
    | cells l t =>
      simp only [blkD]
      congr 2
      refine overD_congr fun j e' y off cs h1 h2 _ => ?_
      rw [getD_set hi]
      split
      · rename_i e1
        rw [Nat.zero_add] at e1
        subst e1
        rw [he] at h1; cases h1
        rw [hst] at h2; cases h2
      · rfl

/-- .. a block more -/
theorem memD_alloc (hR : RegOk kH C ops tm0 m0 ms fs acc) (hc : Closed ops listed) {i : Nat} (hi : i < listed.size) {e : Ent} (he : acc[i]? = some e) (hun : listed.getD i false = false) {bl : Blk} (hb : e.b = some bl) (hst : e.st = none) :
    memD m0 acc (listed.setIfInBounds i true) = (memD m0 acc listed).set (m0.length + i) (some bl) := by
  have hia := (List.getElem?_eq_some_iff.1 he).1
  have hset : m0 ++ memT (listed.setIfInBounds i true) 0 acc = (m0 ++ memT listed 0 acc).set (m0.length + i) (some bl) := by
    rw [memT_set hi he, hb, List.set_append_right _ _ (by omega), show m0.length + i - m0.length = i by omega]
  unfold memD
  rw [hset]
  apply List.ext_getElem?
  intro x
  rw [overM_get, List.getElem?_set, List.getElem?_set, overM_get, overM_length]
  simp only [Nat.zero_add]
  have hlen : m0.length + i < (m0 ++ memT listed 0 acc).length := by simp [memT_length]; exact hia
  have hcong : ∀ l, overD (listed.setIfInBounds i true) x 0 acc l = overD listed x 0 acc l := by
    intro l
    refine overD_congr fun j e' y off cs h1 h2 _ => ?_
    rw [getD_set hi]
    split
    · rename_i e1
      rw [Nat.zero_add] at e1
      subst e1
      rw [he] at h1; cases h1
      rw [hst] at h2; cases h2
    · rfl
  by_cases hx : m0.length + i = x
  · subst hx
    simp only [if_pos hlen, if_true, Option.map_some]
    cases bl with
    | rows => rfl
    | loop => rfl
    | cells l t =>
      simp only [blkD]
      rw [hcong, overD_none]
      intro j e' y off cs h1 h2 h3 hy
      rw [Nat.zero_add] at h2
      obtain ⟨o', m', ho', hm', hE'⟩ := hR.ent j e' h1
      rcases store_base hE' h3 with hlt | hbit
      · omega
      · subst hy
        rw [show m0.length + i - m0.length = i by omega] at hbit
        have := hc.mask hR hm' ho' h2 i hbit
        rw [hun] at this
        cases this
  · simp only [if_neg hx]
    congr 1
    funext b
    cases b with
    | none => rfl
    | some b =>
      cases b with
      | rows => rfl
      | loop => rfl
      | cells l t => simp only [blkD, hcong]

/-- .. a store -/
theorem memD_store (hR : RegOk kH C ops tm0 m0 ms fs acc) (hc : Closed ops listed) {i : Nat} (hi : i < listed.size) {e : Ent} (he : acc[i]? = some e) (hun : listed.getD i false = false) (hb : e.b = none) {y off : Nat} {cs : List Lf} (hst : e.st = some (y, off, cs))
    {l : List Lf} {t : TypeId} (hD : (memD m0 acc listed)[y]? = some (some (.cells l t))) :
    memD m0 acc (listed.setIfInBounds i true) = (memD m0 acc listed).set y (some (.cells (spl l off cs) t)) := by
  have hia := (List.getElem?_eq_some_iff.1 he).1
  have hmemi : (memT listed 0 acc)[i]? = some none := by
    rw [memT_get, he]
    simp only [Nat.zero_add, hun, Option.map_some]
  have hset : memT (listed.setIfInBounds i true) 0 acc = memT listed 0 acc := by
    rw [memT_set hi he, hb]
    apply List.ext_getElem?
    intro x
    rw [List.getElem?_set]
    split
    · rename_i e1; subst e1
      have hl := (List.getElem?_eq_some_iff.1 hmemi).1
      rw [if_pos hl, hmemi]
    · rfl
  have hylen := (List.getElem?_eq_some_iff.1 hD).1
  have hsplit : acc = acc.take i ++ (e :: acc.drop (i + 1)) := by
    have h1 : acc[i] = e := (List.getElem?_eq_some_iff.1 he).2
    rw [← h1]
    simp
  have hlen : (acc.take i).length = i := by simp; omega
  have key : ∀ l0, overD (listed.setIfInBounds i true) y 0 acc l0 = spl (overD listed y 0 acc l0) off cs := by
    intro l0
    have e1 : ∀ (L : Array Bool), overD L y 0 acc l0 = overD L y (i + 1) (acc.drop (i + 1)) (stepD L y i e (overD L y 0 (acc.take i) l0)) := by
      intro L
      conv => lhs; rw [hsplit]
      rw [overD_append, hlen, overD]
      simp only [Nat.zero_add]
    rw [e1, e1]
    have e2 : overD (listed.setIfInBounds i true) y 0 (acc.take i) l0 = overD listed y 0 (acc.take i) l0 := by
      refine overD_congr fun j e' y' off' cs' h1 h2 _ => ?_
      rw [getD_set hi]
      split
      · rename_i e3
        rw [Nat.zero_add] at e3
        subst e3
        rw [List.getElem?_take] at h1
        simp at h1
      · rfl
    rw [e2]
    generalize overD listed y 0 (acc.take i) l0 = q
    have e3 : stepD (listed.setIfInBounds i true) y i e q = spl q off cs := by
      unfold stepD
      rw [hst]
      simp only [Nat.beq_refl]
      rw [getD_set hi, if_pos rfl]
    have e4 : stepD listed y i e q = q := by
      unfold stepD
      rw [hst]
      simp only [Nat.beq_refl]
      rw [hun]
    rw [e3, e4]
    have e5 : overD (listed.setIfInBounds i true) y (i + 1) (acc.drop (i + 1)) (spl q off cs) = overD listed y (i + 1) (acc.drop (i + 1)) (spl q off cs) := by
      refine overD_congr fun j e' y' off' cs' h1 h2 _ => ?_
      rw [getD_set hi, if_neg (by omega)]
    rw [e5]
    refine overD_spl fun j e' y' off' cs' h1 h2 h3 h4 => ?_
    subst h4
    have h1' : acc[i + 1 + j]? = some e' := by rw [List.getElem?_drop] at h1; exact h1
    obtain ⟨o', m', ho', hm', _⟩ := hR.ent _ _ h1'
    rcases hR.pair i (i + 1 + j) e e' m' y' off cs off' cs' (by omega) he h1' hst h3 hm' with h5 | h5 | h5
    · exact .inl h5
    · exact .inr h5
    · have := hc.mask hR hm' ho' h2 i h5
      rw [hun] at this
      cases this
  unfold memD at hD ⊢
  rw [hset]
  apply List.ext_getElem?
  intro x
  rw [overM_get, List.getElem?_set, overM_get, overM_length]
  simp only [Nat.zero_add]
  by_cases hx : y = x
  · subst hx
    rw [overM_get] at hD
    simp only [Nat.zero_add] at hD
    have hyl : y < (m0 ++ memT listed 0 acc).length := by
      unfold memD at hylen
      rw [overM_length] at hylen
      exact hylen
    rw [if_pos rfl, if_pos hyl]
    cases hb0 : (m0 ++ memT listed 0 acc)[y]? with
    | none => rw [hb0] at hD; cases hD
    | some b0 =>
      rw [hb0] at hD
      simp only [Option.map_some, Option.some.injEq] at hD ⊢
      cases b0 with
      | none => cases hD
      | some b0 =>
        cases b0 with
        | rows => cases hD
        | loop => cases hD
        | cells l0 t0 =>
          simp only [blkD] at hD ⊢
          cases hD
          rw [key]
  · rw [if_neg hx]
    congr 1
    funext b
    cases b with
    | none => rfl
    | some b =>
      cases b with
      | rows => rfl
      | loop => rfl
      | cells l0 t0 =>
        simp only [blkD]
        congr 2
        refine overD_congr fun j e' y' off' cs' h1 h2 h3 => ?_
        rw [getD_set hi]
        split
        · rename_i e1
          rw [Nat.zero_add] at e1
          subst e1
          rw [he] at h1; cases h1
          rw [hst] at h2; cases h2
          exact absurd h3 hx
        · rfl

end
end Go.Proofs.Ytceffompldihjaa.Rex
