/- A WALK BY COMPUTATION, part 12: a statement whose order Go leaves open, as a whole. Conditions: none. Own work. -/
import Derived.Test.YtceffompldihjaaRex11
namespace Go.Proofs.Ytceffompldihjaa.Rex
open Go.RowKit
set_option linter.unusedVariables false
set_option linter.unusedSimpArgs false

/-- a store, as the model runs it -/
theorem store_put {P : Program} {o : Oper} {a : Act} {w : World} {t : TypeId} {A X : Operand} (ho : o.op = .store t A X) {k off : Nat} (hA : a.eval A = .pointer (some ⟨k, off, none⟩)) {us vs : List Value} {e : TypeId} (hob : w.heap[k]? = some (.cells ⟨us⟩ e (0, 0)))
    (hvc : (a.eval X).cells = ⟨vs⟩) {n : Nat} (hn : tsize P t = some n) (hl : vs.length = n) (hone : ∀ v ∈ vs, v.oneCell' = true) (hin : off + vs.length ≤ us.length) :
    ∃ w', (execOp a.eval o).run P w = .ok .skip w' ∧ Put w k (us.take off ++ (vs ++ us.drop (off + vs.length))) e w' := by
  obtain ⟨w', hr, hp⟩ := run_storeCells (P := P) (b := k) (off := off) (e := e) vs 0 us w hob hone (by omega)
  refine ⟨w', ?_, hp⟩
  rw [execOp, ho]
  simp only [hA, Instr.storeAt, Instr.sureAddr, storeVar, Sem.run_bind, Sem.run_pure, Result.andThen_ok, run_sizeOf' hn, hvc, List.size_toArray]
  rw [if_neg (by simp; omega)]
  rw [hr]
  rfl

/-- a step that stores into a known block -/
theorem Since.put {m0 m : Mem} {β0 β : Nm} {w0 w w' : World} (hs0 : Sat β0 m0 w0) (h : Since m0 β0 w0 m β w) {x b : Nat} {l l' : List Lf} {e : TypeId} {us : List Value} (hx : m[x]? = some (some (.cells l e))) (hb : β x = some b) (hp : Put w b us e w') :
    Since m0 β0 w0 (m.set x (some (.cells l' e))) β w' := Since.trans hs0 h (since_put hx hb hp)

section
variable {kH bs : Nat} {F : Fence} {n : Nat} {C : Ctx} {ops : List Oper} {tm0 : List SV} {m0 : Mem} {acc : List Ent} {β0 : Nm} {w0 : World} {listed : Array Bool} {β : Nm} {a : Act} {w : World} {ms : List Nat} {fs : List (Option (Nat × Nat × Nat))}

theorem Inv.op (hF : Wd F) (hC : C.Ok) (hs0 : Sat β0 m0 w0) (hR : RegOk kH C ops tm0 m0 ms fs acc) (h : Inv bs ops tm0 m0 acc β0 w0 listed β a w)
    {i : Nat} (hr : i ∈ Region.ready .any ⟨ops⟩ listed) (hia : i < acc.length) (hiH : i ≠ kH) (Q : Exit → Act → World → Prop) {K : Act → World → Prop} (hK : ∀ β' a' w', Inv bs ops tm0 m0 acc β0 w0 (listed.setIfInBounds i true) β' a' w' → K a' w') :
    wpOpIn F n C.P ⟨ops⟩ Q i K a w := by
  obtain ⟨e, he⟩ : ∃ e, acc[i]? = some e := ⟨_, List.getElem?_eq_getElem hia⟩
  obtain ⟨o, m, ho, hm, hE⟩ := hR.ent i e he
  obtain ⟨hun, o', ho', hall⟩ := mem_ready.1 hr
  have ho2 : (⟨ops⟩ : Array Oper)[i]? = some o := by simpa using ho
  rw [ho2] at ho'
  cases ho'
  have hsz : i < listed.size := by rw [h.size]; exact (List.getElem?_eq_some_iff.1 ho).1
  have hun' : listed.getD i false = false := by
    simp only [Array.getD_eq_getD_getElem?] at hun ⊢
    rw [Array.getElem?_eq_getElem hsz] at hun ⊢
    exact hun
  have hdeps : ∀ d ∈ o.after.toList, Region.binds .any d = true → listed.getD d.on false = true := fun d hd hb => hall d (Array.mem_toList_iff.1 hd) hb
  have hmask := mask_listed hR.mok h.closed hR.mlen i m o hm ho hdeps
  unfold wpOpIn
  simp only [ho2]
  have hla : ∀ j, lateB (ms.drop (i + 1)) i j = true → listed.getD j false = false := by
    intro j hj
    unfold lateB at hj
    split at hj
    · rename_i hlt
      rw [Nat.blt_eq] at hlt
      split at hj
      · rename_i mj hmj
        rw [List.getElem?_drop, show i + 1 + (j - (i + 1)) = j by omega] at hmj
        cases hl : listed.getD j false with
        | false => rfl
        | true =>
          have hjl : j < ops.length := by rw [← hR.mlen]; exact (List.getElem?_eq_some_iff.1 hmj).1
          have := h.closed.mask hR hmj (List.getElem?_eq_getElem hjl) hl i hj
          rw [hun'] at this
          cases this
      · cases hj
    · cases hj
  have hg := h.guard (i := i) hmask hla (o := o)
  have henv := h.env hR hia hun' hmask hla
  cases hE with
  | hole h he => exact absurd h hiH
  | skip hgs hee =>
    rw [if_neg (by rw [hg.2 hgs]; simp)]
    subst hee
    have hs := memD_same (m0 := m0) hsz he hun' rfl rfl
    exact ⟨fun f _ => hF.fn f, hK β _ w (h.step hR ho he hun' hdeps (.tup .nil) (by rw [hs]; exact h.sat) (by rw [hs]; exact h.since) (Nm.le_refl β) fun _ _ hx => hx)⟩
  | store hgr hst =>
    rw [if_pos (hg.1 hgr)]
    unfold stE at hst
    split at hst
    · rename_i t A X hop
      split at hst
      · rename_i y off u hA hX
        split at hst
        · rename_i l te hmm
          split at hst
          · rename_i n hn
            split at hst
            · rename_i hd
              cases hst
              simp only [Bool.and_eq_true, decide_eq_true_eq] at hd
              obtain ⟨d1, d2⟩ := hd
              have hAv := henv.ev _ _ hA
              have hXv := henv.ev _ _ hX
              obtain ⟨k, hk, us, hob, hus⟩ := henv.cells hmm
              have hav : a.eval A = .pointer (some ⟨k, off, none⟩) := by
                cases hAv with
                | v hAv => cases hAv with
                  | one hAv => generalize a.eval A = q at hAv ⊢; cases hAv; rename_i h1; rw [hk] at h1; cases h1; rfl
              cases hXv with
              | v hXv =>
                obtain ⟨vs, hvc, hvs⟩ := hXv.cells
                have l1 := hvs.length
                have l2 := hus.length
                have hone : ∀ v ∈ vs, v.oneCell' = true := by
                  intro v hv
                  obtain ⟨j, hj, rfl⟩ := List.mem_iff_getElem.1 hv
                  obtain ⟨q, hq, hqv⟩ := hvs.get' (List.getElem?_eq_getElem hj)
                  exact hqv.oneCell
                obtain ⟨w', hrun, hp⟩ := store_put (P := C.P) hop hav hob hvc hn (by omega) hone (by omega)
                -- the block as it is
                have hDx : ∃ lD, (memD m0 acc listed)[y]? = some (some (.cells lD te)) := by
                  have hmm' := hmm
                  unfold mmR at hmm'
                  split at hmm'
                  · rename_i l0 t0 hbase
                    cases hmm'
                    have hmem := base_mem (listed := listed) hmask hbase
                    exact ⟨_, by unfold memD; rw [overM_get, hmem]; rfl⟩
                  · cases hmm'
                  · cases hmm'
                  · cases hmm'
                obtain ⟨lD, hD⟩ := hDx
                have hmd := memD_store hR h.closed hsz he hun' rfl rfl hD
                obtain ⟨k2, hk2, us2, hob2, hus2⟩ := h.sat.cells hD
                rw [hk] at hk2; cases hk2
                rw [hob] at hob2
                cases hob2
                have hnew : All₂ (HasL β) (spl lD off u.cells) (us.take off ++ (vs ++ us.drop (off + vs.length))) := by
                  rw [spl_in (by have := hus2.length; omega)]
                  unfold splice
                  rw [← l1]
                  exact (hus2.take _).append (hvs.append (hus2.drop _))
                have hsat' := h.sat.put hD hk hp hnew
                have hsin' := Since.put (l' := spl lD off u.cells) hs0 h.since hD hk hp
                rw [← hmd] at hsat' hsin'
                refine doe_skip (R := fun r w' => r = undef ∧ Inv bs ops tm0 m0 acc β0 w0 (listed.setIfInBounds i true) β (a.put o.dst undef) w') hrun ⟨rfl, h.step hR ho he hun' hdeps (.tup .nil) hsat' hsin' (Nm.le_refl β) fun _ _ hx => hx⟩ F _ hF _ Q ?_
                rintro v w2 ⟨rfl, hinv⟩
                exact hK β _ _ hinv
            · cases hst
          · cases hst
        · cases hst
      · cases hst
    · cases hst
  | call hgr hst =>
    rw [if_pos (hg.1 hgr)]
    obtain ⟨c, f, id, y, rest, l, te, bc, p, s, new, hop, hfc, hcl, hus, hmm, hbc, hbcq, hnl, rfl⟩ := callE_spec hst
    have hp := hR.obs _ (List.mem_of_getElem? he)
    obtain ⟨hcall, hsound⟩ := hC.B id bc (find_mem hbc)
    have hfh := henv.ev _ _ hcl
    have hargs := omap_all (g := a.eval) (fun x s e => henv.ev x s e) hus
    obtain ⟨k, hk, us, hob, hus'⟩ := henv.cells hmm
    have hDx : ∃ lD, (memD m0 acc listed)[y]? = some (some (.cells lD te)) := by
      have hmm' := hmm
      unfold mmR at hmm'
      split at hmm'
      · rename_i l0 t0 hbase
        cases hmm'
        have hmem := base_mem (listed := listed) hmask hbase
        exact ⟨_, by unfold memD; rw [overM_get, hmem]; rfl⟩
      · cases hmm'
      · cases hmm'
      · cases hmm'
    obtain ⟨lD, hD⟩ := hDx
    have hmd := memD_store hR h.closed hsz he hun' rfl rfl hD
    obtain ⟨k2, hk2, us2, hob2, hus2⟩ := h.sat.cells hD
    rw [hk] at hk2; cases hk2
    rw [hob] at hob2
    cases hob2
    generalize hq : a.eval f = q at hfh
    cases hfh with
    | clo hcaps =>
      rename_i vs
      rw [hcaps.nil_inv] at hq
      obtain ⟨v0, vals, hvals, hv0, hrest⟩ := hargs.cons_inv
      have hv0' : v0 = .pointer (some ⟨k, 0, none⟩) := by
        cases hv0 with
        | v hv0 => cases hv0 with
          | one hv0 => cases hv0 with
            | ptr e => rw [hk] at e; cases e; rfl
      subst hv0'
      have hlen : lD.length = new.length := by rw [hnl, ← hus'.length, ← hus2.length]
      have hspl : spl lD 0 new = new := by
        rw [spl_in (by omega)]
        unfold splice
        simp [hlen]
      have hcc : Calls C.P id ⟨c.args.toList.map a.eval⟩ w (fun e w' => ∃ r, e = .returned r ∧ Inv bs ops tm0 m0 acc β0 w0 (listed.setIfInBounds i true) β (a.put o.dst r) w') := by
        rw [hvals]
        refine (hsound β rest vals l te p s new w k us h.sat.gl (h.sat.ng _ _ ⟨_, hD, trivial⟩ hk) hbcq hp hrest hob hus').mono ?_
        rintro e w' ⟨r, us3, rfl, hr, hnew, hhere, hturn⟩
        have hsat' := h.sat.turn (b1 := .cells (spl lD 0 new) te) hD trivial hk hturn ⟨us3, hhere, by rw [hspl]; exact hnew⟩
        have hsin' := Since.trans hs0 h.since (since_turn (b1 := .cells (spl lD 0 new) te) hD trivial hk hturn)
        rw [← hmd] at hsat' hsin'
        exact ⟨r, rfl, h.step hR ho he hun' hdeps hr hsat' hsin' (Nm.le_refl β) fun _ _ hx => hx⟩
      refine doe_call (f := id) (args := ⟨c.args.toList.map a.eval⟩) ?_ hcc F n hF _ Q fun v w2 hinv => hK β _ _ hinv
      rw [execOp, hop]
      have e1 : (c.args.map a.eval) = ⟨c.args.toList.map a.eval⟩ := by apply Array.ext'; simp
      simp only [resolve, hfc, hq, Deferred.ofValue, Sem.run_bind, Sem.run_pure, Result.andThen_ok, invoke, e1]
      rw [callFunc_run hcall]
      simp
  | run hgr hq hee =>
    rename_i p s b
    rw [if_pos (hg.1 hgr)]
    have hbe : e.b = b := by rcases hee with rfl | ⟨t, kn, b', _, rfl⟩ <;> rfl
    have hste : e.st = none := by rcases hee with rfl | ⟨t, kn, b', _, rfl⟩ <;> rfl
    have hobe := hR.obs e (List.mem_of_getElem? he)
    have hp : ob p := by
      rcases hee with rfl | ⟨t, kn, b', _, rfl⟩
      · exact hobe
      · exact (ob_andO hobe).2
    have hval : ∀ {γ : Nm} {r : Value}, Has γ s r → Has γ e.s r := by
      intro γ r hr
      rcases hee with rfl | ⟨t, kn, b', rfl, rfl⟩
      · exact hr
      · have hb := (ob_andO hobe).1
        cases hr with
        | v hr => cases hr with
          | one hr => cases hr; rw [hb]; exact .v (.one .bool)
    have hfr := h.fresh i e he (.inl hun')
    refine qOp_sound hC.Γ hq hp henv hfr F n hF _ Q ?_
    intro r w' hl
    cases b with
    | none =>
      obtain ⟨hs, hx⟩ := hl
      have hse := memD_same (m0 := m0) hsz he hun' hbe hste
      exact hK β _ w' (h.step hR ho he hun' hdeps (hval hs) (by rw [hse]; exact h.sat.ext hx) (by rw [hse]; exact Since.trans0 h.since (Since.ext' hx) hx.block) (Nm.le_refl β) fun _ _ hx => hx)
    | some bl =>
      obtain ⟨obj, rfl, hB, hs⟩ := hl
      have hmd := memD_alloc hR h.closed hsz he hun' hbe hste
      have hmi : (memD m0 acc listed)[m0.length + i]? = some none := by
        unfold memD
        rw [overM_get, List.getElem?_append_right (by omega), show m0.length + i - m0.length = i by omega, memT_get, he]
        simp only [Nat.zero_add, hun', Option.map_some, blkD]
      have hsat := h.sat.alloc hmi hfr hB
      have hsin := h.since.alloc (Nat.le_add_right _ i) hfr bl obj
      rw [← hmd] at hsat hsin
      refine hK _ _ _ (h.step hR ho he hun' hdeps (hval hs) hsat hsin (Nm.le_set hfr) ?_)
      intro j hor hx
      unfold Nm.set
      rw [if_neg]
      · exact hx
      · intro e1
        rcases hor with hor | hor
        · exact hor e1
        · rw [hbe] at hor; cases hor

/-- an operation that looks at temporaries alone -/
theorem flt_run {M : Md} {P : Program} {Γ : List (FuncId × FX)} {E : Env} {nm : Nat} {o : Oper} {p : Option Prop} {s : SV} {bl : Option Blk} {β : Nm} {a : Act} {w : World} (hf : flt o.op = true) (h : qOp M P Γ E nm o.op = some (p, s, bl)) (hE : EOk β E a w) :
    p = none ∧ bl = none ∧ ∃ v, Has β s v ∧ (∀ w', (execOp a.eval o).run P w' = .ok (.value v) w') ∧ ∀ w', o.about P w' a.eval = none := by
  cases ho : o.op with
  | move x =>
    rw [ho] at h
    unfold qOp at h
    obtain ⟨s', h', e⟩ := r0_spec h
    cases e
    exact ⟨rfl, rfl, _, hE.ev _ _ h', fun w' => by rw [execOp, ho]; rfl, fun w' => by unfold Oper.about; rw [ho]⟩
  | nilCheck x =>
    rw [ho] at h
    unfold qOp at h
    obtain ⟨x', hx, h⟩ := Option.bind_eq_some_iff.1 h
    have hxv := hE.ev _ _ hx
    have hab : ∀ w', o.about P w' a.eval = none := fun w' => by unfold Oper.about; rw [ho]
    split at h
    · cases h
      refine ⟨rfl, rfl, a.eval x, hxv, fun w' => ?_, hab⟩
      cases hxv with
      | v hxv => cases hxv with
        | one hxv => rw [execOp, ho]; simp only; generalize a.eval x = q at hxv ⊢; cases hxv; rfl
    · cases h
      refine ⟨rfl, rfl, a.eval x, hxv, fun w' => ?_, hab⟩
      cases hxv with
      | v hxv => cases hxv with
        | one hxv => rw [execOp, ho]; simp only; generalize a.eval x = q at hxv ⊢; cases hxv; rfl
    · cases h
      refine ⟨rfl, rfl, a.eval x, hxv, fun w' => ?_, hab⟩
      cases hxv with
      | v hxv => cases hxv with
        | one hxv => rw [execOp, ho]; simp only; generalize a.eval x = q at hxv ⊢; cases hxv; rfl
    · cases h
  | fieldAddr t x f =>
    rw [ho] at h
    unfold qOp at h
    obtain ⟨x', hx, h⟩ := Option.bind_eq_some_iff.1 h
    have hxv := hE.ev _ _ hx
    have hab : ∀ w', o.about P w' a.eval = none := fun w' => by unfold Oper.about; rw [ho]
    split at h
    · rename_i b off
      obtain ⟨fd, hfd, h⟩ := Option.bind_eq_some_iff.1 h
      obtain ⟨fs, hu, hfs⟩ := fieldOf?_spec hfd
      split at h
      · rename_i n hn
        cases h
        cases hxv with
        | v hxv => cases hxv with
          | one hxv =>
            generalize hq : a.eval x = q at hxv
            cases hxv with
            | ptr hb =>
              rename_i B
              refine ⟨rfl, rfl, .pointer (some ⟨B, off + fd.offset, none⟩), .v (.one (.ptr hb)), fun w' => ?_, hab⟩
              rw [execOp, ho]
              simp [hq, Instr.fieldAt, run_underlying hu, hfs, Instr.sureAddr, fieldPlace, run_sizeOf' hn, addr_add]
      · cases h
    · rename_i b base sz i off
      obtain ⟨fd, hfd, h⟩ := Option.bind_eq_some_iff.1 h
      obtain ⟨fs, hu, hfs⟩ := fieldOf?_spec hfd
      split at h
      · rename_i n hn
        cases h
        cases hxv with
        | v hxv => cases hxv with
          | one hxv =>
            generalize hq : a.eval x = q at hxv
            cases hxv with
            | rp hb =>
              rename_i B
              refine ⟨rfl, rfl, .pointer (some ⟨B, base + i * sz + (off + fd.offset), none⟩), .v (.one (.rp hb)), fun w' => ?_, hab⟩
              rw [execOp, ho]
              simp [hq, Instr.fieldAt, run_underlying hu, hfs, Instr.sureAddr, fieldPlace, run_sizeOf' hn, addr_add, Nat.add_assoc]
      · cases h
    · rename_i g off
      obtain ⟨fd, hfd, h⟩ := Option.bind_eq_some_iff.1 h
      obtain ⟨fs, hu, hfs⟩ := fieldOf?_spec hfd
      split at h
      · rename_i n hn
        cases h
        cases hxv with
        | v hxv => cases hxv with
          | one hxv =>
            generalize hq : a.eval x = q at hxv
            cases hxv with
            | op hb =>
              refine ⟨rfl, rfl, .pointer (some ⟨g, off + fd.offset, none⟩), .v (.one (.op rfl)), fun w' => ?_, hab⟩
              rw [execOp, ho]
              simp [hq, Instr.fieldAt, run_underlying hu, hfs, Instr.sureAddr, fieldPlace, run_sizeOf' hn, addr_add]
      · cases h
    · cases h
  | _ => rw [ho] at hf; cases hf

theorem Inv.flt (hs0 : Sat β0 m0 w0) (hR : RegOk kH C ops tm0 m0 ms fs acc) (h : Inv bs ops tm0 m0 acc β0 w0 listed β a w)
    {i : Nat} {o : Oper} (ho : ops[i]? = some o) (hr : i ∈ Region.ready .any ⟨ops⟩ listed) (hia : i < acc.length) (hiH : i ≠ kH) (hf : flt o.op = true) (hg : noG o = true) :
    ∃ v, YieldsFenced C.P ⟨ops⟩ o v a ∧ Inv bs ops tm0 m0 acc β0 w0 (listed.setIfInBounds i true) β (a.put o.dst v) w := by
  obtain ⟨e, he⟩ : ∃ e, acc[i]? = some e := ⟨_, List.getElem?_eq_getElem hia⟩
  obtain ⟨o1, m, ho1, hm, hE⟩ := hR.ent i e he
  rw [ho] at ho1
  cases ho1
  obtain ⟨hun, o', ho', hall⟩ := mem_ready.1 hr
  have ho2 : (⟨ops⟩ : Array Oper)[i]? = some o := by simpa using ho
  rw [ho2] at ho'
  cases ho'
  have hgn : o.guard = none := by
    unfold noG at hg
    split at hg
    · assumption
    · cases hg
  have hsz : i < listed.size := by rw [h.size]; exact (List.getElem?_eq_some_iff.1 ho).1
  have hun' : listed.getD i false = false := by
    simp only [Array.getD_eq_getD_getElem?] at hun ⊢
    rw [Array.getElem?_eq_getElem hsz] at hun ⊢
    exact hun
  have hdeps : ∀ d ∈ o.after.toList, Region.binds .any d = true → listed.getD d.on false = true := fun d hd hb => hall d (Array.mem_toList_iff.1 hd) hb
  have hmask := mask_listed hR.mok h.closed hR.mlen i m o hm ho hdeps
  have hla : ∀ j, lateB (ms.drop (i + 1)) i j = true → listed.getD j false = false := by
    intro j hj
    unfold lateB at hj
    split at hj
    · rename_i hlt
      rw [Nat.blt_eq] at hlt
      split at hj
      · rename_i mj hmj
        rw [List.getElem?_drop, show i + 1 + (j - (i + 1)) = j by omega] at hmj
        cases hl : listed.getD j false with
        | false => rfl
        | true =>
          have hjl : j < ops.length := by rw [← hR.mlen]; exact (List.getElem?_eq_some_iff.1 hmj).1
          have := h.closed.mask hR hmj (List.getElem?_eq_getElem hjl) hl i hj
          rw [hun'] at this
          cases this
      · cases hj
    · cases hj
  have henv := h.env hR hia hun' hmask hla
  cases hE with
  | hole h he => exact absurd h hiH
  | skip hgs hee => rw [hgn] at hgs; simp [guardR] at hgs
  | store hgr hst =>
    unfold stE at hst
    split at hst
    · rename_i hop; rw [hop] at hf; cases hf
    · cases hst
  | call hgr hst =>
    unfold callE at hst
    split at hst
    · rename_i hop; rw [hop] at hf; cases hf
    · cases hst
  | run hgr hq hee =>
    rename_i p s b
    obtain ⟨rfl, rfl, v, hv, hrun, hab⟩ := flt_run hf hq henv
    have hbe : e.b = none := by rcases hee with rfl | ⟨t, kn, b', _, rfl⟩ <;> rfl
    have hste : e.st = none := by rcases hee with rfl | ⟨t, kn, b', _, rfl⟩ <;> rfl
    have hobe := hR.obs e (List.mem_of_getElem? he)
    have hval : Has β e.s v := by
      rcases hee with rfl | ⟨t, kn, b', rfl, rfl⟩
      · exact hv
      · have hb := (ob_andO (show ob (andO (b' = t) none) from hobe)).1
        cases hv with
        | v hr => cases hr with
          | one hr => cases hr; rw [hb]; exact .v (.one .bool)
    have hs := memD_same (m0 := m0) hsz he hun' hbe hste
    refine ⟨v, ⟨.inl ⟨by simp [Region.wanted, hgn], hrun⟩, hab⟩, h.step hR ho he hun' hdeps hval (by rw [hs]; exact h.sat) (by rw [hs]; exact h.since) (Nm.le_refl β) fun _ _ hx => hx⟩

/-- behind the head: one after the other, as they stand -/
theorem wpAnyIn_of_seq {P : Program} {ops : Array Oper} {Q : Exit → Act → World → Prop} (l : List Oper) : ∀ (k : Nat) (listed : Array Bool) (a : Act) (w : World), (∀ j, l[j]? = ops[k + j]?) → Region.seqB .any ops l.length k listed = true → wpListIn F n P ops Q l a w → wpAnyIn F n P .any ops Q l.length listed a w := by
  induction l with
  | nil =>
    intro k listed a w _ hs h
    refine ⟨?_, h⟩
    simpa [Region.seqB] using hs
  | cons o l ih =>
    intro k listed a w hl hs h
    have ho : ops[k]? = some o := (hl 0).symm
    simp only [List.length_cons, Region.seqB, Bool.and_eq_true, decide_eq_true_eq] at hs
    obtain ⟨h1, h2⟩ := hs
    refine wpAnyIn_all h1 (by simp) fun i hi => ?_
    obtain rfl : i = k := by simpa using hi
    refine wpOpIn_mono (fun a' w' => ih (i + 1) _ a' w' (fun j => ?_) h2) ?_
    · have := hl (j + 1)
      rw [show i + 1 + j = i + (j + 1) by omega, ← this]
      rfl
    · unfold wpOpIn
      rw [ho]
      exact h

theorem listedOf_get {k n i : Nat} (hk : k ≤ n) : (listedOf k n).getD i false = decide (i < k) := by
  unfold listedOf
  simp only [Array.getD_eq_getD_getElem?, List.getElem?_toArray]
  rcases Nat.lt_or_ge i k with h | h
  · rw [List.getElem?_append_left (by simpa using h)]
    simp [h]
  · rw [List.getElem?_append_right (by simpa using h)]
    have : ¬ i < k := by omega
    simp only [List.length_replicate, this, decide_false]
    rw [List.getElem?_replicate]
    split <;> rfl

theorem listed_eq (h : Inv bs ops tm0 m0 acc β0 w0 listed β a w) (hk : acc.length ≤ ops.length) (hall : ∀ i, i < acc.length → listed.getD i false = true) : listed = listedOf acc.length ops.length := by
  have hs : (listedOf acc.length ops.length).size = ops.length := by unfold listedOf; simp; omega
  apply Array.ext
  · rw [h.size, hs]
  · intro i h1 h2
    have e1 : listed[i] = listed.getD i false := by simp [Array.getD_eq_getD_getElem?, h1]
    have e2 : (listedOf acc.length ops.length)[i] = (listedOf acc.length ops.length).getD i false := by simp [Array.getD_eq_getD_getElem?, h2]
    rw [e1, e2, listedOf_get hk]
    by_cases hi : i < acc.length
    · rw [hall i hi]; simp [hi]
    · simp only [hi, decide_false]
      cases hb : listed.getD i false with
      | false => rfl
      | true => exact absurd (h.head i hb) hi

theorem finTm_get : ∀ (l : List SV) (k t : Nat), (finTm ops acc k l)[t]? = (l[t]?).map fun s => match wrO (k + t) 0 ops with
    | some j => match acc[j]? with
      | some e => e.s
      | none => s
    | none => s
  | [], k, t => by simp [finTm]
  | s :: l, k, 0 => rfl
  | s :: l, k, t + 1 => by
    rw [finTm, List.getElem?_cons_succ, List.getElem?_cons_succ, finTm_get l (k + 1) t, show k + 1 + t = k + (t + 1) by omega]
theorem finTm_length : ∀ (l : List SV) (k : Nat), (finTm ops acc k l).length = l.length
  | [], k => rfl
  | s :: l, k => by simp [finTm, finTm_length l (k + 1)]

theorem all₂_of_get {A B : Type} {R : A → B → Prop} : ∀ {l : List A} {m : List B}, l.length = m.length → (∀ (i : Nat) (a : A), l[i]? = some a → ∃ b, m[i]? = some b ∧ R a b) → All₂ R l m
  | [], [], _, _ => .nil
  | a :: l, b :: m, hl, h => by
    obtain ⟨b', hb, hr⟩ := h 0 a (by simp)
    simp at hb; subst hb
    exact .cons hr (all₂_of_get (by simpa using hl) fun i x hx => by simpa using h (i + 1) x (by simpa using hx))
  | [], _ :: _, hl, _ => by simp at hl
  | _ :: _, [], hl, _ => by simp at hl

/-- all of the head has been done -/
theorem Inv.fin (hs0 : Sat β0 m0 w0) (h : Inv bs ops tm0 m0 acc β0 w0 listed β a w) (hk : acc.length ≤ ops.length) (hall : ∀ i, i < acc.length → listed.getD i false = true) :
    Fit bs ⟨finTm ops acc 0 tm0, memD m0 acc listed⟩ β a w ∧ Since m0 β0 w0 (memD m0 acc listed) β w := by
  refine ⟨⟨?_, h.sat, h.df.mono fun D hD => h.since.defer hs0 hD⟩, h.since⟩
  refine all₂_of_get ?_ ?_
  · have e : (finTm ops acc 0 tm0).length = tm0.length := finTm_length tm0 0
    show (finTm ops acc 0 tm0).length = a.tmps.toList.length
    have e2 : a.tmps.toList.length = a.tmps.size := Array.length_toList
    rw [e, e2, h.tsize]
  · intro t s hs
    have hs' : (finTm ops acc 0 tm0)[t]? = some s := hs
    rw [finTm_get] at hs'
    simp only [Nat.zero_add] at hs'
    have : ∃ v, a.tmps[t]? = some v ∧ Has β s v := by
      cases ht : tm0[t]? with
      | none => rw [ht] at hs'; cases hs'
      | some s0 =>
        rw [ht] at hs'
        simp only [Option.map_some, Option.some.injEq] at hs'
        apply h.tm t s
        unfold lookD
        cases hw : wrO t 0 ops with
        | none => rw [hw] at hs'; simp only at hs'; subst hs'; exact ht
        | some j =>
          rw [hw] at hs'
          simp only at hs' ⊢
          rcases Nat.lt_or_ge j acc.length with hj | hj
          · rw [hall j hj]
            rw [List.getElem?_eq_getElem hj] at hs' ⊢
            simp only at hs'
            simp [hs']
          · rw [List.getElem?_eq_none hj] at hs'
            simp only at hs'
            have : listed.getD j false = false := by
              cases hb : listed.getD j false with
              | false => rfl
              | true => exact absurd (h.head j hb) (by omega)
            rw [this]
            simp only
            rw [ht, hs']
    obtain ⟨v, hv, hh⟩ := this
    exact ⟨v, by simpa using hv, hh⟩

def cnt (listed : Array Bool) : Nat := listed.toList.countP (fun b => !b)

theorem cnt_set {listed : Array Bool} {i : Nat} (hi : i < listed.size) (h : listed.getD i false = false) : cnt (listed.setIfInBounds i true) + 1 = cnt listed := by
  unfold cnt
  rw [Array.toList_setIfInBounds]
  have hi' : i < listed.toList.length := by simpa using hi
  have hv : listed.toList[i] = false := by
    have : listed.getD i false = listed[i] := by simp [Array.getD_eq_getD_getElem?, hi]
    rw [this] at h
    simpa using h
  generalize listed.toList = l at hi' hv
  clear hi h
  induction l generalizing i with
  | nil => simp at hi'
  | cons b l ih =>
    cases i with
    | zero =>
      simp at hv
      subst hv
      simp
    | succ i =>
      simp at hv hi'
      have := ih (i := i) hi' hv
      simp only [List.set_cons_succ, List.countP_cons]
      omega

theorem cnt_listedOf (k n : Nat) : cnt (listedOf k n) = n - k := by
  unfold cnt listedOf
  simp [List.countP_append, List.countP_replicate]

theorem tailB_spec {n : Nat} : ∀ {ms : List Nat} {i : Nat}, tailB n i ms = true → ∀ j m, ms[j]? = some m → n ≤ i + j → m = 2 ^ (i + j) - 1
  | [], i, h, j, m, hm, _ => by simp at hm
  | k :: ms, i, h, 0, m, hm, hn => by
    simp at hm; subst hm
    unfold tailB at h
    rw [Bool.and_eq_true, Bool.or_eq_true] at h
    rcases h.1 with h1 | h1
    · rw [Nat.blt_eq] at h1; omega
    · exact Nat.eq_of_beq_eq_true h1
  | k :: ms, i, h, j + 1, m, hm, hn => by
    unfold tailB at h
    rw [Bool.and_eq_true] at h
    have := tailB_spec h.2 j m (by simpa using hm) (by omega)
    rw [this, show i + 1 + j = i + (j + 1) by omega]

theorem inv_any (hF : Wd F) (hC : C.Ok) (hs0 : Sat β0 m0 w0) (hR : RegOk kH C ops tm0 m0 ms fs acc)
    (htail : tailB acc.length 0 ms = true) (hk : acc.length ≤ ops.length) (hH : acc.length ≤ kH) (Q : Exit → Act → World → Prop)
    (hQ : ∀ β a w, Fit bs ⟨finTm ops acc 0 tm0, memD m0 acc (listedOf acc.length ops.length)⟩ β a w → Since m0 β0 w0 (memD m0 acc (listedOf acc.length ops.length)) β w → wpAnyIn F n C.P .any ⟨ops⟩ Q (ops.length - acc.length) (listedOf acc.length ops.length) a w) :
    ∀ (fuel : Nat) (listed : Array Bool) (β : Nm) (a : Act) (w : World), fuel = cnt listed → Inv bs ops tm0 m0 acc β0 w0 listed β a w → wpAnyIn F n C.P .any ⟨ops⟩ Q fuel listed a w := by
  intro fuel
  induction fuel with
  | zero =>
    intro listed β a w hc h
    have hall : ∀ i, i < acc.length → listed.getD i false = true := by
      intro i hi
      cases hb : listed.getD i false with
      | true => rfl
      | false =>
        have := cnt_set (by rw [h.size]; omega) hb
        omega
    obtain ⟨h1, h2⟩ := Inv.fin hs0 h hk hall
    have he := listed_eq h hk hall
    subst he
    rw [cnt_listedOf] at hc
    have := hQ β a w h1 h2
    rwa [← hc] at this
  | succ fuel ih =>
    intro listed β a w hc h
    by_cases hall : ∀ i, i < acc.length → listed.getD i false = true
    · obtain ⟨h1, h2⟩ := Inv.fin hs0 h hk hall
      have he := listed_eq h hk hall
      subst he
      rw [cnt_listedOf] at hc
      have := hQ β a w h1 h2
      rwa [← hc] at this
    · obtain ⟨i, hi, hl⟩ : ∃ i, i < acc.length ∧ listed.getD i false = false := by
        apply Classical.byContradiction
        intro hn
        apply hall
        intro i hi
        cases hb : listed.getD i false with
        | true => rfl
        | false => exact absurd ⟨i, hi, hb⟩ hn
      obtain ⟨i0, ⟨hi0, hl0⟩, hmin⟩ := exists_least (p := fun i => i < acc.length ∧ listed.getD i false = false) ⟨i, hi, hl⟩
      have hbelow : ∀ j, j < i0 → listed.getD j false = true := by
        intro j hj
        cases hb : listed.getD j false with
        | true => rfl
        | false => exact absurd ⟨by omega, hb⟩ (hmin j hj)
      have getD_tf : ∀ j, j < ops.length → listed.getD j true = listed.getD j false := by
        intro j hj
        have : j < listed.size := by rw [h.size]; exact hj
        simp [Array.getD_eq_getD_getElem?, this]
      have hready : i0 ∈ Region.ready .any ⟨ops⟩ listed := by
        rw [mem_ready]
        have ho : ops[i0]? = some (ops[i0]'(by omega)) := List.getElem?_eq_getElem (by omega)
        refine ⟨by rw [getD_tf i0 (by omega)]; exact hl0, _, by rw [List.getElem?_toArray]; exact ho, fun e he hb => ?_⟩
        have hm : ms[i0]? = some (ms[i0]'(by have := hR.mlen; omega)) := List.getElem?_eq_getElem (by have := hR.mlen; omega)
        exact hbelow e.on ((hR.mok i0 _ _ hm ho).1 e (Array.mem_toList_iff.2 he) hb)
      refine ⟨fun h0 => (by rw [h0] at hready; cases hready), fun j hj => ?_⟩
      rcases Nat.lt_or_ge j acc.length with hja | hja
      · refine Inv.op hF hC hs0 hR h hj hja (by omega) Q fun β' a' w' h' => ?_
        have hun : listed.getD j false = false := by rw [← getD_tf j (by omega)]; exact (mem_ready.1 hj).1
        exact ih _ β' a' w' (by have := cnt_set (by rw [h.size]; omega) hun; omega) h'
      · exfalso
        obtain ⟨hun, o, ho, hdeps⟩ := mem_ready.1 hj
        have ho' : ops[j]? = some o := by simpa using ho
        have hjl := (List.getElem?_eq_some_iff.1 ho').1
        have hm : ms[j]? = some (ms[j]'(by have := hR.mlen; omega)) := List.getElem?_eq_getElem (by have := hR.mlen; omega)
        have hmask := mask_listed hR.mok h.closed hR.mlen j _ o hm ho' (fun d hd hb => hdeps d (Array.mem_toList_iff.1 hd) hb)
        have hbits := tailB_spec htail j _ hm (by omega)
        simp only [Nat.zero_add] at hbits
        have := hmask i0 (by rw [hbits, Nat.testBit_two_pow_sub_one]; simp; omega)
        rw [hl0] at this
        cases this

/-- all has been done but what stands in the hole -/
theorem Inv.finH (hs0 : Sat β0 m0 w0) (h : Inv bs ops tm0 m0 acc β0 w0 listed β a w) (hk : acc.length ≤ ops.length) {k : Nat} {eH : Ent} (heH : acc[k]? = some eH) (hj : eH.s = .junk) (hall : ∀ i, i < acc.length → i ≠ k → listed.getD i false = true) :
    Fit bs ⟨finTm ops acc 0 tm0, memD m0 acc listed⟩ β a w ∧ Since m0 β0 w0 (memD m0 acc listed) β w := by
  refine ⟨⟨?_, h.sat, h.df.mono fun D hD => h.since.defer hs0 hD⟩, h.since⟩
  refine all₂_of_get ?_ ?_
  · have e : (finTm ops acc 0 tm0).length = tm0.length := finTm_length tm0 0
    show (finTm ops acc 0 tm0).length = a.tmps.toList.length
    have e2 : a.tmps.toList.length = a.tmps.size := Array.length_toList
    rw [e, e2, h.tsize]
  · intro t s hs
    have hs' : (finTm ops acc 0 tm0)[t]? = some s := hs
    rw [finTm_get] at hs'
    simp only [Nat.zero_add] at hs'
    have : ∃ v, a.tmps[t]? = some v ∧ Has β s v := by
      cases ht : tm0[t]? with
      | none => rw [ht] at hs'; cases hs'
      | some s0 =>
        rw [ht] at hs'
        simp only [Option.map_some, Option.some.injEq] at hs'
        cases hw : wrO t 0 ops with
        | none =>
          apply h.tm t s
          unfold lookD
          rw [hw] at hs' ⊢
          simp only at hs'; subst hs'; exact ht
        | some j =>
          rw [hw] at hs'
          simp only at hs'
          by_cases hjk : j = k
          · subst hjk
            rw [heH] at hs'
            simp only at hs'
            subst hs'
            rw [hj]
            have htl : t < a.tmps.size := by rw [h.tsize]; exact (List.getElem?_eq_some_iff.1 ht).1
            exact ⟨a.tmps[t], Array.getElem?_eq_getElem htl, .junk⟩
          · apply h.tm t s
            unfold lookD
            rw [hw]
            simp only
            rcases Nat.lt_or_ge j acc.length with hja | hja
            · rw [hall j hja hjk]
              rw [List.getElem?_eq_getElem hja] at hs' ⊢
              simp only at hs'
              simp [hs']
            · rw [List.getElem?_eq_none hja] at hs'
              simp only at hs'
              have : listed.getD j false = false := by
                cases hb : listed.getD j false with
                | false => rfl
                | true => exact absurd (h.head j hb) (by omega)
              rw [this]
              simp only
              rw [ht, hs']
    obtain ⟨v, hv, hh⟩ := this
    exact ⟨v, by simpa using hv, hh⟩

theorem listedH_get {k n m i : Nat} (hn : n ≤ m) : (listedH k n m).getD i false = (decide (i < n) && decide (i ≠ k)) := by
  unfold listedH
  by_cases h : k < (listedOf n m).size
  · simp only [Array.getD_eq_getD_getElem?, Array.getElem?_setIfInBounds]
    have h2 := listedOf_get (i := i) hn
    simp only [Array.getD_eq_getD_getElem?] at h2
    by_cases e : k = i
    · subst e; simp [h]
    · rw [if_neg e, h2]; simp [Ne.symm e]
  · have hk : ¬ i = k ∨ ¬ i < n := by
      by_cases e : i = k
      · right
        subst e
        have : (listedOf n m).size = m := by unfold listedOf; simp; omega
        omega
      · exact .inl e
    rw [Array.setIfInBounds_eq_of_size_le (by omega), listedOf_get hn]
    rcases hk with e | e
    · simp [e]
    · simp [e]

theorem listedH_eq (h : Inv bs ops tm0 m0 acc β0 w0 listed β a w) (hk : acc.length ≤ ops.length) {k : Nat} (hno : listed.getD k false = false) (hall : ∀ i, i < acc.length → i ≠ k → listed.getD i false = true) : listed = listedH k acc.length ops.length := by
  have hs : (listedH k acc.length ops.length).size = ops.length := by unfold listedH listedOf; simp; omega
  apply Array.ext
  · rw [h.size, hs]
  · intro i h1 h2
    have e1 : listed[i] = listed.getD i false := by simp [Array.getD_eq_getD_getElem?, h1]
    have e2 : (listedH k acc.length ops.length)[i] = (listedH k acc.length ops.length).getD i false := by simp [Array.getD_eq_getD_getElem?, h2]
    rw [e1, e2, listedH_get hk]
    by_cases hik : i = k
    · subst hik; rw [hno]; simp
    by_cases hi : i < acc.length
    · rw [hall i hi hik]; simp [hi, hik]
    · simp only [hi, decide_false, Bool.false_and]
      cases hb : listed.getD i false with
      | false => rfl
      | true => exact absurd (h.head i hb) hi

theorem fltB_spec {k m : Nat} : ∀ {l : List Oper} {i : Nat}, fltB ops k m i l = true → ∀ (j : Nat) o, l[j]? = some o → i + j ≠ k →
    (m.testBit (i + j) = true ∧ i + j < k) ∨ (flt o.op = true ∧ noG o = true ∧ (∀ e ∈ o.after, Region.binds .any e = true → e.on ≠ k) ∧ Region.free .any ⟨ops⟩ (listedH k (i + j) ops.length) (i + j) = true)
  | [], i, h, j, o, ho, _ => by simp at ho
  | q :: l, i, h, 0, o, ho, hne => by
    simp at ho; subst ho
    unfold fltB at h
    simp only [Bool.and_eq_true, Bool.or_eq_true, Nat.blt_eq] at h
    rcases h.1 with h1 | h1 | ⟨h1, h2, h3, h4⟩
    · exact absurd (Nat.eq_of_beq_eq_true h1) (by simpa using hne)
    · exact .inl h1
    · refine .inr ⟨h1, h2, ?_, h4⟩
      intro e he hb hek
      rw [Bool.not_eq_true', List.any_eq_false] at h3
      refine h3 e (Array.mem_toList_iff.2 he) ?_
      rw [hb, hek]
      simp
  | q :: l, i, h, j + 1, o, ho, hne => by
    unfold fltB at h
    rw [Bool.and_eq_true] at h
    have := fltB_spec h.2 j o (by simpa using ho) (by omega)
    rw [show i + (j + 1) = i + 1 + j by omega]
    exact this

theorem inv_hole (hro : F.round = none) (hF : Wd F) (hC : C.Ok) (hs0 : Sat β0 m0 w0) (hR : RegOk kH C ops tm0 m0 ms fs acc)
    (htail : tailB acc.length 0 ms = true) (hk : acc.length ≤ ops.length) (hkH : kH < acc.length) {eH : Ent} (heH : acc[kH]? = some eH) (hjk : eH.s = .junk)
    {mA : Nat} (hm1 : ms[kH]? = some mA) (hfl : fltB ops kH mA 0 (ops.take acc.length) = true) (hsel : Region.noSelect ⟨ops⟩ = true) (Q : Exit → Act → World → Prop)
    (hpan : ∀ c a w, ¬ Q (.panic c) a w)
    (hQ : ∀ β a w, Fit bs ⟨finTm ops acc 0 tm0, memD m0 acc (listedH kH acc.length ops.length)⟩ β a w → Since m0 β0 w0 (memD m0 acc (listedH kH acc.length ops.length)) β w → wpAnyIn F n C.P .any ⟨ops⟩ Q (cnt (listedH kH acc.length ops.length)) (listedH kH acc.length ops.length) a w) :
    ∀ (fuel : Nat) (listed : Array Bool) (β : Nm) (a : Act) (w : World), fuel = cnt listed → listed.getD kH false = false → Inv bs ops tm0 m0 acc β0 w0 listed β a w → wpAnyIn F n C.P .any ⟨ops⟩ Q fuel listed a w := by
  have getD_tf : ∀ {listed : Array Bool}, listed.size = ops.length → ∀ j, j < ops.length → listed.getD j true = listed.getD j false := by
    intro listed hs j hj
    have : j < listed.size := by rw [hs]; exact hj
    simp [Array.getD_eq_getD_getElem?, this]
  have fin : ∀ (fuel : Nat) (listed : Array Bool) (β : Nm) (a : Act) (w : World), fuel = cnt listed → listed.getD kH false = false → Inv bs ops tm0 m0 acc β0 w0 listed β a w → (∀ i, i < acc.length → i ≠ kH → listed.getD i false = true) → wpAnyIn F n C.P .any ⟨ops⟩ Q fuel listed a w := by
    intro fuel listed β a w hc hno h hall
    obtain ⟨h1, h2⟩ := Inv.finH hs0 h hk heH hjk hall
    have he := listedH_eq h hk hno hall
    subst he
    subst hc
    exact hQ β a w h1 h2
  -- the least one that has not been done
  have least_ : ∀ (listed : Array Bool), (¬ ∀ i, i < acc.length → i ≠ kH → listed.getD i false = true) → ∃ i0, i0 < acc.length ∧ i0 ≠ kH ∧ listed.getD i0 false = false ∧ ∀ j, j < i0 → j ≠ kH → listed.getD j false = true := by
    intro listed hall
    obtain ⟨i, hi, hik, hl⟩ : ∃ i, i < acc.length ∧ i ≠ kH ∧ listed.getD i false = false := by
      apply Classical.byContradiction
      intro hn
      apply hall
      intro i hi hik
      cases hb : listed.getD i false with
      | true => rfl
      | false => exact absurd ⟨i, hi, hik, hb⟩ hn
    obtain ⟨i0, ⟨hi0, hik0, hl0⟩, hmin⟩ := exists_least (p := fun i => i < acc.length ∧ i ≠ kH ∧ listed.getD i false = false) ⟨i, hi, hik, hl⟩
    refine ⟨i0, hi0, hik0, hl0, fun j hj hjk => ?_⟩
    cases hb : listed.getD j false with
    | true => rfl
    | false => exact absurd ⟨by omega, hjk, hb⟩ (hmin j hj)
  intro fuel
  induction fuel with
  | zero =>
    intro listed β a w hc hno h
    refine fin 0 listed β a w hc hno h fun i hi hik => ?_
    cases hb : listed.getD i false with
    | true => rfl
    | false =>
      have := cnt_set (by rw [h.size]; omega) hb
      omega
  | succ fuel ih =>
    intro listed β a w hc hno h
    by_cases hall : ∀ i, i < acc.length → i ≠ kH → listed.getD i false = true
    · exact fin _ listed β a w hc hno h hall
    obtain ⟨i0, hi0, hik0, hl0, hbelow⟩ := least_ listed hall
    have ho : ops[i0]? = some (ops[i0]'(by omega)) := List.getElem?_eq_getElem (by omega)
    have hm : ms[i0]? = some (ms[i0]'(by have := hR.mlen; omega)) := List.getElem?_eq_getElem (by have := hR.mlen; omega)
    have hnotk : (mA.testBit i0 = true ∧ i0 < kH) ∨ (∃ o, ops[i0]? = some o ∧ flt o.op = true ∧ noG o = true ∧ (∀ e ∈ o.after, Region.binds .any e = true → e.on ≠ kH) ∧ Region.free .any ⟨ops⟩ (listedH kH i0 ops.length) i0 = true) := by
      have := fltB_spec hfl i0 (ops[i0]'(by omega)) (by rw [List.getElem?_take, if_pos hi0]; exact ho) (by omega)
      simp only [Nat.zero_add] at this
      rcases this with h1 | h1
      · exact .inl h1
      · exact .inr ⟨_, ho, h1⟩
    -- it waits for none that has not been done
    have hdep : ∀ e ∈ (ops[i0]'(by omega)).after, Region.binds .any e = true → listed.getD e.on false = true := by
      intro e he hb
      have hlt := (hR.mok i0 _ _ hm ho).1 e (Array.mem_toList_iff.2 he) hb
      refine hbelow e.on hlt fun hek => ?_
      rcases hnotk with hn | ⟨o, ho', _, _, hnk, _⟩
      · omega
      · rw [ho] at ho'
        cases ho'
        exact hnk e he hb hek
    have hready : i0 ∈ Region.ready .any ⟨ops⟩ listed := by
      rw [mem_ready]
      exact ⟨by rw [getD_tf h.size i0 (by omega)]; exact hl0, _, by rw [List.getElem?_toArray]; exact ho, hdep⟩
    rcases hnotk with ⟨hbitA, hlt⟩ | ⟨o, ho', hf, hg, _, hfree⟩
    · refine ⟨fun h0 => (by rw [h0] at hready; cases hready), fun j hj => ?_⟩
      obtain ⟨hun, oj, hoj, hdeps⟩ := mem_ready.1 hj
      have hoj' : ops[j]? = some oj := by simpa using hoj
      have hjl := (List.getElem?_eq_some_iff.1 hoj').1
      have hmj : ms[j]? = some (ms[j]'(by have := hR.mlen; omega)) := List.getElem?_eq_getElem (by have := hR.mlen; omega)
      have hmask := mask_listed hR.mok h.closed hR.mlen j _ oj hmj hoj' (fun d hd hb => hdeps d (Array.mem_toList_iff.1 hd) hb)
      have hunj : listed.getD j false = false := by rw [← getD_tf h.size j hjl]; exact hun
      by_cases hjH : j = kH
      · exfalso
        subst hjH
        rw [hmj] at hm1
        have := hmask i0 (by rw [Option.some.inj hm1]; exact hbitA)
        rw [hl0] at this
        cases this
      rcases Nat.lt_or_ge j acc.length with hja | hja
      · refine Inv.op hF hC hs0 hR h hj hja hjH Q fun β' a' w' h' => ?_
        refine ih _ β' a' w' (by have := cnt_set (by rw [h.size]; omega) hunj; omega) ?_ h'
        rw [getD_set (by rw [h.size]; omega), if_neg hjH]; exact hno
      · exfalso
        have hbits := tailB_spec htail j _ hmj (by omega)
        simp only [Nat.zero_add] at hbits
        have := hmask i0 (by rw [hbits, Nat.testBit_two_pow_sub_one]; simp; omega)
        rw [hl0] at this
        cases this
    · obtain ⟨v, hy, hinv⟩ := Inv.flt hs0 hR h ho' hready hi0 hik0 hf hg
      refine wpAnyIn_first hro (by simpa using ho') (Region.noSelect_spec hsel) (fun c a w hq => (hpan c _ _ hq).elim) fuel listed a w ?_ hready hy ?_
      · intro j oj hoj hne hunj hnd
        refine Region.free_spec (by simpa using ho') hfree j oj hoj hne ?_ hnd
        have hjl : j < ops.length := by have := (Array.getElem?_eq_some_iff.1 hoj).1; simpa using this
        rw [getD_tf (by unfold listedH listedOf; simp; omega) j hjl, listedH_get (by omega)]
        rw [getD_tf h.size j hjl] at hunj
        by_cases hjk : j = kH
        · simp [hjk]
        rcases Nat.lt_or_ge j i0 with hlt | hge
        · have := hbelow j hlt hjk
          rw [hunj] at this; cases this
        · simp; omega
      · refine ih _ β _ w (by have := cnt_set (by rw [h.size]; omega) hl0; omega) ?_ hinv
        rw [getD_set (by rw [h.size]; omega), if_neg hik0]; exact hno

theorem Inv.start {σ : St} (hf : Fit bs σ β a w) (acc : List Ent) (ops : List Oper) : Inv bs ops σ.tm σ.m acc β w (Array.replicate ops.length false) β a { w with drawn := w.drawn + 1 } := by
  have hno : ∀ i, (Array.replicate ops.length false).getD i false = false := by
    intro i
    simp only [Array.getD_eq_getD_getElem?, Array.getElem?_replicate]
    split <;> rfl
  have up : ∀ (x : Nat) (b : Blk), (memD σ.m acc (Array.replicate ops.length false))[x]? = some (some b) → σ.m[x]? = some (some b) := by
    intro x b hb
    unfold memD at hb
    rw [overM_get] at hb
    rcases Nat.lt_or_ge x σ.m.length with hl | hl
    · rw [List.getElem?_append_left hl] at hb
      cases hx : σ.m[x]? with
      | none => rw [hx] at hb; cases hb
      | some b0 =>
        rw [hx] at hb
        simp only [Option.map_some, Option.some.injEq] at hb
        cases b0 with
        | none => cases hb
        | some b0 =>
          cases b0 with
          | rows => simp only [blkD] at hb; rw [hb]
          | loop => simp only [blkD] at hb; rw [hb]
          | cells l t =>
            simp only [blkD] at hb
            rw [overD_none fun j e y off cs _ h2 => by rw [hno] at h2; cases h2] at hb
            rw [hb]
    · rw [List.getElem?_append_right hl, memT_get] at hb
      cases hx : acc[x - σ.m.length]? with
      | none => rw [hx] at hb; cases hb
      | some e => rw [hx] at hb; simp [hno, blkD] at hb
  refine ⟨by simp, fun i hi => (by rw [hno] at hi; cases hi), fun i o hi => (by rw [hno] at hi; cases hi), ?_, ?_, ?_, ?_, ?_, hf.df⟩
  · refine ⟨fun x b hb => hf.sat.blk x b (up x b hb), ?_, fun x a hx => ?_, hf.sat.gl, fun x a ⟨b, hb, hr⟩ hx => hf.sat.ng x a ⟨b, up x b hb, hr⟩ hx⟩
    · rintro x y a ⟨b, hb, hr⟩ ⟨c, hc, hd⟩ hx hy
      exact hf.sat.inj x y a ⟨b, up x b hb, hr⟩ ⟨c, up y c hc, hd⟩ hx hy
    · have := hf.sat.dom x a hx; unfold memD; rw [overM_length]; simp; omega
  · intro j e _ _
    cases hb : β (σ.m.length + j) with
    | none => rfl
    | some x => have := hf.sat.dom _ _ hb; omega
  · refine ⟨Nm.le_refl β, fun _ _ => rfl, by unfold memD; rw [overM_length]; simp, ?_, ?_, rfl, rfl, rfl, Nat.le_refl _, fun _ _ _ => rfl⟩
    · rintro q x hx ⟨b, hb, hr⟩
      have := (List.getElem?_eq_some_iff.1 (up x b hb)).1
      omega
    · rintro q x hx ⟨b, hb, hr⟩
      exact ⟨b, up x b hb, hr⟩
  · intro t s hl
    unfold lookD at hl
    have hl' : σ.tm[t]? = some s := by
      split at hl
      · rw [hno] at hl; exact hl
      · exact hl
    obtain ⟨v, hv, hs⟩ := hf.tm.get hl'
    exact ⟨v, by simpa using hv, hs⟩
  · have := hf.tm.length
    simpa using this

theorem footEq_spec {a b : Option (Nat × Nat × Nat)} (h : footEq a b = true) : a = b := by
  unfold footEq at h
  split at h
  · rfl
  · rw [Bool.and_eq_true, Bool.and_eq_true] at h
    obtain ⟨h1, h2, h3⟩ := h
    rw [Nat.eq_of_beq_eq_true h1, Nat.eq_of_beq_eq_true h2, Nat.eq_of_beq_eq_true h3]
  · cases h
theorem footsEq_spec : ∀ {l m : List (Option (Nat × Nat × Nat))}, footsEq l m = true → l = m
  | [], [], _ => rfl
  | a :: l, b :: m, h => by
    unfold footsEq at h
    rw [Bool.and_eq_true] at h
    rw [footEq_spec h.1, footsEq_spec h.2]
  | [], _ :: _, h => by cases h
  | _ :: _, [], h => by cases h
theorem noSt_spec : ∀ {acc : List Ent}, noSt acc = true → ∀ (j : Nat) e, acc[j]? = some e → e.st = none
  | [], _, j, e, h => by simp at h
  | d :: l, hn, j, e, h => by
    unfold noSt at hn
    rw [Bool.and_eq_true] at hn
    cases j with
    | zero =>
      simp at h
      subst h
      have := hn.1
      split at this
      · assumption
      · cases this
    | succ j => exact noSt_spec hn.2 j e (by simpa using h)
theorem foots_get (acc : List Ent) (j : Nat) : (foots acc)[j]? = (acc[j]?).map footOf := by
  unfold foots
  rw [List.getElem?_map]
theorem pairB_spec {i : Nat} {e : Ent} : ∀ {l : List Ent} {ms : List Nat}, pairB i e l ms = true → ∀ (j : Nat) d (m : Nat) y off cs off' cs', l[j]? = some d → ms[j]? = some m → e.st = some (y, off, cs) → d.st = some (y, off', cs') → off + cs.length ≤ off' ∨ off' + cs'.length ≤ off ∨ m.testBit i = true
  | [], _, _, j, d, m, y, off, cs, off', cs', h, _, _, _ => by simp at h
  | d0 :: l, [], _, j, d, m, y, off, cs, off', cs', _, h, _, _ => by simp at h
  | d0 :: l, m0 :: ms, hp, j, d, m, y, off, cs, off', cs', h1, h2, h3, h4 => by
    unfold pairB at hp
    rw [Bool.and_eq_true] at hp
    cases j with
    | zero =>
      simp at h1 h2
      subst h1; subst h2
      have h5 := hp.1
      rw [h3, h4] at h5
      simp only [Nat.beq_refl, Bool.not_true, Bool.false_or, Bool.or_eq_true, Nat.ble_eq] at h5
      exact h5
    | succ j => exact pairB_spec hp.2 j d m y off cs off' cs' (by simpa using h1) (by simpa using h2) h3 h4
theorem pairsB_spec : ∀ {k : Nat} {acc : List Ent} {ms : List Nat}, pairsB k acc ms = true → ∀ (i j : Nat) ei ej (m : Nat) y off cs off' cs', i < j → acc[i]? = some ei → acc[j]? = some ej → ei.st = some (y, off, cs) → ej.st = some (y, off', cs') → ms[j]? = some m →
    off + cs.length ≤ off' ∨ off' + cs'.length ≤ off ∨ m.testBit (k + i) = true
  | k, [], ms, _, i, j, ei, ej, m, y, off, cs, off', cs', _, h, _, _, _, _ => by simp at h
  | k, e :: l, [], _, i, j, ei, ej, m, y, off, cs, off', cs', _, _, _, _, _, h => by simp at h
  | k, e :: l, m0 :: ms, hp, i, j, ei, ej, m, y, off, cs, off', cs', hij, h1, h2, h3, h4, h5 => by
    unfold pairsB at hp
    rw [Bool.and_eq_true] at hp
    cases j with
    | zero => omega
    | succ j =>
      cases i with
      | zero =>
        simp at h1
        subst h1
        exact pairB_spec hp.1 j ej m y off cs off' cs' (by simpa using h2) (by simpa using h5) h3 h4
      | succ i =>
        have := pairsB_spec hp.2 i j ei ej m y off cs off' cs' (by omega) (by simpa using h1) (by simpa using h2) h3 h4 (by simpa using h5)
        rwa [show k + 1 + i = k + (i + 1) by omega] at this

theorem later_get {fs : List (Option (Nat × Nat × Nat))} {ms : List Nat} {i j : Nat} (hij : i < j) {f : Option (Nat × Nat × Nat)} {m : Nat} (h1 : fs[j]? = some f) (h2 : ms[j]? = some m) : (laterOf fs ms i)[j - (i + 1)]? = some (f, m) := by
  unfold laterOf
  rw [List.getElem?_zip_eq_some]
  rw [List.getElem?_drop, List.getElem?_drop, show i + 1 + (j - (i + 1)) = j by omega]
  exact ⟨h1, h2⟩

theorem obl_spec : ∀ {l : List Ent} {q : Prop}, obl l q → (∀ e ∈ l, ob e.p) ∧ q
  | [], q, h => ⟨fun e he => by simp at he, h⟩
  | e :: l, q, h => by
    obtain ⟨h1, h2⟩ := andP_spec h
    obtain ⟨h3, h4⟩ := obl_spec h2
    refine ⟨fun e' he => ?_, h4⟩
    rcases List.mem_cons.1 he with rfl | he
    · exact h1
    · exact h3 e' he

theorem memD_plain (hn : noSt acc = true) (hk : acc.length ≤ ops.length) : memD m0 acc (listedOf acc.length ops.length) = m0 ++ acc.map (·.b) := by
  have hmem : memT (listedOf acc.length ops.length) 0 acc = acc.map (·.b) := by
    apply List.ext_getElem?
    intro x
    rw [memT_get, List.getElem?_map]
    cases hx : acc[x]? with
    | none => rfl
    | some e =>
      have := (List.getElem?_eq_some_iff.1 hx).1
      simp only [Option.map_some, Nat.zero_add, listedOf_get hk, decide_eq_true this]
  unfold memD
  rw [hmem]
  apply List.ext_getElem?
  intro x
  rw [overM_get]
  cases hx : (m0 ++ acc.map (·.b))[x]? with
  | none => rfl
  | some b =>
    cases b with
    | none => rfl
    | some b =>
      cases b with
      | rows => rfl
      | loop => rfl
      | cells l t =>
        simp only [Option.map_some, blkD]
        rw [overD_none fun j e y off cs h1 _ h3 => by rw [noSt_spec hn j e h1] at h3; cases h3]
theorem memD_all (hk : acc.length ≤ ops.length) : memD m0 acc (listedOf acc.length ops.length) = overM (listedOf acc.length ops.length) acc 0 (m0 ++ acc.map (·.b)) := by
  have hmem : memT (listedOf acc.length ops.length) 0 acc = acc.map (·.b) := by
    apply List.ext_getElem?
    intro x
    rw [memT_get, List.getElem?_map]
    cases hx : acc[x]? with
    | none => rfl
    | some e =>
      have := (List.getElem?_eq_some_iff.1 hx).1
      simp only [Option.map_some, Nat.zero_add, listedOf_get hk, decide_eq_true this]
  unfold memD
  rw [hmem]

theorem xDraw_core (hF : Wd F) (hC : C.Ok) (hY : YOk C β) {σ : St} {K : St → Prop} {id : Nat} (hf : Fit bs σ β a w) (Q : Exit → Act → World → Prop) (hQ : ∀ a' w', Ends bs C σ.m β w K a' w' → Q .normal a' w') {tail : List Oper}
    (hR : RegOk acc.length C ops σ.tm σ.m ms fs acc) (hsp : ∃ pre', ops = pre' ++ tail ∧ pre'.length = acc.length) (htail : tailB acc.length 0 ms = true) (hseq : Region.seqB .any ⟨ops⟩ tail.length acc.length (listedOf acc.length ops.length) = true)
    (h : xOps C ops tail ⟨finTm ops acc 0 σ.tm, memD σ.m acc (listedOf acc.length ops.length)⟩ K) : (Code.region id ⟨ops⟩ true).wpIn F n C.P Q a w := by
  obtain ⟨pre', hsplit, hpl⟩ := hsp
  have hlen : acc.length ≤ ops.length := by rw [hsplit]; simp; omega
  have htl : tail.length = ops.length - acc.length := by rw [hsplit]; simp; omega
  refine wpIn_region_any hC.mixed ?_
  refine inv_any (β0 := β) (w0 := w) hF hC hf.sat hR htail hlen (Nat.le_refl _) Q ?_ _ _ β a _ ?_ (Inv.start hf acc ops)
  · intro β1 a1 w1 hfit hsin
    rw [← htl]
    refine wpAnyIn_of_seq tail acc.length _ a1 w1 ?_ hseq ?_
    · intro j
      have : (⟨ops⟩ : Array Oper)[acc.length + j]? = ops[acc.length + j]? := by simp
      rw [this, hsplit, List.getElem?_append_right (by omega), ← hpl]
      congr 1; omega
    · refine xOps_sound hC hF (all := ops) rfl tail _ K β1 a1 w1 h hfit (hY.le hsin.ext) Q fun a2 w2 he => hQ a2 w2 ?_
      obtain ⟨σ2, β2, e1, e2, e3⟩ := he
      exact ⟨σ2, β2, e1, Since.trans hf.sat hsin e2, e3⟩
  · unfold cnt; simp [List.countP_replicate]

theorem memD_hole (hn : ∀ (j : Nat) e, acc[j]? = some e → e.st = none) {k : Nat} {eH : Ent} (heH : acc[k]? = some eH) (hb : eH.b = none) (hk : acc.length ≤ ops.length) : memD m0 acc (listedH k acc.length ops.length) = m0 ++ acc.map (·.b) := by
  have hmem : memT (listedH k acc.length ops.length) 0 acc = acc.map (·.b) := by
    apply List.ext_getElem?
    intro x
    rw [memT_get, List.getElem?_map]
    cases hx : acc[x]? with
    | none => rfl
    | some e =>
      have hlt := (List.getElem?_eq_some_iff.1 hx).1
      simp only [Option.map_some, Nat.zero_add, listedH_get hk, decide_eq_true hlt, Bool.true_and]
      by_cases e1 : x = k
      · subst e1
        rw [heH] at hx
        cases hx
        simp [hb]
      · simp [e1]
  unfold memD
  rw [hmem]
  apply List.ext_getElem?
  intro x
  rw [overM_get]
  cases hx : (m0 ++ acc.map (·.b))[x]? with
  | none => rfl
  | some b =>
    cases b with
    | none => rfl
    | some b =>
      cases b with
      | rows => rfl
      | loop => rfl
      | cells l t =>
        simp only [Option.map_some, blkD]
        rw [overD_none fun j e y off cs h1 _ h3 => by rw [hn j e h1] at h3; cases h3]

theorem xDraw_hole (hro : F.round = none) (hF : Wd F) (hC : C.Ok) (hY : YOk C β) {σ : St} {K : St → Prop} {id : Nat} (hf : Fit bs σ β a w) (Q : Exit → Act → World → Prop) (hQ : ∀ a' w', Ends bs C σ.m β w K a' w' → Q .normal a' w') {o : Oper} {tail : List Oper}
    (hR : RegOk kH C ops σ.tm σ.m ms fs acc) (ho : ops[kH]? = some o) (hsp : ∃ pre', ops = pre' ++ tail ∧ pre'.length = acc.length) (htail : tailB acc.length 0 ms = true) (hns : ∀ (j : Nat) e, acc[j]? = some e → e.st = none) (hih : isHole acc kH = true) (hhb : holeB ops ms kH acc.length tail.length = true)
    (h : xOps C ops (o :: tail) ⟨finTm ops acc 0 σ.tm, σ.m ++ acc.map (·.b)⟩ K) : (Code.region id ⟨ops⟩ true).wpIn F n C.P Q a w := by
  obtain ⟨pre', hsplit, hpl⟩ := hsp
  have hlen : acc.length ≤ ops.length := by rw [hsplit]; simp; omega
  have htl : tail.length = ops.length - acc.length := by rw [hsplit]; simp; omega
  unfold isHole at hih
  split at hih
  · rename_i eH heH
    rw [Bool.and_eq_true] at hih
    obtain ⟨hj, hb⟩ := hih
    have hj' : eH.s = .junk := by split at hj <;> first | assumption | cases hj
    have hb' : eH.b = none := by split at hb <;> first | assumption | cases hb
    unfold holeB at hhb
    simp only [Bool.and_eq_true, Nat.blt_eq, decide_eq_true_eq] at hhb
    obtain ⟨hkl, hm1, hsel, hrdy, hseq⟩ := hhb
    obtain ⟨mA, hm1', hfl⟩ : ∃ mA, ms[kH]? = some mA ∧ fltB ops kH mA 0 (ops.take acc.length) = true := by
      cases hm : ms[kH]? with
      | none => rw [hm] at hm1; cases hm1
      | some m => rw [hm] at hm1; exact ⟨m, rfl, hm1⟩
    refine wpIn_mono (Q := fun e a w => e = .normal ∧ Q .normal a w) ?_ (fun e a w hq => by rw [hq.1]; exact hq.2)
    refine wpIn_region_any hC.mixed ?_
    have hcnt : cnt (listedH kH acc.length ops.length) = tail.length + 1 := by
      have h1 : ((listedH kH acc.length ops.length).setIfInBounds kH true) = listedOf acc.length ops.length := by
        apply Array.ext
        · unfold listedH; simp
        · intro i h1 h2
          have hsz : kH < (listedH kH acc.length ops.length).size := by unfold listedH listedOf; simp; omega
          have gd : ∀ (L : Array Bool) (i : Nat) (h : i < L.size), L[i] = L.getD i false := fun L i h => by simp [Array.getD_eq_getD_getElem?, h]
          have e1 := gd ((listedH kH acc.length ops.length).setIfInBounds kH true) i h1
          have e2 : (listedOf acc.length ops.length)[i] = (listedOf acc.length ops.length).getD i false := by simp [Array.getD_eq_getD_getElem?, h2]
          rw [e1, e2, getD_set hsz, listedOf_get hlen, listedH_get hlen]
          by_cases e : kH = i
          · subst e; simp [hkl]
          · simp [e, Ne.symm e]
      have hsz : kH < (listedH kH acc.length ops.length).size := by unfold listedH listedOf; simp; omega
      have h2 := cnt_set hsz (by rw [listedH_get hlen]; simp)
      rw [h1, cnt_listedOf] at h2
      omega
    refine inv_hole (β0 := β) (w0 := w) hro hF hC hf.sat hR htail hlen hkl heH hj' hm1' hfl hsel _ (fun c a w hq => by cases hq.1) ?_ _ _ β a _ ?_ ?_ (Inv.start hf acc ops)
    · intro β1 a1 w1 hfit hsin
      rw [memD_hole hns heH hb' hlen] at hfit hsin
      rw [hcnt]
      refine wpAnyIn_all hrdy (by simp) fun i hi => ?_
      obtain rfl : i = kH := by simpa using hi
      have hW := xOps_sound (n := n) hC hF (all := ops) rfl (o :: tail) _ K β1 a1 w1 h hfit (hY.le hsin.ext) (fun e a w => e = .normal ∧ Q .normal a w) fun a2 w2 he => ⟨rfl, hQ a2 w2 (by
        obtain ⟨σ2, β2, e1, e2, e3⟩ := he
        exact ⟨σ2, β2, e1, Since.trans hf.sat hsin e2, e3⟩)⟩
      unfold wpOpIn
      have ho2 : (⟨ops⟩ : Array Oper)[i]? = some o := by simpa using ho
      rw [ho2]
      have key : ∀ a' w', wpListIn F n C.P ⟨ops⟩ (fun e a w => e = .normal ∧ Q .normal a w) tail a' w' → wpAnyIn F n C.P .any ⟨ops⟩ (fun e a w => e = .normal ∧ Q .normal a w) tail.length ((listedH i acc.length ops.length).setIfInBounds i true) a' w' := by
        intro a' w' hw
        refine wpAnyIn_of_seq tail acc.length _ a' w' ?_ hseq hw
        intro j
        have : (⟨ops⟩ : Array Oper)[acc.length + j]? = ops[acc.length + j]? := by simp
        rw [this, hsplit, List.getElem?_append_right (by omega), ← hpl]
        congr 1; omega
      have hW' := hW
      unfold wpListIn at hW'
      have := wpOpIn_mono (ops := ⟨ops⟩) (i := i) key (a := a1) (w := w1) (by unfold wpOpIn; rw [ho2]; exact hW')
      unfold wpOpIn at this
      rw [ho2] at this
      exact this
    · unfold cnt; simp [List.countP_replicate]
    · simp only [Array.getD_eq_getD_getElem?, Array.getElem?_replicate]
      split <;> rfl
  · cases hih

theorem xDraw_sound (hrd : C.rd = false → F.round = none) (hF : Wd F) (hC : C.Ok) (hY : YOk C β) {σ : St} {K : St → Prop} {id : Nat} (hf : Fit bs σ β a w) (Q : Exit → Act → World → Prop) (hQ : ∀ a' w', Ends bs C σ.m β w K a' w' → Q .normal a' w') :
    ∀ (k : Nat) (asm : List (Nat × Bool)), xDraw C ops σ K k asm → (Code.region id ⟨ops⟩ true).wpIn F n C.P Q a w
  | 0, _, h => h.elim
  | k + 1, asm, h => by
    unfold xDraw at h
    split at h
    · exact h.elim
    · rename_i ms hms
      obtain ⟨hmok, hml⟩ := masks_spec (ops := ops) (pre := []) rfl rfl (fun i m o hi => by simp at hi) hms
      split at h
      · exact h.elim
      · rename_i j b hd
        cases hb : b with
        | true => exact xDraw_sound hrd hF hC hY hf Q hQ k _ (h.1 hb)
        | false => exact xDraw_sound hrd hF hC hY hf Q hQ k _ (h.2 hb)
      · rename_i acc tail hd
        split at h
        · rename_i hns
          split at h
          · rename_i hBad
            split at h
            · exact h.elim
            · rename_i o rest
              split at h
              · exact h.elim
              · rename_i hB
                simp only [Bool.and_eq_true, Bool.not_eq_true'] at hB
                obtain ⟨hih, hrdF, hin, hds, htail, hhb⟩ := hB
                obtain ⟨hent, pre', hsp, hpl⟩ := dr_spec (kH := acc.length) (ops := ops) (pre := []) (mpre := []) (acc := []) (msAll := ms) (fsAll := []) rfl rfl rfl rfl rfl (fun i e hi => by simp at hi) hd
                have hol : ops[acc.length]? = some o := by rw [hsp, ← hpl]; simp
                have hml2 : acc.length < ms.length := by rw [hml]; exact (List.getElem?_eq_some_iff.1 hol).1
                have hent2 : ∀ i e, (acc ++ [holeE])[i]? = some e → ∃ o m, ops[i]? = some o ∧ ms[i]? = some m ∧ EntOk acc.length C ops σ.tm σ.m ((acc ++ [holeE]).take i) (laterOf [] ms i) (lateB (ms.drop (i + 1)) i) i m o e := by
                  intro i e hi
                  rcases Nat.lt_or_ge i acc.length with hl | hl
                  · rw [List.getElem?_append_left hl] at hi
                    rw [List.take_append_of_le_length (Nat.le_of_lt hl)]
                    exact hent i e hi
                  · have hil := (List.getElem?_eq_some_iff.1 hi).1
                    simp only [List.length_append, List.length_cons, List.length_nil] at hil
                    have : i = acc.length := by omega
                    subst this
                    simp at hi
                    exact ⟨o, _, hol, List.getElem?_eq_getElem hml2, .hole rfl hi.symm⟩
                have hlen2 : (acc ++ [holeE]).length = acc.length + 1 := by simp
                have hns2 : ∀ (j : Nat) e, (acc ++ [holeE])[j]? = some e → e.st = none := by
                  intro j e he
                  rcases Nat.lt_or_ge j acc.length with hl | hl
                  · rw [List.getElem?_append_left hl] at he
                    exact noSt_spec hns j e he
                  · have hil := (List.getElem?_eq_some_iff.1 he).1
                    simp only [List.length_append, List.length_cons, List.length_nil] at hil
                    have : j = acc.length := by omega
                    subst this
                    simp at he
                    rw [← he]
                    rfl
                obtain ⟨hob, hk⟩ := obl_spec h
                exact xDraw_hole (fs := []) (hrd hrdF) hF hC hY hf Q hQ ⟨hent2, hmok, hml, fun i j e y off cs _ h1 h2 => (by rw [hns2 j e h1] at h2; cases h2), fun i j ei ej m y off cs off' cs' _ h1 _ h2 => (by rw [hns2 i ei h1] at h2; cases h2), hds, dstsIn_spec hin, hob⟩ hol ⟨pre' ++ [o], by rw [hsp]; simp, by simp [hpl]⟩ (by rw [hlen2]; exact htail) hns2 hih (by rw [hlen2]; exact hhb) hk
          · rename_i hB
            rw [Bool.and_eq_true, Bool.and_eq_true, Bool.and_eq_true] at hB
            obtain ⟨hin, hds, htail, hseq⟩ := hB
            obtain ⟨hent, hsp⟩ := dr_spec (ops := ops) (pre := []) (mpre := []) (acc := []) (msAll := ms) (fsAll := []) rfl rfl rfl rfl rfl (fun i e hi => by simp at hi) hd
            obtain ⟨hob, hk⟩ := obl_spec h
            have hlen : acc.length ≤ ops.length := by obtain ⟨pre', h1, h2⟩ := hsp; rw [h1]; simp; omega
            refine xDraw_core (fs := []) hF hC hY hf Q hQ ⟨hent, hmok, hml, ?_, ?_, hds, dstsIn_spec hin, hob⟩ hsp htail hseq (by rw [memD_plain hns hlen]; exact hk)
            · intro i j e y off cs _ h1 h2
              rw [noSt_spec hns j e h1] at h2; cases h2
            · intro i j ei ej m y off cs off' cs' _ h1 _ h2
              rw [noSt_spec hns i ei h1] at h2; cases h2
        · split at h
          · rename_i acc2 tail2 hd2
            split at h
            · exact h.elim
            · rename_i hB
              rw [Bool.and_eq_true, Bool.and_eq_true, Bool.and_eq_true, Bool.and_eq_true, Bool.and_eq_true] at hB
              obtain ⟨hfe, hpb, hin, hds, htail, hseq⟩ := hB
              have hfe' := footsEq_spec hfe
              rw [← hfe'] at hd2
              obtain ⟨hent, hsp⟩ := dr_spec (ops := ops) (pre := []) (mpre := []) (acc := []) (msAll := ms) (fsAll := foots acc2) rfl rfl rfl rfl rfl (fun i e hi => by simp at hi) hd2
              obtain ⟨hob, hk⟩ := obl_spec h
              have hlen : acc2.length ≤ ops.length := by obtain ⟨pre', h1, h2⟩ := hsp; rw [h1]; simp; omega
              refine xDraw_core (fs := foots acc2) hF hC hY hf Q hQ ⟨hent, hmok, hml, ?_, ?_, hds, dstsIn_spec hin, hob⟩ hsp htail hseq (by rw [memD_all hlen]; exact hk)
              · intro i j e y off cs hij h1 h2
                obtain ⟨o, m, _, hm, _⟩ := hent j e h1
                refine ⟨m, ?_, hm⟩
                refine later_get hij ?_ hm
                rw [foots_get, h1]
                simp only [Option.map_some, footOf, h2]
              · intro i j ei ej m y off cs off' cs' hij h1 h2 h3 h4 h5
                have := pairsB_spec hpb i j ei ej m y off cs off' cs' hij h1 h2 h3 h4 h5
                rwa [Nat.zero_add] at this
          · exact h.elim
end
end Go.Proofs.Ytceffompldihjaa.Rex
