/- A WALK BY COMPUTATION, part 6: a quiet operation does what was computed. Conditions: none. Own work. -/
import Derived.Test.YtceffompldihjaaRexB
namespace Go.Proofs.Ytceffompldihjaa.Rex
open Go.RowKit
set_option linter.unusedVariables false
set_option linter.unusedSimpArgs false

section
variable {M : Md} {P : Program} {Γ : List (FuncId × FX)} {E : Env} {nm : Nat} {o : Oper} {p : Option Prop} {s : SV} {bl : Option Blk} {β : Nm} {a : Act} {w : World}

theorem mergeL_has {c : Bool} {x y z : Lf} {u v : Value} (h : mergeL c x y = some z) (hx : HasL β x u) (hy : HasL β y v) : HasL β z (if c = true then u else v) := by
  unfold mergeL at h
  split at h
  · split at h
    · rename_i hk
      have := of_decide_eq_true hk
      subst this
      cases h; cases hx; cases hy
      cases c
      · exact .int
      · exact .int
    · cases h
  · cases h; cases hx; cases hy
    cases c
    · exact .bool
    · exact .bool
  · cases h
theorem mergeLs_has {c : Bool} : ∀ {xs ys zs : List Lf} {us vs : List Value}, mergeLs c xs ys = some zs → All₂ (HasL β) xs us → All₂ (HasL β) ys vs → All₂ (HasL β) zs (if c = true then us else vs)
  | [], [], zs, us, vs, h, hx, hy => by
    cases h
    rw [hx.nil_inv, hy.nil_inv]
    split <;> exact .nil
  | x :: xs, y :: ys, zs, us, vs, h, hx, hy => by
    obtain ⟨u, us, rfl, hu, hx⟩ := hx.cons_inv
    obtain ⟨v, vs, rfl, hv, hy⟩ := hy.cons_inv
    unfold mergeLs at h
    split at h
    · rename_i z hz
      split at h
      · rename_i zs hzs
        cases h
        have h1 := mergeL_has hz hu hv
        have h2 := mergeLs_has hzs hx hy
        cases c
        · exact .cons h1 h2
        · exact .cons h1 h2
      · cases h
    · cases h
  | [], _ :: _, _, _, _, h, _, _ => by cases h
  | _ :: _, [], _, _, _, h, _, _ => by cases h
theorem mergeV_has {c : Bool} {x y z : SV} {u v : Value} (h : mergeV c x y = some z) (hx : Has β x u) (hy : Has β y v) : Has β z (if c = true then u else v) := by
  unfold mergeV at h
  split at h
  · split at h
    · rename_i x hx'
      cases h
      cases hx with
      | v hx => cases hx with
        | one hx => cases hy with
          | v hy => cases hy with
            | one hy => exact .v (.one (mergeL_has hx' hx hy))
    · cases h
  · split at h
    · rename_i x hx'
      cases h
      cases hx with
      | v hx => cases hx with
        | agg hx => cases hy with
          | v hy => cases hy with
            | agg hy =>
              have := mergeLs_has hx' hx hy
              cases c
              · exact .v (.agg this)
              · exact .v (.agg this)
    · cases h
  · cases h

theorem minmaxQ_run {mx : Bool} {k : IntKind} : ∀ {l : List SV} {ka : Bool} {n : Int} {vs : List Value} {s : SV}, minmaxQ mx k ka n l = some s → All₂ (Has β) l vs →
    ∃ r, (vs.foldlM (if mx = true then Builtin.max2 else Builtin.min2) (.int k n)).run P w = .ok r w ∧ Has β s r
  | [], ka, n, vs, s, h, hv => by
    cases h
    rw [hv.nil_inv]
    exact ⟨_, rfl, .v (.one .int)⟩
  | x :: l, ka, n, vs, s, h, hv => by
    obtain ⟨v, vs, rfl, hx, hv'⟩ := hv.cons_inv
    clear hv
    unfold minmaxQ at h
    split at h
    · cases hx with
      | v hx => cases hx with
        | one hx => cases hx with
          | int =>
            rw [List.foldlM_cons]
            split at h
            · obtain ⟨r, hr, hs⟩ := minmaxQ_run h hv'
              refine ⟨r, ?_, hs⟩
              simp only [if_true] at hr ⊢
              rw [Sem.run_bind]
              simp only [Builtin.max2, Sem.run_pure, Result.andThen_ok]
              exact hr
            · obtain ⟨r, hr, hs⟩ := minmaxQ_run h hv'
              refine ⟨r, ?_, hs⟩
              simp only [Bool.false_eq_true, if_false] at hr ⊢
              rw [Sem.run_bind]
              simp only [Builtin.min2, Sem.run_pure, Result.andThen_ok]
              exact hr
    · cases h

theorem lenQ_run {t : TypeId} {x : SV} {ts : Array TypeId} {T : TypeId} {v : Value} (ht : ts[0]? = some t) (h : lenQ P t x = some s) (hx : Has β x v) :
    ∃ r, (Builtin.len_ ts T #[v]).run P w = .ok r w ∧ Has β s r := by
  unfold lenQ at h
  unfold Builtin.len_
  simp only [ht]
  split at h
  · rename_i n e hu
    cases h
    exact ⟨.int .i64 n, by simp [run_underlying hu, goInt], .v (.one .int)⟩
  · rename_i arr hu
    split at h
    · rename_i n e hu'
      cases h
      exact ⟨.int .i64 n, by simp [run_underlying hu, run_underlying hu', goInt], .v (.one .int)⟩
    · cases h
  · rename_i e hu
    split at h
    · cases h
      cases hx with
      | v hx => cases hx with
        | one hx => cases hx with
          | sl hb => exact ⟨.int .i64 _, by simp [run_underlying hu, goInt], .v (.one .int)⟩
    · cases h
      cases hx with
      | v hx => cases hx with
        | one hx => cases hx with
          | rs hb =>
            obtain ⟨q, rfl⟩ := hb.isSlice
            exact ⟨.int .i64 _, by simp [run_underlying hu, goInt], .v (.one .int)⟩
    · cases h
      cases hx with
      | v hx => cases hx with
        | one hx => cases hx with
          | nils => exact ⟨.int .i64 _, by simp [run_underlying hu, goInt], .v (.one .int)⟩
    · cases h
      cases hx with
      | v hx => cases hx with
        | one hx => cases hx with
          | op hb => exact ⟨.int .i64 _, by simp [run_underlying hu, goInt], .v (.one .int)⟩
    · cases h
  · cases h

theorem builtQ_run {b : Builtin} {ts : Array TypeId} {xs : List SV} {T : TypeId} {cs : Array Bool} {vs : List Value} (h : builtQ P b ts xs = some s) (hv : All₂ (Has β) xs vs) :
    ∃ r, (builtin b ts T cs ⟨vs⟩).run P w = .ok (.value r) w ∧ Has β s r := by
  unfold builtQ at h
  split at h
  · split at h
    · rename_i t x ht
      obtain ⟨v, vs, rfl, hx, hv⟩ := hv.cons_inv
      rw [hv.nil_inv]
      obtain ⟨r, hr, hs⟩ := lenQ_run (P := P) (w := w) (T := T) ht h hx
      exact ⟨r, by simp only [builtin, Sem.run_bind, hr, Result.andThen_ok, Sem.run_pure], hs⟩
    · cases h
  · split at h
    · obtain ⟨v, vs, rfl, hx, hv'⟩ := hv.cons_inv
      clear hv
      cases hx with
      | v hx => cases hx with
        | one hx => cases hx with
          | int =>
            obtain ⟨r, hr, hs⟩ := minmaxQ_run (P := P) (w := w) h hv'
            simp only [Bool.false_eq_true, if_false] at hr
            exact ⟨r, by simp only [builtin, Builtin.min_, Sem.run_bind, hr, Result.andThen_ok, Sem.run_pure], hs⟩
    · cases h
  · split at h
    · obtain ⟨v, vs, rfl, hx, hv'⟩ := hv.cons_inv
      clear hv
      cases hx with
      | v hx => cases hx with
        | one hx => cases hx with
          | int =>
            obtain ⟨r, hr, hs⟩ := minmaxQ_run (P := P) (w := w) h hv'
            simp only [if_true] at hr
            exact ⟨r, by simp only [builtin, Builtin.max_, Sem.run_bind, hr, Result.andThen_ok, Sem.run_pure], hs⟩
    · cases h
  · cases h

theorem fieldOf?_spec {t : TypeId} {f : Nat} {fd : Field} (h : fieldOf? P t f = some fd) : ∃ fs, P.underlying t = some (.struct fs) ∧ fs[f]? = some fd := by
  unfold fieldOf? at h
  split at h
  · exact ⟨_, by assumption, h⟩
  · cases h

theorem callFunc_run {f : FuncId} {args : Array Value} (h : callable P f) : (callFunc f args).run P w = .ok (.enter f args) w := by
  obtain ⟨fn, h1, h2, h3⟩ := h
  unfold callFunc
  simp only [Sem.run_bind, run_program, Result.andThen_ok, h1, h2, h3, Bool.false_eq_true, if_false, Sem.run_pure]

theorem r0_spec {x : Option SV} {r : Option Prop × SV × Option Blk} (h : r0 x = some r) : ∃ s, x = some s ∧ r = (none, s, none) := by
  obtain ⟨s, hs, h⟩ := Option.bind_eq_some_iff.1 h
  cases h
  exact ⟨s, hs, rfl⟩
theorem r1_spec {x : Option (Option Prop × SV)} {r : Option Prop × SV × Option Blk} (h : r1 x = some r) : ∃ p s, x = some (p, s) ∧ r = (p, s, none) := by
  obtain ⟨⟨p, s⟩, hs, h⟩ := Option.bind_eq_some_iff.1 h
  cases h
  exact ⟨p, s, hs, rfl⟩

theorem idxQ_run {t : TypeId} {x i : SV} {u v : Value} (h : idxQ P t x i = some (p, s)) (hp : ob p) (hx : Has β x u) (hi : Has β i v) :
    ∃ r, (Instr.indexAt t u v).run P w = .ok r w ∧ Has β s r := by
  unfold idxQ at h
  split at h
  · rename_i k kn i
    cases hi with
    | v hi => cases hi with
      | one hi => cases hi with
        | int =>
          split at h
          · rename_i len e b off hu
            cases hx with
            | v hx => cases hx with
              | one hx => cases hx with
                | ptr hb =>
                  rename_i B
                  split at h
                  · rename_i n hn
                    have fin : (0 ≤ i ∧ i < (len : Int)) → ∃ r, (Instr.indexAt t (.pointer (some ⟨B, off, none⟩)) (.int k i)).run P w = .ok r w ∧ Has β (.v (.one (.ptr b (off + i.toNat * n)))) r := by
                      intro hr
                      refine ⟨.pointer (some ⟨B, off + i.toNat * n, none⟩), ?_, .v (.one (.ptr hb))⟩
                      simp [Instr.indexAt, asIntOf, run_underlying hu, Instr.sureAddr, hr, run_sizeOf' hn, addr_add]
                    split at h
                    · split at h
                      · rename_i hd
                        simp only [Bool.and_eq_true, decide_eq_true_eq] at hd
                        cases h
                        exact fin hd
                      · cases h
                    · cases h
                      exact fin hp
                  · cases h
          · rename_i e b off kl len cp hu
            cases hx with
            | v hx => cases hx with
              | one hx => cases hx with
                | sl hb =>
                  rename_i B
                  split at h
                  · rename_i n hn
                    have fin : (0 ≤ i ∧ i < (len : Int)) → ∃ r, (Instr.indexAt t (.slice (some ⟨B, off, none⟩) len cp) (.int k i)).run P w = .ok r w ∧ Has β (.v (.one (.ptr b (off + i.toNat * n)))) r := by
                      intro hr
                      refine ⟨.pointer (some ⟨B, off + i.toNat * n, none⟩), ?_, .v (.one (.ptr hb))⟩
                      simp [Instr.indexAt, asIntOf, run_underlying hu, Instr.sureAddr, hr, run_sizeOf' hn, addr_add]
                    split at h
                    · split at h
                      · rename_i hd
                        simp only [Bool.and_eq_true, decide_eq_true_eq] at hd
                        cases h
                        exact fin hd
                      · cases h
                    · cases h
                      exact fin hp
                  · cases h
          · rename_i e z tg b base sz o len cp hu
            cases hx with
            | v hx => cases hx with
              | one hx => cases hx with
                | rs hb =>
                  split at h
                  · rename_i n hn
                    split at h
                    · rename_i hsz
                      have := Nat.eq_of_beq_eq_true hsz
                      subst this
                      obtain ⟨k1, k2, k3⟩ := hb
                      have fin : (0 ≤ i ∧ i < (len : Int)) → ∃ r, (Instr.indexAt t u (.int k i)).run P w = .ok r w ∧ Has β (.v (.one (.rp b base n (o + i.toNat) 0))) r := by
                        intro hr
                        rcases k3 with ⟨_, h0, _⟩ | ⟨_, B, hB, rfl⟩
                        · omega
                        · refine ⟨.pointer (some ⟨B, base + (o + i.toNat) * n + 0, none⟩), ?_, .v (.one (.rp hB))⟩
                          simp [Instr.indexAt, asIntOf, run_underlying hu, Instr.sureAddr, hr, run_sizeOf' hn, addr_add]
                          rw [Nat.add_mul]; omega
                      split at h
                      · rename_i ht
                        cases h
                        have h0 := k1 (Nat.eq_of_beq_eq_true ht)
                        rw [h0, Nat.zero_add] at fin
                        exact fin hp
                      · cases h
                        exact fin hp
                    · cases h
                  · cases h
          · rename_i len e b base sz j f hu
            cases hx with
            | v hx => cases hx with
              | one hx => cases hx with
                | rp hb =>
                  rename_i B
                  split at h
                  · rename_i n hn
                    split at h
                    · rename_i hd
                      simp only [Bool.and_eq_true, decide_eq_true_eq] at hd
                      cases h
                      refine ⟨.pointer (some ⟨B, base + j * sz + (f + i.toNat * n), none⟩), ?_, .v (.one (.rp hb))⟩
                      simp [Instr.indexAt, asIntOf, run_underlying hu, Instr.sureAddr, hd.2, run_sizeOf' hn, addr_add, Nat.add_assoc]
                    · cases h
                  · cases h
          · rename_i len e g off hu
            cases hx with
            | v hx => cases hx with
              | one hx => cases hx with
                | op hb =>
                  split at h
                  · rename_i n hn
                    have fin : (0 ≤ i ∧ i < (len : Int)) → ∃ r, (Instr.indexAt t (.pointer (some ⟨g, off, none⟩)) (.int k i)).run P w = .ok r w ∧ Has β (.v (.one (.op (.pointer (some ⟨g, off + i.toNat * n, none⟩))))) r := by
                      intro hr
                      refine ⟨.pointer (some ⟨g, off + i.toNat * n, none⟩), ?_, .v (.one (.op rfl))⟩
                      simp [Instr.indexAt, asIntOf, run_underlying hu, Instr.sureAddr, hr, run_sizeOf' hn, addr_add]
                    split at h
                    · split at h
                      · rename_i hd
                        simp only [Bool.and_eq_true, decide_eq_true_eq] at hd
                        cases h
                        exact fin hd
                      · cases h
                    · cases h
                      exact fin hp
                  · cases h
          · rename_i e g off len cp hu
            cases hx with
            | v hx => cases hx with
              | one hx => cases hx with
                | op hb =>
                  split at h
                  · rename_i n hn
                    have fin : (0 ≤ i ∧ i < (len : Int)) → ∃ r, (Instr.indexAt t (.slice (some ⟨g, off, none⟩) len cp) (.int k i)).run P w = .ok r w ∧ Has β (.v (.one (.op (.pointer (some ⟨g, off + i.toNat * n, none⟩))))) r := by
                      intro hr
                      refine ⟨.pointer (some ⟨g, off + i.toNat * n, none⟩), ?_, .v (.one (.op rfl))⟩
                      simp [Instr.indexAt, asIntOf, run_underlying hu, Instr.sureAddr, hr, run_sizeOf' hn, addr_add]
                    split at h
                    · split at h
                      · rename_i hd
                        simp only [Bool.and_eq_true, decide_eq_true_eq] at hd
                        cases h
                        exact fin hd
                      · cases h
                    · cases h
                      exact fin hp
                  · cases h
          · cases h
  · cases h

theorem omap_has {l : List Operand} {xs : List SV} (hE : EOk β E a w) (h : omap E.ev l = some xs) : All₂ (Has β) xs (l.map a.eval) :=
  omap_all (fun x s e => hE.ev x s e) h

theorem caps_has {l : List Lf} {vs : List Value} (h : All₂ (HasL β) l vs) : All₂ (Has β) (l.map fun x => .v (.one x)) vs := by
  induction h with
  | nil => exact .nil
  | cons h _ ih => exact .cons (.v (.one h)) ih

theorem intOfS_has {s : SV} {q : Bool × Int} {v : Value} (h : intOfS s = some q) (hv : Has β s v) : ∃ k, v = .int k q.2 := by
  unfold intOfS at h
  split at h
  · cases h
    cases hv with
    | v hv => cases hv with
      | one hv => cases hv; exact ⟨_, rfl⟩
  · cases h
theorem optI_bh {x : Option Operand} {q : Option (Bool × Int)} (hE : EOk β E a w) (h : optI E x = some q) : BH q (x.map a.eval) := by
  cases x with
  | none => cases h; trivial
  | some x =>
    unfold optI at h
    simp only at h
    split at h
    · rename_i s hs
      split at h
      · rename_i i hi
        cases h
        obtain ⟨k, e⟩ := intOfS_has hi (hE.ev _ _ hs)
        exact ⟨k, e⟩
      · cases h
    · cases h

set_option maxHeartbeats 2000000 in
theorem qOp_sound (hΓ : ∀ f c, (f, c) ∈ Γ → XSound P f c) (h : qOp M P Γ E nm o.op = some (p, s, bl)) (hp : ob p) (hE : EOk β E a w) (hnm : β nm = none) :
    Doe P o a w fun r w' => Left β w nm s r w' bl := by
  have xe := Ext.refl w
  unfold qOp at h
  split at h
  case h_1 ho =>
    obtain ⟨s', h', e⟩ := r0_spec h
    clear h
    cases e
    have h := h'
    exact doe_run (by rw [execOp, ho]; rfl) ⟨hE.ev _ _ h, xe⟩
  case h_2 ho =>
    obtain ⟨s', h', e⟩ := r0_spec h
    clear h
    cases e
    have h := h'
    exact doe_run (by rw [execOp, ho]; rfl) ⟨hE.ev _ _ h, xe⟩
  case h_3 c x y ho =>
    obtain ⟨c', hc, h⟩ := Option.bind_eq_some_iff.1 h
    have hcv := hE.ev _ _ hc
    split at h
    · rename_i kn t
      have hbv : a.eval c = .bool t := by
        cases hcv with
        | v hcv => cases hcv with
          | one hcv => generalize a.eval c = q at hcv ⊢; cases hcv; rfl
      have hrun : (execOp a.eval o).run P w = .ok (.value (if t = true then a.eval x else a.eval y)) w := by
        rw [execOp, ho]; simp [hbv, asBool]
      split at h
      · split at h
        · obtain ⟨s', h', e⟩ := r0_spec h
          clear h
          cases e
          have h := h'
          exact doe_run hrun ⟨hE.ev _ _ h, xe⟩
        · obtain ⟨s', h', e⟩ := r0_spec h
          clear h
          cases e
          have h := h'
          exact doe_run hrun ⟨hE.ev _ _ h, xe⟩
      · obtain ⟨x', hx, h⟩ := Option.bind_eq_some_iff.1 h
        obtain ⟨y', hy, h⟩ := Option.bind_eq_some_iff.1 h
        obtain ⟨s', h', e⟩ := r0_spec h
        clear h
        cases e
        have h := h'
        exact doe_run hrun ⟨mergeV_has h (hE.ev _ _ hx) (hE.ev _ _ hy), xe⟩
    · cases h
  case h_4 e ho =>
    obtain ⟨l, hl, h⟩ := Option.bind_eq_some_iff.1 h
    cases h
    obtain ⟨z, vs, hz, hc, hv⟩ := zeroL_run (P := P) (w := w) (β := β) hl
    have hle := Nm.le_set (a := w.heap.size) hnm
    refine doe_v (by rw [execOp, ho]) (v := .pointer (some ⟨w.heap.size, 0, none⟩)) (w' := w.alloc (.cells ⟨vs⟩ e (0, 0))) ?_ ⟨_, rfl, ⟨vs, rfl, hv.mono fun _ _ => HasL.mono hle⟩, .v (.one (.ptr (by simp [Nm.set])))⟩
    simp only [Instr.alloc, Sem.run_bind, hz, Result.andThen_ok, newVar, newRow, hc]
    rfl
  case h_5 e x ho =>
    obtain ⟨x', hx, h⟩ := Option.bind_eq_some_iff.1 h
    obtain ⟨y, hy, h⟩ := Option.bind_eq_some_iff.1 h
    cases h
    have hxv := hE.ev _ _ hx
    have hle := Nm.le_set (a := w.heap.size) hnm
    cases x' with
    | v x' =>
      cases hy
      cases hxv with
      | v hxv =>
        obtain ⟨vs, hc, hv⟩ := hxv.cells
        refine doe_v (by rw [execOp, ho]) (v := .pointer (some ⟨w.heap.size, 0, none⟩)) (w' := w.alloc (.cells ⟨vs⟩ e (0, 0))) ?_ ⟨_, rfl, ⟨vs, rfl, hv.mono fun _ _ => HasL.mono hle⟩, .v (.one (.ptr (by simp [Nm.set])))⟩
        simp only [Instr.box, Sem.run_bind, newVar, newRow, hc]
        rfl
    | _ => cases hy
  case h_6 t parts ho =>
    obtain ⟨ps, hps, h⟩ := Option.bind_eq_some_iff.1 h
    obtain ⟨l, hl, h⟩ := Option.bind_eq_some_iff.1 h
    cases h
    have hq := omap_all (g := fun ix : Nat × Operand => (ix.1, a.eval ix.2)) (R := fun (x : Nat × Vv) (y : Nat × Value) => x.1 = y.1 ∧ HasV β x.2 y.2) (fun ix b e => by
      obtain ⟨s1, h1, e⟩ := Option.bind_eq_some_iff.1 e
      obtain ⟨s2, h2, e⟩ := Option.bind_eq_some_iff.1 e
      cases e
      refine ⟨rfl, ?_⟩
      have := hE.ev _ _ h1
      cases s1 with
      | v x => cases h2; cases this with
        | v this => exact this
      | _ => cases h2) hps
    obtain ⟨vs, hr, hv⟩ := buildL_run (P := P) (w := w) hl hq
    refine doe_v (by rw [execOp, ho]) (v := .agg ⟨vs⟩) (w' := w) ?_ ⟨.v (.agg hv), xe⟩
    rw [← hr]
    congr 2
    exact Array.ext' (by simp)
  case h_7 t len parts ho =>
    split at h
    · rename_i e hu
      split at h
      · rename_i n hn
        split at h
        · rename_i hd
          have hd' := of_decide_eq_true hd
          obtain ⟨z, hz, h⟩ := Option.bind_eq_some_iff.1 h
          obtain ⟨ps, hps, h⟩ := Option.bind_eq_some_iff.1 h
          obtain ⟨l, hl, h⟩ := Option.bind_eq_some_iff.1 h
          cases h
          have hq := omap_all (g := fun ix : Nat × Operand => (ix.1, a.eval ix.2)) (R := fun (x : Nat × Vv) (y : Nat × Value) => x.1 = y.1 ∧ HasV β x.2 y.2) (fun ix b e => by
            obtain ⟨s1, h1, e⟩ := Option.bind_eq_some_iff.1 e
            obtain ⟨s2, h2, e⟩ := Option.bind_eq_some_iff.1 e
            cases e
            refine ⟨rfl, ?_⟩
            have := hE.ev _ _ h1
            cases s1 with
            | v x => cases h2; cases this with
              | v this => exact this
            | _ => cases h2) hps
          obtain ⟨zs, hzr, hzv⟩ := zeroRow_run (P := P) (w := w) (β := β) hz
          obtain ⟨vs, hf, hvs⟩ := fillL_fill hl hzv hq
          have hle := Nm.le_set (a := w.heap.size) hnm
          refine doe_v (by rw [execOp, ho]) (v := .slice (some ⟨w.heap.size, 0, none⟩) len len) (w' := w.alloc (.cells ⟨vs⟩ e (0, 0))) ?_ ⟨_, rfl, ⟨vs, rfl, hvs.mono fun _ _ => HasL.mono hle⟩, .v (.one (.sl (by simp [Nm.set])))⟩
          have ep : (parts.map fun x : Nat × Operand => (x.1, a.eval x.2)).toList = parts.toList.map fun ix : Nat × Operand => (ix.1, a.eval ix.2) := by simp
          have ez : (⟨((Array.range (len * n)).map (fun i => zs[i % zs.size]!)).toList⟩ : Array Value) = (Array.range (len * n)).map (fun i => zs[i % zs.size]!) := rfl
          rw [ez] at hf
          unfold Instr.buildSlice
          simp only [Sem.run_bind, run_underlying hu, Result.andThen_ok, run_sizeOf' hn]
          rw [if_neg (by omega)]
          by_cases h0 : len * n = 0
          · rw [if_pos h0]
            rw [if_pos h0] at hzr
            cases hzr
            simp only [Sem.run_bind, Sem.run_pure, Result.andThen_ok, ep, hf, newRow, run_newObj]
            rfl
          · rw [if_neg h0]
            rw [if_neg h0] at hzr
            rw [Sem.run_bind] at hzr ⊢
            cases hz0 : (zeroValue e).run P w with
            | halt hh ww => rw [hz0] at hzr; cases hzr
            | ok zv ww =>
              rw [hz0] at hzr
              simp only [Result.andThen_ok, Sem.run_pure] at hzr ⊢
              cases hzr
              simp only [Sem.run_bind, Sem.run_pure, Result.andThen_ok, ep, hf, newRow, run_newObj]
              rfl
        · cases h
      · cases h
    · cases h
  case h_8 t x ho =>
    obtain ⟨x', hx, h⟩ := Option.bind_eq_some_iff.1 h
    have hxv := hE.ev _ _ hx
    split at h
    · rename_i b off
      obtain ⟨B, hB, h⟩ := Option.bind_eq_some_iff.1 h
      split at h
      · rename_i l e
        obtain ⟨k, hk, hb⟩ := hE.cells hB
        obtain ⟨v, hv, h⟩ := Option.bind_eq_some_iff.1 h
        cases h
        obtain ⟨vs, hob, hvs⟩ := hb
        have hav : a.eval x = .pointer (some ⟨k, off, none⟩) := by
          cases hxv with
          | v hxv => cases hxv with
            | one hxv => generalize a.eval x = q at hxv ⊢; cases hxv; rename_i h1; rw [hk] at h1; cases h1; rfl
        have hcell : ∀ i : Nat, w.cell? ⟨k, i, none⟩ = vs[i]? := fun i => by simp [World.cell?, hob]
        obtain ⟨r, hr, hh⟩ := load_part (P := P) (w := w) (k := k) (base := 0) hv hvs (fun j u hu => by rw [hcell, Nat.zero_add]; exact hu)
        rw [Nat.zero_add] at hr
        refine doe_v (by rw [execOp, ho]) (v := r) (w' := w) ?_ ⟨.v hh, xe⟩
        simp only [hav, Instr.loadAt, Instr.sureAddr, Sem.run_bind, Sem.run_pure, Result.andThen_ok]
        exact hr
      · cases h
    · rename_i b base sz i f
      obtain ⟨B, hB, h⟩ := Option.bind_eq_some_iff.1 h
      obtain ⟨⟨p', v⟩, hv, h⟩ := Option.bind_eq_some_iff.1 h
      cases h
      obtain ⟨k, r, hk, hr, hh⟩ := rdRow_run (P := P) hv hp (hE.mm _ _ hB)
      have hav : a.eval x = .pointer (some ⟨k, base + i * sz + f, none⟩) := by
        cases hxv with
        | v hxv => cases hxv with
          | one hxv => generalize a.eval x = q at hxv ⊢; cases hxv; rename_i h1; rw [hk] at h1; cases h1; rfl
      refine doe_v (by rw [execOp, ho]) (v := r) (w' := w) ?_ ⟨.v hh, xe⟩
      simp only [hav, Instr.loadAt, Instr.sureAddr, Sem.run_bind, Sem.run_pure, Result.andThen_ok]
      exact hr
    · rename_i g off
      obtain ⟨v, hv, h⟩ := Option.bind_eq_some_iff.1 h
      cases h
      unfold gLoad at hv
      split at hv
      · rename_i vs hf
        split at hv
        · rename_i l hl
          have hls := omap_all (g := id) (R := HasL β) (fun a b e => ofLeaf_has e) hl
          rw [List.map_id] at hls
          obtain ⟨t', fz, hob⟩ := hE.gl _ (find_mem hf)
          have hav : a.eval x = .pointer (some ⟨g, off, none⟩) := by
            cases hxv with
            | v hxv => cases hxv with
              | one hxv => generalize a.eval x = q at hxv ⊢; cases hxv; rfl
          have hcell : ∀ i : Nat, w.cell? ⟨g, i, none⟩ = vs[i]? := fun i => by simp [World.cell?, hob]
          obtain ⟨r, hr, hh⟩ := load_part (P := P) (w := w) (k := g) (base := 0) hv hls (fun j u hu => by rw [hcell, Nat.zero_add]; exact hu)
          rw [Nat.zero_add] at hr
          refine doe_v (by rw [execOp, ho]) (v := r) (w' := w) ?_ ⟨.v hh, xe⟩
          simp only [hav, Instr.loadAt, Instr.sureAddr, Sem.run_bind, Sem.run_pure, Result.andThen_ok]
          exact hr
        · cases hv
      · cases hv
    · cases h
  case h_9 x ho =>
    obtain ⟨x', hx, h⟩ := Option.bind_eq_some_iff.1 h
    have hxv := hE.ev _ _ hx
    split at h
    · cases h
      refine doe_run (v := a.eval x) (w' := w) ?_ ⟨hxv, xe⟩
      cases hxv with
      | v hxv => cases hxv with
        | one hxv => rw [execOp, ho]; simp only; generalize a.eval x = q at hxv ⊢; cases hxv; rfl
    · cases h
      refine doe_run (v := a.eval x) (w' := w) ?_ ⟨hxv, xe⟩
      cases hxv with
      | v hxv => cases hxv with
        | one hxv => rw [execOp, ho]; simp only; generalize a.eval x = q at hxv ⊢; cases hxv; rfl
    · cases h
      refine doe_run (v := a.eval x) (w' := w) ?_ ⟨hxv, xe⟩
      cases hxv with
      | v hxv => cases hxv with
        | one hxv => rw [execOp, ho]; simp only; generalize a.eval x = q at hxv ⊢; cases hxv; rfl
    · cases h
  case h_10 op t x y yt ho =>
    obtain ⟨x', hx, h⟩ := Option.bind_eq_some_iff.1 h
    obtain ⟨y', hy, h⟩ := Option.bind_eq_some_iff.1 h
    obtain ⟨p', s', h', e⟩ := r1_spec h
    clear h
    cases e
    have h := h'
    obtain ⟨r, hr, hs⟩ := binQ_run (P := P) (w := w) h hp (hE.ev _ _ hx) (hE.ev _ _ hy) x y
    exact doe_v (by rw [execOp, ho]) hr ⟨hs, xe⟩
  case h_11 op t x ho =>
    obtain ⟨x', hx, h⟩ := Option.bind_eq_some_iff.1 h
    obtain ⟨p', s', h', e⟩ := r1_spec h
    clear h
    cases e
    have h := h'
    obtain ⟨r, hr, hs⟩ := unQ_run (P := P) (w := w) h hp (hE.ev _ _ hx)
    exact doe_v (by rw [execOp, ho]) hr ⟨hs, xe⟩
  case h_12 sr d x ho =>
    obtain ⟨x', hx, h⟩ := Option.bind_eq_some_iff.1 h
    obtain ⟨p', s', h', e⟩ := r1_spec h
    clear h
    cases e
    have h := h'
    obtain ⟨r, hr, hs⟩ := convQ_run (P := P) (w := w) h hp (hE.ev _ _ hx)
    exact doe_v (by rw [execOp, ho]) hr ⟨hs, xe⟩
  case h_13 fn first captured ho =>
    split at h
    · rename_i f
      split at h
      · rename_i hf
        obtain ⟨l, hl, h⟩ := Option.bind_eq_some_iff.1 h
        cases h
        have hl' := omap_all (g := a.eval) (R := HasL β) (fun x b e => by
          obtain ⟨s1, h1, e⟩ := Option.bind_eq_some_iff.1 e
          have := hE.ev _ _ h1
          unfold oneL at e
          split at e
          · cases e; cases this with
            | v this => cases this with
              | one this => exact this
          · cases e) hl
        have hf' : first = #[] := by cases first; simp_all
        refine doe_v (by rw [execOp, ho]) (v := .func (.func f) #[] ⟨captured.toList.map a.eval⟩) (w' := w) ?_ ⟨.clo hl', xe⟩
        subst hf'
        simp only [Instr.makeFunc, Sem.run_pure]
        congr 2 <;> exact Array.ext' (by simp)
      · cases h
    · cases h
  case h_14 t x f ho =>
    obtain ⟨x', hx, h⟩ := Option.bind_eq_some_iff.1 h
    have hxv := hE.ev _ _ hx
    split at h
    · rename_i b off
      obtain ⟨fd, hfd, h⟩ := Option.bind_eq_some_iff.1 h
      obtain ⟨fs, hu, hfs⟩ := fieldOf?_spec hfd
      split at h
      · rename_i n hn
        cases h
        cases hxv with
        | v hxv => cases hxv with
          | one hxv =>
            generalize hq : a.eval x = q at hxv
            cases hxv with
            | ptr hb =>
              rename_i B
              refine doe_v (by rw [execOp, ho]) (v := .pointer (some ⟨B, off + fd.offset, none⟩)) (w' := w) ?_ ⟨.v (.one (.ptr hb)), xe⟩
              simp [hq, Instr.fieldAt, run_underlying hu, hfs, Instr.sureAddr, fieldPlace, run_sizeOf' hn, addr_add]
      · cases h
    · rename_i b base sz i off
      obtain ⟨fd, hfd, h⟩ := Option.bind_eq_some_iff.1 h
      obtain ⟨fs, hu, hfs⟩ := fieldOf?_spec hfd
      split at h
      · rename_i n hn
        cases h
        cases hxv with
        | v hxv => cases hxv with
          | one hxv =>
            generalize hq : a.eval x = q at hxv
            cases hxv with
            | rp hb =>
              rename_i B
              refine doe_v (by rw [execOp, ho]) (v := .pointer (some ⟨B, base + i * sz + (off + fd.offset), none⟩)) (w' := w) ?_ ⟨.v (.one (.rp hb)), xe⟩
              simp [hq, Instr.fieldAt, run_underlying hu, hfs, Instr.sureAddr, fieldPlace, run_sizeOf' hn, addr_add, Nat.add_assoc]
      · cases h
    · rename_i g off
      obtain ⟨fd, hfd, h⟩ := Option.bind_eq_some_iff.1 h
      obtain ⟨fs, hu, hfs⟩ := fieldOf?_spec hfd
      split at h
      · rename_i n hn
        cases h
        cases hxv with
        | v hxv => cases hxv with
          | one hxv =>
            generalize hq : a.eval x = q at hxv
            cases hxv with
            | op hb =>
              refine doe_v (by rw [execOp, ho]) (v := .pointer (some ⟨g, off + fd.offset, none⟩)) (w' := w) ?_ ⟨.v (.one (.op rfl)), xe⟩
              simp [hq, Instr.fieldAt, run_underlying hu, hfs, Instr.sureAddr, fieldPlace, run_sizeOf' hn, addr_add]
      · cases h
    · cases h
  case h_15 t x f ho =>
    obtain ⟨x', hx, h⟩ := Option.bind_eq_some_iff.1 h
    have hxv := hE.ev _ _ hx
    split at h
    · rename_i l
      obtain ⟨fd, hfd, h⟩ := Option.bind_eq_some_iff.1 h
      obtain ⟨v, hv, h⟩ := Option.bind_eq_some_iff.1 h
      cases h
      obtain ⟨fs, hu, hfs⟩ := fieldOf?_spec hfd
      cases hxv with
      | v hxv =>
        generalize hq : a.eval x = q at hxv
        cases hxv with
        | agg hl =>
          obtain ⟨u, hu', hr⟩ := partL_run (P := P) (w := w) hv hl
          refine doe_v (by rw [execOp, ho]) (v := u) (w' := w) ?_ ⟨.v hr, xe⟩
          simp [hq, Instr.field, run_underlying hu, hfs, asAgg, hu']
    · cases h
  case h_16 t x i ho =>
    obtain ⟨x', hx, h⟩ := Option.bind_eq_some_iff.1 h
    obtain ⟨y', hy, h⟩ := Option.bind_eq_some_iff.1 h
    obtain ⟨p', s', h', e⟩ := r1_spec h
    clear h
    cases e
    have h := h'
    obtain ⟨r, hr, hs⟩ := idxQ_run (P := P) (w := w) h hp (hE.ev _ _ hx) (hE.ev _ _ hy)
    exact doe_v (by rw [execOp, ho]) hr ⟨hs, xe⟩
  case h_17 t x i ho =>
    obtain ⟨x', hx, h⟩ := Option.bind_eq_some_iff.1 h
    obtain ⟨y', hy, h⟩ := Option.bind_eq_some_iff.1 h
    have hxv := hE.ev _ _ hx
    have hyv := hE.ev _ _ hy
    split at h
    · rename_i l k j
      split at h
      · rename_i len e hu
        split at h
        · rename_i n hn
          split at h
          · rename_i hd
            simp only [Bool.and_eq_true, decide_eq_true_eq] at hd
            obtain ⟨v, hv, h⟩ := Option.bind_eq_some_iff.1 h
            cases h
            cases hxv with
            | v hxv =>
              generalize hq : a.eval x = q at hxv
              cases hxv with
              | agg hl =>
                cases hyv with
                | v hyv => cases hyv with
                  | one hyv =>
                    generalize hq' : a.eval i = q' at hyv
                    cases hyv
                    obtain ⟨u, hu', hr⟩ := partL_run (P := P) (w := w) hv hl
                    refine doe_v (by rw [execOp, ho]) (v := u) (w' := w) ?_ ⟨.v hr, xe⟩
                    simp [hq, hq', Instr.index, asIntOf, run_underlying hu, hd, run_sizeOf' hn, hu']
          · cases h
        · cases h
      · cases h
    · cases h
  case h_18 t x lo hi mx ho =>
    obtain ⟨x', hx, h⟩ := Option.bind_eq_some_iff.1 h
    obtain ⟨l, hl, h⟩ := Option.bind_eq_some_iff.1 h
    obtain ⟨hh, hhi, h⟩ := Option.bind_eq_some_iff.1 h
    obtain ⟨m, hm, h⟩ := Option.bind_eq_some_iff.1 h
    obtain ⟨p', s', h', e⟩ := r1_spec h
    clear h
    cases e
    obtain ⟨r, hr, hs⟩ := sliceQ_run (P := P) (w := w) h' hp (hE.ev _ _ hx) (optI_bh hE hl) (optI_bh hE hhi) (optI_bh hE hm)
    exact doe_v (by rw [execOp, ho]) hr ⟨hs, xe⟩
  case h_19 t l c ho =>
    obtain ⟨l', hl, h⟩ := Option.bind_eq_some_iff.1 h
    obtain ⟨c', hc, h⟩ := Option.bind_eq_some_iff.1 h
    obtain ⟨li, hli, h⟩ := Option.bind_eq_some_iff.1 h
    obtain ⟨ci, hci, h⟩ := Option.bind_eq_some_iff.1 h
    obtain ⟨kl, el⟩ := intOfS_has hli (hE.ev _ _ hl)
    obtain ⟨kc, ec⟩ := intOfS_has hci (hE.ev _ _ hc)
    obtain ⟨r, w', hr, hL⟩ := makeQ_run (P := P) (w := w) (kl := kl) (kc := kc) h hp hnm
    rw [← el, ← ec] at hr
    exact doe_v (by rw [execOp, ho]) hr hL
  case h_20 t i ho =>
    obtain ⟨x', hx, h⟩ := Option.bind_eq_some_iff.1 h
    have hxv := hE.ev _ _ hx
    split at h
    · obtain ⟨v, hv, h⟩ := Option.bind_eq_some_iff.1 h
      cases h
      generalize hq : a.eval t = q at hxv
      cases hxv with
      | tup hl =>
        obtain ⟨u, hu, hr⟩ := hl.get hv
        refine doe_v (by rw [execOp, ho]) (v := u) (w' := w) ?_ ⟨.v hr, xe⟩
        simp [hq, Instr.extract, hu]
    · cases h
  case h_21 c ho =>
    split at h
    · rename_i f hf
      obtain ⟨fv, hfv, h⟩ := Option.bind_eq_some_iff.1 h
      have hfh := hE.ev _ _ hfv
      split at h
      · rename_i id caps
        obtain ⟨us, hus, h⟩ := Option.bind_eq_some_iff.1 h
        obtain ⟨fc, hfc, h⟩ := Option.bind_eq_some_iff.1 h
        obtain ⟨p', s', h', e⟩ := r1_spec h
        clear h
        cases e
        have h := h'
        obtain ⟨hcall, hsound⟩ := (hΓ id fc (find_mem hfc)).run
        generalize hq : a.eval f = q at hfh
        cases hfh with
        | clo hcaps =>
          rename_i vs
          have hargs := (omap_has hE hus).append (caps_has hcaps)
          refine doe_call (f := id) (args := ⟨c.args.toList.map a.eval ++ vs⟩) ?_ ((hsound β _ _ _ _ _ w hE.gl hE.mm hE.ng h hp hargs).mono ?_)
          · rw [execOp, ho]
            have e1 : (c.args.map a.eval) = ⟨c.args.toList.map a.eval⟩ := by apply Array.ext'; simp
            simp only [resolve, hf, hq, Deferred.ofValue, Sem.run_bind, Sem.run_pure, Result.andThen_ok, invoke, e1]
            rw [callFunc_run hcall]
            simp
          · rintro e w' ⟨r, rfl, hr, hx⟩
            exact ⟨r, rfl, hr, hx⟩
      · cases h
    · rename_i b hf
      obtain ⟨us, hus, h⟩ := Option.bind_eq_some_iff.1 h
      obtain ⟨s', h', e⟩ := r0_spec h
      clear h
      cases e
      have h := h'
      have hargs := omap_has hE hus
      obtain ⟨r, hr, hs⟩ := builtQ_run (P := P) (w := w) (T := o.type) (cs := c.args.map fun | .const _ => true | _ => false) h hargs
      refine doe_run (v := r) (w' := w) ?_ ⟨hs, xe⟩
      rw [execOp, ho]
      have e1 : (c.args.map a.eval) = ⟨c.args.toList.map a.eval⟩ := by apply Array.ext'; simp
      simp only [resolve, hf, Sem.run_bind, Sem.run_pure, Result.andThen_ok, invoke, e1]
      exact hr
    · cases h
  case h_22 => cases h
end
end Go.Proofs.Ytceffompldihjaa.Rex
