/- A WALK BY COMPUTATION, part 15: contracts of functions that read, and may write, blocks that come in. Conditions: none. Own work. -/
import Derived.Test.YtceffompldihjaaRex14
namespace Go.Proofs.Ytceffompldihjaa.Rex
open Go.RowKit
set_option linter.unusedVariables false
set_option linter.unusedSimpArgs false

/-! ### names, seen from the caller -/
def Lf.ren (f : Nat → Nat) : Lf → Lf
  | .ptr x o => .ptr (f x) o
  | .sl x o kn n c => .sl (f x) o kn n c
  | .rs z tg x base sz o n c => .rs z tg (f x) base sz o n c
  | .rp x base sz i g => .rp (f x) base sz i g
  | .int k kn n => .int k kn n
  | .bool kn q => .bool kn q
  | .nilp => .nilp
  | .nils => .nils
  | .op v => .op v
  | .junk => .junk
def Vv.ren (f : Nat → Nat) : Vv → Vv
  | .one l => .one (l.ren f)
  | .agg l => .agg (l.map (Lf.ren f))
def SV.ren (f : Nat → Nat) : SV → SV
  | .v x => .v (x.ren f)
  | .tup l => .tup (l.map (Vv.ren f))
  | .clo g l => .clo g (l.map (Lf.ren f))
  | .junk => .junk
def Blk.ren (f : Nat → Nat) : Blk → Blk
  | .cells l t => .cells (l.map (Lf.ren f)) t
  | .rows ro z sh xs base tot t => .rows ro z sh xs base tot t
  | .loop r j => .loop r j
def back (ns : List Nat) (d : Nat) : Nat → Nat := fun i => match ns[i]? with
  | some x => x
  | none => d + (i - ns.length)
def oren (f : Nat → Nat) : Option Blk → Option Blk
  | some b => some (b.ren f)
  | none => none
def setL : Mem → List Nat → Mem → Mem
  | m, x :: ns, b :: l => setL (m.set x b) ns l
  | m, _, _ => m
/-- the caller's memory, where the blocks ns have become those of mem, and mem's others (but for those of rs, which are read alone) have been laid behind -/
def backM (ns rs : List Nat) (m mem : Mem) : Mem := setL m ns (mem.map (oren (back (ns ++ rs) m.length))) ++ (mem.drop (ns ++ rs).length).map (oren (back (ns ++ rs) m.length))
/-- the names that are written are apart from each other, and from those that are read -/
def ndN : List Nat → List Nat → Bool
  | [], _ => true
  | x :: ns, rs => notIn x ns && (notIn x rs && ndN ns rs)
/-- no block from the n-th on may be written -/
def roFrom (m0 : Mem) (n : Nat) : Prop := ∀ i b, n ≤ i → m0[i]? = some (some b) → b.isRo = true
/-- each block from the n-th on may be -/
def rwFrom (m0 : Mem) (n : Nat) : Prop := ∀ i b, n ≤ i → m0[i]? = some (some b) → b.isRo = false

section
variable {β γ : Nm} {f : Nat → Nat}
theorem renL_has (hf : ∀ x b, γ x = some b → β (f x) = some b) {l : Lf} {v : Value} (h : HasL γ l v) : HasL β (l.ren f) v := by
  cases h with
  | int => exact .int
  | bool => exact .bool
  | ptr e => exact .ptr (hf _ _ e)
  | nilp => exact .nilp
  | sl e => exact .sl (hf _ _ e)
  | nils => exact .nils
  | op e => exact .op e
  | junk e => exact .junk e
  | rs e =>
    obtain ⟨h1, h2, h3⟩ := e
    refine .rs ⟨h1, h2, ?_⟩
    rcases h3 with h3 | ⟨hz, b, hb, hv⟩
    · exact .inl h3
    · exact .inr ⟨hz, b, hf _ _ hb, hv⟩
  | rp e => exact .rp (hf _ _ e)
theorem renLs_has (hf : ∀ x b, γ x = some b → β (f x) = some b) {l : List Lf} {vs : List Value} (h : All₂ (HasL γ) l vs) : All₂ (HasL β) (l.map (Lf.ren f)) vs := by
  induction h with
  | nil => exact .nil
  | cons h _ ih => exact .cons (renL_has hf h) ih
theorem renV_has (hf : ∀ x b, γ x = some b → β (f x) = some b) {l : Vv} {v : Value} (h : HasV γ l v) : HasV β (l.ren f) v := by
  cases h with
  | one h => exact .one (renL_has hf h)
  | agg h => exact .agg (renLs_has hf h)
theorem renVs_has (hf : ∀ x b, γ x = some b → β (f x) = some b) {l : List Vv} {vs : List Value} (h : All₂ (HasV γ) l vs) : All₂ (HasV β) (l.map (Vv.ren f)) vs := by
  induction h with
  | nil => exact .nil
  | cons h _ ih => exact .cons (renV_has hf h) ih
theorem renS_has (hf : ∀ x b, γ x = some b → β (f x) = some b) {s : SV} {v : Value} (h : Has γ s v) : Has β (s.ren f) v := by
  cases h with
  | v h => exact .v (renV_has hf h)
  | tup h => exact .tup (renVs_has hf h)
  | clo h => exact .clo (renLs_has hf h)
  | junk => exact .junk
theorem renB_has (hf : ∀ x b, γ x = some b → β (f x) = some b) {b : Blk} {o : Option Obj} (h : HasB γ b o) : HasB β (b.ren f) o := by
  cases b with
  | cells l t => obtain ⟨vs, e, hv⟩ := h; exact ⟨vs, e, renLs_has hf hv⟩
  | rows => exact h
  | loop => exact h
theorem ren_dead {b : Blk} : (b.ren f).dead ↔ b.dead := by cases b <;> exact Iff.rfl
theorem ren_can {q : Bool} {b : Blk} : (b.ren f).can q ↔ b.can q := by cases b <;> cases q <;> exact Iff.rfl
end

theorem nodupB_spec : ∀ {l : List Nat} {i j : Nat} {x : Nat}, nodupB l = true → l[i]? = some x → l[j]? = some x → i = j
  | [], i, j, x, _, h, _ => by simp at h
  | a :: l, 0, 0, x, _, _, _ => rfl
  | a :: l, 0, j + 1, x, hn, h, h' => by
    simp at h
    subst h
    simp only [nodupB, Bool.and_eq_true] at hn
    exact absurd rfl (notIn_spec hn.1 a (List.mem_of_getElem? (by simpa using h')))
  | a :: l, i + 1, 0, x, hn, h, h' => by
    simp at h'
    subst h'
    simp only [nodupB, Bool.and_eq_true] at hn
    exact absurd rfl (notIn_spec hn.1 a (List.mem_of_getElem? (by simpa using h)))
  | a :: l, i + 1, j + 1, x, hn, h, h' => by
    simp only [nodupB, Bool.and_eq_true] at hn
    have := nodupB_spec (i := i) (j := j) hn.2 (by simpa using h) (by simpa using h')
    omega

theorem setL_length : ∀ (m : Mem) (ns : List Nat) (l : Mem), (setL m ns l).length = m.length
  | m, [], l => by cases l <;> rfl
  | m, x :: ns, [] => rfl
  | m, x :: ns, b :: l => by rw [setL, setL_length, List.length_set]
theorem setL_other : ∀ {m : Mem} {ns : List Nat} {l : Mem} {y : Nat}, (∀ i : Nat, ns[i]? ≠ some y) → (setL m ns l)[y]? = m[y]?
  | m, [], l, y, _ => by cases l <;> rfl
  | m, x :: ns, [], y, _ => rfl
  | m, x :: ns, b :: l, y, h => by
    rw [setL, setL_other fun i => by have := h (i + 1); simpa using this, List.getElem?_set_ne]
    intro e
    subst e
    exact h 0 (by simp)
theorem setL_at : ∀ {m : Mem} {ns : List Nat} {l : Mem} {i y : Nat} {b : Option Blk}, nodupB ns = true → ns[i]? = some y → l[i]? = some b → y < m.length → (setL m ns l)[y]? = some b
  | m, [], l, i, y, b, _, h, _, _ => by simp at h
  | m, x :: ns, [], i, y, b, _, _, h, _ => by simp at h
  | m, x :: ns, c :: l, 0, y, b, hn, h, hl, hy => by
    simp at h hl
    subst h; subst hl
    rw [setL, setL_other]
    · rw [List.getElem?_set]; simp [hy]
    · intro i e
      simp only [nodupB, Bool.and_eq_true] at hn
      exact notIn_spec hn.1 x (List.mem_of_getElem? e) rfl
  | m, x :: ns, c :: l, i + 1, y, b, hn, h, hl, hy => by
    simp only [nodupB, Bool.and_eq_true] at hn
    rw [setL]
    exact setL_at hn.2 (by simpa using h) (by simpa using hl) (by simpa using hy)

theorem ndN_nodup : ∀ {ns rs : List Nat}, ndN ns rs = true → nodupB ns = true
  | [], _, _ => rfl
  | x :: ns, rs, h => by
    simp only [ndN, Bool.and_eq_true] at h
    simp only [nodupB, Bool.and_eq_true]
    exact ⟨h.1, ndN_nodup h.2.2⟩
theorem ndN_apart : ∀ {ns rs : List Nat}, ndN ns rs = true → ∀ x ∈ ns, ∀ y ∈ rs, x ≠ y
  | [], _, _, x, hx, _, _ => by simp at hx
  | z :: ns, rs, h, x, hx, y, hy => by
    simp only [ndN, Bool.and_eq_true] at h
    rcases List.mem_cons.1 hx with rfl | hx
    · exact notIn_spec h.2.1 y hy
    · exact ndN_apart h.2.2 x hx y hy

theorem apart_of {x : Nat} {r : Bool} : ∀ {l : List (Nat × Bool)}, (∀ q, (x, q) ∈ l → r = true ∧ q = true) → apart x r l = true
  | [], _ => rfl
  | (y, q) :: l, h => by
    unfold apart
    split
    · rename_i e
      have := Nat.eq_of_beq_eq_true e
      subst this
      obtain ⟨h1, h2⟩ := h q (by simp)
      rw [h1, h2]
      exact apart_of fun q' hq' => ⟨rfl, (h q' (List.mem_cons_of_mem _ hq')).2⟩
    · exact apart_of fun q' hq' => h q' (List.mem_cons_of_mem _ hq')

theorem usedOf_sub {ns rs : List Nat} (hn : ndN ns rs = true) {m0 : Mem} (hro : roFrom m0 ns.length) : ∀ (l : Mem) (y : Nat), l = m0.drop y → ndB (usedOf (fun i => (ns ++ rs)[i]?) y l) = true ∧ ∀ x r, (x, r) ∈ usedOf (fun i => (ns ++ rs)[i]?) y l → ∃ i, y ≤ i ∧ (ns ++ rs)[i]? = some x ∧ (ns.length ≤ i → r = true)
  | [], y, _ => ⟨rfl, fun x r h => by simp [usedOf] at h⟩
  | none :: l, y, hl => by
    have hl' : l = m0.drop (y + 1) := by rw [← List.tail_drop, ← hl]; rfl
    obtain ⟨h1, h2⟩ := usedOf_sub hn hro l (y + 1) hl'
    refine ⟨h1, fun x r hx => ?_⟩
    obtain ⟨i, hi, e⟩ := h2 x r hx
    exact ⟨i, by omega, e⟩
  | some b :: l, y, hl => by
    have hl' : l = m0.drop (y + 1) := by rw [← List.tail_drop, ← hl]; rfl
    have hb : m0[y]? = some (some b) := by
      have : (m0.drop y)[0]? = some (some b) := by rw [← hl]; rfl
      rw [List.getElem?_drop] at this
      exact this
    obtain ⟨h1, h2⟩ := usedOf_sub hn hro l (y + 1) hl'
    unfold usedOf
    split
    · rename_i x hx
      refine ⟨?_, ?_⟩
      · simp only [ndB, Bool.and_eq_true]
        refine ⟨apart_of fun q hq => ?_, h1⟩
        obtain ⟨i, hi, e, her⟩ := h2 x q hq
        rcases Nat.lt_or_ge y ns.length with hy | hy
        · exfalso
          rw [List.getElem?_append_left hy] at hx
          rcases Nat.lt_or_ge i ns.length with hi2 | hi2
          · rw [List.getElem?_append_left hi2] at e
            have := nodupB_spec (ndN_nodup hn) hx e
            omega
          · rw [List.getElem?_append_right hi2] at e
            exact ndN_apart hn x (List.mem_of_getElem? hx) x (List.mem_of_getElem? e) rfl
        · exact ⟨hro y b hy hb, her (by omega)⟩
      · intro z r hz
        rcases List.mem_cons.1 hz with e | hz
        · cases e
          exact ⟨y, Nat.le_refl _, hx, fun hy => hro y b hy hb⟩
        · obtain ⟨i, hi, e⟩ := h2 z r hz
          exact ⟨i, by omega, e⟩
    · refine ⟨h1, fun x r hx => ?_⟩
      obtain ⟨i, hi, e⟩ := h2 x r hx
      exact ⟨i, by omega, e⟩

/-- what is true of each block of rows -/
def RowsFit (m : Mem) : Prop := ∀ (i : Nat) (ro z : Bool) (sh : List Kd) (xs : List (Row sh)) (base tot : Nat) (t : TypeId), m[i]? = some (some (.rows ro z sh xs base tot t)) → xs.length ≤ tot ∧ (z = true → xs.length = 0)
theorem Sat.rowsFit {β : Nm} {m : Mem} {w : World} (h : Sat β m w) : RowsFit m := by
  intro i ro z sh xs base tot t hi
  rcases h.blk i _ hi with ⟨_, hx⟩ | ⟨a, _, hz, vs, fz, t', _, _, hr⟩
  · rw [hx]; exact ⟨Nat.zero_le _, fun _ => rfl⟩
  · exact ⟨hr.1, fun e => by rw [hz] at e; cases e⟩

/-- A FUNCTION's CONTRACT OVER BLOCKS THAT COME IN: out of its text, walked over those blocks alone. ns: the caller's names for them; rs: for those that are read alone. -/
theorem msound_of_w {C : Ctx} (hC : C.Ok) {f : FuncId} {fn : Func} (hfn : C.P.funcs[f]? = some fn) (hname : (fn.name == "runtime.NumGoroutine") = false) (hbody : fn.body.isNone = false) {c : MC}
    (h : ∀ us m K, c us m K → ∃ (E : Type) (ok : E → Prop) (L : Nat → Option LS) (fuel : Nat) (ns rs : List Nat) (args : List SV) (m0 : Mem) (res : E → SV) (mem : E → Mem) (R : SV → Mem → Prop),
      (ndN ns rs = true ∧ (ns ++ rs).length = m0.length ∧ roFrom m0 ns.length ∧ ∀ e, rwFrom (mem e) (ns ++ rs).length) ∧ (∀ (β : Nm) (vals : List Value), All₂ (Has β) us vals → All₂ (Has (β.by fun i => (ns ++ rs)[i]?)) args vals) ∧ mLe (fun i => (ns ++ rs)[i]?) m 0 m0 ∧
      (RowsFit m0 → goal C L fuel fn args m0 R) ∧ (∀ r m', R r m' → ∃ e, ok e ∧ stLe m0.length ⟨[r], m'⟩ ⟨[res e], mem e⟩) ∧ ∀ e, ok e → K ((res e).ren (back (ns ++ rs) m.length)) (backM ns rs m (mem e))) : MSound C.P f c := by
  refine ⟨⟨fn, hfn, hname, hbody⟩, ?_⟩
  intro β args0 vals m w K hc hv hs
  obtain ⟨E, ok, L, fuel, ns, rs, args, m0, res, mem, R, ⟨hnd, hlen, hro, hrw⟩, hta, hma, hg, hR, hk⟩ := h args0 m K hc
  have hnl : ns.length ≤ (ns ++ rs).length := by simp
  have kwl : ∀ {i}, kw m0 i → i < ns.length := by
    rintro i ⟨b, hb, hr⟩
    rcases Nat.lt_or_ge i ns.length with h | h
    · exact h
    · have := hro i b h hb
      rw [rw_ro hr] at this; cases this
  let ρ : Rn := fun i => (ns ++ rs)[i]?
  have hρl : ∀ y x, ρ y = some x → y < m0.length := fun y x e => by rw [← hlen]; exact (List.getElem?_eq_some_iff.1 e).1
  have hsat : Sat (β.by ρ) m0 w := hs.ren hρl (usedOf_sub hnd hro m0 0 rfl).1 hma
  -- a block that came in, seen from the caller
  have cal : ∀ {q : Bool} {i : Nat}, kq q m0 i → ∃ x a, (ns ++ rs)[i]? = some x ∧ kq q m x ∧ β x = some a ∧ (β.by ρ) i = some a := by
    rintro q i ⟨b, hb, hr⟩
    have h1 := mLe_get hma hb
    rw [Nat.zero_add] at h1
    obtain ⟨z, c, hz, hcz, hcd, hrw, a, ha, _⟩ := (bLe_has hs h1).resolve_left hr.alive
    refine ⟨z, a, hz, ⟨c, hcz, ?_⟩, ha, by_some hz ha⟩
    cases q with
    | true => exact hrw hr
    | false => exact hcd
  refine (calls_of_goal hC hfn (hg hsat.rowsFit) (hta β vals hv) hsat).mono ?_
  rintro e w' ⟨β', v, m', r, hs', hsi', rfl, hr', hRR⟩
  obtain ⟨ex, hok, hst⟩ := hR v m' hRR
  obtain ⟨ρ2, p1, p2, p3, p4, p5, p6⟩ := stLe_spec hst
  have hδs : Sat (β'.by ρ2) (mem ex) w' := hs'.ren p2 p4 p6
  have hδi : Since m0 (β.by ρ) w (mem ex) (β'.by ρ2) w' := Since.ren hsat hs' hsi' p1 p3 p6
  have hδr : Has (β'.by ρ2) (res ex) r := svLe_has (tmLe_cons p5).1 hr'
  generalize (β'.by ρ2) = δ at hδs hδi hδr
  have hK := hk ex hok
  generalize hM : mem ex = M at hδs hδi hK
  generalize hγ : (β.by ρ) = γ at hsat hδi cal
  have hγ' : ∀ i, γ i = ((ns ++ rs)[i]?).bind β := fun i => by rw [← hγ]; rfl
  have hrwM := hrw ex
  rw [hM] at hrwM
  have hkM : (ns ++ rs).length ≤ M.length := by rw [hlen]; exact hδi.len
  -- the caller's names from now on
  let β2 : Nm := fun y => if y < m.length then β y else δ ((ns ++ rs).length + (y - m.length))
  have b2lo : ∀ y, y < m.length → β2 y = β y := fun y hy => if_pos hy
  have b2hi : ∀ j, β2 (m.length + j) = δ ((ns ++ rs).length + j) := fun j => by
    show (if m.length + j < m.length then _ else _) = _
    rw [if_neg (by omega)]
    congr 2; omega
  have hback : ∀ x b, δ x = some b → β2 (back (ns ++ rs) m.length x) = some b := by
    intro x b hx
    unfold back
    cases hn : (ns ++ rs)[x]? with
    | some z =>
      have hxl : x < m0.length := by rw [← hlen]; exact (List.getElem?_eq_some_iff.1 hn).1
      have h1 := hδi.same x hxl
      rw [hx, hγ', hn] at h1
      have h2 : β z = some b := h1.symm
      simp only
      rw [b2lo z (hs.dom z b h2)]
      exact h2
    | none =>
      have hxl : (ns ++ rs).length ≤ x := List.getElem?_eq_none_iff.1 hn
      simp only
      rw [b2hi, show (ns ++ rs).length + (x - (ns ++ rs).length) = x by omega]
      exact hx
  have hle : β.le β2 := fun y b hb => by rw [b2lo y (hs.dom y b hb)]; exact hb
  -- a block of the new memory: one of those, or one that was not touched
  have cut : ∀ y b, (backM ns rs m M)[y]? = some (some b) → (∃ i c, M[i]? = some (some c) ∧ b = c.ren (back (ns ++ rs) m.length) ∧ y = back (ns ++ rs) m.length i ∧ ((y < m.length ∧ i < ns.length) ∨ (m.length ≤ y ∧ (ns ++ rs).length ≤ i))) ∨ (y < m.length ∧ (∀ i : Nat, ns[i]? ≠ some y) ∧ m[y]? = some (some b)) := by
    intro y b hb
    unfold backM at hb
    rcases Nat.lt_or_ge y m.length with hl | hl
    · rw [List.getElem?_append_left (by rw [setL_length]; exact hl)] at hb
      by_cases hin : ∃ i : Nat, ns[i]? = some y
      · left
        obtain ⟨i, hi⟩ := hin
        have hil := (List.getElem?_eq_some_iff.1 hi).1
        have hMi : M[i]? = some (M[i]'(by omega)) := List.getElem?_eq_getElem (by omega)
        rw [setL_at (i := i) (b := oren (back (ns ++ rs) m.length) (M[i]'(by omega))) (ndN_nodup hnd) hi (by rw [List.getElem?_map, hMi]; rfl) hl] at hb
        cases hq : M[i]'(by omega) with
        | none => rw [hq] at hb; cases hb
        | some c =>
          rw [hq] at hb hMi
          simp only [oren, Option.some.injEq] at hb
          exact ⟨i, c, hMi, hb.symm, by unfold back; rw [List.getElem?_append_left hil, hi], .inl ⟨hl, hil⟩⟩
      · right
        have hno : ∀ i : Nat, ns[i]? ≠ some y := fun i e => hin ⟨i, e⟩
        rw [setL_other hno] at hb
        exact ⟨hl, hno, hb⟩
    · left
      rw [List.getElem?_append_right (by rw [setL_length]; exact hl), setL_length, List.getElem?_map, List.getElem?_drop] at hb
      cases hq : M[(ns ++ rs).length + (y - m.length)]? with
      | none => rw [hq] at hb; cases hb
      | some c0 =>
        rw [hq] at hb
        cases c0 with
        | none => cases hb
        | some c =>
          simp only [Option.map_some, oren, Option.some.injEq] at hb
          refine ⟨_, c, hq, hb.symm, ?_, .inr ⟨hl, by omega⟩⟩
          unfold back
          rw [List.getElem?_eq_none (by omega)]
          simp only
          omega
  -- where one of those lies: at a block of the caller's among those that came in, or beyond all that there was
  have whr : ∀ {q : Bool} {i : Nat}, kq q M i → ∃ a, δ i = some a ∧ (w.heap.size ≤ a ∨ ∃ (j : Nat) (x : Nat), (ns ++ rs)[j]? = some x ∧ kq q m x ∧ β x = some a ∧ kq q m0 j) := by
    intro q i hi
    rcases Nat.lt_or_ge i m0.length with hl | hl
    · obtain ⟨x, a, hx, hkx, hbx, hga⟩ := cal (hδi.sub q i hl hi)
      exact ⟨a, hδi.ext _ _ hga, .inr ⟨i, x, hx, hkx, hbx, hδi.sub q i hl hi⟩⟩
    · obtain ⟨a, ha, hor⟩ := hδi.new q i hl hi
      refine ⟨a, ha, hor.imp id ?_⟩
      rintro ⟨y, hy, hya⟩
      obtain ⟨x, a', hx, hkx, hbx, hga⟩ := cal hy
      rw [hya] at hga; cases hga
      exact ⟨y, x, hx, hkx, hbx, hy⟩
  have hframe : ∀ y a, (∀ i : Nat, ns[i]? ≠ some y) → kn m y → β y = some a → w'.heap[a]? = w.heap[a]? := by
    intro y a hno hky ha
    refine hδi.frame a (hs.lt hky ha) fun i hi e => ?_
    obtain ⟨x, a', hx, hkx, hbx, hga⟩ := cal (q := true) hi
    rw [e] at hga; cases hga
    have := hs.inj x y a hkx hky hbx ha
    subst this
    rw [List.getElem?_append_left (kwl hi)] at hx
    exact hno i hx
  refine ⟨β2, _, _, r, ?_, ?_, rfl, renS_has hback hδr, hK⟩
  · refine ⟨fun y b hb => ?_, ?_, fun y a hy => ?_, hδs.gl, ?ng⟩
    case ng =>
      rintro y a ⟨b, hb, hbr⟩ hy
      rcases cut y b hb with ⟨i, c, hi, rfl, rfl, _⟩ | ⟨hl, hno, hm1⟩
      · have k1 : kw M i := ⟨c, hi, (ren_can (q := true)).1 hbr⟩
        obtain ⟨a1, ha1, _⟩ := hδs.of_kn k1.kn
        rw [hback _ _ ha1] at hy; cases hy
        exact hδs.ng i a k1 ha1
      · rw [b2lo y hl] at hy
        exact hs.ng y a ⟨b, hm1, hbr⟩ hy
    · rcases cut y b hb with ⟨i, c, hi, rfl, rfl, _⟩ | ⟨hl, hno, hy⟩
      · rcases hδs.blk i c hi with hd | ⟨a, ha, hB⟩
        · exact .inl (ren_dead.2 hd)
        · exact .inr ⟨a, hback _ _ ha, renB_has hback hB⟩
      · exact hs.blk_keep hle hy fun a hk ha => hframe y a hno hk ha
    · rintro y y' a ⟨b, hb, hbr⟩ ⟨d, hd, hdd⟩ hy hy'
      rcases cut y b hb with ⟨i, c, hi, rfl, rfl, _⟩ | ⟨hl, hno, hm1⟩ <;> rcases cut y' d hd with ⟨j, c', hj, rfl, rfl, hwj⟩ | ⟨hl', hno', hm2⟩
      · have k1 : kw M i := ⟨c, hi, (ren_can (q := true)).1 hbr⟩
        have k2 : kn M j := ⟨c', hj, fun e => hdd (ren_dead.2 e)⟩
        obtain ⟨a1, ha1, _⟩ := hδs.of_kn k1.kn
        obtain ⟨a2, ha2, _⟩ := hδs.of_kn k2
        rw [hback _ _ ha1] at hy; cases hy
        rw [hback _ _ ha2] at hy'; cases hy'
        rw [hδs.inj i j a k1 k2 ha1 ha2]
      · exfalso
        have k1 : kq true M i := ⟨c, hi, (ren_can (q := true)).1 hbr⟩
        have k2 : kn m y' := ⟨d, hm2, hdd⟩
        rw [b2lo y' hl'] at hy'
        obtain ⟨a1, ha1, hor⟩ := whr k1
        rw [hback _ _ ha1] at hy; cases hy
        rcases hor with hge | ⟨j, x, hx, hkx, hbx, hkj⟩
        · have := hs.lt k2 hy'; omega
        · have := hs.inj x y' a hkx k2 hbx hy'
          subst this
          rw [List.getElem?_append_left (kwl hkj)] at hx
          exact hno' j hx
      · exfalso
        have k1 : kq false M j := ⟨c', hj, fun e => hdd (ren_dead.2 e)⟩
        have k2 : kw m y := ⟨b, hm1, hbr⟩
        rw [b2lo y hl] at hy
        rcases hwj with ⟨_, hjn⟩ | ⟨_, hjn⟩
        · obtain ⟨x, a1, hx, hkx, hbx, hga⟩ := cal (hδi.sub false j (by rw [← hlen]; omega) k1)
          rw [hback _ _ (hδi.ext _ _ hga)] at hy'; cases hy'
          have := hs.inj y x a k2 hkx hy hbx
          subst this
          rw [List.getElem?_append_left hjn] at hx
          exact hno j hx
        · have k3 : kq true M j := by
            refine ⟨c', hj, ?_⟩
            have hro' := hrwM j c' hjn hj
            have hnd' : ¬ c'.dead := fun e => hdd (ren_dead.2 e)
            obtain ⟨_, _, hB⟩ := hδs.live hj hnd'
            cases c' with
            | cells => trivial
            | rows => exact ⟨hro', hB.1⟩
            | loop => trivial
          obtain ⟨a1, ha1, hor⟩ := whr k3
          rw [hback _ _ ha1] at hy'; cases hy'
          rcases hor with hge | ⟨j', x, hx, hkx, hbx, hkj⟩
          · have := hs.lt k2.kn hy; omega
          · have := hs.inj y x a k2 hkx.kn hy hbx
            subst this
            rw [List.getElem?_append_left (kwl hkj)] at hx
            exact hno j' hx
      · rw [b2lo y hl] at hy
        rw [b2lo y' hl'] at hy'
        exact hs.inj y y' a ⟨b, hm1, hbr⟩ ⟨d, hm2, hdd⟩ hy hy'
    · unfold backM
      rw [List.length_append, setL_length, List.length_map, List.length_drop]
      rcases Nat.lt_or_ge y m.length with hl | hl
      · omega
      · have e : β2 y = δ ((ns ++ rs).length + (y - m.length)) := if_neg (by omega)
        rw [e] at hy
        have := hδs.dom _ _ hy
        omega
  · refine ⟨hle, fun y hy => b2lo y hy, by unfold backM; rw [List.length_append, setL_length]; omega, ?_, ?_, hδi.os, hδi.tape, hδi.output, hδi.size, ?_⟩
    · rintro q y hy ⟨b, hb, hr⟩
      rcases cut y b hb with ⟨i, c, hi, rfl, hyi, _⟩ | ⟨hl, _, _⟩
      · obtain ⟨a, ha, hor⟩ := whr (q := q) (i := i) ⟨c, hi, ren_can.1 hr⟩
        refine ⟨a, by rw [hyi]; exact hback _ _ ha, hor.imp id ?_⟩
        rintro ⟨j, x, _, hkx, hbx, _⟩
        exact ⟨x, hkx, hbx⟩
      · omega
    · rintro q y hy ⟨b, hb, hr⟩
      rcases cut y b hb with ⟨i, c, hi, rfl, hyi, hiff⟩ | ⟨_, _, hm1⟩
      · have hil : i < (ns ++ rs).length := by omega
        obtain ⟨x, a, hx, hkx, _, _⟩ := cal (hδi.sub q i (by rw [← hlen]; exact hil) ⟨c, hi, ren_can.1 hr⟩)
        have : y = x := by rw [hyi]; unfold back; rw [hx]
        rw [this]; exact hkx
      · exact ⟨b, hm1, hr⟩
    · intro k0 hk0 hf
      refine hδi.frame k0 hk0 fun i hi e => ?_
      obtain ⟨x, a, hx, hkx, hbx, hga⟩ := cal (q := true) hi
      rw [e] at hga; cases hga
      exact hf x hkx hbx

theorem msound_of_v {C : Ctx} (hC : C.Ok) {f : FuncId} {fn : Func} (hfn : C.P.funcs[f]? = some fn) (hname : (fn.name == "runtime.NumGoroutine") = false) (hbody : fn.body.isNone = false) {c : MC}
    (h : ∀ us m K, c us m K → ∃ (E : Type) (ok : E → Prop) (L : Nat → Option LS) (fuel : Nat) (ns rs : List Nat) (args : List SV) (m0 : Mem) (res : E → SV) (mem : E → Mem) (R : SV → Mem → Prop),
      (ndN ns rs = true ∧ (ns ++ rs).length = m0.length ∧ roFrom m0 ns.length ∧ ∀ e, rwFrom (mem e) (ns ++ rs).length) ∧ (∀ (β : Nm) (vals : List Value), All₂ (Has β) us vals → All₂ (Has (β.by fun i => (ns ++ rs)[i]?)) args vals) ∧ mLe (fun i => (ns ++ rs)[i]?) m 0 m0 ∧
      goal C L fuel fn args m0 R ∧ (∀ r m', R r m' → ∃ e, ok e ∧ stLe m0.length ⟨[r], m'⟩ ⟨[res e], mem e⟩) ∧ ∀ e, ok e → K ((res e).ren (back (ns ++ rs) m.length)) (backM ns rs m (mem e))) : MSound C.P f c := by
  refine msound_of_w hC hfn hname hbody fun us m K hc => ?_
  obtain ⟨E, ok, L, fuel, ns, rs, args, m0, res, mem, R, h1, h2, h3, hg, h4⟩ := h us m K hc
  exact ⟨E, ok, L, fuel, ns, rs, args, m0, res, mem, R, h1, h2, h3, fun _ => hg, h4⟩

theorem msound_of {C : Ctx} (hC : C.Ok) {f : FuncId} {fn : Func} (hfn : C.P.funcs[f]? = some fn) (hname : (fn.name == "runtime.NumGoroutine") = false) (hbody : fn.body.isNone = false) {c : MC}
    (h : ∀ us m K, c us m K → ∃ (E : Type) (ok : E → Prop) (L : Nat → Option LS) (fuel : Nat) (ns rs : List Nat) (args : List SV) (m0 : Mem) (res : E → SV) (mem : E → Mem) (R : SV → Mem → Prop),
      (ndN ns rs = true ∧ (ns ++ rs).length = m0.length ∧ roFrom m0 ns.length ∧ ∀ e, rwFrom (mem e) (ns ++ rs).length) ∧ tmLe (fun i => (ns ++ rs)[i]?) us args ∧ mLe (fun i => (ns ++ rs)[i]?) m 0 m0 ∧
      goal C L fuel fn args m0 R ∧ (∀ r m', R r m' → ∃ e, ok e ∧ stLe m0.length ⟨[r], m'⟩ ⟨[res e], mem e⟩) ∧ ∀ e, ok e → K ((res e).ren (back (ns ++ rs) m.length)) (backM ns rs m (mem e))) : MSound C.P f c := by
  refine msound_of_v hC hfn hname hbody fun us m K hc => ?_
  obtain ⟨E, ok, L, fuel, ns, rs, args, m0, res, mem, R, h1, h2, h3⟩ := h us m K hc
  exact ⟨E, ok, L, fuel, ns, rs, args, m0, res, mem, R, h1, fun β vals hv => tmLe_has h2 hv, h3⟩

def ΔOk (P : Program) (Δ : List (FuncId × MC)) : Prop := ∀ f c, (f, c) ∈ Δ → MSound P f c
theorem ΔOk.nil (P : Program) : ΔOk P [] := fun f c h => by simp at h
theorem ΔOk.cons {P : Program} {Δ : List (FuncId × MC)} {f : FuncId} {c : MC} (h : MSound P f c) (k : ΔOk P Δ) : ΔOk P ((f, c) :: Δ) := by
  intro g d hm
  rcases List.mem_cons.1 hm with e | hm
  · cases e; exact h
  · exact k g d hm
/-- A CONTRACT OVER ONE BLOCK -/
theorem bsound_of {C : Ctx} (hC : C.Ok) {f : FuncId} {fn : Func} (hfn : C.P.funcs[f]? = some fn) (hname : (fn.name == "runtime.NumGoroutine") = false) (hbody : fn.body.isNone = false) {c : BC}
    (h : ∀ args l t p s new, c args l t = some (p, s, new) → ob p → (pf s = true ∧ new.all pfL = true) ∧ ∃ L fuel args' l', tmLe idR args args' ∧ lfsLe idR l l' ∧ args'.all pf = true ∧ l'.all pfL = true ∧
      goal C L fuel fn (.v (.one (.ptr 0 0)) :: args') [some (.cells l' t)] fun r m' => stLe 1 ⟨[r], m'⟩ ⟨[s], [some (.cells new t)]⟩) : BSound C.P f c := by
  refine ⟨⟨fn, hfn, hname, hbody⟩, ?_⟩
  intro β args vals l t p s new w k us hgl hng hc hp hv hob hus
  obtain ⟨⟨hps, hpn⟩, L, fuel, args', l', hle, hll, hpa, hpl, hg⟩ := h args l t p s new hc hp
  let γ : Nm := fun y => if y = 0 then some k else none
  have h0 : γ 0 = some k := rfl
  have hkl : k < w.heap.size := by
    rcases Nat.lt_or_ge k w.heap.size with h | h
    · exact h
    · rw [Array.getElem?_eq_none h] at hob; cases hob
  have hsat : Sat γ [some (.cells l' t)] w := by
    refine ⟨fun y b hy => ?_, ?_, fun y a hy => ?_, hgl, fun y a _ hy => ?_⟩
    · cases y with
      | zero =>
        simp at hy
        subst hy
        exact .inr ⟨k, rfl, us, hob, pfLs_has hpl (lfsLe_has hll hus)⟩
      | succ y => simp at hy
    · intro y z a hy hz _ _
      have := known_lt hy
      have := kn_lt hz
      simp at *
      omega
    · show y < 1
      have : γ y = some a := hy
      simp only [γ] at this
      split at this
      · omega
      · cases this
    · have : γ y = some a := hy
      simp only [γ] at this
      split at this
      · cases this; exact hng
      · cases this
  have hargs : All₂ (Has γ) (.v (.one (.ptr 0 0)) :: args') (.pointer (some ⟨k, 0, none⟩) :: vals) := .cons (.v (.one (.ptr h0))) (pfs_has hpa (tmLe_has hle hv))
  refine (calls_of_goal hC hfn hg hargs hsat).mono ?_
  rintro e w' ⟨β', v, m', r, hs', hsin, rfl, hr', hst⟩
  obtain ⟨γ', ⟨ht, hsat', _⟩, hsin'⟩ := Fit.le (bs := 0) (a := ⟨#[r], []⟩) (k := 1) rfl hsat ⟨.cons hr' .nil, hs', (trivial : Marks 0 w' [])⟩ hsin hst
  obtain ⟨k', hk', us', hob', hus'⟩ := hsat'.cells (x := 0) (l := new) (t := t) rfl
  rw [hsin'.ext 0 k h0] at hk'; cases hk'
  obtain ⟨r', rs, e1, hr2, _⟩ := ht.cons_inv
  cases e1
  refine ⟨r, us', rfl, pf_has hps hr2, pfLs_has hpn hus', hob', ?_, hsin.size, hsin.os, hsin.tape, hsin.output⟩
  intro i hi hne
  refine hsin.frame i hi fun y hy => ?_
  have := known_lt hy
  simp at this
  subst this
  rw [h0]
  intro e
  cases e
  exact hne rfl

def BOk (P : Program) (B : List (FuncId × BC)) : Prop := ∀ f c, (f, c) ∈ B → BSound P f c
theorem BOk.nil (P : Program) : BOk P [] := fun f c h => by simp at h
theorem BOk.cons {P : Program} {B : List (FuncId × BC)} {f : FuncId} {c : BC} (h : BSound P f c) (k : BOk P B) : BOk P ((f, c) :: B) := by
  intro g d hm
  rcases List.mem_cons.1 hm with e | hm
  · cases e; exact h
  · exact k g d hm
theorem Ctx.ok_of2 {M : Md} {P : Program} {Γ : List (FuncId × FX)} {Δ : List (FuncId × MC)} {B : List (FuncId × BC)} {N : List FuncId} (hm : P.follows .mixedOrders = true) (h : ΓOk P Γ) (k : ΔOk P Δ) (b : BOk P B) : Ctx.Ok ⟨M, P, Γ, Δ, B, none, false, N, none⟩ :=
  ⟨h, k, b, hm, fun h e => by cases e⟩

end Go.Proofs.Ytceffompldihjaa.Rex
