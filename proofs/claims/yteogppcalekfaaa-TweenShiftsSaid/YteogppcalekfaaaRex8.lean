/- A WALK BY COMPUTATION, part 8: operations in the text's order, and code. Conditions: none. Own work. -/
import Derived.Test.YteogppcalekfaaaRex7
import Derived.LoopN
namespace Go.Proofs.Yteogppcalekfaaa.Rex
open Go.RowKit
set_option linter.unusedVariables false
set_option linter.unusedSimpArgs false

/-- what is asked of an end: its state fits, and of it K holds -/
def Ends (C : Ctx) (m0 : Mem) (β0 : Nm) (w0 : World) (K : St → Prop) (a : Act) (w : World) : Prop := ∃ σ β, Fit σ β a w ∧ Since m0 β0 w0 σ.m β w ∧ K σ

theorem put_defers (a : Act) (d : Option Tmp) (v : Value) : (a.put d v).defers = a.defers := by cases d <;> rfl

theorem After.fit {σ : St} {β : Nm} {w : World} {K : SV → Mem → Prop} {r : Value} {w' : World} {a : Act} (hf : Fit σ β a w) (dst : Option Tmp) (h : After σ β w K r w') :
    ∃ β' s m', Fit ⟨putL σ.tm dst s, m'⟩ β' (a.put dst r) w' ∧ Since σ.m β w m' β' w' ∧ K s m' := by
  obtain ⟨β', s, m', h1, h2, h3, h4⟩ := h
  exact ⟨β', s, m', ⟨putL_has (Has.all_mono h2.ext hf.tm) h3 dst, h1, by rw [put_defers]; exact hf.df⟩, h2, h4⟩

theorem yieldQ_spec {all : List Oper} {ops : Array Oper} (hall : ops.toList = all) {σ : St} {β : Nm} {a : Act} {w : World} (hf : Fit σ β a w) {j d : Nat} {s : SV} (h : yieldQ all σ.tm j = some (d, s)) :
    ∃ v, ((ops[j]?).bind (·.dst)).bind (a.tmps[·]?) = some v ∧ Has β s v ∧ a.tmps[d]? = some v := by
  unfold yieldQ at h
  split at h
  · rename_i o ho
    split at h
    · rename_i t ht
      split at h
      · rename_i s' hs'
        cases h
        obtain ⟨v, hv, hs⟩ := hf.tm.get hs'
        have ho' : ops[j]? = some o := by rw [← hall] at ho; simpa using ho
        have hv' : a.tmps[d]? = some v := by simpa using hv
        exact ⟨v, by simp [ho', ht, hv'], hs, hv'⟩
      · cases h
    · cases h
  · cases h

/-- a bool that is known now -/
theorem Fit.know {σ : St} {β : Nm} {a : Act} {w : World} (hf : Fit σ β a w) {d : Nat} {b : Bool} (h : a.tmps[d]? = some (.bool b)) : Fit ⟨σ.tm.set d (lb true b), σ.m⟩ β a w := by
  refine ⟨?_, hf.sat, hf.df⟩
  have := hf.tm.set (a := lb true b) (b := Value.bool b) (.v (.one .bool)) d
  have e : a.tmps.toList.set d (.bool b) = a.tmps.toList := by
    apply List.ext_getElem?
    intro x
    rw [List.getElem?_set]
    split
    · rename_i e1; subst e1
      split
      · simpa using h.symm
      · rename_i hlt
        simp at hlt
        rw [Array.getElem?_eq_none hlt] at h
        cases h
    · rfl
  rw [e] at this
  exact this

theorem xOps_sound {C : Ctx} (hC : C.Ok) {ops : Array Oper} {all : List Oper} (hall : ops.toList = all) : ∀ (rest : List Oper) (σ : St) (K : St → Prop) (β : Nm) (a : Act) (w : World), xOps C all rest σ K → Fit σ β a w →
    ∀ Q : Exit → Act → World → Prop, (∀ a' w', Ends C σ.m β w K a' w' → Q .normal a' w') → wpList C.P ops Q rest a w
  | [], σ, K, β, a, w, h, hf, Q, hQ => hQ a w ⟨σ, β, hf, Since.refl _ _ _, h⟩
  | o :: rest, σ, K, β, a, w, h, hf, Q, hQ => by
    have run : ∀ tm', Fit ⟨tm', σ.m⟩ β a w → xOp C ⟨tm', σ.m⟩ o (fun s m => xOps C all rest ⟨putL tm' o.dst s, m⟩ K) → o.wp C.P a w (wpList C.P ops Q rest) Q := by
      intro tm' hf hx
      refine xOp_sound hC hx hf _ _ fun r w' hr => ?_
      obtain ⟨β', s, m', h1, h2, h3⟩ := hr.fit hf o.dst
      refine xOps_sound hC hall rest _ K β' _ w' h3 h1 Q fun a'' w'' he => hQ a'' w'' ?_
      obtain ⟨σ2, β2, e1, e2, e3⟩ := he
      exact ⟨σ2, β2, e1, Since.trans hf.sat h2 e2, e3⟩
    have skip : ∀ tm', Fit ⟨tm', σ.m⟩ β a w → xOps C all rest ⟨putL tm' o.dst (.tup []), σ.m⟩ K → wpList C.P ops Q rest (a.put o.dst undef) w := by
      intro tm' hf hx
      exact xOps_sound hC hall rest _ K β _ w hx ⟨putL_has hf.tm (.tup .nil) o.dst, hf.sat, by rw [put_defers]; exact hf.df⟩ Q hQ
    unfold xOps at h
    unfold wpList
    split at h
    · rename_i hg
      rw [if_pos (by simp [Region.wanted, hg])]
      exact .inl (run _ hf h)
    · rename_i j want hg
      have wb : ∀ t, (((ops[j]?).bind (·.dst)).bind (a.tmps[·]?) = some (.bool t)) → Region.wanted o (yielded ops a.tmps) = decide (t = want) := by
        intro t ht
        simp only [Region.wanted, hg, yielded, ht]
        cases t <;> cases want <;> rfl
      split at h
      · rename_i d kn t hy
        obtain ⟨v, hv, hs, hd⟩ := yieldQ_spec hall hf hy
        have : v = .bool t := by
          cases hs with
          | v hs => cases hs with
            | one hs => cases hs; rfl
        subst this
        rw [wb t hv]
        split at h
        · split at h
          · rename_i hd
            rw [if_pos hd]; exact .inl (run _ hf h)
          · rename_i hd
            rw [if_neg (by rw [hd]; simp)]; exact skip _ hf h
        · by_cases e : t = want
          · rw [if_pos (by simpa using e)]
            exact .inl (run _ (hf.know (by rw [← e]; exact hd)) (h.1 e))
          · rw [if_neg (by simpa using e)]
            have e' : t = !want := by revert e; cases t <;> cases want <;> simp
            exact skip _ (hf.know (by rw [← e']; exact hd)) (h.2 e')
      · rename_i hy
        obtain ⟨v, hv, hs, _⟩ := yieldQ_spec hall hf hy
        have : v = .tuple ⟨[]⟩ := by
          cases hs with
          | tup hs => rw [hs.nil_inv]
        subst this
        have : Region.wanted o (yielded ops a.tmps) = false := by
          simp only [Region.wanted, hg, yielded, hv]
          rfl
        rw [if_neg (by rw [this]; simp)]; exact skip _ hf h
      · exact h.elim

/-! ### code -/
/-- a loop whose rounds are many: the state at each round's head is st s, of some s that is right; a number falls -/
structure LS where
  S : Type
  st : S → St
  ok : S → Prop
  mu : S → Nat
  init : S

/-- the second state says no more than the first -/
def ifB (b : Bool) (p : Prop) : Prop := match b with
  | true => p
  | false => False
theorem ifB_spec {b : Bool} {p : Prop} (h : ifB b p) : b = true ∧ p := by
  cases b
  · exact h.elim
  · exact ⟨rfl, h⟩
def lfLe : Lf → Lf → Prop
  | _, .junk => True
  | .int k _ a, .int k' _ b => ifB (decide (k = k')) (a = b)
  | .bool _ a, .bool _ b => a = b
  | .ptr x o, .ptr y p => ifB (Nat.beq x y) (ifB (Nat.beq o p) True)
  | .nilp, .nilp => True
  | .sl x o _ n c, .sl y p _ n' c' => ifB (Nat.beq x y) (ifB (Nat.beq o p) (n = n' ∧ c = c'))
  | .nils, .nils => True
  | .op u, .op v => u = v
  | _, _ => False
def lfsLe : List Lf → List Lf → Prop
  | [], [] => True
  | [a], [b] => lfLe a b
  | a :: l, b :: m => lfLe a b ∧ lfsLe l m
  | _, _ => False
def vLe : Vv → Vv → Prop
  | .one a, .one b => lfLe a b
  | .agg a, .agg b => lfsLe a b
  | _, _ => False
def vsLe : List Vv → List Vv → Prop
  | [], [] => True
  | [a], [b] => vLe a b
  | a :: l, b :: m => vLe a b ∧ vsLe l m
  | _, _ => False
def svLe : SV → SV → Prop
  | _, .junk => True
  | .v a, .v b => vLe a b
  | .tup a, .tup b => vsLe a b
  | .clo f a, .clo g b => ifB (Nat.beq f g) (lfsLe a b)
  | _, _ => False
def tmLe : List SV → List SV → Prop
  | [], [] => True
  | a :: l, .junk :: m => tmLe l m
  | a :: l, b :: m => svLe a b ∧ tmLe l m
  | _, _ => False
def bLe : Option Blk → Option Blk → Prop
  | _, none => True
  | some (.cells l t), some (.cells m u) => ifB (Nat.beq t u) (lfsLe l m)
  | _, _ => False
def mLe : Mem → Mem → Prop
  | [], [] => True
  | a :: l, none :: m => mLe l m
  | a :: l, b :: m => bLe a b ∧ mLe l m
  | _, _ => False
def stLe (σ τ : St) : Prop := tmLe σ.tm τ.tm ∧ mLe σ.m τ.m

/-! ### and that it is so -/
section
variable {β : Nm}
theorem lfLe_has {a b : Lf} {v : Value} (h : lfLe a b) (k : HasL β a v) : HasL β b v := by
  by_cases hj : b = .junk
  · subst hj; exact .junk k.oneCell
  · cases k <;> cases b <;> simp only [lfLe] at h <;> first
      | exact h.elim
      | exact absurd rfl hj
      | exact .nilp
      | exact .nils
      | (subst h; first | exact .bool | (refine .op ?_; assumption))
      | (obtain ⟨e, rfl⟩ := ifB_spec h; have := of_decide_eq_true e; subst this; exact .int)
      | (obtain ⟨e1, h1⟩ := ifB_spec h; obtain ⟨e2, h2⟩ := ifB_spec h1; clear h h1; have q1 := Nat.eq_of_beq_eq_true e1; have q2 := Nat.eq_of_beq_eq_true e2; clear e1 e2; subst q1; subst q2; first | (obtain ⟨rfl, rfl⟩ := h2; refine .sl ?_; assumption) | (refine .ptr ?_; assumption))
theorem lfsLe_cons {a b : Lf} {l m : List Lf} (h : lfsLe (a :: l) (b :: m)) : lfLe a b ∧ lfsLe l m := by
  cases l <;> cases m <;> first | exact ⟨h, trivial⟩ | exact h
theorem lfsLe_has : ∀ {l m : List Lf} {vs : List Value}, lfsLe l m → All₂ (HasL β) l vs → All₂ (HasL β) m vs
  | [], [], vs, _, k => k
  | a :: l, b :: m, vs, h, k => by
    obtain ⟨v, vs, rfl, hv, k⟩ := k.cons_inv
    obtain ⟨h1, h2⟩ := lfsLe_cons h
    exact .cons (lfLe_has h1 hv) (lfsLe_has h2 k)
  | [], _ :: _, _, h, _ => h.elim
  | [_], [], _, h, _ => h.elim
  | _ :: _ :: _, [], _, h, _ => h.elim
theorem vLe_has {a b : Vv} {v : Value} (h : vLe a b) (k : HasV β a v) : HasV β b v := by
  cases k with
  | one k => cases b with
    | one b => exact .one (lfLe_has h k)
    | agg b => exact h.elim
  | agg k => cases b with
    | one b => exact h.elim
    | agg b => exact .agg (lfsLe_has h k)
theorem vsLe_cons {a b : Vv} {l m : List Vv} (h : vsLe (a :: l) (b :: m)) : vLe a b ∧ vsLe l m := by
  cases l <;> cases m <;> first | exact ⟨h, trivial⟩ | exact h
theorem vsLe_has : ∀ {l m : List Vv} {vs : List Value}, vsLe l m → All₂ (HasV β) l vs → All₂ (HasV β) m vs
  | [], [], vs, _, k => k
  | a :: l, b :: m, vs, h, k => by
    obtain ⟨v, vs, rfl, hv, k⟩ := k.cons_inv
    obtain ⟨h1, h2⟩ := vsLe_cons h
    exact .cons (vLe_has h1 hv) (vsLe_has h2 k)
  | [], _ :: _, _, h, _ => h.elim
  | [_], [], _, h, _ => h.elim
  | _ :: _ :: _, [], _, h, _ => h.elim
theorem svLe_has {a b : SV} {v : Value} (h : svLe a b) (k : Has β a v) : Has β b v := by
  cases b with
  | junk => exact .junk
  | v b => cases k with
    | v k => exact .v (vLe_has h k)
    | _ => exact h.elim
  | tup b => cases k with
    | tup k => exact .tup (vsLe_has h k)
    | _ => exact h.elim
  | clo g b => cases k with
    | clo k => obtain ⟨e, h1⟩ := ifB_spec h; clear h; have := Nat.eq_of_beq_eq_true e; subst this; exact .clo (lfsLe_has h1 k)
    | _ => exact h.elim
theorem tmLe_cons {a b : SV} {l m : List SV} (h : tmLe (a :: l) (b :: m)) : svLe a b ∧ tmLe l m := by
  cases b with
  | junk => exact ⟨by cases a <;> trivial, h⟩
  | _ => exact h
theorem tmLe_has : ∀ {l m : List SV} {vs : List Value}, tmLe l m → All₂ (Has β) l vs → All₂ (Has β) m vs
  | [], [], vs, _, k => k
  | a :: l, b :: m, vs, h, k => by
    obtain ⟨v, vs, rfl, hv, k⟩ := k.cons_inv
    obtain ⟨h1, h2⟩ := tmLe_cons h
    exact .cons (svLe_has h1 hv) (tmLe_has h2 k)
  | [], _ :: _, _, h, _ => h.elim
  | _ :: _, [], _, h, _ => h.elim
theorem mLe_cons {a b : Option Blk} {l m : Mem} (h : mLe (a :: l) (b :: m)) : bLe a b ∧ mLe l m := by
  cases b with
  | none => exact ⟨by cases a <;> trivial, h⟩
  | some b => exact h
theorem mLe_len : ∀ {l m : Mem}, mLe l m → l.length = m.length
  | [], [], _ => rfl
  | a :: l, b :: m, h => by simp [mLe_len (mLe_cons h).2]
  | [], _ :: _, h => h.elim
  | _ :: _, [], h => h.elim
theorem mLe_get : ∀ {l m : Mem} {x : Nat} {b : Blk}, mLe l m → m[x]? = some (some b) → ∃ c, l[x]? = some (some c) ∧ bLe (some c) (some b)
  | [], [], x, b, _, e => by simp at e
  | a :: l, c :: m, 0, b, h, e => by
    simp at e
    subst e
    have h1 := (mLe_cons h).1
    cases a with
    | none => exact h1.elim
    | some a => exact ⟨a, by simp, h1⟩
  | a :: l, c :: m, x + 1, b, h, e => by
    obtain ⟨d, hd, hb⟩ := mLe_get (mLe_cons h).2 (by simpa using e)
    exact ⟨d, by simpa using hd, hb⟩
  | [], _ :: _, _, _, h, _ => h.elim
  | _ :: _, [], _, _, h, _ => h.elim
theorem bLe_has {b c : Blk} {o : Option Obj} (h : bLe (some b) (some c)) (k : HasB β b o) : HasB β c o := by
  cases b with
  | cells l t => cases c with
    | cells m u =>
      obtain ⟨e1, h1⟩ := ifB_spec h
      clear h
      have := Nat.eq_of_beq_eq_true e1
      subst this
      obtain ⟨vs, e, hv⟩ := k
      exact ⟨vs, e, lfsLe_has h1 hv⟩
theorem Sat.le {m m' : Mem} {w : World} (h : Sat β m w) (k : mLe m m') : Sat β m' w := by
  refine ⟨fun x b hb => ?_, ?_, fun x a hx => by rw [← mLe_len k]; exact h.dom x a hx⟩
  · obtain ⟨c, hc, hle⟩ := mLe_get k hb
    obtain ⟨a, ha, hB⟩ := h.blk x c hc
    exact ⟨a, ha, bLe_has hle hB⟩
  · rintro x y a ⟨b, hb⟩ ⟨c, hc⟩ hx hy
    obtain ⟨d, hd, _⟩ := mLe_get k hb
    obtain ⟨e, he, _⟩ := mLe_get k hc
    exact h.inj x y a ⟨d, hd⟩ ⟨e, he⟩ hx hy
theorem Since.le {m0 m m' : Mem} {β0 : Nm} {w0 w : World} (h : Since m0 β0 w0 m β w) (k : mLe m m') : Since m0 β0 w0 m' β w := by
  have up : ∀ x, known m' x → known m x := by
    rintro x ⟨b, hb⟩
    obtain ⟨d, hd, _⟩ := mLe_get k hb
    exact ⟨d, hd⟩
  exact ⟨h.ext, by rw [← mLe_len k]; exact h.len, fun x hx hk => h.new x hx (up x hk), fun x hx hk => h.sub x hx (up x hk), h.os, h.tape, h.output, h.size, h.frame⟩
theorem Fit.le {σ τ : St} {a : Act} {w : World} (h : Fit σ β a w) (k : stLe σ τ) : Fit τ β a w := ⟨tmLe_has k.1 h.tm, h.sat.le k.2, h.df⟩
end

theorem exists_least {p : Nat → Prop} (h : ∃ n, p n) : ∃ n, p n ∧ ∀ m, m < n → ¬ p m := by
  obtain ⟨n, hn⟩ := h
  induction n using Nat.strongRecOn with
  | _ n ih =>
    by_cases e : ∃ m, m < n ∧ p m
    · obtain ⟨m, hm, hp⟩ := e; exact ih m hm hp
    · exact ⟨n, hn, fun m hm hp => e ⟨m, hm, hp⟩⟩
open Classical in
noncomputable def least (p : Nat → Prop) : Nat := if h : ∃ n, p n then Classical.choose (exists_least h) else 0
theorem least_spec {p : Nat → Prop} {n : Nat} (h : p n) : p (least p) ∧ least p ≤ n := by
  have hx : ∃ n, p n := ⟨n, h⟩
  have e : least p = Classical.choose (exists_least hx) := by unfold least; rw [dif_pos hx]
  have sp := Classical.choose_spec (exists_least hx)
  rw [← e] at sp
  refine ⟨sp.1, ?_⟩
  rcases Nat.lt_or_ge n (least p) with hl | hl
  · exact absurd h (sp.2 n hl)
  · exact hl

theorem wp_loop_s {P : Program} {c : Code} {Q : Exit → Act → World → Prop} {S : Type} (R : S → Act → World → Prop) (mu : S → Nat) {s : S} {a : Act} {w : World} (h0 : R s a w)
    (round : ∀ s a w, R s a w → c.wp P (Exit.then (fun a' w' => ∃ s', R s' a' w' ∧ mu s' < mu s) Q) a w) : (Code.loop c).wp P Q a w := by
  refine wp_loop (fun a w => ∃ s, R s a w) (fun a w => least fun n => ∃ s, R s a w ∧ mu s = n) ⟨s, h0⟩ ?_
  rintro a w ⟨s, hs⟩
  obtain ⟨⟨s1, h1, e1⟩, _⟩ := least_spec (p := fun n => ∃ s, R s a w ∧ mu s = n) ⟨s, hs, rfl⟩
  refine wp_mono (round s1 a w h1) ?_
  intro e a' w' hq
  cases e with
  | normal =>
    obtain ⟨s', h', hl⟩ := hq
    refine ⟨⟨s', h'⟩, ?_⟩
    have := (least_spec (p := fun n => ∃ s, R s a' w' ∧ mu s = n) ⟨s', h', rfl⟩).2
    show least _ < least _
    omega
  | _ => exact hq

end Go.Proofs.Yteogppcalekfaaa.Rex
