/- A WALK BY COMPUTATION, part 8: operations in the text's order, and code. Conditions: none. Own work. -/
import Derived.Test.YtceffompldihjaaRex7
import Derived.LoopN
import Derived.LoopNIn
namespace Go.Proofs.Ytceffompldihjaa.Rex
open Go.RowKit
set_option linter.unusedVariables false
set_option linter.unusedSimpArgs false

/-- what is asked of an end: its state fits, and of it K holds -/
def Ends (bs : Nat) (C : Ctx) (m0 : Mem) (β0 : Nm) (w0 : World) (K : St → Prop) (a : Act) (w : World) : Prop := ∃ σ β, Fit bs σ β a w ∧ Since m0 β0 w0 σ.m β w ∧ K σ

theorem put_defers (a : Act) (d : Option Tmp) (v : Value) : (a.put d v).defers = a.defers := by cases d <;> rfl

theorem After.fit {bs : Nat} {σ : St} {β : Nm} {w : World} {K : SV → Mem → Prop} {r : Value} {w' : World} {a : Act} (hf : Fit bs σ β a w) (dst : Option Tmp) (h : After σ β w K r w') :
    ∃ β' s m', Fit bs ⟨putL σ.tm dst s, m'⟩ β' (a.put dst r) w' ∧ Since σ.m β w m' β' w' ∧ K s m' := by
  obtain ⟨β', s, m', h1, h2, h3, h4⟩ := h
  exact ⟨β', s, m', ⟨putL_has (Has.all_mono h2.ext hf.tm) h3 dst, h1, by rw [put_defers]; exact hf.df.mono fun D hD => h2.defer hf.sat hD⟩, h2, h4⟩

theorem yieldQ_spec {bs : Nat} {all : List Oper} {ops : Array Oper} (hall : ops.toList = all) {σ : St} {β : Nm} {a : Act} {w : World} (hf : Fit bs σ β a w) {j d : Nat} {s : SV} (h : yieldQ all σ.tm j = some (d, s)) :
    ∃ v, ((ops[j]?).bind (·.dst)).bind (a.tmps[·]?) = some v ∧ Has β s v ∧ a.tmps[d]? = some v := by
  unfold yieldQ at h
  split at h
  · rename_i o ho
    split at h
    · rename_i t ht
      split at h
      · rename_i s' hs'
        cases h
        obtain ⟨v, hv, hs⟩ := hf.tm.get hs'
        have ho' : ops[j]? = some o := by rw [← hall] at ho; simpa using ho
        have hv' : a.tmps[d]? = some v := by simpa using hv
        exact ⟨v, by simp [ho', ht, hv'], hs, hv'⟩
      · cases h
    · cases h
  · cases h

/-- a bool that is known now -/
theorem Fit.know {bs : Nat} {σ : St} {β : Nm} {a : Act} {w : World} (hf : Fit bs σ β a w) {d : Nat} {b : Bool} (h : a.tmps[d]? = some (.bool b)) : Fit bs ⟨σ.tm.set d (lb true b), σ.m⟩ β a w := by
  refine ⟨?_, hf.sat, hf.df⟩
  have := hf.tm.set (a := lb true b) (b := Value.bool b) (.v (.one .bool)) d
  have e : a.tmps.toList.set d (.bool b) = a.tmps.toList := by
    apply List.ext_getElem?
    intro x
    rw [List.getElem?_set]
    split
    · rename_i e1; subst e1
      split
      · simpa using h.symm
      · rename_i hlt
        simp at hlt
        rw [Array.getElem?_eq_none hlt] at h
        cases h
    · rfl
  rw [e] at this
  exact this

theorem xOps_sound {bs : Nat} {C : Ctx} (hC : C.Ok) {F : Fence} {n : Nat} (hF : Wd F) {ops : Array Oper} {all : List Oper} (hall : ops.toList = all) : ∀ (rest : List Oper) (σ : St) (K : St → Prop) (β : Nm) (a : Act) (w : World), xOps C all rest σ K → Fit bs σ β a w → YOk C β →
    ∀ Q : Exit → Act → World → Prop, (∀ a' w', Ends bs C σ.m β w K a' w' → Q .normal a' w') → wpListIn F n C.P ops Q rest a w
  | [], σ, K, β, a, w, h, hf, hY, Q, hQ => hQ a w ⟨σ, β, hf, Since.refl _ _ _, h⟩
  | o :: rest, σ, K, β, a, w, h, hf, hY, Q, hQ => by
    have run : ∀ tm', Fit bs ⟨tm', σ.m⟩ β a w → xOp C ⟨tm', σ.m⟩ o (fun s m => xOps C all rest ⟨putL tm' o.dst s, m⟩ K) → o.wpIn F n C.P a w (wpListIn F n C.P ops Q rest) Q := by
      intro tm' hf hx
      refine xOp_sound hC hx hf hY F n hF _ _ fun r w' hr => ?_
      obtain ⟨β', s, m', h1, h2, h3⟩ := hr.fit hf o.dst
      refine xOps_sound hC hF hall rest _ K β' _ w' h3 h1 (hY.le h2.ext) Q fun a'' w'' he => hQ a'' w'' ?_
      obtain ⟨σ2, β2, e1, e2, e3⟩ := he
      exact ⟨σ2, β2, e1, Since.trans hf.sat h2 e2, e3⟩
    have skip : ∀ tm', Fit bs ⟨tm', σ.m⟩ β a w → xOps C all rest ⟨putL tm' o.dst (.tup []), σ.m⟩ K → wpListIn F n C.P ops Q rest (a.put o.dst undef) w := by
      intro tm' hf hx
      exact xOps_sound hC hF hall rest _ K β _ w hx ⟨putL_has hf.tm (.tup .nil) o.dst, hf.sat, by rw [put_defers]; exact hf.df⟩ hY Q hQ
    unfold xOps at h
    unfold wpListIn
    split at h
    · rename_i hg
      rw [if_pos (by simp [Region.wanted, hg])]
      exact (run _ hf h)
    · rename_i j want hg
      have wb : ∀ t, (((ops[j]?).bind (·.dst)).bind (a.tmps[·]?) = some (.bool t)) → Region.wanted o (yielded ops a.tmps) = decide (t = want) := by
        intro t ht
        simp only [Region.wanted, hg, yielded, ht]
        cases t <;> cases want <;> rfl
      split at h
      · rename_i d kn t hy
        obtain ⟨v, hv, hs, hd⟩ := yieldQ_spec hall hf hy
        have : v = .bool t := by
          cases hs with
          | v hs => cases hs with
            | one hs => cases hs; rfl
        subst this
        rw [wb t hv]
        split at h
        · split at h
          · rename_i hd
            rw [if_pos hd]; exact (run _ hf h)
          · rename_i hd
            rw [if_neg (by rw [hd]; simp)]; exact ⟨fun f _ => hF.fn f, skip _ hf h⟩
        · by_cases e : t = want
          · rw [if_pos (by simpa using e)]
            exact (run _ (hf.know (by rw [← e]; exact hd)) (h.1 e))
          · rw [if_neg (by simpa using e)]
            have e' : t = !want := by revert e; cases t <;> cases want <;> simp
            exact ⟨fun f _ => hF.fn f, skip _ (hf.know (by rw [← e']; exact hd)) (h.2 e')⟩
      · rename_i hy
        obtain ⟨v, hv, hs, _⟩ := yieldQ_spec hall hf hy
        have : v = .tuple ⟨[]⟩ := by
          cases hs with
          | tup hs => rw [hs.nil_inv]
        subst this
        have : Region.wanted o (yielded ops a.tmps) = false := by
          simp only [Region.wanted, hg, yielded, hv]
          rfl
        rw [if_neg (by rw [this]; simp)]; exact ⟨fun f _ => hF.fn f, skip _ hf h⟩
      · exact h.elim

/-! ### code -/
/-- a loop whose rounds are many: the state at each round's head is st s, of some s that is right; a number falls -/
structure LS where
  S : Type
  st : S → St
  ok : S → Prop
  mu : S → Nat
  init : S
  /-- few rounds (at most n): each round's head, by its number: the paths of one round come together at the next one's head -/
  fin : Option (Nat × (Nat → St)) := none
  inv : Nat → Prop := fun _ => True
  /-- the first state is some one (not init) -/
  ex : Bool := false
  /-- what ties a round's state to the state in which the loop began -/
  tie : Option (St → S → Prop) := none
def okT (l : LS) (σ : St) (s : l.S) : Prop := match l.tie with
  | none => l.ok s
  | some t => l.ok s ∧ t σ s

/-- the second state says no more than the first, under the second's own names (ρ: whom they name) -/
def ifB (b : Bool) (p : Prop) : Prop := match b with
  | true => p
  | false => False
theorem ifB_spec {b : Bool} {p : Prop} (h : ifB b p) : b = true ∧ p := by
  cases b
  · exact h.elim
  · exact ⟨rfl, h⟩
abbrev Rn := Nat → Option Nat
def nmIs (ρ : Rn) (x y : Nat) (p : Prop) : Prop := match ρ y with
  | some z => ifB (Nat.beq x z) p
  | none => False
theorem nmIs_spec {ρ : Rn} {x y : Nat} {p : Prop} (h : nmIs ρ x y p) : ρ y = some x ∧ p := by
  unfold nmIs at h
  split at h
  · rename_i z hz
    obtain ⟨h1, h2⟩ := ifB_spec h
    have := Nat.eq_of_beq_eq_true h1
    subst this
    exact ⟨hz, h2⟩
  · exact h.elim
def tgP : Nat → Nat → Nat → Prop
  | 0, 0, _ => True
  | 0, _, o => o = 0
  | _, _, _ => True
def lfLe (ρ : Rn) : Lf → Lf → Prop
  | _, .junk => True
  | .int k _ a, .int k' _ b => ifB (decide (k = k')) (a = b)
  | .bool _ a, .bool _ b => a = b
  | .ptr x o, .ptr y p => nmIs ρ x y (ifB (Nat.beq o p) True)
  | .nilp, .nilp => True
  | .sl x o _ n c, .sl y p _ n' c' => nmIs ρ x y (ifB (Nat.beq o p) (n = n' ∧ c = c'))
  | .nils, .nils => True
  | .op u, .op v => u = v
  | .rs z tg x base sz o n c, .rs z' tg' y base' sz' o' n' c' => nmIs ρ x y (ifB (Nat.beq sz sz') ((z = z' ∧ base = base' ∧ o = o' ∧ n = n' ∧ c = c') ∧ tgP tg' tg o'))
  | .nils, .rs z' _ _ _ _ o' n' c' => z' = true ∧ o' = 0 ∧ n' = 0 ∧ c' = 0
  | .sl _ _ _ n c, .rs z' _ _ _ _ o' n' c' => (n = 0 ∧ c = 0) ∧ z' = true ∧ o' = 0 ∧ n' = 0 ∧ c' = 0
  | .rp x base sz i f, .rp y base' sz' i' f' => nmIs ρ x y (ifB (Nat.beq sz sz' && Nat.beq f f') (base = base' ∧ i = i'))
  | _, _ => False
def lfsLe (ρ : Rn) : List Lf → List Lf → Prop
  | [], [] => True
  | [a], [b] => lfLe ρ a b
  | a :: l, b :: m => lfLe ρ a b ∧ lfsLe ρ l m
  | _, _ => False
def vLe (ρ : Rn) : Vv → Vv → Prop
  | .one a, .one b => lfLe ρ a b
  | .agg a, .agg b => lfsLe ρ a b
  | _, _ => False
def vsLe (ρ : Rn) : List Vv → List Vv → Prop
  | [], [] => True
  | [a], [b] => vLe ρ a b
  | a :: l, b :: m => vLe ρ a b ∧ vsLe ρ l m
  | _, _ => False
def svLe (ρ : Rn) : SV → SV → Prop
  | _, .junk => True
  | .v a, .v b => vLe ρ a b
  | .tup a, .tup b => vsLe ρ a b
  | .clo f a, .clo g b => ifB (Nat.beq f g) (lfsLe ρ a b)
  | _, _ => False
def tmLe (ρ : Rn) : List SV → List SV → Prop
  | [], [] => True
  | a :: l, .junk :: m => tmLe ρ l m
  | a :: l, b :: m => svLe ρ a b ∧ tmLe ρ l m
  | _, _ => False
/-- what may be written may be taken for what may not -/
def roLe : Bool → Bool → Bool
  | true, false => false
  | _, _ => true
def orT : Bool → Bool → Bool
  | true, _ => true
  | false, b => b
def bLe (ρ : Rn) : Option Blk → Option Blk → Prop
  | _, none => True
  | some (.cells l t), some (.cells m u) => ifB (Nat.beq t u) (lfsLe ρ l m)
  | some (.rows ro z sh xs base tot t), some (.rows ro' z' sh' xs' base' tot' t') => ifB (roLe ro ro' && orT ro' (Nat.beq t t')) (match shEq sh sh' with
    | some ⟨h⟩ => z = z' ∧ base = base' ∧ tot = tot' ∧ (castR h xs).take xs'.length = xs'
    | none => False)
  | some (.loop r j), some (.loop r' j') => r = r' ∧ j = j'
  | _, some (.rows _ z' _ xs' _ _ _) => z' = true ∧ xs' = []
  | _, _ => False
def srcB (m : Mem) : Option Nat → Option Blk
  | some x => mmOf m x
  | none => none
def mLe (ρ : Rn) (m : Mem) : Nat → Mem → Prop
  | _, [] => True
  | y, none :: l => mLe ρ m (y + 1) l
  | y, b :: l => bLe ρ (srcB m (ρ y)) b ∧ mLe ρ m (y + 1) l

/-! whom the names name: found by laying the one over the other; nothing hangs on how -/
def mtL (acc : List (Nat × Nat)) : Lf → Lf → List (Nat × Nat)
  | .ptr x _, .ptr y _ => acc ++ [(y, x)]
  | .sl x _ _ _ _, .sl y _ _ _ _ => acc ++ [(y, x)]
  | .rs _ _ x _ _ _ _ _, .rs _ _ y _ _ _ _ _ => acc ++ [(y, x)]
  | .rp x _ _ _ _, .rp y _ _ _ _ => acc ++ [(y, x)]
  | _, _ => acc
def mtLs (acc : List (Nat × Nat)) : List Lf → List Lf → List (Nat × Nat)
  | a :: l, b :: m => mtLs (mtL acc a b) l m
  | _, _ => acc
def mtV (acc : List (Nat × Nat)) : Vv → Vv → List (Nat × Nat)
  | .one a, .one b => mtL acc a b
  | .agg a, .agg b => mtLs acc a b
  | _, _ => acc
def mtVs (acc : List (Nat × Nat)) : List Vv → List Vv → List (Nat × Nat)
  | a :: l, b :: m => mtVs (mtV acc a b) l m
  | _, _ => acc
def mtS (acc : List (Nat × Nat)) : SV → SV → List (Nat × Nat)
  | .v a, .v b => mtV acc a b
  | .tup a, .tup b => mtVs acc a b
  | .clo _ a, .clo _ b => mtLs acc a b
  | _, _ => acc
def mtT (acc : List (Nat × Nat)) : List SV → List SV → List (Nat × Nat)
  | a :: l, b :: m => mtT (mtS acc a b) l m
  | _, _ => acc
def mtM (k : Nat) (m : Mem) (acc : List (Nat × Nat)) : Nat → Mem → List (Nat × Nat)
  | _, [] => acc
  | y, some (.cells l _) :: t => match (match Nat.blt y k with
    | true => some y
    | false => find acc y) with
    | some x => match mmOf m x with
      | some (.cells l' _) => mtM k m (mtLs acc l' l) (y + 1) t
      | _ => mtM k m acc (y + 1) t
    | none => mtM k m acc (y + 1) t
  | y, _ :: t => mtM k m acc (y + 1) t
def rnOf (acc : List (Nat × Nat)) (d : Nat) : Nat → Nat → List Nat
  | _, 0 => []
  | y, n + 1 => (match find acc y with
    | some x => x
    | none => d + y) :: rnOf acc d (y + 1) n
def mt (k : Nat) (σ τ : St) : List Nat :=
  let a0 := mtT [] σ.tm τ.tm
  let a1 := mtM k σ.m a0 0 τ.m
  let a2 := mtM k σ.m a1 0 τ.m
  let a3 := mtM k σ.m a2 0 τ.m
  rnOf a3 (σ.m.length + k) k (τ.m.length - k)
def rnm (k : Nat) (rn : List Nat) : Rn := fun y => match Nat.blt y k with
  | true => some y
  | false => rn[y - k]?
/-- the names of which something is said; which may not be written -/
def Blk.isRo : Blk → Bool
  | .cells _ _ => false
  | .rows ro _ _ _ _ _ _ => ro
  | .loop _ _ => false
def usedOf (ρ : Rn) : Nat → Mem → List (Nat × Bool)
  | _, [] => []
  | y, none :: l => usedOf ρ (y + 1) l
  | y, some b :: l => match ρ y with
    | some x => (x, b.isRo) :: usedOf ρ (y + 1) l
    | none => usedOf ρ (y + 1) l
def apart (x : Nat) (r : Bool) : List (Nat × Bool) → Bool
  | [] => true
  | (y, q) :: l => match Nat.beq x y with
    | true => match r with
      | true => match q with
        | true => apart x r l
        | false => false
      | false => false
    | false => apart x r l
def ndB : List (Nat × Bool) → Bool
  | [] => true
  | (x, r) :: l => apart x r l && ndB l
def notIn (x : Nat) : List Nat → Bool
  | [] => true
  | y :: l => match Nat.beq x y with
    | true => false
    | false => notIn x l
def nodupB : List Nat → Bool
  | [] => true
  | x :: l => notIn x l && nodupB l
def stLe' (k : Nat) (rn : List Nat) (σ τ : St) : Prop := ifB (Nat.beq (k + rn.length) τ.m.length && ndB (usedOf (rnm k rn) 0 τ.m)) (tmLe (rnm k rn) σ.tm τ.tm ∧ mLe (rnm k rn) σ.m 0 τ.m)
def stLe (k : Nat) (σ τ : St) : Prop := stLe' k (mt k σ τ) σ τ

/-! ### and that it is so -/
def Nm.by (β : Nm) (ρ : Rn) : Nm := fun y => (ρ y).bind β
/-- the names as they are -/
def idR : Rn := some
theorem Nm.by_id (β : Nm) : β.by idR = β := rfl

section
variable {β : Nm} {ρ : Rn}
theorem by_some {x y b : Nat} (h : ρ y = some x) (k : β x = some b) : (β.by ρ) y = some b := by simp [Nm.by, h, k]
theorem lfLe_has {a b : Lf} {v : Value} (h : lfLe ρ a b) (k : HasL β a v) : HasL (β.by ρ) b v := by
  by_cases hj : b = .junk
  · subst hj; exact .junk k.oneCell
  · cases k <;> cases b <;> simp only [lfLe] at h <;> first
      | exact h.elim
      | exact absurd rfl hj
      | exact .nilp
      | exact .nils
      | (subst h; first | exact .bool | (refine .op ?_; assumption))
      | (obtain ⟨e, rfl⟩ := ifB_spec h; have := of_decide_eq_true e; subst this; exact .int)
      | skip
    · rename_i e y p
      obtain ⟨h1, h2⟩ := nmIs_spec h
      obtain ⟨h3, _⟩ := ifB_spec h2
      have := Nat.eq_of_beq_eq_true h3
      subst this
      exact .ptr (by_some h1 e)
    · rename_i e y p _ _ _
      obtain ⟨h1, h2⟩ := nmIs_spec h
      obtain ⟨h3, rfl, rfl⟩ := ifB_spec h2
      have := Nat.eq_of_beq_eq_true h3
      subst this
      exact .sl (by_some h1 e)
    · obtain ⟨⟨rfl, rfl⟩, rfl, rfl, rfl, rfl⟩ := h
      exact .rs ⟨fun _ => rfl, Nat.le_refl _, .inl ⟨rfl, rfl, _, rfl⟩⟩
    · obtain ⟨rfl, rfl, rfl, rfl⟩ := h
      exact .rs ⟨fun _ => rfl, Nat.le_refl _, .inl ⟨rfl, rfl, _, rfl⟩⟩
    · rename_i e _ _ _ _ _ _ _ _
      obtain ⟨h1, h2⟩ := nmIs_spec h
      obtain ⟨h3, ⟨rfl, rfl, rfl, rfl, rfl⟩, h4⟩ := ifB_spec h2
      have := Nat.eq_of_beq_eq_true h3
      subst this
      obtain ⟨e1, e2, e3⟩ := e
      refine .rs ⟨?_, e2, ?_⟩
      · intro ht
        subst ht
        unfold tgP at h4
        split at h4
        · exact e1 rfl
        · exact h4
        · rename_i hne _ _; exact absurd rfl (by assumption)
      · rcases e3 with e3 | ⟨q1, b, q2, q3⟩
        · exact .inl e3
        · exact .inr ⟨q1, b, by_some h1 q2, q3⟩
    · rename_i e _ _ _ _ _
      obtain ⟨h1, h2⟩ := nmIs_spec h
      obtain ⟨h3, rfl, rfl⟩ := ifB_spec h2
      rw [Bool.and_eq_true] at h3
      have e1 := Nat.eq_of_beq_eq_true h3.1
      have e2 := Nat.eq_of_beq_eq_true h3.2
      subst e1; subst e2
      exact .rp (by_some h1 e)
theorem lfsLe_cons {a b : Lf} {l m : List Lf} (h : lfsLe ρ (a :: l) (b :: m)) : lfLe ρ a b ∧ lfsLe ρ l m := by
  cases l <;> cases m <;> first | exact ⟨h, trivial⟩ | exact h
theorem lfsLe_has : ∀ {l m : List Lf} {vs : List Value}, lfsLe ρ l m → All₂ (HasL β) l vs → All₂ (HasL (β.by ρ)) m vs
  | [], [], vs, _, k => by rw [k.nil_inv]; exact .nil
  | a :: l, b :: m, vs, h, k => by
    obtain ⟨v, vs, rfl, hv, k⟩ := k.cons_inv
    obtain ⟨h1, h2⟩ := lfsLe_cons h
    exact .cons (lfLe_has h1 hv) (lfsLe_has h2 k)
  | [], _ :: _, _, h, _ => h.elim
  | [_], [], _, h, _ => h.elim
  | _ :: _ :: _, [], _, h, _ => h.elim
theorem vLe_has {a b : Vv} {v : Value} (h : vLe ρ a b) (k : HasV β a v) : HasV (β.by ρ) b v := by
  cases k with
  | one k => cases b with
    | one b => exact .one (lfLe_has h k)
    | agg b => exact h.elim
  | agg k => cases b with
    | one b => exact h.elim
    | agg b => exact .agg (lfsLe_has h k)
theorem vsLe_cons {a b : Vv} {l m : List Vv} (h : vsLe ρ (a :: l) (b :: m)) : vLe ρ a b ∧ vsLe ρ l m := by
  cases l <;> cases m <;> first | exact ⟨h, trivial⟩ | exact h
theorem vsLe_has : ∀ {l m : List Vv} {vs : List Value}, vsLe ρ l m → All₂ (HasV β) l vs → All₂ (HasV (β.by ρ)) m vs
  | [], [], vs, _, k => by rw [k.nil_inv]; exact .nil
  | a :: l, b :: m, vs, h, k => by
    obtain ⟨v, vs, rfl, hv, k⟩ := k.cons_inv
    obtain ⟨h1, h2⟩ := vsLe_cons h
    exact .cons (vLe_has h1 hv) (vsLe_has h2 k)
  | [], _ :: _, _, h, _ => h.elim
  | [_], [], _, h, _ => h.elim
  | _ :: _ :: _, [], _, h, _ => h.elim
theorem svLe_has {a b : SV} {v : Value} (h : svLe ρ a b) (k : Has β a v) : Has (β.by ρ) b v := by
  cases b with
  | junk => exact .junk
  | v b => cases k with
    | v k => exact .v (vLe_has h k)
    | _ => exact h.elim
  | tup b => cases k with
    | tup k => exact .tup (vsLe_has h k)
    | _ => exact h.elim
  | clo g b => cases k with
    | clo k => obtain ⟨e, h1⟩ := ifB_spec h; clear h; have := Nat.eq_of_beq_eq_true e; subst this; exact .clo (lfsLe_has h1 k)
    | _ => exact h.elim
theorem tmLe_cons {a b : SV} {l m : List SV} (h : tmLe ρ (a :: l) (b :: m)) : svLe ρ a b ∧ tmLe ρ l m := by
  cases b with
  | junk => exact ⟨by cases a <;> trivial, h⟩
  | _ => exact h
theorem tmLe_has : ∀ {l m : List SV} {vs : List Value}, tmLe ρ l m → All₂ (Has β) l vs → All₂ (Has (β.by ρ)) m vs
  | [], [], vs, _, k => by rw [k.nil_inv]; exact .nil
  | a :: l, b :: m, vs, h, k => by
    obtain ⟨v, vs, rfl, hv, k⟩ := k.cons_inv
    obtain ⟨h1, h2⟩ := tmLe_cons h
    exact .cons (svLe_has h1 hv) (tmLe_has h2 k)
  | [], _ :: _, _, h, _ => h.elim
  | _ :: _, [], _, h, _ => h.elim

theorem mLe_get {m : Mem} : ∀ {l : Mem} {y i : Nat} {b : Blk}, mLe ρ m y l → l[i]? = some (some b) → bLe ρ (srcB m (ρ (y + i))) (some b)
  | [], y, i, b, _, e => by simp at e
  | none :: l, y, 0, b, h, e => by simp at e
  | none :: l, y, i + 1, b, h, e => by
    have := mLe_get (y := y + 1) (i := i) h (by simpa using e)
    rwa [show y + 1 + i = y + (i + 1) by omega] at this
  | some c :: l, y, 0, b, h, e => by
    simp at e
    subst e
    exact h.1
  | some c :: l, y, i + 1, b, h, e => by
    have := mLe_get (y := y + 1) (i := i) h.2 (by simpa using e)
    rwa [show y + 1 + i = y + (i + 1) by omega] at this

theorem roLe_spec {a b : Bool} (h : roLe a b = true) (k : b = false) : a = false := by
  subst k
  cases a with
  | false => rfl
  | true => cases h

/-- one of the first's blocks, as the second has it -/
theorem bLe_has {m : Mem} {w : World} (hs : Sat β m w) {x : Option Nat} {c : Blk} (h : bLe ρ (srcB m x) (some c)) :
    c.dead ∨ ∃ z b, x = some z ∧ m[z]? = some (some b) ∧ ¬ b.dead ∧ (c.rw → b.rw) ∧ ∃ a, β z = some a ∧ HasB (β.by ρ) c w.heap[a]? := by
  have src : ∀ {b}, srcB m x = some b → ∃ z, x = some z ∧ m[z]? = some (some b) := by
    intro b hb
    cases x with
    | none => cases hb
    | some z => exact ⟨z, rfl, mmOf_some hb⟩
  cases c with
  | cells l t =>
    cases hb : srcB m x with
    | none => rw [hb] at h; exact h.elim
    | some b =>
      rw [hb] at h
      cases b with
      | rows => exact h.elim
      | loop => exact h.elim
      | cells l' t' =>
        obtain ⟨z, rfl, hz⟩ := src hb
        obtain ⟨e1, h1⟩ := ifB_spec h
        have := Nat.eq_of_beq_eq_true e1
        subst this
        obtain ⟨a, ha, vs, hob, hv⟩ := hs.cells hz
        exact .inr ⟨z, _, rfl, hz, id, fun _ => trivial, a, ha, vs, hob, lfsLe_has h1 hv⟩
  | loop r j =>
    cases hb : srcB m x with
    | none => rw [hb] at h; exact h.elim
    | some b =>
      rw [hb] at h
      cases b with
      | rows => exact h.elim
      | cells => exact h.elim
      | loop r' j' =>
        obtain ⟨z, rfl, hz⟩ := src hb
        obtain ⟨rfl, rfl⟩ := h
        obtain ⟨a, ha, hB⟩ := hs.live hz id
        exact .inr ⟨z, _, rfl, hz, id, fun _ => trivial, a, ha, hB⟩
  | rows ro z sh xs base tot t =>
    have dd : ∀ {b : Option Blk}, srcB m x = b → (z = true ∧ xs = []) → Blk.dead (.rows ro z sh xs base tot t) := fun _ k => k
    cases hb : srcB m x with
    | none => rw [hb] at h; exact .inl h
    | some b =>
      rw [hb] at h
      cases b with
      | cells => exact .inl h
      | loop => exact .inl h
      | rows ro' z' sh' xs' base' tot' t' =>
        obtain ⟨y, rfl, hy⟩ := src hb
        obtain ⟨e1, h1⟩ := ifB_spec h
        rw [Bool.and_eq_true] at e1
        have e2 : ro = false → t' = t := by
          intro hr
          subst hr
          exact Nat.eq_of_beq_eq_true e1.2
        have e3 := e1.1
        split at h1
        · rename_i hE hshE
          clear hshE
          subst hE
          obtain ⟨rfl, rfl, rfl, hx⟩ := h1
          rw [castR_rfl] at hx
          rcases hs.blk y _ hy with ⟨k1, k2⟩ | ⟨a, ha, hz, vs, fz, t2, hob, hfz, hR⟩
          · left
            subst k2
            exact ⟨k1, by rw [← hx]; simp⟩
          · right
            subst hz
            refine ⟨y, _, rfl, hy, fun hd => (by cases hd.1), fun hr => ⟨roLe_spec e3 hr.1, rfl⟩, a, ha, rfl, vs, fz, t2, hob, fun hr => ⟨(hfz (roLe_spec e3 hr)).1, (hfz (roLe_spec e3 hr)).2.trans (e2 hr)⟩, ?_⟩
            rw [RowsAt.iff] at hR ⊢
            obtain ⟨r1, r2, r3⟩ := hR
            have hl : xs.length ≤ xs'.length := by rw [← hx]; simp; omega
            refine ⟨by omega, r2, fun i r hi j hj => r3 i r ?_ j hj⟩
            rw [← hx, List.getElem?_take] at hi
            split at hi
            · exact hi
            · cases hi
        · exact h1.elim
theorem notIn_spec {x : Nat} : ∀ {l : List Nat}, notIn x l = true → ∀ y ∈ l, x ≠ y
  | [], _, y, hy => by simp at hy
  | z :: l, h, y, hy => by
    unfold notIn at h
    split at h
    · cases h
    · rename_i e
      rcases List.mem_cons.1 hy with rfl | hy
      · exact Nat.ne_of_beq_eq_false e
      · exact notIn_spec h y hy
theorem apart_spec {x : Nat} {r : Bool} : ∀ {l : List (Nat × Bool)}, apart x r l = true → ∀ q, (x, q) ∈ l → r = true ∧ q = true
  | [], _, q, h => by simp at h
  | (y, q0) :: l, h, q, hm => by
    unfold apart at h
    split at h
    · rename_i e
      have := Nat.eq_of_beq_eq_true e
      subst this
      split at h
      · split at h
        · rcases List.mem_cons.1 hm with e1 | hm
          · cases e1; exact ⟨rfl, rfl⟩
          · exact apart_spec h q hm
        · cases h
      · cases h
    · rename_i e
      rcases List.mem_cons.1 hm with e1 | hm
      · cases e1; exact absurd rfl (Nat.ne_of_beq_eq_false e)
      · exact apart_spec h q hm
theorem usedOf_mem : ∀ {m : Mem} {y i : Nat} {b : Blk} {x : Nat}, m[i]? = some (some b) → ρ (y + i) = some x → (x, b.isRo) ∈ usedOf ρ y m
  | [], y, i, b, x, h, _ => by simp at h
  | none :: m, y, 0, b, x, h, _ => by simp at h
  | none :: m, y, i + 1, b, x, h, hx => usedOf_mem (m := m) (y := y + 1) (i := i) (by simpa using h) (by rw [show y + 1 + i = y + (i + 1) by omega]; exact hx)
  | some c :: m, y, 0, b, x, h, hx => by
    unfold usedOf
    rw [Nat.add_zero] at hx
    rw [hx]
    simp at h
    simp [h]
  | some c :: m, y, i + 1, b, x, h, hx => by
    have := usedOf_mem (m := m) (y := y + 1) (i := i) (x := x) (b := b) (by simpa using h) (by rw [show y + 1 + i = y + (i + 1) by omega]; exact hx)
    unfold usedOf
    split
    · exact List.mem_cons_of_mem _ this
    · exact this
theorem rw_ro {b : Blk} (h : b.rw) : b.isRo = false := by
  cases b with
  | cells => rfl
  | rows => exact h.1
  | loop => rfl
theorem nodup_inj : ∀ {m : Mem} {y i j : Nat} {b c : Blk} {x : Nat}, ndB (usedOf ρ y m) = true → m[i]? = some (some b) → m[j]? = some (some c) → ρ (y + i) = some x → ρ (y + j) = some x → b.isRo = false ∨ c.isRo = false → i = j
  | [], y, i, j, b, c, x, _, h, _, _, _, _ => by simp at h
  | none :: m, y, 0, j, b, c, x, _, h, _, _, _, _ => by simp at h
  | none :: m, y, i + 1, 0, b, c, x, _, _, h, _, _, _ => by simp at h
  | none :: m, y, i + 1, j + 1, b, c, x, hn, h, h', e, e', hr => by
    have := nodup_inj (m := m) (y := y + 1) (i := i) (j := j) (x := x) hn (by simpa using h) (by simpa using h') (by rw [show y + 1 + i = y + (i + 1) by omega]; exact e) (by rw [show y + 1 + j = y + (j + 1) by omega]; exact e') hr
    omega
  | some d :: m, y, 0, 0, b, c, x, _, _, _, _, _, _ => rfl
  | some d :: m, y, 0, j + 1, b, c, x, hn, h, h', e, e', hr => by
    rw [Nat.add_zero] at e
    unfold usedOf at hn
    rw [e] at hn
    simp only [ndB, Bool.and_eq_true] at hn
    have := usedOf_mem (m := m) (y := y + 1) (i := j) (x := x) (b := c) (by simpa using h') (by rw [show y + 1 + j = y + (j + 1) by omega]; exact e')
    obtain ⟨r1, r2⟩ := apart_spec hn.1 _ this
    simp at h
    subst h
    rcases hr with hr | hr
    · rw [hr] at r1; cases r1
    · rw [hr] at r2; cases r2
  | some d :: m, y, i + 1, 0, b, c, x, hn, h, h', e, e', hr => by
    rw [Nat.add_zero] at e'
    unfold usedOf at hn
    rw [e'] at hn
    simp only [ndB, Bool.and_eq_true] at hn
    have := usedOf_mem (m := m) (y := y + 1) (i := i) (x := x) (b := b) (by simpa using h) (by rw [show y + 1 + i = y + (i + 1) by omega]; exact e)
    obtain ⟨r1, r2⟩ := apart_spec hn.1 _ this
    simp at h'
    subst h'
    rcases hr with hr | hr
    · rw [hr] at r2; cases r2
    · rw [hr] at r1; cases r1
  | some d :: m, y, i + 1, j + 1, b, c, x, hn, h, h', e, e', hr => by
    have hn' : ndB (usedOf ρ (y + 1) m) = true := by
      unfold usedOf at hn
      split at hn
      · simp only [ndB, Bool.and_eq_true] at hn; exact hn.2
      · exact hn
    have := nodup_inj (m := m) (y := y + 1) (i := i) (j := j) (x := x) hn' (by simpa using h) (by simpa using h') (by rw [show y + 1 + i = y + (i + 1) by omega]; exact e) (by rw [show y + 1 + j = y + (j + 1) by omega]; exact e') hr
    omega
end

/-- the second's names, and what they stand for: the state, so named, is so -/
theorem Sat.ren {β : Nm} {ρ : Rn} {m τ : Mem} {w : World} (h : Sat β m w) (hl : ∀ y x, ρ y = some x → y < τ.length) (hn : ndB (usedOf ρ 0 τ) = true) (hm : mLe ρ m 0 τ) : Sat (β.by ρ) τ w := by
  have key : ∀ {x : Nat} {b : Blk}, τ[x]? = some (some b) → b.dead ∨ ∃ z c, ρ x = some z ∧ m[z]? = some (some c) ∧ ¬ c.dead ∧ (b.rw → c.rw) ∧ ∃ a, β z = some a ∧ HasB (β.by ρ) b w.heap[a]? := by
    intro x b hb
    have := mLe_get hm hb
    rw [Nat.zero_add] at this
    exact bLe_has h this
  refine ⟨fun x b hb => ?_, ?_, fun x a hx => ?_, h.gl, ?_⟩
  · rcases key hb with hd | ⟨z, c, hz, _, _, _, a, ha, hB⟩
    · exact .inl hd
    · exact .inr ⟨a, by_some hz ha, hB⟩
  · rintro x y a ⟨b, hb, hbr⟩ ⟨c, hc, hcd⟩ hx hy
    obtain ⟨z, b', hz, hb', hbd', hrw, a1, ha1, _⟩ := (key hb).resolve_left hbr.alive
    obtain ⟨z2, c', hz2, hc', hcd', _, a2, ha2, _⟩ := (key hc).resolve_left hcd
    have e1 := by_some (β := β) hz ha1
    have e2 := by_some (β := β) hz2 ha2
    rw [hx] at e1; cases e1
    rw [hy] at e2; cases e2
    have := h.inj z z2 a ⟨b', hb', hrw hbr⟩ ⟨c', hc', hcd'⟩ ha1 ha2
    subst this
    exact nodup_inj (y := 0) hn hb hc (by rw [Nat.zero_add]; exact hz) (by rw [Nat.zero_add]; exact hz2) (.inl (rw_ro hbr))
  · simp only [Nm.by, Option.bind_eq_some_iff] at hx
    obtain ⟨z, hz, _⟩ := hx
    exact hl x z hz
  · rintro x a ⟨b, hb, hbr⟩ hx
    obtain ⟨z, b', hz, hb', hbd', hrw, a1, ha1, _⟩ := (key hb).resolve_left hbr.alive
    have e1 := by_some (β := β) hz ha1
    rw [hx] at e1; cases e1
    exact h.ng z a ⟨b', hb', hrw hbr⟩ ha1

/-- .. under names of its own beyond the first k -/
theorem Since.ren {m0 m τ : Mem} {β0 β : Nm} {ρ : Rn} {w0 w : World} (hs0 : Sat β0 m0 w0) (hs : Sat β m w) (h : Since m0 β0 w0 m β w) (hid : ∀ y, y < m0.length → ρ y = some y) (hl : m0.length ≤ τ.length) (hm : mLe ρ m 0 τ) : Since m0 β0 w0 τ (β.by ρ) w := by
  have key : ∀ {q : Bool} {x : Nat}, kq q τ x → ∃ z, ρ x = some z ∧ kq q m z ∧ ∃ a, β z = some a := by
    rintro q x ⟨b, hb, hr⟩
    have := mLe_get hm hb
    rw [Nat.zero_add] at this
    obtain ⟨z, c, hz, hc, hcd, hrw, a, ha, _⟩ := (bLe_has hs this).resolve_left hr.alive
    refine ⟨z, hz, ⟨c, hc, ?_⟩, a, ha⟩
    cases q with
    | true => exact hrw hr
    | false => exact hcd
  refine ⟨?_, fun y hy => by simp only [Nm.by, hid y hy, Option.bind_some]; exact h.same y hy, hl, ?_, ?_, h.os, h.tape, h.output, h.size, h.frame⟩
  · intro y b hb
    exact by_some (hid y (hs0.dom y b hb)) (h.ext y b hb)
  · intro q x hx hk
    obtain ⟨z, hz, hkz, a, ha⟩ := key hk
    refine ⟨a, by_some hz ha, ?_⟩
    rcases Nat.lt_or_ge z m0.length with hlt | hge
    · have k0 := h.sub q z hlt hkz
      obtain ⟨a0, ha0, _⟩ := hs0.of_kn k0.kn
      have := h.ext _ _ ha0
      rw [ha] at this; cases this
      exact .inr ⟨z, k0, ha0⟩
    · obtain ⟨a', ha', hor⟩ := h.new q z hge hkz
      rw [ha] at ha'; cases ha'
      exact hor
  · intro q x hx hk
    obtain ⟨z, hz, hkz, _⟩ := key hk
    rw [hid x hx] at hz; cases hz
    exact h.sub q x hx hkz

theorem rnm_lt {k : Nat} {rn : List Nat} {y x : Nat} (h : rnm k rn y = some x) : y < k + rn.length := by
  unfold rnm at h
  split at h
  · rename_i e; rw [Nat.blt_eq] at e; omega
  · have := (List.getElem?_eq_some_iff.1 h).1; omega
theorem rnm_id {k : Nat} {rn : List Nat} {y : Nat} (h : y < k) : rnm k rn y = some y := by
  unfold rnm
  rw [show Nat.blt y k = true by rw [Nat.blt_eq]; exact h]

/-- THE LAW OF RENAMING -/
theorem stLe_spec {k : Nat} {σ τ : St} (h : stLe k σ τ) : ∃ ρ : Rn, (∀ y, y < k → ρ y = some y) ∧ (∀ y x, ρ y = some x → y < τ.m.length) ∧ k ≤ τ.m.length ∧ ndB (usedOf ρ 0 τ.m) = true ∧ tmLe ρ σ.tm τ.tm ∧ mLe ρ σ.m 0 τ.m := by
  unfold stLe stLe' at h
  obtain ⟨h1, h2, h3⟩ := ifB_spec h
  rw [Bool.and_eq_true] at h1
  have hl := Nat.eq_of_beq_eq_true h1.1
  exact ⟨_, fun y hy => rnm_id hy, fun y x hx => by have := rnm_lt hx; omega, by omega, h1.2, h2, h3⟩

theorem Fit.le {bs : Nat} {k : Nat} {m0 : Mem} {β0 β : Nm} {w0 w : World} {σ τ : St} {a : Act} (hk : m0.length = k) (hs0 : Sat β0 m0 w0) (h : Fit bs σ β a w) (hsi : Since m0 β0 w0 σ.m β w) (hle : stLe k σ τ) :
    ∃ γ, Fit bs τ γ a w ∧ Since m0 β0 w0 τ.m γ w := by
  obtain ⟨ρ, h1, h2, h3, h4, h5, h6⟩ := stLe_spec hle
  subst hk
  exact ⟨β.by ρ, ⟨tmLe_has h5 h.tm, h.sat.ren h2 h4 h6, h.df⟩, Since.ren hs0 h.sat hsi h1 h3 h6⟩

theorem exists_least {p : Nat → Prop} (h : ∃ n, p n) : ∃ n, p n ∧ ∀ m, m < n → ¬ p m := by
  obtain ⟨n, hn⟩ := h
  induction n using Nat.strongRecOn with
  | _ n ih =>
    by_cases e : ∃ m, m < n ∧ p m
    · obtain ⟨m, hm, hp⟩ := e; exact ih m hm hp
    · exact ⟨n, hn, fun m hm hp => e ⟨m, hm, hp⟩⟩
open Classical in
noncomputable def least (p : Nat → Prop) : Nat := if h : ∃ n, p n then Classical.choose (exists_least h) else 0
theorem least_spec {p : Nat → Prop} {n : Nat} (h : p n) : p (least p) ∧ least p ≤ n := by
  have hx : ∃ n, p n := ⟨n, h⟩
  have e : least p = Classical.choose (exists_least hx) := by unfold least; rw [dif_pos hx]
  have sp := Classical.choose_spec (exists_least hx)
  rw [← e] at sp
  refine ⟨sp.1, ?_⟩
  rcases Nat.lt_or_ge n (least p) with hl | hl
  · exact absurd h (sp.2 n hl)
  · exact hl

theorem wp_loop_s {F : Fence} {n : Nat} {P : Program} {c : Code} {Q : Exit → Act → World → Prop} {S : Type} (R : S → Act → World → Prop) (mu : S → Nat) {s : S} {a : Act} {w : World} (h0 : R s a w)
    (round : ∀ s a w, R s a w → c.wpIn F n P (Exit.then (fun a' w' => ∃ s', R s' a' w' ∧ mu s' < mu s) Q) a w) : (Code.loop c).wpIn F n P Q a w := by
  refine wpIn_loop (fun a w => ∃ s, R s a w) (fun a w => least fun n => ∃ s, R s a w ∧ mu s = n) ⟨s, h0⟩ ?_
  rintro a w ⟨s, hs⟩
  obtain ⟨⟨s1, h1, e1⟩, _⟩ := least_spec (p := fun n => ∃ s, R s a w ∧ mu s = n) ⟨s, hs, rfl⟩
  refine wpIn_mono (round s1 a w h1) ?_
  intro e a' w' hq
  cases e with
  | normal =>
    obtain ⟨s', h', hl⟩ := hq
    refine ⟨⟨s', h'⟩, ?_⟩
    have := (least_spec (p := fun n => ∃ s, R s a' w' ∧ mu s = n) ⟨s', h', rfl⟩).2
    show least _ < least _
    omega
  | _ => exact hq

end Go.Proofs.Ytceffompldihjaa.Rex
