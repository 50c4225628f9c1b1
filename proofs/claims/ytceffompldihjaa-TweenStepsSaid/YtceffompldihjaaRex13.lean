/- A WALK BY COMPUTATION, part 13: code; functions. Conditions: none. Own work. -/
import Derived.Test.YtceffompldihjaaRexY
namespace Go.Proofs.Ytceffompldihjaa.Rex
open Go.RowKit
set_option linter.unusedVariables false
set_option linter.unusedSimpArgs false

/-- a test's outcome is known behind it -/
def St.know (σ : St) (c : Operand) (b : Bool) : St := match c with
  | .tmp d => ⟨σ.tm.set d (lb true b), σ.m⟩
  | _ => σ
theorem Fit.know' {bs : Nat} {σ : St} {β : Nm} {a : Act} {w : World} (hf : Fit bs σ β a w) {c : Operand} {b : Bool} (h : a.eval c = .bool b) : Fit bs (σ.know c b) β a w := by
  unfold St.know
  split
  · rename_i d
    refine hf.know ?_
    have h' : a.tmps.getD d undef = .bool b := h
    cases hq : a.tmps[d]? with
    | none => simp [hq, undef] at h'
    | some v => simp [hq] at h'; rw [h']
  · exact hf
theorem St.know_m (σ : St) (c : Operand) (b : Bool) : (σ.know c b).m = σ.m := by
  unfold St.know; split <;> rfl

def allN (p : Nat → Prop) : Nat → Prop
  | 0 => p 0
  | n + 1 => allN p n ∧ p (n + 1)
theorem allN_spec {p : Nat → Prop} : ∀ {n i : Nat}, allN p n → i ≤ n → p i
  | 0, i, h, hi => by
    obtain rfl : i = 0 := by omega
    exact h
  | n + 1, i, h, hi => by
    by_cases e : i = n + 1
    · subst e; exact h.2
    · exact allN_spec h.1 (by omega)
/-- behind a loop over a function: what its rounds have left to do -/
def rfK (σ : St) (K : XE → St → Prop) (e : XE) (σI : St) : Prop := match e with
  | .exit _ => False
  | _ => match σI.m[σ.m.length]? with
    | some (some (.loop _ j)) => match j with
      | 0 => K .normal ⟨σ.tm, σI.m.set σ.m.length none⟩
      | 1 => False
      | 2 => K .ret ⟨σ.tm, σI.m.set σ.m.length none⟩
      | n + 3 => K (.exit n) ⟨σ.tm, σI.m.set σ.m.length none⟩
    | _ => False
/-- where a loop over a function begins: which function, its body, the slots, the values that it has captured -/
def rfQ (C : Ctx) (σ : St) (g : Operand) : Option (FuncId × Code × Nat × List Lf) := match C.rd with
  | true => none
  | false => match C.Y with
    | some _ => none
    | none => match ev σ.tm g with
      | some (.clo f caps) => match C.P.funcs[f]? with
        | some fn => match fn.name == "runtime.NumGoroutine" with
          | true => none
          | false => match fn.body with
            | some c => match fn.results.toList with
              | [] => some (f, c, fn.ntmps, caps)
              | _ => none
            | none => none
        | none => none
      | _ => none
theorem rfQ_spec {C : Ctx} {σ : St} {g : Operand} {f : FuncId} {c : Code} {nt : Nat} {caps : List Lf} (h : rfQ C σ g = some (f, c, nt, caps)) :
    ∃ fn, C.rd = false ∧ C.Y = none ∧ ev σ.tm g = some (.clo f caps) ∧ C.P.funcs[f]? = some fn ∧ (fn.name == "runtime.NumGoroutine") = false ∧ fn.body = some c ∧ fn.results = #[] ∧ nt = fn.ntmps := by
  unfold rfQ at h
  split at h
  · cases h
  · rename_i h1
    split at h
    · cases h
    · rename_i h2
      split at h
      · rename_i f' caps' h3
        split at h
        · rename_i fn h4
          split at h
          · cases h
          · rename_i h5
            split at h
            · rename_i c' h6
              split at h
              · rename_i h7
                cases h
                exact ⟨fn, h1, h2, h3, h4, h5, h6, by rw [← Array.toArray_toList (xs := fn.results), h7], rfl⟩
              · cases h
            · cases h
        · cases h
      · cases h
theorem Marks.lt {bs : Nat} {w : World} : ∀ {ds : List Deferred}, Marks bs w ds → ∀ d ∈ ds, ∃ D, d = { target := .collected D, args := #[] } ∧ D < w.heap.size
  | [], _, d, hd => by simp at hd
  | e :: ds, ⟨⟨D, h1, h2, h3, h4⟩, k⟩, d, hd => by
    rcases List.mem_cons.1 hd with rfl | hd
    · exact ⟨D, h1, (Array.getElem?_eq_some_iff.1 h3).1⟩
    · exact Marks.lt k d hd
theorem yok_none {C : Ctx} (h : C.Y = none) (β : Nm) : YOk C β := fun y hy => by rw [h] at hy; cases hy
def rfI (l n : Nat) (caps : List Lf) : List SV := (.v (.one (.op (.func (.yield l) #[] #[]))) :: caps.map fun x => .v (.one x)) ++ List.replicate (n - (1 + caps.length)) (.tup [])
/-- within a function that is ranged over a loop's state says nothing of yield and of the record: they are what they were -/
def fixT : List SV → List SV → List SV
  | .v (.one (.op v)) :: l, t :: m => .v (.one (.op v)) :: fixT l m
  | _ :: l, t :: m => t :: fixT l m
  | _, m => m
def fixM : Mem → Mem → Mem
  | some (.loop r j) :: l, t :: m => some (.loop r j) :: fixM l m
  | _ :: l, t :: m => t :: fixM l m
  | _, m => m
def fixS (C : Ctx) (σ τ : St) : St := match C.Y with
  | none => τ
  | some _ => ⟨fixT σ.tm τ.tm, fixM σ.m τ.m⟩
/-- functions that are walked in place: by X -/
def inQ (C : Ctx) (f : FuncId) : Option (Code × List ResultVar × Nat) := match notIn f C.N with
  | true => none
  | false => match C.P.funcs[f]? with
    | some fn => match fn.name == "runtime.NumGoroutine" with
      | true => none
      | false => match fn.body with
        | some c => some (c, fn.results.toList, fn.ntmps)
        | none => none
    | none => none
theorem inQ_spec {C : Ctx} {f : FuncId} {c : Code} {rs : List ResultVar} {nt : Nat} (h : inQ C f = some (c, rs, nt)) : ∃ fn, C.P.funcs[f]? = some fn ∧ (fn.name == "runtime.NumGoroutine") = false ∧ fn.body = some c ∧ rs = fn.results.toList ∧ nt = fn.ntmps := by
  unfold inQ at h
  split at h
  · cases h
  · split at h
    · rename_i fn h4
      split at h
      · cases h
      · rename_i h5
        split at h
        · rename_i c' h6
          cases h
          exact ⟨fn, h4, h5, h6, rfl, rfl⟩
        · cases h
    · cases h
def inC (C : Ctx) (X : FuncId → Code → List ResultVar → Nat → List SV → Mem → (SV → Mem → Prop) → Prop) : Ctx := ⟨C.M, C.P, C.Γ, C.Δ, C.B, C.Y, C.rd, C.N, match C.N with
  | [] => none
  | _ => some fun f us m K => match inQ C f with
    | some (c, rs, nt) => X f c rs nt us m K
    | none => False⟩
/-- the region at which code begins -/
def headId : Code → Option Nat
  | .region id _ _ => some id
  | .seq x _ => headId x
  | .scope x => headId x
  | .block _ x => headId x
  | .loop x => headId x
  | _ => none
/-- a cut: the state in which code begins at the region r, where L (500000 + r) tells it -/
def cutQ (L : Nat → Option LS) (y : Code) : Option LS := match headId y with
  | some r => L (500000 + r)
  | none => none
/-- the statements ahead of the first cut -/
def splitC (L : Nat → Option LS) : Code → Option (List Code × Code × LS)
  | .seq a b => match cutQ L (.seq a b) with
    | some l => some ([], .seq a b, l)
    | none => match splitC L b with
      | some (ps, y, l) => some (a :: ps, y, l)
      | none => none
  | c => match cutQ L c with
    | some l => some ([], c, l)
    | none => none
def mkSeq : List Code → Code → Code
  | [], y => y
  | p :: ps, y => .seq p (mkSeq ps y)
theorem splitC_spec {L : Nat → Option LS} : ∀ {c : Code} {ps : List Code} {y : Code} {l : LS}, splitC L c = some (ps, y, l) → c = mkSeq ps y := by
  intro c
  induction c with
  | seq a b _ ih =>
    intro ps y l h
    unfold splitC at h
    split at h
    · cases h; rfl
    · split at h
      · rename_i h2
        cases h
        rw [ih h2]; rfl
      · cases h
  | _ =>
    intro ps y l h
    unfold splitC at h
    split at h
    · cases h; rfl
    · cases h
def seqK (X : Code → St → (XE → St → Prop) → Prop) : List Code → St → (XE → St → Prop) → Prop
  | [], σ, K => K .normal σ
  | c :: cs, σ, K => X c σ fun e σ' => match e with
    | .normal => seqK X cs σ' K
    | e => K e σ'
/-- the blocks that a statement's operations leave as they are: those at which the told state points -/
def hsL : List SV → List Nat
  | [] => []
  | .v (.one (.ptr x _)) :: l => x :: hsL l
  | _ :: l => hsL l
def hsOf (σ : St) : List Nat := hsL σ.tm
/-! ### a state laid out: the same, with all that it is made of computed -/
def fcN (n : Nat) (K : Nat → Prop) : Prop := match n with
  | 0 => K 0
  | m + 1 => K (m + 1)
theorem fcN_eq (n : Nat) (K : Nat → Prop) : fcN n K = K n := by cases n <;> rfl
def fcB (n : Bool) (K : Bool → Prop) : Prop := match n with
  | true => K true
  | false => K false
theorem fcB_eq (n : Bool) (K : Bool → Prop) : fcB n K = K n := by cases n <;> rfl
def fcF (x : Lf) (K : Lf → Prop) : Prop := match x with
  | .int k kn n => fcB kn fun kn => K (.int k kn n)
  | .bool kn b => fcB kn fun kn => K (.bool kn b)
  | .ptr x o => fcN x fun x => K (.ptr x o)
  | .nilp => K .nilp
  | .sl x o kn n c => fcN x fun x => K (.sl x o kn n c)
  | .nils => K .nils
  | .op v => K (.op v)
  | .junk => K .junk
  | .rs z tg x base sz o n c => fcN x fun x => K (.rs z tg x base sz o n c)
  | .rp x base sz i f => fcN x fun x => K (.rp x base sz i f)
theorem fcF_eq (x : Lf) (K : Lf → Prop) : fcF x K = K x := by cases x <;> simp only [fcF, fcB_eq, fcN_eq]
def fcL : List Lf → (List Lf → Prop) → Prop
  | [], K => K []
  | x :: l, K => fcF x fun x => fcL l fun l => K (x :: l)
theorem fcL_eq : ∀ (l : List Lf) (K : List Lf → Prop), fcL l K = K l
  | [], K => rfl
  | x :: l, K => by unfold fcL; rw [fcF_eq, fcL_eq l]
def fcV (x : Vv) (K : Vv → Prop) : Prop := match x with
  | .one l => fcF l fun l => K (.one l)
  | .agg l => fcL l fun l => K (.agg l)
theorem fcV_eq (x : Vv) (K : Vv → Prop) : fcV x K = K x := by cases x <;> simp only [fcV, fcF_eq, fcL_eq]
def fcVs : List Vv → (List Vv → Prop) → Prop
  | [], K => K []
  | x :: l, K => fcV x fun x => fcVs l fun l => K (x :: l)
theorem fcVs_eq : ∀ (l : List Vv) (K : List Vv → Prop), fcVs l K = K l
  | [], K => rfl
  | x :: l, K => by unfold fcVs; rw [fcV_eq, fcVs_eq l]
def fcSV (x : SV) (K : SV → Prop) : Prop := match x with
  | .v l => fcV l fun l => K (.v l)
  | .tup l => fcVs l fun l => K (.tup l)
  | .clo f l => fcL l fun l => K (.clo f l)
  | .junk => K .junk
theorem fcSV_eq (x : SV) (K : SV → Prop) : fcSV x K = K x := by cases x <;> simp only [fcSV, fcV_eq, fcVs_eq, fcL_eq]
def fcT : List SV → (List SV → Prop) → Prop
  | [], K => K []
  | x :: l, K => fcSV x fun x => fcT l fun l => K (x :: l)
theorem fcT_eq : ∀ (l : List SV) (K : List SV → Prop), fcT l K = K l
  | [], K => rfl
  | x :: l, K => by unfold fcT; rw [fcSV_eq, fcT_eq l]
def fcK (x : Option Blk) (K : Option Blk → Prop) : Prop := match x with
  | none => K none
  | some b => match b with
    | .cells l t => fcL l fun l => K (some (.cells l t))
    | .rows ro z sh xs base tot t => fcB ro fun ro => K (some (.rows ro z sh xs base tot t))
    | .loop r j => fcN j fun j => K (some (.loop r j))
theorem fcK_eq (x : Option Blk) (K : Option Blk → Prop) : fcK x K = K x := by
  cases x with
  | none => rfl
  | some b => cases b <;> simp only [fcK, fcL_eq, fcB_eq, fcN_eq]
def fcM : Mem → (Mem → Prop) → Prop
  | [], K => K []
  | x :: l, K => fcK x fun x => fcM l fun l => K (x :: l)
theorem fcM_eq : ∀ (l : Mem) (K : Mem → Prop), fcM l K = K l
  | [], K => rfl
  | x :: l, K => by unfold fcM; rw [fcK_eq, fcM_eq l]
def fcS (σ : St) (K : St → Prop) : Prop := fcT σ.tm fun tm => fcM σ.m fun m => K ⟨tm, m⟩
theorem fcS_eq (σ : St) (K : St → Prop) : fcS σ K = K σ := by unfold fcS; rw [fcT_eq, fcM_eq]

/-! ### what is known of a slot ahead of a region: L (600000 + region) tells which slots have few cases -/
theorem Fit.knowI {bs : Nat} {σ : St} {β : Nm} {a : Act} {w : World} (hf : Fit bs σ β a w) {d : Nat} {k : IntKind} {b : Bool} {x : Int} (h : σ.tm[d]? = some (.v (.one (.int k b x)))) : Fit bs ⟨σ.tm.set d (.v (.one (.int k true x))), σ.m⟩ β a w := by
  have hv := ev_has (x := .tmp d) (s := .v (.one (.int k b x))) hf.tm (by simp [ev, h])
  have hb : a.eval (.tmp d) = .int k x := by
    cases hv with
    | v hv => cases hv with
      | one hv => generalize a.eval (.tmp d) = q at hv ⊢; cases hv; rfl
  have h' : a.tmps.getD d undef = .int k x := hb
  have h2 : a.tmps[d]? = some (.int k x) := by
    cases hq : a.tmps[d]? with
    | none => simp [hq, undef] at h'
    | some v => simp [hq] at h'; rw [h']
  refine ⟨?_, hf.sat, hf.df⟩
  have := hf.tm.set (a := .v (.one (.int k true x))) (b := Value.int k x) (.v (.one .int)) d
  have e : a.tmps.toList.set d (.int k x) = a.tmps.toList := by
    apply List.ext_getElem?
    intro y
    rw [List.getElem?_set]
    split
    · rename_i e1; subst e1
      split
      · simpa using h2.symm
      · rename_i hlt
        simp at hlt
        rw [Array.getElem?_eq_none hlt] at h2
        cases h2
    · rfl
  rw [e] at this
  exact this
def knG : List SV → Nat → St → (St → Prop) → Prop
  | [], _, σ, K => K σ
  | .v (.one (.ptr n _)) :: l, j, σ, K => match σ.tm[j]? with
    | some (.v (.one (.int k false x))) => (0 ≤ x ∧ x < (n : Int)) ∧ allJ (fun i => x = (i : Int) → knG l (j + 1) ⟨σ.tm.set j (.v (.one (.int k true (i : Int)))), σ.m⟩ K) n
    | _ => knG l (j + 1) σ K
  | _ :: l, j, σ, K => knG l (j + 1) σ K
theorem knG_spec {bs : Nat} {β : Nm} {a : Act} {w : World} {K : St → Prop} : ∀ (l : List SV) (j : Nat) (σ : St), knG l j σ K → Fit bs σ β a w → ∃ tm', Fit bs ⟨tm', σ.m⟩ β a w ∧ K ⟨tm', σ.m⟩ := by
  intro l j σ h hf
  fun_induction knG l j σ K with
  | case1 j σ => exact ⟨σ.tm, hf, h⟩
  | case2 j σ K n o l k x hq ih =>
    obtain ⟨⟨h0, h1⟩, h2⟩ := h
    obtain ⟨i, rfl⟩ := Int.eq_ofNat_of_zero_le h0
    exact ih i (allJ_spec h2 (by omega) rfl) (hf.knowI hq)
  | case3 => rename_i ih; exact ih h hf
  | case4 => rename_i ih; exact ih h hf
def knQ (L : Nat → Option LS) (rid : Nat) (σ : St) (K : St → Prop) : Prop := match L (600000 + rid) with
  | none => K σ
  | some l => knG (l.st l.init).tm 0 σ K
theorem knQ_spec {bs : Nat} {β : Nm} {a : Act} {w : World} {K : St → Prop} {L : Nat → Option LS} {rid : Nat} {σ : St} (h : knQ L rid σ K) (hf : Fit bs σ β a w) : ∃ tm', Fit bs ⟨tm', σ.m⟩ β a w ∧ K ⟨tm', σ.m⟩ := by
  unfold knQ at h
  split at h
  · exact ⟨σ.tm, hf, h⟩
  · exact knG_spec _ _ _ h hf

/-- WHAT IS TO BE SHOWN OF CODE: each way ends where K holds. L: the loops' states, by the block that the loop stands in. -/
def xc (C : Ctx) (L : Nat → Option LS) (k : Nat) : Nat → Nat → Code → St → (XE → St → Prop) → Prop
  | 0, _, _, _, _ => False
  | n + 1, bk, c, σ, K => match c with
    | .skip => K .normal σ
    | .label _ => K .normal σ
    | .ret => K .ret σ
    | .exit id => K (.exit id) σ
    | .seq x y => match splitC L y with
      | none => xc C L k n bk x σ fun e σ' => match e with
        | .normal => xc C L k n bk y σ' K
        | e => K e σ'
      | some (ps, y2, l) => (seqK (xc C L k n bk) (x :: ps) σ fun e σ' => match e with
        | .normal => fcS σ' fun σ' => ∃ s, stLe k σ' (fixS C σ (l.st s)) ∧ okT l σ s
        | e => K e σ') ∧ ∀ s, okT l σ s → xc C L k n bk y2 (fixS C σ (l.st s)) K
    | .cond c x y => match ev σ.tm c with
      | some (.v (.one (.bool kn t))) => match kn with
        | true => match t with
          | true => xc C L k n bk x σ K
          | false => xc C L k n bk y σ K
        | false => fcS σ fun σ => (t = true → xc C L k n bk x (σ.know c true) K) ∧ (t = false → xc C L k n bk y (σ.know c false) K)
      | _ => False
    | .block id body => xc C L k n id body σ fun e σ' => match e with
      | .exit j => match Nat.beq j id with
        | true => K .normal σ'
        | false => K (.exit j) σ'
      | e => K e σ'
    | .scope body => xc C L k n bk body σ K
    | .region rid ops draw => knQ L rid σ fun σ => match draw with
      | false => xOps (inC C (fun f c rs nt us m K' => xc ⟨C.M, C.P, C.Γ, C.Δ, C.B, none, false, C.N, none⟩ (fun b => L (1000000 * (f + 1) + b)) m.length n 0 c ⟨us ++ List.replicate (nt - us.length) (.tup []), m⟩ (fnK C.P rs K'))) ops.toList ops.toList σ (K .normal)
      | true => match L (700000 + rid) with
        | none => xDraw (inC C (fun f c rs nt us m K' => xc ⟨C.M, C.P, C.Γ, C.Δ, C.B, none, false, C.N, none⟩ (fun b => L (1000000 * (f + 1) + b)) m.length n 0 c ⟨us ++ List.replicate (nt - us.length) (.tup []), m⟩ (fnK C.P rs K'))) ops.toList σ (K .normal) 60 []
        | some lh => match !C.rd && Region.noSelect ops with
          | false => False
          | true => xEnum (inC C (fun f c rs nt us m K' => xc ⟨C.M, C.P, C.Γ, C.Δ, C.B, none, false, C.N, none⟩ (fun b => L (1000000 * (f + 1) + b)) m.length n 0 c ⟨us ++ List.replicate (nt - us.length) (.tup []), m⟩ (fnK C.P rs K'))) σ.m (hsOf (lh.st lh.init)) ops.toList (K .normal) (ops.toList.length + 1) (Array.replicate ops.toList.length false) σ
    | .loop body => match L bk with
      | none => xc C L k n bk body σ fun e σ' => match e with
        | .normal => xc C L k n bk (.loop body) σ' K
        | e => K e σ'
      | some l => match l.fin with
        | none => (match l.ex with
          | false => stLe k σ (fixS C σ (l.st l.init)) ∧ okT l σ l.init
          | true => fcS σ fun σ' => ∃ s, stLe k σ' (fixS C σ' (l.st s)) ∧ okT l σ' s) ∧ ∀ s, okT l σ s → xc C L k n bk body (fixS C σ (l.st s)) fun e σ' => match e with
          | .normal => fcS σ' fun σ' => ∃ s', (stLe k σ' (fixS C σ (l.st s')) ∧ okT l σ s') ∧ l.mu s' < l.mu s
          | e => K e σ'
        | some (m, g) => (stLe k σ (fixS C σ (g 0)) ∧ l.inv 0) ∧ allN (fun i => l.inv i → xc C L k n bk body (fixS C σ (g i)) fun e σ' => match e with
          | .normal => ifB (Nat.ble (i + 1) m) (stLe k σ' (fixS C σ (g (i + 1))) ∧ l.inv (i + 1))
          | e => K e σ') m
    | .rangeFunc g ps assign body => match rfQ C σ g with
      | some (f, cf, nt, caps) => ∀ (l : Nat) (r : Loop), xc ⟨C.M, C.P, C.Γ, C.Δ, C.B, some (yH σ.tm ps.toList σ.m.length l r (fun σ' K' => xc ⟨C.M, C.P, C.Γ, C.Δ, C.B, none, true, C.N, none⟩ L σ'.m.length n bk assign σ' K') (fun σ' K' => xc ⟨C.M, C.P, C.Γ, C.Δ, C.B, none, true, C.N, none⟩ L σ'.m.length n bk body σ' K')), false, C.N, none⟩
          (fun b => L (1000 + b)) (σ.m.length + 1) n 0 cf ⟨rfI l nt caps, σ.m ++ [some (.loop r 0)]⟩ (rfK σ K)
      | none => False
    | _ => False

theorem seqK_sound {C : Ctx} {m0 : Mem} {β0 : Nm} {w0 : World} {F : Fence} {d bs k : Nat} {L : Nat → Option LS} {n bk : Nat} {y2 : Code}
    (hx : ∀ (c : Code) (σ : St) (K : XE → St → Prop) (β : Nm) (a : Act) (w : World), xc C L k n bk c σ K → Fit bs σ β a w → Since m0 β0 w0 σ.m β w →
      ∀ Q : Exit → Act → World → Prop, (∀ e a' w', Ends bs C m0 β0 w0 (K e) a' w' → Q (toX e) a' w') → c.wpIn F d C.P Q a w) :
    ∀ (ps : List Code) (x : Code) (σ : St) (β : Nm) (a : Act) (w : World) (K : XE → St → Prop), seqK (xc C L k n bk) (x :: ps) σ K → Fit bs σ β a w → Since m0 β0 w0 σ.m β w →
      ∀ Q : Exit → Act → World → Prop, (∀ (σ' : St) (β' : Nm) (a' : Act) (w' : World), Fit bs σ' β' a' w' → Since m0 β0 w0 σ'.m β' w' → K .normal σ' → y2.wpIn F d C.P Q a' w') →
      (∀ e, e ≠ .normal → ∀ a' w', Ends bs C m0 β0 w0 (K e) a' w' → Q (toX e) a' w') → (Code.seq x (mkSeq ps y2)).wpIn F d C.P Q a w
  | [], x, σ, β, a, w, K, h, hf, hsi, Q, hN, hE => by
    refine wpIn_seq (hx x σ _ β a w h hf hsi _ ?_)
    rintro e a' w' ⟨σ', β', hf', hs, hk⟩
    cases e with
    | normal => exact hN σ' β' a' w' hf' hs hk
    | exit id => exact hE (.exit id) (by simp) a' w' ⟨σ', β', hf', hs, hk⟩
    | ret => exact hE .ret (by simp) a' w' ⟨σ', β', hf', hs, hk⟩
  | p :: ps, x, σ, β, a, w, K, h, hf, hsi, Q, hN, hE => by
    refine wpIn_seq (hx x σ _ β a w h hf hsi _ ?_)
    rintro e a' w' ⟨σ', β', hf', hs, hk⟩
    cases e with
    | normal => exact seqK_sound hx ps p σ' β' a' w' K hk hf' hs Q hN hE
    | exit id => exact hE (.exit id) (by simp) a' w' ⟨σ', β', hf', hs, hk⟩
    | ret => exact hE .ret (by simp) a' w' ⟨σ', β', hf', hs, hk⟩

mutual
theorem xl_sound : ∀ (n : Nat) {C : Ctx} (hC : C.Ok) {m0 : Mem} {β0 : Nm} {w0 : World} {F : Fence} {d bs : Nat} {L : Nat → Option LS} (hs0 : Sat β0 m0 w0) (hbs : bs ≤ w0.heap.size) (hF : Wd F) (hrd : C.rd = false → F.round = none) (hY : YOk C β0) (bk : Nat) (c : Code) (σ : St) (K : XE → St → Prop) (β : Nm) (a : Act) (w : World), L bk = none → xc C L m0.length n bk (.loop c) σ K → Fit bs σ β a w → Since m0 β0 w0 σ.m β w →
    ∀ Q : Exit → Act → World → Prop, (∀ e a' w', Ends bs C m0 β0 w0 (K e) a' w' → Q (toX e) a' w') → Code.roundsIn F d C.P c Q n a w
  | 0, _, _, _, _, _, _, _, _, _, _, _, _, _, _, _, _, _, _, _, _, _, _, h, _, _, _, _ => h.elim
  | n + 1, C, hC, m0, β0, w0, F, d, bs, L, hs0, hbs, hF, hrd, hY, bk, body, σ, K, β, a, w, hn, h, hf, hsi, Q, hQ => by
    unfold xc at h
    simp only [hn] at h
    rw [roundsIn_succ]
    refine xc_sound n hC hs0 hbs hF hrd hY bk body σ _ β a w h hf hsi _ ?_
    rintro e a' w' ⟨σ', β', hf', hs, hk⟩
    cases e with
    | normal => exact xl_sound n hC hs0 hbs hF hrd hY bk body σ' K β' a' w' hn hk hf' hs Q hQ
    | exit id => exact hQ (.exit id) a' w' ⟨σ', β', hf', hs, hk⟩
    | ret => exact hQ .ret a' w' ⟨σ', β', hf', hs, hk⟩
theorem xc_sound : ∀ (n : Nat) {C : Ctx} (hC : C.Ok) {m0 : Mem} {β0 : Nm} {w0 : World} {F : Fence} {d bs : Nat} {L : Nat → Option LS} (hs0 : Sat β0 m0 w0) (hbs : bs ≤ w0.heap.size) (hF : Wd F) (hrd : C.rd = false → F.round = none) (hY : YOk C β0) (bk : Nat) (c : Code) (σ : St) (K : XE → St → Prop) (β : Nm) (a : Act) (w : World), xc C L m0.length n bk c σ K → Fit bs σ β a w → Since m0 β0 w0 σ.m β w →
    ∀ Q : Exit → Act → World → Prop, (∀ e a' w', Ends bs C m0 β0 w0 (K e) a' w' → Q (toX e) a' w') → c.wpIn F d C.P Q a w
  | 0, _, _, _, _, _, _, _, _, _, _, _, _, _, _, _, _, _, _, _, _, _, h, _, _, _, _ => h.elim
  | n + 1, C, hC, m0, β0, w0, F, d, bs, L, hs0, hbs, hF, hrd, hY, bk, c, σ, K, β, a, w, h, hf, hsi, Q, hQ => by
    have here : ∀ e, K e σ → Q (toX e) a w := fun e hk => hQ e a w ⟨σ, β, hf, hsi, hk⟩
    have next : ∀ {K' : St → Prop} {a' : Act} {w' : World}, Ends bs C σ.m β w K' a' w' → Ends bs C m0 β0 w0 K' a' w' := by
      rintro K' a' w' ⟨σ2, β2, e1, e2, e3⟩
      exact ⟨σ2, β2, e1, Since.trans hs0 hsi e2, e3⟩
    unfold xc at h
    split at h
    case h_1 => exact wpIn_skip (here .normal h)
    case h_2 => exact wpIn_label (here .normal h)
    case h_3 => exact wpIn_ret (here .ret h)
    case h_4 id => exact wpIn_exit (here (.exit id) h)
    case h_5 x y =>
      split at h
      · refine wpIn_seq (xc_sound n hC hs0 hbs hF hrd hY bk x σ _ β a w h hf hsi _ ?_)
        rintro e a' w' ⟨σ', β', hf', hs, hk⟩
        cases e with
        | normal => exact xc_sound n hC hs0 hbs hF hrd hY bk y σ' K β' a' w' hk hf' hs Q hQ
        | exit id => exact hQ (.exit id) a' w' ⟨σ', β', hf', hs, hk⟩
        | ret => exact hQ .ret a' w' ⟨σ', β', hf', hs, hk⟩
      · rename_i ps y2 l hsp
        obtain ⟨h1, h2⟩ := h
        have hy := splitC_spec hsp
        subst hy
        clear hsp
        refine seqK_sound (C := C) (L := L) (m0 := m0) (k := m0.length) (fun c σ K β a w h hf hsi Q hQ => xc_sound n hC hs0 hbs hF hrd hY bk c σ K β a w h hf hsi Q hQ) ps x σ β a w _ h1 hf hsi Q ?_ ?_
        · rintro σ' β' a' w' hf' hs hk
          have hk : fcS σ' fun σ' => ∃ s, stLe m0.length σ' (fixS C σ (l.st s)) ∧ okT l σ s := hk
          rw [fcS_eq] at hk
          obtain ⟨s, k1, k2⟩ := hk
          obtain ⟨β2, hf2, hsi2⟩ := hf'.le rfl hs0 hs k1
          exact xc_sound n hC hs0 hbs hF hrd hY bk y2 (fixS C σ (l.st s)) K β2 a' w' (h2 s k2) hf2 hsi2 Q hQ
        · intro e he a' w' hk
          cases e with
          | normal => exact absurd rfl he
          | exit id => exact hQ (.exit id) a' w' hk
          | ret => exact hQ .ret a' w' hk
    case h_6 c x y =>
      split at h
      · rename_i kn t hc
        have hv := ev_has hf.tm hc
        have hb : a.eval c = .bool t := by
          cases hv with
          | v hv => cases hv with
            | one hv => generalize a.eval c = q at hv ⊢; cases hv; rfl
        split at h
        · split at h
          · exact wpIn_cond_true hb (xc_sound n hC hs0 hbs hF hrd hY bk x σ K β a w h hf hsi Q hQ)
          · exact wpIn_cond_false hb (xc_sound n hC hs0 hbs hF hrd hY bk y σ K β a w h hf hsi Q hQ)
        · rw [fcS_eq] at h
          exact wpIn_cond_split hb (fun e => xc_sound n hC hs0 hbs hF hrd hY bk x _ K β a w (h.1 e) (hf.know' (by rw [hb, e])) (by rw [St.know_m]; exact hsi) Q hQ) (fun e => xc_sound n hC hs0 hbs hF hrd hY bk y _ K β a w (h.2 e) (hf.know' (by rw [hb, e])) (by rw [St.know_m]; exact hsi) Q hQ)
      · exact h.elim
    case h_7 id body =>
      refine wpIn_block (xc_sound n hC hs0 hbs hF hrd hY id body σ _ β a w h hf hsi _ ?_)
      rintro e a' w' ⟨σ', β', hf', hs, hk⟩
      cases e with
      | normal => exact hQ .normal a' w' ⟨σ', β', hf', hs, hk⟩
      | exit j =>
        show (if j = id then Q .normal a' w' else Q (.exit j) a' w')
        simp only at hk
        split at hk
        · rename_i e
          rw [if_pos (Nat.eq_of_beq_eq_true e)]
          exact hQ .normal a' w' ⟨σ', β', hf', hs, hk⟩
        · rename_i e
          rw [if_neg (Nat.ne_of_beq_eq_false e)]
          exact hQ (.exit j) a' w' ⟨σ', β', hf', hs, hk⟩
      | ret => exact hQ .ret a' w' ⟨σ', β', hf', hs, hk⟩
    case h_8 body =>
      refine wpIn_scope_straight (xc_sound n hC hs0 hbs hF hrd hY bk body σ K β a w h hf hsi _ ?_)
      intro e a' w' he
      cases e <;> exact hQ _ a' w' he
    case h_9 rid ops draw =>
      have hCi : ∀ (X : FuncId → Code → List ResultVar → Nat → List SV → Mem → (SV → Mem → Prop) → Prop), (∀ f c rs nt us m K', X f c rs nt us m K' → xc ⟨C.M, C.P, C.Γ, C.Δ, C.B, none, false, C.N, none⟩ (fun b => L (1000000 * (f + 1) + b)) m.length n 0 c ⟨us ++ List.replicate (nt - us.length) (.tup []), m⟩ (fnK C.P rs K')) → Ctx.Ok (inC C X) := by
        intro X hX
        refine ⟨hC.Γ, hC.Δ, hC.B, hC.mixed, fun h' he => ?_⟩
        have he' : (match C.N with
          | [] => none
          | _ => some fun f us m K => match inQ C f with
            | some (c, rs, nt) => X f c rs nt us m K
            | none => False) = some h' := he
        split at he'
        · cases he'
        · cases he'
          intro f us m K' hk
          split at hk
          · rename_i c rs nt hq
            obtain ⟨fn, h1, h2, h3, rfl, rfl⟩ := inQ_spec hq
            refine ⟨⟨fn, h1, h2, by rw [h3]; rfl⟩, fun γ vals w hs hv => ?_⟩
            refine calls_of_walk (C := C) h1 h3 hv hs fun a hf Q hQ => ?_
            exact xc_sound n (C := ⟨C.M, C.P, C.Γ, C.Δ, C.B, none, false, C.N, none⟩) ⟨hC.Γ, hC.Δ, hC.B, hC.mixed, fun h e => by cases e⟩ hs (Nat.le_refl _) wd_wide (fun _ => rfl) (yok_none rfl γ) 0 c _ _ γ a w (hX _ _ _ _ _ _ _ hk) hf (Since.refl _ _ _) Q hQ
          · exact hk.elim
      obtain ⟨tm', hf, h⟩ := knQ_spec h hf
      clear here
      split at h
      · exact wpIn_region_list (xOps_sound (hCi _ fun f c rs nt us m K' hx => hx) hF rfl _ ⟨tm', σ.m⟩ _ β a w h hf (hY.le hsi.ext) Q fun a' w' he => hQ .normal a' w' (next he))
      · split at h
        · exact xDraw_sound (by intro e; exact hrd e) hF (hCi _ fun f c rs nt us m K' hx => hx) (hY.le hsi.ext) hf Q (fun a' w' he => hQ .normal a' w' (next he)) _ _ h
        · split at h
          · exact h.elim
          · rename_i hb
            simp only [Bool.and_eq_true, Bool.not_eq_true'] at hb
            refine wpIn_mono (Q := fun e a w => e = .normal ∧ Q .normal a w) ?_ (fun e a w hq => by rw [hq.1]; exact hq.2)
            refine wpIn_region_any hC.mixed ?_
            exact xEnum_sound (hrd hb.1) hF (hCi _ fun f c rs nt us m K' hx => hx) hb.2 _ (fun c a w hq => by cases hq.1) hf.sat (hY.le hsi.ext) (fun a' w' he => ⟨rfl, hQ .normal a' w' (next he)⟩) h (by unfold cnt; simp [List.countP_replicate]) hf.drawn.1 hf.drawn.2 rfl
    case h_10 body =>
      split at h
      · rename_i hn
        refine wpIn_loop_rounds (n + 1) ?_
        rw [roundsIn_succ]
        refine xc_sound n hC hs0 hbs hF hrd hY bk body σ _ β a w h hf hsi _ ?_
        rintro e a' w' ⟨σ', β', hf', hs, hk⟩
        cases e with
        | normal => exact xl_sound n hC hs0 hbs hF hrd hY bk body σ' K β' a' w' hn hk hf' hs Q hQ
        | exit id => exact hQ (.exit id) a' w' ⟨σ', β', hf', hs, hk⟩
        | ret => exact hQ .ret a' w' ⟨σ', β', hf', hs, hk⟩
      · rename_i l hl
        split at h
        · obtain ⟨h01, h2⟩ := h
          have h01' : ∃ s, stLe m0.length σ (fixS C σ (l.st s)) ∧ okT l σ s := by
            split at h01
            · exact ⟨_, h01⟩
            · rw [fcS_eq] at h01
              exact h01
          obtain ⟨s0, h0, h1⟩ := h01'
          obtain ⟨β1, hf1, hsi1⟩ := hf.le rfl hs0 hsi h0
          refine wp_loop_s (S := l.S) (fun s a' w' => okT l σ s ∧ ∃ β', Fit bs (fixS C σ (l.st s)) β' a' w' ∧ Since m0 β0 w0 (fixS C σ (l.st s)).m β' w') l.mu ⟨h1, β1, hf1, hsi1⟩ ?_
          rintro s a1 w1 ⟨hs, β1, hf1, hsi1⟩
          refine xc_sound n hC hs0 hbs hF hrd hY bk body (fixS C σ (l.st s)) _ β1 a1 w1 (h2 s hs) hf1 hsi1 _ ?_
          rintro e a' w' ⟨σ', β', hf', hsi', hk⟩
          cases e with
          | normal =>
            have hk : fcS σ' fun σ' => ∃ s', (stLe m0.length σ' (fixS C σ (l.st s')) ∧ okT l σ s') ∧ l.mu s' < l.mu s := hk
            rw [fcS_eq] at hk
            obtain ⟨s', ⟨k1, k2⟩, k3⟩ := hk
            obtain ⟨β2, hf2, hsi2⟩ := hf'.le rfl hs0 hsi' k1
            exact ⟨s', ⟨k2, β2, hf2, hsi2⟩, k3⟩
          | exit id => exact hQ (.exit id) a' w' ⟨σ', β', hf', hsi', hk⟩
          | ret => exact hQ .ret a' w' ⟨σ', β', hf', hsi', hk⟩
        · rename_i m g _
          obtain ⟨⟨h0, h1⟩, h2⟩ := h
          obtain ⟨β1, hf1, hsi1⟩ := hf.le rfl hs0 hsi h0
          refine wp_loop_s (S := Nat) (fun i a' w' => (i ≤ m ∧ l.inv i) ∧ ∃ β', Fit bs (fixS C σ (g i)) β' a' w' ∧ Since m0 β0 w0 (fixS C σ (g i)).m β' w') (fun i => m - i) (s := 0) ⟨⟨Nat.zero_le _, h1⟩, β1, hf1, hsi1⟩ ?_
          rintro i a1 w1 ⟨⟨hi, hv⟩, β1, hf1, hsi1⟩
          refine xc_sound n hC hs0 hbs hF hrd hY bk body (fixS C σ (g i)) _ β1 a1 w1 (allN_spec h2 hi hv) hf1 hsi1 _ ?_
          rintro e a' w' ⟨σ', β', hf', hsi', hk⟩
          cases e with
          | normal =>
            obtain ⟨k1, k2, k3⟩ := ifB_spec hk
            have k1 := Nat.le_of_ble_eq_true k1
            obtain ⟨β2, hf2, hsi2⟩ := hf'.le rfl hs0 hsi' k2
            exact ⟨i + 1, ⟨⟨k1, k3⟩, β2, hf2, hsi2⟩, by omega⟩
          | exit id => exact hQ (.exit id) a' w' ⟨σ', β', hf', hsi', hk⟩
          | ret => exact hQ .ret a' w' ⟨σ', β', hf', hsi', hk⟩
    case h_11 g ps assign body =>
      split at h
      · rename_i f cf nt caps hq
        obtain ⟨fn, hrdf, hYn, hg, hfn, hname, hbody, hres, hnt⟩ := rfQ_spec hq
        subst hnt
        have hro := hrd hrdf
        have hgv := ev_has hf.tm hg
        generalize hge : a.eval g = q at hgv
        cases hgv with
        | clo hcaps =>
          rename_i vs
          have hcall : callable C.P f := ⟨fn, hfn, hname, by rw [hbody]; rfl⟩
          refine wpIn_rangeFunc fun fn0 _ => ?_
          have hx0 : Ext w (w.alloc (.deferred (some []))) := (Ext.refl w).grow _
          have hs1a : Sat β σ.m (w.alloc (.deferred (some []))) := hf.sat.ext hx0
          have hsz : (w.alloc (.deferred (some []))).heap.size = w.heap.size + 1 := by show (w.heap.push _).size = _; simp
          obtain ⟨r, hr⟩ : ∃ r : Loop, r = { state := .ready, pending := none, fn := fn0, tmps := a.tmps, params := ps, assign := assign, body := body, defers := w.heap.size } := ⟨_, rfl⟩
          obtain ⟨w1, hw1⟩ : ∃ w1, w1 = (w.alloc (.deferred (some []))).alloc (.loop r) := ⟨_, rfl⟩
          have hl0 : loopAt r 0 = r := by rw [hr]; rfl
          have hs1 : Sat (β.set σ.m.length (w.heap.size + 1)) (σ.m ++ [some (.loop r 0)]) w1 := by
            rw [← hsz, hw1]
            exact sat_push hs1a (by show some _ = some _; rw [hl0])
          have hsi1 : Since σ.m β w (σ.m ++ [some (.loop r 0)]) (β.set σ.m.length (w.heap.size + 1)) w1 := by
            rw [← hsz, hw1]
            exact Since.trans hf.sat (Since.ext' hx0) (since_push hs1a _ _)
          have hw1sz : w1.heap.size = w.heap.size + 2 := by rw [hw1]; show ((w.heap.push _).push _).size = _; simp
          have hD1 : w1.heap[w.heap.size]? = some (Obj.deferred (some [])) := by
            rw [hw1]
            show ((w.heap.push _).push _)[w.heap.size]? = _
            rw [Array.getElem?_push_lt (by simp), Array.getElem_push_eq]
          have hG1 : (β.set σ.m.length (w.heap.size + 1)) σ.m.length = some (w.heap.size + 1) := by simp [Nm.set]
          refine ⟨w.heap.size + 1, [{ target := .collected w.heap.size, args := #[] }], w1, { target := .fn (.func f) ⟨vs⟩, args := #[.func (.yield (w.heap.size + 1)) #[] #[]] }, w1, f, ⟨.func (.yield (w.heap.size + 1)) #[] #[] :: vs⟩, w1, ?_, ?_, fun f' _ => hF.fn f', ?_, fun e => hF.depth e, ?_⟩
          · rw [hro, hw1, hr]
            exact run_enterLoop_outer fn0 a.tmps ps assign body
          · simp [resolve, rangeCall, hge, Deferred.ofValue, show ∀ v, a.eval (.const v) = v from fun _ => rfl]
          · simp only [invoke]
            have e1 : (#[Value.func (.yield (w.heap.size + 1)) #[] #[]] ++ (⟨vs⟩ : Array Value)) = ⟨.func (.yield (w.heap.size + 1)) #[] #[] :: vs⟩ := by simp
            rw [e1]
            exact callFunc_run hcall
          · refine callsIn_of_wp_marks hfn hbody (hF.fn f) ?_ hro
            have hx := h (w.heap.size + 1) r
            have hlen : σ.m.length + 1 = (σ.m ++ [some (Blk.loop r 0)]).length := by simp
            rw [hlen] at hx
            have hCI : ∀ y, Ctx.Ok ⟨C.M, C.P, C.Γ, C.Δ, C.B, y, false, C.N, none⟩ := fun y => ⟨hC.Γ, hC.Δ, hC.B, hC.mixed, fun h e => by cases e⟩
            have hCr : Ctx.Ok ⟨C.M, C.P, C.Γ, C.Δ, C.B, none, true, C.N, none⟩ := ⟨hC.Γ, hC.Δ, hC.B, hC.mixed, fun h e => by cases e⟩
            have walk : ∀ (c0 : Code) (γ : Nm) (C' : Ctx), C'.P = C.P → Walks C' γ c0 (fun σ' K' => xc ⟨C.M, C.P, C.Γ, C.Δ, C.B, none, true, C.N, none⟩ L σ'.m.length n bk c0 σ' K') := by
              intro c0 γ C' hP σ' K' β' a' w' F' d' bs' hF' hround hle hb hx' hfit Q' hQ'
              rw [hP]
              exact xc_sound n hCr hfit.sat hb hF' (fun e => by cases e) (yok_none rfl β') bk c0 σ' K' β' a' w' hx' hfit (Since.refl _ _ _) Q' fun e a2 w2 he => hQ' e a2 w2 he
            refine xc_sound n (hCI _) hs1 (Nat.le_refl w1.heap.size) hF (fun _ => hro) ?_ 0 cf _ _ _ _ w1 hx ⟨?_, hs1, ?_⟩ (Since.refl _ _ _) _ ?_
            · intro y hy γ hγ
              cases hy
              refine yH_sound (hγ _ _ hG1) ?_ ?_ ?_ ?_
              · rw [hr]
                exact Has.all_mono (Nm.le_trans hsi1.ext hγ) hf.tm
              · rw [hr]
              · rw [hr]
                exact walk assign γ _ rfl
              · rw [hr]
                exact walk body γ _ rfl
            · show All₂ _ (rfI _ _ _) ((⟨_ :: vs⟩ : Array Value) ++ Array.replicate _ undef).toList
              have hrep : ∀ k, All₂ (Has (β.set σ.m.length (w.heap.size + 1))) (List.replicate k (SV.tup [])) (List.replicate k undef) := by
                intro k
                induction k with
                | zero => exact .nil
                | succ k ih => exact .cons (.tup .nil) ih
              have e1 : (({ toList := Value.func (.yield (w.heap.size + 1)) #[] #[] :: vs } : Array Value) ++ Array.replicate (fn.ntmps - (⟨Value.func (.yield (w.heap.size + 1)) #[] #[] :: vs⟩ : Array Value).size) undef).toList = (Value.func (.yield (w.heap.size + 1)) #[] #[] :: vs) ++ List.replicate (fn.ntmps - (1 + caps.length)) undef := by
                have := hcaps.length
                simp [this, Nat.add_comm]
              rw [e1]
              refine All₂.append (.cons (.v (.one (.op rfl))) (Has.all_mono hsi1.ext (caps_has hcaps))) (hrep _)
            · exact trivial
            · rintro e a2 w2 ⟨σI, βI, hfI, hsiI, hkI⟩
              have core : (match σI.m[σ.m.length]? with
                  | some (some (.loop _ j)) => match j with
                    | 0 => K .normal ⟨σ.tm, σI.m.set σ.m.length none⟩
                    | 1 => False
                    | 2 => K .ret ⟨σ.tm, σI.m.set σ.m.length none⟩
                    | n + 3 => K (.exit n) ⟨σ.tm, σI.m.set σ.m.length none⟩
                  | _ => False) → LeavesInM F (d - 1) C.P fn a2.tmps (rangePost F d C.P (w.heap.size + 1) Q { a with defers := [{ target := .collected w.heap.size, args := #[] }] ++ a.defers }) a2.defers .returning w2 := by
                intro hk
                refine leaves_marks hfI.df fun w3 hsh => ⟨.tuple #[], by simp [results, hres], ?_⟩
                split at hk
                · rename_i r' j hm
                  have hG := hsiI.ext _ _ hG1
                  obtain ⟨l', hl', hB⟩ := hfI.sat.live hm id
                  rw [hG] at hl'; cases hl'
                  have hheap : w3.heap[w.heap.size + 1]? = some (.loop (loopAt r' j)) := hsh.hasB hB
                  have done : ∀ (e' : XE) (o : Obj), K e' ⟨σ.tm, σI.m.set σ.m.length none⟩ → Q (toX e') { a with defers := [{ target := .collected w.heap.size, args := #[] }] ++ a.defers } (w3.putObj (w.heap.size + 1) o) := by
                    intro e' o hk'
                    have ht := turn_put w3 (w.heap.size + 1) o
                    have hsiT : Since σ.m β w (σI.m.set σ.m.length none) βI (w3.putObj (w.heap.size + 1) o) := Since.trans hf.sat (Since.trans hf.sat hsi1 (hsh.since (Nat.le_refl _) hsiI)) (since_drop hm trivial hG ht)
                    refine hQ e' _ _ ⟨⟨σ.tm, σI.m.set σ.m.length none⟩, βI, ⟨Has.all_mono hsiT.ext hf.tm, (hsh.sat hfI.sat).drop hm trivial hG ht, ⟨⟨w.heap.size, rfl, Nat.le_trans hbs hsi.size, ?_, ?_⟩, hf.df.mono fun D' hD' => hsiT.defer hf.sat hD'⟩⟩, Since.trans hs0 hsi hsiT, hk'⟩
                    · rw [ht.else_ _ (by rw [hsh.size]; have := hsiI.size; omega) (by omega), hsh.below _ (by omega)]
                      exact hsiI.defer hs1 hD1
                    · intro d' hd' e1
                      obtain ⟨D', h1, h2⟩ := hf.df.lt d' hd'
                      rw [e1] at h1
                      cases h1
                      omega
                  split at hk
                  · exact ⟨none, _, run_endLoop hheap (by intro e; cases e), done .normal _ hk⟩
                  · exact hk.elim
                  · exact ⟨some .ret, _, run_endLoop hheap (by intro e; cases e), wpIn_ret (done .ret _ hk)⟩
                  · exact ⟨some (.exit _), _, run_endLoop hheap (by intro e; cases e), wpIn_exit (done (.exit _) _ hk)⟩
                · exact hk.elim
              cases e with
              | exit id => exact hkI.elim
              | normal => exact core hkI
              | ret => exact core hkI
      · exact h.elim
    case h_12 => exact h.elim
end


/-! ### functions -/
/-- what is to be shown of a function -/
def goal (C : Ctx) (L : Nat → Option LS) (fuel : Nat) (fn : Func) (args : List SV) (m : Mem) (K : SV → Mem → Prop) : Prop := match C.Y with
  | some _ => False
  | none => match fn.body with
  | some c => xc C L m.length fuel 0 c ⟨args ++ List.replicate (fn.ntmps - args.length) (.tup []), m⟩ (fnK C.P fn.results.toList K)
  | none => False

theorem calls_of_goal {C : Ctx} {β : Nm} {w : World} (hC : C.Ok) {L : Nat → Option LS} {fuel : Nat} {f : FuncId} {fn : Func} (hfn : C.P.funcs[f]? = some fn) {args : List SV} {vals : List Value} {m : Mem} {K : SV → Mem → Prop} (h : goal C L fuel fn args m K)
    (hargs : All₂ (Has β) args vals) (hs : Sat β m w) : Calls C.P f ⟨vals⟩ w fun e w' => ∃ β' v m' r, Sat β' m' w' ∧ Since m β w m' β' w' ∧ e = .returned r ∧ Has β' v r ∧ K v m' := by
  unfold goal at h
  split at h
  · exact h.elim
  rename_i hYn
  split at h
  · rename_i c hb
    refine calls_of_walk hfn hb hargs hs fun a hf Q hQ => ?_
    exact xc_sound fuel hC hs (Nat.le_refl _) wd_wide (fun _ => rfl) (yok_none hYn β) 0 c _ _ β a w h hf (Since.refl _ _ _) Q hQ
  · exact h.elim

/-- without addresses -/
def pfL : Lf → Bool
  | .ptr _ _ => false
  | .sl _ _ _ _ _ => false
  | .rs _ _ _ _ _ _ _ _ => false
  | .rp _ _ _ _ _ => false
  | _ => true
def pfV : Vv → Bool
  | .one l => pfL l
  | .agg l => l.all pfL
def pf : SV → Bool
  | .v x => pfV x
  | .tup l => l.all pfV
  | .clo _ l => l.all pfL
  | .junk => true

section
variable {β γ : Nm}
theorem pfL_has {l : Lf} {v : Value} (h : pfL l = true) (k : HasL β l v) : HasL γ l v := by
  cases k with
  | ptr => cases h
  | sl => cases h
  | int => exact .int
  | bool => exact .bool
  | nilp => exact .nilp
  | nils => exact .nils
  | op e => exact .op e
  | junk e => exact .junk e
  | rs => cases h
  | rp => cases h
theorem pfLs_has : ∀ {l : List Lf} {vs : List Value}, l.all pfL = true → All₂ (HasL β) l vs → All₂ (HasL γ) l vs
  | [], _, _, k => by rw [k.nil_inv]; exact .nil
  | a :: l, _, h, k => by
    obtain ⟨v, vs, rfl, hv, k⟩ := k.cons_inv
    rw [List.all_cons, Bool.and_eq_true] at h
    exact .cons (pfL_has h.1 hv) (pfLs_has h.2 k)
theorem pfV_has {x : Vv} {v : Value} (h : pfV x = true) (k : HasV β x v) : HasV γ x v := by
  cases k with
  | one k => exact .one (pfL_has h k)
  | agg k => exact .agg (pfLs_has h k)
theorem pfVs_has : ∀ {l : List Vv} {vs : List Value}, l.all pfV = true → All₂ (HasV β) l vs → All₂ (HasV γ) l vs
  | [], _, _, k => by rw [k.nil_inv]; exact .nil
  | a :: l, _, h, k => by
    obtain ⟨v, vs, rfl, hv, k⟩ := k.cons_inv
    rw [List.all_cons, Bool.and_eq_true] at h
    exact .cons (pfV_has h.1 hv) (pfVs_has h.2 k)
theorem pf_has {x : SV} {v : Value} (h : pf x = true) (k : Has β x v) : Has γ x v := by
  cases k with
  | v k => exact .v (pfV_has h k)
  | tup k => exact .tup (pfVs_has h k)
  | clo k => exact .clo (pfLs_has h k)
  | junk => exact .junk
theorem pfs_has : ∀ {l : List SV} {vs : List Value}, l.all pf = true → All₂ (Has β) l vs → All₂ (Has γ) l vs
  | [], _, _, k => by rw [k.nil_inv]; exact .nil
  | a :: l, _, h, k => by
    obtain ⟨v, vs, rfl, hv, k⟩ := k.cons_inv
    rw [List.all_cons, Bool.and_eq_true] at h
    exact .cons (pf_has h.1 hv) (pfs_has h.2 k)
end

theorem sat_nil {w : World} (hg : Glob w) : Sat (fun _ => none) [] w :=
  ⟨fun x b h => by simp at h, fun x y a ⟨b, h, _⟩ => by simp at h, fun x a h => (by cases h), hg, fun x a ⟨b, h, _⟩ => by simp at h⟩

/-- A PURE FUNCTION's CONTRACT, out of its text. -/
theorem fsound_of {C : Ctx} (hC : C.Ok) {f : FuncId} {fn : Func} (hfn : C.P.funcs[f]? = some fn) (hname : (fn.name == "runtime.NumGoroutine") = false) (hbody : fn.body.isNone = false) {c : FC}
    (h : ∀ args p v, c args = some (p, v) → ob p → pf v = true ∧ ∃ L fuel args', tmLe idR args args' ∧ args'.all pf = true ∧ goal C L fuel fn args' [] fun r _ => svLe idR r v) : FSound C.P f c := by
  refine ⟨⟨fn, hfn, hname, hbody⟩, ?_⟩
  intro β args vals p v w hgl hc hp hv
  obtain ⟨hpv, L, fuel, args', hle, hpa, hg⟩ := h args p v hc hp
  refine (calls_of_goal hC hfn hg (pfs_has hpa (tmLe_has hle hv)) (sat_nil hgl)).mono ?_
  rintro e w' ⟨β', r, m', u, h1, h2, rfl, h3, h4⟩
  exact ⟨u, rfl, pf_has hpv (svLe_has h4 h3), h2.toExt⟩

end Go.Proofs.Ytceffompldihjaa.Rex
