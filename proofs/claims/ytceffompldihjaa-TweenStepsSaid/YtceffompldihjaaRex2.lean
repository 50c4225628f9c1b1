/- A WALK BY COMPUTATION, part 2: the quiet operations: those that write no block that is there. What each yields, computed; and that it is so. Conditions: none. Own work. -/
import Derived.Test.YtceffompldihjaaRex
namespace Go.Proofs.Ytceffompldihjaa.Rex
open Go.RowKit
set_option linter.unusedVariables false
set_option linter.unusedSimpArgs false

/-- of which kinds arithmetic, and conversions, are shown not to pass their ends -/
structure Md where
  ar : IntKind → Bool
  cv : IntKind → Bool

def klo : IntKind → Int
  | .i8 => -128 | .i16 => -32768 | .i32 => -2147483648 | .i64 => -9223372036854775808 | _ => 0
def khi : IntKind → Int
  | .i8 => 127 | .i16 => 32767 | .i32 => 2147483647 | .i64 => 9223372036854775807
  | .u8 => 255 | .u16 => 65535 | .u32 => 4294967295 | .u64 => 18446744073709551615
def inR (k : IntKind) (n : Int) : Prop := klo k ≤ n ∧ n ≤ khi k

theorem wrap_in {k : IntKind} {n : Int} (h : inR k n) : k.wrap n = n := by
  unfold inR at h
  cases k <;> simp only [klo, khi] at h <;> simp [IntKind.wrap, IntKind.bits, IntKind.signed] <;> omega

def omap {A B : Type} (f : A → Option B) : List A → Option (List B)
  | [] => some []
  | a :: l => match f a with
    | none => none
    | some b => match omap f l with
      | none => none
      | some bs => some (b :: bs)

theorem omap_all {A B C : Type} {f : A → Option B} {g : A → C} {R : B → C → Prop} (hf : ∀ a b, f a = some b → R b (g a)) : ∀ {l : List A} {m : List B}, omap f l = some m → All₂ R m (l.map g)
  | [], m, h => by cases h; exact .nil
  | a :: l, m, h => by
    unfold omap at h
    split at h
    · cases h
    · rename_i b hb
      split at h
      · cases h
      · rename_i bs hbs
        cases h
        exact .cons (hf a b hb) (omap_all hf hbs)

theorem omap_mono {A B : Type} {f g : A → Option B} (h : ∀ a b, f a = some b → g a = some b) : ∀ {l : List A} {m : List B}, omap f l = some m → omap g l = some m
  | [], m, e => e
  | a :: l, m, e => by
    unfold omap at e ⊢
    split at e
    · cases e
    · rename_i b hb
      split at e
      · cases e
      · rename_i bs hbs
        rw [h a b hb, omap_mono h hbs]; exact e

def ofLeaf : Value → Option Lf
  | .bool b => some (.bool true b)
  | .int k n => some (.int k true n)
  | .pointer none => some .nilp
  | .slice none 0 0 => some .nils
  | .agg _ => none
  | .tuple _ => none
  | v => some (.op v)

theorem ofLeaf_has {β : Nm} {v : Value} {l : Lf} (h : ofLeaf v = some l) : HasL β l v := by
  unfold ofLeaf at h
  split at h
  all_goals first
    | (cases h; done)
    | (cases h; first | exact .bool | exact .int | exact .nilp | exact .nils)
    | (cases h; refine .op ?_; cases v <;> first | rfl | (exfalso; simp_all))

def ofValue : Value → Option SV
  | .agg cs => match omap ofLeaf cs.toList with
    | some l => some (.v (.agg l))
    | none => none
  | v => match ofLeaf v with
    | some l => some (.v (.one l))
    | none => none

theorem ofValue_has {β : Nm} {v : Value} {s : SV} (h : ofValue v = some s) : Has β s v := by
  unfold ofValue at h
  split at h
  · rename_i cs
    split at h
    · rename_i l hl
      cases h
      have := omap_all (g := id) (R := HasL β) (fun a b e => ofLeaf_has e) hl
      rw [List.map_id] at this
      exact .v (.agg this)
    · cases h
  · split at h
    · rename_i l hl
      cases h
      exact .v (.one (ofLeaf_has hl))
    · cases h

def ev (tm : List SV) : Operand → Option SV
  | .tmp t => match tm[t]? with
    | some .junk => none
    | r => r
  | .const v => ofValue v
  | .global g => some (.v (.one (.op (.pointer (some ⟨g, 0, none⟩)))))
  | .func f => some (.clo f [])

def tagg (P : Program) (t : TypeId) : Option Bool := match P.underlying t with
  | some (.struct _) => some true
  | some (.array _ _) => some true
  | some _ => some false
  | none => none
def tsize (P : Program) (t : TypeId) : Option Nat := match P.info? t with
  | some i => some i.size
  | none => none

section
variable {P : Program} {w : World}
theorem run_isAgg {t : TypeId} {b : Bool} (h : tagg P t = some b) : (isAgg t).run P w = .ok b w := by
  unfold tagg at h
  unfold isAgg
  split at h
  · rename_i hu; cases h; simp [run_underlying hu]
  · rename_i hu; cases h; simp [run_underlying hu]
  · rename_i d h1 h2 hu; cases h; rw [Sem.run_bind, run_underlying hu]
    cases d <;> first | rfl | (exact absurd rfl (h1 _)) | (exact absurd rfl (h2 _ _))
  · cases h
theorem run_sizeOf' {t : TypeId} {n : Nat} (h : tsize P t = some n) : (sizeOf t).run P w = .ok n w := by
  unfold tsize at h
  split at h
  · rename_i i hi; cases h; simp [sizeOf, typeInfo, hi]
  · cases h
end

/-- a part of a struct's, or an array's, cells -/
def partL (P : Program) (t : TypeId) (l : List Lf) (off : Nat) : Option Vv := match tagg P t with
  | some true => match tsize P t with
    | some n => match decide (off + n ≤ l.length) with
      | true => some (.agg ((l.drop off).take n))
      | false => none
    | none => none
  | some false => match l[off]? with
    | some x => some (.one x)
    | none => none
  | none => none

theorem partL_run {P : Program} {w : World} {β : Nm} {t : TypeId} {l : List Lf} {off : Nat} {x : Vv} {vs : List Value} (h : partL P t l off = some x) (hv : All₂ (HasL β) l vs) :
    ∃ u, (part t ⟨vs⟩ off).run P w = .ok u w ∧ HasV β x u := by
  unfold partL at h
  unfold part
  split at h
  · rename_i ha
    split at h
    · rename_i n hn
      split at h
      · cases h
        refine ⟨_, by simp [run_isAgg ha, run_sizeOf' hn]; rfl, ?_⟩
        have := HasV.agg ((hv.drop off).take n)
        exact this
      · cases h
    · cases h
  · rename_i ha
    split at h
    · rename_i y hy
      cases h
      obtain ⟨u, hu, hr⟩ := hv.get hy
      exact ⟨u, by simp [run_isAgg ha, hu], .one hr⟩
    · cases h
  · cases h

/-! ### equality of flat values -/
/-- the fields' equality -/
def eqFs (P : Program) (g : TypeId → Vv → Vv → Option Bool) (xs ys : List Lf) : List Field → Option Bool
  | [] => some true
  | f :: fs => match decide (f.name = "_") with
    | true => none
    | false => match partL P f.type xs f.offset, partL P f.type ys f.offset with
      | some a, some b => match g f.type a b with
        | some r => match eqFs P g xs ys fs with
          | some q => some (r && q)
          | none => none
        | none => none
      | _, _ => none
def eqIs (P : Program) (g : TypeId → Vv → Vv → Option Bool) (e : TypeId) (c : Nat) (xs ys : List Lf) : List Nat → Option Bool
  | [] => some true
  | i :: is => match partL P e xs (i * c), partL P e ys (i * c) with
    | some a, some b => match g e a b with
      | some r => match eqIs P g e c xs ys is with
        | some q => some (r && q)
        | none => none
      | none => none
    | _, _ => none
def eqT (P : Program) : Nat → TypeId → Vv → Vv → Option Bool
  | 0, _, _, _ => none
  | n + 1, t, x, y => match P.underlying t with
    | some .bool => match x, y with
      | .one (.bool _ a), .one (.bool _ b) => some (a == b)
      | _, _ => none
    | some (.int _) => match x, y with
      | .one (.int k _ a), .one (.int k' _ b) => match decide (k = k') with
        | true => some (a == b)
        | false => none
      | _, _ => none
    | some (.struct fs) => match x, y with
      | .agg xs, .agg ys => match P.stoodInHeld t with
        | true => none
        | false => eqFs P (eqT P n) xs ys fs.toList
      | _, _ => none
    | some (.array m e) => match x, y with
      | .agg xs, .agg ys => match P.info? e with
        | some i => eqIs P (eqT P n) e (P.cellsOf e) xs ys (List.range m)
        | none => none
      | _, _ => none
    | _ => none

theorem eqFs_run {P : Program} {w : World} {β : Nm} {d : Nat} {g : TypeId → Vv → Vv → Option Bool} (hg : ∀ t x y r u v, g t x y = some r → HasV β x u → HasV β y v → (Op.equalIn d t u v).run P w = .ok r w)
    {xs ys : List Lf} {us vs : List Value} (hx : All₂ (HasL β) xs us) (hy : All₂ (HasL β) ys vs) : ∀ {fs : List Field} {r : Bool}, eqFs P g xs ys fs = some r → (Op.eqFields d ⟨us⟩ ⟨vs⟩ fs).run P w = .ok r w
  | [], r, h => by cases h; rfl
  | f :: fs, r, h => by
    unfold eqFs at h
    unfold Op.eqFields
    split at h
    · cases h
    · rename_i hf
      have hf' : f.name ≠ "_" := of_decide_eq_false hf
      split at h
      · rename_i a b ha hb
        split at h
        · rename_i q hq
          split at h
          · rename_i z hz
            cases h
            obtain ⟨u, hu, hau⟩ := partL_run (P := P) (w := w) ha hx
            obtain ⟨v, hv, hbv⟩ := partL_run (P := P) (w := w) hb hy
            have := hg _ _ _ _ _ _ hq hau hbv
            have ih := eqFs_run hg hx hy hz
            simp only [hf', ne_eq, not_false_eq_true, if_true, Sem.run_bind, hu, hv, this, Result.andThen_ok]
            cases q
            · rfl
            · simpa using ih
          · cases h
        · cases h
      · cases h
theorem eqIs_run {P : Program} {w : World} {β : Nm} {d : Nat} {g : TypeId → Vv → Vv → Option Bool} (hg : ∀ t x y r u v, g t x y = some r → HasV β x u → HasV β y v → (Op.equalIn d t u v).run P w = .ok r w)
    {e : TypeId} {c : Nat} {xs ys : List Lf} {us vs : List Value} (hx : All₂ (HasL β) xs us) (hy : All₂ (HasL β) ys vs) : ∀ {is : List Nat} {r : Bool}, eqIs P g e c xs ys is = some r → (Op.eqItems d e c ⟨us⟩ ⟨vs⟩ is).run P w = .ok r w
  | [], r, h => by cases h; rfl
  | i :: is, r, h => by
    unfold eqIs at h
    unfold Op.eqItems
    split at h
    · rename_i a b ha hb
      split at h
      · rename_i q hq
        split at h
        · rename_i z hz
          cases h
          obtain ⟨u, hu, hau⟩ := partL_run (P := P) (w := w) ha hx
          obtain ⟨v, hv, hbv⟩ := partL_run (P := P) (w := w) hb hy
          have := hg _ _ _ _ _ _ hq hau hbv
          have ih := eqIs_run hg hx hy hz
          simp only [Sem.run_bind, hu, hv, this, Result.andThen_ok]
          cases q
          · rfl
          · simpa using ih
        · cases h
      · cases h
    · cases h
theorem eqT_run {P : Program} {w : World} {β : Nm} : ∀ (n d : Nat), n ≤ d → ∀ t x y r u v, eqT P n t x y = some r → HasV β x u → HasV β y v → (Op.equalIn d t u v).run P w = .ok r w
  | 0, _, _, _, _, _, _, _, _, h, _, _ => by cases h
  | n + 1, 0, hle, _, _, _, _, _, _, _, _, _ => by omega
  | n + 1, d + 1, hle, t, x, y, r, u, v, h, hu, hv => by
    have hg := eqT_run (P := P) (w := w) (β := β) n d (by omega)
    unfold eqT at h
    split at h
    · rename_i ht
      split at h
      · cases h
        cases hu with
        | one hu => cases hu; cases hv with
          | one hv => cases hv; simp [Op.equalIn, run_underlying ht]
      · cases h
    · rename_i ht
      split at h
      · split at h
        · rename_i hk
          cases h
          have := of_decide_eq_true hk
          cases hu with
          | one hu => cases hu; cases hv with
            | one hv => cases hv; simp [Op.equalIn, run_underlying ht, this]
        · cases h
      · cases h
    · rename_i fs ht
      split at h
      · split at h
        · cases h
        · rename_i hs
          cases hu with
          | agg hu => cases hv with
            | agg hv =>
              have e : P.fieldsOf t = fs := by unfold Program.fieldsOf; rw [ht]
              rw [run_equalIn_struct w d t _ _ (by rw [e]; exact ht) hs, e]
              exact eqFs_run hg hu hv h
      · cases h
    · rename_i m e ht
      split at h
      · split at h
        · rename_i i hi
          cases hu with
          | agg hu => cases hv with
            | agg hv =>
              rw [run_equalIn_array w d _ _ ht hi]
              exact eqIs_run hg hu hv h
        · cases h
      · cases h
    · cases h

/-! ### operators -/
/-- what is to be shown (none: nothing) -/
def ob : Option Prop → Prop
  | none => True
  | some p => p
def andO (q : Prop) : Option Prop → Option Prop
  | none => some q
  | some p => some (q ∧ p)
theorem ob_andO {q : Prop} {p : Option Prop} (h : ob (andO q p)) : q ∧ ob p := by
  cases p with
  | none => exact ⟨h, trivial⟩
  | some p => exact h
def ln (k : IntKind) (kn : Bool) (n : Int) : SV := .v (.one (.int k kn n))
def lb (kn : Bool) (b : Bool) : SV := .v (.one (.bool kn b))

/-- a number as arithmetic makes it -/
def num (c : Bool) (k : IntKind) (kn : Bool) (n : Int)   : Option Prop × SV := match kn with
  | true => (none, ln k true (k.wrap n))
  | false => match c with
    | true => (some (inR k n), ln k false n)
    | false => (none, ln k false (k.wrap n))
theorem num_has {c : Bool} {k : IntKind} {kn : Bool} {n : Int} {p : Option Prop} {s : SV} {β : Nm} (h : num c k kn n = (p, s)) (hp : ob p) : Has β s (.int k (k.wrap n)) := by
  unfold num at h
  split at h
  · cases h; exact .v (.one .int)
  · split at h
    · cases h; rw [wrap_in hp]; exact .v (.one .int)
    · cases h; exact .v (.one .int)

def intQ (M : Md) (op : BinOp) (k : IntKind) (ka : Bool) (a : Int) (kb : Bool) (b : Int) : Option (Option Prop × SV) := match op with
  | .add => some (num (M.ar k) k (ka && kb) (a + b))
  | .sub => some (num (M.ar k) k (ka && kb) (a - b))
  | .mul => some (num (M.ar k) k (ka && kb) (a * b))
  | .quo => match kb with
    | true => match decide (b = 0) with
      | true => none
      | false => some (num (M.ar k) k ka (a.tdiv b))
    | false => some (andO (b ≠ 0) (num (M.ar k) k false (a.tdiv b)).1, (num (M.ar k) k false (a.tdiv b)).2)
  | .rem => match kb with
    | true => match decide (b = 0) with
      | true => none
      | false => some (none, ln k ka (a.tmod b))
    | false => some (some (b ≠ 0), ln k false (a.tmod b))
  | .and => some (none, ln k (ka && kb) (k.wrap (BitVec.ofInt k.bits a &&& BitVec.ofInt k.bits b).toNat))
  | .or => some (none, ln k (ka && kb) (k.wrap (BitVec.ofInt k.bits a ||| BitVec.ofInt k.bits b).toNat))
  | .xor => some (none, ln k (ka && kb) (k.wrap (BitVec.ofInt k.bits a ^^^ BitVec.ofInt k.bits b).toNat))
  | .andNot => some (none, ln k (ka && kb) (k.wrap (BitVec.ofInt k.bits a &&& ~~~BitVec.ofInt k.bits b).toNat))
  | .eql => some (none, lb (ka && kb) (a == b))
  | .neq => some (none, lb (ka && kb) (a != b))
  | .lss => some (none, lb (ka && kb) (decide (a < b)))
  | .leq => some (none, lb (ka && kb) (decide (a ≤ b)))
  | .gtr => some (none, lb (ka && kb) (decide (b < a)))
  | .geq => some (none, lb (ka && kb) (decide (b ≤ a)))
  | _ => none

def shQ (M : Md) (op : BinOp) (k : IntKind) (ka : Bool) (a : Int) (b : Int) : Option (Option Prop × SV) := match decide (b < 0) with
  | true => none
  | false => match op with
    | .shl => some (num (M.ar k) k ka (a * 2 ^ min b.toNat k.bits))
    | .shr => some (none, ln k ka (a / 2 ^ min b.toNat k.bits))
    | _ => none

def neg? (op : BinOp) (r : Bool) : Option Bool := match op with
  | .eql => some r
  | .neq => some (!r)
  | _ => none

def eqQ (P : Program) (op : BinOp) (t : TypeId) (x y : Vv) : Option (Option Prop × SV) := match P.eqGuardType P.depth t with
  | true => none
  | false => match eqT P 40 t x y with
    | some r => match neg? op r with
      | some q => some (none, lb false q)
      | none => none
    | none => none

def nilQ (P : Program) (op : BinOp) (t : TypeId) (x y : Lf) : Option (Option Prop × SV) := match P.underlying t with
  | some (.pointer _) => match x, y with
    | .nilp, .nilp => match neg? op true with
      | some q => some (none, lb true q)
      | none => none
    | .nilp, .ptr _ _ => match neg? op false with
      | some q => some (none, lb true q)
      | none => none
    | .ptr _ _, .nilp => match neg? op false with
      | some q => some (none, lb true q)
      | none => none
    | _, _ => none
  | some (.slice _) => match x, y with
    | .nils, .nils => match neg? op true with
      | some q => some (none, lb true q)
      | none => none
    | .nils, .sl _ _ _ _ _ => match neg? op false with
      | some q => some (none, lb true q)
      | none => none
    | .sl _ _ _ _ _, .nils => match neg? op false with
      | some q => some (none, lb true q)
      | none => none
    | _, _ => none
  | _ => none

def binQ (M : Md) (P : Program) (op : BinOp) (t : TypeId) (x y : SV) : Option (Option Prop × SV) := match x, y with
  | .v (.one (.int k ka a)), .v (.one (.int k' kb b)) => match op with
    | .shl => match kb with
      | true => shQ M .shl k ka a b
      | false => none
    | .shr => match kb with
      | true => shQ M .shr k ka a b
      | false => none
    | op => match decide (k = k') with
      | true => intQ M op k ka a kb b
      | false => none
  | .v (.one (.bool ka a)), .v (.one (.bool kb b)) => match P.underlying t with
    | some .bool => match neg? op (a == b) with
      | some q => some (none, lb (ka && kb) q)
      | none => none
    | _ => none
  | .v (.agg a), .v (.agg b) => eqQ P op t (.agg a) (.agg b)
  | .v (.one a), .v (.one b) => nilQ P op t a b
  | _, _ => none

def unQ (M : Md) (op : UnOp) (x : SV) : Option (Option Prop × SV) := match op, x with
  | .neg, .v (.one (.int k ka a)) => some (num (M.ar k) k ka (-a))
  | .not, .v (.one (.bool ka a)) => some (none, lb ka (!a))
  | _, _ => none

def convQ (M : Md) (P : Program) (src dst : TypeId) (x : SV) : Option (Option Prop × SV) := match P.underlying src, P.underlying dst, x with
  | some _, some (.int k), .v (.one (.int _ ka a)) => some (num (M.cv k) k ka a)
  | _, _, _ => none

end Go.Proofs.Ytceffompldihjaa.Rex
