/- A VALUE OF A FLAT TYPE (structs and arrays of numbers and bools, however deep), OPENED: each of its cells is a number that fits its kind, or a bool. Conditions: the type's leaves, computed by the kernel. Own work. -/
import Derived.Test.YtceffompldihjaaBase
import Derived.ProofKit
namespace Go.Proofs.Ytceffompldihjaa

/-- a leaf: none is a bool, some k a number of kind k -/
def fits (k : Option IntKind) (v : Value) : Prop := match k with
  | none => ∃ b, v = .bool b
  | some k => ∃ n, v = .int k n ∧ (Lit.int k n).wf = true

def AllFit : List (Option IntKind) → List Value → Prop
  | [], [] => True
  | k :: ks, v :: vs => fits k v ∧ AllFit ks vs
  | _, _ => False

theorem AllFit.append {ks : List (Option IntKind)} : ∀ {vs : List Value} {ls : List (Option IntKind)} {us : List Value}, AllFit ks vs → AllFit ls us → AllFit (ks ++ ls) (vs ++ us) := by
  induction ks with
  | nil => intro vs ls us h g; cases vs with
    | nil => exact g
    | cons v vs => exact h.elim
  | cons k ks ih => intro vs ls us h g; cases vs with
    | nil => exact h.elim
    | cons v vs => exact ⟨h.1, ih h.2 g⟩
theorem AllFit.cons_inv {k : Option IntKind} {ks : List (Option IntKind)} {vs : List Value} (h : AllFit (k :: ks) vs) : ∃ v us, vs = v :: us ∧ fits k v ∧ AllFit ks us := by
  cases vs with
  | nil => exact h.elim
  | cons v us => exact ⟨v, us, rfl, h.1, h.2⟩
theorem AllFit.nil_inv {vs : List Value} (h : AllFit [] vs) : vs = [] := by
  cases vs with
  | nil => rfl
  | cons v us => exact h.elim
theorem AllFit.length {ks : List (Option IntKind)} : ∀ {vs : List Value}, AllFit ks vs → vs.length = ks.length := by
  induction ks with
  | nil => intro vs h; rw [AllFit.nil_inv h]; rfl
  | cons k ks ih => intro vs h; obtain ⟨v, us, rfl, _, g⟩ := AllFit.cons_inv h; simp [ih g]

/-- the leaves of a struct's fields, one behind the other, with no gap -/
def leavesFs (P : Program) (g : TypeId → Option (List (Option IntKind))) (total : Nat) : List Field → Nat → Option (List (Option IntKind))
  | [], off => if off = total then some [] else none
  | f :: fs, off => match g f.type with
    | some ks => if f.offset = off ∧ P.cellsOf f.type = ks.length then (leavesFs P g total fs (off + ks.length)).map (ks ++ ·) else none
    | none => none
def many (ks : List (Option IntKind)) : Nat → List (Option IntKind)
  | 0 => []
  | n + 1 => ks ++ many ks n
/-- a type's leaves -/
def leaves (P : Program) : Nat → TypeId → Option (List (Option IntKind))
  | 0, _ => none
  | fuel + 1, t => match P.underlying t with
    | some .bool => some [none]
    | some (.int k) => some [some k]
    | some (.struct fs) => leavesFs P (leaves P fuel) (P.cellsOf t) fs.toList 0
    | some (.array n e) => match leaves P fuel e with
      | some ks => if P.cellsOf e = ks.length ∧ P.cellsOf t = n * ks.length then some (many ks n) else none
      | none => none
    | _ => none

section
variable {H : Type} {enc : TypeId × Value → H} {P : Program} {w : World} {base : Nat} {spare : Nat → Bool} {held : Bool}

theorem leavesFs_fit (g : TypeId → Option (List (Option IntKind))) (m : Nat) (cs : List Value)
    (hg : ∀ t ks ds x, g t = some ks → DataW.trod enc P w base spare held m t ds = some x → AllFit ks ds) :
    ∀ (fs : List Field) (off : Nat) (ks : List (Option IntKind)), leavesFs P g cs.length fs off = some ks →
      (∀ f ∈ fs, ∃ x, DataW.trod enc P w base spare held m f.type ((cs.drop f.offset).take (P.cellsOf f.type)) = some x) → AllFit ks (cs.drop off) := by
  intro fs
  induction fs with
  | nil =>
    intro off ks h _
    unfold leavesFs at h
    split at h
    · rename_i e
      cases h
      rw [e, List.drop_length]
      trivial
    · cases h
  | cons f fs ih =>
    intro off ks h hf
    unfold leavesFs at h
    split at h
    · rename_i ls hl
      split at h
      · rename_i e
        obtain ⟨e1, e2⟩ := e
        cases hr : leavesFs P g cs.length fs (off + ls.length) with
        | none => rw [hr] at h; cases h
        | some rs =>
          rw [hr] at h
          cases h
          obtain ⟨x, hx⟩ := hf f (by simp)
          have h1 := hg f.type ls _ x hl hx
          have h2 := ih (off + ls.length) rs hr (fun f' hf' => hf f' (by simp [hf']))
          rw [e1, e2] at h1
          have h3 := AllFit.append h1 h2
          rw [← List.drop_drop, List.take_append_drop] at h3
          exact h3
      · cases h
    · cases h

theorem many_fit (ks : List (Option IntKind)) (cs : List Value) : ∀ (n i : Nat), cs.length = (i + n) * ks.length → (∀ j, j < n → AllFit ks ((cs.drop ((i + j) * ks.length)).take ks.length)) → AllFit (many ks n) (cs.drop (i * ks.length)) := by
  intro n
  induction n with
  | zero => intro i hl _; rw [show i * ks.length = cs.length by rw [hl]; simp, List.drop_length]; trivial
  | succ n ih =>
    intro i hl hj
    have h1 := hj 0 (by omega)
    have h2 := ih (i + 1) (by rw [hl]; congr 1; omega) (fun j hjn => by have := hj (j + 1) (by omega); rwa [show i + (j + 1) = i + 1 + j by omega] at this)
    rw [Nat.add_zero] at h1
    have h3 := AllFit.append h1 h2
    rw [Nat.succ_mul, ← List.drop_drop, List.take_append_drop] at h3
    exact h3

theorem leaves_fit : ∀ (fuel m : Nat) (t : TypeId) (ks : List (Option IntKind)) (cs : List Value) (x : DataW H × List MemPlace),
    leaves P fuel t = some ks → DataW.trod enc P w base spare held m t cs = some x → AllFit ks cs := by
  intro fuel
  induction fuel with
  | zero => intro m t ks cs x h _; cases h
  | succ fuel ih =>
    intro m t ks cs x h hx
    unfold leaves at h
    split at h
    · rename_i hu
      cases h
      cases m with
      | zero => simp [DataW.trod] at hx
      | succ m =>
        unfold DataW.trod at hx
        rw [hu] at hx
        split at hx <;> simp_all [AllFit, fits]
    · rename_i k hu
      cases h
      obtain ⟨n, rfl, _, hw⟩ := DataW.trod_int hu hx
      exact ⟨⟨n, rfl, hw⟩, trivial⟩
    · rename_i fs hu
      obtain ⟨xs, n, rfl, _, hl, hlen, hf⟩ := DataW.trod_struct hu hx
      rw [← hl] at h
      have := leavesFs_fit (enc := enc) (w := w) (base := base) (spare := spare) (held := held) (leaves P fuel) n cs (fun t ks ds x a b => ih n t ks ds x a b) fs.toList 0 ks h (fun f hm => by
        obtain ⟨i, hi, he⟩ := List.getElem_of_mem hm
        have hs : fs[i]? = some f := by rw [← he]; simp at hi ⊢
        have hg := hf i f hs
        rw [hg]
        have hi' : i < xs.length := by rw [hlen]; simpa using hi
        exact ⟨xs[i], List.getElem?_eq_getElem hi'⟩)
      simpa using this
    · rename_i n e hu
      split at h
      · rename_i ls hls
        split at h
        · rename_i hc
          cases h
          obtain ⟨xs, m', rfl, _, hl, hlen, hf⟩ := DataW.trod_array hu hx
          have := many_fit ls cs n 0 (by rw [hl, hc.2]; simp) (fun j hj => by
            have hg := hf j hj
            have hi' : j < xs.length := by rw [hlen]; exact hj
            rw [List.getElem?_eq_getElem hi'] at hg
            have := ih m' e ls _ _ hls hg
            rw [hc.1] at this
            simpa using this)
          simpa using this
        · cases h
      · cases h
    · cases h

/-- A flat value that came in. -/
theorem open_flat {r : Reach} {b0 fuel : Nat} {t : TypeId} {ks : List (Option IntKind)} {v : Value} {d : DataW H} {ps : List MemPlace} (hk : leaves P fuel t = some ks)
    (hs : (match P.underlying t with | some (.struct _) | some (.array _ _) => true | _ => false) = true) (hval : Value.okWide P w r b0 t v) (hd : DataW.Trod enc P w base spare held t v d ps) :
    ∃ cs : List Value, v = .agg cs.toArray ∧ AllFit ks cs := by
  obtain ⟨m, hm⟩ := hd
  unfold Value.okWide at hval
  split at hval
  · obtain ⟨cs, rfl, _⟩ := hval; exact ⟨cs.toList, by simp, leaves_fit fuel m t ks _ _ hk hm⟩
  · obtain ⟨cs, rfl, _⟩ := hval; exact ⟨cs.toList, by simp, leaves_fit fuel m t ks _ _ hk hm⟩
  · rename_i h1 h2
    split at hs
    · rename_i a e; exact absurd e (h1 a)
    · rename_i a b e; exact absurd e (h2 a b)
    · cases hs

end

end Go.Proofs.Ytceffompldihjaa
