/- A LISTED VARIABLE, READ: of a flat type, its cells are the numbers that the datum lists. Conditions: the type's leaves, computed by the kernel. Own work. -/
import Derived.Test.YtdemgianfkafjaaDoorOpen
import Derived.Test.YtdemgianfkafjaaDoorRex
import Derived.LaidMore
namespace Go.Proofs.YtdemgianfkafjaaDoor

def litsL {H : Type} (g : DataW H → Option (List Value)) : List (DataW H) → Option (List Value)
  | [] => some []
  | d :: ds => match g d with
    | some a => match litsL g ds with
      | some b => some (a ++ b)
      | none => none
    | none => none
/-- a datum's numbers, one behind the other -/
def litsOf {H : Type} : Nat → DataW H → Option (List Value)
  | 0, _ => none
  | n + 1, d => match d with
    | .lit l => some [l.value]
    | .agg ds => litsL (litsOf n) ds
    | _ => none
theorem litsL_cons {H : Type} {g : DataW H → Option (List Value)} {d : DataW H} {ds : List (DataW H)} {us : List Value} (h : litsL g (d :: ds) = some us) : ∃ a b, g d = some a ∧ litsL g ds = some b ∧ us = a ++ b := by
  unfold litsL at h
  split at h
  · rename_i a ha
    split at h
    · rename_i b hb
      cases h
      exact ⟨a, b, ha, hb, rfl⟩
    · cases h
  · cases h

section
variable {H : Type} {enc : TypeId × Value → H} {P : Program} {w : World} {base : Nat} {spare : Nat → Bool} {held : Bool}

theorem leavesFs_data (g : TypeId → Option (List (Option IntKind))) (m : Nat) (cs : List Value) (lo : DataW H → Option (List Value))
    (hg : ∀ t ks ds x, g t = some ks → DataW.trod enc P w base spare held m t ds = some x → ∀ us, lo x.1 = some us → us = ds) :
    ∀ (fs : List Field) (off : Nat) (ks : List (Option IntKind)) (xs : List (DataW H × List MemPlace)), leavesFs P g cs.length fs off = some ks → xs.length = fs.length →
      (∀ (i : Nat) f, fs[i]? = some f → DataW.trod enc P w base spare held m f.type ((cs.drop f.offset).take (P.cellsOf f.type)) = xs[i]?) → ∀ us, litsL lo (xs.map (·.1)) = some us → us = cs.drop off := by
  intro fs
  induction fs with
  | nil =>
    intro off ks xs h hl _ us hu
    obtain rfl : xs = [] := List.eq_nil_of_length_eq_zero hl
    unfold leavesFs at h
    split at h
    · rename_i e
      cases hu
      rw [e, List.drop_length]
    · cases h
  | cons f fs ih =>
    intro off ks xs h hl hf us hu
    match xs, hl with
    | x :: xs, hl =>
    unfold leavesFs at h
    split at h
    · rename_i ls hls
      split at h
      · rename_i e
        obtain ⟨e1, e2⟩ := e
        cases hr : leavesFs P g cs.length fs (off + ls.length) with
        | none => rw [hr] at h; cases h
        | some rs =>
          rw [List.map_cons] at hu
          obtain ⟨a, b, ha, hb, rfl⟩ := litsL_cons hu
          have h0 := hf 0 f rfl
          have h1 := hg f.type ls _ x hls h0 a ha
          have h2 := ih (off + ls.length) rs xs hr (by simpa using hl) (fun i f' hi => by simpa using hf (i + 1) f' (by simpa using hi)) b hb
          rw [h1, h2, e1, e2, ← List.drop_drop, List.take_append_drop]
      · cases h
    · cases h

theorem many_data (k m : Nat) (e : TypeId) (cs : List Value) (lo : DataW H → Option (List Value))
    (hg : ∀ ds x, DataW.trod enc P w base spare held m e ds = some x → ∀ us, lo x.1 = some us → us = ds) :
    ∀ (n i : Nat) (xs : List (DataW H × List MemPlace)), cs.length = (i + n) * k → xs.length = n → (∀ j, j < n → DataW.trod enc P w base spare held m e ((cs.drop ((i + j) * k)).take k) = xs[j]?) → ∀ us, litsL lo (xs.map (·.1)) = some us → us = cs.drop (i * k) := by
  intro n
  induction n with
  | zero =>
    intro i xs hl hx _ us hu
    obtain rfl : xs = [] := List.eq_nil_of_length_eq_zero hx
    cases hu
    rw [show i * k = cs.length by rw [hl]; simp, List.drop_length]
  | succ n ih =>
    intro i xs hl hx hj us hu
    match xs, hx with
    | x :: xs, hx =>
    rw [List.map_cons] at hu
    obtain ⟨a, b, ha, hb, rfl⟩ := litsL_cons hu
    have h0 := hj 0 (by omega)
    rw [Nat.add_zero] at h0
    have h1 := hg _ x h0 a ha
    have h2 := ih (i + 1) xs (by rw [hl]; congr 1; omega) (by simpa using hx) (fun j hjn => by have := hj (j + 1) (by omega); rw [show i + (j + 1) = i + 1 + j by omega] at this; simpa using this) b hb
    rw [h1, h2, Nat.succ_mul, ← List.drop_drop, List.take_append_drop]

theorem leaves_data : ∀ (fuel m : Nat) (t : TypeId) (ks : List (Option IntKind)) (cs : List Value) (x : DataW H × List MemPlace) (n : Nat) (us : List Value),
    leaves P fuel t = some ks → DataW.trod enc P w base spare held m t cs = some x → litsOf n x.1 = some us → us = cs := by
  intro fuel
  induction fuel with
  | zero => intro m t ks cs x n us h _ _; cases h
  | succ fuel ih =>
    intro m t ks cs x n us h hx hu
    cases n with
    | zero => cases hu
    | succ n =>
    unfold leaves at h
    split at h
    · rename_i ht
      cases m with
      | zero => simp [DataW.trod] at hx
      | succ m =>
        unfold DataW.trod at hx
        rw [ht] at hx
        split at hx <;> simp_all
        all_goals (first | (rcases hx with rfl; simp_all [litsOf, Lit.value]) | skip)
        all_goals (subst hx; simp [litsOf, Lit.value] at hu; exact hu.symm)
    · rename_i k ht
      obtain ⟨v, rfl, rfl, hw⟩ := DataW.trod_int ht hx
      cases hu
      rfl
    · rename_i fs ht
      obtain ⟨xs, m', rfl, rfl, hl, hlen, hf⟩ := DataW.trod_struct ht hx
      rw [← hl] at h
      have := leavesFs_data (enc := enc) (w := w) (base := base) (spare := spare) (held := held) (leaves P fuel) m' cs (litsOf n) (fun t ks ds x a b us c => ih m' t ks ds x n us a b c) fs.toList 0 ks xs h (by simpa using hlen) (fun i f hi => hf i f (by simpa using hi)) us hu
      simpa using this
    · rename_i c e ht
      split at h
      · rename_i ls hls
        split at h
        · rename_i hc
          obtain ⟨xs, m', rfl, rfl, hl, hlen, hf⟩ := DataW.trod_array ht hx
          have := many_data (enc := enc) (P := P) (w := w) (base := base) (spare := spare) (held := held) ls.length m' e cs (litsOf n) (fun ds x b us d => ih m' e ls ds x n us hls b d) c 0 xs (by rw [hl, hc.2]; simp) hlen (fun j hj => by
            have hg := hf j hj
            rw [hc.1] at hg
            simpa using hg) us hu
          simpa using this
        · cases h
      · cases h
    · cases h
end

/-- THE ONE LISTED VARIABLE: what its block holds. -/
theorem laid_one {P : Program} {W : World} {nm : String} {d : DataW Unit} {g : Nat} {t : TypeId} {ks : List (Option IntKind)} {us : List Value} (hh : ((([(nm, d)] : List (String × DataW Unit)).filter fun x => x.2.handleName?.isSome)) = [])
    (hg : P.globalNamed nm = some g) (ht : (P.globals[g]?).map (·.type) = some t) (hk : leaves P 9 t = some ks) (hu : litsOf 9 d = some us) (h : laidMetH P [(nm, d)] W) : ∃ t' fz, W.heap[g]? = some (.cells ⟨us⟩ t' fz) := by
  unfold laidMetH at h
  rw [hh] at h
  obtain ⟨ps, ⟨g0, t0, cs0, f0, p0, q0, hg0, ht0, hv0, hd0, _⟩, _⟩ := h
  obtain rfl := Option.some.inj (hg.symm.trans hg0)
  obtain rfl := Option.some.inj (ht.symm.trans ht0)
  have e := leaves_data 9 f0 t ks cs0.toList _ 9 us hk hd0 hu
  unfold World.var? at hv0
  rw [hg] at hv0
  simp only [Option.bind_some] at hv0
  split at hv0
  · rename_i c ty fz hb
    cases hv0
    exact ⟨ty, fz, by rw [hb, e]⟩
  · cases hv0
end Go.Proofs.YtdemgianfkafjaaDoor
