/- A WALK BY COMPUTATION, rows: blocks of so many rows that nobody knows how many; slices of them. Conditions: none. Own work. -/
import Derived.Test.YtceffompldihjaaRex5
import Derived.Laws.MakeOwn
import Derived.Laws.Slices
namespace Go.Proofs.Ytceffompldihjaa.Rex
open Go.RowKit
set_option linter.unusedVariables false
set_option linter.unusedSimpArgs false

theorem flat_get {sh : List Kd} : ∀ {xs : List (Row sh)} {i j : Nat} {r : Row sh}, xs[i]? = some r → j < sh.length → (xs.flatMap (rowV sh))[i * sh.length + j]? = (rowV sh r)[j]?
  | [], i, j, r, h, _ => by simp at h
  | x :: xs, 0, j, r, h, hj => by
    simp at h
    subst h
    rw [List.flatMap_cons, Nat.zero_mul, Nat.zero_add, List.getElem?_append_left (by rw [rowV_length]; exact hj)]
  | x :: xs, i + 1, j, r, h, hj => by
    have h' : xs[i]? = some r := by simpa using h
    rw [List.flatMap_cons, List.getElem?_append_right (by rw [rowV_length, Nat.add_mul]; omega), rowV_length, show (i + 1) * sh.length + j - sh.length = i * sh.length + j by rw [Nat.add_mul]; omega]
    exact flat_get h' hj

theorem getR_some {sh : List Kd} {xs : List (Row sh)} {i : Nat} (h : i < xs.length) : xs[i]? = some (getR xs i) := by
  unfold getR
  rw [List.getD_eq_getElem?_getD, List.getElem?_eq_getElem h]; rfl

theorem RowsAt.get {sh : List Kd} {xs : List (Row sh)} {base tot : Nat} {vs : List Value} (h : RowsAt sh xs base tot vs) {i : Nat} (hi : i < xs.length) {j : Nat} {u : Value} (hu : (rowV sh (getR xs i))[j]? = some u) : vs[base + i * sh.length + j]? = some u := by
  obtain ⟨h1, h2, h3⟩ := h
  have hj : j < sh.length := by
    have := (List.getElem?_eq_some_iff.1 hu).1
    rwa [rowV_length] at this
  have h4 := flat_get (getR_some hi) hj
  rw [← h3, hu, List.getElem?_take] at h4
  split at h4
  · rw [List.getElem?_drop] at h4
    rw [Nat.add_assoc]; exact h4
  · cases h4

section
variable {P : Program} {w : World} {β : Nm}

/-- a part of what lies from a place on -/
theorem load_part {t : TypeId} {l : List Lf} {off : Nat} {v : Vv} {us : List Value} {k base : Nat} (hp : partL P t l off = some v) (hl : All₂ (HasL β) l us) (hc : ∀ (j : Nat) u, us[j]? = some u → w.cell? ⟨k, base + j, none⟩ = some u) :
    ∃ r, (loadVar t ⟨k, base + off, none⟩).run P w = .ok r w ∧ HasV β v r := by
  unfold partL at hp
  split at hp
  · rename_i ha
    split at hp
    · rename_i n hn
      split at hp
      · rename_i hd
        cases hp
        have hlen := of_decide_eq_true hd
        have hl2 := hl.length
        have hload : (loadCells ⟨k, base + off, none⟩ n).run P w = .ok ((us.drop off).take n).toArray w := by
          have hln : ((us.drop off).take n).length = n := by simp; omega
          have := run_loadCells_list (P := P) w ⟨k, base + off, none⟩ ((us.drop off).take n) (fun j v hj => by
            rw [addr_add, Nat.add_assoc]
            rw [List.getElem?_take] at hj
            split at hj
            · rw [List.getElem?_drop] at hj; exact hc _ _ hj
            · cases hj)
          rw [hln] at this
          exact this
        exact ⟨.agg ((us.drop off).take n).toArray, by simp [loadVar, run_isAgg ha, run_sizeOf' hn, hload], .agg ((hl.drop _).take _)⟩
      · cases hp
    · cases hp
  · rename_i ha
    split at hp
    · rename_i y hy
      cases hp
      obtain ⟨u, hu, hyu⟩ := hl.get hy
      exact ⟨u, by simp [loadVar, run_isAgg ha, hc _ _ hu], .one hyu⟩
    · cases hp
  · cases hp

theorem rdRow_run {t : TypeId} {base sz i f x : Nat} {b : Blk} {p : Option Prop} {v : Vv} (h : rdRow P t base sz i f b = some (p, v)) (hp : ob p) (hb : b.dead ∨ ∃ k, β x = some k ∧ HasB β b w.heap[k]?) :
    ∃ k u, β x = some k ∧ (loadVar t ⟨k, base + i * sz + f, none⟩).run P w = .ok u w ∧ HasV β v u := by
  unfold rdRow at h
  split at h
  · rename_i ro z sh xs base' tot e
    split at h
    · rename_i hsz
      have hsz' := Nat.eq_of_beq_eq_true hsz
      subst hsz'
      split at h
      · rename_i v' hv
        have fin : base = base' ∧ i < xs.length → ∃ k u, β x = some k ∧ (loadVar t ⟨k, base + i * sh.length + f, none⟩).run P w = .ok u w ∧ HasV β v' u := by
          rintro ⟨rfl, hi⟩
          obtain ⟨k, hk, _, vs, fz, t', hob, _, hR⟩ := hb.resolve_left (fun hd => by have h2 : xs = [] := hd.2; rw [h2] at hi; simp at hi)
          have hcell : ∀ i : Nat, w.cell? ⟨k, i, none⟩ = vs[i]? := fun i => by simp [World.cell?, hob]
          obtain ⟨r, hr, hh⟩ := load_part (P := P) (w := w) (k := k) (base := base + i * sh.length) hv (rowV_has (β := β)) (fun j u hu => by rw [hcell]; exact hR.get hi hu)
          exact ⟨k, r, hk, hr, hh⟩
        split at h
        · cases h; exact fin hp
        · split at h
          · rename_i hbb
            cases h
            exact fin ⟨Nat.eq_of_beq_eq_true hbb, hp⟩
          · cases h
      · cases h
    · cases h
  · cases h

/-! ### slices of slices -/
/-- a bound's value -/
def BV (d : Nat) : Option (Bool × Int) → Option Value → Nat → Prop
  | none, none, n => n = d
  | some (_, i), some v, n => ∃ k, v = .int k i ∧ 0 ≤ i ∧ n = i.toNat
  | _, _, _ => False

theorem bounds_run {isSlice : Bool} {len cap l h m : Nat} {lo hi mx : Option (Bool × Int)} {vl vh vm : Option Value} (hm : BV cap mx vm m) (hh : BV len hi vh h) (hl : BV 0 lo vl l) (h1 : l ≤ h) (h2 : h ≤ m) (h3 : m ≤ cap) (hx : hi = none → mx = none) :
    (Instr.sliceBounds isSlice len cap vl vh vm).run P w = .ok (l, h, m) w := by
  have sb : ∀ (k : IntKind) (i : Int) (y : Nat) (code : BoundsCode), 0 ≤ i → i.toNat ≤ y → (Instr.sliceBound (.int k i) y code).run P w = .ok i.toNat w := by
    intro k i y code h0 hy
    have : i ≤ (y : Int) := by omega
    simp [Instr.sliceBound, asIntOf, h0, this]
  cases mx with
  | none =>
    cases vm with
    | some v => exact hm.elim
    | none =>
      obtain rfl : m = cap := hm
      cases hi with
      | none =>
        cases vh with
        | some v => exact hh.elim
        | none =>
          obtain rfl : h = len := hh
          cases lo with
          | none =>
            cases vl with
            | some v => exact hl.elim
            | none => obtain rfl : l = 0 := hl; simp [Instr.sliceBounds]
          | some i =>
            cases vl with
            | none => exact hl.elim
            | some v => obtain ⟨k, rfl, h0, rfl⟩ := hl; simp [Instr.sliceBounds, sb _ _ _ _ h0 h1]
      | some j =>
        cases vh with
        | none => exact hh.elim
        | some v =>
          obtain ⟨kh, rfl, hh0, rfl⟩ := hh
          cases lo with
          | none =>
            cases vl with
            | some v => exact hl.elim
            | none => obtain rfl : l = 0 := hl; simp [Instr.sliceBounds, sb _ _ _ _ hh0 h2]
          | some i =>
            cases vl with
            | none => exact hl.elim
            | some v => obtain ⟨k, rfl, h0, rfl⟩ := hl; simp [Instr.sliceBounds, sb _ _ _ _ hh0 h2, sb _ _ _ _ h0 h1]
  | some q =>
    cases vm with
    | none => exact hm.elim
    | some v =>
      obtain ⟨km, rfl, hm0, rfl⟩ := hm
      cases hi with
      | none => exact absurd (hx rfl) (by simp)
      | some j =>
        cases vh with
        | none => exact hh.elim
        | some v =>
          obtain ⟨kh, rfl, hh0, rfl⟩ := hh
          cases lo with
          | none =>
            cases vl with
            | some v => exact hl.elim
            | none => obtain rfl : l = 0 := hl; simp [Instr.sliceBounds, sb _ _ _ _ hm0 h3, sb _ _ _ _ hh0 h2]
          | some i =>
            cases vl with
            | none => exact hl.elim
            | some v => obtain ⟨k, rfl, h0, rfl⟩ := hl; simp [Instr.sliceBounds, sb _ _ _ _ hm0 h3, sb _ _ _ _ hh0 h2, sb _ _ _ _ h0 h1]

theorem sliceAt_slice {t e : TypeId} {size : Nat} (hu : P.underlying t = some (.slice e)) (hs : tsize P e = some size) {a : Option Addr} {len cap l h m : Nat} {vl vh vm : Option Value} (hb : (Instr.sliceBounds true len cap vl vh vm).run P w = .ok (l, h, m) w) :
    (Instr.sliceAt t (.slice a len cap) vl vh vm).run P w = .ok (.slice (if m = l then a else a.map (·.add (l * size))) (h - l) (m - l)) w := by
  simp [Instr.sliceAt, Instr.slice, run_underlying hu, hb, run_sizeOf' hs]
theorem sliceAt_array {t e : TypeId} {n size : Nat} (hu : P.underlying t = some (.array n e)) (hs : tsize P e = some size) {a : Addr} {l h m : Nat} {vl vh vm : Option Value} (hb : (Instr.sliceBounds false n n vl vh vm).run P w = .ok (l, h, m) w) :
    (Instr.sliceAt t (.pointer (some a)) vl vh vm).run P w = .ok (.slice (some (if m = l then a else a.add (l * size))) (h - l) (m - l)) w := by
  simp [Instr.sliceAt, run_underlying hu, Instr.sureAddr, hb, run_sizeOf' hs]

/-- what a bound may be -/
def BH (b : Option (Bool × Int)) (v : Option Value) : Prop := match b, v with
  | none, none => True
  | some (_, i), some v => ∃ k, v = .int k i
  | _, _ => False

theorem kNat_spec {b : Option (Bool × Int)} {d n : Nat} {v : Option Value} (h : kNat b d = some n) (hv : BH b v) : BV d b v n := by
  cases b with
  | none =>
    cases h
    cases v with
    | none => rfl
    | some v => exact hv.elim
  | some q =>
    obtain ⟨kn, i⟩ := q
    cases kn with
    | false => cases h
    | true =>
      unfold kNat at h
      simp only at h
      cases hd : decide (0 ≤ i) with
      | false => rw [hd] at h; cases h
      | true =>
        rw [hd] at h
        cases h
        cases v with
        | none => exact hv.elim
        | some v => obtain ⟨k, rfl⟩ := hv; exact ⟨k, rfl, of_decide_eq_true hd, rfl⟩

theorem BH.bv {i : Int} {kn : Bool} {v : Option Value} (h : BH (some (kn, i)) v) (h0 : 0 ≤ i) (d : Nat) : BV d (some (kn, i)) v i.toNat := by
  cases v with
  | none => exact h.elim
  | some v => obtain ⟨k, rfl⟩ := h; exact ⟨k, rfl, h0, rfl⟩
theorem BH.none {v : Option Value} (h : BH none v) (d : Nat) : BV d none v d := by
  cases v with
  | none => rfl
  | some v => exact h.elim

theorem kBnd_spec {len cap l h m : Nat} {lo hi mx : Option (Bool × Int)} {vl vh vm : Option Value} (hk : kBnd len cap lo hi mx = some (l, h, m)) (h1 : BH lo vl) (h2 : BH hi vh) (h3 : BH mx vm) (isSlice : Bool) :
    (Instr.sliceBounds isSlice len cap vl vh vm).run P w = .ok (l, h, m) w ∧ l ≤ h ∧ h ≤ m ∧ m ≤ cap := by
  unfold kBnd at hk
  split at hk
  · rename_i l' h' m' e1 e2 e3
    have fin : (match Nat.ble l' h' && (Nat.ble h' m' && Nat.ble m' cap) with
      | true => some (l', h', m')
      | false => Option.none) = some (l, h, m) → (hi = Option.none → mx = Option.none) → (Instr.sliceBounds isSlice len cap vl vh vm).run P w = .ok (l, h, m) w ∧ l ≤ h ∧ h ≤ m ∧ m ≤ cap := by
      intro hk hx
      split at hk
      · rename_i hb
        cases hk
        simp only [Bool.and_eq_true, Nat.ble_eq] at hb
        obtain ⟨b1, b2, b3⟩ := hb
        exact ⟨bounds_run (kNat_spec e3 h3) (kNat_spec e2 h2) (kNat_spec e1 h1) b1 b2 b3 hx, b1, b2, b3⟩
      · cases hk
    split at hk
    · cases hk
    · rename_i hne
      refine fin hk ?_
      intro e
      cases mx with
      | none => rfl
      | some q => exact absurd rfl (hne _ e)
  · cases hk

theorem rs_slice {z : Bool} {tg x base sz o n c : Nat} {v : Value} (h : RsOk β z tg x base sz o n c v) {l hh m : Nat} (h1 : l ≤ hh) (h2 : hh ≤ n ∨ z = false) (h3 : hh ≤ m) (h4 : m ≤ c) :
    ∃ a, v = .slice a n c ∧ RsOk β (z || decide (m = l)) 1 x base sz (o + l) (hh - l) (m - l) (.slice (if m = l then a else a.map (·.add (l * sz))) (hh - l) (m - l)) := by
  obtain ⟨k1, k2, k3⟩ := h
  rcases k3 with ⟨rfl, rfl, q, rfl⟩ | ⟨rfl, b, hb, rfl⟩
  · have h2 : hh ≤ 0 := h2.resolve_right (by simp)
    have e0 : hh - l = 0 := by omega
    rw [e0]
    exact ⟨q, rfl, fun e => (by cases e), by omega, .inl ⟨rfl, rfl, _, rfl⟩⟩
  · refine ⟨_, rfl, fun e => (by cases e), by omega, ?_⟩
    by_cases e : m = l
    · left
      have e0 : hh - l = 0 := by omega
      rw [e0]
      exact ⟨by simp [e], rfl, _, rfl⟩
    · right
      refine ⟨by simp [e], b, hb, ?_⟩
      rw [if_neg e]
      simp only [Option.map_some, addr_add]
      congr 3
      rw [Nat.add_mul]; omega
theorem rs_slice0 {z : Bool} {tg x base sz o n c tg' : Nat} {v : Value} (h : RsOk β z tg x base sz o n c v) (ht : tg' ≠ 0) {hh m : Nat} (h2 : hh ≤ n) (h3 : hh ≤ m) (h4 : m ≤ c) :
    ∃ a, v = .slice a n c ∧ RsOk β z tg' x base sz o hh m (.slice (if m = 0 then a else a.map (·.add (0 * sz))) (hh - 0) (m - 0)) := by
  obtain ⟨k1, k2, k3⟩ := h
  rcases k3 with ⟨rfl, rfl, q, rfl⟩ | ⟨rfl, b, hb, rfl⟩
  · have e0 : hh = 0 := by omega
    subst e0
    exact ⟨q, rfl, fun e => absurd e ht, by omega, .inl ⟨rfl, rfl, _, rfl⟩⟩
  · refine ⟨_, rfl, fun e => absurd e ht, by omega, ?_⟩
    right
    refine ⟨rfl, b, hb, ?_⟩
    simp [addr_add]

theorem sliceQ_runs (w : World) {t : TypeId} {x : SV} {lo hi mx : Option (Bool × Int)} {u : Value} {vl vh vm : Option Value} {p : Option Prop} {s : SV} (h : sliceQ P t x lo hi mx = some (p, s)) (hp : ob p) (hx : Has β x u) (h1 : BH lo vl) (h2 : BH hi vh) (h3 : BH mx vm) :
    ∃ r, (∀ w : World, (Instr.sliceAt t u vl vh vm).run P w = .ok r w) ∧ Has β s r := by
  unfold sliceQ at h
  split at h
  · rename_i e hu
    split at h
    · rename_i size hs
      split at h
      · rename_i z tg y base sz o n c
        split at h
        · rename_i hsz
          have := Nat.eq_of_beq_eq_true hsz
          subst this
          cases hx with
          | v hx => cases hx with
            | one hx => cases hx with
              | rs hx =>
                have hnc := hx.2.1
                unfold slRs at h
                split at h
                · rename_i kh hh
                  cases h
                  obtain ⟨p1, p2⟩ := hp
                  obtain ⟨a, rfl, hr⟩ := rs_slice0 hx (tg' := 1) (by decide) (hh := hh.toNat) (m := c) (by omega) (by omega) (Nat.le_refl _)
                  exact ⟨_, fun w => sliceAt_slice hu hs (bounds_run (h3.none c) (h2.bv p1 n) (h1.none 0) (by omega) (by omega) (Nat.le_refl _) (by simp)), .v (.one (.rs hr))⟩
                · rename_i kl l
                  cases h
                  obtain ⟨p1, p2⟩ := hp
                  obtain ⟨a, rfl, hr⟩ := rs_slice hx (l := l.toNat) (hh := n) (m := c) (by omega) (.inl (Nat.le_refl _)) hnc (Nat.le_refl _)
                  exact ⟨_, fun w => sliceAt_slice hu hs (bounds_run (h3.none c) (h2.none n) (h1.bv p1 0) (by omega) hnc (Nat.le_refl _) (by simp)), .v (.one (.rs hr))⟩
                · rename_i kl l kh hh
                  split at h
                  · cases h
                    obtain ⟨p1, p2, p3, p4⟩ := hp
                    obtain ⟨a, rfl, hr⟩ := rs_slice hx (l := l.toNat) (hh := hh.toNat) (m := c) (by omega) (.inr p4) (by omega) (Nat.le_refl _)
                    exact ⟨_, fun w => sliceAt_slice hu hs (bounds_run (h3.none c) (h2.bv (by omega) n) (h1.bv p1 0) (by omega) (by omega) (Nat.le_refl _) (by simp)), .v (.one (.rs hr))⟩
                  · cases h
                    obtain ⟨p1, p2, p3⟩ := hp
                    obtain ⟨a, rfl, hr⟩ := rs_slice hx (l := l.toNat) (hh := hh.toNat) (m := c) (by omega) (.inl (by omega)) (by omega) (Nat.le_refl _)
                    exact ⟨_, fun w => sliceAt_slice hu hs (bounds_run (h3.none c) (h2.bv (by omega) n) (h1.bv p1 0) (by omega) (by omega) (Nat.le_refl _) (by simp)), .v (.one (.rs hr))⟩
                · rename_i kh hh km m
                  split at h
                  · rename_i hd
                    simp only [Bool.and_eq_true, decide_eq_true_eq] at hd
                    obtain ⟨_, rfl⟩ := hd
                    cases h
                    obtain ⟨p1, p2, p3⟩ := hp
                    obtain ⟨a, rfl, hr⟩ := rs_slice0 hx (tg' := 2) (by decide) (hh := hh.toNat) (m := 0) (by omega) (by omega) (by omega)
                    exact ⟨_, fun w => sliceAt_slice hu hs (bounds_run (h3.bv (Int.le_refl _) c) (h2.bv p1 n) (h1.none 0) (by omega) (by omega) (by omega) (by simp)), .v (.one (.rs hr))⟩
                  · cases h
                    obtain ⟨p1, p2, p3⟩ := hp
                    obtain ⟨a, rfl, hr⟩ := rs_slice0 hx (tg' := 1) (by decide) (hh := hh.toNat) (m := m.toNat) (by omega) (by omega) (by omega)
                    exact ⟨_, fun w => sliceAt_slice hu hs (bounds_run (h3.bv (by omega) c) (h2.bv p1 n) (h1.none 0) (by omega) (by omega) (by omega) (by simp)), .v (.one (.rs hr))⟩
                · rename_i kl l kh hh km m
                  cases h
                  obtain ⟨p1, p2, p3, p4⟩ := hp
                  obtain ⟨a, rfl, hr⟩ := rs_slice hx (l := l.toNat) (hh := hh.toNat) (m := m.toNat) (by omega) (.inl (by omega)) (by omega) (by omega)
                  exact ⟨_, fun w => sliceAt_slice hu hs (bounds_run (h3.bv (by omega) c) (h2.bv (by omega) n) (h1.bv p1 0) (by omega) (by omega) (by omega) (by simp)), .v (.one (.rs hr))⟩
                · cases h
        · cases h
      · cases hx with
        | v hx => cases hx with
          | one hx => cases hx with
            | nils =>
              unfold slNil at h
              split at h
              · rename_i lhm hk
                obtain ⟨l, hh, m⟩ := lhm
                cases h
                obtain ⟨_, b1, b2, b3⟩ := kBnd_spec (P := P) (w := w) hk h1 h2 h3 true
                have hr := fun w => (kBnd_spec (P := P) (w := w) hk h1 h2 h3 true).1
                obtain rfl : m = 0 := by omega
                obtain rfl : hh = 0 := by omega
                obtain rfl : l = 0 := by omega
                exact ⟨_, fun w => sliceAt_slice hu hs (hr w), .v (.one .nils)⟩
              · cases h
      · rename_i y off kn len cap
        split at h
        · rename_i l hh m hk
          cases h
          obtain ⟨_, b1, b2, b3⟩ := kBnd_spec (P := P) (w := w) hk h1 h2 h3 true
          have hr := fun w => (kBnd_spec (P := P) (w := w) hk h1 h2 h3 true).1
          cases hx with
          | v hx => cases hx with
            | one hx => cases hx with
              | sl hb =>
                refine ⟨_, fun w => sliceAt_slice hu hs (hr w), .v (.one ?_)⟩
                unfold offSl
                split
                · rename_i e; rw [if_pos (Nat.eq_of_beq_eq_true e)]; exact .sl hb
                · rename_i e; rw [if_neg (Nat.ne_of_beq_eq_false e)]; simp only [Option.map_some, addr_add]; exact .sl hb
        · cases h
      · cases h
    · cases h
  · rename_i len e hu
    split at h
    · rename_i size hs
      split at h
      · rename_i y off
        split at h
        · rename_i l hh m hk
          cases h
          obtain ⟨_, b1, b2, b3⟩ := kBnd_spec (P := P) (w := w) hk h1 h2 h3 false
          have hr := fun w => (kBnd_spec (P := P) (w := w) hk h1 h2 h3 false).1
          cases hx with
          | v hx => cases hx with
            | one hx => cases hx with
              | ptr hb =>
                refine ⟨_, fun w => sliceAt_array hu hs (hr w), .v (.one ?_)⟩
                unfold offSl
                split
                · rename_i e; rw [if_pos (Nat.eq_of_beq_eq_true e)]; exact .sl hb
                · rename_i e; rw [if_neg (Nat.ne_of_beq_eq_false e), addr_add]; exact .sl hb
        · cases h
      · rename_i g off
        split at h
        · rename_i l hh m hk
          cases h
          obtain ⟨_, b1, b2, b3⟩ := kBnd_spec (P := P) (w := w) hk h1 h2 h3 false
          have hr := fun w => (kBnd_spec (P := P) (w := w) hk h1 h2 h3 false).1
          cases hx with
          | v hx => cases hx with
            | one hx => cases hx with
              | op hb =>
                refine ⟨_, fun w => sliceAt_array hu hs (hr w), .v (.one ?_)⟩
                unfold offSl
                split
                · rename_i e; rw [if_pos (Nat.eq_of_beq_eq_true e)]; exact .op rfl
                · rename_i e; rw [if_neg (Nat.ne_of_beq_eq_false e), addr_add]; exact .op rfl
        · cases h
      · cases h
    · cases h
  · cases h

theorem sliceQ_run {t : TypeId} {x : SV} {lo hi mx : Option (Bool × Int)} {u : Value} {vl vh vm : Option Value} {p : Option Prop} {s : SV} (h : sliceQ P t x lo hi mx = some (p, s)) (hp : ob p) (hx : Has β x u) (h1 : BH lo vl) (h2 : BH hi vh) (h3 : BH mx vm) :
    ∃ r, (Instr.sliceAt t u vl vh vm).run P w = .ok r w ∧ Has β s r := by
  obtain ⟨r, h4, h5⟩ := sliceQ_runs w h hp hx h1 h2 h3
  exact ⟨r, h4 w, h5⟩
/-! ### 'make' -/
theorem shL_zero {β : Nm} : ∀ {l : List Lf} {sh : List Kd} {vs : List Value}, shL l = some sh → All₂ (HasL β) l vs → vs = rowV sh (row0 sh)
  | [], sh, vs, h, k => by cases h; rw [k.nil_inv]; rfl
  | .int k kn n :: l, sh, vs0, h, hv0 => by
    obtain ⟨v, vs, rfl, h1, hv⟩ := hv0.cons_inv
    unfold shL at h
    split at h
    · rename_i hd
      have := of_decide_eq_true hd
      subst this
      split at h
      · rename_i sh' hs
        cases h; cases h1
        rw [shL_zero hs hv]; rfl
      · cases h
    · cases h
  | .bool kn q :: l, sh, vs0, h, hv0 => by
    obtain ⟨v, vs, rfl, h1, hv⟩ := hv0.cons_inv
    cases q with
    | true => cases h
    | false =>
      unfold shL at h
      simp only at h
      split at h
      · rename_i sh' hs
        cases h; cases h1
        rw [shL_zero hs hv]; rfl
      · cases h
  | .ptr _ _ :: _, _, _, h, _ => by cases h
  | .nilp :: _, _, _, h, _ => by cases h
  | .sl _ _ _ _ _ :: _, _, _, h, _ => by cases h
  | .nils :: _, _, _, h, _ => by cases h
  | .op _ :: _, _, _, h, _ => by cases h
  | .junk :: _, _, _, h, _ => by cases h
  | .rs .. :: _, _, _, h, _ => by cases h
  | .rp .. :: _, _, _, h, _ => by cases h

theorem shOf_spec {e : TypeId} {sh : List Kd} (h : shOf P e = some sh) : ∃ i z, P.info? e = some i ∧ i.zero = some z ∧ z.cells = ⟨rowV sh (row0 sh)⟩ := by
  unfold shOf at h
  split at h
  · rename_i l hl
    have hl' := hl
    unfold zeroL at hl'
    split at hl'
    · rename_i i hi
      split at hl'
      · rename_i z hz
        obtain ⟨z', vs, hr, hc, hv⟩ := zeroL_run (P := P) (w := default) (β := fun _ => none) hl
        have : z' = z := by
          simp [zeroValue, typeInfo, hi, hz] at hr
          exact hr.symm
        subst this
        exact ⟨i, z', hi, hz, by rw [hc, shL_zero h hv]⟩
      · cases hl'
    · cases hl'
  · cases h

theorem flat_replicate {sh : List Kd} {r : Row sh} (h0 : 0 < sh.length) : ∀ (n m : Nat), n * sh.length ≤ m → (((List.range m).map fun i => (⟨rowV sh r⟩ : Array Value)[i % (⟨rowV sh r⟩ : Array Value).size]!).take (n * sh.length)) = (List.replicate n r).flatMap (rowV sh)
  | n, m, hm => by
    apply List.ext_getElem?
    intro j
    have hl : (rowV sh r).length = sh.length := rowV_length
    rw [List.getElem?_take]
    split
    · rename_i hj
      have hq : j / sh.length < n := by rw [Nat.div_lt_iff_lt_mul h0]; exact hj
      have hm' : j % sh.length < sh.length := Nat.mod_lt _ h0
      have hjj : j = j / sh.length * sh.length + j % sh.length := by rw [Nat.mul_comm]; exact (Nat.div_add_mod j sh.length).symm
      have h1 : (List.replicate n r)[j / sh.length]? = some r := by rw [List.getElem?_replicate, if_pos hq]
      have h2 := flat_get h1 hm'
      rw [← hjj] at h2
      rw [h2, List.getElem?_map, List.getElem?_range (by omega)]
      have h3 : (⟨rowV sh r⟩ : Array Value).size = sh.length := hl
      simp only [Option.map_some, h3]
      rw [getElem!_pos (⟨rowV sh r⟩ : Array Value) (j % sh.length) (by rw [h3]; exact hm')]
      exact (List.getElem?_eq_getElem (by rw [hl]; exact hm')).symm
    · rename_i hj
      rw [List.getElem?_eq_none]
      rw [flat_length, List.length_replicate]
      omega

theorem makeQ_run {nm : Nat} {t : TypeId} {l c : Bool × Int} {kl kc : IntKind} {p : Option Prop} {s : SV} {bl : Option Blk} (h : makeQ P nm t l c = some (p, s, bl)) (hp : ob p) (hnm : β nm = none) :
    ∃ r w', (Instr.makeSlice t (.int kl l.2) (.int kc c.2)).run P w = .ok r w' ∧ Left β w nm s r w' bl := by
  unfold makeQ at h
  split at h
  · rename_i e hu
    split at h
    · rename_i n by_ hn hby
      have hby' : ∃ i, P.info? e = some i ∧ i.bytes = by_ ∧ i.size = n := by
        unfold ibytes at hby
        unfold tsize at hn
        split at hby
        · rename_i i hi
          rw [hi] at hn
          cases hn; cases hby
          exact ⟨i, hi, rfl, rfl⟩
        · cases hby
      obtain ⟨i, hi, rfl, rfl⟩ := hby'
      split at h
      · split at h
        · rename_i hd
          simp only [Bool.and_eq_true, decide_eq_true_eq] at hd
          obtain ⟨⟨d1, d2, d3⟩, d4⟩ := hd
          split at h
          · rename_i z hz
            cases h
            obtain ⟨zs, hzr, hzv⟩ := zeroRow_run (P := P) (w := w) (β := β) hz
            have hle := Nm.le_set (a := w.heap.size) hnm
            have hb : (i.bytes : Int) * c.2 ≤ 281474976710656 := by
              have h1 : (i.bytes : Int) * c.2 ≤ 65536 * c.2 := Int.mul_le_mul_of_nonneg_right (by omega) (by omega)
              omega
            by_cases h0 : c.2.toNat * i.size = 0
            · rw [if_pos h0] at hzr
              cases hzr
              refine ⟨.slice (some ⟨w.heap.size, 0, none⟩) l.2.toNat c.2.toNat, w.alloc (.cells #[] e), ?_, _, rfl, ⟨[], rfl, ?_⟩, .v (.one (.sl (by simp [Nm.set])))⟩
              · have wl : IntKind.i64.wrap l.2 = l.2 := by rw [IntKind.wrap_i64]; omega
                have wc : IntKind.i64.wrap c.2 = c.2 := by rw [IntKind.wrap_i64]; omega
                have n1 : ¬ c.2 < 0 := by omega
                have n2 : ¬ (281474976710656 < (i.bytes : Int) * c.2) := by omega
                have n3 : ¬ l.2 < 0 := by omega
                have n4 : ¬ c.2 < l.2 := by omega
                simp [Instr.makeSlice, run_underlying hu, asInt, asIntOf, typeInfo, hi, sizeOf, wl, wc, n1, n2, n3, n4, h0, newRow, Array.range_zero']
              · rw [h0] at hzv
                simpa using hzv.mono fun _ _ => HasL.mono hle
            · rw [if_neg h0] at hzr
              rw [Sem.run_bind] at hzr
              cases hz0 : i.zero with
              | none => simp [zeroValue, typeInfo, hi, hz0] at hzr
              | some z0 =>
                have hzz : zs = z0.cells := by simp [zeroValue, typeInfo, hi, hz0] at hzr; exact hzr.symm
                subst hzz
                exact ⟨_, _, run_make w t e i z0 hu hi hz0 kl kc l.2 c.2 d1 d2 hb (by omega), _, rfl, ⟨_, rfl, hzv.mono fun _ _ => HasL.mono hle⟩, .v (.one (.sl (by simp [Nm.set])))⟩
          · cases h
        · cases h
      · split at h
        · rename_i sh hsh
          split at h
          · rename_i hsz
            have hsz := Nat.eq_of_beq_eq_true hsz
            cases h
            obtain ⟨q1, q2, q3, q4⟩ := hp
            obtain ⟨i', z0, hi', hz0, hzc⟩ := shOf_spec hsh
            rw [hi] at hi'; cases hi'
            refine ⟨_, _, run_make w t e i z0 hu hi hz0 kl kc l.2 c.2 q1 q2 (by omega) (by omega), _, rfl, ?_, .v (.one (.rs ⟨fun _ => rfl, by omega, .inr ⟨rfl, w.heap.size, by simp [Nm.set], by simp⟩⟩))⟩
            refine ⟨rfl, ((madeCells z0.cells (c.2.toNat * i.size))).toList, (0, 0), _, rfl, fun _ => ⟨rfl, rfl⟩, by simp; omega, by simp [size_madeCells, hsz], ?_⟩
            rcases Nat.eq_zero_or_pos sh.length with e0 | h0
            · rw [e0]
              have : sh = [] := List.eq_nil_of_length_eq_zero e0
              subst this
              simp [rowV]
            · rw [← flat_replicate h0 l.2.toNat (c.2.toNat * i.size) (by rw [hsz]; exact Nat.mul_le_mul_right _ (by omega)), hzc, List.drop_zero, List.length_replicate]
              unfold madeCells
              simp [Array.toList_range]
          · cases h
        · cases h
    · cases h
  · cases h
end
end Go.Proofs.Ytceffompldihjaa.Rex
