/- WITHIN HOW MANY MOVES ARE FAIR: the longest gap and the windows say the same; a plan of calm. Conditions: none. Own work. -/
import Derived.Test.YtkfcajgingmneaaRS6
namespace Go.Proofs.Ytkfcajgingmneaa
open Go.RowKit Rex
set_option linter.unusedVariables false
set_option linter.unusedSimpArgs false

theorem hasN_iff (xs : List (Row shM)) (j : Int) (f : Nat) : ∀ n, hasN xs j f n = true ↔ ∃ i, f ≤ i ∧ i < f + n ∧ needR xs i = j
  | 0 => by
    constructor
    · intro h; cases h
    · rintro ⟨i, h1, h2, _⟩; omega
  | n + 1 => by
    have ih := hasN_iff xs j f n
    rw [show hasN xs j f (n + 1) = (hasN xs j f n || decide (needR xs (f + n) = j)) from rfl, Bool.or_eq_true, ih, decide_eq_true_eq]
    constructor
    · rintro (⟨i, h1, h2, h3⟩ | h)
      · exact ⟨i, h1, by omega, h3⟩
      · exact ⟨f + n, by omega, by omega, h⟩
    · rintro ⟨i, h1, h2, h3⟩
      by_cases e : i = f + n
      · subst e; exact .inr h3
      · exact .inl ⟨i, h1, by omega, h3⟩

theorem lastN_no (xs : List (Row shM)) (j : Int) : ∀ n (i : Nat), lastN xs j n < (i : Int) → i < n → needR xs i ≠ j
  | 0, i, _, h => by omega
  | n + 1, i, h, hi => by
    rw [show lastN xs j (n + 1) = if needR xs n = j then (n : Int) else lastN xs j n from rfl] at h
    split at h
    · omega
    · by_cases e : i = n
      · subst e; assumption
      · exact lastN_no xs j n i h (by omega)

theorem lastN_none (xs : List (Row shM)) (j : Int) (f : Nat) : ∀ m, (∀ i, f ≤ i → i < f + m → needR xs i ≠ j) → lastN xs j (f + m) < (f : Int)
  | 0, _ => (lastN_bd xs j f).2
  | m + 1, h => by
    rw [show lastN xs j (f + (m + 1)) = if needR xs (f + m) = j then ((f + m : Nat) : Int) else lastN xs j (f + m) from rfl, if_neg (h (f + m) (by omega) (by omega))]
    exact lastN_none xs j f m fun i h1 h2 => h i h1 (by omega)

theorem longN_le (xs : List (Row shM)) (j l0 K : Int) : ∀ n, longN xs j l0 n ≤ K ↔ l0 ≤ K ∧ ∀ i < n, needR xs i = j → (i : Int) - lastN xs j i ≤ K
  | 0 => by simp [longN]
  | n + 1 => by
    have ih := longN_le xs j l0 K n
    have e : longN xs j l0 (n + 1) = if needR xs n = j then max (longN xs j l0 n) ((n : Int) - lastN xs j n) else longN xs j l0 n := rfl
    constructor
    · intro h
      have h1 : longN xs j l0 n ≤ K := by rw [e] at h; split at h <;> omega
      refine ⟨(ih.1 h1).1, fun i hi hj => ?_⟩
      by_cases ei : i = n
      · subst ei; rw [e, if_pos hj] at h; omega
      · exact (ih.1 h1).2 i (by omega) hj
    · rintro ⟨h1, h2⟩
      have h3 := ih.2 ⟨h1, fun i hi => h2 i (by omega)⟩
      rw [e]
      split
      · have := h2 n (by omega) (by assumption); omega
      · exact h3

def gapLe (xs : List (Row shM)) (j K : Int) : Prop := (∀ i < xs.length, needR xs i = j → (i : Int) - lastN xs j i ≤ K) ∧ (xs.length : Int) - lastN xs j xs.length ≤ K
theorem outN_le (xs : List (Row shM)) (K : Int) : ∀ m, outN xs m ≤ K ↔ 0 ≤ K ∧ ∀ j < m, gapLe xs (j : Int) K
  | 0 => by simp [outN]
  | m + 1 => by
    have ih := outN_le xs K m
    have e : outN xs (m + 1) = max (longN xs (m : Int) (outN xs m) xs.length) ((xs.length : Int) - lastN xs (m : Int) xs.length) := rfl
    have hl := longN_le xs (m : Int) (outN xs m) K xs.length
    constructor
    · intro h
      have h1 : longN xs (m : Int) (outN xs m) xs.length ≤ K := by omega
      obtain ⟨h2, h3⟩ := hl.1 h1
      obtain ⟨h4, h5⟩ := ih.1 h2
      refine ⟨h4, fun j hj => ?_⟩
      by_cases ej : j = m
      · subst ej; exact ⟨h3, by omega⟩
      · exact h5 j (by omega)
    · rintro ⟨h1, h2⟩
      have h3 := ih.2 ⟨h1, fun j hj => h2 j (by omega)⟩
      obtain ⟨h4, h5⟩ := h2 m (by omega)
      have := hl.2 ⟨h3, h4⟩
      omega

theorem gap_iff (xs : List (Row shM)) (j : Int) (k : Nat) (hk : 1 ≤ k) : gapLe xs j (k : Int) ↔ ∀ f, f + k ≤ xs.length → hasN xs j f k = true := by
  constructor
  · rintro ⟨h1, h2⟩ f hf
    rcases hb : hasN xs j f k with _ | _
    rotate_left
    · rfl
    exfalso
    have hno : ∀ i, f ≤ i → i < f + k → needR xs i ≠ j := by
      intro i a b c
      have := (hasN_iff xs j f k).2 ⟨i, a, b, c⟩
      rw [hb] at this; cases this
    have key : ∀ m, f + k + m ≤ xs.length → (k : Int) < ((f + k + m : Nat) : Int) - lastN xs j (f + k + m) := by
      intro m
      induction m with
      | zero =>
        intro _
        have := lastN_none xs j f k hno
        simp only [Nat.add_zero]
        omega
      | succ m ih =>
        intro hm
        have ih := ih (by omega)
        have e : lastN xs j (f + k + (m + 1)) = if needR xs (f + k + m) = j then ((f + k + m : Nat) : Int) else lastN xs j (f + k + m) := rfl
        rw [e]
        split
        · rename_i hj
          have := h1 (f + k + m) (by omega) hj
          omega
        · omega
    have := key (xs.length - (f + k)) (by omega)
    rw [show f + k + (xs.length - (f + k)) = xs.length by omega] at this
    omega
  · intro h
    have hb : ∀ i ≤ xs.length, (i : Int) - lastN xs j i ≤ (k : Int) := by
      intro i hi
      have b := lastN_bd xs j i
      rcases Int.lt_or_le (k : Int) ((i : Int) - lastN xs j i) with hc | hc
      · exfalso
        obtain ⟨f, hf⟩ : ∃ f : Nat, (f : Int) = lastN xs j i + 1 := ⟨(lastN xs j i + 1).toNat, by omega⟩
        obtain ⟨p, p1, p2, p3⟩ := (hasN_iff xs j f k).1 (h f (by omega))
        exact lastN_no xs j i p (by omega) (by omega) p3
      · exact hc
    exact ⟨fun i hi _ => hb i (by omega), hb xs.length (Nat.le_refl _)⟩

theorem allW_iff (xs : List (Row shM)) (k : Nat) : ∀ n, allW xs k n = true ↔ ∀ f < n, winB xs f k = true
  | 0 => by simp [allW]
  | n + 1 => by
    have ih := allW_iff xs k n
    rw [show allW xs k (n + 1) = (allW xs k n && winB xs n k) from rfl, Bool.and_eq_true, ih]
    constructor
    · rintro ⟨h1, h2⟩ f hf
      by_cases e : f = n
      · subst e; exact h2
      · exact h1 f (by omega)
    · intro h
      exact ⟨fun f hf => h f (by omega), h n (by omega)⟩

theorem fair_iff (xs : List (Row shM)) (k : Int) : fairR xs k = true ↔ 1 ≤ k ∧ leastF xs ≤ k := by
  unfold fairR
  rw [Bool.and_eq_true, decide_eq_true_eq, allW_iff]
  refine and_congr_right fun h1 => ?_
  obtain ⟨n, rfl⟩ : ∃ n : Nat, k = (n : Int) := ⟨k.toNat, by omega⟩
  have hn : ((n : Int)).toNat = n := by omega
  rw [hn]
  have hW : numW xs (n : Int) = xs.length + 1 - n := by unfold numW; omega
  rw [hW]
  have ho := outN_le xs (n : Int) 4
  have g := fun j => gap_iff xs j n (by omega)
  have hl : leastF xs ≤ (n : Int) ↔ (outN xs 4 ≤ (n : Int) ∨ xs.length < n) := by unfold leastF; omega
  rw [hl, ho]
  constructor
  · intro h
    by_cases hk : xs.length < n
    · exact .inr hk
    · left
      refine ⟨by omega, fun j hj => (g (j : Int)).2 fun f hf => ?_⟩
      have hw := h f (by omega)
      unfold winB at hw
      simp only [Bool.and_eq_true] at hw
      obtain ⟨a, b, c, d⟩ := hw
      match j, hj with
      | 0, _ => exact a
      | 1, _ => exact b
      | 2, _ => exact c
      | 3, _ => exact d
  · rintro (⟨_, h⟩ | h) f hf
    · unfold winB
      rw [(g 0).1 (h 0 (by omega)) f (by omega), (g 1).1 (h 1 (by omega)) f (by omega), (g 2).1 (h 2 (by omega)) f (by omega), (g 3).1 (h 3 (by omega)) f (by omega)]
      rfl
    · omega

theorem least_bd (xs : List (Row shM)) : 1 ≤ leastF xs ∧ leastF xs ≤ (xs.length : Int) + 1 := by
  have h : 1 ≤ outN xs 4 := by
    have e : outN xs 4 = max (longN xs ((3 : Nat) : Int) (outN xs 3) xs.length) ((xs.length : Int) - lastN xs ((3 : Nat) : Int) xs.length) := rfl
    have := lastN_bd xs ((3 : Nat) : Int) xs.length
    omega
  unfold leastF
  omega

theorem fair_same (xs : List (Row shM)) (k : Int) : fairR xs k = (decide (1 ≤ k) && decide (leastF xs ≤ k)) := by
  rw [Bool.eq_iff_iff, fair_iff]
  simp

/-! ### a plan of calm -/
theorem calm_kind (s : Int) : dgK s 0 0 0 = 2 ∧ dgI s 0 0 0 0 = 0 := by
  have h := th_bd s 100 (by omega) (by omega)
  have h2 := th_bd (dgS s 0 0 0) (0 + 1) (by omega) (by omega)
  refine ⟨?_, ?_⟩
  · unfold dgK
    rw [if_neg (by omega), if_neg (by omega), if_neg (by omega)]
  · unfold dgI
    omega
theorem getR_app {sh : List Kd} (xs ys : List (Row sh)) (i : Nat) : getR (xs ++ ys) i = if i < xs.length then getR xs i else getR ys (i - xs.length) := by
  unfold getR
  split
  · rename_i h; rw [List.getD_eq_getElem?_getD, List.getElem?_append_left h, ← List.getD_eq_getElem?_getD]
  · rename_i h; rw [List.getD_eq_getElem?_getD, List.getElem?_append_right (by omega), ← List.getD_eq_getElem?_getD]
/-- the kinds, and what is needed, of a plan of calm -/
theorem calm_at (s : Int) (xa xb : List (Row sh8)) : ∀ n i, i < 4 * n → needR (planN s 0 0 0 0 xa xb n) i = ((i % 4 : Nat) : Int) ∧ (getR (planN s 0 0 0 0 xa xb n) i).1 = if i % 4 < 2 then 1 else 2
  | 0, i, h => by omega
  | n + 1, i, h => by
    have hl := planN_length s 0 0 0 0 xa xb n
    have e : planN s 0 0 0 0 xa xb (n + 1) = planN s 0 0 0 0 xa xb n ++ [tickR 0 (inputF xa (n : Int)), tickR 1 (inputF xb (n : Int)), takeR (chN s 0 0 0 n) 0 0 0 0 0, takeR (nx (dgS (chN s 0 0 0 n) 0 0 0)) 0 0 0 0 1] := rfl
    have hg := getR_app (planN s 0 0 0 0 xa xb n) [tickR 0 (inputF xa (n : Int)), tickR 1 (inputF xb (n : Int)), takeR (chN s 0 0 0 n) 0 0 0 0 0, takeR (nx (dgS (chN s 0 0 0 n) 0 0 0)) 0 0 0 0 1] i
    unfold needR
    rw [e, hg]
    split
    · rename_i hi
      exact calm_at s xa xb n i (by omega)
    · rename_i hi
      obtain ⟨j, hj⟩ : ∃ j, i - (planN s 0 0 0 0 xa xb n).length = j := ⟨_, rfl⟩
      rw [hj]
      have hm : i % 4 = j := by omega
      rw [hm]
      have c0 := calm_kind (chN s 0 0 0 n)
      have c1 := calm_kind (nx (dgS (chN s 0 0 0 n) 0 0 0))
      have hj4 : j < 4 := by omega
      match j, hj4 with
      | 0, _ => exact ⟨by show needF 1 0 0 = 0; decide, by simp [getR, tickR]⟩
      | 1, _ => exact ⟨by show needF 1 1 0 = 1; decide, by simp [getR, tickR]⟩
      | 2, _ =>
        refine ⟨?_, ?_⟩
        · show needF (dgK (chN s 0 0 0 n) 0 0 0) 0 (dgI (chN s 0 0 0 n) 0 0 0 0) = 2
          rw [c0.1, c0.2]; decide
        · show dgK (chN s 0 0 0 n) 0 0 0 = 2
          exact c0.1
      | 3, _ =>
        refine ⟨?_, ?_⟩
        · show needF (dgK (nx (dgS (chN s 0 0 0 n) 0 0 0)) 0 0 0) 1 (dgI (nx (dgS (chN s 0 0 0 n) 0 0 0)) 0 0 0 0) = 3
          rw [c1.1, c1.2]; decide
        · show dgK (nx (dgS (chN s 0 0 0 n) 0 0 0)) 0 0 0 = 2
          exact c1.1
theorem calm_fair (s : Int) (xa xb : List (Row sh8)) (n : Nat) : fairR (planN s 0 0 0 0 xa xb n) 4 = true := by
  have hl := planN_length s 0 0 0 0 xa xb n
  rw [fair_iff]
  refine ⟨by omega, ?_⟩
  have h4 : outN (planN s 0 0 0 0 xa xb n) 4 ≤ 4 := by
    refine (outN_le _ 4 4).2 ⟨by omega, fun j hj => (gap_iff _ (j : Int) 4 (by omega)).2 fun f hf => (hasN_iff _ _ _ _).2 ?_⟩
    rw [hl] at hf
    refine ⟨f + (j + 4 - f % 4) % 4, by omega, by omega, ?_⟩
    rw [(calm_at s xa xb n _ (by omega)).1]
    congr 1
    omega
  unfold leastF
  omega
theorem calm_tight (s : Int) (xa xb : List (Row sh8)) (n : Nat) (hn : 1 ≤ n) : 3 < leastF (planN s 0 0 0 0 xa xb n) := by
  have hl := planN_length s 0 0 0 0 xa xb n
  rcases Int.lt_or_le 3 (leastF (planN s 0 0 0 0 xa xb n)) with h | h
  · exact h
  · exfalso
    have hf := (fair_iff (planN s 0 0 0 0 xa xb n) 3).2 ⟨by omega, h⟩
    unfold fairR at hf
    rw [Bool.and_eq_true, allW_iff] at hf
    have h0 := hf.2 0 (by unfold numW; omega)
    unfold winB at h0
    simp only [Bool.and_eq_true] at h0
    obtain ⟨i, i1, i2, i3⟩ := (hasN_iff _ _ _ _).1 h0.2.2.2
    rw [(calm_at s xa xb n i (by omega)).1] at i3
    omega
theorem calm_tally (s : Int) (xa xb : List (Row sh8)) (n : Nat) : ∀ m, m ≤ n → tallyN (planN s 0 0 0 0 xa xb n) 1 (4 * m) = 2 * (m : Int) ∧ tallyN (planN s 0 0 0 0 xa xb n) 2 (4 * m) = 2 * (m : Int)
  | 0, _ => ⟨rfl, rfl⟩
  | m + 1, h => by
    have ih := calm_tally s xa xb n m (by omega)
    have st : ∀ j i, tallyN (planN s 0 0 0 0 xa xb n) j (i + 1) = if kindF (getR (planN s 0 0 0 0 xa xb n) i).1 = j then tallyN (planN s 0 0 0 0 xa xb n) j i + 1 else tallyN (planN s 0 0 0 0 xa xb n) j i := fun _ _ => rfl
    have k0 := (calm_at s xa xb n (4 * m) (by omega)).2
    have k1 := (calm_at s xa xb n (4 * m + 1) (by omega)).2
    have k2 := (calm_at s xa xb n (4 * m + 2) (by omega)).2
    have k3 := (calm_at s xa xb n (4 * m + 3) (by omega)).2
    rw [if_pos (by omega)] at k0 k1
    rw [if_neg (by omega)] at k2 k3
    have f1 : kindF 1 = 1 := by decide
    have f2 : kindF 2 = 2 := by decide
    rw [show 4 * (m + 1) = 4 * m + 1 + 1 + 1 + 1 by omega]
    simp only [st]
    rw [k0, k1, k2, k3, f1, f2, ih.1, ih.2]
    simp
    omega
theorem sameN_self (xs : List (Row shM)) : ∀ n, sameN xs xs n = true
  | 0 => rfl
  | n + 1 => by show (sameN xs xs n && decide (getR xs n = getR xs n)) = true; rw [sameN_self xs n]; simp
end Go.Proofs.Ytkfcajgingmneaa
