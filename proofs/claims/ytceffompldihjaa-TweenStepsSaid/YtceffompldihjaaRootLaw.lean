/- THE WHOLE ROOT OF A NUMBER, and what keeps a search for it true. Plain numbers. Own work. -/
import Derived.Test.YtceffompldihjaaBase
import Derived.Lib.BitFns
import Derived.Lib.ItoaNum
namespace Go.Proofs.Ytceffompldihjaa

/-- the greatest whole number whose square is not above n -/
def isq : Nat → Nat
  | 0 => 0
  | n + 1 => if (isq n + 1) * (isq n + 1) ≤ n + 1 then isq n + 1 else isq n

theorem isq_spec (n : Nat) : isq n * isq n ≤ n ∧ n < (isq n + 1) * (isq n + 1) := by
  induction n with
  | zero => decide
  | succ n ih =>
    unfold isq
    obtain ⟨h1, h2⟩ := ih
    split
    · rename_i h
      refine ⟨h, ?_⟩
      generalize isq n = r at *
      have e : (r + 1 + 1) * (r + 1 + 1) = (r + 1) * (r + 1) + 2 * r + 3 := by simp only [Nat.add_mul, Nat.mul_add]; omega
      omega
    · rename_i h
      exact ⟨by omega, by omega⟩
theorem sq_lt {a b : Nat} (h : a * a < b * b) : a < b := by
  rcases Nat.lt_or_ge a b with g | g
  · exact g
  · exact absurd (Nat.mul_le_mul g g) (by omega)
theorem isq_unique (n r : Nat) (h1 : r * r ≤ n) (h2 : n < (r + 1) * (r + 1)) : r = isq n := by
  obtain ⟨g1, g2⟩ := isq_spec n
  have a := sq_lt (Nat.lt_of_le_of_lt h1 g2)
  have b := sq_lt (Nat.lt_of_le_of_lt g1 h2)
  omega
theorem isq_lt (n : Nat) (h : n < 18446744073709551616) : isq n < 4294967296 := by
  have := (isq_spec n).1
  exact sq_lt (show isq n * isq n < 4294967296 * 4294967296 by omega)

/-- bit by bit: what holds at each round's head -/
def RootInv (n r b : Nat) : Prop :=
  r * r ≤ n ∧ ((b = 0 ∧ n < (r + 1) * (r + 1)) ∨ ∃ k, k ≤ 32 ∧ b = 2 ^ k ∧ r % 2 ^ (k + 1) = 0 ∧ n < (r + 2 ^ (k + 1)) * (r + 2 ^ (k + 1)))

theorem bitLen_lt (n : Nat) (h : n < 18446744073709551616) : n < 2 ^ Lib.bitLen n := by
  by_cases h0 : n = 0
  · subst h0; exact Nat.two_pow_pos _
  · exact (Lib.bitLenAux_bounds 64 n h h0).2.2

theorem root_start (n : Nat) (h : n < 18446744073709551616) : Lib.bitLen n / 2 ≤ 32 ∧ RootInv n 0 (2 ^ (Lib.bitLen n / 2)) := by
  have h1 := bitLen_lt n h
  have h2 : Lib.bitLen n ≤ 64 := Lib.bitLen_le n 64 (by omega) h
  refine ⟨by omega, by omega, .inr ⟨Lib.bitLen n / 2, by omega, rfl, by simp, ?_⟩⟩
  generalize Lib.bitLen n = l at *
  rw [Nat.zero_add, ← Nat.pow_add]
  exact Nat.lt_of_lt_of_le h1 (Nat.pow_le_pow_right (by omega) (by omega))

/-- the next one to be tried: the bit stands where nothing stood -/
theorem root_join (n r b : Nat) (h : RootInv n r b) (hb : 0 < b) : r ||| b = r + b := by
  obtain ⟨_, h | ⟨k, hk, rfl, hr, _⟩⟩ := h
  · omega
  · exact nat_join (k + 1) r (2 ^ k) hr (Nat.pow_lt_pow_right (by omega) (by omega))
theorem root_small (n r b : Nat) (h : RootInv n r b) (hn : n < 18446744073709551616) : r < 4294967296 ∧ b ≤ 4294967296 := by
  obtain ⟨h1, h⟩ := h
  refine ⟨sq_lt (show r * r < 4294967296 * 4294967296 by omega), ?_⟩
  rcases h with h | ⟨k, hk, rfl, _⟩
  · omega
  · exact Nat.le_trans (Nat.pow_le_pow_right (by omega) hk) (by decide)
theorem pow_half (k : Nat) : 2 ^ (k + 1) / 2 = 2 ^ k := by rw [Nat.pow_succ]; omega
theorem root_yes (n r b : Nat) (h : RootInv n r b) (hb : 0 < b) (hy : (r + b) * (r + b) ≤ n) : RootInv n (r + b) (b / 2) := by
  obtain ⟨h1, h | ⟨k, hk, rfl, hr, hlt⟩⟩ := h
  · omega
  · refine ⟨hy, ?_⟩
    have e : r + 2 ^ k + 2 ^ k = r + 2 ^ (k + 1) := by rw [Nat.pow_succ]; omega
    cases k with
    | zero => exact .inl ⟨by decide, by simpa using hlt⟩
    | succ k =>
      refine .inr ⟨k, by omega, pow_half k, ?_, by rw [e]; exact hlt⟩
      rw [Nat.add_mod_right]
      have hd : 2 ^ (k + 1) ∣ r := Nat.dvd_trans (Nat.pow_dvd_pow 2 (by omega)) (Nat.dvd_of_mod_eq_zero hr)
      exact Nat.mod_eq_zero_of_dvd hd
theorem root_no (n r b : Nat) (h : RootInv n r b) (hb : 0 < b) (hn : ¬ (r + b) * (r + b) ≤ n) : RootInv n r (b / 2) := by
  obtain ⟨h1, h | ⟨k, hk, rfl, hr, hlt⟩⟩ := h
  · omega
  · refine ⟨h1, ?_⟩
    cases k with
    | zero => exact .inl ⟨by decide, by simp at hn; omega⟩
    | succ k =>
      refine .inr ⟨k, by omega, pow_half k, ?_, by omega⟩
      have hd : 2 ^ (k + 1) ∣ r := Nat.dvd_trans (Nat.pow_dvd_pow 2 (by omega)) (Nat.dvd_of_mod_eq_zero hr)
      exact Nat.mod_eq_zero_of_dvd hd
theorem root_done (n r : Nat) (h : RootInv n r 0) : r = isq n := by
  obtain ⟨h1, h | ⟨k, hk, hb, _⟩⟩ := h
  · exact isq_unique n r h1 h.2
  · exact absurd hb (Nat.ne_of_lt (Nat.two_pow_pos k))

end Go.Proofs.Ytceffompldihjaa
