/- PLAIN NUMBERS: quotients down and toward nought, bounds of products, a number held between two ends. No program. Conditions: as each says. Own work. -/
import Derived.Test.YtceffompldihjaaBase
namespace Go.Proofs.Ytceffompldihjaa

/-- n, or the end that it passes. -/
def sat (n : Int) : Int := max (-2147483648) (min n 2147483647)
theorem sat_bd (n : Int) : -2147483648 ≤ sat n ∧ sat n ≤ 2147483647 := by unfold sat; omega
theorem sat_in (n : Int) (h : -2147483648 ≤ n ∧ n ≤ 2147483647) : sat n = n := by unfold sat; omega
theorem sat_hi (n : Int) (h : 2147483647 < n) : sat n = 2147483647 := by unfold sat; omega
theorem sat_lo (n : Int) (h : n < -2147483648) : sat n = -2147483648 := by unfold sat; omega
theorem sat_mono (a b : Int) (h : a ≤ b) : sat a ≤ sat b := by unfold sat; omega

theorem tdiv_bd (a b : Int) : (a.tdiv b).natAbs ≤ a.natAbs := by
  rw [Int.natAbs_tdiv]; exact Nat.div_le_self _ _
theorem tdiv_lo (a b M : Int) (h : -M ≤ a ∧ a ≤ M) : -M ≤ a.tdiv b ∧ a.tdiv b ≤ M := by
  have := tdiv_bd a b
  omega
theorem fdiv_bd (a b M : Int) (h : -M ≤ a ∧ a ≤ M) : -M - 1 ≤ a.fdiv b ∧ a.fdiv b ≤ M := by
  have := tdiv_lo a b M h
  rw [Int.fdiv_eq_ediv]
  rw [Int.tdiv_eq_ediv] at this
  have e : -1 ≤ b.sign ∧ b.sign ≤ 1 := by rcases Int.lt_trichotomy b 0 with g | g | g <;> simp [Int.sign_eq_neg_one_of_neg, Int.sign_eq_one_of_pos, g]
  split at this <;> split <;> rename_i u v
  · omega
  · omega
  · rcases v with v | v
    · by_cases hb : b = 0
      · subst hb; simp at *; omega
      · rw [Int.sign_eq_one_of_pos (by omega)] at this; omega
    · exact absurd (.inr v) u
  · rw [Int.sign_eq_neg_one_of_neg (by omega)] at this; omega

/-- Go's quotient, where it is exact or both signs are alike, is the quotient down. -/
theorem dn_keep (a b : Int) (h : a.tmod b = 0 ∨ (a < 0 ↔ b < 0)) : a.tdiv b = a.fdiv b := by
  rw [Int.tdiv_eq_ediv, Int.fdiv_eq_ediv]
  rcases h with h | h
  · have hd := Int.dvd_iff_tmod_eq_zero.2 h
    rw [if_pos (.inr hd), if_pos (.inr hd)]; omega
  · by_cases hd : b ∣ a
    · rw [if_pos (.inr hd), if_pos (.inr hd)]; omega
    · by_cases h0 : b < 0
      · rw [if_neg (by simp [hd]; omega), if_neg (by simp [hd]; omega), Int.sign_eq_neg_one_of_neg h0]; omega
      · rw [if_pos (.inl (by omega)), if_pos (.inl (by omega))]; omega
theorem dn_less (a b : Int) (h : a.tmod b ≠ 0) (g : ¬ (a < 0 ↔ b < 0)) (hb : b ≠ 0) : a.tdiv b - 1 = a.fdiv b := by
  rw [Int.tdiv_eq_ediv, Int.fdiv_eq_ediv]
  have hd : ¬ b ∣ a := fun hd => h (Int.dvd_iff_tmod_eq_zero.1 hd)
  by_cases h0 : b < 0
  · rw [if_pos (.inl (by omega)), if_neg (by simp [hd]; omega)]; omega
  · rw [if_neg (by simp [hd]; omega), if_pos (.inl (by omega)), Int.sign_eq_one_of_pos (by omega)]; omega

theorem mul_bd (a b M N : Int) (ha : -M ≤ a ∧ a ≤ M) (hb : -N ≤ b ∧ b ≤ N) : -(M * N) ≤ a * b ∧ a * b ≤ M * N := by
  have h : (a * b).natAbs ≤ (M * N).natAbs := by
    rw [Int.natAbs_mul, Int.natAbs_mul]; exact Nat.mul_le_mul (by omega) (by omega)
  have hM : 0 ≤ M * N := Int.mul_nonneg (by omega) (by omega)
  omega

/-- the reference's way to the quotient down -/
theorem floor_pos (a b : Int) (hb : 0 < b) : (a - a % b) / b = a.fdiv b := by
  rw [Int.fdiv_eq_ediv_of_nonneg a (by omega)]
  have e := Int.mul_ediv_add_emod a b
  rw [show a - a % b = b * (a / b) by omega, Int.mul_ediv_cancel_left _ (by omega)]
theorem tmod_nonpos (a b : Int) (h : a < 0) (hb : 0 < b) : -b < a.tmod b ∧ a.tmod b ≤ 0 ∧ (a.tmod b = 0 → a % b = 0) ∧ (a.tmod b < 0 → a.tmod b + b = a % b) := by
  have e := Int.tmod_eq_emod (a := a) (b := b)
  have n0 := Int.emod_nonneg a (b := b) (by omega)
  have n1 := Int.emod_lt_of_pos a hb
  split at e <;> rename_i u
  · rcases u with u | u
    · omega
    · have := Int.emod_eq_zero_of_dvd u
      omega
  · omega
theorem floor_exact (a b : Int) (hb : 0 < b) : (a - a % b).tdiv b = a.fdiv b := by
  have e := Int.mul_ediv_add_emod a b
  rw [Int.tdiv_eq_ediv_of_dvd ⟨a / b, by omega⟩, Int.fdiv_eq_ediv_of_nonneg a (by omega)]
  rw [show a - a % b = b * (a / b) by omega, Int.mul_ediv_cancel_left _ (by omega)]

end Go.Proofs.Ytceffompldihjaa
