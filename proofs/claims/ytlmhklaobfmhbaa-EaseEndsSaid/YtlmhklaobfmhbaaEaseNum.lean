/- A NUMBER THAT GETS LESS BY AN EIGHTH A TICK: plain numbers. Own work. -/
import Derived.Test.YtlmhklaobfmhbaaNum
namespace Go.Proofs.Ytlmhklaobfmhbaa

/-- a tick on -/
def lessF (n : Int) : Int := if 0 < n then n - max (n / 8) 1 else if n < 0 then n + max (-n / 8) 1 else 0
/-- its size, a tick on -/
def gN (m : Nat) : Nat := m - max (m / 8) 1
def tN : Nat → Nat → Nat
  | 0, _ => 0
  | f + 1, m => if m = 0 then 0 else tN f (gN m) + 1
/-- so many ticks on, its size -/
def gI : Nat → Nat → Nat
  | 0, m => m
  | k + 1, m => gI k (gN m)
/-- how many ticks till it is nothing -/
def tk (n : Int) : Nat := tN n.natAbs n.natAbs

theorem gN_lt (m : Nat) (h : m ≠ 0) : gN m < m := by unfold gN; omega
theorem gN_mono {a b : Nat} (h : a ≤ b) : gN a ≤ gN b := by unfold gN; omega
theorem gI_mono (k : Nat) : ∀ {a b : Nat}, a ≤ b → gI k a ≤ gI k b := by
  induction k with
  | zero => intro a b h; exact h
  | succ k ih => intro a b h; exact ih (gN_mono h)
theorem tN_fuel : ∀ (f m : Nat), m ≤ f → tN f m = tN m m := by
  have key : ∀ (b f g m : Nat), m ≤ b → m ≤ f → m ≤ g → tN f m = tN g m := by
    intro b
    induction b with
    | zero =>
      intro f g m hb hf hg
      obtain rfl : m = 0 := by omega
      cases f <;> cases g <;> simp [tN]
    | succ b ih =>
      intro f g m hb hf hg
      by_cases h : m = 0
      · subst h; cases f <;> cases g <;> simp [tN]
      · have hl := gN_lt m h
        cases f with
        | zero => omega
        | succ f =>
          cases g with
          | zero => omega
          | succ g => simp only [tN, if_neg h]; rw [ih f g (gN m) (by omega) (by omega) (by omega)]
  intro f m h
  exact key m f m m (Nat.le_refl _) h (Nat.le_refl _)
theorem less_abs (n : Int) : (lessF n).natAbs = gN n.natAbs := by
  unfold lessF gN
  split
  · omega
  · split
    · omega
    · obtain rfl : n = 0 := by omega
      rfl
theorem tk_zero : tk 0 = 0 := rfl
theorem tk_step (n : Int) (h : n ≠ 0) : tk n = tk (lessF n) + 1 := by
  unfold tk
  rw [less_abs]
  have h0 : n.natAbs ≠ 0 := by omega
  have hl := gN_lt n.natAbs h0
  generalize n.natAbs = m at *
  cases m with
  | zero => exact absurd rfl h0
  | succ m =>
    rw [tN, if_neg h0, tN_fuel m (gN (m + 1)) (by omega)]
theorem tk_pos (n : Int) (h : n ≠ 0) : 0 < tk n := by rw [tk_step n h]; omega
theorem tk_zero_iff (n : Int) : tk n = 0 ↔ n = 0 := ⟨fun h => Classical.byContradiction fun c => by have := tk_pos n c; omega, fun h => by rw [h]; rfl⟩
theorem tN_le : ∀ (k f m : Nat), gI k m = 0 → tN f m ≤ k := by
  intro k
  induction k with
  | zero => intro f m h; have h : m = 0 := h; subst h; cases f <;> simp [tN]
  | succ k ih =>
    intro f m h
    cases f with
    | zero => exact Nat.zero_le _
    | succ f =>
      unfold tN
      split
      · exact Nat.zero_le _
      · have := ih f (gN m) h; omega
theorem tk_le (n : Int) (hn : -2147483648 ≤ n ∧ n ≤ 2147483647) : tk n ≤ 200 := by
  refine tN_le 200 _ _ ?_
  have h := gI_mono 200 (show n.natAbs ≤ 2147483648 by omega)
  rw [show gI 200 2147483648 = 0 by decide +kernel] at h
  omega
theorem tk_near (n : Int) (hn : -1048576 ≤ n ∧ n ≤ 1048576) : tk n ≤ 128 := by
  refine tN_le 128 _ _ ?_
  have h := gI_mono 128 (show n.natAbs ≤ 1048576 by omega)
  rw [show gI 128 1048576 = 0 by decide +kernel] at h
  omega
theorem less_bd (n : Int) (hn : -2147483648 ≤ n ∧ n ≤ 2147483647) : -2147483648 ≤ lessF n ∧ lessF n ≤ 2147483647 := by
  unfold lessF; repeat' split
  all_goals omega

theorem less_pos (n x : Int) (h : 0 < n) (hx : x = n - max (n / 8) 1) : x = lessF n := by unfold lessF; rw [if_pos h]; exact hx
theorem less_neg (n x : Int) (h : n < 0) (hx : x = n + max (-n / 8) 1) : x = lessF n := by unfold lessF; rw [if_neg (by omega), if_pos h]; exact hx
theorem less_nil (n : Int) (h0 : ¬ 0 < n) (h1 : ¬ n < 0) : 0 = lessF n := by unfold lessF; rw [if_neg h0, if_neg h1]

end Go.Proofs.Ytlmhklaobfmhbaa
