/- WHAT THE FUNCTIONS OF PACKAGE dice AND OF ITS REFERENCE COMPUTE: contracts by walking each once. Conditions: arguments within their kinds. Own work. -/
import Derived.Test.YtceffompldihjaaBase
import Derived.Test.YtceffompldihjaaChecked
namespace Go.Proofs.Ytceffompldihjaa
open Go.RowKit
set_option linter.unusedVariables false

/-- The next state. -/
def nx (a : Int) : Int := (a * 1664525 + 1013904223) % 4294967296
/-- The state before. -/
def bk (a : Int) : Int := ((a - 1013904223) * 4276115653) % 4294967296

theorem nx_bd (a : Int) : 0 ≤ nx a ∧ nx a ≤ 4294967295 := by unfold nx; omega
theorem bk_bd (a : Int) : 0 ≤ bk a ∧ bk a ≤ 4294967295 := by unfold bk; omega

theorem xor_bd (a b : Int) (h0 : 0 ≤ a) (h1 : a ≤ 4294967295) (g0 : 0 ≤ b) (g1 : b ≤ 4294967295) : 0 ≤ bits .xor .u32 a b ∧ bits .xor .u32 a b ≤ 4294967295 := by
  rw [u32_xor a b h0 (by omega) g0 (by omega)]
  have h : a.toNat ^^^ b.toNat < 2 ^ 32 := Nat.xor_lt_two_pow (by omega) (by omega)
  omega

theorem rnext_any (a : Int) (w : World) (h0 : 0 ≤ a) (h1 : a ≤ 4294967295) :
    Calls Try.prog 46 #[.int .u32 a] w fun e w' => e = .returned (.int .u32 (nx a)) ∧ Ext w w' := by
  go_enter Try.func46, Try.ntmps46
  go_wp2
  go_ret
  exact ⟨ret_int (by unfold nx; omega), Ext.refl _⟩

/-- A throw out of a state. -/
def th (a n : Int) : Int := nx a / 65536 * n / 65536

theorem th_bd (a n : Int) (g0 : 1 ≤ n) (g1 : n ≤ 65536) : 0 ≤ nx a / 65536 * n ∧ nx a / 65536 * n ≤ 65535 * n ∧ 0 ≤ th a n ∧ th a n < n := by
  have ha := nx_bd a
  have h1 : 0 ≤ nx a / 65536 := by omega
  have h2 : nx a / 65536 ≤ 65535 := by omega
  have h3 : 0 ≤ nx a / 65536 * n := Int.mul_nonneg h1 (by omega)
  have h4 : nx a / 65536 * n ≤ 65535 * n := Int.mul_le_mul_of_nonneg_right h2 (by omega)
  refine ⟨h3, h4, ?_, ?_⟩
  · unfold th; omega
  · unfold th; omega

theorem rthrow_any (a n : Int) (w : World) (h0 : 0 ≤ a) (h1 : a ≤ 4294967295) (g0 : 1 ≤ n) (g1 : n ≤ 65536) :
    Calls Try.prog 30 #[.int .u32 a, .int .i64 n] w fun e w' => e = .returned (.tuple #[.int .u32 (nx a), .int .i64 (th a n)]) ∧ Ext w w' := by
  have ha := nx_bd a
  have ht := th_bd a n g0 g1
  have ht2 : nx a / 65536 * n ≤ 4294967296 := by omega
  go_enter Try.func30, Try.ntmps30
  go_wp2_with (go_at_call 46; refine (rnext_any _ _ (by omega) (by omega)).mono ?_; rintro e wx ⟨rfl, hx⟩)
  go_ret2
  exact ⟨rfl, by assumption⟩

end Go.Proofs.Ytceffompldihjaa
