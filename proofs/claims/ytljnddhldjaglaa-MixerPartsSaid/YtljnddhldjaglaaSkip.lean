/- WHAT dice.Skip COMPUTES: the line that is so many steps, applied. Conditions: arguments within their kinds. Own work. -/
import Derived.Test.YtljnddhldjaglaaDice
import Derived.Lib.Hide
import Derived.Deep.RegionHeld3
namespace Go.Proofs.Ytljnddhldjaglaa
open Go.RowKit
set_option linter.unusedVariables false
set_option maxRecDepth 100000

theorem lineOf_any (t p s : Int) (w : World) :
    Calls Try.prog 99 #[.agg #[.int .u32 t, .int .u32 p], .int .u32 s] w fun e w' => e = .returned (.int .u32 ((s * t + p) % 4294967296)) ∧ Ext w w' := by
  go_enter Try.func99, Try.ntmps99
  go_wp2
  go_ret
  exact ⟨ret_int (by omega), Ext.grow (Ext.refl _) _⟩

theorem lineThen_any (t p u q : Int) (w : World) :
    Calls Try.prog 98 #[.agg #[.int .u32 t, .int .u32 p], .agg #[.int .u32 u, .int .u32 q]] w fun e w' => e = .returned (.agg #[.int .u32 (t * u % 4294967296), .int .u32 ((p * u + q) % 4294967296)]) ∧ Ext w w' := by
  go_enter Try.func98, Try.ntmps98
  go_wp2_with fail
  go_region_held3 (fun w' => w'.cell? ⟨w.heap.size, 0, none⟩ = some (.int .u32 t) ∧ w'.cell? ⟨w.heap.size, 1, none⟩ = some (.int .u32 p) ∧ w'.cell? ⟨w.heap.size + 1, 0, none⟩ = some (.int .u32 u) ∧ w'.cell? ⟨w.heap.size + 1, 1, none⟩ = some (.int .u32 q) ∧ w'.cell? ⟨w.heap.size + 1 + 1, 0, none⟩ = some (heldAt w' ⟨w.heap.size + 1 + 1, 0, none⟩) ∧ w'.cell? ⟨w.heap.size + 1 + 1, 1, none⟩ = some (heldAt w' ⟨w.heap.size + 1 + 1, 1, none⟩) ∧ w'.frozen? ⟨w.heap.size + 1 + 1, 0, none⟩ = false ∧ w'.frozen? ⟨w.heap.size + 1 + 1, 1, none⟩ = false ∧ Ext w w' ∧ w.heap.size + 3 ≤ w'.heap.size)
    (((try dsimp only); (try go_split_ands); (repeat' (with_reducible apply And.intro)) <;> first | (with_reducible assumption) | ((with_reducible refine Ext.trans ?_ hx); (with_reducible assumption)) | ((with_reducible refine (Ext.cell hx ?_).trans ?_) <;> first | (with_reducible assumption) | (simp; done) | (simp; omega)) | ((with_reducible refine (Ext.frozen hx ?_).trans ?_) <;> first | (with_reducible assumption) | (simp; done) | (simp; omega)) | ((with_reducible refine Ext.held hx ?_ ?_) <;> first | (with_reducible assumption) | (simp; done) | (simp; omega)) | ((with_reducible refine Nat.le_trans ?_ (Ext.size hx)); (with_reducible assumption)) | ((with_reducible refine Nat.lt_of_lt_of_le ?_ (Ext.size hx)); (with_reducible assumption)) | ((with_reducible refine Ext.drew ?_); (repeat' (first | (with_reducible assumption) | (with_reducible exact Ext.refl _) | (with_reducible refine Ext.grow ?_ _) | (with_reducible refine Ext.drew ?_) | (with_reducible refine Ext.set ?_ ?_ _) | omega | (simp; done) | (simp; omega) | (refine Ext.trans ?_ (by assumption)))); done) | ((repeat' (with_reducible refine Ext.set ?_ ?_ _)) <;> first | (with_reducible assumption) | omega | (simp; done) | (simp; omega)) | ((with_reducible refine Ext.grow ?_ _); (repeat' (first | (with_reducible assumption) | (with_reducible exact Ext.refl _) | (with_reducible refine Ext.grow ?_ _) | (with_reducible refine Ext.drew ?_) | (with_reducible refine Ext.set ?_ ?_ _) | omega | (simp; done) | (simp; omega) | (refine Ext.trans ?_ (by assumption)))); done) | ((with_reducible refine heldAt_some ?_); (go_simp; done)) | (go_simp; done) | (simp; omega)))
    (first | (go_at_call 99; refine (lineOf_any _ _ _ _).mono ?_; rintro e wx ⟨rfl, hx⟩))
  rename_i hh
  clear hh
  have c0 := Ext.cell hx (p := ⟨w.heap.size + 1 + 1, 0, none⟩) (by simp)
  have c1 := Ext.cell hx (p := ⟨w.heap.size + 1 + 1, 1, none⟩) (by simp)
  have hsz := Ext.size hx
  simp at c0 c1 hsz
  have hxx : Ext w wx := Ext.trans (by (repeat' (first | (with_reducible assumption) | (with_reducible exact Ext.refl _) | (with_reducible refine Ext.grow ?_ _) | (with_reducible refine Ext.drew ?_) | (with_reducible refine Ext.set ?_ ?_ _) | omega | (simp; done) | (simp; omega) | (refine Ext.trans ?_ (by assumption))))) hx
  go_wp2
  refine bodyPost_ret (v := .agg #[.int .u32 (t * u % 4294967296), .int .u32 ((p * u + q) % 4294967296)]) (by simp [results, Try.results98, go_sem, c0, c1, IntKind.wrap_u32]) rfl ⟨rfl, ?_⟩
  (repeat' (first | (with_reducible assumption) | (with_reducible exact Ext.refl _) | (with_reducible refine Ext.grow ?_ _) | (with_reducible refine Ext.drew ?_) | (with_reducible refine Ext.set ?_ ?_ _) | omega | (simp; done) | (simp; omega) | (refine Ext.trans ?_ (by assumption))))

/-! ### so many steps, as one line -/
def lnT : Nat → Int
  | 0 => 1
  | n + 1 => lnT n * 1664525 % 4294967296
def lnP : Nat → Int
  | 0 => 0
  | n + 1 => (lnP n * 1664525 + 1013904223) % 4294967296
/-- so many steps on -/
def stp (n : Nat) (s : Int) : Int := (s * lnT n + lnP n) % 4294967296

theorem lnT_add (a b : Nat) : lnT (a + b) = lnT a * lnT b % 4294967296 := by
  induction b with
  | zero => show lnT a = lnT a * 1 % 4294967296; cases a <;> simp [lnT] 
  | succ b ih =>
    show lnT (a + b) * 1664525 % 4294967296 = lnT a * (lnT b * 1664525 % 4294967296) % 4294967296
    rw [ih, Int.mul_emod (lnT a * lnT b % 4294967296), Int.emod_emod_of_dvd _ (Int.dvd_refl _), ← Int.mul_emod, Int.mul_emod (lnT a) (lnT b * 1664525 % 4294967296), Int.emod_emod_of_dvd _ (Int.dvd_refl _), ← Int.mul_emod, Int.mul_assoc]
theorem lnP_add (a b : Nat) : lnP (a + b) = (lnP a * lnT b + lnP b) % 4294967296 := by
  induction b with
  | zero => show lnP a = (lnP a * 1 + 0) % 4294967296; cases a <;> simp [lnP]
  | succ b ih =>
    show (lnP (a + b) * 1664525 + 1013904223) % 4294967296 = (lnP a * (lnT b * 1664525 % 4294967296) + (lnP b * 1664525 + 1013904223) % 4294967296) % 4294967296
    rw [ih]
    generalize lnP a = x
    generalize lnT b = y
    generalize lnP b = z
    have h1 : x * (y * 1664525 % 4294967296) % 4294967296 = x * y * 1664525 % 4294967296 := by
      rw [Int.mul_emod, Int.emod_emod_of_dvd _ (Int.dvd_refl _), ← Int.mul_emod, Int.mul_assoc]
    generalize x * (y * 1664525 % 4294967296) = p at *
    generalize x * y = q at *
    omega
theorem stp_add (a b : Nat) (s : Int) : stp b (stp a s) = stp (a + b) s := by
  unfold stp
  rw [lnT_add, lnP_add]
  generalize lnT a = x
  generalize lnT b = y
  generalize lnP a = u
  generalize lnP b = v
  have h1 : (s * x + u) % 4294967296 * y % 4294967296 = (s * x * y + u * y) % 4294967296 := by
    rw [Int.mul_emod, Int.emod_emod_of_dvd _ (Int.dvd_refl _), ← Int.mul_emod, Int.add_mul]
  have h2 : s * (x * y % 4294967296) % 4294967296 = s * x * y % 4294967296 := by
    rw [Int.mul_emod, Int.emod_emod_of_dvd _ (Int.dvd_refl _), ← Int.mul_emod, Int.mul_assoc]
  generalize (s * x + u) % 4294967296 * y = p at *
  generalize s * (x * y % 4294967296) = q at *
  generalize s * x * y = r at *
  generalize u * y = t at *
  omega
theorem stp_one (s : Int) : stp 1 s = nx s := by unfold stp nx; simp [lnT, lnP]
theorem stp_succ (n : Nat) (s : Int) : stp (n + 1) s = nx (stp n s) := by rw [← stp_add, stp_one]
theorem stp_zero (s : Int) (h0 : 0 ≤ s) (h1 : s ≤ 4294967295) : stp 0 s = s := by unfold stp; simp [lnT, lnP]; omega
theorem stp_bd (n : Nat) (s : Int) : 0 ≤ stp n s ∧ stp n s ≤ 4294967295 := by unfold stp; omega

end Go.Proofs.Ytljnddhldjaglaa
