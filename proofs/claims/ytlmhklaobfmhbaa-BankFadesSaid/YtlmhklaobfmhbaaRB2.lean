/- THE LAWS OF SOUNDS. Conditions: the contracts' own. Own work; the normal forms were printed by a program of mine (wip/rex). -/
import Derived.Test.YtlmhklaobfmhbaaRB1
namespace Go.Proofs.Ytlmhklaobfmhbaa
open Go.RowKit Rex
set_option linter.unusedVariables false
set_option linter.unusedSimpArgs false
set_option maxRecDepth 100000


/-- the squares' sum over the first k places, of those from f to t -/
def sumW : Nat → Int → Int → Int → Int
  | 0, _, _, _ => 0
  | k + 1, a, f, t => if f ≤ (k : Int) ∧ (k : Int) < t then sumW k a f t + sampleF a (k : Int) * sampleF a (k : Int) else sumW k a f t
theorem sumW_bd (k : Nat) (a f t : Int) : 0 ≤ sumW k a f t ∧ sumW k a f t ≤ (k : Int) * 67108864 := by
  induction k with
  | zero => simp [sumW]
  | succ k ih =>
    have := sq8_bd (sampleF_bd a (k : Int))
    simp only [sumW]
    split <;> omega
theorem sumW_sumN (k : Nat) (a f t : Int) : sumW k a f t = sumN (min t (k : Int) - max f 0).toNat a (max f 0) := by
  induction k with
  | zero =>
    have : (min t ((0 : Nat) : Int) - max f 0).toNat = 0 := by omega
    rw [this]; rfl
  | succ k ih =>
    simp only [sumW]
    by_cases h : f ≤ (k : Int) ∧ (k : Int) < t
    · rw [if_pos h, ih]
      have e1 : (min t ((k + 1 : Nat) : Int) - max f 0).toNat = (min t (k : Int) - max f 0).toNat + 1 := by omega
      have e2 : max f 0 + (((min t (k : Int) - max f 0).toNat : Nat) : Int) = (k : Int) := by omega
      rw [e1]
      simp only [sumN]
      rw [e2]
    · rw [if_neg h, ih]
      congr 1
      omega
theorem sumW_split (k : Nat) {a f m t : Int} (h1 : f ≤ m) (h2 : m ≤ t) : sumW k a f m + sumW k a m t = sumW k a f t := by
  induction k with
  | zero => rfl
  | succ k ih =>
    simp only [sumW]
    (repeat' split) <;> omega
theorem blenF_nat (a : Int) : ((blenF a).toNat : Int) = blenF a := by
  have := blenF_bd a
  unfold blenF
  omega
theorem energyF_W (a f t : Int) : energyF a f t = sumW (blenF a).toNat a f t := by
  rw [sumW_sumN, blenF_nat]; rfl
theorem peakN_ge (a : Int) (i : Nat) : ∀ k, i < k → sampleF a (i : Int) ≤ peakN k a := by
  intro k
  induction k with
  | zero => intro h; omega
  | succ k ih =>
    intro h
    simp only [peakN]
    by_cases e : i = k
    · subst e; omega
    · have := ih (by omega); omega
theorem within_2 : withinB 2 1 9 = true := by decide
theorem sample_20 : sampleF 2 0 = 0 := by decide
theorem sample_216 : sampleF 2 16 = 6826 := by decide
theorem peak_2 : 0 < peakN (blenF 2).toNat 2 := by
  have h := peakN_ge 2 16 (blenF 2).toNat (by decide)
  rw [show ((16 : Nat) : Int) = 16 from rfl, sample_216] at h
  omega
def fA (a : Int) : Int := 1 + a.tmod 9
def fN (a : Int) : Int := 48 * fA a
def fK (a i : Int) : Int := i.tmod (fN a)
/-- the size of a faded sample -/
theorem fade_bd {w n j k : Int} (hw : -8192 ≤ w ∧ w ≤ 8192) (hn : 0 < n) (hk : 0 ≤ k ∧ k ≤ j ∧ j < n) : w * (n - j) / n ≤ 8192 * (n - k) / n ∧ -(w * (n - j) / n) ≤ 8192 * (n - k) / n + 1 := by
  have m1 : w * (n - j) ≤ 8192 * (n - k) := Int.le_trans (Int.mul_le_mul_of_nonneg_right hw.2 (by omega)) (Int.mul_le_mul_of_nonneg_left (by omega) (by omega))
  have m2 : -(8192 * (n - k)) ≤ w * (n - j) := by
    have a1 : (-8192) * (n - j) ≤ w * (n - j) := Int.mul_le_mul_of_nonneg_right hw.1 (by omega)
    have a2 : 8192 * (n - j) ≤ 8192 * (n - k) := Int.mul_le_mul_of_nonneg_left (by omega) (by omega)
    omega
  refine ⟨Int.ediv_le_ediv hn m1, ?_⟩
  have e1 := Int.mul_ediv_self_le (x := 8192 * (n - k)) (k := n) (by omega)
  have e2 := Int.lt_mul_ediv_self_add (x := 8192 * (n - k)) (k := n) hn
  have e3 : -(8192 * (n - k) / n + 1) ≤ w * (n - j) / n := by
    rw [Int.le_ediv_iff_mul_le hn, Int.neg_mul, Int.add_mul, Int.mul_comm, Int.one_mul]
    omega
  omega


noncomputable def c_awake18 : FC := fun us => match us with
  | [] => some (none, .v (.one (.bool true (true))))
  | _ => none
theorem nf_awake18  : goal ⟨Mx, Try.prog, Γ_energy, Δ_samples, B0, none, false⟩ noL 400 Try.f10 [] [] (fun r _ => svLe idR r (.v (.one (.bool true (true))))) = ((true = true → (true = true → (true = true → true = true) ∧ (true = false → false = true)) ∧ (true = false → false = true)) ∧ (true = false → false = true)) := by kernel_rfl
theorem s_awake18 : FSound Try.prog 10 c_awake18 := by
  refine fsound_of (Ctx.ok_of2 (M := Mx) mixedA ok_energy okD_samples okB0) Try.func10 (by kernel_rfl) (by kernel_rfl) ?_
  intro us p v h hp
  unfold c_awake18 at h
  split at h
  · skip
    cases h
    refine ⟨rfl, noL, 400, [], by simp [tmLe, svLe, vLe, lfLe, lfsLe, ifB, nmIs, idR], rfl, ?_⟩
    rw [nf_awake18]
    clear hp
    simp
  · cases h
noncomputable def Γ_awake18 : List (FuncId × FC) := (10, c_awake18) :: Γ_energy
theorem ok_awake18 : ΓOk Try.prog Γ_awake18 := ΓOk.cons s_awake18 ok_energy

noncomputable def c_BankTells : FC := fun us => match us with
  | [.v (.one (.int .i64 _ a)), .v (.one (.int .i64 _ i))] => some (none, .v (.one (.bool true (true))))
  | _ => none
theorem nf_BankTells (a : Int) (i : Int) : goal ⟨Mx, Try.prog, Γ_awake18, Δ_samples, B0, none, false⟩ noL 400 Try.f4 [.v (.one (.int .i64 false a)), .v (.one (.int .i64 false i))] [] (fun r _ => svLe idR r (.v (.one (.bool true (true))))) = ((((if withinB a (1 : Int) (9 : Int) = true then (48 : Int) * a else (0 : Int)) != if withinB a (1 : Int) (9 : Int) = true then (48 : Int) * a else (0 : Int)) = false → ((!((if withinB a (1 : Int) (9 : Int) = true then (0 : Int) else (14 : Int)) == (0 : Int)) == decide ((0 : Int) < if withinB a (1 : Int) (9 : Int) = true then (48 : Int) * a else (0 : Int))) = false → (((if withinB a (1 : Int) (9 : Int) = true then (0 : Int) else (14 : Int)) != (0 : Int)) = true → (((if withinB a (1 : Int) (9 : Int) = true then (0 : Int) else (14 : Int)) != (14 : Int)) = true → false = true) ∧ (((if withinB a (1 : Int) (9 : Int) = true then (0 : Int) else (14 : Int)) != (14 : Int)) = false → ((waveF a i == waveF a i) = true → ((sampleF a i == sampleF a i) = true → ((aroundF a i == aroundF a i) = true → (decide (sampleF a i ≤ (8192 : Int)) = true → decide ((-8192 : Int) ≤ sampleF a i) = true) ∧ (decide (sampleF a i ≤ (8192 : Int)) = false → false = true)) ∧ ((aroundF a i == aroundF a i) = false → false = true)) ∧ ((sampleF a i == sampleF a i) = false → false = true)) ∧ ((waveF a i == waveF a i) = false → false = true))) ∧ (((if withinB a (1 : Int) (9 : Int) = true then (0 : Int) else (14 : Int)) != (0 : Int)) = false → ((waveF a i == waveF a i) = true → ((sampleF a i == sampleF a i) = true → ((aroundF a i == aroundF a i) = true → (decide (sampleF a i ≤ (8192 : Int)) = true → decide ((-8192 : Int) ≤ sampleF a i) = true) ∧ (decide (sampleF a i ≤ (8192 : Int)) = false → false = true)) ∧ ((aroundF a i == aroundF a i) = false → false = true)) ∧ ((sampleF a i == sampleF a i) = false → false = true)) ∧ ((waveF a i == waveF a i) = false → false = true))) ∧ ((!((if withinB a (1 : Int) (9 : Int) = true then (0 : Int) else (14 : Int)) == (0 : Int)) == decide ((0 : Int) < if withinB a (1 : Int) (9 : Int) = true then (48 : Int) * a else (0 : Int))) = true → false = true)) ∧ (((if withinB a (1 : Int) (9 : Int) = true then (48 : Int) * a else (0 : Int)) != if withinB a (1 : Int) (9 : Int) = true then (48 : Int) * a else (0 : Int)) = true → false = true)) := by kernel_rfl
theorem s_BankTells : FSound Try.prog 4 c_BankTells := by
  refine fsound_of (Ctx.ok_of2 (M := Mx) mixedA ok_awake18 okD_samples okB0) Try.func4 (by kernel_rfl) (by kernel_rfl) ?_
  intro us p v h hp
  unfold c_BankTells at h
  split at h
  · rename_i k0 a k1 i
    cases h
    refine ⟨rfl, noL, 400, [.v (.one (.int .i64 false a)), .v (.one (.int .i64 false i))], by simp [tmLe, svLe, vLe, lfLe, lfsLe, ifB, nmIs, idR], rfl, ?_⟩
    rw [nf_BankTells]
    clear hp
    have hs := sampleF_bd a i
    cases h : withinB a 1 9
    · simp
      omega
    · have h1 := within_iff.1 h
      have h2 : 0 < 48 * a := by omega
      simp [h2]
      omega
  · cases h
noncomputable def Γ_BankTells : List (FuncId × FC) := (4, c_BankTells) :: Γ_awake18
theorem ok_BankTells : ΓOk Try.prog Γ_BankTells := ΓOk.cons s_BankTells ok_awake18

noncomputable def c_BankWhole : FC := fun us => match us with
  | [.v (.one (.int .i64 _ a)), .v (.one (.int .i64 _ f)), .v (.one (.int .i64 _ t)), .v (.one (.int .i64 _ m))] => some (none, .v (.one (.bool true (true))))
  | _ => none
theorem nf_BankWhole (a : Int) (f : Int) (t : Int) (m : Int) : goal ⟨Mx, Try.prog, Γ_BankTells, Δ_samples, B0, none, false⟩ (fun bk => match bk with | 0 => some { S := Nat, st := fun s => ⟨[.v (.one (.int .i64 false (a))), .v (.one (.int .i64 false (f))), .v (.one (.int .i64 false (t))), .v (.one (.int .i64 false (m))), .junk, .junk, .junk, .junk, .junk, .v (.one (.int .i64 false (peakN s a))), .v (.one (.int .i64 false (sumW s a f t))), .v (.one (.int .i64 false ((s : Int)))), .junk, .junk, .junk, .junk, .junk, .junk, .junk, .junk, .junk, .junk, .junk, .junk, .junk, .junk, .junk, .junk, .junk, .junk, .junk, .junk, .junk, .junk, .junk, .junk, .junk, .junk, .junk, .junk, .junk, .junk, .junk, .junk, .junk, .junk, .junk, .junk, .junk, .junk, .junk, .junk, .junk, .junk, .junk, .junk, .junk, .junk, .junk, .junk, .junk, .junk, .junk, .junk, .junk, .junk, .junk, .junk, .junk, .junk, .junk, .junk, .junk, .junk, .junk, .junk, .junk, .junk], []⟩, ok := fun s => (s : Int) ≤ (if withinB a 1 9 = true then 48 * a else 0), mu := fun s => ((if withinB a 1 9 = true then 48 * a else 0) - (s : Int)).toNat, init := 0 } | _ => none) 400 Try.f5 [.v (.one (.int .i64 false a)), .v (.one (.int .i64 false f)), .v (.one (.int .i64 false t)), .v (.one (.int .i64 false m))] [] (fun r _ => svLe idR r (.v (.one (.bool true (true))))) = ((((a = a ∧ f = f ∧ t = t ∧ m = m ∧ (0 : Int) = peakN (0 : Nat) a ∧ (0 : Int) = sumW (0 : Nat) a f t ∧ (0 : Int) = ↑(0 : Nat) ∧ True) ∧ True) ∧ ↑(0 : Nat) ≤ if withinB a (1 : Int) (9 : Int) = true then (48 : Int) * a else (0 : Int)) ∧ ∀ (s : Nat), (↑s ≤ if withinB a (1 : Int) (9 : Int) = true then (48 : Int) * a else (0 : Int)) → (decide (↑s < if withinB a (1 : Int) (9 : Int) = true then (48 : Int) * a else (0 : Int)) = true → (decide (peakN s a < sampleF a ↑s) = true → inR IntKind.i64 (-sampleF a ↑s) ∧ (decide (sampleF a ↑s < -sampleF a ↑s) = true → inR IntKind.i64 (-sampleF a ↑s) ∧ (decide (f ≤ ↑s) = true → (decide (↑s < t) = true → inR IntKind.i64 (sampleF a ↑s * sampleF a ↑s) ∧ inR IntKind.i64 (sumW s a f t + sampleF a ↑s * sampleF a ↑s) ∧ inR IntKind.i64 (↑s + (1 : Int)) ∧ ∃ (s' : Nat), (((a = a ∧ f = f ∧ t = t ∧ m = m ∧ -sampleF a ↑s = peakN s' a ∧ sumW s a f t + sampleF a ↑s * sampleF a ↑s = sumW s' a f t ∧ ↑s + (1 : Int) = ↑s' ∧ True) ∧ True) ∧ ↑s' ≤ if withinB a (1 : Int) (9 : Int) = true then (48 : Int) * a else (0 : Int)) ∧ ((if withinB a (1 : Int) (9 : Int) = true then (48 : Int) * a else (0 : Int)) - ↑s').toNat < ((if withinB a (1 : Int) (9 : Int) = true then (48 : Int) * a else (0 : Int)) - ↑s).toNat) ∧ (decide (↑s < t) = false → inR IntKind.i64 (↑s + (1 : Int)) ∧ ∃ (s' : Nat), (((a = a ∧ f = f ∧ t = t ∧ m = m ∧ -sampleF a ↑s = peakN s' a ∧ sumW s a f t = sumW s' a f t ∧ ↑s + (1 : Int) = ↑s' ∧ True) ∧ True) ∧ ↑s' ≤ if withinB a (1 : Int) (9 : Int) = true then (48 : Int) * a else (0 : Int)) ∧ ((if withinB a (1 : Int) (9 : Int) = true then (48 : Int) * a else (0 : Int)) - ↑s').toNat < ((if withinB a (1 : Int) (9 : Int) = true then (48 : Int) * a else (0 : Int)) - ↑s).toNat)) ∧ (decide (f ≤ ↑s) = false → inR IntKind.i64 (↑s + (1 : Int)) ∧ ∃ (s' : Nat), (((a = a ∧ f = f ∧ t = t ∧ m = m ∧ -sampleF a ↑s = peakN s' a ∧ sumW s a f t = sumW s' a f t ∧ ↑s + (1 : Int) = ↑s' ∧ True) ∧ True) ∧ ↑s' ≤ if withinB a (1 : Int) (9 : Int) = true then (48 : Int) * a else (0 : Int)) ∧ ((if withinB a (1 : Int) (9 : Int) = true then (48 : Int) * a else (0 : Int)) - ↑s').toNat < ((if withinB a (1 : Int) (9 : Int) = true then (48 : Int) * a else (0 : Int)) - ↑s).toNat)) ∧ (decide (sampleF a ↑s < -sampleF a ↑s) = false → (decide (f ≤ ↑s) = true → (decide (↑s < t) = true → inR IntKind.i64 (sampleF a ↑s * sampleF a ↑s) ∧ inR IntKind.i64 (sumW s a f t + sampleF a ↑s * sampleF a ↑s) ∧ inR IntKind.i64 (↑s + (1 : Int)) ∧ ∃ (s' : Nat), (((a = a ∧ f = f ∧ t = t ∧ m = m ∧ sampleF a ↑s = peakN s' a ∧ sumW s a f t + sampleF a ↑s * sampleF a ↑s = sumW s' a f t ∧ ↑s + (1 : Int) = ↑s' ∧ True) ∧ True) ∧ ↑s' ≤ if withinB a (1 : Int) (9 : Int) = true then (48 : Int) * a else (0 : Int)) ∧ ((if withinB a (1 : Int) (9 : Int) = true then (48 : Int) * a else (0 : Int)) - ↑s').toNat < ((if withinB a (1 : Int) (9 : Int) = true then (48 : Int) * a else (0 : Int)) - ↑s).toNat) ∧ (decide (↑s < t) = false → inR IntKind.i64 (↑s + (1 : Int)) ∧ ∃ (s' : Nat), (((a = a ∧ f = f ∧ t = t ∧ m = m ∧ sampleF a ↑s = peakN s' a ∧ sumW s a f t = sumW s' a f t ∧ ↑s + (1 : Int) = ↑s' ∧ True) ∧ True) ∧ ↑s' ≤ if withinB a (1 : Int) (9 : Int) = true then (48 : Int) * a else (0 : Int)) ∧ ((if withinB a (1 : Int) (9 : Int) = true then (48 : Int) * a else (0 : Int)) - ↑s').toNat < ((if withinB a (1 : Int) (9 : Int) = true then (48 : Int) * a else (0 : Int)) - ↑s).toNat)) ∧ (decide (f ≤ ↑s) = false → inR IntKind.i64 (↑s + (1 : Int)) ∧ ∃ (s' : Nat), (((a = a ∧ f = f ∧ t = t ∧ m = m ∧ sampleF a ↑s = peakN s' a ∧ sumW s a f t = sumW s' a f t ∧ ↑s + (1 : Int) = ↑s' ∧ True) ∧ True) ∧ ↑s' ≤ if withinB a (1 : Int) (9 : Int) = true then (48 : Int) * a else (0 : Int)) ∧ ((if withinB a (1 : Int) (9 : Int) = true then (48 : Int) * a else (0 : Int)) - ↑s').toNat < ((if withinB a (1 : Int) (9 : Int) = true then (48 : Int) * a else (0 : Int)) - ↑s).toNat))) ∧ (decide (peakN s a < sampleF a ↑s) = false → inR IntKind.i64 (-sampleF a ↑s) ∧ (decide (peakN s a < -sampleF a ↑s) = true → inR IntKind.i64 (-sampleF a ↑s) ∧ (decide (f ≤ ↑s) = true → (decide (↑s < t) = true → inR IntKind.i64 (sampleF a ↑s * sampleF a ↑s) ∧ inR IntKind.i64 (sumW s a f t + sampleF a ↑s * sampleF a ↑s) ∧ inR IntKind.i64 (↑s + (1 : Int)) ∧ ∃ (s' : Nat), (((a = a ∧ f = f ∧ t = t ∧ m = m ∧ -sampleF a ↑s = peakN s' a ∧ sumW s a f t + sampleF a ↑s * sampleF a ↑s = sumW s' a f t ∧ ↑s + (1 : Int) = ↑s' ∧ True) ∧ True) ∧ ↑s' ≤ if withinB a (1 : Int) (9 : Int) = true then (48 : Int) * a else (0 : Int)) ∧ ((if withinB a (1 : Int) (9 : Int) = true then (48 : Int) * a else (0 : Int)) - ↑s').toNat < ((if withinB a (1 : Int) (9 : Int) = true then (48 : Int) * a else (0 : Int)) - ↑s).toNat) ∧ (decide (↑s < t) = false → inR IntKind.i64 (↑s + (1 : Int)) ∧ ∃ (s' : Nat), (((a = a ∧ f = f ∧ t = t ∧ m = m ∧ -sampleF a ↑s = peakN s' a ∧ sumW s a f t = sumW s' a f t ∧ ↑s + (1 : Int) = ↑s' ∧ True) ∧ True) ∧ ↑s' ≤ if withinB a (1 : Int) (9 : Int) = true then (48 : Int) * a else (0 : Int)) ∧ ((if withinB a (1 : Int) (9 : Int) = true then (48 : Int) * a else (0 : Int)) - ↑s').toNat < ((if withinB a (1 : Int) (9 : Int) = true then (48 : Int) * a else (0 : Int)) - ↑s).toNat)) ∧ (decide (f ≤ ↑s) = false → inR IntKind.i64 (↑s + (1 : Int)) ∧ ∃ (s' : Nat), (((a = a ∧ f = f ∧ t = t ∧ m = m ∧ -sampleF a ↑s = peakN s' a ∧ sumW s a f t = sumW s' a f t ∧ ↑s + (1 : Int) = ↑s' ∧ True) ∧ True) ∧ ↑s' ≤ if withinB a (1 : Int) (9 : Int) = true then (48 : Int) * a else (0 : Int)) ∧ ((if withinB a (1 : Int) (9 : Int) = true then (48 : Int) * a else (0 : Int)) - ↑s').toNat < ((if withinB a (1 : Int) (9 : Int) = true then (48 : Int) * a else (0 : Int)) - ↑s).toNat)) ∧ (decide (peakN s a < -sampleF a ↑s) = false → (decide (f ≤ ↑s) = true → (decide (↑s < t) = true → inR IntKind.i64 (sampleF a ↑s * sampleF a ↑s) ∧ inR IntKind.i64 (sumW s a f t + sampleF a ↑s * sampleF a ↑s) ∧ inR IntKind.i64 (↑s + (1 : Int)) ∧ ∃ (s' : Nat), (((a = a ∧ f = f ∧ t = t ∧ m = m ∧ peakN s a = peakN s' a ∧ sumW s a f t + sampleF a ↑s * sampleF a ↑s = sumW s' a f t ∧ ↑s + (1 : Int) = ↑s' ∧ True) ∧ True) ∧ ↑s' ≤ if withinB a (1 : Int) (9 : Int) = true then (48 : Int) * a else (0 : Int)) ∧ ((if withinB a (1 : Int) (9 : Int) = true then (48 : Int) * a else (0 : Int)) - ↑s').toNat < ((if withinB a (1 : Int) (9 : Int) = true then (48 : Int) * a else (0 : Int)) - ↑s).toNat) ∧ (decide (↑s < t) = false → inR IntKind.i64 (↑s + (1 : Int)) ∧ ∃ (s' : Nat), (((a = a ∧ f = f ∧ t = t ∧ m = m ∧ peakN s a = peakN s' a ∧ sumW s a f t = sumW s' a f t ∧ ↑s + (1 : Int) = ↑s' ∧ True) ∧ True) ∧ ↑s' ≤ if withinB a (1 : Int) (9 : Int) = true then (48 : Int) * a else (0 : Int)) ∧ ((if withinB a (1 : Int) (9 : Int) = true then (48 : Int) * a else (0 : Int)) - ↑s').toNat < ((if withinB a (1 : Int) (9 : Int) = true then (48 : Int) * a else (0 : Int)) - ↑s).toNat)) ∧ (decide (f ≤ ↑s) = false → inR IntKind.i64 (↑s + (1 : Int)) ∧ ∃ (s' : Nat), (((a = a ∧ f = f ∧ t = t ∧ m = m ∧ peakN s a = peakN s' a ∧ sumW s a f t = sumW s' a f t ∧ ↑s + (1 : Int) = ↑s' ∧ True) ∧ True) ∧ ↑s' ≤ if withinB a (1 : Int) (9 : Int) = true then (48 : Int) * a else (0 : Int)) ∧ ((if withinB a (1 : Int) (9 : Int) = true then (48 : Int) * a else (0 : Int)) - ↑s').toNat < ((if withinB a (1 : Int) (9 : Int) = true then (48 : Int) * a else (0 : Int)) - ↑s).toNat)))) ∧ (decide (↑s < if withinB a (1 : Int) (9 : Int) = true then (48 : Int) * a else (0 : Int)) = false → ((peakN (blenF a).toNat a != peakN s a) = false → ((energyF a f t != sumW s a f t) = true → false = true) ∧ ((energyF a f t != sumW s a f t) = false → (decide (m < f) = false → (decide (t < m) = true → true = true) ∧ (decide (t < m) = false → inR IntKind.i64 (energyF a f m + energyF a m t) ∧ (energyF a f m + energyF a m t == sumW s a f t) = true)) ∧ (decide (m < f) = true → true = true))) ∧ ((peakN (blenF a).toNat a != peakN s a) = true → false = true))) := by kernel_rfl
theorem s_BankWhole : FSound Try.prog 5 c_BankWhole := by
  refine fsound_of (Ctx.ok_of2 (M := Mx) mixedA ok_BankTells okD_samples okB0) Try.func5 (by kernel_rfl) (by kernel_rfl) ?_
  intro us p v h hp
  unfold c_BankWhole at h
  split at h
  · rename_i k0 a k1 f k2 t k3 m
    cases h
    refine ⟨rfl, (fun bk => match bk with | 0 => some { S := Nat, st := fun s => ⟨[.v (.one (.int .i64 false (a))), .v (.one (.int .i64 false (f))), .v (.one (.int .i64 false (t))), .v (.one (.int .i64 false (m))), .junk, .junk, .junk, .junk, .junk, .v (.one (.int .i64 false (peakN s a))), .v (.one (.int .i64 false (sumW s a f t))), .v (.one (.int .i64 false ((s : Int)))), .junk, .junk, .junk, .junk, .junk, .junk, .junk, .junk, .junk, .junk, .junk, .junk, .junk, .junk, .junk, .junk, .junk, .junk, .junk, .junk, .junk, .junk, .junk, .junk, .junk, .junk, .junk, .junk, .junk, .junk, .junk, .junk, .junk, .junk, .junk, .junk, .junk, .junk, .junk, .junk, .junk, .junk, .junk, .junk, .junk, .junk, .junk, .junk, .junk, .junk, .junk, .junk, .junk, .junk, .junk, .junk, .junk, .junk, .junk, .junk, .junk, .junk, .junk, .junk, .junk, .junk], []⟩, ok := fun s => (s : Int) ≤ (if withinB a 1 9 = true then 48 * a else 0), mu := fun s => ((if withinB a 1 9 = true then 48 * a else 0) - (s : Int)).toNat, init := 0 } | _ => none), 400, [.v (.one (.int .i64 false a)), .v (.one (.int .i64 false f)), .v (.one (.int .i64 false t)), .v (.one (.int .i64 false m))], by simp [tmLe, svLe, vLe, lfLe, lfsLe, ifB, nmIs, idR], rfl, ?_⟩
    rw [nf_BankWhole]
    clear hp
    have hN := blenF_bd a
    have hbl : blenF a = (if withinB a 1 9 = true then 48 * a else 0) := rfl
    have hE : ∀ x y, energyF a x y = sumW (blenF a).toNat a x y := energyF_W a
    generalize (if withinB a 1 9 = true then 48 * a else 0) = N at *
    refine ⟨⟨by simp [peakN, sumW], by omega⟩, fun s hs => ⟨fun hc => ?_, fun hc => ?_⟩⟩
    · simp only [decide_eq_true_eq] at hc
      have hb := sampleF_bd a s
      have hq := sq8_bd hb
      have hw := sumW_bd s a f t
      have ep : peakN (s + 1) a = max (max (peakN s a) (sampleF a (s : Int))) (-(sampleF a (s : Int))) := rfl
      have ew : sumW (s + 1) a f t = if f ≤ (s : Int) ∧ (s : Int) < t then sumW s a f t + sampleF a (s : Int) * sampleF a (s : Int) else sumW s a f t := rfl
      have es : ((s + 1 : Nat) : Int) = (s : Int) + 1 := by omega
      generalize sampleF a (s : Int) * sampleF a (s : Int) = Q at *
      generalize sampleF a (s : Int) = X at *
      simp only [true_and, and_true, inR, klo, khi, decide_eq_true_eq, decide_eq_false_iff_not]
      (repeat' (first | (refine And.intro ?_ ?_) | intro _))
      all_goals first
        | omega
        | (refine ⟨s + 1, ⟨⟨?_, ?_, es.symm⟩, by omega⟩, by omega⟩ <;> first | (rw [ep]; omega) | (rw [ew]; split <;> omega))
    · simp only [decide_eq_false_iff_not] at hc
      have e : s = (blenF a).toNat := by omega
      subst e
      have z1 := sumW_bd (blenF a).toNat a f m
      have z2 := sumW_bd (blenF a).toNat a m t
      have z3 : f ≤ m → m ≤ t → sumW (blenF a).toNat a f m + sumW (blenF a).toNat a m t = sumW (blenF a).toNat a f t := fun h1 h2 => sumW_split _ h1 h2
      simp only [hE, inR, klo, khi, bne_self_eq_false, Bool.false_eq_true, false_implies, true_implies, true_and, and_true, decide_eq_true_eq, decide_eq_false_iff_not, beq_iff_eq]
      refine ⟨fun h1 => ⟨fun _ => trivial, fun h2 => ?_⟩, fun _ => trivial⟩
      have := z3 (by omega) (by omega)
      omega
  · cases h
noncomputable def Γ_BankWhole : List (FuncId × FC) := (5, c_BankWhole) :: Γ_BankTells
theorem ok_BankWhole : ΓOk Try.prog Γ_BankWhole := ΓOk.cons s_BankWhole ok_BankTells

noncomputable def c_BankFades : FC := fun us => match us with
  | [.v (.one (.int .u8 _ a)), .v (.one (.int .u16 _ i))] => some (some ((0 ≤ a ∧ a ≤ 255) ∧ (0 ≤ i ∧ i ≤ 65535)), .v (.one (.bool true (true))))
  | _ => none
theorem nf_BankFades (a : Int) (i : Int) : goal ⟨Mx, Try.prog, Γ_BankWhole, Δ_samples, B0, none, false⟩ (fun bk => match bk with | 0 => some { S := Nat, st := fun s => ⟨[.junk, .junk, .junk, .junk, .junk, .v (.one (.int .i64 false (fA a))), .v (.one (.int .i64 false (fN a))), .junk, .v (.one (.int .i64 false (fK a i))), .v (.one (.int .i64 false (fK a i + (s : Int)))), .junk, .junk, .junk, .junk, .junk, .junk, .junk, .junk, .junk, .junk, .junk, .junk, .junk, .junk, .junk, .junk, .junk, .junk, .junk, .junk, .junk, .junk, .junk, .junk, .junk, .junk, .junk, .junk, .junk, .junk, .junk, .junk, .junk, .junk, .junk, .junk, .junk, .junk, .junk, .junk, .junk, .junk, .junk, .junk, .junk, .junk, .junk], []⟩, ok := fun s => fK a i + (s : Int) ≤ fN a, mu := fun s => (fN a - (s : Int)).toNat, init := 0 } | _ => none) 400 Try.f3 [.v (.one (.int .u8 false a)), .v (.one (.int .u16 false i))] [] (fun r _ => svLe idR r (.v (.one (.bool true (true))))) = (inR IntKind.i64 a ∧ inR IntKind.i64 ((1 : Int) + a.tmod (9 : Int)) ∧ (((if withinB ((1 : Int) + a.tmod (9 : Int)) (1 : Int) (9 : Int) = true then (0 : Int) else (14 : Int)) != (0 : Int)) = true → false = true) ∧ (((if withinB ((1 : Int) + a.tmod (9 : Int)) (1 : Int) (9 : Int) = true then (0 : Int) else (14 : Int)) != (0 : Int)) = false → inR IntKind.i64 i ∧ (if withinB ((1 : Int) + a.tmod (9 : Int)) (1 : Int) (9 : Int) = true then (48 : Int) * ((1 : Int) + a.tmod (9 : Int)) else (0 : Int)) ≠ (0 : Int) ∧ ((((1 : Int) + a.tmod (9 : Int) = fA a ∧ (if withinB ((1 : Int) + a.tmod (9 : Int)) (1 : Int) (9 : Int) = true then (48 : Int) * ((1 : Int) + a.tmod (9 : Int)) else (0 : Int)) = fN a ∧ i.tmod (if withinB ((1 : Int) + a.tmod (9 : Int)) (1 : Int) (9 : Int) = true then (48 : Int) * ((1 : Int) + a.tmod (9 : Int)) else (0 : Int)) = fK a i ∧ i.tmod (if withinB ((1 : Int) + a.tmod (9 : Int)) (1 : Int) (9 : Int) = true then (48 : Int) * ((1 : Int) + a.tmod (9 : Int)) else (0 : Int)) = fK a i + ↑(0 : Nat) ∧ True) ∧ True) ∧ fK a i + ↑(0 : Nat) ≤ fN a) ∧ ∀ (s : Nat), fK a i + ↑s ≤ fN a → (decide (fK a i + ↑s < fN a) = true → inR IntKind.i64 (fN a - fK a i) ∧ inR IntKind.i64 ((8192 : Int) * (fN a - fK a i)) ∧ (fN a ≠ (0 : Int) ∧ inR IntKind.i64 (((8192 : Int) * (fN a - fK a i)).tdiv (fN a))) ∧ (decide (((8192 : Int) * (fN a - fK a i)).tdiv (fN a) < sampleF (fA a) (fK a i + ↑s)) = false → inR IntKind.i64 (-sampleF (fA a) (fK a i + ↑s)) ∧ inR IntKind.i64 (fN a - fK a i) ∧ inR IntKind.i64 ((8192 : Int) * (fN a - fK a i)) ∧ (fN a ≠ (0 : Int) ∧ inR IntKind.i64 (((8192 : Int) * (fN a - fK a i)).tdiv (fN a))) ∧ inR IntKind.i64 (((8192 : Int) * (fN a - fK a i)).tdiv (fN a) + (1 : Int)) ∧ (decide (((8192 : Int) * (fN a - fK a i)).tdiv (fN a) + (1 : Int) < -sampleF (fA a) (fK a i + ↑s)) = true → false = true) ∧ (decide (((8192 : Int) * (fN a - fK a i)).tdiv (fN a) + (1 : Int) < -sampleF (fA a) (fK a i + ↑s)) = false → inR IntKind.i64 (fK a i + ↑s + (1 : Int)) ∧ ∃ (s' : Nat), (((fA a = fA a ∧ fN a = fN a ∧ fK a i = fK a i ∧ fK a i + ↑s + (1 : Int) = fK a i + ↑s' ∧ True) ∧ True) ∧ fK a i + ↑s' ≤ fN a) ∧ (fN a - ↑s').toNat < (fN a - ↑s).toNat)) ∧ (decide (((8192 : Int) * (fN a - fK a i)).tdiv (fN a) < sampleF (fA a) (fK a i + ↑s)) = true → false = true)) ∧ (decide (fK a i + ↑s < fN a) = false → true = true))) := by kernel_rfl
theorem s_BankFades : FSound Try.prog 3 c_BankFades := by
  refine fsound_of (Ctx.ok_of2 (M := Mx) mixedA ok_BankWhole okD_samples okB0) Try.func3 (by kernel_rfl) (by kernel_rfl) ?_
  intro us p v h hp
  unfold c_BankFades at h
  split at h
  · rename_i k0 a k1 i
    cases h
    have hp : (0 ≤ a ∧ a ≤ 255) ∧ (0 ≤ i ∧ i ≤ 65535) := hp
    refine ⟨rfl, (fun bk => match bk with | 0 => some { S := Nat, st := fun s => ⟨[.junk, .junk, .junk, .junk, .junk, .v (.one (.int .i64 false (fA a))), .v (.one (.int .i64 false (fN a))), .junk, .v (.one (.int .i64 false (fK a i))), .v (.one (.int .i64 false (fK a i + (s : Int)))), .junk, .junk, .junk, .junk, .junk, .junk, .junk, .junk, .junk, .junk, .junk, .junk, .junk, .junk, .junk, .junk, .junk, .junk, .junk, .junk, .junk, .junk, .junk, .junk, .junk, .junk, .junk, .junk, .junk, .junk, .junk, .junk, .junk, .junk, .junk, .junk, .junk, .junk, .junk, .junk, .junk, .junk, .junk, .junk, .junk, .junk, .junk], []⟩, ok := fun s => fK a i + (s : Int) ≤ fN a, mu := fun s => (fN a - (s : Int)).toNat, init := 0 } | _ => none), 400, [.v (.one (.int .u8 false a)), .v (.one (.int .u16 false i))], by simp [tmLe, svLe, vLe, lfLe, lfsLe, ifB, nmIs, idR], rfl, ?_⟩
    rw [nf_BankFades]
    obtain ⟨ha, hi⟩ := hp
    have hA : 1 ≤ fA a ∧ fA a ≤ 9 := by unfold fA; rw [Int.tmod_eq_emod_of_nonneg (by omega)]; omega
    have e1 : 1 + a.tmod 9 = fA a := rfl
    have hw : withinB (fA a) 1 9 = true := within_iff.2 hA
    have hn : fN a = 48 * fA a := rfl
    have e3 : i.tmod (fN a) = fK a i := rfl
    have hK : 0 ≤ fK a i ∧ fK a i < fN a := by
      rw [← e3, Int.tmod_eq_emod_of_nonneg (by omega)]
      exact ⟨Int.emod_nonneg _ (by omega), Int.emod_lt_of_pos _ (by omega)⟩
    simp only [e1, hw, if_true, ← hn, e3]
    refine ⟨by simp only [inR, klo, khi]; omega, by simp only [inR, klo, khi]; omega, by simp, fun _ => ⟨by simp only [inR, klo, khi]; omega, by omega, ⟨by simp, by omega⟩, fun s hs => ⟨fun hc => ?_, fun hc => ?_⟩⟩⟩
    · simp only [decide_eq_true_eq] at hc
      have hin : insB (fA a) (fK a i + (s : Int)) = true := ins_iff.2 ⟨hA, by omega, by omega⟩
      have hx : sampleF (fA a) (fK a i + (s : Int)) = waveF (fA a) (fK a i + (s : Int)) * (fN a - (fK a i + (s : Int))) / fN a := by unfold sampleF; rw [if_pos hin]; rfl
      have hf := fade_bd (j := fK a i + (s : Int)) (k := fK a i) (waveF_bd (fA a) (fK a i + (s : Int))) (show 0 < fN a by omega) ⟨by omega, by omega, by omega⟩
      rw [← hx] at hf
      have hb := sampleF_bd (fA a) (fK a i + (s : Int))
      have ht : (8192 * (fN a - fK a i)).tdiv (fN a) = 8192 * (fN a - fK a i) / fN a := Int.tdiv_eq_ediv_of_nonneg (by omega)
      have hd : 0 ≤ 8192 * (fN a - fK a i) / fN a ∧ 8192 * (fN a - fK a i) / fN a ≤ 8192 * (fN a - fK a i) := ⟨Int.ediv_nonneg (by omega) (by omega), Int.ediv_le_self _ (by omega)⟩
      rw [ht]
      generalize 8192 * (fN a - fK a i) / fN a = Y at *
      generalize sampleF (fA a) (fK a i + (s : Int)) = X at *
      simp only [true_and, and_true, inR, klo, khi, decide_eq_true_eq, decide_eq_false_iff_not]
      (repeat' (first | (refine And.intro ?_ ?_) | intro _))
      all_goals first
        | omega
        | (refine ⟨s + 1, ⟨by omega, by omega⟩, by omega⟩)
        | trace_state
    · simp
  · cases h
noncomputable def Γ_BankFades : List (FuncId × FC) := (3, c_BankFades) :: Γ_BankWhole
theorem ok_BankFades : ΓOk Try.prog Γ_BankFades := ΓOk.cons s_BankFades ok_BankWhole

theorem BankTells_walk (a : Int) (i : Int) (w_a : (Lit.int .i64 a).wf = true) (w_i : (Lit.int .i64 i).wf = true) (w : World) : Calls Try.prog 4 #[.int .i64 a, .int .i64 i] w fun e w' => e = .returned (.bool true) ∧ Ext w w' :=
  calls_of_fsound s_BankTells (us := [.v (.one (.int .i64 false a)), .v (.one (.int .i64 false i))]) (p := none) rfl (trivial) rfl rfl w

theorem BankWhole_walk (a : Int) (f : Int) (t : Int) (m : Int) (w_a : (Lit.int .i64 a).wf = true) (w_f : (Lit.int .i64 f).wf = true) (w_t : (Lit.int .i64 t).wf = true) (w_m : (Lit.int .i64 m).wf = true) (w : World) : Calls Try.prog 5 #[.int .i64 a, .int .i64 f, .int .i64 t, .int .i64 m] w fun e w' => e = .returned (.bool true) ∧ Ext w w' :=
  calls_of_fsound s_BankWhole (us := [.v (.one (.int .i64 false a)), .v (.one (.int .i64 false f)), .v (.one (.int .i64 false t)), .v (.one (.int .i64 false m))]) (p := none) rfl (trivial) rfl rfl w

theorem BankFades_walk (a : Int) (i : Int) (w_a : (Lit.int .u8 a).wf = true) (w_i : (Lit.int .u16 i).wf = true) (w : World) : Calls Try.prog 3 #[.int .u8 a, .int .u16 i] w fun e w' => e = .returned (.bool true) ∧ Ext w w' :=
  calls_of_fsound s_BankFades (us := [.v (.one (.int .u8 false a)), .v (.one (.int .u16 false i))]) (p := some ((0 ≤ a ∧ a ≤ 255) ∧ (0 ≤ i ∧ i ≤ 65535))) rfl (⟨bounds_u8 w_a, bounds_u16 w_i⟩) rfl rfl w

end Go.Proofs.Ytlmhklaobfmhbaa
