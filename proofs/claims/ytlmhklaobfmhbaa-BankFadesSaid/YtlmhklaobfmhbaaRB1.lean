/- SOUNDS. Conditions: the contracts' own. Own work; the normal forms were printed by a program of mine (wip/rex). -/
import Derived.Test.YtlmhklaobfmhbaaR0
import Derived.Test.YtlmhklaobfmhbaaFixed2
import Derived.Test.YtlmhklaobfmhbaaSkipLoop
import Derived.Test.YtlmhklaobfmhbaaTrig2
namespace Go.Proofs.Ytlmhklaobfmhbaa
open Go.RowKit Rex
set_option linter.unusedVariables false
set_option linter.unusedSimpArgs false
set_option maxRecDepth 100000


def withinB (n l m : Int) : Bool := decide (l ≤ n) && decide (n ≤ m)
theorem within_iff {n l m : Int} : withinB n l m = true ↔ l ≤ n ∧ n ≤ m := by unfold withinB; simp

def insB (a i : Int) : Bool := withinB a 1 9 && (decide (0 ≤ i) && decide (i < 48 * a))
/-- the wave of a sound at a place -/
def waveF (a i : Int) : Int := if insB a i = true then (if a % 2 = 0 then sinF (i * 512 * a) / 8 else (stp (i + 1).toNat a / 65536 - 32768) / 4) else 0
def sampleF (a i : Int) : Int := if insB a i = true then waveF a i * (48 * a - i) / (48 * a) else 0
def aroundF (a i : Int) : Int := if withinB a 1 9 = true ∧ 0 ≤ i then waveF a (i % (48 * a)) else 0
theorem ins_iff {a i : Int} : insB a i = true ↔ (1 ≤ a ∧ a ≤ 9) ∧ 0 ≤ i ∧ i < 48 * a := by unfold insB; simp only [Bool.and_eq_true, within_iff, decide_eq_true_eq]
/-- a part of a number -/
theorem part_bd (w m n K : Int) (hw : -K ≤ w ∧ w ≤ K) (hm : 0 ≤ m ∧ m ≤ n) (hn : 0 < n) : -K ≤ w * m / n ∧ w * m / n ≤ K := by
  have h1 : w * m ≤ K * n := by
    have a1 : w * m ≤ K * m := Int.mul_le_mul_of_nonneg_right hw.2 hm.1
    have a2 : K * m ≤ K * n := Int.mul_le_mul_of_nonneg_left hm.2 (by omega)
    omega
  have h2 : -K * n ≤ w * m := by
    have a1 : -K * m ≤ w * m := Int.mul_le_mul_of_nonneg_right hw.1 hm.1
    have a2 : -K * n ≤ -K * m := Int.mul_le_mul_of_nonpos_left (by omega) hm.2
    omega
  exact ⟨(Int.le_ediv_iff_mul_le hn).2 h2, Int.ediv_le_of_le_mul hn h1⟩
theorem waveF_bd (a i : Int) : -8192 ≤ waveF a i ∧ waveF a i ≤ 8192 := by
  unfold waveF
  split
  · split
    · have := sinF_bd (i * 512 * a); omega
    · have := stp_bd (i + 1).toNat a; omega
  · omega

def blenF (a : Int) : Int := if withinB a 1 9 = true then 48 * a else 0
/-- the greatest size of the first k samples -/
def peakN : Nat → Int → Int
  | 0, _ => 0
  | k + 1, a => max (max (peakN k a) (sampleF a (k : Int))) (-(sampleF a (k : Int)))
/-- the sum of the squares of so many samples from one on -/
def sumN : Nat → Int → Int → Int
  | 0, _, _ => 0
  | k + 1, a, f => sumN k a f + sampleF a (f + (k : Int)) * sampleF a (f + (k : Int))
theorem sq8_bd {x : Int} (h : -8192 ≤ x ∧ x ≤ 8192) : 0 ≤ x * x ∧ x * x ≤ 67108864 := by
  refine ⟨?_, ?_⟩
  · rcases Int.le_total 0 x with k | k
    · exact Int.mul_nonneg k k
    · exact Int.mul_nonneg_of_nonpos_of_nonpos k k
  · have h1 : 0 ≤ (8192 - x) * (8192 + x) := Int.mul_nonneg (by omega) (by omega)
    have h2 : (8192 - x) * (8192 + x) = 67108864 - x * x := by
      rw [Int.sub_mul, Int.mul_add, Int.mul_add, Int.mul_comm x 8192]; omega
    omega
theorem blenF_bd (a : Int) : 0 ≤ (if withinB a 1 9 = true then 48 * a else 0) ∧ (if withinB a 1 9 = true then 48 * a else 0) ≤ 432 := by
  split
  · rename_i h
    have := within_iff.1 h
    omega
  · omega
def energyF (a f t : Int) : Int := sumN (min t (blenF a) - max f 0).toNat a (max f 0)
theorem sampleF_bd (a i : Int) : -8192 ≤ sampleF a i ∧ sampleF a i ≤ 8192 := by
  unfold sampleF
  split
  · rename_i h
    obtain ⟨⟨h1, h2⟩, h3, h4⟩ := ins_iff.1 h
    exact part_bd (waveF a i) (48 * a - i) (48 * a) 8192 (waveF_bd a i) (by omega) (by omega)
  · omega

theorem sumN_bd (k : Nat) (a f : Int) : 0 ≤ sumN k a f ∧ sumN k a f ≤ (k : Int) * 67108864 := by
  induction k with
  | zero => simp [sumN]
  | succ k ih =>
    have := sq8_bd (sampleF_bd a (f + (k : Int)))
    simp only [sumN]
    omega


noncomputable def c_sin : FC := fun us => match us with
  | [.v (.one (.int .i64 _ a))] => some (none, .v (.one (.int .i32 false (sinF a))))
  | _ => none
theorem s_sin : FSound Try.prog 39 c_sin := by
  refine fsound_calls Try.func39 (by kernel_rfl) (by kernel_rfl) ?_
  intro us p v h hp
  unfold c_sin at h
  split at h
  · rename_i k0 a
    cases h
    exact ⟨[.int .i64 a], .int .i32 (sinF a), rfl, rfl, fun w => same_ext (sin_any a w)⟩
  · cases h
noncomputable def Γ_sin : List (FuncId × FC) := (39, c_sin) :: Γ0
theorem ok_sin : ΓOk Try.prog Γ_sin := ΓOk.cons s_sin ok0

noncomputable def c_rsin : FC := fun us => match us with
  | [.v (.one (.int .i64 _ a))] => some (none, .v (.one (.int .i32 false (sinF a))))
  | _ => none
theorem s_rsin : FSound Try.prog 42 c_rsin := by
  refine fsound_calls Try.func42 (by kernel_rfl) (by kernel_rfl) ?_
  intro us p v h hp
  unfold c_rsin at h
  split at h
  · rename_i k0 a
    cases h
    exact ⟨[.int .i64 a], .int .i32 (sinF a), rfl, rfl, fun w => same_ext (rsin_any a w)⟩
  · cases h
noncomputable def Γ_rsin : List (FuncId × FC) := (42, c_rsin) :: Γ_sin
theorem ok_rsin : ΓOk Try.prog Γ_rsin := ΓOk.cons s_rsin ok_sin

noncomputable def c_skip : FC := fun us => match us with
  | [.v (.one (.int .u32 _ s)), .v (.one (.int .u64 _ n))] => some (some (0 ≤ n ∧ n ≤ 18446744073709551615), .v (.one (.int .u32 false (stp n.toNat s))))
  | _ => none
theorem s_skip : FSound Try.prog 40 c_skip := by
  refine fsound_calls Try.func40 (by kernel_rfl) (by kernel_rfl) ?_
  intro us p v h hp
  unfold c_skip at h
  split at h
  · rename_i k0 s k1 n
    cases h
    have hp : 0 ≤ n ∧ n ≤ 18446744073709551615 := hp
    exact ⟨[.int .u32 s, .int .u64 n], .int .u32 (stp n.toNat s), rfl, rfl, fun w => by have h := skip_any s n.toNat w (by omega); rwa [Int.toNat_of_nonneg hp.1] at h⟩
  · cases h
noncomputable def Γ_skip : List (FuncId × FC) := (40, c_skip) :: Γ_rsin
theorem ok_skip : ΓOk Try.prog Γ_skip := ΓOk.cons s_skip ok_rsin

noncomputable def c_rnext : FC := fun us => match us with
  | [.v (.one (.int .u32 _ a))] => some (some (0 ≤ a ∧ a ≤ 4294967295), .v (.one (.int .u32 false (nx a))))
  | _ => none
theorem s_rnext : FSound Try.prog 43 c_rnext := by
  refine fsound_calls Try.func43 (by kernel_rfl) (by kernel_rfl) ?_
  intro us p v h hp
  unfold c_rnext at h
  split at h
  · rename_i k0 a
    cases h
    have hp : 0 ≤ a ∧ a ≤ 4294967295 := hp
    exact ⟨[.int .u32 a], .int .u32 (nx a), rfl, rfl, fun w => rnext_any a w hp.1 hp.2⟩
  · cases h
noncomputable def Γ_rnext : List (FuncId × FC) := (43, c_rnext) :: Γ_skip
theorem ok_rnext : ΓOk Try.prog Γ_rnext := ΓOk.cons s_rnext ok_skip

noncomputable def c_rfloor : FC := fun us => match us with
  | [.v (.one (.int .i64 _ a)), .v (.one (.int .i64 _ b))] => some (some (0 < b ∧ b ≤ 1099511627776 ∧ -4611686018427387904 ≤ a ∧ a ≤ 4611686018427387904), .v (.one (.int .i64 false (a / b))))
  | _ => none
theorem s_rfloor : FSound Try.prog 41 c_rfloor := by
  refine fsound_calls Try.func41 (by kernel_rfl) (by kernel_rfl) ?_
  intro us p v h hp
  unfold c_rfloor at h
  split at h
  · rename_i k0 a k1 b
    cases h
    have hp : 0 < b ∧ b ≤ 1099511627776 ∧ -4611686018427387904 ≤ a ∧ a ≤ 4611686018427387904 := hp
    exact ⟨[.int .i64 a, .int .i64 b], .int .i64 (a / b), rfl, rfl, fun w => by have h := rfloor_any a b w hp.1 hp.2.1 hp.2.2; rw [Int.fdiv_eq_ediv_of_nonneg _ (by omega)] at h; exact same_ext h⟩
  · cases h
noncomputable def Γ_rfloor : List (FuncId × FC) := (41, c_rfloor) :: Γ_rnext
theorem ok_rfloor : ΓOk Try.prog Γ_rfloor := ΓOk.cons s_rfloor ok_rnext

noncomputable def c_lerp : FC := fun us => match us with
  | [.v (.one (.int .i32 _ a)), .v (.one (.int .i32 _ b)), .v (.one (.int .i64 _ n)), .v (.one (.int .i64 _ o))] => some (some ((-2147483648 ≤ a ∧ a ≤ 2147483647) ∧ (-2147483648 ≤ b ∧ b ≤ 2147483647) ∧ (1 ≤ o ∧ o ≤ 65536) ∧ (0 ≤ n ∧ n ≤ o)), .tup [.one (.int .i32 false (lerpF a b n o)), .one (.int .i64 false (0))])
  | _ => none
theorem s_lerp : FSound Try.prog 38 c_lerp := by
  refine fsound_calls Try.func38 (by kernel_rfl) (by kernel_rfl) ?_
  intro us p v h hp
  unfold c_lerp at h
  split at h
  · rename_i k0 a k1 b k2 n k3 o
    cases h
    have hp : (-2147483648 ≤ a ∧ a ≤ 2147483647) ∧ (-2147483648 ≤ b ∧ b ≤ 2147483647) ∧ (1 ≤ o ∧ o ≤ 65536) ∧ (0 ≤ n ∧ n ≤ o) := hp
    exact ⟨[.int .i32 a, .int .i32 b, .int .i64 n, .int .i64 o], .tuple #[.int .i32 (lerpF a b n o), .int .i64 (0)], rfl, rfl, fun w => same_ext (lerp_any a b n o w hp.1 hp.2.1 hp.2.2.1 hp.2.2.2)⟩
  · cases h
noncomputable def Γ_lerp : List (FuncId × FC) := (38, c_lerp) :: Γ_rfloor
theorem ok_lerp : ΓOk Try.prog Γ_lerp := ΓOk.cons s_lerp ok_rfloor

noncomputable def c_there : FC := fun us => match us with
  | [.v (.one (.int .i64 _ n))] => some (none, .v (.one (.bool false (withinB n 1 9))))
  | _ => none
theorem nf_there (n : Int) : goal ⟨Mx, Try.prog, Γ_lerp, Δ0, B0, none, false⟩ noL 400 Try.f36 [.v (.one (.int .i64 false n))] [] (fun r _ => svLe idR r (.v (.one (.bool false (withinB n 1 9))))) = ((decide ((1 : Int) ≤ n) = true → decide (n ≤ (9 : Int)) = withinB n (1 : Int) (9 : Int)) ∧ (decide ((1 : Int) ≤ n) = false → false = withinB n (1 : Int) (9 : Int))) := by kernel_rfl
theorem s_there : FSound Try.prog 36 c_there := by
  refine fsound_of (Ctx.ok_of2 (M := Mx) mixedA ok_lerp okD0 okB0) Try.func36 (by kernel_rfl) (by kernel_rfl) ?_
  intro us p v h hp
  unfold c_there at h
  split at h
  · rename_i k0 n
    cases h
    refine ⟨rfl, noL, 400, [.v (.one (.int .i64 false n))], by simp [tmLe, svLe, vLe, lfLe, lfsLe, ifB, nmIs, idR], rfl, ?_⟩
    rw [nf_there]
    clear hp
    (repeat' (first | (refine And.intro ?_ ?_) | intro _))
    all_goals (try (refine Bool.eq_iff_iff.2 ?_))
    all_goals (try simp only [decide_eq_true_eq, decide_eq_false_iff_not, beq_iff_eq, beq_eq_false_iff_ne, bne_iff_ne, bne_eq_false_iff_eq, ne_eq, Bool.not_eq_true', Bool.not_eq_false', ← Bool.not_eq_true, Bool.true_eq_false, Bool.false_eq_true, Bool.and_eq_true, Bool.or_eq_true, false_iff, iff_false, true_iff, iff_true, not_true_eq_false, not_false_eq_true, and_true, true_and, inR, klo, khi, within_iff] at *)
    all_goals (repeat' split)
    all_goals omega
  · cases h
noncomputable def Γ_there : List (FuncId × FC) := (36, c_there) :: Γ_lerp
theorem ok_there : ΓOk Try.prog Γ_there := ΓOk.cons s_there ok_lerp

noncomputable def c_blen : FC := fun us => match us with
  | [.v (.one (.int .i64 _ n))] => some (none, .tup [.one (.int .i64 false (if withinB n 1 9 = true then 48 * n else 0)), .one (.int .i64 false (if withinB n 1 9 = true then 0 else 14))])
  | _ => none
theorem nf_blen (n : Int) : goal ⟨Mx, Try.prog, Γ_there, Δ0, B0, none, false⟩ noL 400 Try.f11 [.v (.one (.int .i64 false n))] [] (fun r _ => svLe idR r (.tup [.one (.int .i64 false (if withinB n 1 9 = true then 48 * n else 0)), .one (.int .i64 false (if withinB n 1 9 = true then 0 else 14))])) = (((!withinB n (1 : Int) (9 : Int)) = true → ((0 : Int) = if withinB n (1 : Int) (9 : Int) = true then (48 : Int) * n else (0 : Int)) ∧ (14 : Int) = if withinB n (1 : Int) (9 : Int) = true then (0 : Int) else (14 : Int)) ∧ ((!withinB n (1 : Int) (9 : Int)) = false → inR IntKind.i64 ((48 : Int) * n) ∧ ((48 : Int) * n = if withinB n (1 : Int) (9 : Int) = true then (48 : Int) * n else (0 : Int)) ∧ (0 : Int) = if withinB n (1 : Int) (9 : Int) = true then (0 : Int) else (14 : Int))) := by kernel_rfl
theorem s_blen : FSound Try.prog 11 c_blen := by
  refine fsound_of (Ctx.ok_of2 (M := Mx) mixedA ok_there okD0 okB0) Try.func11 (by kernel_rfl) (by kernel_rfl) ?_
  intro us p v h hp
  unfold c_blen at h
  split at h
  · rename_i k0 n
    cases h
    refine ⟨rfl, noL, 400, [.v (.one (.int .i64 false n))], by simp [tmLe, svLe, vLe, lfLe, lfsLe, ifB, nmIs, idR], rfl, ?_⟩
    rw [nf_blen]
    clear hp
    cases h : withinB n 1 9
    · simp
    · have := within_iff.1 h
      simp [inR, klo, khi]; omega
  · cases h
noncomputable def Γ_blen : List (FuncId × FC) := (11, c_blen) :: Γ_there
theorem ok_blen : ΓOk Try.prog Γ_blen := ΓOk.cons s_blen ok_there

noncomputable def c_rlen : FC := fun us => match us with
  | [.v (.one (.int .i64 _ n))] => some (none, .v (.one (.int .i64 false (if withinB n 1 9 = true then 48 * n else 0))))
  | _ => none
theorem nf_rlen (n : Int) : goal ⟨Mx, Try.prog, Γ_blen, Δ0, B0, none, false⟩ noL 400 Try.f13 [.v (.one (.int .i64 false n))] [] (fun r _ => svLe idR r (.v (.one (.int .i64 false (if withinB n 1 9 = true then 48 * n else 0))))) = ((decide (n < (1 : Int)) = false → (decide ((9 : Int) < n) = true → (0 : Int) = if withinB n (1 : Int) (9 : Int) = true then (48 : Int) * n else (0 : Int)) ∧ (decide ((9 : Int) < n) = false → inR IntKind.i64 ((48 : Int) * n) ∧ (48 : Int) * n = if withinB n (1 : Int) (9 : Int) = true then (48 : Int) * n else (0 : Int))) ∧ (decide (n < (1 : Int)) = true → (0 : Int) = if withinB n (1 : Int) (9 : Int) = true then (48 : Int) * n else (0 : Int))) := by kernel_rfl
theorem s_rlen : FSound Try.prog 13 c_rlen := by
  refine fsound_of (Ctx.ok_of2 (M := Mx) mixedA ok_blen okD0 okB0) Try.func13 (by kernel_rfl) (by kernel_rfl) ?_
  intro us p v h hp
  unfold c_rlen at h
  split at h
  · rename_i k0 n
    cases h
    refine ⟨rfl, noL, 400, [.v (.one (.int .i64 false n))], by simp [tmLe, svLe, vLe, lfLe, lfsLe, ifB, nmIs, idR], rfl, ?_⟩
    rw [nf_rlen]
    clear hp
    (repeat' (first | (refine And.intro ?_ ?_) | intro _))
    all_goals (try (refine Bool.eq_iff_iff.2 ?_))
    all_goals (try simp only [decide_eq_true_eq, decide_eq_false_iff_not, beq_iff_eq, beq_eq_false_iff_ne, bne_iff_ne, bne_eq_false_iff_eq, ne_eq, Bool.not_eq_true', Bool.not_eq_false', ← Bool.not_eq_true, Bool.true_eq_false, Bool.false_eq_true, Bool.and_eq_true, Bool.or_eq_true, false_iff, iff_false, true_iff, iff_true, not_true_eq_false, not_false_eq_true, and_true, true_and, inR, klo, khi, within_iff] at *)
    all_goals (repeat' split)
    all_goals omega
  · cases h
noncomputable def Γ_rlen : List (FuncId × FC) := (13, c_rlen) :: Γ_blen
theorem ok_rlen : ΓOk Try.prog Γ_rlen := ΓOk.cons s_rlen ok_blen

noncomputable def c_inside : FC := fun us => match us with
  | [.v (.one (.int .i64 _ a)), .v (.one (.int .i64 _ i))] => some (none, .v (.one (.bool false (insB a i))))
  | _ => none
theorem nf_inside (a : Int) (i : Int) : goal ⟨Mx, Try.prog, Γ_rlen, Δ0, B0, none, false⟩ noL 400 Try.f37 [.v (.one (.int .i64 false a)), .v (.one (.int .i64 false i))] [] (fun r _ => svLe idR r (.v (.one (.bool false (insB a i))))) = ((withinB a (1 : Int) (9 : Int) = true → (decide ((0 : Int) ≤ i) = true → inR IntKind.i64 ((48 : Int) * a) ∧ decide (i < (48 : Int) * a) = insB a i) ∧ (decide ((0 : Int) ≤ i) = false → false = insB a i)) ∧ (withinB a (1 : Int) (9 : Int) = false → false = insB a i)) := by kernel_rfl
theorem s_inside : FSound Try.prog 37 c_inside := by
  refine fsound_of (Ctx.ok_of2 (M := Mx) mixedA ok_rlen okD0 okB0) Try.func37 (by kernel_rfl) (by kernel_rfl) ?_
  intro us p v h hp
  unfold c_inside at h
  split at h
  · rename_i k0 a k1 i
    cases h
    refine ⟨rfl, noL, 400, [.v (.one (.int .i64 false a)), .v (.one (.int .i64 false i))], by simp [tmLe, svLe, vLe, lfLe, lfsLe, ifB, nmIs, idR], rfl, ?_⟩
    rw [nf_inside]
    clear hp
    unfold insB
    cases h : withinB a 1 9
    · simp
    · have := within_iff.1 h
      simp only [Bool.true_and]
      (repeat' (first | (refine And.intro ?_ ?_) | intro _))
      all_goals (try (refine Bool.eq_iff_iff.2 ?_))
      all_goals (try simp only [decide_eq_true_eq, decide_eq_false_iff_not, beq_iff_eq, beq_eq_false_iff_ne, bne_iff_ne, bne_eq_false_iff_eq, ne_eq, Bool.not_eq_true', Bool.not_eq_false', ← Bool.not_eq_true, Bool.true_eq_false, Bool.false_eq_true, Bool.and_eq_true, Bool.or_eq_true, false_iff, iff_false, true_iff, iff_true, not_true_eq_false, not_false_eq_true, and_true, true_and, inR, klo, khi] at *)
      all_goals (repeat' split)
      all_goals omega
  · cases h
noncomputable def Γ_inside : List (FuncId × FC) := (37, c_inside) :: Γ_rlen
theorem ok_inside : ΓOk Try.prog Γ_inside := ΓOk.cons s_inside ok_rlen

noncomputable def c_wave : FC := fun us => match us with
  | [.v (.one (.int .i64 _ a)), .v (.one (.int .i64 _ i))] => some (none, .v (.one (.int .i64 false (waveF a i))))
  | _ => none
theorem nf_wave (a : Int) (i : Int) : goal ⟨Mx, Try.prog, Γ_inside, Δ0, B0, none, false⟩ noL 400 Try.f14 [.v (.one (.int .i64 false a)), .v (.one (.int .i64 false i))] [] (fun r _ => svLe idR r (.v (.one (.int .i64 false (waveF a i))))) = (((!insB a i) = true → (0 : Int) = waveF a i) ∧ ((!insB a i) = false → ((a.tmod (2 : Int) == (0 : Int)) = true → inR IntKind.i64 (i * (512 : Int)) ∧ inR IntKind.i64 (i * (512 : Int) * a) ∧ inR IntKind.i64 (sinF (i * (512 : Int) * a)) ∧ sinF (i * (512 : Int) * a) / (8 : Int) = waveF a i) ∧ ((a.tmod (2 : Int) == (0 : Int)) = false → inR IntKind.u32 a ∧ inR IntKind.u64 i ∧ inR IntKind.u64 (i + (1 : Int)) ∧ ((0 : Int) ≤ i + (1 : Int) ∧ i + (1 : Int) ≤ (18446744073709551615 : Int)) ∧ inR IntKind.i64 (stp (i + (1 : Int)).toNat a / (65536 : Int)) ∧ inR IntKind.i64 (stp (i + (1 : Int)).toNat a / (65536 : Int) - (32768 : Int)) ∧ (stp (i + (1 : Int)).toNat a / (65536 : Int) - (32768 : Int)) / (4 : Int) = waveF a i))) := by kernel_rfl
theorem s_wave : FSound Try.prog 14 c_wave := by
  refine fsound_of (Ctx.ok_of2 (M := Mx) mixedA ok_inside okD0 okB0) Try.func14 (by kernel_rfl) (by kernel_rfl) ?_
  intro us p v h hp
  unfold c_wave at h
  split at h
  · rename_i k0 a k1 i
    cases h
    refine ⟨rfl, noL, 400, [.v (.one (.int .i64 false a)), .v (.one (.int .i64 false i))], by simp [tmLe, svLe, vLe, lfLe, lfsLe, ifB, nmIs, idR], rfl, ?_⟩
    rw [nf_wave]
    clear hp
    cases h : insB a i
    · simp [waveF, h]
    · obtain ⟨⟨h1, h2⟩, h3, h4⟩ := ins_iff.1 h
      have m1 := mul_bd (i * 512) a 221184 9 (by omega) (by omega)
      have e1 := sinF_bd (i * 512 * a)
      have e2 := stp_bd (i + 1).toNat a
      have e3 : a.tmod 2 = a % 2 := Int.tmod_eq_emod_of_nonneg (by omega)
      rw [e3]
      unfold waveF
      rw [if_pos h]
      simp only [Bool.not_true, Bool.false_eq_true, Bool.true_eq_false, false_implies, true_implies, true_and]
      refine ⟨fun g => ?_, fun g => ?_⟩ <;> simp only [beq_iff_eq, beq_eq_false_iff_ne, ne_eq] at g <;> simp only [g, if_true, if_false, inR, klo, khi, and_true] <;> omega
  · cases h
noncomputable def Γ_wave : List (FuncId × FC) := (14, c_wave) :: Γ_inside
theorem ok_wave : ΓOk Try.prog Γ_wave := ΓOk.cons s_wave ok_inside

noncomputable def c_sample : FC := fun us => match us with
  | [.v (.one (.int .i64 _ a)), .v (.one (.int .i64 _ i))] => some (none, .v (.one (.int .i64 false (sampleF a i))))
  | _ => none
theorem nf_sample (a : Int) (i : Int) : goal ⟨Mx, Try.prog, Γ_wave, Δ0, B0, none, false⟩ noL 400 Try.f12 [.v (.one (.int .i64 false a)), .v (.one (.int .i64 false i))] [] (fun r _ => svLe idR r (.v (.one (.int .i64 false (sampleF a i))))) = (((!insB a i) = true → (0 : Int) = sampleF a i) ∧ ((!insB a i) = false → inR IntKind.i64 ((48 : Int) * a) ∧ inR IntKind.i32 (waveF a i) ∧ inR IntKind.i64 ((48 : Int) * a - i) ∧ (((-2147483648 : Int) ≤ (0 : Int) ∧ (0 : Int) ≤ (2147483647 : Int)) ∧ ((-2147483648 : Int) ≤ waveF a i ∧ waveF a i ≤ (2147483647 : Int)) ∧ ((1 : Int) ≤ (48 : Int) * a ∧ (48 : Int) * a ≤ (65536 : Int)) ∧ (0 : Int) ≤ (48 : Int) * a - i ∧ (48 : Int) * a - i ≤ (48 : Int) * a) ∧ inR IntKind.i64 (lerpF (0 : Int) (waveF a i) ((48 : Int) * a - i) ((48 : Int) * a)) ∧ lerpF (0 : Int) (waveF a i) ((48 : Int) * a - i) ((48 : Int) * a) = sampleF a i)) := by kernel_rfl
theorem s_sample : FSound Try.prog 12 c_sample := by
  refine fsound_of (Ctx.ok_of2 (M := Mx) mixedA ok_wave okD0 okB0) Try.func12 (by kernel_rfl) (by kernel_rfl) ?_
  intro us p v h hp
  unfold c_sample at h
  split at h
  · rename_i k0 a k1 i
    cases h
    refine ⟨rfl, noL, 400, [.v (.one (.int .i64 false a)), .v (.one (.int .i64 false i))], by simp [tmLe, svLe, vLe, lfLe, lfsLe, ifB, nmIs, idR], rfl, ?_⟩
    rw [nf_sample]
    clear hp
    cases h : insB a i
    · simp [sampleF, h]
    · obtain ⟨⟨h1, h2⟩, h3, h4⟩ := ins_iff.1 h
      have bd := waveF_bd a i
      have pb := part_bd (waveF a i) (48 * a - i) (48 * a) 8192 bd (by omega) (by omega)
      have e : lerpF 0 (waveF a i) (48 * a - i) (48 * a) = waveF a i * (48 * a - i) / (48 * a) := by
        unfold lerpF
        rw [Int.sub_zero, Int.zero_add]
        exact sat_in _ (by omega)
      rw [e]
      unfold sampleF
      rw [if_pos h]
      simp only [Bool.not_true, Bool.false_eq_true, Bool.true_eq_false, false_implies, true_implies, true_and, and_true, inR, klo, khi]
      omega
  · cases h
noncomputable def Γ_sample : List (FuncId × FC) := (12, c_sample) :: Γ_wave
theorem ok_sample : ΓOk Try.prog Γ_sample := ΓOk.cons s_sample ok_wave

noncomputable def c_around : FC := fun us => match us with
  | [.v (.one (.int .i64 _ a)), .v (.one (.int .i64 _ i))] => some (none, .v (.one (.int .i64 false (aroundF a i))))
  | _ => none
theorem nf_around (a : Int) (i : Int) : goal ⟨Mx, Try.prog, Γ_sample, Δ0, B0, none, false⟩ noL 400 Try.f17 [.v (.one (.int .i64 false a)), .v (.one (.int .i64 false i))] [] (fun r _ => svLe idR r (.v (.one (.int .i64 false (aroundF a i))))) = ((((if withinB a (1 : Int) (9 : Int) = true then (0 : Int) else (14 : Int)) != (0 : Int)) = false → (decide (i < (0 : Int)) = true → (0 : Int) = aroundF a i) ∧ (decide (i < (0 : Int)) = false → (if withinB a (1 : Int) (9 : Int) = true then (48 : Int) * a else (0 : Int)) ≠ (0 : Int) ∧ waveF a (i.tmod (if withinB a (1 : Int) (9 : Int) = true then (48 : Int) * a else (0 : Int))) = aroundF a i)) ∧ (((if withinB a (1 : Int) (9 : Int) = true then (0 : Int) else (14 : Int)) != (0 : Int)) = true → (0 : Int) = aroundF a i)) := by kernel_rfl
theorem s_around : FSound Try.prog 17 c_around := by
  refine fsound_of (Ctx.ok_of2 (M := Mx) mixedA ok_sample okD0 okB0) Try.func17 (by kernel_rfl) (by kernel_rfl) ?_
  intro us p v h hp
  unfold c_around at h
  split at h
  · rename_i k0 a k1 i
    cases h
    refine ⟨rfl, noL, 400, [.v (.one (.int .i64 false a)), .v (.one (.int .i64 false i))], by simp [tmLe, svLe, vLe, lfLe, lfsLe, ifB, nmIs, idR], rfl, ?_⟩
    rw [nf_around]
    clear hp
    unfold aroundF
    cases h : withinB a 1 9
    · simp
    · obtain ⟨h1, h2⟩ := within_iff.1 h
      have hz : ((48 * a == 0) = false) := by rw [beq_eq_false_iff_ne]; omega
      simp only [if_true, bne_self_eq_false, Bool.false_eq_true, Bool.true_eq_false, false_implies, true_implies, and_true, true_and, hz]
      refine ⟨fun g => ?_, fun g => ?_⟩ <;> simp only [decide_eq_true_eq, decide_eq_false_iff_not] at g
      · rw [if_neg (by omega)]
      · rw [if_pos (by omega), Int.tmod_eq_emod_of_nonneg (by omega)]
        exact ⟨by omega, rfl⟩
  · cases h
noncomputable def Γ_around : List (FuncId × FC) := (17, c_around) :: Γ_sample
theorem ok_around : ΓOk Try.prog Γ_around := ΓOk.cons s_around ok_sample

noncomputable def c_rwave : FC := fun us => match us with
  | [.v (.one (.int .i64 _ a)), .v (.one (.int .i64 _ i))] => some (none, .v (.one (.int .i64 false (waveF a i))))
  | _ => none
theorem nf_rwave (a : Int) (i : Int) : goal ⟨Mx, Try.prog, Γ_around, Δ0, B0, none, false⟩ (fun bk => match bk with | 0 => some { S := Nat, st := fun k => ⟨[.v (.one (.int .i64 false (a))), .v (.one (.int .i64 false (i))), .junk, .junk, .junk, .v (.one (.int .u32 false (stp k a))), .v (.one (.int .i64 false ((k : Int)))), .junk, .junk, .junk, .junk, .junk, .junk, .junk, .junk, .junk, .junk, .junk, .junk, .junk, .junk, .junk, .junk, .junk, .junk, .junk, .junk, .junk, .junk, .junk, .junk, .junk, .junk, .junk, .junk, .junk, .junk, .junk, .junk], []⟩, ok := fun k => (k : Int) ≤ i + 1, mu := fun k => (i + 1 - k).toNat, init := 0 } | _ => none) 400 Try.f15 [.v (.one (.int .i64 false a)), .v (.one (.int .i64 false i))] [] (fun r _ => svLe idR r (.v (.one (.int .i64 false (waveF a i))))) = ((decide (i < (0 : Int)) = false → (decide ((if withinB a (1 : Int) (9 : Int) = true then (48 : Int) * a else (0 : Int)) ≤ i) = true → (0 : Int) = waveF a i) ∧ (decide ((if withinB a (1 : Int) (9 : Int) = true then (48 : Int) * a else (0 : Int)) ≤ i) = false → ((a.tmod (2 : Int) == (0 : Int)) = true → inR IntKind.i64 (i * (512 : Int)) ∧ inR IntKind.i64 (i * (512 : Int) * a) ∧ inR IntKind.i64 (sinF (i * (512 : Int) * a)) ∧ ((0 : Int) < (8 : Int) ∧ (8 : Int) ≤ (1099511627776 : Int) ∧ (-4611686018427387904 : Int) ≤ sinF (i * (512 : Int) * a) ∧ sinF (i * (512 : Int) * a) ≤ (4611686018427387904 : Int)) ∧ sinF (i * (512 : Int) * a) / (8 : Int) = waveF a i) ∧ ((a.tmod (2 : Int) == (0 : Int)) = false → inR IntKind.u32 a ∧ (((a = a ∧ i = i ∧ a = stp (0 : Nat) a ∧ (0 : Int) = ↑(0 : Nat) ∧ True) ∧ True) ∧ ↑(0 : Nat) ≤ i + (1 : Int)) ∧ ∀ (s : Nat), ↑s ≤ i + (1 : Int) → (decide (↑s ≤ i) = true → ((0 : Int) ≤ stp s a ∧ stp s a ≤ (4294967295 : Int)) ∧ inR IntKind.i64 (↑s + (1 : Int)) ∧ ∃ (s' : Nat), (((a = a ∧ i = i ∧ nx (stp s a) = stp s' a ∧ ↑s + (1 : Int) = ↑s' ∧ True) ∧ True) ∧ ↑s' ≤ i + (1 : Int)) ∧ (i + (1 : Int) - ↑s').toNat < (i + (1 : Int) - ↑s).toNat) ∧ (decide (↑s ≤ i) = false → inR IntKind.u32 ((stp s a).tdiv (65536 : Int)) ∧ inR IntKind.i64 ((stp s a).tdiv (65536 : Int)) ∧ inR IntKind.i64 ((stp s a).tdiv (65536 : Int) - (32768 : Int)) ∧ ((0 : Int) < (4 : Int) ∧ (4 : Int) ≤ (1099511627776 : Int) ∧ (-4611686018427387904 : Int) ≤ (stp s a).tdiv (65536 : Int) - (32768 : Int) ∧ (stp s a).tdiv (65536 : Int) - (32768 : Int) ≤ (4611686018427387904 : Int)) ∧ ((stp s a).tdiv (65536 : Int) - (32768 : Int)) / (4 : Int) = waveF a i)))) ∧ (decide (i < (0 : Int)) = true → (0 : Int) = waveF a i)) := by kernel_rfl
theorem s_rwave : FSound Try.prog 15 c_rwave := by
  refine fsound_of (Ctx.ok_of2 (M := Mx) mixedA ok_around okD0 okB0) Try.func15 (by kernel_rfl) (by kernel_rfl) ?_
  intro us p v h hp
  unfold c_rwave at h
  split at h
  · rename_i k0 a k1 i
    cases h
    refine ⟨rfl, (fun bk => match bk with | 0 => some { S := Nat, st := fun k => ⟨[.v (.one (.int .i64 false (a))), .v (.one (.int .i64 false (i))), .junk, .junk, .junk, .v (.one (.int .u32 false (stp k a))), .v (.one (.int .i64 false ((k : Int)))), .junk, .junk, .junk, .junk, .junk, .junk, .junk, .junk, .junk, .junk, .junk, .junk, .junk, .junk, .junk, .junk, .junk, .junk, .junk, .junk, .junk, .junk, .junk, .junk, .junk, .junk, .junk, .junk, .junk, .junk, .junk, .junk], []⟩, ok := fun k => (k : Int) ≤ i + 1, mu := fun k => (i + 1 - k).toNat, init := 0 } | _ => none), 400, [.v (.one (.int .i64 false a)), .v (.one (.int .i64 false i))], by simp [tmLe, svLe, vLe, lfLe, lfsLe, ifB, nmIs, idR], rfl, ?_⟩
    rw [nf_rwave]
    clear hp
    cases hw : withinB a 1 9
    · have hi : insB a i = false := by unfold insB; rw [hw]; rfl
      simp only [Bool.false_eq_true, if_false, waveF, hi]
      (repeat' (first | (refine And.intro ?_ ?_) | intro _))
      all_goals (try (refine Bool.eq_iff_iff.2 ?_))
      all_goals (try simp only [decide_eq_true_eq, decide_eq_false_iff_not, beq_iff_eq, beq_eq_false_iff_ne, bne_iff_ne, bne_eq_false_iff_eq, ne_eq, Bool.not_eq_true', Bool.not_eq_false', ← Bool.not_eq_true, Bool.true_eq_false, Bool.false_eq_true, Bool.and_eq_true, Bool.or_eq_true, false_iff, iff_false, true_iff, iff_true, not_true_eq_false, not_false_eq_true, and_true, true_and, inR, klo, khi] at *)
      all_goals (repeat' split)
      all_goals omega
    · obtain ⟨h1, h2⟩ := within_iff.1 hw
      have hi : 0 ≤ i → i < 48 * a → insB a i = true := fun g k => ins_iff.2 ⟨⟨h1, h2⟩, g, k⟩
      have hj : ¬ (0 ≤ i ∧ i < 48 * a) → waveF a i = 0 := by
        intro g
        unfold waveF
        rw [if_neg]
        rw [ins_iff]
        omega
      simp only [if_true]
      refine ⟨fun g => ?_, fun g => ?_⟩ <;> simp only [decide_eq_true_eq, decide_eq_false_iff_not] at g
      rotate_left
      · rw [hj (by omega)]
      refine ⟨fun k => ?_, fun k => ?_⟩ <;> simp only [decide_eq_true_eq, decide_eq_false_iff_not] at k
      · rw [hj (by omega)]
      have hin := hi (by omega) (by omega)
      have m1 := mul_bd (i * 512) a 221184 9 (by omega) (by omega)
      have e1 := sinF_bd (i * 512 * a)
      have e3 : a.tmod 2 = a % 2 := Int.tmod_eq_emod_of_nonneg (by omega)
      have ew : waveF a i = if a % 2 = 0 then sinF (i * 512 * a) / 8 else (stp (i + 1).toNat a / 65536 - 32768) / 4 := by unfold waveF; rw [if_pos hin]
      rw [e3, ew]
      refine ⟨fun g => ?_, fun g => ?_⟩ <;> simp only [beq_iff_eq, beq_eq_false_iff_ne, ne_eq] at g
      · simp only [g, if_true, inR, klo, khi, and_true]; omega
      rw [if_neg g]
      have z := stp_zero a (by omega) (by omega)
      refine ⟨by simp only [inR, klo, khi]; omega, ⟨by simp [z], by omega⟩, fun s hs => ?_⟩
      have hb := stp_bd s a
      have hsu := stp_succ s a
      refine ⟨fun q => ?_, fun q => ?_⟩ <;> simp only [decide_eq_true_eq, decide_eq_false_iff_not] at q
      · refine ⟨hb, by simp only [inR, klo, khi]; omega, s + 1, ⟨by simp [hsu], by omega⟩, by omega⟩
      · have es : (i + 1).toNat = s := by omega
        rw [es]
        have hq : (stp s a).tdiv 65536 = stp s a / 65536 := Int.tdiv_eq_ediv_of_nonneg hb.1
        rw [hq]
        simp only [inR, klo, khi, and_true]
        omega
  · cases h
noncomputable def Γ_rwave : List (FuncId × FC) := (15, c_rwave) :: Γ_around
theorem ok_rwave : ΓOk Try.prog Γ_rwave := ΓOk.cons s_rwave ok_around

noncomputable def c_rsample : FC := fun us => match us with
  | [.v (.one (.int .i64 _ a)), .v (.one (.int .i64 _ i))] => some (none, .v (.one (.int .i64 false (sampleF a i))))
  | _ => none
theorem nf_rsample (a : Int) (i : Int) : goal ⟨Mx, Try.prog, Γ_rwave, Δ0, B0, none, false⟩ noL 400 Try.f16 [.v (.one (.int .i64 false a)), .v (.one (.int .i64 false i))] [] (fun r _ => svLe idR r (.v (.one (.int .i64 false (sampleF a i))))) = ((decide (i < (0 : Int)) = false → (decide ((if withinB a (1 : Int) (9 : Int) = true then (48 : Int) * a else (0 : Int)) ≤ i) = true → (0 : Int) = sampleF a i) ∧ (decide ((if withinB a (1 : Int) (9 : Int) = true then (48 : Int) * a else (0 : Int)) ≤ i) = false → inR IntKind.i64 ((if withinB a (1 : Int) (9 : Int) = true then (48 : Int) * a else (0 : Int)) - i) ∧ inR IntKind.i64 (waveF a i * ((if withinB a (1 : Int) (9 : Int) = true then (48 : Int) * a else (0 : Int)) - i)) ∧ (((0 : Int) < if withinB a (1 : Int) (9 : Int) = true then (48 : Int) * a else (0 : Int)) ∧ (if withinB a (1 : Int) (9 : Int) = true then (48 : Int) * a else (0 : Int)) ≤ (1099511627776 : Int) ∧ (-4611686018427387904 : Int) ≤ waveF a i * ((if withinB a (1 : Int) (9 : Int) = true then (48 : Int) * a else (0 : Int)) - i) ∧ waveF a i * ((if withinB a (1 : Int) (9 : Int) = true then (48 : Int) * a else (0 : Int)) - i) ≤ (4611686018427387904 : Int)) ∧ (waveF a i * ((if withinB a (1 : Int) (9 : Int) = true then (48 : Int) * a else (0 : Int)) - i) / if withinB a (1 : Int) (9 : Int) = true then (48 : Int) * a else (0 : Int)) = sampleF a i)) ∧ (decide (i < (0 : Int)) = true → (0 : Int) = sampleF a i)) := by kernel_rfl
theorem s_rsample : FSound Try.prog 16 c_rsample := by
  refine fsound_of (Ctx.ok_of2 (M := Mx) mixedA ok_rwave okD0 okB0) Try.func16 (by kernel_rfl) (by kernel_rfl) ?_
  intro us p v h hp
  unfold c_rsample at h
  split at h
  · rename_i k0 a k1 i
    cases h
    refine ⟨rfl, noL, 400, [.v (.one (.int .i64 false a)), .v (.one (.int .i64 false i))], by simp [tmLe, svLe, vLe, lfLe, lfsLe, ifB, nmIs, idR], rfl, ?_⟩
    rw [nf_rsample]
    clear hp
    cases hw : withinB a 1 9
    · have hi : insB a i = false := by unfold insB; rw [hw]; rfl
      simp only [Bool.false_eq_true, if_false, sampleF, hi]
      (repeat' (first | (refine And.intro ?_ ?_) | intro _))
      all_goals (try (refine Bool.eq_iff_iff.2 ?_))
      all_goals (try simp only [decide_eq_true_eq, decide_eq_false_iff_not, beq_iff_eq, beq_eq_false_iff_ne, bne_iff_ne, bne_eq_false_iff_eq, ne_eq, Bool.not_eq_true', Bool.not_eq_false', ← Bool.not_eq_true, Bool.true_eq_false, Bool.false_eq_true, Bool.and_eq_true, Bool.or_eq_true, false_iff, iff_false, true_iff, iff_true, not_true_eq_false, not_false_eq_true, and_true, true_and, inR, klo, khi] at *)
      all_goals (repeat' split)
      all_goals omega
    · obtain ⟨h1, h2⟩ := within_iff.1 hw
      have hi : 0 ≤ i → i < 48 * a → insB a i = true := fun g k => ins_iff.2 ⟨⟨h1, h2⟩, g, k⟩
      have hj : ¬ (0 ≤ i ∧ i < 48 * a) → sampleF a i = 0 := by
        intro g
        unfold sampleF
        rw [if_neg]
        rw [ins_iff]
        omega
      simp only [if_true]
      refine ⟨fun g => ?_, fun g => ?_⟩ <;> simp only [decide_eq_true_eq, decide_eq_false_iff_not] at g
      rotate_left
      · rw [hj (by omega)]
      refine ⟨fun k => ?_, fun k => ?_⟩ <;> simp only [decide_eq_true_eq, decide_eq_false_iff_not] at k
      · rw [hj (by omega)]
      have hin := hi (by omega) (by omega)
      have bd := waveF_bd a i
      have m1 := mul_bd (waveF a i) (48 * a - i) 8192 432 bd (by omega)
      have ew : sampleF a i = waveF a i * (48 * a - i) / (48 * a) := by unfold sampleF; rw [if_pos hin]
      rw [ew]
      simp only [inR, klo, khi, and_true]
      omega
  · cases h
noncomputable def Γ_rsample : List (FuncId × FC) := (16, c_rsample) :: Γ_rwave
theorem ok_rsample : ΓOk Try.prog Γ_rsample := ΓOk.cons s_rsample ok_rwave

noncomputable def c_raround : FC := fun us => match us with
  | [.v (.one (.int .i64 _ a)), .v (.one (.int .i64 _ i))] => some (none, .v (.one (.int .i64 false (aroundF a i))))
  | _ => none
theorem nf_raround (a : Int) (i : Int) : goal ⟨Mx, Try.prog, Γ_rsample, Δ0, B0, none, false⟩ noL 400 Try.f18 [.v (.one (.int .i64 false a)), .v (.one (.int .i64 false i))] [] (fun r _ => svLe idR r (.v (.one (.int .i64 false (aroundF a i))))) = ((((if withinB a (1 : Int) (9 : Int) = true then (48 : Int) * a else (0 : Int)) == (0 : Int)) = false → (decide (i < (0 : Int)) = true → (0 : Int) = aroundF a i) ∧ (decide (i < (0 : Int)) = false → (if withinB a (1 : Int) (9 : Int) = true then (48 : Int) * a else (0 : Int)) ≠ (0 : Int) ∧ waveF a (i.tmod (if withinB a (1 : Int) (9 : Int) = true then (48 : Int) * a else (0 : Int))) = aroundF a i)) ∧ (((if withinB a (1 : Int) (9 : Int) = true then (48 : Int) * a else (0 : Int)) == (0 : Int)) = true → (0 : Int) = aroundF a i)) := by kernel_rfl
theorem s_raround : FSound Try.prog 18 c_raround := by
  refine fsound_of (Ctx.ok_of2 (M := Mx) mixedA ok_rsample okD0 okB0) Try.func18 (by kernel_rfl) (by kernel_rfl) ?_
  intro us p v h hp
  unfold c_raround at h
  split at h
  · rename_i k0 a k1 i
    cases h
    refine ⟨rfl, noL, 400, [.v (.one (.int .i64 false a)), .v (.one (.int .i64 false i))], by simp [tmLe, svLe, vLe, lfLe, lfsLe, ifB, nmIs, idR], rfl, ?_⟩
    rw [nf_raround]
    clear hp
    unfold aroundF
    cases h : withinB a 1 9
    · simp
    · obtain ⟨h1, h2⟩ := within_iff.1 h
      have hz : ((48 * a == 0) = false) := by rw [beq_eq_false_iff_ne]; omega
      simp only [if_true, bne_self_eq_false, Bool.false_eq_true, Bool.true_eq_false, false_implies, true_implies, and_true, true_and, hz]
      refine ⟨fun g => ?_, fun g => ?_⟩ <;> simp only [decide_eq_true_eq, decide_eq_false_iff_not] at g
      · rw [if_neg (by omega)]
      · rw [if_pos (by omega), Int.tmod_eq_emod_of_nonneg (by omega)]
        exact ⟨by omega, rfl⟩
  · cases h
noncomputable def Γ_raround : List (FuncId × FC) := (18, c_raround) :: Γ_rsample
theorem ok_raround : ΓOk Try.prog Γ_raround := ΓOk.cons s_raround ok_rsample

noncomputable def c_samples : MC := fun us m K => match us with
  | [.v (.one (.int .i64 _ a)), .v (.one (.int .i64 _ f)), .v (.one (.int .i64 _ t))] => K (.clo 69 [.ptr (m.length + 0) 0, .ptr (m.length + 1) 0, .ptr (m.length + 2) 0]) (m ++ [some (.cells [.int .i64 false a] 3), some (.cells [.int .i64 false f] 3), some (.cells [.int .i64 false t] 3)])
  | _ => False
theorem nf_samples (a : Int) (f : Int) (t : Int) : goal ⟨Mx, Try.prog, Γ_raround, Δ0, B0, none, false⟩ noL 400 Try.f44 [.v (.one (.int .i64 false a)), .v (.one (.int .i64 false f)), .v (.one (.int .i64 false t))] [] (fun r m' => stLe 0 ⟨[r], m'⟩ ⟨[.clo 69 [.ptr 0 0, .ptr 1 0, .ptr 2 0]], [some (.cells [.int .i64 false a] 3), some (.cells [.int .i64 false f] 3), some (.cells [.int .i64 false t] 3)]⟩) = (((True ∧ True ∧ True) ∧ True) ∧ a = a ∧ f = f ∧ t = t ∧ True) := by kernel_rfl
theorem s_samples : MSound Try.prog 44 c_samples := by
  refine msound_mk (Ctx.ok_of2 (M := Mx) mixedA ok_raround okD0 okB0) Try.func44 (by kernel_rfl) (by kernel_rfl) (fun us m K h => ?_)
  unfold c_samples at h
  split at h
  · rename_i k0 a k1 f k2 t
    refine ⟨Unit, fun _ => True, noL, 400, [.v (.one (.int .i64 false a)), .v (.one (.int .i64 false f)), .v (.one (.int .i64 false t))], fun _ => .clo 69 [.ptr 0 0, .ptr 1 0, .ptr 2 0], fun _ => [some (.cells [.int .i64 false a] 3), some (.cells [.int .i64 false f] 3), some (.cells [.int .i64 false t] 3)], (fun r m' => stLe 0 ⟨[r], m'⟩ ⟨[.clo 69 [.ptr 0 0, .ptr 1 0, .ptr 2 0]], [some (.cells [.int .i64 false a] 3), some (.cells [.int .i64 false f] 3), some (.cells [.int .i64 false t] 3)]⟩), by simp [tmLe, svLe, vLe, lfLe, lfsLe, ifB, nmIs], fun _ => rfl, ?_, fun r m' hr => ⟨(), trivial, hr⟩, fun _ he => h⟩
    rw [nf_samples]
    simp
  · exact h.elim
noncomputable def Δ_samples : List (FuncId × MC) := (44, c_samples) :: Δ0
theorem okD_samples : ΔOk Try.prog Δ_samples := ΔOk.cons s_samples okD0

noncomputable def c_peak : FC := fun us => match us with
  | [.v (.one (.int .i64 _ a))] => some (none, .v (.one (.int .i64 false (peakN (blenF a).toNat a))))
  | _ => none
theorem nf_peak (a : Int) : goal ⟨Mx, Try.prog, Γ_raround, Δ_samples, B0, none, false⟩ (fun bk => match bk with | 1000 => some { S := Nat, st := fun s => ⟨[.junk, .v (.one (.ptr 1 0)), .v (.one (.ptr 2 0)), .v (.one (.ptr 3 0)), .junk, .v (.one (.int .i64 false (if withinB a 1 9 = true then 48 * a else 0))), .junk, .v (.one (.int .i64 false ((s : Int)))), .junk, .junk, .junk, .junk, .junk, .junk, .junk, .junk, .junk, .junk, .junk, .junk, .junk, .junk, .junk, .junk, .junk, .junk, .junk, .junk], [some (.cells [.int .i64 false (peakN s a)] 3), some (.cells [.int .i64 false (a)] 3), some (.cells [.int .i64 false (0)] 3), some (.cells [.int .i64 false (432)] 3), none]⟩, ok := fun s => s = 0 ∨ (s : Int) ≤ min 432 (if withinB a 1 9 = true then 48 * a else 0), mu := fun s => (min 432 (if withinB a 1 9 = true then 48 * a else 0) - ((s : Int))).toNat, init := 0 } | _ => none) 400 Try.f19 [.v (.one (.int .i64 false a))] [] (fun r _ => svLe idR r (.v (.one (.int .i64 false (peakN (blenF a).toNat a))))) = (∀ (l : Nat) (r : Loop), (((Value.func (Fn.yield l) #[] #[] = Value.func (Fn.yield l) #[] #[] ∧ True ∧ True ∧ True ∧ ((if withinB a (1 : Int) (9 : Int) = true then (48 : Int) * a else (0 : Int)) = if withinB a (1 : Int) (9 : Int) = true then (48 : Int) * a else (0 : Int)) ∧ (0 : Int) = ↑(0 : Nat) ∧ True) ∧ (0 : Int) = peakN (0 : Nat) a ∧ a = a ∧ (0 : Int) = (0 : Int) ∧ (432 : Int) = (432 : Int) ∧ (r = r ∧ (0 : Nat) = (0 : Nat)) ∧ True) ∧ ((0 : Nat) = (0 : Nat) ∨ ↑(0 : Nat) ≤ min (432 : Int) (if withinB a (1 : Int) (9 : Int) = true then (48 : Int) * a else (0 : Int)))) ∧ ∀ (s : Nat), s = (0 : Nat) ∨ ↑s ≤ min (432 : Int) (if withinB a (1 : Int) (9 : Int) = true then (48 : Int) * a else (0 : Int)) → (decide (↑s < if (if withinB a (1 : Int) (9 : Int) = true then (48 : Int) * a else (0 : Int)) < (432 : Int) then if withinB a (1 : Int) (9 : Int) = true then (48 : Int) * a else (0 : Int) else (432 : Int)) = true → l = l ∧ r = r ∧ r = r ∧ inR IntKind.i64 (-sampleF a ↑s) ∧ r = r ∧ inR IntKind.i64 (↑s + (1 : Int)) ∧ ∃ (s' : Nat), (((Value.func (Fn.yield l) #[] #[] = Value.func (Fn.yield l) #[] #[] ∧ True ∧ True ∧ True ∧ ((if withinB a (1 : Int) (9 : Int) = true then (48 : Int) * a else (0 : Int)) = if withinB a (1 : Int) (9 : Int) = true then (48 : Int) * a else (0 : Int)) ∧ ↑s + (1 : Int) = ↑s' ∧ True) ∧ (if (if peakN s a < sampleF a ↑s then sampleF a ↑s else peakN s a) < -sampleF a ↑s then -sampleF a ↑s else if peakN s a < sampleF a ↑s then sampleF a ↑s else peakN s a) = peakN s' a ∧ a = a ∧ (0 : Int) = (0 : Int) ∧ (432 : Int) = (432 : Int) ∧ (r = r ∧ (0 : Nat) = (0 : Nat)) ∧ True) ∧ (s' = (0 : Nat) ∨ ↑s' ≤ min (432 : Int) (if withinB a (1 : Int) (9 : Int) = true then (48 : Int) * a else (0 : Int)))) ∧ (min (432 : Int) (if withinB a (1 : Int) (9 : Int) = true then (48 : Int) * a else (0 : Int)) - ↑s').toNat < (min (432 : Int) (if withinB a (1 : Int) (9 : Int) = true then (48 : Int) * a else (0 : Int)) - ↑s).toNat) ∧ (decide (↑s < if (if withinB a (1 : Int) (9 : Int) = true then (48 : Int) * a else (0 : Int)) < (432 : Int) then if withinB a (1 : Int) (9 : Int) = true then (48 : Int) * a else (0 : Int) else (432 : Int)) = false → peakN s a = peakN (blenF a).toNat a)) := by kernel_rfl
theorem s_peak : FSound Try.prog 19 c_peak := by
  refine fsound_of (Ctx.ok_of2 (M := Mx) mixedA ok_raround okD_samples okB0) Try.func19 (by kernel_rfl) (by kernel_rfl) ?_
  intro us p v h hp
  unfold c_peak at h
  split at h
  · rename_i k0 a
    cases h
    refine ⟨rfl, (fun bk => match bk with | 1000 => some { S := Nat, st := fun s => ⟨[.junk, .v (.one (.ptr 1 0)), .v (.one (.ptr 2 0)), .v (.one (.ptr 3 0)), .junk, .v (.one (.int .i64 false (if withinB a 1 9 = true then 48 * a else 0))), .junk, .v (.one (.int .i64 false ((s : Int)))), .junk, .junk, .junk, .junk, .junk, .junk, .junk, .junk, .junk, .junk, .junk, .junk, .junk, .junk, .junk, .junk, .junk, .junk, .junk, .junk], [some (.cells [.int .i64 false (peakN s a)] 3), some (.cells [.int .i64 false (a)] 3), some (.cells [.int .i64 false (0)] 3), some (.cells [.int .i64 false (432)] 3), none]⟩, ok := fun s => s = 0 ∨ (s : Int) ≤ min 432 (if withinB a 1 9 = true then 48 * a else 0), mu := fun s => (min 432 (if withinB a 1 9 = true then 48 * a else 0) - ((s : Int))).toNat, init := 0 } | _ => none), 400, [.v (.one (.int .i64 false a))], by simp [tmLe, svLe, vLe, lfLe, lfsLe, ifB, nmIs, idR], rfl, ?_⟩
    rw [nf_peak]
    clear hp
    intro l r
    have hN := blenF_bd a
    have hbl : blenF a = (if withinB a 1 9 = true then 48 * a else 0) := rfl
    generalize (if withinB a 1 9 = true then 48 * a else 0) = N at *
    refine ⟨by simp [peakN, sumN] <;> omega, fun s hs => ⟨fun hc => ?_, fun hc => ?_⟩⟩
    · simp only [decide_eq_true_eq] at hc
      have hlt : (s : Int) < N := by split at hc <;> omega
      have hb := sampleF_bd a s
      simp only [true_and, and_true, inR, klo, khi]
      refine ⟨by omega, by omega, s + 1, ⟨⟨by omega, by simp only [peakN]; (repeat' split) <;> omega⟩, .inr (by omega)⟩, by omega⟩
    · simp only [decide_eq_false_iff_not] at hc
      have e : s = N.toNat := by split at hc <;> omega
      rw [hbl, e]
  · cases h
noncomputable def Γ_peak : List (FuncId × FC) := (19, c_peak) :: Γ_raround
theorem ok_peak : ΓOk Try.prog Γ_peak := ΓOk.cons s_peak ok_raround

noncomputable def c_energy : FC := fun us => match us with
  | [.v (.one (.int .i64 _ a)), .v (.one (.int .i64 _ f)), .v (.one (.int .i64 _ t))] => some (none, .v (.one (.int .i64 false (energyF a f t))))
  | _ => none
theorem nf_energy (a : Int) (f : Int) (t : Int) : goal ⟨Mx, Try.prog, Γ_peak, Δ_samples, B0, none, false⟩ (fun bk => match bk with | 1000 => some { S := Nat, st := fun s => ⟨[.junk, .v (.one (.ptr 1 0)), .v (.one (.ptr 2 0)), .v (.one (.ptr 3 0)), .junk, .v (.one (.int .i64 false (if withinB a 1 9 = true then 48 * a else 0))), .junk, .v (.one (.int .i64 false (max f 0 + (s : Int)))), .junk, .junk, .junk, .junk, .junk, .junk, .junk, .junk, .junk, .junk, .junk, .junk, .junk, .junk, .junk, .junk, .junk, .junk, .junk, .junk], [some (.cells [.int .i64 false (sumN s a (max f 0))] 3), some (.cells [.int .i64 false (a)] 3), some (.cells [.int .i64 false (f)] 3), some (.cells [.int .i64 false (t)] 3), none]⟩, ok := fun s => s = 0 ∨ max f 0 + (s : Int) ≤ min t (if withinB a 1 9 = true then 48 * a else 0), mu := fun s => (min t (if withinB a 1 9 = true then 48 * a else 0) - (max f 0 + (s : Int))).toNat, init := 0 } | _ => none) 400 Try.f20 [.v (.one (.int .i64 false a)), .v (.one (.int .i64 false f)), .v (.one (.int .i64 false t))] [] (fun r _ => svLe idR r (.v (.one (.int .i64 false (energyF a f t))))) = (∀ (l : Nat) (r : Loop), (((Value.func (Fn.yield l) #[] #[] = Value.func (Fn.yield l) #[] #[] ∧ True ∧ True ∧ True ∧ ((if withinB a (1 : Int) (9 : Int) = true then (48 : Int) * a else (0 : Int)) = if withinB a (1 : Int) (9 : Int) = true then (48 : Int) * a else (0 : Int)) ∧ (if f < (0 : Int) then (0 : Int) else f) = max f (0 : Int) + ↑(0 : Nat) ∧ True) ∧ (0 : Int) = sumN (0 : Nat) a (max f (0 : Int)) ∧ a = a ∧ f = f ∧ t = t ∧ (r = r ∧ (0 : Nat) = (0 : Nat)) ∧ True) ∧ ((0 : Nat) = (0 : Nat) ∨ max f (0 : Int) + ↑(0 : Nat) ≤ min t (if withinB a (1 : Int) (9 : Int) = true then (48 : Int) * a else (0 : Int)))) ∧ ∀ (s : Nat), s = (0 : Nat) ∨ max f (0 : Int) + ↑s ≤ min t (if withinB a (1 : Int) (9 : Int) = true then (48 : Int) * a else (0 : Int)) → (decide (max f (0 : Int) + ↑s < if (if withinB a (1 : Int) (9 : Int) = true then (48 : Int) * a else (0 : Int)) < t then if withinB a (1 : Int) (9 : Int) = true then (48 : Int) * a else (0 : Int) else t) = true → l = l ∧ r = r ∧ r = r ∧ inR IntKind.i64 (sampleF a (max f (0 : Int) + ↑s) * sampleF a (max f (0 : Int) + ↑s)) ∧ inR IntKind.i64 (sumN s a (max f (0 : Int)) + sampleF a (max f (0 : Int) + ↑s) * sampleF a (max f (0 : Int) + ↑s)) ∧ r = r ∧ inR IntKind.i64 (max f (0 : Int) + ↑s + (1 : Int)) ∧ ∃ (s' : Nat), (((Value.func (Fn.yield l) #[] #[] = Value.func (Fn.yield l) #[] #[] ∧ True ∧ True ∧ True ∧ ((if withinB a (1 : Int) (9 : Int) = true then (48 : Int) * a else (0 : Int)) = if withinB a (1 : Int) (9 : Int) = true then (48 : Int) * a else (0 : Int)) ∧ max f (0 : Int) + ↑s + (1 : Int) = max f (0 : Int) + ↑s' ∧ True) ∧ sumN s a (max f (0 : Int)) + sampleF a (max f (0 : Int) + ↑s) * sampleF a (max f (0 : Int) + ↑s) = sumN s' a (max f (0 : Int)) ∧ a = a ∧ f = f ∧ t = t ∧ (r = r ∧ (0 : Nat) = (0 : Nat)) ∧ True) ∧ (s' = (0 : Nat) ∨ max f (0 : Int) + ↑s' ≤ min t (if withinB a (1 : Int) (9 : Int) = true then (48 : Int) * a else (0 : Int)))) ∧ (min t (if withinB a (1 : Int) (9 : Int) = true then (48 : Int) * a else (0 : Int)) - (max f (0 : Int) + ↑s')).toNat < (min t (if withinB a (1 : Int) (9 : Int) = true then (48 : Int) * a else (0 : Int)) - (max f (0 : Int) + ↑s)).toNat) ∧ (decide (max f (0 : Int) + ↑s < if (if withinB a (1 : Int) (9 : Int) = true then (48 : Int) * a else (0 : Int)) < t then if withinB a (1 : Int) (9 : Int) = true then (48 : Int) * a else (0 : Int) else t) = false → sumN s a (max f (0 : Int)) = energyF a f t)) := by kernel_rfl
theorem s_energy : FSound Try.prog 20 c_energy := by
  refine fsound_of (Ctx.ok_of2 (M := Mx) mixedA ok_peak okD_samples okB0) Try.func20 (by kernel_rfl) (by kernel_rfl) ?_
  intro us p v h hp
  unfold c_energy at h
  split at h
  · rename_i k0 a k1 f k2 t
    cases h
    refine ⟨rfl, (fun bk => match bk with | 1000 => some { S := Nat, st := fun s => ⟨[.junk, .v (.one (.ptr 1 0)), .v (.one (.ptr 2 0)), .v (.one (.ptr 3 0)), .junk, .v (.one (.int .i64 false (if withinB a 1 9 = true then 48 * a else 0))), .junk, .v (.one (.int .i64 false (max f 0 + (s : Int)))), .junk, .junk, .junk, .junk, .junk, .junk, .junk, .junk, .junk, .junk, .junk, .junk, .junk, .junk, .junk, .junk, .junk, .junk, .junk, .junk], [some (.cells [.int .i64 false (sumN s a (max f 0))] 3), some (.cells [.int .i64 false (a)] 3), some (.cells [.int .i64 false (f)] 3), some (.cells [.int .i64 false (t)] 3), none]⟩, ok := fun s => s = 0 ∨ max f 0 + (s : Int) ≤ min t (if withinB a 1 9 = true then 48 * a else 0), mu := fun s => (min t (if withinB a 1 9 = true then 48 * a else 0) - (max f 0 + (s : Int))).toNat, init := 0 } | _ => none), 400, [.v (.one (.int .i64 false a)), .v (.one (.int .i64 false f)), .v (.one (.int .i64 false t))], by simp [tmLe, svLe, vLe, lfLe, lfsLe, ifB, nmIs, idR], rfl, ?_⟩
    rw [nf_energy]
    clear hp
    intro l r
    have hN := blenF_bd a
    have hbl : blenF a = (if withinB a 1 9 = true then 48 * a else 0) := rfl
    generalize (if withinB a 1 9 = true then 48 * a else 0) = N at *
    refine ⟨by simp [peakN, sumN] <;> omega, fun s hs => ⟨fun hc => ?_, fun hc => ?_⟩⟩
    · simp only [decide_eq_true_eq] at hc
      have hlt : max f 0 + (s : Int) < min t N := by split at hc <;> omega
      have hb := sq8_bd (sampleF_bd a (max f 0 + (s : Int)))
      have hb2 := sumN_bd s a (max f 0)
      simp only [true_and, and_true, inR, klo, khi]
      refine ⟨by omega, by omega, by omega, s + 1, ⟨⟨by omega, rfl⟩, .inr (by omega)⟩, by omega⟩
    · simp only [decide_eq_false_iff_not] at hc
      have e : s = (min t N - max f 0).toNat := by split at hc <;> omega
      unfold energyF
      rw [hbl, e]
  · cases h
noncomputable def Γ_energy : List (FuncId × FC) := (20, c_energy) :: Γ_peak
theorem ok_energy : ΓOk Try.prog Γ_energy := ΓOk.cons s_energy ok_peak

end Go.Proofs.Ytlmhklaobfmhbaa
