/- SOUNDS: THE WAVE, THE SAMPLE, BY THE PROGRAM AND BY THE DOCUMENT; WHAT A VOICE GIVES. Conditions: the contracts' own. Own work; the normal forms were printed by a program of mine (wip/rex). -/
import Derived.Test.YtljnddhldjaglaaRM1
import Derived.Test.YtljnddhldjaglaaFixed2
import Derived.Test.YtljnddhldjaglaaSkipLoop
import Derived.Test.YtljnddhldjaglaaTrig2
namespace Go.Proofs.Ytljnddhldjaglaa
open Go.RowKit Rex
set_option linter.unusedVariables false
set_option linter.unusedSimpArgs false
set_option maxRecDepth 100000


def insB (a i : Int) : Bool := withinB a 1 9 && (decide (0 ≤ i) && decide (i < 48 * a))
/-- the wave of a sound at a place -/
def waveF (a i : Int) : Int := if insB a i = true then (if a % 2 = 0 then sinF (i * 512 * a) / 8 else (stp (i + 1).toNat a / 65536 - 32768) / 4) else 0
def sampleF (a i : Int) : Int := if insB a i = true then waveF a i * (48 * a - i) / (48 * a) else 0
def aroundF (a i : Int) : Int := if withinB a 1 9 = true ∧ 0 ≤ i then waveF a (i % (48 * a)) else 0
def vwaveF (a ln age : Int) : Int := if 0 < ln then aroundF a age else sampleF a age
def giveL (at_ gn pn ln bo lt cu t : Int) : Int := if soundsB at_ gn pn ln bo lt cu t = true then scF (scF (scF (vwaveF at_ ln (t - bo + lt)) gn) (envF at_ gn pn ln bo lt cu t)) (32768 - max pn 0) else 0
def giveR (at_ gn pn ln bo lt cu t : Int) : Int := if soundsB at_ gn pn ln bo lt cu t = true then scF (scF (scF (vwaveF at_ ln (t - bo + lt)) gn) (envF at_ gn pn ln bo lt cu t)) (32768 + min pn 0) else 0
def sizeF (n : Int) : Int := if n < 0 then -n else n
theorem ins_iff {a i : Int} : insB a i = true ↔ (1 ≤ a ∧ a ≤ 9) ∧ 0 ≤ i ∧ i < 48 * a := by unfold insB; simp only [Bool.and_eq_true, within_iff, decide_eq_true_eq]
/-- a part of a number -/
theorem part_bd (w m n K : Int) (hw : -K ≤ w ∧ w ≤ K) (hm : 0 ≤ m ∧ m ≤ n) (hn : 0 < n) : -K ≤ w * m / n ∧ w * m / n ≤ K := by
  have h1 : w * m ≤ K * n := by
    have a1 : w * m ≤ K * m := Int.mul_le_mul_of_nonneg_right hw.2 hm.1
    have a2 : K * m ≤ K * n := Int.mul_le_mul_of_nonneg_left hm.2 (by omega)
    omega
  have h2 : -K * n ≤ w * m := by
    have a1 : -K * m ≤ w * m := Int.mul_le_mul_of_nonneg_right hw.1 hm.1
    have a2 : -K * n ≤ -K * m := Int.mul_le_mul_of_nonpos_left (by omega) hm.2
    omega
  exact ⟨(Int.le_ediv_iff_mul_le hn).2 h2, Int.ediv_le_of_le_mul hn h1⟩
theorem waveF_bd (a i : Int) : -8192 ≤ waveF a i ∧ waveF a i ≤ 8192 := by
  unfold waveF
  split
  · split
    · have := sinF_bd (i * 512 * a); omega
    · have := stp_bd (i + 1).toNat a; omega
  · omega


noncomputable def c_scale : FC := fun us => match us with
  | [.v (.one (.int .i64 _ n)), .v (.one (.int .i64 _ g))] => some (none, .v (.one (.int .i64 false (scF n g))))
  | _ => none
theorem s_scale : FSound Try.prog 48 c_scale := by
  refine fsound_calls Try.func48 (by kernel_rfl) (by kernel_rfl) ?_
  intro us p v h hp
  unfold c_scale at h
  split at h
  · rename_i k0 n k1 g
    cases h
    exact ⟨[.int .i64 n, .int .i64 g], .int .i64 (scF n g), rfl, rfl, fun w => same_ext (scale_any n g w)⟩
  · cases h
noncomputable def Γ_scale : List (FuncId × FX) := (48, c_scale) :: Γ_rlouder
theorem ok_scale : ΓOk Try.prog Γ_scale := ΓOk.cons (c := .pure c_scale) s_scale ok_rlouder

noncomputable def c_rscale : FC := fun us => match us with
  | [.v (.one (.int .i64 _ n)), .v (.one (.int .i64 _ g))] => some (none, .v (.one (.int .i64 false (scF n g))))
  | _ => none
theorem s_rscale : FSound Try.prog 54 c_rscale := by
  refine fsound_calls Try.func54 (by kernel_rfl) (by kernel_rfl) ?_
  intro us p v h hp
  unfold c_rscale at h
  split at h
  · rename_i k0 n k1 g
    cases h
    exact ⟨[.int .i64 n, .int .i64 g], .int .i64 (scF n g), rfl, rfl, fun w => same_ext (rscale_any n g w)⟩
  · cases h
noncomputable def Γ_rscale : List (FuncId × FX) := (54, c_rscale) :: Γ_scale
theorem ok_rscale : ΓOk Try.prog Γ_rscale := ΓOk.cons (c := .pure c_rscale) s_rscale ok_scale

noncomputable def c_sin : FC := fun us => match us with
  | [.v (.one (.int .i64 _ a))] => some (none, .v (.one (.int .i32 false (sinF a))))
  | _ => none
theorem s_sin : FSound Try.prog 92 c_sin := by
  refine fsound_calls Try.func92 (by kernel_rfl) (by kernel_rfl) ?_
  intro us p v h hp
  unfold c_sin at h
  split at h
  · rename_i k0 a
    cases h
    exact ⟨[.int .i64 a], .int .i32 (sinF a), rfl, rfl, fun w => same_ext (sin_any a w)⟩
  · cases h
noncomputable def Γ_sin : List (FuncId × FX) := (92, c_sin) :: Γ_rscale
theorem ok_sin : ΓOk Try.prog Γ_sin := ΓOk.cons (c := .pure c_sin) s_sin ok_rscale

noncomputable def c_rsin : FC := fun us => match us with
  | [.v (.one (.int .i64 _ a))] => some (none, .v (.one (.int .i32 false (sinF a))))
  | _ => none
theorem s_rsin : FSound Try.prog 88 c_rsin := by
  refine fsound_calls Try.func88 (by kernel_rfl) (by kernel_rfl) ?_
  intro us p v h hp
  unfold c_rsin at h
  split at h
  · rename_i k0 a
    cases h
    exact ⟨[.int .i64 a], .int .i32 (sinF a), rfl, rfl, fun w => same_ext (rsin_any a w)⟩
  · cases h
noncomputable def Γ_rsin : List (FuncId × FX) := (88, c_rsin) :: Γ_sin
theorem ok_rsin : ΓOk Try.prog Γ_rsin := ΓOk.cons (c := .pure c_rsin) s_rsin ok_sin

noncomputable def c_skip : FC := fun us => match us with
  | [.v (.one (.int .u32 _ s)), .v (.one (.int .u64 _ n))] => some (some (0 ≤ n ∧ n ≤ 18446744073709551615), .v (.one (.int .u32 false (stp n.toNat s))))
  | _ => none
theorem s_skip : FSound Try.prog 93 c_skip := by
  refine fsound_calls Try.func93 (by kernel_rfl) (by kernel_rfl) ?_
  intro us p v h hp
  unfold c_skip at h
  split at h
  · rename_i k0 s k1 n
    cases h
    have hp : 0 ≤ n ∧ n ≤ 18446744073709551615 := hp
    exact ⟨[.int .u32 s, .int .u64 n], .int .u32 (stp n.toNat s), rfl, rfl, fun w => by have h := skip_any s n.toNat w (by omega); rwa [Int.toNat_of_nonneg hp.1] at h⟩
  · cases h
noncomputable def Γ_skip : List (FuncId × FX) := (93, c_skip) :: Γ_rsin
theorem ok_skip : ΓOk Try.prog Γ_skip := ΓOk.cons (c := .pure c_skip) s_skip ok_rsin

noncomputable def c_rnext : FC := fun us => match us with
  | [.v (.one (.int .u32 _ a))] => some (some (0 ≤ a ∧ a ≤ 4294967295), .v (.one (.int .u32 false (nx a))))
  | _ => none
theorem s_rnext : FSound Try.prog 89 c_rnext := by
  refine fsound_calls Try.func89 (by kernel_rfl) (by kernel_rfl) ?_
  intro us p v h hp
  unfold c_rnext at h
  split at h
  · rename_i k0 a
    cases h
    have hp : 0 ≤ a ∧ a ≤ 4294967295 := hp
    exact ⟨[.int .u32 a], .int .u32 (nx a), rfl, rfl, fun w => rnext_any a w hp.1 hp.2⟩
  · cases h
noncomputable def Γ_rnext : List (FuncId × FX) := (89, c_rnext) :: Γ_skip
theorem ok_rnext : ΓOk Try.prog Γ_rnext := ΓOk.cons (c := .pure c_rnext) s_rnext ok_skip

noncomputable def c_rfloor : FC := fun us => match us with
  | [.v (.one (.int .i64 _ a)), .v (.one (.int .i64 _ b))] => some (some (0 < b ∧ b ≤ 1099511627776 ∧ -4611686018427387904 ≤ a ∧ a ≤ 4611686018427387904), .v (.one (.int .i64 false (a / b))))
  | _ => none
theorem s_rfloor : FSound Try.prog 75 c_rfloor := by
  refine fsound_calls Try.func75 (by kernel_rfl) (by kernel_rfl) ?_
  intro us p v h hp
  unfold c_rfloor at h
  split at h
  · rename_i k0 a k1 b
    cases h
    have hp : 0 < b ∧ b ≤ 1099511627776 ∧ -4611686018427387904 ≤ a ∧ a ≤ 4611686018427387904 := hp
    exact ⟨[.int .i64 a, .int .i64 b], .int .i64 (a / b), rfl, rfl, fun w => by have h := rfloor_any a b w hp.1 hp.2.1 hp.2.2; rw [Int.fdiv_eq_ediv_of_nonneg _ (by omega)] at h; exact same_ext h⟩
  · cases h
noncomputable def Γ_rfloor : List (FuncId × FX) := (75, c_rfloor) :: Γ_rnext
theorem ok_rfloor : ΓOk Try.prog Γ_rfloor := ΓOk.cons (c := .pure c_rfloor) s_rfloor ok_rnext

noncomputable def c_lerp : FC := fun us => match us with
  | [.v (.one (.int .i32 _ a)), .v (.one (.int .i32 _ b)), .v (.one (.int .i64 _ n)), .v (.one (.int .i64 _ o))] => some (some ((-2147483648 ≤ a ∧ a ≤ 2147483647) ∧ (-2147483648 ≤ b ∧ b ≤ 2147483647) ∧ (1 ≤ o ∧ o ≤ 65536) ∧ (0 ≤ n ∧ n ≤ o)), .tup [.one (.int .i32 false (lerpF a b n o)), .one (.int .i64 false (0))])
  | _ => none
theorem s_lerp : FSound Try.prog 87 c_lerp := by
  refine fsound_calls Try.func87 (by kernel_rfl) (by kernel_rfl) ?_
  intro us p v h hp
  unfold c_lerp at h
  split at h
  · rename_i k0 a k1 b k2 n k3 o
    cases h
    have hp : (-2147483648 ≤ a ∧ a ≤ 2147483647) ∧ (-2147483648 ≤ b ∧ b ≤ 2147483647) ∧ (1 ≤ o ∧ o ≤ 65536) ∧ (0 ≤ n ∧ n ≤ o) := hp
    exact ⟨[.int .i32 a, .int .i32 b, .int .i64 n, .int .i64 o], .tuple #[.int .i32 (lerpF a b n o), .int .i64 (0)], rfl, rfl, fun w => same_ext (lerp_any a b n o w hp.1 hp.2.1 hp.2.2.1 hp.2.2.2)⟩
  · cases h
noncomputable def Γ_lerp : List (FuncId × FX) := (87, c_lerp) :: Γ_rfloor
theorem ok_lerp : ΓOk Try.prog Γ_lerp := ΓOk.cons (c := .pure c_lerp) s_lerp ok_rfloor

noncomputable def c_inside : FC := fun us => match us with
  | [.v (.one (.int .i64 _ a)), .v (.one (.int .i64 _ i))] => some (none, .v (.one (.bool false (insB a i))))
  | _ => none
theorem nf_inside (a : Int) (i : Int) : goal ⟨Mx, Try.prog, Γ_lerp, Δ0, B0, none, false, [], none⟩ noL 400 Try.f86 [.v (.one (.int .i64 false a)), .v (.one (.int .i64 false i))] [] (fun r _ => svLe idR r (.v (.one (.bool false (insB a i))))) = ((withinB a (1 : Int) (9 : Int) = true → (decide ((0 : Int) ≤ i) = true → inR IntKind.i64 ((48 : Int) * a) ∧ decide (i < (48 : Int) * a) = insB a i) ∧ (decide ((0 : Int) ≤ i) = false → false = insB a i)) ∧ (withinB a (1 : Int) (9 : Int) = false → false = insB a i)) := by kernel_rfl
theorem s_inside : FSound Try.prog 86 c_inside := by
  refine fsound_of (Ctx.ok_of2 (M := Mx) (N := []) mixedA ok_lerp okD0 okB0) Try.func86 (by kernel_rfl) (by kernel_rfl) ?_
  intro us p v h hp
  unfold c_inside at h
  split at h
  · rename_i k0 a k1 i
    cases h
    refine ⟨rfl, noL, 400, [.v (.one (.int .i64 false a)), .v (.one (.int .i64 false i))], by simp [tmLe, svLe, vLe, lfLe, lfsLe, ifB, nmIs, idR], rfl, ?_⟩
    rw [nf_inside]
    clear hp
    unfold insB
    cases h : withinB a 1 9
    · simp
    · have := within_iff.1 h
      simp only [Bool.true_and]
      (repeat' (first | (refine And.intro ?_ ?_) | intro _))
      all_goals (try (refine Bool.eq_iff_iff.2 ?_))
      all_goals (try simp only [decide_eq_true_eq, decide_eq_false_iff_not, beq_iff_eq, beq_eq_false_iff_ne, bne_iff_ne, bne_eq_false_iff_eq, ne_eq, Bool.not_eq_true', Bool.not_eq_false', ← Bool.not_eq_true, Bool.true_eq_false, Bool.false_eq_true, Bool.and_eq_true, Bool.or_eq_true, false_iff, iff_false, true_iff, iff_true, not_true_eq_false, not_false_eq_true, and_true, true_and, inR, klo, khi] at *)
      all_goals (repeat' split)
      all_goals omega
  · cases h
noncomputable def Γ_inside : List (FuncId × FX) := (86, c_inside) :: Γ_lerp
theorem ok_inside : ΓOk Try.prog Γ_inside := ΓOk.cons (c := .pure c_inside) s_inside ok_lerp

noncomputable def c_wave : FC := fun us => match us with
  | [.v (.one (.int .i64 _ a)), .v (.one (.int .i64 _ i))] => some (none, .v (.one (.int .i64 false (waveF a i))))
  | _ => none
theorem nf_wave (a : Int) (i : Int) : goal ⟨Mx, Try.prog, Γ_inside, Δ0, B0, none, false, [], none⟩ noL 400 Try.f85 [.v (.one (.int .i64 false a)), .v (.one (.int .i64 false i))] [] (fun r _ => svLe idR r (.v (.one (.int .i64 false (waveF a i))))) = (((!insB a i) = true → (0 : Int) = waveF a i) ∧ ((!insB a i) = false → ((a.tmod (2 : Int) == (0 : Int)) = true → inR IntKind.i64 (i * (512 : Int)) ∧ inR IntKind.i64 (i * (512 : Int) * a) ∧ inR IntKind.i64 (sinF (i * (512 : Int) * a)) ∧ sinF (i * (512 : Int) * a) / (8 : Int) = waveF a i) ∧ ((a.tmod (2 : Int) == (0 : Int)) = false → inR IntKind.u32 a ∧ inR IntKind.u64 i ∧ inR IntKind.u64 (i + (1 : Int)) ∧ ((0 : Int) ≤ i + (1 : Int) ∧ i + (1 : Int) ≤ (18446744073709551615 : Int)) ∧ inR IntKind.i64 (stp (i + (1 : Int)).toNat a / (65536 : Int)) ∧ inR IntKind.i64 (stp (i + (1 : Int)).toNat a / (65536 : Int) - (32768 : Int)) ∧ (stp (i + (1 : Int)).toNat a / (65536 : Int) - (32768 : Int)) / (4 : Int) = waveF a i))) := by kernel_rfl
theorem s_wave : FSound Try.prog 85 c_wave := by
  refine fsound_of (Ctx.ok_of2 (M := Mx) (N := []) mixedA ok_inside okD0 okB0) Try.func85 (by kernel_rfl) (by kernel_rfl) ?_
  intro us p v h hp
  unfold c_wave at h
  split at h
  · rename_i k0 a k1 i
    cases h
    refine ⟨rfl, noL, 400, [.v (.one (.int .i64 false a)), .v (.one (.int .i64 false i))], by simp [tmLe, svLe, vLe, lfLe, lfsLe, ifB, nmIs, idR], rfl, ?_⟩
    rw [nf_wave]
    clear hp
    cases h : insB a i
    · simp [waveF, h]
    · obtain ⟨⟨h1, h2⟩, h3, h4⟩ := ins_iff.1 h
      have m1 := mul_bd (i * 512) a 221184 9 (by omega) (by omega)
      have e1 := sinF_bd (i * 512 * a)
      have e2 := stp_bd (i + 1).toNat a
      have e3 : a.tmod 2 = a % 2 := Int.tmod_eq_emod_of_nonneg (by omega)
      rw [e3]
      unfold waveF
      rw [if_pos h]
      simp only [Bool.not_true, Bool.false_eq_true, Bool.true_eq_false, false_implies, true_implies, true_and]
      refine ⟨fun g => ?_, fun g => ?_⟩ <;> simp only [beq_iff_eq, beq_eq_false_iff_ne, ne_eq] at g <;> simp only [g, if_true, if_false, inR, klo, khi, and_true] <;> omega
  · cases h
noncomputable def Γ_wave : List (FuncId × FX) := (85, c_wave) :: Γ_inside
theorem ok_wave : ΓOk Try.prog Γ_wave := ΓOk.cons (c := .pure c_wave) s_wave ok_inside

noncomputable def c_sample : FC := fun us => match us with
  | [.v (.one (.int .i64 _ a)), .v (.one (.int .i64 _ i))] => some (none, .v (.one (.int .i64 false (sampleF a i))))
  | _ => none
theorem nf_sample (a : Int) (i : Int) : goal ⟨Mx, Try.prog, Γ_wave, Δ0, B0, none, false, [], none⟩ noL 400 Try.f74 [.v (.one (.int .i64 false a)), .v (.one (.int .i64 false i))] [] (fun r _ => svLe idR r (.v (.one (.int .i64 false (sampleF a i))))) = (((!insB a i) = true → (0 : Int) = sampleF a i) ∧ ((!insB a i) = false → inR IntKind.i64 ((48 : Int) * a) ∧ inR IntKind.i32 (waveF a i) ∧ inR IntKind.i64 ((48 : Int) * a - i) ∧ (((-2147483648 : Int) ≤ (0 : Int) ∧ (0 : Int) ≤ (2147483647 : Int)) ∧ ((-2147483648 : Int) ≤ waveF a i ∧ waveF a i ≤ (2147483647 : Int)) ∧ ((1 : Int) ≤ (48 : Int) * a ∧ (48 : Int) * a ≤ (65536 : Int)) ∧ (0 : Int) ≤ (48 : Int) * a - i ∧ (48 : Int) * a - i ≤ (48 : Int) * a) ∧ inR IntKind.i64 (lerpF (0 : Int) (waveF a i) ((48 : Int) * a - i) ((48 : Int) * a)) ∧ lerpF (0 : Int) (waveF a i) ((48 : Int) * a - i) ((48 : Int) * a) = sampleF a i)) := by kernel_rfl
theorem s_sample : FSound Try.prog 74 c_sample := by
  refine fsound_of (Ctx.ok_of2 (M := Mx) (N := []) mixedA ok_wave okD0 okB0) Try.func74 (by kernel_rfl) (by kernel_rfl) ?_
  intro us p v h hp
  unfold c_sample at h
  split at h
  · rename_i k0 a k1 i
    cases h
    refine ⟨rfl, noL, 400, [.v (.one (.int .i64 false a)), .v (.one (.int .i64 false i))], by simp [tmLe, svLe, vLe, lfLe, lfsLe, ifB, nmIs, idR], rfl, ?_⟩
    rw [nf_sample]
    clear hp
    cases h : insB a i
    · simp [sampleF, h]
    · obtain ⟨⟨h1, h2⟩, h3, h4⟩ := ins_iff.1 h
      have bd := waveF_bd a i
      have pb := part_bd (waveF a i) (48 * a - i) (48 * a) 8192 bd (by omega) (by omega)
      have e : lerpF 0 (waveF a i) (48 * a - i) (48 * a) = waveF a i * (48 * a - i) / (48 * a) := by
        unfold lerpF
        rw [Int.sub_zero, Int.zero_add]
        exact sat_in _ (by omega)
      rw [e]
      unfold sampleF
      rw [if_pos h]
      simp only [Bool.not_true, Bool.false_eq_true, Bool.true_eq_false, false_implies, true_implies, true_and, and_true, inR, klo, khi]
      omega
  · cases h
noncomputable def Γ_sample : List (FuncId × FX) := (74, c_sample) :: Γ_wave
theorem ok_sample : ΓOk Try.prog Γ_sample := ΓOk.cons (c := .pure c_sample) s_sample ok_wave

noncomputable def c_around : FC := fun us => match us with
  | [.v (.one (.int .i64 _ a)), .v (.one (.int .i64 _ i))] => some (none, .v (.one (.int .i64 false (aroundF a i))))
  | _ => none
theorem nf_around (a : Int) (i : Int) : goal ⟨Mx, Try.prog, Γ_sample, Δ0, B0, none, false, [], none⟩ noL 400 Try.f73 [.v (.one (.int .i64 false a)), .v (.one (.int .i64 false i))] [] (fun r _ => svLe idR r (.v (.one (.int .i64 false (aroundF a i))))) = ((((if withinB a (1 : Int) (9 : Int) = true then (0 : Int) else (14 : Int)) != (0 : Int)) = false → (decide (i < (0 : Int)) = true → (0 : Int) = aroundF a i) ∧ (decide (i < (0 : Int)) = false → (if withinB a (1 : Int) (9 : Int) = true then (48 : Int) * a else (0 : Int)) ≠ (0 : Int) ∧ waveF a (i.tmod (if withinB a (1 : Int) (9 : Int) = true then (48 : Int) * a else (0 : Int))) = aroundF a i)) ∧ (((if withinB a (1 : Int) (9 : Int) = true then (0 : Int) else (14 : Int)) != (0 : Int)) = true → (0 : Int) = aroundF a i)) := by kernel_rfl
theorem s_around : FSound Try.prog 73 c_around := by
  refine fsound_of (Ctx.ok_of2 (M := Mx) (N := []) mixedA ok_sample okD0 okB0) Try.func73 (by kernel_rfl) (by kernel_rfl) ?_
  intro us p v h hp
  unfold c_around at h
  split at h
  · rename_i k0 a k1 i
    cases h
    refine ⟨rfl, noL, 400, [.v (.one (.int .i64 false a)), .v (.one (.int .i64 false i))], by simp [tmLe, svLe, vLe, lfLe, lfsLe, ifB, nmIs, idR], rfl, ?_⟩
    rw [nf_around]
    clear hp
    unfold aroundF
    cases h : withinB a 1 9
    · simp
    · obtain ⟨h1, h2⟩ := within_iff.1 h
      have hz : ((48 * a == 0) = false) := by rw [beq_eq_false_iff_ne]; omega
      simp only [if_true, bne_self_eq_false, Bool.false_eq_true, Bool.true_eq_false, false_implies, true_implies, and_true, true_and, hz]
      refine ⟨fun g => ?_, fun g => ?_⟩ <;> simp only [decide_eq_true_eq, decide_eq_false_iff_not] at g
      · rw [if_neg (by omega)]
      · rw [if_pos (by omega), Int.tmod_eq_emod_of_nonneg (by omega)]
        exact ⟨by omega, rfl⟩
  · cases h
noncomputable def Γ_around : List (FuncId × FX) := (73, c_around) :: Γ_sample
theorem ok_around : ΓOk Try.prog Γ_around := ΓOk.cons (c := .pure c_around) s_around ok_sample

noncomputable def c_rwave : FC := fun us => match us with
  | [.v (.one (.int .i64 _ a)), .v (.one (.int .i64 _ i))] => some (none, .v (.one (.int .i64 false (waveF a i))))
  | _ => none
theorem nf_rwave (a : Int) (i : Int) : goal ⟨Mx, Try.prog, Γ_around, Δ0, B0, none, false, [], none⟩ (fun bk => match bk with | 0 => some { S := Nat, st := fun k => ⟨[.v (.one (.int .i64 false (a))), .v (.one (.int .i64 false (i))), .junk, .junk, .junk, .v (.one (.int .u32 false (stp k a))), .v (.one (.int .i64 false ((k : Int)))), .junk, .junk, .junk, .junk, .junk, .junk, .junk, .junk, .junk, .junk, .junk, .junk, .junk, .junk, .junk, .junk, .junk, .junk, .junk, .junk, .junk, .junk, .junk, .junk, .junk, .junk, .junk, .junk, .junk, .junk, .junk, .junk], []⟩, ok := fun k => (k : Int) ≤ i + 1, mu := fun k => (i + 1 - k).toNat, init := 0 } | _ => none) 400 Try.f76 [.v (.one (.int .i64 false a)), .v (.one (.int .i64 false i))] [] (fun r _ => svLe idR r (.v (.one (.int .i64 false (waveF a i))))) = ((decide (i < (0 : Int)) = false → (decide ((if withinB a (1 : Int) (9 : Int) = true then (48 : Int) * a else (0 : Int)) ≤ i) = true → (0 : Int) = waveF a i) ∧ (decide ((if withinB a (1 : Int) (9 : Int) = true then (48 : Int) * a else (0 : Int)) ≤ i) = false → ((a.tmod (2 : Int) == (0 : Int)) = true → inR IntKind.i64 (i * (512 : Int)) ∧ inR IntKind.i64 (i * (512 : Int) * a) ∧ inR IntKind.i64 (sinF (i * (512 : Int) * a)) ∧ ((0 : Int) < (8 : Int) ∧ (8 : Int) ≤ (1099511627776 : Int) ∧ (-4611686018427387904 : Int) ≤ sinF (i * (512 : Int) * a) ∧ sinF (i * (512 : Int) * a) ≤ (4611686018427387904 : Int)) ∧ sinF (i * (512 : Int) * a) / (8 : Int) = waveF a i) ∧ ((a.tmod (2 : Int) == (0 : Int)) = false → inR IntKind.u32 a ∧ (((a = a ∧ i = i ∧ a = stp (0 : Nat) a ∧ (0 : Int) = (↑(0 : Nat) : Int) ∧ True) ∧ True) ∧ (↑(0 : Nat) : Int) ≤ i + (1 : Int)) ∧ ∀ (s : Nat), (↑s : Int) ≤ i + (1 : Int) → (decide ((↑s : Int) ≤ i) = true → ((0 : Int) ≤ stp s a ∧ stp s a ≤ (4294967295 : Int)) ∧ inR IntKind.i64 ((↑s : Int) + (1 : Int)) ∧ ∃ (s' : Nat), (((a = a ∧ i = i ∧ nx (stp s a) = stp s' a ∧ (↑s : Int) + (1 : Int) = (↑s' : Int) ∧ True) ∧ True) ∧ (↑s' : Int) ≤ i + (1 : Int)) ∧ (i + (1 : Int) - (↑s' : Int)).toNat < (i + (1 : Int) - (↑s : Int)).toNat) ∧ (decide ((↑s : Int) ≤ i) = false → inR IntKind.u32 ((stp s a).tdiv (65536 : Int)) ∧ inR IntKind.i64 ((stp s a).tdiv (65536 : Int)) ∧ inR IntKind.i64 ((stp s a).tdiv (65536 : Int) - (32768 : Int)) ∧ ((0 : Int) < (4 : Int) ∧ (4 : Int) ≤ (1099511627776 : Int) ∧ (-4611686018427387904 : Int) ≤ (stp s a).tdiv (65536 : Int) - (32768 : Int) ∧ (stp s a).tdiv (65536 : Int) - (32768 : Int) ≤ (4611686018427387904 : Int)) ∧ ((stp s a).tdiv (65536 : Int) - (32768 : Int)) / (4 : Int) = waveF a i)))) ∧ (decide (i < (0 : Int)) = true → (0 : Int) = waveF a i)) := by kernel_rfl
theorem s_rwave : FSound Try.prog 76 c_rwave := by
  refine fsound_of (Ctx.ok_of2 (M := Mx) (N := []) mixedA ok_around okD0 okB0) Try.func76 (by kernel_rfl) (by kernel_rfl) ?_
  intro us p v h hp
  unfold c_rwave at h
  split at h
  · rename_i k0 a k1 i
    cases h
    refine ⟨rfl, (fun bk => match bk with | 0 => some { S := Nat, st := fun k => ⟨[.v (.one (.int .i64 false (a))), .v (.one (.int .i64 false (i))), .junk, .junk, .junk, .v (.one (.int .u32 false (stp k a))), .v (.one (.int .i64 false ((k : Int)))), .junk, .junk, .junk, .junk, .junk, .junk, .junk, .junk, .junk, .junk, .junk, .junk, .junk, .junk, .junk, .junk, .junk, .junk, .junk, .junk, .junk, .junk, .junk, .junk, .junk, .junk, .junk, .junk, .junk, .junk, .junk, .junk], []⟩, ok := fun k => (k : Int) ≤ i + 1, mu := fun k => (i + 1 - k).toNat, init := 0 } | _ => none), 400, [.v (.one (.int .i64 false a)), .v (.one (.int .i64 false i))], by simp [tmLe, svLe, vLe, lfLe, lfsLe, ifB, nmIs, idR], rfl, ?_⟩
    rw [nf_rwave]
    clear hp
    cases hw : withinB a 1 9
    · have hi : insB a i = false := by unfold insB; rw [hw]; rfl
      simp only [Bool.false_eq_true, if_false, waveF, hi]
      (repeat' (first | (refine And.intro ?_ ?_) | intro _))
      all_goals (try (refine Bool.eq_iff_iff.2 ?_))
      all_goals (try simp only [decide_eq_true_eq, decide_eq_false_iff_not, beq_iff_eq, beq_eq_false_iff_ne, bne_iff_ne, bne_eq_false_iff_eq, ne_eq, Bool.not_eq_true', Bool.not_eq_false', ← Bool.not_eq_true, Bool.true_eq_false, Bool.false_eq_true, Bool.and_eq_true, Bool.or_eq_true, false_iff, iff_false, true_iff, iff_true, not_true_eq_false, not_false_eq_true, and_true, true_and, inR, klo, khi] at *)
      all_goals (repeat' split)
      all_goals omega
    · obtain ⟨h1, h2⟩ := within_iff.1 hw
      have hi : 0 ≤ i → i < 48 * a → insB a i = true := fun g k => ins_iff.2 ⟨⟨h1, h2⟩, g, k⟩
      have hj : ¬ (0 ≤ i ∧ i < 48 * a) → waveF a i = 0 := by
        intro g
        unfold waveF
        rw [if_neg]
        rw [ins_iff]
        omega
      simp only [if_true]
      refine ⟨fun g => ?_, fun g => ?_⟩ <;> simp only [decide_eq_true_eq, decide_eq_false_iff_not] at g
      rotate_left
      · rw [hj (by omega)]
      refine ⟨fun k => ?_, fun k => ?_⟩ <;> simp only [decide_eq_true_eq, decide_eq_false_iff_not] at k
      · rw [hj (by omega)]
      have hin := hi (by omega) (by omega)
      have m1 := mul_bd (i * 512) a 221184 9 (by omega) (by omega)
      have e1 := sinF_bd (i * 512 * a)
      have e3 : a.tmod 2 = a % 2 := Int.tmod_eq_emod_of_nonneg (by omega)
      have ew : waveF a i = if a % 2 = 0 then sinF (i * 512 * a) / 8 else (stp (i + 1).toNat a / 65536 - 32768) / 4 := by unfold waveF; rw [if_pos hin]
      rw [e3, ew]
      refine ⟨fun g => ?_, fun g => ?_⟩ <;> simp only [beq_iff_eq, beq_eq_false_iff_ne, ne_eq] at g
      · simp only [g, if_true, inR, klo, khi, and_true]; omega
      rw [if_neg g]
      have z := stp_zero a (by omega) (by omega)
      refine ⟨by simp only [inR, klo, khi]; omega, ⟨by simp [z], by omega⟩, fun s hs => ?_⟩
      have hb := stp_bd s a
      have hsu := stp_succ s a
      refine ⟨fun q => ?_, fun q => ?_⟩ <;> simp only [decide_eq_true_eq, decide_eq_false_iff_not] at q
      · refine ⟨hb, by simp only [inR, klo, khi]; omega, s + 1, ⟨by simp [hsu], by omega⟩, by omega⟩
      · have es : (i + 1).toNat = s := by omega
        rw [es]
        have hq : (stp s a).tdiv 65536 = stp s a / 65536 := Int.tdiv_eq_ediv_of_nonneg hb.1
        rw [hq]
        simp only [inR, klo, khi, and_true]
        omega
  · cases h
noncomputable def Γ_rwave : List (FuncId × FX) := (76, c_rwave) :: Γ_around
theorem ok_rwave : ΓOk Try.prog Γ_rwave := ΓOk.cons (c := .pure c_rwave) s_rwave ok_around

noncomputable def c_rsample : FC := fun us => match us with
  | [.v (.one (.int .i64 _ a)), .v (.one (.int .i64 _ i))] => some (none, .v (.one (.int .i64 false (sampleF a i))))
  | _ => none
theorem nf_rsample (a : Int) (i : Int) : goal ⟨Mx, Try.prog, Γ_rwave, Δ0, B0, none, false, [], none⟩ noL 400 Try.f52 [.v (.one (.int .i64 false a)), .v (.one (.int .i64 false i))] [] (fun r _ => svLe idR r (.v (.one (.int .i64 false (sampleF a i))))) = ((decide (i < (0 : Int)) = false → (decide ((if withinB a (1 : Int) (9 : Int) = true then (48 : Int) * a else (0 : Int)) ≤ i) = true → (0 : Int) = sampleF a i) ∧ (decide ((if withinB a (1 : Int) (9 : Int) = true then (48 : Int) * a else (0 : Int)) ≤ i) = false → inR IntKind.i64 ((if withinB a (1 : Int) (9 : Int) = true then (48 : Int) * a else (0 : Int)) - i) ∧ inR IntKind.i64 (waveF a i * ((if withinB a (1 : Int) (9 : Int) = true then (48 : Int) * a else (0 : Int)) - i)) ∧ (((0 : Int) < if withinB a (1 : Int) (9 : Int) = true then (48 : Int) * a else (0 : Int)) ∧ (if withinB a (1 : Int) (9 : Int) = true then (48 : Int) * a else (0 : Int)) ≤ (1099511627776 : Int) ∧ (-4611686018427387904 : Int) ≤ waveF a i * ((if withinB a (1 : Int) (9 : Int) = true then (48 : Int) * a else (0 : Int)) - i) ∧ waveF a i * ((if withinB a (1 : Int) (9 : Int) = true then (48 : Int) * a else (0 : Int)) - i) ≤ (4611686018427387904 : Int)) ∧ (waveF a i * ((if withinB a (1 : Int) (9 : Int) = true then (48 : Int) * a else (0 : Int)) - i) / if withinB a (1 : Int) (9 : Int) = true then (48 : Int) * a else (0 : Int)) = sampleF a i)) ∧ (decide (i < (0 : Int)) = true → (0 : Int) = sampleF a i)) := by kernel_rfl
theorem s_rsample : FSound Try.prog 52 c_rsample := by
  refine fsound_of (Ctx.ok_of2 (M := Mx) (N := []) mixedA ok_rwave okD0 okB0) Try.func52 (by kernel_rfl) (by kernel_rfl) ?_
  intro us p v h hp
  unfold c_rsample at h
  split at h
  · rename_i k0 a k1 i
    cases h
    refine ⟨rfl, noL, 400, [.v (.one (.int .i64 false a)), .v (.one (.int .i64 false i))], by simp [tmLe, svLe, vLe, lfLe, lfsLe, ifB, nmIs, idR], rfl, ?_⟩
    rw [nf_rsample]
    clear hp
    cases hw : withinB a 1 9
    · have hi : insB a i = false := by unfold insB; rw [hw]; rfl
      simp only [Bool.false_eq_true, if_false, sampleF, hi]
      (repeat' (first | (refine And.intro ?_ ?_) | intro _))
      all_goals (try (refine Bool.eq_iff_iff.2 ?_))
      all_goals (try simp only [decide_eq_true_eq, decide_eq_false_iff_not, beq_iff_eq, beq_eq_false_iff_ne, bne_iff_ne, bne_eq_false_iff_eq, ne_eq, Bool.not_eq_true', Bool.not_eq_false', ← Bool.not_eq_true, Bool.true_eq_false, Bool.false_eq_true, Bool.and_eq_true, Bool.or_eq_true, false_iff, iff_false, true_iff, iff_true, not_true_eq_false, not_false_eq_true, and_true, true_and, inR, klo, khi] at *)
      all_goals (repeat' split)
      all_goals omega
    · obtain ⟨h1, h2⟩ := within_iff.1 hw
      have hi : 0 ≤ i → i < 48 * a → insB a i = true := fun g k => ins_iff.2 ⟨⟨h1, h2⟩, g, k⟩
      have hj : ¬ (0 ≤ i ∧ i < 48 * a) → sampleF a i = 0 := by
        intro g
        unfold sampleF
        rw [if_neg]
        rw [ins_iff]
        omega
      simp only [if_true]
      refine ⟨fun g => ?_, fun g => ?_⟩ <;> simp only [decide_eq_true_eq, decide_eq_false_iff_not] at g
      rotate_left
      · rw [hj (by omega)]
      refine ⟨fun k => ?_, fun k => ?_⟩ <;> simp only [decide_eq_true_eq, decide_eq_false_iff_not] at k
      · rw [hj (by omega)]
      have hin := hi (by omega) (by omega)
      have bd := waveF_bd a i
      have m1 := mul_bd (waveF a i) (48 * a - i) 8192 432 bd (by omega)
      have ew : sampleF a i = waveF a i * (48 * a - i) / (48 * a) := by unfold sampleF; rw [if_pos hin]
      rw [ew]
      simp only [inR, klo, khi, and_true]
      omega
  · cases h
noncomputable def Γ_rsample : List (FuncId × FX) := (52, c_rsample) :: Γ_rwave
theorem ok_rsample : ΓOk Try.prog Γ_rsample := ΓOk.cons (c := .pure c_rsample) s_rsample ok_rwave

noncomputable def c_raround : FC := fun us => match us with
  | [.v (.one (.int .i64 _ a)), .v (.one (.int .i64 _ i))] => some (none, .v (.one (.int .i64 false (aroundF a i))))
  | _ => none
theorem nf_raround (a : Int) (i : Int) : goal ⟨Mx, Try.prog, Γ_rsample, Δ0, B0, none, false, [], none⟩ noL 400 Try.f53 [.v (.one (.int .i64 false a)), .v (.one (.int .i64 false i))] [] (fun r _ => svLe idR r (.v (.one (.int .i64 false (aroundF a i))))) = ((((if withinB a (1 : Int) (9 : Int) = true then (48 : Int) * a else (0 : Int)) == (0 : Int)) = false → (decide (i < (0 : Int)) = true → (0 : Int) = aroundF a i) ∧ (decide (i < (0 : Int)) = false → (if withinB a (1 : Int) (9 : Int) = true then (48 : Int) * a else (0 : Int)) ≠ (0 : Int) ∧ waveF a (i.tmod (if withinB a (1 : Int) (9 : Int) = true then (48 : Int) * a else (0 : Int))) = aroundF a i)) ∧ (((if withinB a (1 : Int) (9 : Int) = true then (48 : Int) * a else (0 : Int)) == (0 : Int)) = true → (0 : Int) = aroundF a i)) := by kernel_rfl
theorem s_raround : FSound Try.prog 53 c_raround := by
  refine fsound_of (Ctx.ok_of2 (M := Mx) (N := []) mixedA ok_rsample okD0 okB0) Try.func53 (by kernel_rfl) (by kernel_rfl) ?_
  intro us p v h hp
  unfold c_raround at h
  split at h
  · rename_i k0 a k1 i
    cases h
    refine ⟨rfl, noL, 400, [.v (.one (.int .i64 false a)), .v (.one (.int .i64 false i))], by simp [tmLe, svLe, vLe, lfLe, lfsLe, ifB, nmIs, idR], rfl, ?_⟩
    rw [nf_raround]
    clear hp
    unfold aroundF
    cases h : withinB a 1 9
    · simp
    · obtain ⟨h1, h2⟩ := within_iff.1 h
      have hz : ((48 * a == 0) = false) := by rw [beq_eq_false_iff_ne]; omega
      simp only [if_true, bne_self_eq_false, Bool.false_eq_true, Bool.true_eq_false, false_implies, true_implies, and_true, true_and, hz]
      refine ⟨fun g => ?_, fun g => ?_⟩ <;> simp only [decide_eq_true_eq, decide_eq_false_iff_not] at g
      · rw [if_neg (by omega)]
      · rw [if_pos (by omega), Int.tmod_eq_emod_of_nonneg (by omega)]
        exact ⟨by omega, rfl⟩
  · cases h
noncomputable def Γ_raround : List (FuncId × FX) := (53, c_raround) :: Γ_rsample
theorem ok_raround : ΓOk Try.prog Γ_raround := ΓOk.cons (c := .pure c_raround) s_raround ok_rsample

noncomputable def c_venv : FC := fun us => match us with
  | [.v (.agg [.int .i64 _ fr, .int .i64 _ em, .int .i64 _ ki, .int .i64 _ od, .int .i64 _ at_, .int .i64 _ gn, .int .i64 _ pn, .int .i64 _ pr, .int .i64 _ ln, .int .i64 _ bo, .int .i64 _ lt, .int .i64 _ cu]), .v (.one (.int .i64 _ t))] => some (none, .v (.one (.int .i64 false (envF at_ gn pn ln bo lt cu t))))
  | _ => none
theorem nf_venv (fr : Int) (em : Int) (ki : Int) (od : Int) (at_ : Int) (gn : Int) (pn : Int) (pr : Int) (ln : Int) (bo : Int) (lt : Int) (cu : Int) (t : Int) : goal ⟨Mx, Try.prog, Γ_raround, Δ0, B0, none, false, [], none⟩ noL 400 Try.f50 [.v (.agg [.int .i64 false fr, .int .i64 false em, .int .i64 false ki, .int .i64 false od, .int .i64 false at_, .int .i64 false gn, .int .i64 false pn, .int .i64 false pr, .int .i64 false ln, .int .i64 false bo, .int .i64 false lt, .int .i64 false cu]), .v (.one (.int .i64 false t))] [] (fun r _ => svLe idR r (.v (.one (.int .i64 false (envF at_ gn pn ln bo lt cu t))))) = (((!atB at_ gn pn ln bo lt cu t) = true → (0 : Int) = envF at_ gn pn ln bo lt cu t) ∧ ((!atB at_ gn pn ln bo lt cu t) = false → ((cu == (-1 : Int)) = false → (decide (t < cu) = true → (32768 : Int) = envF at_ gn pn ln bo lt cu t) ∧ (decide (t < cu) = false → inR IntKind.i64 (t - cu) ∧ inR IntKind.i64 ((64 : Int) - (t - cu)) ∧ inR IntKind.i64 ((32768 : Int) * if (64 : Int) - (t - cu) < (0 : Int) then (0 : Int) else (64 : Int) - (t - cu)) ∧ inR IntKind.i64 (((32768 : Int) * if (64 : Int) - (t - cu) < (0 : Int) then (0 : Int) else (64 : Int) - (t - cu)).tdiv (64 : Int)) ∧ ((32768 : Int) * if (64 : Int) - (t - cu) < (0 : Int) then (0 : Int) else (64 : Int) - (t - cu)).tdiv (64 : Int) = envF at_ gn pn ln bo lt cu t)) ∧ ((cu == (-1 : Int)) = true → (32768 : Int) = envF at_ gn pn ln bo lt cu t))) := by kernel_rfl
theorem s_venv : FSound Try.prog 50 c_venv := by
  refine fsound_of (Ctx.ok_of2 (M := Mx) (N := []) mixedA ok_raround okD0 okB0) Try.func50 (by kernel_rfl) (by kernel_rfl) ?_
  intro us p v h hp
  unfold c_venv at h
  split at h
  · rename_i k0 fr k1 em k2 ki k3 od k4 at_ k5 gn k6 pn k7 pr k8 ln k9 bo k10 lt k11 cu k12 t
    cases h
    refine ⟨rfl, noL, 400, [.v (.agg [.int .i64 false fr, .int .i64 false em, .int .i64 false ki, .int .i64 false od, .int .i64 false at_, .int .i64 false gn, .int .i64 false pn, .int .i64 false pr, .int .i64 false ln, .int .i64 false bo, .int .i64 false lt, .int .i64 false cu]), .v (.one (.int .i64 false t))], by simp [tmLe, svLe, vLe, lfLe, lfsLe, ifB, nmIs, idR], rfl, ?_⟩
    rw [nf_venv]
    clear hp
    unfold envF
    cases h : atB at_ gn pn ln bo lt cu t
    · simp
    · obtain ⟨h1, h2⟩ := at_facts.1 h
      obtain ⟨f1, f2, f3, f4, f5, f6, f7⟩ := right_facts.1 h1
      have hq : ∀ x : Int, 0 ≤ x → x.tdiv 64 = x / 64 := fun x hx => Int.tdiv_eq_ediv_of_nonneg hx
      have hmx : (if 64 - (t - cu) < 0 then 0 else 64 - (t - cu)) = max (64 - (t - cu)) 0 := by split <;> omega
      rw [hmx, hq _ (by omega)]
      simp only [Bool.not_true, Bool.false_eq_true, Bool.true_eq_false, false_implies, true_implies, true_and, if_true]
      (repeat' (first | (refine And.intro ?_ ?_) | intro _))
      all_goals (try (refine Bool.eq_iff_iff.2 ?_))
      all_goals (try simp only [decide_eq_true_eq, decide_eq_false_iff_not, beq_iff_eq, beq_eq_false_iff_ne, bne_iff_ne, bne_eq_false_iff_eq, ne_eq, Bool.not_eq_true', Bool.not_eq_false', ← Bool.not_eq_true, Bool.true_eq_false, Bool.false_eq_true, Bool.and_eq_true, Bool.or_eq_true, false_iff, iff_false, true_iff, iff_true, not_true_eq_false, not_false_eq_true, and_true, true_and, inR, klo, khi] at *)
      all_goals (repeat' split)
      all_goals omega
  · cases h
noncomputable def Γ_venv : List (FuncId × FX) := (50, c_venv) :: Γ_raround
theorem ok_venv : ΓOk Try.prog Γ_venv := ΓOk.cons (c := .pure c_venv) s_venv ok_raround

noncomputable def c_vwave : FC := fun us => match us with
  | [.v (.agg [.int .i64 _ fr, .int .i64 _ em, .int .i64 _ ki, .int .i64 _ od, .int .i64 _ at_, .int .i64 _ gn, .int .i64 _ pn, .int .i64 _ pr, .int .i64 _ ln]), .v (.one (.int .i64 _ age))] => some (none, .v (.one (.int .i64 false (vwaveF at_ ln age))))
  | _ => none
theorem nf_vwave (fr : Int) (em : Int) (ki : Int) (od : Int) (at_ : Int) (gn : Int) (pn : Int) (pr : Int) (ln : Int) (age : Int) : goal ⟨Mx, Try.prog, Γ_venv, Δ0, B0, none, false, [], none⟩ noL 400 Try.f49 [.v (.agg [.int .i64 false fr, .int .i64 false em, .int .i64 false ki, .int .i64 false od, .int .i64 false at_, .int .i64 false gn, .int .i64 false pn, .int .i64 false pr, .int .i64 false ln]), .v (.one (.int .i64 false age))] [] (fun r _ => svLe idR r (.v (.one (.int .i64 false (vwaveF at_ ln age))))) = ((decide ((0 : Int) < ln) = true → aroundF at_ age = vwaveF at_ ln age) ∧ (decide ((0 : Int) < ln) = false → sampleF at_ age = vwaveF at_ ln age)) := by kernel_rfl
theorem s_vwave : FSound Try.prog 49 c_vwave := by
  refine fsound_of (Ctx.ok_of2 (M := Mx) (N := []) mixedA ok_venv okD0 okB0) Try.func49 (by kernel_rfl) (by kernel_rfl) ?_
  intro us p v h hp
  unfold c_vwave at h
  split at h
  · rename_i k0 fr k1 em k2 ki k3 od k4 at_ k5 gn k6 pn k7 pr k8 ln k9 age
    cases h
    refine ⟨rfl, noL, 400, [.v (.agg [.int .i64 false fr, .int .i64 false em, .int .i64 false ki, .int .i64 false od, .int .i64 false at_, .int .i64 false gn, .int .i64 false pn, .int .i64 false pr, .int .i64 false ln]), .v (.one (.int .i64 false age))], by simp [tmLe, svLe, vLe, lfLe, lfsLe, ifB, nmIs, idR], rfl, ?_⟩
    rw [nf_vwave]
    clear hp
    unfold vwaveF
    (repeat' (first | (refine And.intro ?_ ?_) | intro _))
    all_goals (try (refine Bool.eq_iff_iff.2 ?_))
    all_goals (try simp only [decide_eq_true_eq, decide_eq_false_iff_not, beq_iff_eq, beq_eq_false_iff_ne, bne_iff_ne, bne_eq_false_iff_eq, ne_eq, Bool.not_eq_true', Bool.not_eq_false', ← Bool.not_eq_true, Bool.true_eq_false, Bool.false_eq_true, Bool.and_eq_true, Bool.or_eq_true, false_iff, iff_false, true_iff, iff_true, not_true_eq_false, not_false_eq_true, and_true, true_and, inR, klo, khi] at *)
    all_goals (repeat' split)
    all_goals (first | rfl | omega)
  · cases h
noncomputable def Γ_vwave : List (FuncId × FX) := (49, c_vwave) :: Γ_venv
theorem ok_vwave : ΓOk Try.prog Γ_vwave := ΓOk.cons (c := .pure c_vwave) s_vwave ok_venv

noncomputable def c_vgives : FC := fun us => match us with
  | [.v (.agg [.int .i64 _ fr, .int .i64 _ em, .int .i64 _ ki, .int .i64 _ od, .int .i64 _ at_, .int .i64 _ gn, .int .i64 _ pn, .int .i64 _ pr, .int .i64 _ ln, .int .i64 _ bo, .int .i64 _ lt, .int .i64 _ cu]), .v (.one (.int .i64 _ t))] => some (none, .tup [.one (.int .i64 false (giveL at_ gn pn ln bo lt cu t)), .one (.int .i64 false (giveR at_ gn pn ln bo lt cu t))])
  | _ => none
theorem nf_vgives (fr : Int) (em : Int) (ki : Int) (od : Int) (at_ : Int) (gn : Int) (pn : Int) (pr : Int) (ln : Int) (bo : Int) (lt : Int) (cu : Int) (t : Int) : goal ⟨Mx, Try.prog, Γ_vwave, Δ0, B0, none, false, [], none⟩ noL 400 Try.f25 [.v (.agg [.int .i64 false fr, .int .i64 false em, .int .i64 false ki, .int .i64 false od, .int .i64 false at_, .int .i64 false gn, .int .i64 false pn, .int .i64 false pr, .int .i64 false ln, .int .i64 false bo, .int .i64 false lt, .int .i64 false cu]), .v (.one (.int .i64 false t))] [] (fun r _ => svLe idR r (.tup [.one (.int .i64 false (giveL at_ gn pn ln bo lt cu t)), .one (.int .i64 false (giveR at_ gn pn ln bo lt cu t))])) = (((!soundsB at_ gn pn ln bo lt cu t) = true → (0 : Int) = giveL at_ gn pn ln bo lt cu t ∧ (0 : Int) = giveR at_ gn pn ln bo lt cu t) ∧ ((!soundsB at_ gn pn ln bo lt cu t) = false → inR IntKind.i64 (t - bo) ∧ inR IntKind.i64 (t - bo + lt) ∧ inR IntKind.i64 ((32768 : Int) - if pn < (0 : Int) then (0 : Int) else pn) ∧ inR IntKind.i64 ((32768 : Int) + if (0 : Int) < pn then (0 : Int) else pn) ∧ scF (scF (scF (vwaveF at_ ln (t - bo + lt)) gn) (envF at_ gn pn ln bo lt cu t)) ((32768 : Int) - if pn < (0 : Int) then (0 : Int) else pn) = giveL at_ gn pn ln bo lt cu t ∧ scF (scF (scF (vwaveF at_ ln (t - bo + lt)) gn) (envF at_ gn pn ln bo lt cu t)) ((32768 : Int) + if (0 : Int) < pn then (0 : Int) else pn) = giveR at_ gn pn ln bo lt cu t)) := by kernel_rfl
theorem s_vgives : FSound Try.prog 25 c_vgives := by
  refine fsound_of (Ctx.ok_of2 (M := Mx) (N := []) mixedA ok_vwave okD0 okB0) Try.func25 (by kernel_rfl) (by kernel_rfl) ?_
  intro us p v h hp
  unfold c_vgives at h
  split at h
  · rename_i k0 fr k1 em k2 ki k3 od k4 at_ k5 gn k6 pn k7 pr k8 ln k9 bo k10 lt k11 cu k12 t
    cases h
    refine ⟨rfl, noL, 400, [.v (.agg [.int .i64 false fr, .int .i64 false em, .int .i64 false ki, .int .i64 false od, .int .i64 false at_, .int .i64 false gn, .int .i64 false pn, .int .i64 false pr, .int .i64 false ln, .int .i64 false bo, .int .i64 false lt, .int .i64 false cu]), .v (.one (.int .i64 false t))], by simp [tmLe, svLe, vLe, lfLe, lfsLe, ifB, nmIs, idR], rfl, ?_⟩
    rw [nf_vgives]
    clear hp
    unfold giveL giveR
    cases h : soundsB at_ gn pn ln bo lt cu t
    · simp
    · have h0 : atB at_ gn pn ln bo lt cu t = true := by unfold soundsB at h; rw [Bool.and_eq_true] at h; exact h.1
      obtain ⟨h1, h2⟩ := at_facts.1 h0
      obtain ⟨f1, f2, f3, f4, f5, f6, f7⟩ := right_facts.1 h1
      have m1 : (if pn < 0 then 0 else pn) = max pn 0 := by split <;> omega
      have m2 : (if 0 < pn then 0 else pn) = min pn 0 := by split <;> omega
      rw [m1, m2]
      simp only [Bool.not_true, Bool.false_eq_true, Bool.true_eq_false, false_implies, true_implies, true_and, if_true, and_true, inR, klo, khi]
      omega
  · cases h
noncomputable def Γ_vgives : List (FuncId × FX) := (25, c_vgives) :: Γ_vwave
theorem ok_vgives : ΓOk Try.prog Γ_vgives := ΓOk.cons (c := .pure c_vgives) s_vgives ok_vwave

end Go.Proofs.Ytljnddhldjaglaa
