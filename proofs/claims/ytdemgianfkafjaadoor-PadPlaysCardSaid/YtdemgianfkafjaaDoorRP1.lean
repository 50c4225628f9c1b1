/- A STICK. Conditions: the contracts' own. Own work; the normal forms were printed by a program of mine (wip/rex). -/
import Derived.Test.YtdemgianfkafjaaDoorR0
import Derived.Test.YtdemgianfkafjaaDoorFixed2
import Derived.Test.YtdemgianfkafjaaDoorTrig2
namespace Go.Proofs.YtdemgianfkafjaaDoor
open Go.RowKit Rex
set_option linter.unusedVariables false
set_option linter.unusedSimpArgs false
set_option maxRecDepth 100000


def padX (n : Int) : Int := 65536 * wi n (-127) 127
def padC (x y f : Int) : Int := sat (mulF (sinF (f + 16384)) (padX y) - mulF (sinF f) (padX x))
def padD (x y f : Int) : Int := sat (mulF (sinF (f + 16384)) (padX x) + mulF (sinF f) (padX y))
def padS (x y f : Int) : Int := if lenF (padX x) (padX y) ≤ 1572864 then 0 else
  (if padC x y f < -(max (padD x y f) (-(padD x y f)) / 4) then 1 else if max (padD x y f) (-(padD x y f)) / 4 < padC x y f ∨ padD x y f < 0 then 2 else 0) + (if 0 < padD x y f then 4 else 0)
theorem padX_bd (n : Int) : -8323072 ≤ padX n ∧ padX n ≤ 8323072 := by unfold padX wi; omega
theorem pmul_bd (a n : Int) : -8323072 ≤ mulF (sinF a) (padX n) ∧ mulF (sinF a) (padX n) ≤ 8323072 := by
  have h1 := sinF_bd a
  have h2 := padX_bd n
  have h3 := mul_bd (sinF a) (padX n) 65536 8323072 (by omega) (by omega)
  unfold mulF
  rw [sat_in _ (by omega)]
  omega
theorem sinF_tmod (f : Int) : sinF (f.tmod 65536 + 16384) = sinF (f + 16384) := by
  have h := Int.tmod_add_mul_tdiv f 65536
  unfold sinF
  congr 1
  generalize f.tmod 65536 = a at *
  generalize f.tdiv 65536 = b at *
  omega


noncomputable def c_of : FC := fun us => match us with
  | [.v (.one (.int .i64 _ n))] => some (none, .v (.one (.int .i32 false (ofF n))))
  | _ => none
theorem s_of : FSound Tryd.prog 41 c_of := by
  refine fsound_calls Tryd.func41 (by kernel_rfl) (by kernel_rfl) ?_
  intro us p v h hp
  unfold c_of at h
  split at h
  · rename_i k0 n
    cases h
    exact ⟨[.int .i64 n], .int .i32 (ofF n), rfl, rfl, fun w => same_ext (of_any n w)⟩
  · cases h
noncomputable def Γ_of : List (FuncId × FX) := (41, c_of) :: Γ0
theorem ok_of : ΓOk Tryd.prog Γ_of := ΓOk.cons (c := .pure c_of) s_of ok0

noncomputable def c_mul : FC := fun us => match us with
  | [.v (.one (.int .i32 _ a)), .v (.one (.int .i32 _ b))] => some (some ((-2147483648 ≤ a ∧ a ≤ 2147483647) ∧ (-2147483648 ≤ b ∧ b ≤ 2147483647)), .v (.one (.int .i32 false (mulF a b))))
  | _ => none
theorem s_mul : FSound Tryd.prog 25 c_mul := by
  refine fsound_calls Tryd.func25 (by kernel_rfl) (by kernel_rfl) ?_
  intro us p v h hp
  unfold c_mul at h
  split at h
  · rename_i k0 a k1 b
    cases h
    have hp : (-2147483648 ≤ a ∧ a ≤ 2147483647) ∧ (-2147483648 ≤ b ∧ b ≤ 2147483647) := hp
    exact ⟨[.int .i32 a, .int .i32 b], .int .i32 (mulF a b), rfl, rfl, fun w => same_ext (mul_any a b w hp.1 hp.2)⟩
  · cases h
noncomputable def Γ_mul : List (FuncId × FX) := (25, c_mul) :: Γ_of
theorem ok_mul : ΓOk Tryd.prog Γ_mul := ΓOk.cons (c := .pure c_mul) s_mul ok_of

noncomputable def c_add : FC := fun us => match us with
  | [.v (.one (.int .i32 _ a)), .v (.one (.int .i32 _ b))] => some (some ((-2147483648 ≤ a ∧ a ≤ 2147483647) ∧ (-2147483648 ≤ b ∧ b ≤ 2147483647)), .v (.one (.int .i32 false (sat (a + b)))))
  | _ => none
theorem s_add : FSound Tryd.prog 26 c_add := by
  refine fsound_calls Tryd.func26 (by kernel_rfl) (by kernel_rfl) ?_
  intro us p v h hp
  unfold c_add at h
  split at h
  · rename_i k0 a k1 b
    cases h
    have hp : (-2147483648 ≤ a ∧ a ≤ 2147483647) ∧ (-2147483648 ≤ b ∧ b ≤ 2147483647) := hp
    exact ⟨[.int .i32 a, .int .i32 b], .int .i32 (sat (a + b)), rfl, rfl, fun w => same_ext (add_any a b w hp.1 hp.2)⟩
  · cases h
noncomputable def Γ_add : List (FuncId × FX) := (26, c_add) :: Γ_mul
theorem ok_add : ΓOk Tryd.prog Γ_add := ΓOk.cons (c := .pure c_add) s_add ok_mul

noncomputable def c_sub : FC := fun us => match us with
  | [.v (.one (.int .i32 _ a)), .v (.one (.int .i32 _ b))] => some (some ((-2147483648 ≤ a ∧ a ≤ 2147483647) ∧ (-2147483648 ≤ b ∧ b ≤ 2147483647)), .v (.one (.int .i32 false (sat (a - b)))))
  | _ => none
theorem s_sub : FSound Tryd.prog 24 c_sub := by
  refine fsound_calls Tryd.func24 (by kernel_rfl) (by kernel_rfl) ?_
  intro us p v h hp
  unfold c_sub at h
  split at h
  · rename_i k0 a k1 b
    cases h
    have hp : (-2147483648 ≤ a ∧ a ≤ 2147483647) ∧ (-2147483648 ≤ b ∧ b ≤ 2147483647) := hp
    exact ⟨[.int .i32 a, .int .i32 b], .int .i32 (sat (a - b)), rfl, rfl, fun w => same_ext (sub_any a b w hp.1 hp.2)⟩
  · cases h
noncomputable def Γ_sub : List (FuncId × FX) := (24, c_sub) :: Γ_add
theorem ok_sub : ΓOk Tryd.prog Γ_sub := ΓOk.cons (c := .pure c_sub) s_sub ok_add

noncomputable def c_abs : FC := fun us => match us with
  | [.v (.one (.int .i32 _ a))] => some (some (-2147483648 ≤ a ∧ a ≤ 2147483647), .v (.one (.int .i32 false (max a (sat (-a))))))
  | _ => none
theorem s_abs : FSound Tryd.prog 27 c_abs := by
  refine fsound_calls Tryd.func27 (by kernel_rfl) (by kernel_rfl) ?_
  intro us p v h hp
  unfold c_abs at h
  split at h
  · rename_i k0 a
    cases h
    have hp : -2147483648 ≤ a ∧ a ≤ 2147483647 := hp
    exact ⟨[.int .i32 a], .int .i32 (max a (sat (-a))), rfl, rfl, fun w => same_ext (abs_any a w hp)⟩
  · cases h
noncomputable def Γ_abs : List (FuncId × FX) := (27, c_abs) :: Γ_sub
theorem ok_abs : ΓOk Tryd.prog Γ_abs := ΓOk.cons (c := .pure c_abs) s_abs ok_sub

noncomputable def c_length : FC := fun us => match us with
  | [.v (.one (.int .i32 _ a)), .v (.one (.int .i32 _ b))] => some (some ((-2147483648 ≤ a ∧ a ≤ 2147483647) ∧ (-2147483648 ≤ b ∧ b ≤ 2147483647)), .v (.one (.int .i32 false (lenF a b))))
  | _ => none
theorem s_length : FSound Tryd.prog 21 c_length := by
  refine fsound_calls Tryd.func21 (by kernel_rfl) (by kernel_rfl) ?_
  intro us p v h hp
  unfold c_length at h
  split at h
  · rename_i k0 a k1 b
    cases h
    have hp : (-2147483648 ≤ a ∧ a ≤ 2147483647) ∧ (-2147483648 ≤ b ∧ b ≤ 2147483647) := hp
    exact ⟨[.int .i32 a, .int .i32 b], .int .i32 (lenF a b), rfl, rfl, fun w => same_ext (length_any a b w hp.1 hp.2)⟩
  · cases h
noncomputable def Γ_length : List (FuncId × FX) := (21, c_length) :: Γ_abs
theorem ok_length : ΓOk Tryd.prog Γ_length := ΓOk.cons (c := .pure c_length) s_length ok_abs

noncomputable def c_cos : FC := fun us => match us with
  | [.v (.one (.int .i64 _ a))] => some (none, .v (.one (.int .i32 false (sinF (a + 16384)))))
  | _ => none
theorem s_cos : FSound Tryd.prog 22 c_cos := by
  refine fsound_calls Tryd.func22 (by kernel_rfl) (by kernel_rfl) ?_
  intro us p v h hp
  unfold c_cos at h
  split at h
  · rename_i k0 a
    cases h
    exact ⟨[.int .i64 a], .int .i32 (sinF (a + 16384)), rfl, rfl, fun w => same_ext (cos_any a w)⟩
  · cases h
noncomputable def Γ_cos : List (FuncId × FX) := (22, c_cos) :: Γ_length
theorem ok_cos : ΓOk Tryd.prog Γ_cos := ΓOk.cons (c := .pure c_cos) s_cos ok_length

noncomputable def c_sin : FC := fun us => match us with
  | [.v (.one (.int .i64 _ a))] => some (none, .v (.one (.int .i32 false (sinF a))))
  | _ => none
theorem s_sin : FSound Tryd.prog 23 c_sin := by
  refine fsound_calls Tryd.func23 (by kernel_rfl) (by kernel_rfl) ?_
  intro us p v h hp
  unfold c_sin at h
  split at h
  · rename_i k0 a
    cases h
    exact ⟨[.int .i64 a], .int .i32 (sinF a), rfl, rfl, fun w => same_ext (sin_any a w)⟩
  · cases h
noncomputable def Γ_sin : List (FuncId × FX) := (23, c_sin) :: Γ_cos
theorem ok_sin : ΓOk Tryd.prog Γ_sin := ΓOk.cons (c := .pure c_sin) s_sin ok_cos

noncomputable def c_rsin : FC := fun us => match us with
  | [.v (.one (.int .i64 _ a))] => some (none, .v (.one (.int .i32 false (sinF a))))
  | _ => none
theorem s_rsin : FSound Tryd.prog 30 c_rsin := by
  refine fsound_calls Tryd.func30 (by kernel_rfl) (by kernel_rfl) ?_
  intro us p v h hp
  unfold c_rsin at h
  split at h
  · rename_i k0 a
    cases h
    exact ⟨[.int .i64 a], .int .i32 (sinF a), rfl, rfl, fun w => same_ext (rsin_any a w)⟩
  · cases h
noncomputable def Γ_rsin : List (FuncId × FX) := (30, c_rsin) :: Γ_sin
theorem ok_rsin : ΓOk Tryd.prog Γ_rsin := ΓOk.cons (c := .pure c_rsin) s_rsin ok_sin

noncomputable def c_rlength : FC := fun us => match us with
  | [.v (.one (.int .i32 _ a)), .v (.one (.int .i32 _ b))] => some (some ((-2147483648 ≤ a ∧ a ≤ 2147483647) ∧ (-2147483648 ≤ b ∧ b ≤ 2147483647)), .v (.one (.int .i32 false (lenF a b))))
  | _ => none
theorem s_rlength : FSound Tryd.prog 29 c_rlength := by
  refine fsound_calls Tryd.func29 (by kernel_rfl) (by kernel_rfl) ?_
  intro us p v h hp
  unfold c_rlength at h
  split at h
  · rename_i k0 a k1 b
    cases h
    have hp : (-2147483648 ≤ a ∧ a ≤ 2147483647) ∧ (-2147483648 ≤ b ∧ b ≤ 2147483647) := hp
    exact ⟨[.int .i32 a, .int .i32 b], .int .i32 (lenF a b), rfl, rfl, fun w => same_ext (rlength_any a b w hp.1 hp.2)⟩
  · cases h
noncomputable def Γ_rlength : List (FuncId × FX) := (29, c_rlength) :: Γ_rsin
theorem ok_rlength : ΓOk Tryd.prog Γ_rlength := ΓOk.cons (c := .pure c_rlength) s_rlength ok_rsin

noncomputable def c_between : FC := fun us => match us with
  | [.v (.one (.int .i64 _ n)), .v (.one (.int .i64 _ l)), .v (.one (.int .i64 _ m))] => some (some (l ≤ m), .v (.one (.int .i64 false (wi n l m))))
  | _ => none
theorem s_between : FSound Tryd.prog 28 c_between := by
  refine fsound_calls Tryd.func28 (by kernel_rfl) (by kernel_rfl) ?_
  intro us p v h hp
  unfold c_between at h
  split at h
  · rename_i k0 n k1 l k2 m
    cases h
    have hp : l ≤ m := hp
    exact ⟨[.int .i64 n, .int .i64 l, .int .i64 m], .int .i64 (wi n l m), rfl, rfl, fun w => same_ext (between_any n l m w hp)⟩
  · cases h
noncomputable def Γ_between : List (FuncId × FX) := (28, c_between) :: Γ_rlength
theorem ok_between : ΓOk Tryd.prog Γ_between := ΓOk.cons (c := .pure c_between) s_between ok_rlength

noncomputable def c_rmul : FC := fun us => match us with
  | [.v (.one (.int .i32 _ a)), .v (.one (.int .i32 _ b))] => some (some ((-2147483648 ≤ a ∧ a ≤ 2147483647) ∧ (-2147483648 ≤ b ∧ b ≤ 2147483647)), .v (.one (.int .i32 false (mulF a b))))
  | _ => none
theorem s_rmul : FSound Tryd.prog 32 c_rmul := by
  refine fsound_calls Tryd.func32 (by kernel_rfl) (by kernel_rfl) ?_
  intro us p v h hp
  unfold c_rmul at h
  split at h
  · rename_i k0 a k1 b
    cases h
    have hp : (-2147483648 ≤ a ∧ a ≤ 2147483647) ∧ (-2147483648 ≤ b ∧ b ≤ 2147483647) := hp
    exact ⟨[.int .i32 a, .int .i32 b], .int .i32 (mulF a b), rfl, rfl, fun w => same_ext (rmul_any a b w hp.1 hp.2)⟩
  · cases h
noncomputable def Γ_rmul : List (FuncId × FX) := (32, c_rmul) :: Γ_between
theorem ok_rmul : ΓOk Tryd.prog Γ_rmul := ΓOk.cons (c := .pure c_rmul) s_rmul ok_between

noncomputable def c_rsat : FC := fun us => match us with
  | [.v (.one (.int .i64 _ a))] => some (none, .v (.one (.int .i32 false (sat a))))
  | _ => none
theorem s_rsat : FSound Tryd.prog 46 c_rsat := by
  refine fsound_calls Tryd.func46 (by kernel_rfl) (by kernel_rfl) ?_
  intro us p v h hp
  unfold c_rsat at h
  split at h
  · rename_i k0 a
    cases h
    exact ⟨[.int .i64 a], .int .i32 (sat a), rfl, rfl, fun w => same_ext (rsat_any a w)⟩
  · cases h
noncomputable def Γ_rsat : List (FuncId × FX) := (46, c_rsat) :: Γ_rmul
theorem ok_rsat : ΓOk Tryd.prog Γ_rsat := ΓOk.cons (c := .pure c_rsat) s_rsat ok_rmul

noncomputable def c_radd : FC := fun us => match us with
  | [.v (.one (.int .i32 _ a)), .v (.one (.int .i32 _ b))] => some (some ((-2147483648 ≤ a ∧ a ≤ 2147483647) ∧ (-2147483648 ≤ b ∧ b ≤ 2147483647)), .v (.one (.int .i32 false (sat (a + b)))))
  | _ => none
theorem nf_radd (a : Int) (b : Int) : goal ⟨Mx, Tryd.prog, Γ_rsat, Δ0, B0, none, false, [], none⟩ noL 400 Tryd.f33 [.v (.one (.int .i32 false a)), .v (.one (.int .i32 false b))] [] (fun r _ => svLe idR r (.v (.one (.int .i32 false (sat (a + b)))))) = (inR IntKind.i64 a ∧ inR IntKind.i64 b ∧ inR IntKind.i64 (a + b) ∧ sat (a + b) = sat (a + b)) := by kernel_rfl
theorem s_radd : FSound Tryd.prog 33 c_radd := by
  refine fsound_of (Ctx.ok_of2 (M := Mx) (N := []) mixedA ok_rsat okD0 okB0) Tryd.func33 (by kernel_rfl) (by kernel_rfl) ?_
  intro us p v h hp
  unfold c_radd at h
  split at h
  · rename_i k0 a k1 b
    cases h
    have hp : (-2147483648 ≤ a ∧ a ≤ 2147483647) ∧ (-2147483648 ≤ b ∧ b ≤ 2147483647) := hp
    refine ⟨rfl, noL, 400, [.v (.one (.int .i32 false a)), .v (.one (.int .i32 false b))], by simp [tmLe, svLe, vLe, lfLe, lfsLe, ifB, nmIs, idR], rfl, ?_⟩
    rw [nf_radd]
    refine ⟨?_, ?_, ?_, rfl⟩ <;> simp only [inR, klo, khi] <;> omega
  · cases h
noncomputable def Γ_radd : List (FuncId × FX) := (33, c_radd) :: Γ_rsat
theorem ok_radd : ΓOk Tryd.prog Γ_radd := ΓOk.cons (c := .pure c_radd) s_radd ok_rsat

noncomputable def c_rsub : FC := fun us => match us with
  | [.v (.one (.int .i32 _ a)), .v (.one (.int .i32 _ b))] => some (some ((-2147483648 ≤ a ∧ a ≤ 2147483647) ∧ (-2147483648 ≤ b ∧ b ≤ 2147483647)), .v (.one (.int .i32 false (sat (a - b)))))
  | _ => none
theorem nf_rsub (a : Int) (b : Int) : goal ⟨Mx, Tryd.prog, Γ_radd, Δ0, B0, none, false, [], none⟩ noL 400 Tryd.f31 [.v (.one (.int .i32 false a)), .v (.one (.int .i32 false b))] [] (fun r _ => svLe idR r (.v (.one (.int .i32 false (sat (a - b)))))) = (inR IntKind.i64 a ∧ inR IntKind.i64 b ∧ inR IntKind.i64 (a - b) ∧ sat (a - b) = sat (a - b)) := by kernel_rfl
theorem s_rsub : FSound Tryd.prog 31 c_rsub := by
  refine fsound_of (Ctx.ok_of2 (M := Mx) (N := []) mixedA ok_radd okD0 okB0) Tryd.func31 (by kernel_rfl) (by kernel_rfl) ?_
  intro us p v h hp
  unfold c_rsub at h
  split at h
  · rename_i k0 a k1 b
    cases h
    have hp : (-2147483648 ≤ a ∧ a ≤ 2147483647) ∧ (-2147483648 ≤ b ∧ b ≤ 2147483647) := hp
    refine ⟨rfl, noL, 400, [.v (.one (.int .i32 false a)), .v (.one (.int .i32 false b))], by simp [tmLe, svLe, vLe, lfLe, lfsLe, ifB, nmIs, idR], rfl, ?_⟩
    rw [nf_rsub]
    refine ⟨?_, ?_, ?_, rfl⟩ <;> simp only [inR, klo, khi] <;> omega
  · cases h
noncomputable def Γ_rsub : List (FuncId × FX) := (31, c_rsub) :: Γ_radd
theorem ok_rsub : ΓOk Tryd.prog Γ_rsub := ΓOk.cons (c := .pure c_rsub) s_rsub ok_radd

noncomputable def c_stick : FC := fun us => match us with
  | [.v (.one (.int .i64 _ n))] => some (none, .v (.one (.int .i32 false (padX n))))
  | _ => none
theorem nf_stick (n : Int) : goal ⟨Mx, Tryd.prog, Γ_rsub, Δ0, B0, none, false, [], none⟩ noL 400 Tryd.f20 [.v (.one (.int .i64 false n))] [] (fun r _ => svLe idR r (.v (.one (.int .i32 false (padX n))))) = (ofF (if (-127 : Int) < if (127 : Int) < n then (127 : Int) else n then if (127 : Int) < n then (127 : Int) else n else (-127 : Int)) = padX n) := by kernel_rfl
theorem s_stick : FSound Tryd.prog 20 c_stick := by
  refine fsound_of (Ctx.ok_of2 (M := Mx) (N := []) mixedA ok_rsub okD0 okB0) Tryd.func20 (by kernel_rfl) (by kernel_rfl) ?_
  intro us p v h hp
  unfold c_stick at h
  split at h
  · rename_i k0 n
    cases h
    refine ⟨rfl, noL, 400, [.v (.one (.int .i64 false n))], by simp [tmLe, svLe, vLe, lfLe, lfsLe, ifB, nmIs, idR], rfl, ?_⟩
    rw [nf_stick]
    clear hp
    unfold padX ofF wi
    rw [sat_in _ (by omega)]
    (repeat' split) <;> omega
  · cases h
noncomputable def Γ_stick : List (FuncId × FX) := (20, c_stick) :: Γ_rsub
theorem ok_stick : ΓOk Tryd.prog Γ_stick := ΓOk.cons (c := .pure c_stick) s_stick ok_rsub

noncomputable def c_Stick : FC := fun us => match us with
  | [.v (.one (.int .i64 _ x)), .v (.one (.int .i64 _ y)), .v (.one (.int .i64 _ f))] => some (none, .v (.one (.int .u8 false (padS x y f))))
  | _ => none
theorem nf_Stick (x : Int) (y : Int) (f : Int) : goal ⟨Mx, Tryd.prog, Γ_stick, Δ0, B0, none, false, [], none⟩ noL 400 Tryd.f8 [.v (.one (.int .i64 false x)), .v (.one (.int .i64 false y)), .v (.one (.int .i64 false f))] [] (fun r _ => svLe idR r (.v (.one (.int .u8 false (padS x y f))))) = ((((-2147483648 : Int) ≤ padX x ∧ padX x ≤ (2147483647 : Int)) ∧ (-2147483648 : Int) ≤ padX y ∧ padX y ≤ (2147483647 : Int)) ∧ (decide (lenF (padX x) (padX y) ≤ (1572864 : Int)) = true → (0 : Int) = padS x y f) ∧ (decide (lenF (padX x) (padX y) ≤ (1572864 : Int)) = false → (((-2147483648 : Int) ≤ sinF (f + (16384 : Int)) ∧ sinF (f + (16384 : Int)) ≤ (2147483647 : Int)) ∧ (-2147483648 : Int) ≤ padX y ∧ padX y ≤ (2147483647 : Int)) ∧ (((-2147483648 : Int) ≤ sinF f ∧ sinF f ≤ (2147483647 : Int)) ∧ (-2147483648 : Int) ≤ padX x ∧ padX x ≤ (2147483647 : Int)) ∧ (((-2147483648 : Int) ≤ mulF (sinF (f + (16384 : Int))) (padX y) ∧ mulF (sinF (f + (16384 : Int))) (padX y) ≤ (2147483647 : Int)) ∧ (-2147483648 : Int) ≤ mulF (sinF f) (padX x) ∧ mulF (sinF f) (padX x) ≤ (2147483647 : Int)) ∧ (((-2147483648 : Int) ≤ sinF (f + (16384 : Int)) ∧ sinF (f + (16384 : Int)) ≤ (2147483647 : Int)) ∧ (-2147483648 : Int) ≤ padX x ∧ padX x ≤ (2147483647 : Int)) ∧ (((-2147483648 : Int) ≤ sinF f ∧ sinF f ≤ (2147483647 : Int)) ∧ (-2147483648 : Int) ≤ padX y ∧ padX y ≤ (2147483647 : Int)) ∧ (((-2147483648 : Int) ≤ mulF (sinF (f + (16384 : Int))) (padX x) ∧ mulF (sinF (f + (16384 : Int))) (padX x) ≤ (2147483647 : Int)) ∧ (-2147483648 : Int) ≤ mulF (sinF f) (padX y) ∧ mulF (sinF f) (padX y) ≤ (2147483647 : Int)) ∧ ((-2147483648 : Int) ≤ sat (mulF (sinF (f + (16384 : Int))) (padX x) + mulF (sinF f) (padX y)) ∧ sat (mulF (sinF (f + (16384 : Int))) (padX x) + mulF (sinF f) (padX y)) ≤ (2147483647 : Int)) ∧ inR IntKind.i32 (-(max (sat (mulF (sinF (f + (16384 : Int))) (padX x) + mulF (sinF f) (padX y))) (sat (-sat (mulF (sinF (f + (16384 : Int))) (padX x) + mulF (sinF f) (padX y)))) / (4 : Int))) ∧ (decide (sat (mulF (sinF (f + (16384 : Int))) (padX y) - mulF (sinF f) (padX x)) < -(max (sat (mulF (sinF (f + (16384 : Int))) (padX x) + mulF (sinF f) (padX y))) (sat (-sat (mulF (sinF (f + (16384 : Int))) (padX x) + mulF (sinF f) (padX y)))) / (4 : Int))) = true → (decide ((0 : Int) < sat (mulF (sinF (f + (16384 : Int))) (padX x) + mulF (sinF f) (padX y))) = true → (5 : Int) = padS x y f) ∧ (decide ((0 : Int) < sat (mulF (sinF (f + (16384 : Int))) (padX x) + mulF (sinF f) (padX y))) = false → (1 : Int) = padS x y f)) ∧ (decide (sat (mulF (sinF (f + (16384 : Int))) (padX y) - mulF (sinF f) (padX x)) < -(max (sat (mulF (sinF (f + (16384 : Int))) (padX x) + mulF (sinF f) (padX y))) (sat (-sat (mulF (sinF (f + (16384 : Int))) (padX x) + mulF (sinF f) (padX y)))) / (4 : Int))) = false → (decide (max (sat (mulF (sinF (f + (16384 : Int))) (padX x) + mulF (sinF f) (padX y))) (sat (-sat (mulF (sinF (f + (16384 : Int))) (padX x) + mulF (sinF f) (padX y)))) / (4 : Int) < sat (mulF (sinF (f + (16384 : Int))) (padX y) - mulF (sinF f) (padX x))) = false → (decide (sat (mulF (sinF (f + (16384 : Int))) (padX x) + mulF (sinF f) (padX y)) < (0 : Int)) = true → (decide ((0 : Int) < sat (mulF (sinF (f + (16384 : Int))) (padX x) + mulF (sinF f) (padX y))) = true → (6 : Int) = padS x y f) ∧ (decide ((0 : Int) < sat (mulF (sinF (f + (16384 : Int))) (padX x) + mulF (sinF f) (padX y))) = false → (2 : Int) = padS x y f)) ∧ (decide (sat (mulF (sinF (f + (16384 : Int))) (padX x) + mulF (sinF f) (padX y)) < (0 : Int)) = false → (decide ((0 : Int) < sat (mulF (sinF (f + (16384 : Int))) (padX x) + mulF (sinF f) (padX y))) = true → (4 : Int) = padS x y f) ∧ (decide ((0 : Int) < sat (mulF (sinF (f + (16384 : Int))) (padX x) + mulF (sinF f) (padX y))) = false → (0 : Int) = padS x y f))) ∧ (decide (max (sat (mulF (sinF (f + (16384 : Int))) (padX x) + mulF (sinF f) (padX y))) (sat (-sat (mulF (sinF (f + (16384 : Int))) (padX x) + mulF (sinF f) (padX y)))) / (4 : Int) < sat (mulF (sinF (f + (16384 : Int))) (padX y) - mulF (sinF f) (padX x))) = true → (decide ((0 : Int) < sat (mulF (sinF (f + (16384 : Int))) (padX x) + mulF (sinF f) (padX y))) = true → (6 : Int) = padS x y f) ∧ (decide ((0 : Int) < sat (mulF (sinF (f + (16384 : Int))) (padX x) + mulF (sinF f) (padX y))) = false → (2 : Int) = padS x y f))))) := by kernel_rfl
theorem s_Stick : FSound Tryd.prog 8 c_Stick := by
  refine fsound_of (Ctx.ok_of2 (M := Mx) (N := []) mixedA ok_stick okD0 okB0) Tryd.func8 (by kernel_rfl) (by kernel_rfl) ?_
  intro us p v h hp
  unfold c_Stick at h
  split at h
  · rename_i k0 x k1 y k2 f
    cases h
    refine ⟨rfl, noL, 400, [.v (.one (.int .i64 false x)), .v (.one (.int .i64 false y)), .v (.one (.int .i64 false f))], by simp [tmLe, svLe, vLe, lfLe, lfsLe, ifB, nmIs, idR], rfl, ?_⟩
    rw [nf_Stick]
    clear hp
    have hx := padX_bd x
    have hy := padX_bd y
    have s1 := sinF_bd (f + 16384)
    have s2 := sinF_bd f
    have m1 := pmul_bd (f + 16384) y
    have m2 := pmul_bd f x
    have m3 := pmul_bd (f + 16384) x
    have m4 := pmul_bd f y
    unfold padS padC padD
    generalize lenF (padX x) (padX y) = L at *
    generalize mulF (sinF (f + 16384)) (padX y) = A at *
    generalize mulF (sinF f) (padX x) = B at *
    generalize mulF (sinF (f + 16384)) (padX x) = C at *
    generalize mulF (sinF f) (padX y) = D at *
    generalize padX x = X at *
    generalize padX y = Y at *
    generalize sinF (f + 16384) = U at *
    generalize sinF f = V at *
    rw [sat_in (A - B) (by omega), sat_in (C + D) (by omega)]
    rw [sat_in (-(C + D)) (by omega)]
    (repeat' (first | (refine And.intro ?_ ?_) | intro _))
    all_goals (try simp only [decide_eq_true_eq, decide_eq_false_iff_not, inR, klo, khi] at *)
    all_goals first
      | omega
      | (simp only [inR, klo, khi]; omega)
      | ((repeat' split) <;> omega)
  · cases h
noncomputable def Γ_Stick : List (FuncId × FX) := (8, c_Stick) :: Γ_stick
theorem ok_Stick : ΓOk Tryd.prog Γ_Stick := ΓOk.cons (c := .pure c_Stick) s_Stick ok_stick

noncomputable def c_rStick : FC := fun us => match us with
  | [.v (.one (.int .i64 _ x)), .v (.one (.int .i64 _ y)), .v (.one (.int .i64 _ f))] => some (none, .v (.one (.int .u8 false (padS x y f))))
  | _ => none
theorem nf_rStick (x : Int) (y : Int) (f : Int) : goal ⟨Mx, Tryd.prog, Γ_Stick, Δ0, B0, none, false, [], none⟩ noL 400 Tryd.f9 [.v (.one (.int .i64 false x)), .v (.one (.int .i64 false y)), .v (.one (.int .i64 false f))] [] (fun r _ => svLe idR r (.v (.one (.int .u8 false (padS x y f))))) = ((-127 : Int) ≤ (127 : Int) ∧ inR IntKind.i64 ((65536 : Int) * wi x (-127 : Int) (127 : Int)) ∧ inR IntKind.i32 ((65536 : Int) * wi x (-127 : Int) (127 : Int)) ∧ (-127 : Int) ≤ (127 : Int) ∧ inR IntKind.i64 ((65536 : Int) * wi y (-127 : Int) (127 : Int)) ∧ inR IntKind.i32 ((65536 : Int) * wi y (-127 : Int) (127 : Int)) ∧ (((-2147483648 : Int) ≤ (65536 : Int) * wi x (-127 : Int) (127 : Int) ∧ (65536 : Int) * wi x (-127 : Int) (127 : Int) ≤ (2147483647 : Int)) ∧ (-2147483648 : Int) ≤ (65536 : Int) * wi y (-127 : Int) (127 : Int) ∧ (65536 : Int) * wi y (-127 : Int) (127 : Int) ≤ (2147483647 : Int)) ∧ (decide (lenF ((65536 : Int) * wi x (-127 : Int) (127 : Int)) ((65536 : Int) * wi y (-127 : Int) (127 : Int)) ≤ (1572864 : Int)) = true → (0 : Int) = padS x y f) ∧ (decide (lenF ((65536 : Int) * wi x (-127 : Int) (127 : Int)) ((65536 : Int) * wi y (-127 : Int) (127 : Int)) ≤ (1572864 : Int)) = false → inR IntKind.i64 (f.tmod (65536 : Int) + (16384 : Int)) ∧ (((-2147483648 : Int) ≤ sinF (f.tmod (65536 : Int) + (16384 : Int)) ∧ sinF (f.tmod (65536 : Int) + (16384 : Int)) ≤ (2147483647 : Int)) ∧ (-2147483648 : Int) ≤ (65536 : Int) * wi y (-127 : Int) (127 : Int) ∧ (65536 : Int) * wi y (-127 : Int) (127 : Int) ≤ (2147483647 : Int)) ∧ (((-2147483648 : Int) ≤ sinF f ∧ sinF f ≤ (2147483647 : Int)) ∧ (-2147483648 : Int) ≤ (65536 : Int) * wi x (-127 : Int) (127 : Int) ∧ (65536 : Int) * wi x (-127 : Int) (127 : Int) ≤ (2147483647 : Int)) ∧ (((-2147483648 : Int) ≤ mulF (sinF (f.tmod (65536 : Int) + (16384 : Int))) ((65536 : Int) * wi y (-127 : Int) (127 : Int)) ∧ mulF (sinF (f.tmod (65536 : Int) + (16384 : Int))) ((65536 : Int) * wi y (-127 : Int) (127 : Int)) ≤ (2147483647 : Int)) ∧ (-2147483648 : Int) ≤ mulF (sinF f) ((65536 : Int) * wi x (-127 : Int) (127 : Int)) ∧ mulF (sinF f) ((65536 : Int) * wi x (-127 : Int) (127 : Int)) ≤ (2147483647 : Int)) ∧ inR IntKind.i64 (sat (mulF (sinF (f.tmod (65536 : Int) + (16384 : Int))) ((65536 : Int) * wi y (-127 : Int) (127 : Int)) - mulF (sinF f) ((65536 : Int) * wi x (-127 : Int) (127 : Int)))) ∧ (((-2147483648 : Int) ≤ sinF (f.tmod (65536 : Int) + (16384 : Int)) ∧ sinF (f.tmod (65536 : Int) + (16384 : Int)) ≤ (2147483647 : Int)) ∧ (-2147483648 : Int) ≤ (65536 : Int) * wi x (-127 : Int) (127 : Int) ∧ (65536 : Int) * wi x (-127 : Int) (127 : Int) ≤ (2147483647 : Int)) ∧ (((-2147483648 : Int) ≤ sinF f ∧ sinF f ≤ (2147483647 : Int)) ∧ (-2147483648 : Int) ≤ (65536 : Int) * wi y (-127 : Int) (127 : Int) ∧ (65536 : Int) * wi y (-127 : Int) (127 : Int) ≤ (2147483647 : Int)) ∧ (((-2147483648 : Int) ≤ mulF (sinF (f.tmod (65536 : Int) + (16384 : Int))) ((65536 : Int) * wi x (-127 : Int) (127 : Int)) ∧ mulF (sinF (f.tmod (65536 : Int) + (16384 : Int))) ((65536 : Int) * wi x (-127 : Int) (127 : Int)) ≤ (2147483647 : Int)) ∧ (-2147483648 : Int) ≤ mulF (sinF f) ((65536 : Int) * wi y (-127 : Int) (127 : Int)) ∧ mulF (sinF f) ((65536 : Int) * wi y (-127 : Int) (127 : Int)) ≤ (2147483647 : Int)) ∧ inR IntKind.i64 (sat (mulF (sinF (f.tmod (65536 : Int) + (16384 : Int))) ((65536 : Int) * wi x (-127 : Int) (127 : Int)) + mulF (sinF f) ((65536 : Int) * wi y (-127 : Int) (127 : Int)))) ∧ (decide (sat (mulF (sinF (f.tmod (65536 : Int) + (16384 : Int))) ((65536 : Int) * wi x (-127 : Int) (127 : Int)) + mulF (sinF f) ((65536 : Int) * wi y (-127 : Int) (127 : Int))) < (0 : Int)) = true → inR IntKind.i64 (-sat (mulF (sinF (f.tmod (65536 : Int) + (16384 : Int))) ((65536 : Int) * wi x (-127 : Int) (127 : Int)) + mulF (sinF f) ((65536 : Int) * wi y (-127 : Int) (127 : Int)))) ∧ inR IntKind.i64 ((-sat (mulF (sinF (f.tmod (65536 : Int) + (16384 : Int))) ((65536 : Int) * wi x (-127 : Int) (127 : Int)) + mulF (sinF f) ((65536 : Int) * wi y (-127 : Int) (127 : Int)))).tdiv (4 : Int)) ∧ inR IntKind.i64 (-(-sat (mulF (sinF (f.tmod (65536 : Int) + (16384 : Int))) ((65536 : Int) * wi x (-127 : Int) (127 : Int)) + mulF (sinF f) ((65536 : Int) * wi y (-127 : Int) (127 : Int)))).tdiv (4 : Int)) ∧ (decide (sat (mulF (sinF (f.tmod (65536 : Int) + (16384 : Int))) ((65536 : Int) * wi y (-127 : Int) (127 : Int)) - mulF (sinF f) ((65536 : Int) * wi x (-127 : Int) (127 : Int))) < -(-sat (mulF (sinF (f.tmod (65536 : Int) + (16384 : Int))) ((65536 : Int) * wi x (-127 : Int) (127 : Int)) + mulF (sinF f) ((65536 : Int) * wi y (-127 : Int) (127 : Int)))).tdiv (4 : Int)) = true → (decide ((0 : Int) < sat (mulF (sinF (f.tmod (65536 : Int) + (16384 : Int))) ((65536 : Int) * wi x (-127 : Int) (127 : Int)) + mulF (sinF f) ((65536 : Int) * wi y (-127 : Int) (127 : Int)))) = true → (5 : Int) = padS x y f) ∧ (decide ((0 : Int) < sat (mulF (sinF (f.tmod (65536 : Int) + (16384 : Int))) ((65536 : Int) * wi x (-127 : Int) (127 : Int)) + mulF (sinF f) ((65536 : Int) * wi y (-127 : Int) (127 : Int)))) = false → (1 : Int) = padS x y f)) ∧ (decide (sat (mulF (sinF (f.tmod (65536 : Int) + (16384 : Int))) ((65536 : Int) * wi y (-127 : Int) (127 : Int)) - mulF (sinF f) ((65536 : Int) * wi x (-127 : Int) (127 : Int))) < -(-sat (mulF (sinF (f.tmod (65536 : Int) + (16384 : Int))) ((65536 : Int) * wi x (-127 : Int) (127 : Int)) + mulF (sinF f) ((65536 : Int) * wi y (-127 : Int) (127 : Int)))).tdiv (4 : Int)) = false → (decide ((-sat (mulF (sinF (f.tmod (65536 : Int) + (16384 : Int))) ((65536 : Int) * wi x (-127 : Int) (127 : Int)) + mulF (sinF f) ((65536 : Int) * wi y (-127 : Int) (127 : Int)))).tdiv (4 : Int) < sat (mulF (sinF (f.tmod (65536 : Int) + (16384 : Int))) ((65536 : Int) * wi y (-127 : Int) (127 : Int)) - mulF (sinF f) ((65536 : Int) * wi x (-127 : Int) (127 : Int)))) = false → (decide (sat (mulF (sinF (f.tmod (65536 : Int) + (16384 : Int))) ((65536 : Int) * wi x (-127 : Int) (127 : Int)) + mulF (sinF f) ((65536 : Int) * wi y (-127 : Int) (127 : Int))) < (0 : Int)) = true → (decide ((0 : Int) < sat (mulF (sinF (f.tmod (65536 : Int) + (16384 : Int))) ((65536 : Int) * wi x (-127 : Int) (127 : Int)) + mulF (sinF f) ((65536 : Int) * wi y (-127 : Int) (127 : Int)))) = true → (6 : Int) = padS x y f) ∧ (decide ((0 : Int) < sat (mulF (sinF (f.tmod (65536 : Int) + (16384 : Int))) ((65536 : Int) * wi x (-127 : Int) (127 : Int)) + mulF (sinF f) ((65536 : Int) * wi y (-127 : Int) (127 : Int)))) = false → (2 : Int) = padS x y f)) ∧ (decide (sat (mulF (sinF (f.tmod (65536 : Int) + (16384 : Int))) ((65536 : Int) * wi x (-127 : Int) (127 : Int)) + mulF (sinF f) ((65536 : Int) * wi y (-127 : Int) (127 : Int))) < (0 : Int)) = false → (decide ((0 : Int) < sat (mulF (sinF (f.tmod (65536 : Int) + (16384 : Int))) ((65536 : Int) * wi x (-127 : Int) (127 : Int)) + mulF (sinF f) ((65536 : Int) * wi y (-127 : Int) (127 : Int)))) = true → (4 : Int) = padS x y f) ∧ (decide ((0 : Int) < sat (mulF (sinF (f.tmod (65536 : Int) + (16384 : Int))) ((65536 : Int) * wi x (-127 : Int) (127 : Int)) + mulF (sinF f) ((65536 : Int) * wi y (-127 : Int) (127 : Int)))) = false → (0 : Int) = padS x y f))) ∧ (decide ((-sat (mulF (sinF (f.tmod (65536 : Int) + (16384 : Int))) ((65536 : Int) * wi x (-127 : Int) (127 : Int)) + mulF (sinF f) ((65536 : Int) * wi y (-127 : Int) (127 : Int)))).tdiv (4 : Int) < sat (mulF (sinF (f.tmod (65536 : Int) + (16384 : Int))) ((65536 : Int) * wi y (-127 : Int) (127 : Int)) - mulF (sinF f) ((65536 : Int) * wi x (-127 : Int) (127 : Int)))) = true → (decide ((0 : Int) < sat (mulF (sinF (f.tmod (65536 : Int) + (16384 : Int))) ((65536 : Int) * wi x (-127 : Int) (127 : Int)) + mulF (sinF f) ((65536 : Int) * wi y (-127 : Int) (127 : Int)))) = true → (6 : Int) = padS x y f) ∧ (decide ((0 : Int) < sat (mulF (sinF (f.tmod (65536 : Int) + (16384 : Int))) ((65536 : Int) * wi x (-127 : Int) (127 : Int)) + mulF (sinF f) ((65536 : Int) * wi y (-127 : Int) (127 : Int)))) = false → (2 : Int) = padS x y f)))) ∧ (decide (sat (mulF (sinF (f.tmod (65536 : Int) + (16384 : Int))) ((65536 : Int) * wi x (-127 : Int) (127 : Int)) + mulF (sinF f) ((65536 : Int) * wi y (-127 : Int) (127 : Int))) < (0 : Int)) = false → inR IntKind.i64 ((sat (mulF (sinF (f.tmod (65536 : Int) + (16384 : Int))) ((65536 : Int) * wi x (-127 : Int) (127 : Int)) + mulF (sinF f) ((65536 : Int) * wi y (-127 : Int) (127 : Int)))).tdiv (4 : Int)) ∧ inR IntKind.i64 (-(sat (mulF (sinF (f.tmod (65536 : Int) + (16384 : Int))) ((65536 : Int) * wi x (-127 : Int) (127 : Int)) + mulF (sinF f) ((65536 : Int) * wi y (-127 : Int) (127 : Int)))).tdiv (4 : Int)) ∧ (decide (sat (mulF (sinF (f.tmod (65536 : Int) + (16384 : Int))) ((65536 : Int) * wi y (-127 : Int) (127 : Int)) - mulF (sinF f) ((65536 : Int) * wi x (-127 : Int) (127 : Int))) < -(sat (mulF (sinF (f.tmod (65536 : Int) + (16384 : Int))) ((65536 : Int) * wi x (-127 : Int) (127 : Int)) + mulF (sinF f) ((65536 : Int) * wi y (-127 : Int) (127 : Int)))).tdiv (4 : Int)) = true → (decide ((0 : Int) < sat (mulF (sinF (f.tmod (65536 : Int) + (16384 : Int))) ((65536 : Int) * wi x (-127 : Int) (127 : Int)) + mulF (sinF f) ((65536 : Int) * wi y (-127 : Int) (127 : Int)))) = true → (5 : Int) = padS x y f) ∧ (decide ((0 : Int) < sat (mulF (sinF (f.tmod (65536 : Int) + (16384 : Int))) ((65536 : Int) * wi x (-127 : Int) (127 : Int)) + mulF (sinF f) ((65536 : Int) * wi y (-127 : Int) (127 : Int)))) = false → (1 : Int) = padS x y f)) ∧ (decide (sat (mulF (sinF (f.tmod (65536 : Int) + (16384 : Int))) ((65536 : Int) * wi y (-127 : Int) (127 : Int)) - mulF (sinF f) ((65536 : Int) * wi x (-127 : Int) (127 : Int))) < -(sat (mulF (sinF (f.tmod (65536 : Int) + (16384 : Int))) ((65536 : Int) * wi x (-127 : Int) (127 : Int)) + mulF (sinF f) ((65536 : Int) * wi y (-127 : Int) (127 : Int)))).tdiv (4 : Int)) = false → (decide ((sat (mulF (sinF (f.tmod (65536 : Int) + (16384 : Int))) ((65536 : Int) * wi x (-127 : Int) (127 : Int)) + mulF (sinF f) ((65536 : Int) * wi y (-127 : Int) (127 : Int)))).tdiv (4 : Int) < sat (mulF (sinF (f.tmod (65536 : Int) + (16384 : Int))) ((65536 : Int) * wi y (-127 : Int) (127 : Int)) - mulF (sinF f) ((65536 : Int) * wi x (-127 : Int) (127 : Int)))) = false → (decide (sat (mulF (sinF (f.tmod (65536 : Int) + (16384 : Int))) ((65536 : Int) * wi x (-127 : Int) (127 : Int)) + mulF (sinF f) ((65536 : Int) * wi y (-127 : Int) (127 : Int))) < (0 : Int)) = true → (decide ((0 : Int) < sat (mulF (sinF (f.tmod (65536 : Int) + (16384 : Int))) ((65536 : Int) * wi x (-127 : Int) (127 : Int)) + mulF (sinF f) ((65536 : Int) * wi y (-127 : Int) (127 : Int)))) = true → (6 : Int) = padS x y f) ∧ (decide ((0 : Int) < sat (mulF (sinF (f.tmod (65536 : Int) + (16384 : Int))) ((65536 : Int) * wi x (-127 : Int) (127 : Int)) + mulF (sinF f) ((65536 : Int) * wi y (-127 : Int) (127 : Int)))) = false → (2 : Int) = padS x y f)) ∧ (decide (sat (mulF (sinF (f.tmod (65536 : Int) + (16384 : Int))) ((65536 : Int) * wi x (-127 : Int) (127 : Int)) + mulF (sinF f) ((65536 : Int) * wi y (-127 : Int) (127 : Int))) < (0 : Int)) = false → (decide ((0 : Int) < sat (mulF (sinF (f.tmod (65536 : Int) + (16384 : Int))) ((65536 : Int) * wi x (-127 : Int) (127 : Int)) + mulF (sinF f) ((65536 : Int) * wi y (-127 : Int) (127 : Int)))) = true → (4 : Int) = padS x y f) ∧ (decide ((0 : Int) < sat (mulF (sinF (f.tmod (65536 : Int) + (16384 : Int))) ((65536 : Int) * wi x (-127 : Int) (127 : Int)) + mulF (sinF f) ((65536 : Int) * wi y (-127 : Int) (127 : Int)))) = false → (0 : Int) = padS x y f))) ∧ (decide ((sat (mulF (sinF (f.tmod (65536 : Int) + (16384 : Int))) ((65536 : Int) * wi x (-127 : Int) (127 : Int)) + mulF (sinF f) ((65536 : Int) * wi y (-127 : Int) (127 : Int)))).tdiv (4 : Int) < sat (mulF (sinF (f.tmod (65536 : Int) + (16384 : Int))) ((65536 : Int) * wi y (-127 : Int) (127 : Int)) - mulF (sinF f) ((65536 : Int) * wi x (-127 : Int) (127 : Int)))) = true → (decide ((0 : Int) < sat (mulF (sinF (f.tmod (65536 : Int) + (16384 : Int))) ((65536 : Int) * wi x (-127 : Int) (127 : Int)) + mulF (sinF f) ((65536 : Int) * wi y (-127 : Int) (127 : Int)))) = true → (6 : Int) = padS x y f) ∧ (decide ((0 : Int) < sat (mulF (sinF (f.tmod (65536 : Int) + (16384 : Int))) ((65536 : Int) * wi x (-127 : Int) (127 : Int)) + mulF (sinF f) ((65536 : Int) * wi y (-127 : Int) (127 : Int)))) = false → (2 : Int) = padS x y f)))))) := by kernel_rfl
theorem s_rStick : FSound Tryd.prog 9 c_rStick := by
  refine fsound_of (Ctx.ok_of2 (M := Mx) (N := []) mixedA ok_Stick okD0 okB0) Tryd.func9 (by kernel_rfl) (by kernel_rfl) ?_
  intro us p v h hp
  unfold c_rStick at h
  split at h
  · rename_i k0 x k1 y k2 f
    cases h
    refine ⟨rfl, noL, 400, [.v (.one (.int .i64 false x)), .v (.one (.int .i64 false y)), .v (.one (.int .i64 false f))], by simp [tmLe, svLe, vLe, lfLe, lfsLe, ifB, nmIs, idR], rfl, ?_⟩
    rw [nf_rStick]
    clear hp
    have px : 65536 * wi x (-127) 127 = padX x := rfl
    have py : 65536 * wi y (-127) 127 = padX y := rfl
    have t1 := Int.tmod_lt_of_pos f (b := 65536) (by decide)
    have t2 := Int.lt_tmod_of_pos f (b := 65536) (by decide)
    rw [px, py, sinF_tmod]
    generalize f.tmod 65536 = g at *
    have hx := padX_bd x
    have hy := padX_bd y
    have s1 := sinF_bd (f + 16384)
    have s2 := sinF_bd f
    have m1 := pmul_bd (f + 16384) y
    have m2 := pmul_bd f x
    have m3 := pmul_bd (f + 16384) x
    have m4 := pmul_bd f y
    unfold padS padC padD
    generalize lenF (padX x) (padX y) = L at *
    generalize mulF (sinF (f + 16384)) (padX y) = A at *
    generalize mulF (sinF f) (padX x) = B at *
    generalize mulF (sinF (f + 16384)) (padX x) = C at *
    generalize mulF (sinF f) (padX y) = D at *
    generalize padX x = X at *
    generalize padX y = Y at *
    generalize sinF (f + 16384) = U at *
    generalize sinF f = V at *
    rw [sat_in (A - B) (by omega), sat_in (C + D) (by omega)]
    have q1 : C + D < 0 → (-(C + D)).tdiv 4 = -(C + D) / 4 := fun h => Int.tdiv_eq_ediv_of_nonneg (by omega)
    have q2 : 0 ≤ C + D → (C + D).tdiv 4 = (C + D) / 4 := fun h => Int.tdiv_eq_ediv_of_nonneg h
    generalize (-(C + D)).tdiv 4 = Q1 at *
    generalize (C + D).tdiv 4 = Q2 at *
    (repeat' (first | (refine And.intro ?_ ?_) | intro _))
    all_goals (try simp only [decide_eq_true_eq, decide_eq_false_iff_not, inR, klo, khi] at *)
    all_goals first
      | omega
      | (simp only [inR, klo, khi]; omega)
      | ((repeat' split) <;> omega)
  · cases h
noncomputable def Γ_rStick : List (FuncId × FX) := (9, c_rStick) :: Γ_Stick
theorem ok_rStick : ΓOk Tryd.prog Γ_rStick := ΓOk.cons (c := .pure c_rStick) s_rStick ok_Stick

end Go.Proofs.YtdemgianfkafjaaDoor
