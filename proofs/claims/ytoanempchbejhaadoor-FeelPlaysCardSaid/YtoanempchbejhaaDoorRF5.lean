/- SPARKS: ONE OF THEM; WHAT IS OVER. Conditions: the contracts' own. Own work; the normal forms were printed by a program of mine (wip/rex). -/
import Derived.Test.YtoanempchbejhaaDoorRF4
import Derived.Test.YtoanempchbejhaaDoorFixed2
import Derived.Test.YtoanempchbejhaaDoorTrig2
namespace Go.Proofs.YtoanempchbejhaaDoor
open Go.RowKit Rex
set_option linter.unusedVariables false
set_option linter.unusedSimpArgs false
set_option maxRecDepth 100000


def overF (fm sk fr t : Int) : Bool := decide (fm ≤ t - fr ∧ (sk = 0 ∨ 15 ≤ t - fr))


noncomputable def c_mul : FC := fun us => match us with
  | [.v (.one (.int .i32 _ a)), .v (.one (.int .i32 _ b))] => some (some ((-2147483648 ≤ a ∧ a ≤ 2147483647) ∧ (-2147483648 ≤ b ∧ b ≤ 2147483647)), .v (.one (.int .i32 false (mulF a b))))
  | _ => none
theorem s_mul : FSound Tryd.prog 53 c_mul := by
  refine fsound_calls Tryd.func53 (by kernel_rfl) (by kernel_rfl) ?_
  intro us p v h hp
  unfold c_mul at h
  split at h
  · rename_i k0 a k1 b
    cases h
    have hp : (-2147483648 ≤ a ∧ a ≤ 2147483647) ∧ (-2147483648 ≤ b ∧ b ≤ 2147483647) := hp
    exact ⟨[.int .i32 a, .int .i32 b], .int .i32 (mulF a b), rfl, rfl, fun w => same_ext (mul_any a b w hp.1 hp.2)⟩
  · cases h
noncomputable def Γ_mul : List (FuncId × FX) := (53, c_mul) :: Γ_awake
theorem ok_mul : ΓOk Tryd.prog Γ_mul := ΓOk.cons (c := .pure c_mul) s_mul ok_awake

noncomputable def c_add : FC := fun us => match us with
  | [.v (.one (.int .i32 _ a)), .v (.one (.int .i32 _ b))] => some (some ((-2147483648 ≤ a ∧ a ≤ 2147483647) ∧ (-2147483648 ≤ b ∧ b ≤ 2147483647)), .v (.one (.int .i32 false (sat (a + b)))))
  | _ => none
theorem s_add : FSound Tryd.prog 52 c_add := by
  refine fsound_calls Tryd.func52 (by kernel_rfl) (by kernel_rfl) ?_
  intro us p v h hp
  unfold c_add at h
  split at h
  · rename_i k0 a k1 b
    cases h
    have hp : (-2147483648 ≤ a ∧ a ≤ 2147483647) ∧ (-2147483648 ≤ b ∧ b ≤ 2147483647) := hp
    exact ⟨[.int .i32 a, .int .i32 b], .int .i32 (sat (a + b)), rfl, rfl, fun w => same_ext (add_any a b w hp.1 hp.2)⟩
  · cases h
noncomputable def Γ_add : List (FuncId × FX) := (52, c_add) :: Γ_mul
theorem ok_add : ΓOk Tryd.prog Γ_add := ΓOk.cons (c := .pure c_add) s_add ok_mul

noncomputable def c_cos : FC := fun us => match us with
  | [.v (.one (.int .i64 _ a))] => some (none, .v (.one (.int .i32 false (sinF (a + 16384)))))
  | _ => none
theorem s_cos : FSound Tryd.prog 42 c_cos := by
  refine fsound_calls Tryd.func42 (by kernel_rfl) (by kernel_rfl) ?_
  intro us p v h hp
  unfold c_cos at h
  split at h
  · rename_i k0 a
    cases h
    exact ⟨[.int .i64 a], .int .i32 (sinF (a + 16384)), rfl, rfl, fun w => same_ext (cos_any a w)⟩
  · cases h
noncomputable def Γ_cos : List (FuncId × FX) := (42, c_cos) :: Γ_add
theorem ok_cos : ΓOk Tryd.prog Γ_cos := ΓOk.cons (c := .pure c_cos) s_cos ok_add

noncomputable def c_sin : FC := fun us => match us with
  | [.v (.one (.int .i64 _ a))] => some (none, .v (.one (.int .i32 false (sinF a))))
  | _ => none
theorem s_sin : FSound Tryd.prog 43 c_sin := by
  refine fsound_calls Tryd.func43 (by kernel_rfl) (by kernel_rfl) ?_
  intro us p v h hp
  unfold c_sin at h
  split at h
  · rename_i k0 a
    cases h
    exact ⟨[.int .i64 a], .int .i32 (sinF a), rfl, rfl, fun w => same_ext (sin_any a w)⟩
  · cases h
noncomputable def Γ_sin : List (FuncId × FX) := (43, c_sin) :: Γ_cos
theorem ok_sin : ΓOk Tryd.prog Γ_sin := ΓOk.cons (c := .pure c_sin) s_sin ok_cos

noncomputable def c_rsin : FC := fun us => match us with
  | [.v (.one (.int .i64 _ a))] => some (none, .v (.one (.int .i32 false (sinF a))))
  | _ => none
theorem s_rsin : FSound Tryd.prog 35 c_rsin := by
  refine fsound_calls Tryd.func35 (by kernel_rfl) (by kernel_rfl) ?_
  intro us p v h hp
  unfold c_rsin at h
  split at h
  · rename_i k0 a
    cases h
    exact ⟨[.int .i64 a], .int .i32 (sinF a), rfl, rfl, fun w => same_ext (rsin_any a w)⟩
  · cases h
noncomputable def Γ_rsin : List (FuncId × FX) := (35, c_rsin) :: Γ_sin
theorem ok_rsin : ΓOk Tryd.prog Γ_rsin := ΓOk.cons (c := .pure c_rsin) s_rsin ok_sin

noncomputable def c_rmul : FC := fun us => match us with
  | [.v (.one (.int .i32 _ a)), .v (.one (.int .i32 _ b))] => some (some ((-2147483648 ≤ a ∧ a ≤ 2147483647) ∧ (-2147483648 ≤ b ∧ b ≤ 2147483647)), .v (.one (.int .i32 false (mulF a b))))
  | _ => none
theorem s_rmul : FSound Tryd.prog 47 c_rmul := by
  refine fsound_calls Tryd.func47 (by kernel_rfl) (by kernel_rfl) ?_
  intro us p v h hp
  unfold c_rmul at h
  split at h
  · rename_i k0 a k1 b
    cases h
    have hp : (-2147483648 ≤ a ∧ a ≤ 2147483647) ∧ (-2147483648 ≤ b ∧ b ≤ 2147483647) := hp
    exact ⟨[.int .i32 a, .int .i32 b], .int .i32 (mulF a b), rfl, rfl, fun w => same_ext (rmul_any a b w hp.1 hp.2)⟩
  · cases h
noncomputable def Γ_rmul : List (FuncId × FX) := (47, c_rmul) :: Γ_rsin
theorem ok_rmul : ΓOk Tryd.prog Γ_rmul := ΓOk.cons (c := .pure c_rmul) s_rmul ok_rsin

noncomputable def c_rsat : FC := fun us => match us with
  | [.v (.one (.int .i64 _ a))] => some (none, .v (.one (.int .i32 false (sat a))))
  | _ => none
theorem s_rsat : FSound Tryd.prog 54 c_rsat := by
  refine fsound_calls Tryd.func54 (by kernel_rfl) (by kernel_rfl) ?_
  intro us p v h hp
  unfold c_rsat at h
  split at h
  · rename_i k0 a
    cases h
    exact ⟨[.int .i64 a], .int .i32 (sat a), rfl, rfl, fun w => same_ext (rsat_any a w)⟩
  · cases h
noncomputable def Γ_rsat : List (FuncId × FX) := (54, c_rsat) :: Γ_rmul
theorem ok_rsat : ΓOk Tryd.prog Γ_rsat := ΓOk.cons (c := .pure c_rsat) s_rsat ok_rmul

noncomputable def c_radd : FC := fun us => match us with
  | [.v (.one (.int .i32 _ a)), .v (.one (.int .i32 _ b))] => some (some ((-2147483648 ≤ a ∧ a ≤ 2147483647) ∧ (-2147483648 ≤ b ∧ b ≤ 2147483647)), .v (.one (.int .i32 false (sat (a + b)))))
  | _ => none
theorem nf_radd (a : Int) (b : Int) : goal ⟨Mx, Tryd.prog, Γ_rsat, Δ_Start, B0, none, false, [], none⟩ noL 400 Tryd.f48 [.v (.one (.int .i32 false a)), .v (.one (.int .i32 false b))] [] (fun r _ => svLe idR r (.v (.one (.int .i32 false (sat (a + b)))))) = (inR IntKind.i64 a ∧ inR IntKind.i64 b ∧ inR IntKind.i64 (a + b) ∧ sat (a + b) = sat (a + b)) := by kernel_rfl
theorem s_radd : FSound Tryd.prog 48 c_radd := by
  refine fsound_of (Ctx.ok_of2 (M := Mx) (N := []) mixedA ok_rsat okD_Start okB0) Tryd.func48 (by kernel_rfl) (by kernel_rfl) ?_
  intro us p v h hp
  unfold c_radd at h
  split at h
  · rename_i k0 a k1 b
    cases h
    have hp : (-2147483648 ≤ a ∧ a ≤ 2147483647) ∧ (-2147483648 ≤ b ∧ b ≤ 2147483647) := hp
    refine ⟨rfl, noL, 400, [.v (.one (.int .i32 false a)), .v (.one (.int .i32 false b))], by simp [tmLe, svLe, vLe, lfLe, lfsLe, ifB, nmIs, idR], rfl, ?_⟩
    rw [nf_radd]
    (repeat' (first | (refine And.intro ?_ ?_) | intro _))
    all_goals first | exact True.intro | rfl | omega | assumption | (simp only [inR, klo, khi]; omega)
  · cases h
noncomputable def Γ_radd : List (FuncId × FX) := (48, c_radd) :: Γ_rsat
theorem ok_radd : ΓOk Tryd.prog Γ_radd := ΓOk.cons (c := .pure c_radd) s_radd ok_rsat

noncomputable def c_sadd : FC := fun us => match us with
  | [.v (.agg [.int .i32 _ ax, .int .i32 _ ay]), .v (.agg [.int .i32 _ bx, .int .i32 _ by_])] => some (some ((-2147483648 ≤ ax ∧ ax ≤ 2147483647) ∧ (-2147483648 ≤ ay ∧ ay ≤ 2147483647) ∧ (-2147483648 ≤ bx ∧ bx ≤ 2147483647) ∧ (-2147483648 ≤ by_ ∧ by_ ≤ 2147483647)), .v (.agg [.int .i32 false (sat (ax + bx)), .int .i32 false (sat (ay + by_))]))
  | _ => none
theorem nf_sadd (ax : Int) (ay : Int) (bx : Int) (by_ : Int) : goal ⟨Mx, Tryd.prog, Γ_radd, Δ_Start, B0, none, false, [51], none⟩ noL 400 Tryd.f44 [.v (.agg [.int .i32 false ax, .int .i32 false ay]), .v (.agg [.int .i32 false bx, .int .i32 false by_])] [] (fun r _ => svLe idR r (.v (.agg [.int .i32 false (sat (ax + bx)), .int .i32 false (sat (ay + by_))]))) = ((((-2147483648 : Int) ≤ ax ∧ ax ≤ (2147483647 : Int)) ∧ (-2147483648 : Int) ≤ bx ∧ bx ≤ (2147483647 : Int)) ∧ (((-2147483648 : Int) ≤ ay ∧ ay ≤ (2147483647 : Int)) ∧ (-2147483648 : Int) ≤ by_ ∧ by_ ≤ (2147483647 : Int)) ∧ sat (ax + bx) = sat (ax + bx) ∧ sat (ay + by_) = sat (ay + by_)) := by kernel_rfl
theorem s_sadd : FSound Tryd.prog 44 c_sadd := by
  refine fsound_of (Ctx.ok_of2 (M := Mx) (N := [51]) mixedA ok_radd okD_Start okB0) Tryd.func44 (by kernel_rfl) (by kernel_rfl) ?_
  intro us p v h hp
  unfold c_sadd at h
  split at h
  · rename_i k0 ax k1 ay k2 bx k3 by_
    cases h
    have hp : (-2147483648 ≤ ax ∧ ax ≤ 2147483647) ∧ (-2147483648 ≤ ay ∧ ay ≤ 2147483647) ∧ (-2147483648 ≤ bx ∧ bx ≤ 2147483647) ∧ (-2147483648 ≤ by_ ∧ by_ ≤ 2147483647) := hp
    refine ⟨rfl, noL, 400, [.v (.agg [.int .i32 false ax, .int .i32 false ay]), .v (.agg [.int .i32 false bx, .int .i32 false by_])], by simp [tmLe, svLe, vLe, lfLe, lfsLe, ifB, nmIs, idR], rfl, ?_⟩
    rw [nf_sadd]
    (repeat' (first | (refine And.intro ?_ ?_) | intro _))
    all_goals first | exact True.intro | rfl | omega | assumption | (simp only [inR, klo, khi]; omega)
  · cases h
noncomputable def Γ_sadd : List (FuncId × FX) := (44, c_sadd) :: Γ_radd
theorem ok_sadd : ΓOk Tryd.prog Γ_sadd := ΓOk.cons (c := .pure c_sadd) s_sadd ok_radd

noncomputable def c_sscale : FC := fun us => match us with
  | [.v (.agg [.int .i32 _ ax, .int .i32 _ ay]), .v (.one (.int .i32 _ k))] => some (some ((-2147483648 ≤ ax ∧ ax ≤ 2147483647) ∧ (-2147483648 ≤ ay ∧ ay ≤ 2147483647) ∧ (-2147483648 ≤ k ∧ k ≤ 2147483647)), .v (.agg [.int .i32 false (mulF ax k), .int .i32 false (mulF ay k)]))
  | _ => none
theorem nf_sscale (ax : Int) (ay : Int) (k : Int) : goal ⟨Mx, Tryd.prog, Γ_sadd, Δ_Start, B0, none, false, [51], none⟩ noL 400 Tryd.f45 [.v (.agg [.int .i32 false ax, .int .i32 false ay]), .v (.one (.int .i32 false k))] [] (fun r _ => svLe idR r (.v (.agg [.int .i32 false (mulF ax k), .int .i32 false (mulF ay k)]))) = ((((-2147483648 : Int) ≤ ax ∧ ax ≤ (2147483647 : Int)) ∧ (-2147483648 : Int) ≤ k ∧ k ≤ (2147483647 : Int)) ∧ (((-2147483648 : Int) ≤ ay ∧ ay ≤ (2147483647 : Int)) ∧ (-2147483648 : Int) ≤ k ∧ k ≤ (2147483647 : Int)) ∧ mulF ax k = mulF ax k ∧ mulF ay k = mulF ay k) := by kernel_rfl
theorem s_sscale : FSound Tryd.prog 45 c_sscale := by
  refine fsound_of (Ctx.ok_of2 (M := Mx) (N := [51]) mixedA ok_sadd okD_Start okB0) Tryd.func45 (by kernel_rfl) (by kernel_rfl) ?_
  intro us p v h hp
  unfold c_sscale at h
  split at h
  · rename_i k0 ax k1 ay k2 k
    cases h
    have hp : (-2147483648 ≤ ax ∧ ax ≤ 2147483647) ∧ (-2147483648 ≤ ay ∧ ay ≤ 2147483647) ∧ (-2147483648 ≤ k ∧ k ≤ 2147483647) := hp
    refine ⟨rfl, noL, 400, [.v (.agg [.int .i32 false ax, .int .i32 false ay]), .v (.one (.int .i32 false k))], by simp [tmLe, svLe, vLe, lfLe, lfsLe, ifB, nmIs, idR], rfl, ?_⟩
    rw [nf_sscale]
    (repeat' (first | (refine And.intro ?_ ?_) | intro _))
    all_goals first | exact True.intro | rfl | omega | assumption | (simp only [inR, klo, khi]; omega)
  · cases h
noncomputable def Γ_sscale : List (FuncId × FX) := (45, c_sscale) :: Γ_sadd
theorem ok_sscale : ΓOk Tryd.prog Γ_sscale := ΓOk.cons (c := .pure c_sscale) s_sscale ok_sadd

noncomputable def c_rplus : FC := fun us => match us with
  | [.v (.agg [.int .i32 _ ax, .int .i32 _ ay]), .v (.agg [.int .i32 _ bx, .int .i32 _ by_])] => some (some ((-2147483648 ≤ ax ∧ ax ≤ 2147483647) ∧ (-2147483648 ≤ ay ∧ ay ≤ 2147483647) ∧ (-2147483648 ≤ bx ∧ bx ≤ 2147483647) ∧ (-2147483648 ≤ by_ ∧ by_ ≤ 2147483647)), .v (.agg [.int .i32 false (sat (ax + bx)), .int .i32 false (sat (ay + by_))]))
  | _ => none
theorem nf_rplus (ax : Int) (ay : Int) (bx : Int) (by_ : Int) : goal ⟨Mx, Tryd.prog, Γ_sscale, Δ_Start, B0, none, false, [], none⟩ noL 400 Tryd.f36 [.v (.agg [.int .i32 false ax, .int .i32 false ay]), .v (.agg [.int .i32 false bx, .int .i32 false by_])] [] (fun r _ => svLe idR r (.v (.agg [.int .i32 false (sat (ax + bx)), .int .i32 false (sat (ay + by_))]))) = ((((-2147483648 : Int) ≤ ax ∧ ax ≤ (2147483647 : Int)) ∧ (-2147483648 : Int) ≤ bx ∧ bx ≤ (2147483647 : Int)) ∧ (((-2147483648 : Int) ≤ ay ∧ ay ≤ (2147483647 : Int)) ∧ (-2147483648 : Int) ≤ by_ ∧ by_ ≤ (2147483647 : Int)) ∧ sat (ax + bx) = sat (ax + bx) ∧ sat (ay + by_) = sat (ay + by_)) := by kernel_rfl
theorem s_rplus : FSound Tryd.prog 36 c_rplus := by
  refine fsound_of (Ctx.ok_of2 (M := Mx) (N := []) mixedA ok_sscale okD_Start okB0) Tryd.func36 (by kernel_rfl) (by kernel_rfl) ?_
  intro us p v h hp
  unfold c_rplus at h
  split at h
  · rename_i k0 ax k1 ay k2 bx k3 by_
    cases h
    have hp : (-2147483648 ≤ ax ∧ ax ≤ 2147483647) ∧ (-2147483648 ≤ ay ∧ ay ≤ 2147483647) ∧ (-2147483648 ≤ bx ∧ bx ≤ 2147483647) ∧ (-2147483648 ≤ by_ ∧ by_ ≤ 2147483647) := hp
    refine ⟨rfl, noL, 400, [.v (.agg [.int .i32 false ax, .int .i32 false ay]), .v (.agg [.int .i32 false bx, .int .i32 false by_])], by simp [tmLe, svLe, vLe, lfLe, lfsLe, ifB, nmIs, idR], rfl, ?_⟩
    rw [nf_rplus]
    (repeat' (first | (refine And.intro ?_ ?_) | intro _))
    all_goals first | exact True.intro | rfl | omega | assumption | (simp only [inR, klo, khi]; omega)
  · cases h
noncomputable def Γ_rplus : List (FuncId × FX) := (36, c_rplus) :: Γ_sscale
theorem ok_rplus : ΓOk Tryd.prog Γ_rplus := ΓOk.cons (c := .pure c_rplus) s_rplus ok_sscale

noncomputable def c_rscale : FC := fun us => match us with
  | [.v (.agg [.int .i32 _ ax, .int .i32 _ ay]), .v (.one (.int .i32 _ k))] => some (some ((-2147483648 ≤ ax ∧ ax ≤ 2147483647) ∧ (-2147483648 ≤ ay ∧ ay ≤ 2147483647) ∧ (-2147483648 ≤ k ∧ k ≤ 2147483647)), .v (.agg [.int .i32 false (mulF ax k), .int .i32 false (mulF ay k)]))
  | _ => none
theorem nf_rscale (ax : Int) (ay : Int) (k : Int) : goal ⟨Mx, Tryd.prog, Γ_rplus, Δ_Start, B0, none, false, [], none⟩ noL 400 Tryd.f34 [.v (.agg [.int .i32 false ax, .int .i32 false ay]), .v (.one (.int .i32 false k))] [] (fun r _ => svLe idR r (.v (.agg [.int .i32 false (mulF ax k), .int .i32 false (mulF ay k)]))) = ((((-2147483648 : Int) ≤ ax ∧ ax ≤ (2147483647 : Int)) ∧ (-2147483648 : Int) ≤ k ∧ k ≤ (2147483647 : Int)) ∧ (((-2147483648 : Int) ≤ ay ∧ ay ≤ (2147483647 : Int)) ∧ (-2147483648 : Int) ≤ k ∧ k ≤ (2147483647 : Int)) ∧ mulF ax k = mulF ax k ∧ mulF ay k = mulF ay k) := by kernel_rfl
theorem s_rscale : FSound Tryd.prog 34 c_rscale := by
  refine fsound_of (Ctx.ok_of2 (M := Mx) (N := []) mixedA ok_rplus okD_Start okB0) Tryd.func34 (by kernel_rfl) (by kernel_rfl) ?_
  intro us p v h hp
  unfold c_rscale at h
  split at h
  · rename_i k0 ax k1 ay k2 k
    cases h
    have hp : (-2147483648 ≤ ax ∧ ax ≤ 2147483647) ∧ (-2147483648 ≤ ay ∧ ay ≤ 2147483647) ∧ (-2147483648 ≤ k ∧ k ≤ 2147483647) := hp
    refine ⟨rfl, noL, 400, [.v (.agg [.int .i32 false ax, .int .i32 false ay]), .v (.one (.int .i32 false k))], by simp [tmLe, svLe, vLe, lfLe, lfsLe, ifB, nmIs, idR], rfl, ?_⟩
    rw [nf_rscale]
    (repeat' (first | (refine And.intro ?_ ?_) | intro _))
    all_goals first | exact True.intro | rfl | omega | assumption | (simp only [inR, klo, khi]; omega)
  · cases h
noncomputable def Γ_rscale : List (FuncId × FX) := (34, c_rscale) :: Γ_rplus
theorem ok_rscale : ΓOk Tryd.prog Γ_rscale := ΓOk.cons (c := .pure c_rscale) s_rscale ok_rplus

noncomputable def c_over : FC := fun us => match us with
  | [.v (.agg [.int .i64 _ lo, .int .i64 _ hi, .int .i64 _ fm, .int .i64 _ sk, .int .i64 _ fr, .int .i64 _ em, .int .i64 _ ki, .int .i64 _ od, .int .i32 _ px, .int .i32 _ py]), .v (.one (.int .i64 _ t))] => some (some ((-1099511627776 ≤ fr ∧ fr ≤ 1099511627776) ∧ (-1099511627776 ≤ t ∧ t ≤ 1099511627776)), .v (.one (.bool false (overF fm sk fr t))))
  | _ => none
theorem nf_over (lo : Int) (hi : Int) (fm : Int) (sk : Int) (fr : Int) (em : Int) (ki : Int) (od : Int) (px : Int) (py : Int) (t : Int) : goal ⟨Mx, Tryd.prog, Γ_rscale, Δ_Start, B0, none, false, [], none⟩ noL 400 Tryd.f30 [.v (.agg [.int .i64 false lo, .int .i64 false hi, .int .i64 false fm, .int .i64 false sk, .int .i64 false fr, .int .i64 false em, .int .i64 false ki, .int .i64 false od, .int .i32 false px, .int .i32 false py]), .v (.one (.int .i64 false t))] [] (fun r _ => svLe idR r (.v (.one (.bool false (overF fm sk fr t))))) = (inR IntKind.i64 (t - fr) ∧ (decide (fm ≤ t - fr) = true → ((sk == (0 : Int)) = false → decide ((15 : Int) ≤ t - fr) = overF fm sk fr t) ∧ ((sk == (0 : Int)) = true → true = overF fm sk fr t)) ∧ (decide (fm ≤ t - fr) = false → false = overF fm sk fr t)) := by kernel_rfl
theorem s_over : FSound Tryd.prog 30 c_over := by
  refine fsound_of (Ctx.ok_of2 (M := Mx) (N := []) mixedA ok_rscale okD_Start okB0) Tryd.func30 (by kernel_rfl) (by kernel_rfl) ?_
  intro us p v h hp
  unfold c_over at h
  split at h
  · rename_i k0 lo k1 hi k2 fm k3 sk k4 fr k5 em k6 ki k7 od k8 px k9 py k10 t
    cases h
    have hp : (-1099511627776 ≤ fr ∧ fr ≤ 1099511627776) ∧ (-1099511627776 ≤ t ∧ t ≤ 1099511627776) := hp
    refine ⟨rfl, noL, 400, [.v (.agg [.int .i64 false lo, .int .i64 false hi, .int .i64 false fm, .int .i64 false sk, .int .i64 false fr, .int .i64 false em, .int .i64 false ki, .int .i64 false od, .int .i32 false px, .int .i32 false py]), .v (.one (.int .i64 false t))], by simp [tmLe, svLe, vLe, lfLe, lfsLe, ifB, nmIs, idR], rfl, ?_⟩
    rw [nf_over]
    refine ⟨by simp only [inR, klo, khi]; omega, fun h => ⟨fun h2 => ?_, fun h2 => ?_⟩, fun h => ?_⟩
    all_goals simp only [decide_eq_true_eq, decide_eq_false_iff_not, beq_iff_eq, beq_eq_false_iff_ne, ne_eq] at *
    · exact decide_eq_decide.2 (by omega)
    · exact (decide_eq_true (by omega)).symm
    · exact (decide_eq_false (by omega)).symm
  · cases h
noncomputable def Γ_over : List (FuncId × FX) := (30, c_over) :: Γ_rscale
theorem ok_over : ΓOk Tryd.prog Γ_over := ΓOk.cons (c := .pure c_over) s_over ok_rscale

end Go.Proofs.YtoanempchbejhaaDoor
