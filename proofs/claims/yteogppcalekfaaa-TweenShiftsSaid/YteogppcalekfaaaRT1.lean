/- TWEEN: CONTRACTS; 'TweenShifts'. Conditions: the contracts' own. Own work; the normal forms were printed by a program of mine (wip/rex). -/
import Derived.Test.YteogppcalekfaaaR0
import Derived.Test.YteogppcalekfaaaFixed2
import Derived.Test.YteogppcalekfaaaShape3
namespace Go.Proofs.Yteogppcalekfaaa
open Go.RowKit Rex
set_option linter.unusedVariables false
set_option linter.unusedSimpArgs false
set_option maxRecDepth 100000


def wayB (n o : Int) : Bool := decide (1 ≤ o) && (decide (o ≤ 65536) && (decide (0 ≤ n) && decide (n ≤ o)))
def smallB (x y : Int) : Bool := decide (x < 1073741824) && (decide (-1073741824 < x) && (decide (y < 1073741824) && decide (-1073741824 < y)))
theorem small_iff {x y : Int} : smallB x y = true ↔ (-1073741824 < x ∧ x < 1073741824) ∧ -1073741824 < y ∧ y < 1073741824 := by
  unfold smallB; simp only [Bool.and_eq_true, decide_eq_true_eq]; omega
def byF (f t : Int) : Int := (t % 65536 - f % 65536 + 32768) % 65536 - 32768
def angF (f t n o : Int) : Int := (f % 65536 + lerpF 0 (byF f t) n o) % 65536
theorem way_iff {n o : Int} : wayB n o = true ↔ (1 ≤ o ∧ o ≤ 65536) ∧ 0 ≤ n ∧ n ≤ o := by
  unfold wayB; simp only [Bool.and_eq_true, decide_eq_true_eq]; omega
theorem and_mask (a : Int) : ((BitVec.ofInt 64 a &&& BitVec.ofInt 64 65535).toNat : Int) = a % 65536 := by
  rw [BitVec.toNat_and, BitVec.toNat_ofInt, BitVec.toNat_ofInt, show ((65535 : Int) % ((2 ^ 64 : Nat) : Int)).toNat = 2 ^ 16 - 1 from rfl, Nat.and_two_pow_sub_one_eq_mod]
  omega
theorem wrap_mask (a : Int) : IntKind.i64.wrap ((BitVec.ofInt 64 a &&& BitVec.ofInt 64 65535).toNat : Int) = a % 65536 := by
  rw [and_mask, wrap_in]
  simp only [inR, klo, khi]; omega


noncomputable def c_lerp : FC := fun us => match us with
  | [.v (.one (.int .i32 _ a)), .v (.one (.int .i32 _ b)), .v (.one (.int .i64 _ n)), .v (.one (.int .i64 _ o))] => some (some ((-2147483648 ≤ a ∧ a ≤ 2147483647) ∧ (-2147483648 ≤ b ∧ b ≤ 2147483647) ∧ (1 ≤ o ∧ o ≤ 65536) ∧ (0 ≤ n ∧ n ≤ o)), .tup [.one (.int .i32 false (lerpF a b n o)), .one (.int .i64 false (0))])
  | _ => none
theorem s_lerp : FSound Try.prog 109 c_lerp := by
  refine fsound_calls Try.func109 (by kernel_rfl) (by kernel_rfl) ?_
  intro us p v h hp
  unfold c_lerp at h
  split at h
  · rename_i k0 a k1 b k2 n k3 o
    cases h
    have hp : (-2147483648 ≤ a ∧ a ≤ 2147483647) ∧ (-2147483648 ≤ b ∧ b ≤ 2147483647) ∧ (1 ≤ o ∧ o ≤ 65536) ∧ (0 ≤ n ∧ n ≤ o) := hp
    exact ⟨[.int .i32 a, .int .i32 b, .int .i64 n, .int .i64 o], .tuple #[.int .i32 (lerpF a b n o), .int .i64 (0)], rfl, rfl, fun w => same_ext (lerp_any a b n o w hp.1 hp.2.1 hp.2.2.1 hp.2.2.2)⟩
  · cases h
noncomputable def Γ_lerp : List (FuncId × FC) := (109, c_lerp) :: Γ0
theorem ok_lerp : ΓOk Try.prog Γ_lerp := ΓOk.cons s_lerp ok0

noncomputable def c_vadd : FC := fun us => match us with
  | [.v (.agg [.int .i32 _ a, .int .i32 _ b]), .v (.agg [.int .i32 _ c, .int .i32 _ d])] => some (some ((-2147483648 ≤ a ∧ a ≤ 2147483647) ∧ (-2147483648 ≤ b ∧ b ≤ 2147483647) ∧ (-2147483648 ≤ c ∧ c ≤ 2147483647) ∧ (-2147483648 ≤ d ∧ d ≤ 2147483647)), .v (.agg [.int .i32 false (sat (a + c)), .int .i32 false (sat (b + d))]))
  | _ => none
theorem s_vadd : FSound Try.prog 45 c_vadd := by
  refine fsound_calls Try.func45 (by kernel_rfl) (by kernel_rfl) ?_
  intro us p v h hp
  unfold c_vadd at h
  split at h
  · rename_i k0 a k1 b k2 c k3 d
    cases h
    have hp : (-2147483648 ≤ a ∧ a ≤ 2147483647) ∧ (-2147483648 ≤ b ∧ b ≤ 2147483647) ∧ (-2147483648 ≤ c ∧ c ≤ 2147483647) ∧ (-2147483648 ≤ d ∧ d ≤ 2147483647) := hp
    exact ⟨[.agg #[.int .i32 a, .int .i32 b], .agg #[.int .i32 c, .int .i32 d]], .agg #[.int .i32 (sat (a + c)), .int .i32 (sat (b + d))], rfl, rfl, fun w => vAdd_any a b c d w hp.1 hp.2.1 hp.2.2.1 hp.2.2.2⟩
  · cases h
noncomputable def Γ_vadd : List (FuncId × FC) := (45, c_vadd) :: Γ_lerp
theorem ok_vadd : ΓOk Try.prog Γ_vadd := ΓOk.cons s_vadd ok_lerp

noncomputable def c_vsub : FC := fun us => match us with
  | [.v (.agg [.int .i32 _ a, .int .i32 _ b]), .v (.agg [.int .i32 _ c, .int .i32 _ d])] => some (some ((-2147483648 ≤ a ∧ a ≤ 2147483647) ∧ (-2147483648 ≤ b ∧ b ≤ 2147483647) ∧ (-2147483648 ≤ c ∧ c ≤ 2147483647) ∧ (-2147483648 ≤ d ∧ d ≤ 2147483647)), .v (.agg [.int .i32 false (sat (a - c)), .int .i32 false (sat (b - d))]))
  | _ => none
theorem s_vsub : FSound Try.prog 46 c_vsub := by
  refine fsound_calls Try.func46 (by kernel_rfl) (by kernel_rfl) ?_
  intro us p v h hp
  unfold c_vsub at h
  split at h
  · rename_i k0 a k1 b k2 c k3 d
    cases h
    have hp : (-2147483648 ≤ a ∧ a ≤ 2147483647) ∧ (-2147483648 ≤ b ∧ b ≤ 2147483647) ∧ (-2147483648 ≤ c ∧ c ≤ 2147483647) ∧ (-2147483648 ≤ d ∧ d ≤ 2147483647) := hp
    exact ⟨[.agg #[.int .i32 a, .int .i32 b], .agg #[.int .i32 c, .int .i32 d]], .agg #[.int .i32 (sat (a - c)), .int .i32 (sat (b - d))], rfl, rfl, fun w => vSub_any a b c d w hp.1 hp.2.1 hp.2.2.1 hp.2.2.2⟩
  · cases h
noncomputable def Γ_vsub : List (FuncId × FC) := (46, c_vsub) :: Γ_vadd
theorem ok_vsub : ΓOk Try.prog Γ_vsub := ΓOk.cons s_vsub ok_vadd

noncomputable def c_rplus : FC := fun us => match us with
  | [.v (.agg [.int .i32 _ a, .int .i32 _ b]), .v (.agg [.int .i32 _ c, .int .i32 _ d])] => some (some ((-2147483648 ≤ a ∧ a ≤ 2147483647) ∧ (-2147483648 ≤ b ∧ b ≤ 2147483647) ∧ (-2147483648 ≤ c ∧ c ≤ 2147483647) ∧ (-2147483648 ≤ d ∧ d ≤ 2147483647)), .v (.agg [.int .i32 false (sat (a + c)), .int .i32 false (sat (b + d))]))
  | _ => none
theorem s_rplus : FSound Try.prog 28 c_rplus := by
  refine fsound_calls Try.func28 (by kernel_rfl) (by kernel_rfl) ?_
  intro us p v h hp
  unfold c_rplus at h
  split at h
  · rename_i k0 a k1 b k2 c k3 d
    cases h
    have hp : (-2147483648 ≤ a ∧ a ≤ 2147483647) ∧ (-2147483648 ≤ b ∧ b ≤ 2147483647) ∧ (-2147483648 ≤ c ∧ c ≤ 2147483647) ∧ (-2147483648 ≤ d ∧ d ≤ 2147483647) := hp
    exact ⟨[.agg #[.int .i32 a, .int .i32 b], .agg #[.int .i32 c, .int .i32 d]], .agg #[.int .i32 (sat (a + c)), .int .i32 (sat (b + d))], rfl, rfl, fun w => rplus_any a b c d w hp.1 hp.2.1 hp.2.2.1 hp.2.2.2⟩
  · cases h
noncomputable def Γ_rplus : List (FuncId × FC) := (28, c_rplus) :: Γ_vsub
theorem ok_rplus : ΓOk Try.prog Γ_rplus := ΓOk.cons s_rplus ok_vsub

noncomputable def c_rminus : FC := fun us => match us with
  | [.v (.agg [.int .i32 _ a, .int .i32 _ b]), .v (.agg [.int .i32 _ c, .int .i32 _ d])] => some (some ((-2147483648 ≤ a ∧ a ≤ 2147483647) ∧ (-2147483648 ≤ b ∧ b ≤ 2147483647) ∧ (-2147483648 ≤ c ∧ c ≤ 2147483647) ∧ (-2147483648 ≤ d ∧ d ≤ 2147483647)), .v (.agg [.int .i32 false (sat (a - c)), .int .i32 false (sat (b - d))]))
  | _ => none
theorem s_rminus : FSound Try.prog 29 c_rminus := by
  refine fsound_calls Try.func29 (by kernel_rfl) (by kernel_rfl) ?_
  intro us p v h hp
  unfold c_rminus at h
  split at h
  · rename_i k0 a k1 b k2 c k3 d
    cases h
    have hp : (-2147483648 ≤ a ∧ a ≤ 2147483647) ∧ (-2147483648 ≤ b ∧ b ≤ 2147483647) ∧ (-2147483648 ≤ c ∧ c ≤ 2147483647) ∧ (-2147483648 ≤ d ∧ d ≤ 2147483647) := hp
    exact ⟨[.agg #[.int .i32 a, .int .i32 b], .agg #[.int .i32 c, .int .i32 d]], .agg #[.int .i32 (sat (a - c)), .int .i32 (sat (b - d))], rfl, rfl, fun w => rless_any a b c d w hp.1 hp.2.1 hp.2.2.1 hp.2.2.2⟩
  · cases h
noncomputable def Γ_rminus : List (FuncId × FC) := (29, c_rminus) :: Γ_rplus
theorem ok_rminus : ΓOk Try.prog Γ_rminus := ΓOk.cons s_rminus ok_rplus

noncomputable def c_shift : FC := fun us => gA us fun ls0_0 us0 => gI .i32 ls0_0 fun x0a ls0_1 => gI .i32 ls0_1 fun y0a ls0_2 => gI .i64 ls0_2 fun f0a ls0_3 => gB ls0_3 fun u0a ls0_4 => gI .i32 ls0_4 fun x1a ls0_5 => gI .i32 ls0_5 fun y1a ls0_6 => gI .i64 ls0_6 fun f1a ls0_7 => gB ls0_7 fun u1a ls0_8 => gI .i32 ls0_8 fun sx0a ls0_9 => gI .i32 ls0_9 fun sy0a ls0_10 => gI .i64 ls0_10 fun so0a ls0_11 => gI .i32 ls0_11 fun sx1a ls0_12 => gI .i32 ls0_12 fun sy1a ls0_13 => gI .i64 ls0_13 fun so1a ls0_14 => gI .i32 ls0_14 fun sx2a ls0_15 => gI .i32 ls0_15 fun sy2a ls0_16 => gI .i64 ls0_16 fun so2a ls0_17 => gI .i32 ls0_17 fun sx3a ls0_18 => gI .i32 ls0_18 fun sy3a ls0_19 => gI .i64 ls0_19 fun so3a ls0_20 => gI .i32 ls0_20 fun sx4a ls0_21 => gI .i32 ls0_21 fun sy4a ls0_22 => gI .i64 ls0_22 fun so4a ls0_23 => gI .i32 ls0_23 fun sx5a ls0_24 => gI .i32 ls0_24 fun sy5a ls0_25 => gI .i64 ls0_25 fun so5a ls0_26 => gN ls0_26 <| gA us0 fun ls1_0 us1 => gI .i32 ls1_0 fun ox0 ls1_1 => gI .i32 ls1_1 fun oy0 ls1_2 => gI .i32 ls1_2 fun ox1 ls1_3 => gI .i32 ls1_3 fun oy1 ls1_4 => gN ls1_4 <| gE us1 <| some (some ((-2147483648 ≤ x0a ∧ x0a ≤ 2147483647) ∧ (-2147483648 ≤ y0a ∧ y0a ≤ 2147483647) ∧ (-2147483648 ≤ x1a ∧ x1a ≤ 2147483647) ∧ (-2147483648 ≤ y1a ∧ y1a ≤ 2147483647) ∧ (-2147483648 ≤ ox0 ∧ ox0 ≤ 2147483647) ∧ (-2147483648 ≤ oy0 ∧ oy0 ≤ 2147483647) ∧ (-2147483648 ≤ ox1 ∧ ox1 ≤ 2147483647) ∧ (-2147483648 ≤ oy1 ∧ oy1 ≤ 2147483647)), .v (.agg [.int .i32 false (sat (x0a + ox0)), .int .i32 false (sat (y0a + oy0)), .int .i64 false (f0a), .bool false (u0a), .int .i32 false (sat (x1a + ox1)), .int .i32 false (sat (y1a + oy1)), .int .i64 false (f1a), .bool false (u1a), .int .i32 false (sx0a), .int .i32 false (sy0a), .int .i64 false (so0a), .int .i32 false (sx1a), .int .i32 false (sy1a), .int .i64 false (so1a), .int .i32 false (sx2a), .int .i32 false (sy2a), .int .i64 false (so2a), .int .i32 false (sx3a), .int .i32 false (sy3a), .int .i64 false (so3a), .int .i32 false (sx4a), .int .i32 false (sy4a), .int .i64 false (so4a), .int .i32 false (sx5a), .int .i32 false (sy5a), .int .i64 false (so5a)]))
theorem nf_shift (x0a : Int) (y0a : Int) (f0a : Int) (u0a : Bool) (x1a : Int) (y1a : Int) (f1a : Int) (u1a : Bool) (sx0a : Int) (sy0a : Int) (so0a : Int) (sx1a : Int) (sy1a : Int) (so1a : Int) (sx2a : Int) (sy2a : Int) (so2a : Int) (sx3a : Int) (sy3a : Int) (so3a : Int) (sx4a : Int) (sy4a : Int) (so4a : Int) (sx5a : Int) (sy5a : Int) (so5a : Int) (ox0 : Int) (oy0 : Int) (ox1 : Int) (oy1 : Int) : goal ⟨Mx, Try.prog, Γ_rminus, Δ0⟩ noL 400 Try.f26 [.v (.agg [.int .i32 false x0a, .int .i32 false y0a, .int .i64 false f0a, .bool false u0a, .int .i32 false x1a, .int .i32 false y1a, .int .i64 false f1a, .bool false u1a, .int .i32 false sx0a, .int .i32 false sy0a, .int .i64 false so0a, .int .i32 false sx1a, .int .i32 false sy1a, .int .i64 false so1a, .int .i32 false sx2a, .int .i32 false sy2a, .int .i64 false so2a, .int .i32 false sx3a, .int .i32 false sy3a, .int .i64 false so3a, .int .i32 false sx4a, .int .i32 false sy4a, .int .i64 false so4a, .int .i32 false sx5a, .int .i32 false sy5a, .int .i64 false so5a]), .v (.agg [.int .i32 false ox0, .int .i32 false oy0, .int .i32 false ox1, .int .i32 false oy1])] [] (fun r _ => svLe r (.v (.agg [.int .i32 false (sat (x0a + ox0)), .int .i32 false (sat (y0a + oy0)), .int .i64 false (f0a), .bool false (u0a), .int .i32 false (sat (x1a + ox1)), .int .i32 false (sat (y1a + oy1)), .int .i64 false (f1a), .bool false (u1a), .int .i32 false (sx0a), .int .i32 false (sy0a), .int .i64 false (so0a), .int .i32 false (sx1a), .int .i32 false (sy1a), .int .i64 false (so1a), .int .i32 false (sx2a), .int .i32 false (sy2a), .int .i64 false (so2a), .int .i32 false (sx3a), .int .i32 false (sy3a), .int .i64 false (so3a), .int .i32 false (sx4a), .int .i32 false (sy4a), .int .i64 false (so4a), .int .i32 false (sx5a), .int .i32 false (sy5a), .int .i64 false (so5a)]))) = ((((-2147483648 : Int) ≤ x0a ∧ x0a ≤ (2147483647 : Int)) ∧ ((-2147483648 : Int) ≤ y0a ∧ y0a ≤ (2147483647 : Int)) ∧ ((-2147483648 : Int) ≤ ox0 ∧ ox0 ≤ (2147483647 : Int)) ∧ (-2147483648 : Int) ≤ oy0 ∧ oy0 ≤ (2147483647 : Int)) ∧ (((-2147483648 : Int) ≤ x1a ∧ x1a ≤ (2147483647 : Int)) ∧ ((-2147483648 : Int) ≤ y1a ∧ y1a ≤ (2147483647 : Int)) ∧ ((-2147483648 : Int) ≤ ox1 ∧ ox1 ≤ (2147483647 : Int)) ∧ (-2147483648 : Int) ≤ oy1 ∧ oy1 ≤ (2147483647 : Int)) ∧ sat (x0a + ox0) = sat (x0a + ox0) ∧ sat (y0a + oy0) = sat (y0a + oy0) ∧ f0a = f0a ∧ u0a = u0a ∧ sat (x1a + ox1) = sat (x1a + ox1) ∧ sat (y1a + oy1) = sat (y1a + oy1) ∧ f1a = f1a ∧ u1a = u1a ∧ sx0a = sx0a ∧ sy0a = sy0a ∧ so0a = so0a ∧ sx1a = sx1a ∧ sy1a = sy1a ∧ so1a = so1a ∧ sx2a = sx2a ∧ sy2a = sy2a ∧ so2a = so2a ∧ sx3a = sx3a ∧ sy3a = sy3a ∧ so3a = so3a ∧ sx4a = sx4a ∧ sy4a = sy4a ∧ so4a = so4a ∧ sx5a = sx5a ∧ sy5a = sy5a ∧ so5a = so5a) := by kernel_rfl
theorem s_shift : FSound Try.prog 26 c_shift := by
  refine fsound_of (Ctx.ok_of2 (M := Mx) mixedA ok_rminus okD0) Try.func26 (by kernel_rfl) (by kernel_rfl) ?_
  intro us p v h hp
  unfold c_shift at h
  have _d := True.intro
  · skip
    replace h := gA_some h
    obtain ⟨ls0_0, us0, rfl, h⟩ := h
    replace h := gI_some h
    obtain ⟨k0, x0a, ls0_1, rfl, h⟩ := h
    replace h := gI_some h
    obtain ⟨k1, y0a, ls0_2, rfl, h⟩ := h
    replace h := gI_some h
    obtain ⟨k2, f0a, ls0_3, rfl, h⟩ := h
    replace h := gB_some h
    obtain ⟨k3, u0a, ls0_4, rfl, h⟩ := h
    replace h := gI_some h
    obtain ⟨k4, x1a, ls0_5, rfl, h⟩ := h
    replace h := gI_some h
    obtain ⟨k5, y1a, ls0_6, rfl, h⟩ := h
    replace h := gI_some h
    obtain ⟨k6, f1a, ls0_7, rfl, h⟩ := h
    replace h := gB_some h
    obtain ⟨k7, u1a, ls0_8, rfl, h⟩ := h
    replace h := gI_some h
    obtain ⟨k8, sx0a, ls0_9, rfl, h⟩ := h
    replace h := gI_some h
    obtain ⟨k9, sy0a, ls0_10, rfl, h⟩ := h
    replace h := gI_some h
    obtain ⟨k10, so0a, ls0_11, rfl, h⟩ := h
    replace h := gI_some h
    obtain ⟨k11, sx1a, ls0_12, rfl, h⟩ := h
    replace h := gI_some h
    obtain ⟨k12, sy1a, ls0_13, rfl, h⟩ := h
    replace h := gI_some h
    obtain ⟨k13, so1a, ls0_14, rfl, h⟩ := h
    replace h := gI_some h
    obtain ⟨k14, sx2a, ls0_15, rfl, h⟩ := h
    replace h := gI_some h
    obtain ⟨k15, sy2a, ls0_16, rfl, h⟩ := h
    replace h := gI_some h
    obtain ⟨k16, so2a, ls0_17, rfl, h⟩ := h
    replace h := gI_some h
    obtain ⟨k17, sx3a, ls0_18, rfl, h⟩ := h
    replace h := gI_some h
    obtain ⟨k18, sy3a, ls0_19, rfl, h⟩ := h
    replace h := gI_some h
    obtain ⟨k19, so3a, ls0_20, rfl, h⟩ := h
    replace h := gI_some h
    obtain ⟨k20, sx4a, ls0_21, rfl, h⟩ := h
    replace h := gI_some h
    obtain ⟨k21, sy4a, ls0_22, rfl, h⟩ := h
    replace h := gI_some h
    obtain ⟨k22, so4a, ls0_23, rfl, h⟩ := h
    replace h := gI_some h
    obtain ⟨k23, sx5a, ls0_24, rfl, h⟩ := h
    replace h := gI_some h
    obtain ⟨k24, sy5a, ls0_25, rfl, h⟩ := h
    replace h := gI_some h
    obtain ⟨k25, so5a, ls0_26, rfl, h⟩ := h
    replace h := gN_some h
    obtain ⟨rfl, h⟩ := h
    replace h := gA_some h
    obtain ⟨ls1_0, us1, rfl, h⟩ := h
    replace h := gI_some h
    obtain ⟨k26, ox0, ls1_1, rfl, h⟩ := h
    replace h := gI_some h
    obtain ⟨k27, oy0, ls1_2, rfl, h⟩ := h
    replace h := gI_some h
    obtain ⟨k28, ox1, ls1_3, rfl, h⟩ := h
    replace h := gI_some h
    obtain ⟨k29, oy1, ls1_4, rfl, h⟩ := h
    replace h := gN_some h
    obtain ⟨rfl, h⟩ := h
    replace h := gE_some h
    obtain ⟨rfl, h⟩ := h
    cases h
    have hp : (-2147483648 ≤ x0a ∧ x0a ≤ 2147483647) ∧ (-2147483648 ≤ y0a ∧ y0a ≤ 2147483647) ∧ (-2147483648 ≤ x1a ∧ x1a ≤ 2147483647) ∧ (-2147483648 ≤ y1a ∧ y1a ≤ 2147483647) ∧ (-2147483648 ≤ ox0 ∧ ox0 ≤ 2147483647) ∧ (-2147483648 ≤ oy0 ∧ oy0 ≤ 2147483647) ∧ (-2147483648 ≤ ox1 ∧ ox1 ≤ 2147483647) ∧ (-2147483648 ≤ oy1 ∧ oy1 ≤ 2147483647) := hp
    refine ⟨rfl, noL, 400, [.v (.agg [.int .i32 false x0a, .int .i32 false y0a, .int .i64 false f0a, .bool false u0a, .int .i32 false x1a, .int .i32 false y1a, .int .i64 false f1a, .bool false u1a, .int .i32 false sx0a, .int .i32 false sy0a, .int .i64 false so0a, .int .i32 false sx1a, .int .i32 false sy1a, .int .i64 false so1a, .int .i32 false sx2a, .int .i32 false sy2a, .int .i64 false so2a, .int .i32 false sx3a, .int .i32 false sy3a, .int .i64 false so3a, .int .i32 false sx4a, .int .i32 false sy4a, .int .i64 false so4a, .int .i32 false sx5a, .int .i32 false sy5a, .int .i64 false so5a]), .v (.agg [.int .i32 false ox0, .int .i32 false oy0, .int .i32 false ox1, .int .i32 false oy1])], by simp [tmLe, svLe, vLe, lfLe, lfsLe, ifB], rfl, ?_⟩
    rw [nf_shift]
    (repeat' (first | (refine And.intro ?_ ?_) | intro _))
    all_goals first | rfl | omega
noncomputable def Γ_shift : List (FuncId × FC) := (26, c_shift) :: Γ_rminus
theorem ok_shift : ΓOk Try.prog Γ_shift := ΓOk.cons s_shift ok_rminus

noncomputable def c_gap : FC := fun us => gA us fun ls0_0 us0 => gI .i32 ls0_0 fun x0a ls0_1 => gI .i32 ls0_1 fun y0a ls0_2 => gI .i64 ls0_2 fun f0a ls0_3 => gB ls0_3 fun u0a ls0_4 => gI .i32 ls0_4 fun x1a ls0_5 => gI .i32 ls0_5 fun y1a ls0_6 => gI .i64 ls0_6 fun f1a ls0_7 => gB ls0_7 fun u1a ls0_8 => gI .i32 ls0_8 fun sx0a ls0_9 => gI .i32 ls0_9 fun sy0a ls0_10 => gI .i64 ls0_10 fun so0a ls0_11 => gI .i32 ls0_11 fun sx1a ls0_12 => gI .i32 ls0_12 fun sy1a ls0_13 => gI .i64 ls0_13 fun so1a ls0_14 => gI .i32 ls0_14 fun sx2a ls0_15 => gI .i32 ls0_15 fun sy2a ls0_16 => gI .i64 ls0_16 fun so2a ls0_17 => gI .i32 ls0_17 fun sx3a ls0_18 => gI .i32 ls0_18 fun sy3a ls0_19 => gI .i64 ls0_19 fun so3a ls0_20 => gI .i32 ls0_20 fun sx4a ls0_21 => gI .i32 ls0_21 fun sy4a ls0_22 => gI .i64 ls0_22 fun so4a ls0_23 => gI .i32 ls0_23 fun sx5a ls0_24 => gI .i32 ls0_24 fun sy5a ls0_25 => gI .i64 ls0_25 fun so5a ls0_26 => gN ls0_26 <| gA us0 fun ls1_0 us1 => gI .i32 ls1_0 fun x0b ls1_1 => gI .i32 ls1_1 fun y0b ls1_2 => gI .i64 ls1_2 fun f0b ls1_3 => gB ls1_3 fun u0b ls1_4 => gI .i32 ls1_4 fun x1b ls1_5 => gI .i32 ls1_5 fun y1b ls1_6 => gI .i64 ls1_6 fun f1b ls1_7 => gB ls1_7 fun u1b ls1_8 => gI .i32 ls1_8 fun sx0b ls1_9 => gI .i32 ls1_9 fun sy0b ls1_10 => gI .i64 ls1_10 fun so0b ls1_11 => gI .i32 ls1_11 fun sx1b ls1_12 => gI .i32 ls1_12 fun sy1b ls1_13 => gI .i64 ls1_13 fun so1b ls1_14 => gI .i32 ls1_14 fun sx2b ls1_15 => gI .i32 ls1_15 fun sy2b ls1_16 => gI .i64 ls1_16 fun so2b ls1_17 => gI .i32 ls1_17 fun sx3b ls1_18 => gI .i32 ls1_18 fun sy3b ls1_19 => gI .i64 ls1_19 fun so3b ls1_20 => gI .i32 ls1_20 fun sx4b ls1_21 => gI .i32 ls1_21 fun sy4b ls1_22 => gI .i64 ls1_22 fun so4b ls1_23 => gI .i32 ls1_23 fun sx5b ls1_24 => gI .i32 ls1_24 fun sy5b ls1_25 => gI .i64 ls1_25 fun so5b ls1_26 => gN ls1_26 <| gE us1 <| some (some ((-2147483648 ≤ x0a ∧ x0a ≤ 2147483647) ∧ (-2147483648 ≤ y0a ∧ y0a ≤ 2147483647) ∧ (-2147483648 ≤ x1a ∧ x1a ≤ 2147483647) ∧ (-2147483648 ≤ y1a ∧ y1a ≤ 2147483647) ∧ (-2147483648 ≤ x0b ∧ x0b ≤ 2147483647) ∧ (-2147483648 ≤ y0b ∧ y0b ≤ 2147483647) ∧ (-2147483648 ≤ x1b ∧ x1b ≤ 2147483647) ∧ (-2147483648 ≤ y1b ∧ y1b ≤ 2147483647)), .v (.agg [.int .i32 false (if u0a && u0b then sat (x0a - x0b) else 0), .int .i32 false (if u0a && u0b then sat (y0a - y0b) else 0), .int .i32 false (if u1a && u1b then sat (x1a - x1b) else 0), .int .i32 false (if u1a && u1b then sat (y1a - y1b) else 0)]))
theorem nf_gap (x0a : Int) (y0a : Int) (f0a : Int) (u0a : Bool) (x1a : Int) (y1a : Int) (f1a : Int) (u1a : Bool) (sx0a : Int) (sy0a : Int) (so0a : Int) (sx1a : Int) (sy1a : Int) (so1a : Int) (sx2a : Int) (sy2a : Int) (so2a : Int) (sx3a : Int) (sy3a : Int) (so3a : Int) (sx4a : Int) (sy4a : Int) (so4a : Int) (sx5a : Int) (sy5a : Int) (so5a : Int) (x0b : Int) (y0b : Int) (f0b : Int) (u0b : Bool) (x1b : Int) (y1b : Int) (f1b : Int) (u1b : Bool) (sx0b : Int) (sy0b : Int) (so0b : Int) (sx1b : Int) (sy1b : Int) (so1b : Int) (sx2b : Int) (sy2b : Int) (so2b : Int) (sx3b : Int) (sy3b : Int) (so3b : Int) (sx4b : Int) (sy4b : Int) (so4b : Int) (sx5b : Int) (sy5b : Int) (so5b : Int) : goal ⟨Mx, Try.prog, Γ_shift, Δ0⟩ noL 400 Try.f27 [.v (.agg [.int .i32 false x0a, .int .i32 false y0a, .int .i64 false f0a, .bool false u0a, .int .i32 false x1a, .int .i32 false y1a, .int .i64 false f1a, .bool false u1a, .int .i32 false sx0a, .int .i32 false sy0a, .int .i64 false so0a, .int .i32 false sx1a, .int .i32 false sy1a, .int .i64 false so1a, .int .i32 false sx2a, .int .i32 false sy2a, .int .i64 false so2a, .int .i32 false sx3a, .int .i32 false sy3a, .int .i64 false so3a, .int .i32 false sx4a, .int .i32 false sy4a, .int .i64 false so4a, .int .i32 false sx5a, .int .i32 false sy5a, .int .i64 false so5a]), .v (.agg [.int .i32 false x0b, .int .i32 false y0b, .int .i64 false f0b, .bool false u0b, .int .i32 false x1b, .int .i32 false y1b, .int .i64 false f1b, .bool false u1b, .int .i32 false sx0b, .int .i32 false sy0b, .int .i64 false so0b, .int .i32 false sx1b, .int .i32 false sy1b, .int .i64 false so1b, .int .i32 false sx2b, .int .i32 false sy2b, .int .i64 false so2b, .int .i32 false sx3b, .int .i32 false sy3b, .int .i64 false so3b, .int .i32 false sx4b, .int .i32 false sy4b, .int .i64 false so4b, .int .i32 false sx5b, .int .i32 false sy5b, .int .i64 false so5b])] [] (fun r _ => svLe r (.v (.agg [.int .i32 false (if u0a && u0b then sat (x0a - x0b) else 0), .int .i32 false (if u0a && u0b then sat (y0a - y0b) else 0), .int .i32 false (if u1a && u1b then sat (x1a - x1b) else 0), .int .i32 false (if u1a && u1b then sat (y1a - y1b) else 0)]))) = ((u0a = true → (u0b = true → (((-2147483648 : Int) ≤ x0a ∧ x0a ≤ (2147483647 : Int)) ∧ ((-2147483648 : Int) ≤ y0a ∧ y0a ≤ (2147483647 : Int)) ∧ ((-2147483648 : Int) ≤ x0b ∧ x0b ≤ (2147483647 : Int)) ∧ (-2147483648 : Int) ≤ y0b ∧ y0b ≤ (2147483647 : Int)) ∧ (u1a = true → (u1b = true → (((-2147483648 : Int) ≤ x1a ∧ x1a ≤ (2147483647 : Int)) ∧ ((-2147483648 : Int) ≤ y1a ∧ y1a ≤ (2147483647 : Int)) ∧ ((-2147483648 : Int) ≤ x1b ∧ x1b ≤ (2147483647 : Int)) ∧ (-2147483648 : Int) ≤ y1b ∧ y1b ≤ (2147483647 : Int)) ∧ (sat (x0a - x0b) = if (u0a && u0b) = true then sat (x0a - x0b) else (0 : Int)) ∧ (sat (y0a - y0b) = if (u0a && u0b) = true then sat (y0a - y0b) else (0 : Int)) ∧ (sat (x1a - x1b) = if (u1a && u1b) = true then sat (x1a - x1b) else (0 : Int)) ∧ sat (y1a - y1b) = if (u1a && u1b) = true then sat (y1a - y1b) else (0 : Int)) ∧ (u1b = false → (sat (x0a - x0b) = if (u0a && u0b) = true then sat (x0a - x0b) else (0 : Int)) ∧ (sat (y0a - y0b) = if (u0a && u0b) = true then sat (y0a - y0b) else (0 : Int)) ∧ ((0 : Int) = if (u1a && u1b) = true then sat (x1a - x1b) else (0 : Int)) ∧ (0 : Int) = if (u1a && u1b) = true then sat (y1a - y1b) else (0 : Int))) ∧ (u1a = false → (sat (x0a - x0b) = if (u0a && u0b) = true then sat (x0a - x0b) else (0 : Int)) ∧ (sat (y0a - y0b) = if (u0a && u0b) = true then sat (y0a - y0b) else (0 : Int)) ∧ ((0 : Int) = if (u1a && u1b) = true then sat (x1a - x1b) else (0 : Int)) ∧ (0 : Int) = if (u1a && u1b) = true then sat (y1a - y1b) else (0 : Int))) ∧ (u0b = false → (u1a = true → (u1b = true → (((-2147483648 : Int) ≤ x1a ∧ x1a ≤ (2147483647 : Int)) ∧ ((-2147483648 : Int) ≤ y1a ∧ y1a ≤ (2147483647 : Int)) ∧ ((-2147483648 : Int) ≤ x1b ∧ x1b ≤ (2147483647 : Int)) ∧ (-2147483648 : Int) ≤ y1b ∧ y1b ≤ (2147483647 : Int)) ∧ ((0 : Int) = if (u0a && u0b) = true then sat (x0a - x0b) else (0 : Int)) ∧ ((0 : Int) = if (u0a && u0b) = true then sat (y0a - y0b) else (0 : Int)) ∧ (sat (x1a - x1b) = if (u1a && u1b) = true then sat (x1a - x1b) else (0 : Int)) ∧ sat (y1a - y1b) = if (u1a && u1b) = true then sat (y1a - y1b) else (0 : Int)) ∧ (u1b = false → ((0 : Int) = if (u0a && u0b) = true then sat (x0a - x0b) else (0 : Int)) ∧ ((0 : Int) = if (u0a && u0b) = true then sat (y0a - y0b) else (0 : Int)) ∧ ((0 : Int) = if (u1a && u1b) = true then sat (x1a - x1b) else (0 : Int)) ∧ (0 : Int) = if (u1a && u1b) = true then sat (y1a - y1b) else (0 : Int))) ∧ (u1a = false → ((0 : Int) = if (u0a && u0b) = true then sat (x0a - x0b) else (0 : Int)) ∧ ((0 : Int) = if (u0a && u0b) = true then sat (y0a - y0b) else (0 : Int)) ∧ ((0 : Int) = if (u1a && u1b) = true then sat (x1a - x1b) else (0 : Int)) ∧ (0 : Int) = if (u1a && u1b) = true then sat (y1a - y1b) else (0 : Int)))) ∧ (u0a = false → (u1a = true → (u1b = true → (((-2147483648 : Int) ≤ x1a ∧ x1a ≤ (2147483647 : Int)) ∧ ((-2147483648 : Int) ≤ y1a ∧ y1a ≤ (2147483647 : Int)) ∧ ((-2147483648 : Int) ≤ x1b ∧ x1b ≤ (2147483647 : Int)) ∧ (-2147483648 : Int) ≤ y1b ∧ y1b ≤ (2147483647 : Int)) ∧ ((0 : Int) = if (u0a && u0b) = true then sat (x0a - x0b) else (0 : Int)) ∧ ((0 : Int) = if (u0a && u0b) = true then sat (y0a - y0b) else (0 : Int)) ∧ (sat (x1a - x1b) = if (u1a && u1b) = true then sat (x1a - x1b) else (0 : Int)) ∧ sat (y1a - y1b) = if (u1a && u1b) = true then sat (y1a - y1b) else (0 : Int)) ∧ (u1b = false → ((0 : Int) = if (u0a && u0b) = true then sat (x0a - x0b) else (0 : Int)) ∧ ((0 : Int) = if (u0a && u0b) = true then sat (y0a - y0b) else (0 : Int)) ∧ ((0 : Int) = if (u1a && u1b) = true then sat (x1a - x1b) else (0 : Int)) ∧ (0 : Int) = if (u1a && u1b) = true then sat (y1a - y1b) else (0 : Int))) ∧ (u1a = false → ((0 : Int) = if (u0a && u0b) = true then sat (x0a - x0b) else (0 : Int)) ∧ ((0 : Int) = if (u0a && u0b) = true then sat (y0a - y0b) else (0 : Int)) ∧ ((0 : Int) = if (u1a && u1b) = true then sat (x1a - x1b) else (0 : Int)) ∧ (0 : Int) = if (u1a && u1b) = true then sat (y1a - y1b) else (0 : Int)))) := by kernel_rfl
set_option maxHeartbeats 4000000 in
theorem s_gap : FSound Try.prog 27 c_gap := by
  refine fsound_of (Ctx.ok_of2 (M := Mx) mixedA ok_shift okD0) Try.func27 (by kernel_rfl) (by kernel_rfl) ?_
  intro us p v h hp
  unfold c_gap at h
  have _d := True.intro
  · skip
    replace h := gA_some h
    obtain ⟨ls0_0, us0, rfl, h⟩ := h
    replace h := gI_some h
    obtain ⟨k0, x0a, ls0_1, rfl, h⟩ := h
    replace h := gI_some h
    obtain ⟨k1, y0a, ls0_2, rfl, h⟩ := h
    replace h := gI_some h
    obtain ⟨k2, f0a, ls0_3, rfl, h⟩ := h
    replace h := gB_some h
    obtain ⟨k3, u0a, ls0_4, rfl, h⟩ := h
    replace h := gI_some h
    obtain ⟨k4, x1a, ls0_5, rfl, h⟩ := h
    replace h := gI_some h
    obtain ⟨k5, y1a, ls0_6, rfl, h⟩ := h
    replace h := gI_some h
    obtain ⟨k6, f1a, ls0_7, rfl, h⟩ := h
    replace h := gB_some h
    obtain ⟨k7, u1a, ls0_8, rfl, h⟩ := h
    replace h := gI_some h
    obtain ⟨k8, sx0a, ls0_9, rfl, h⟩ := h
    replace h := gI_some h
    obtain ⟨k9, sy0a, ls0_10, rfl, h⟩ := h
    replace h := gI_some h
    obtain ⟨k10, so0a, ls0_11, rfl, h⟩ := h
    replace h := gI_some h
    obtain ⟨k11, sx1a, ls0_12, rfl, h⟩ := h
    replace h := gI_some h
    obtain ⟨k12, sy1a, ls0_13, rfl, h⟩ := h
    replace h := gI_some h
    obtain ⟨k13, so1a, ls0_14, rfl, h⟩ := h
    replace h := gI_some h
    obtain ⟨k14, sx2a, ls0_15, rfl, h⟩ := h
    replace h := gI_some h
    obtain ⟨k15, sy2a, ls0_16, rfl, h⟩ := h
    replace h := gI_some h
    obtain ⟨k16, so2a, ls0_17, rfl, h⟩ := h
    replace h := gI_some h
    obtain ⟨k17, sx3a, ls0_18, rfl, h⟩ := h
    replace h := gI_some h
    obtain ⟨k18, sy3a, ls0_19, rfl, h⟩ := h
    replace h := gI_some h
    obtain ⟨k19, so3a, ls0_20, rfl, h⟩ := h
    replace h := gI_some h
    obtain ⟨k20, sx4a, ls0_21, rfl, h⟩ := h
    replace h := gI_some h
    obtain ⟨k21, sy4a, ls0_22, rfl, h⟩ := h
    replace h := gI_some h
    obtain ⟨k22, so4a, ls0_23, rfl, h⟩ := h
    replace h := gI_some h
    obtain ⟨k23, sx5a, ls0_24, rfl, h⟩ := h
    replace h := gI_some h
    obtain ⟨k24, sy5a, ls0_25, rfl, h⟩ := h
    replace h := gI_some h
    obtain ⟨k25, so5a, ls0_26, rfl, h⟩ := h
    replace h := gN_some h
    obtain ⟨rfl, h⟩ := h
    replace h := gA_some h
    obtain ⟨ls1_0, us1, rfl, h⟩ := h
    replace h := gI_some h
    obtain ⟨k26, x0b, ls1_1, rfl, h⟩ := h
    replace h := gI_some h
    obtain ⟨k27, y0b, ls1_2, rfl, h⟩ := h
    replace h := gI_some h
    obtain ⟨k28, f0b, ls1_3, rfl, h⟩ := h
    replace h := gB_some h
    obtain ⟨k29, u0b, ls1_4, rfl, h⟩ := h
    replace h := gI_some h
    obtain ⟨k30, x1b, ls1_5, rfl, h⟩ := h
    replace h := gI_some h
    obtain ⟨k31, y1b, ls1_6, rfl, h⟩ := h
    replace h := gI_some h
    obtain ⟨k32, f1b, ls1_7, rfl, h⟩ := h
    replace h := gB_some h
    obtain ⟨k33, u1b, ls1_8, rfl, h⟩ := h
    replace h := gI_some h
    obtain ⟨k34, sx0b, ls1_9, rfl, h⟩ := h
    replace h := gI_some h
    obtain ⟨k35, sy0b, ls1_10, rfl, h⟩ := h
    replace h := gI_some h
    obtain ⟨k36, so0b, ls1_11, rfl, h⟩ := h
    replace h := gI_some h
    obtain ⟨k37, sx1b, ls1_12, rfl, h⟩ := h
    replace h := gI_some h
    obtain ⟨k38, sy1b, ls1_13, rfl, h⟩ := h
    replace h := gI_some h
    obtain ⟨k39, so1b, ls1_14, rfl, h⟩ := h
    replace h := gI_some h
    obtain ⟨k40, sx2b, ls1_15, rfl, h⟩ := h
    replace h := gI_some h
    obtain ⟨k41, sy2b, ls1_16, rfl, h⟩ := h
    replace h := gI_some h
    obtain ⟨k42, so2b, ls1_17, rfl, h⟩ := h
    replace h := gI_some h
    obtain ⟨k43, sx3b, ls1_18, rfl, h⟩ := h
    replace h := gI_some h
    obtain ⟨k44, sy3b, ls1_19, rfl, h⟩ := h
    replace h := gI_some h
    obtain ⟨k45, so3b, ls1_20, rfl, h⟩ := h
    replace h := gI_some h
    obtain ⟨k46, sx4b, ls1_21, rfl, h⟩ := h
    replace h := gI_some h
    obtain ⟨k47, sy4b, ls1_22, rfl, h⟩ := h
    replace h := gI_some h
    obtain ⟨k48, so4b, ls1_23, rfl, h⟩ := h
    replace h := gI_some h
    obtain ⟨k49, sx5b, ls1_24, rfl, h⟩ := h
    replace h := gI_some h
    obtain ⟨k50, sy5b, ls1_25, rfl, h⟩ := h
    replace h := gI_some h
    obtain ⟨k51, so5b, ls1_26, rfl, h⟩ := h
    replace h := gN_some h
    obtain ⟨rfl, h⟩ := h
    replace h := gE_some h
    obtain ⟨rfl, h⟩ := h
    cases h
    have hp : (-2147483648 ≤ x0a ∧ x0a ≤ 2147483647) ∧ (-2147483648 ≤ y0a ∧ y0a ≤ 2147483647) ∧ (-2147483648 ≤ x1a ∧ x1a ≤ 2147483647) ∧ (-2147483648 ≤ y1a ∧ y1a ≤ 2147483647) ∧ (-2147483648 ≤ x0b ∧ x0b ≤ 2147483647) ∧ (-2147483648 ≤ y0b ∧ y0b ≤ 2147483647) ∧ (-2147483648 ≤ x1b ∧ x1b ≤ 2147483647) ∧ (-2147483648 ≤ y1b ∧ y1b ≤ 2147483647) := hp
    refine ⟨rfl, noL, 400, [.v (.agg [.int .i32 false x0a, .int .i32 false y0a, .int .i64 false f0a, .bool false u0a, .int .i32 false x1a, .int .i32 false y1a, .int .i64 false f1a, .bool false u1a, .int .i32 false sx0a, .int .i32 false sy0a, .int .i64 false so0a, .int .i32 false sx1a, .int .i32 false sy1a, .int .i64 false so1a, .int .i32 false sx2a, .int .i32 false sy2a, .int .i64 false so2a, .int .i32 false sx3a, .int .i32 false sy3a, .int .i64 false so3a, .int .i32 false sx4a, .int .i32 false sy4a, .int .i64 false so4a, .int .i32 false sx5a, .int .i32 false sy5a, .int .i64 false so5a]), .v (.agg [.int .i32 false x0b, .int .i32 false y0b, .int .i64 false f0b, .bool false u0b, .int .i32 false x1b, .int .i32 false y1b, .int .i64 false f1b, .bool false u1b, .int .i32 false sx0b, .int .i32 false sy0b, .int .i64 false so0b, .int .i32 false sx1b, .int .i32 false sy1b, .int .i64 false so1b, .int .i32 false sx2b, .int .i32 false sy2b, .int .i64 false so2b, .int .i32 false sx3b, .int .i32 false sy3b, .int .i64 false so3b, .int .i32 false sx4b, .int .i32 false sy4b, .int .i64 false so4b, .int .i32 false sx5b, .int .i32 false sy5b, .int .i64 false so5b])], by simp [tmLe, svLe, vLe, lfLe, lfsLe, ifB], rfl, ?_⟩
    rw [nf_gap]
    cases u0a <;> cases u0b <;> cases u1a <;> cases u1b <;> simp <;> omega
noncomputable def Γ_gap : List (FuncId × FC) := (27, c_gap) :: Γ_shift
theorem ok_gap : ΓOk Try.prog Γ_gap := ΓOk.cons s_gap ok_shift

noncomputable def c_small : FC := fun us => match us with
  | [.v (.agg [.int .i32 _ x, .int .i32 _ y])] => some (none, .v (.one (.bool false (smallB x y))))
  | _ => none
theorem nf_small (x : Int) (y : Int) : goal ⟨Mx, Try.prog, Γ_gap, Δ0⟩ noL 400 Try.f30 [.v (.agg [.int .i32 false x, .int .i32 false y])] [] (fun r _ => svLe r (.v (.one (.bool false (smallB x y))))) = ((decide (x < (1073741824 : Int)) = true → (decide ((-1073741824 : Int) < x) = true → (decide (y < (1073741824 : Int)) = true → decide ((-1073741824 : Int) < y) = smallB x y) ∧ (decide (y < (1073741824 : Int)) = false → false = smallB x y)) ∧ (decide ((-1073741824 : Int) < x) = false → false = smallB x y)) ∧ (decide (x < (1073741824 : Int)) = false → false = smallB x y)) := by kernel_rfl
theorem s_small : FSound Try.prog 30 c_small := by
  refine fsound_of (Ctx.ok_of2 (M := Mx) mixedA ok_gap okD0) Try.func30 (by kernel_rfl) (by kernel_rfl) ?_
  intro us p v h hp
  unfold c_small at h
  split at h
  · rename_i k0 x k1 y
    cases h
    refine ⟨rfl, noL, 400, [.v (.agg [.int .i32 false x, .int .i32 false y])], by simp [tmLe, svLe, vLe, lfLe, lfsLe, ifB], rfl, ?_⟩
    rw [nf_small]
    clear hp
    unfold smallB
    (repeat' (first | (refine And.intro ?_ ?_) | intro _))
    all_goals simp [*]
  · cases h
noncomputable def Γ_small : List (FuncId × FC) := (30, c_small) :: Γ_gap
theorem ok_small : ΓOk Try.prog Γ_small := ΓOk.cons s_small ok_gap

noncomputable def c_wright : FC := fun us => match us with
  | [.v (.agg [.int .i64 _ n, .int .i64 _ o])] => some (none, .v (.one (.bool false (wayB n o))))
  | _ => none
theorem nf_wright (n : Int) (o : Int) : goal ⟨Mx, Try.prog, Γ_small, Δ0⟩ noL 400 Try.f62 [.v (.agg [.int .i64 false n, .int .i64 false o])] [] (fun r _ => svLe r (.v (.one (.bool false (wayB n o))))) = ((decide ((1 : Int) ≤ o) = true → (decide (o ≤ (65536 : Int)) = true → (decide ((0 : Int) ≤ n) = true → decide (n ≤ o) = wayB n o) ∧ (decide ((0 : Int) ≤ n) = false → false = wayB n o)) ∧ (decide (o ≤ (65536 : Int)) = false → false = wayB n o)) ∧ (decide ((1 : Int) ≤ o) = false → false = wayB n o)) := by kernel_rfl
theorem s_wright : FSound Try.prog 62 c_wright := by
  refine fsound_of (Ctx.ok_of2 (M := Mx) mixedA ok_small okD0) Try.func62 (by kernel_rfl) (by kernel_rfl) ?_
  intro us p v h hp
  unfold c_wright at h
  split at h
  · rename_i k0 n k1 o
    cases h
    refine ⟨rfl, noL, 400, [.v (.agg [.int .i64 false n, .int .i64 false o])], by simp [tmLe, svLe, vLe, lfLe, lfsLe, ifB], rfl, ?_⟩
    rw [nf_wright]
    clear hp
    unfold wayB
    (repeat' (first | (refine And.intro ?_ ?_) | intro _))
    all_goals simp [*]
  · cases h
noncomputable def Γ_wright : List (FuncId × FC) := (62, c_wright) :: Γ_small
theorem ok_wright : ΓOk Try.prog Γ_wright := ΓOk.cons s_wright ok_small

noncomputable def c_number : FC := fun us => match us with
  | [.v (.agg [.int .i64 _ n, .int .i64 _ o]), .v (.one (.int .i32 _ a)), .v (.one (.int .i32 _ b))] => some (some ((-2147483648 ≤ a ∧ a ≤ 2147483647) ∧ (-2147483648 ≤ b ∧ b ≤ 2147483647) ∧ (1 ≤ o ∧ o ≤ 65536) ∧ (0 ≤ n ∧ n ≤ o)), .v (.one (.int .i32 false (lerpF a b n o))))
  | _ => none
theorem nf_number (n : Int) (o : Int) (a : Int) (b : Int) : goal ⟨Mx, Try.prog, Γ_wright, Δ0⟩ noL 400 Try.f103 [.v (.agg [.int .i64 false n, .int .i64 false o]), .v (.one (.int .i32 false a)), .v (.one (.int .i32 false b))] [] (fun r _ => svLe r (.v (.one (.int .i32 false (lerpF a b n o))))) = ((((-2147483648 : Int) ≤ a ∧ a ≤ (2147483647 : Int)) ∧ ((-2147483648 : Int) ≤ b ∧ b ≤ (2147483647 : Int)) ∧ ((1 : Int) ≤ o ∧ o ≤ (65536 : Int)) ∧ (0 : Int) ≤ n ∧ n ≤ o) ∧ lerpF a b n o = lerpF a b n o) := by kernel_rfl
theorem s_number : FSound Try.prog 103 c_number := by
  refine fsound_of (Ctx.ok_of2 (M := Mx) mixedA ok_wright okD0) Try.func103 (by kernel_rfl) (by kernel_rfl) ?_
  intro us p v h hp
  unfold c_number at h
  split at h
  · rename_i k0 n k1 o k2 a k3 b
    cases h
    have hp : (-2147483648 ≤ a ∧ a ≤ 2147483647) ∧ (-2147483648 ≤ b ∧ b ≤ 2147483647) ∧ (1 ≤ o ∧ o ≤ 65536) ∧ (0 ≤ n ∧ n ≤ o) := hp
    refine ⟨rfl, noL, 400, [.v (.agg [.int .i64 false n, .int .i64 false o]), .v (.one (.int .i32 false a)), .v (.one (.int .i32 false b))], by simp [tmLe, svLe, vLe, lfLe, lfsLe, ifB], rfl, ?_⟩
    rw [nf_number]
    exact ⟨hp, rfl⟩
  · cases h
noncomputable def Γ_number : List (FuncId × FC) := (103, c_number) :: Γ_wright
theorem ok_number : ΓOk Try.prog Γ_number := ΓOk.cons s_number ok_wright

noncomputable def c_angle : FC := fun us => match us with
  | [.v (.agg [.int .i64 _ n, .int .i64 _ o]), .v (.one (.int .i64 _ f)), .v (.one (.int .i64 _ t))] => some (some ((1 ≤ o ∧ o ≤ 65536) ∧ (0 ≤ n ∧ n ≤ o)), .v (.one (.int .i64 false (angF f t n o))))
  | _ => none
theorem nf_angle (n : Int) (o : Int) (f : Int) (t : Int) : goal ⟨Mx, Try.prog, Γ_number, Δ0⟩ noL 400 Try.f88 [.v (.agg [.int .i64 false n, .int .i64 false o]), .v (.one (.int .i64 false f)), .v (.one (.int .i64 false t))] [] (fun r _ => svLe r (.v (.one (.int .i64 false (angF f t n o))))) = (inR IntKind.i64 (IntKind.i64.wrap ↑(BitVec.ofInt (64 : Nat) t &&& BitVec.ofInt (64 : Nat) (65535 : Int)).toNat - IntKind.i64.wrap ↑(BitVec.ofInt (64 : Nat) f &&& BitVec.ofInt (64 : Nat) (65535 : Int)).toNat) ∧ inR IntKind.i64 (IntKind.i64.wrap ↑(BitVec.ofInt (64 : Nat) t &&& BitVec.ofInt (64 : Nat) (65535 : Int)).toNat - IntKind.i64.wrap ↑(BitVec.ofInt (64 : Nat) f &&& BitVec.ofInt (64 : Nat) (65535 : Int)).toNat + (32768 : Int)) ∧ inR IntKind.i64 (IntKind.i64.wrap ↑(BitVec.ofInt (64 : Nat) (IntKind.i64.wrap ↑(BitVec.ofInt (64 : Nat) t &&& BitVec.ofInt (64 : Nat) (65535 : Int)).toNat - IntKind.i64.wrap ↑(BitVec.ofInt (64 : Nat) f &&& BitVec.ofInt (64 : Nat) (65535 : Int)).toNat + (32768 : Int)) &&& BitVec.ofInt (64 : Nat) (65535 : Int)).toNat - (32768 : Int)) ∧ inR IntKind.i32 (IntKind.i64.wrap ↑(BitVec.ofInt (64 : Nat) (IntKind.i64.wrap ↑(BitVec.ofInt (64 : Nat) t &&& BitVec.ofInt (64 : Nat) (65535 : Int)).toNat - IntKind.i64.wrap ↑(BitVec.ofInt (64 : Nat) f &&& BitVec.ofInt (64 : Nat) (65535 : Int)).toNat + (32768 : Int)) &&& BitVec.ofInt (64 : Nat) (65535 : Int)).toNat - (32768 : Int)) ∧ (((-2147483648 : Int) ≤ (0 : Int) ∧ (0 : Int) ≤ (2147483647 : Int)) ∧ ((-2147483648 : Int) ≤ IntKind.i64.wrap ↑(BitVec.ofInt (64 : Nat) (IntKind.i64.wrap ↑(BitVec.ofInt (64 : Nat) t &&& BitVec.ofInt (64 : Nat) (65535 : Int)).toNat - IntKind.i64.wrap ↑(BitVec.ofInt (64 : Nat) f &&& BitVec.ofInt (64 : Nat) (65535 : Int)).toNat + (32768 : Int)) &&& BitVec.ofInt (64 : Nat) (65535 : Int)).toNat - (32768 : Int) ∧ IntKind.i64.wrap ↑(BitVec.ofInt (64 : Nat) (IntKind.i64.wrap ↑(BitVec.ofInt (64 : Nat) t &&& BitVec.ofInt (64 : Nat) (65535 : Int)).toNat - IntKind.i64.wrap ↑(BitVec.ofInt (64 : Nat) f &&& BitVec.ofInt (64 : Nat) (65535 : Int)).toNat + (32768 : Int)) &&& BitVec.ofInt (64 : Nat) (65535 : Int)).toNat - (32768 : Int) ≤ (2147483647 : Int)) ∧ ((1 : Int) ≤ o ∧ o ≤ (65536 : Int)) ∧ (0 : Int) ≤ n ∧ n ≤ o) ∧ inR IntKind.i64 (lerpF (0 : Int) (IntKind.i64.wrap ↑(BitVec.ofInt (64 : Nat) (IntKind.i64.wrap ↑(BitVec.ofInt (64 : Nat) t &&& BitVec.ofInt (64 : Nat) (65535 : Int)).toNat - IntKind.i64.wrap ↑(BitVec.ofInt (64 : Nat) f &&& BitVec.ofInt (64 : Nat) (65535 : Int)).toNat + (32768 : Int)) &&& BitVec.ofInt (64 : Nat) (65535 : Int)).toNat - (32768 : Int)) n o) ∧ inR IntKind.i64 (IntKind.i64.wrap ↑(BitVec.ofInt (64 : Nat) f &&& BitVec.ofInt (64 : Nat) (65535 : Int)).toNat + lerpF (0 : Int) (IntKind.i64.wrap ↑(BitVec.ofInt (64 : Nat) (IntKind.i64.wrap ↑(BitVec.ofInt (64 : Nat) t &&& BitVec.ofInt (64 : Nat) (65535 : Int)).toNat - IntKind.i64.wrap ↑(BitVec.ofInt (64 : Nat) f &&& BitVec.ofInt (64 : Nat) (65535 : Int)).toNat + (32768 : Int)) &&& BitVec.ofInt (64 : Nat) (65535 : Int)).toNat - (32768 : Int)) n o) ∧ IntKind.i64.wrap ↑(BitVec.ofInt (64 : Nat) (IntKind.i64.wrap ↑(BitVec.ofInt (64 : Nat) f &&& BitVec.ofInt (64 : Nat) (65535 : Int)).toNat + lerpF (0 : Int) (IntKind.i64.wrap ↑(BitVec.ofInt (64 : Nat) (IntKind.i64.wrap ↑(BitVec.ofInt (64 : Nat) t &&& BitVec.ofInt (64 : Nat) (65535 : Int)).toNat - IntKind.i64.wrap ↑(BitVec.ofInt (64 : Nat) f &&& BitVec.ofInt (64 : Nat) (65535 : Int)).toNat + (32768 : Int)) &&& BitVec.ofInt (64 : Nat) (65535 : Int)).toNat - (32768 : Int)) n o) &&& BitVec.ofInt (64 : Nat) (65535 : Int)).toNat = angF f t n o) := by kernel_rfl
theorem s_angle : FSound Try.prog 88 c_angle := by
  refine fsound_of (Ctx.ok_of2 (M := Mx) mixedA ok_number okD0) Try.func88 (by kernel_rfl) (by kernel_rfl) ?_
  intro us p v h hp
  unfold c_angle at h
  split at h
  · rename_i k0 n k1 o k2 f k3 t
    cases h
    have hp : (1 ≤ o ∧ o ≤ 65536) ∧ (0 ≤ n ∧ n ≤ o) := hp
    refine ⟨rfl, noL, 400, [.v (.agg [.int .i64 false n, .int .i64 false o]), .v (.one (.int .i64 false f)), .v (.one (.int .i64 false t))], by simp [tmLe, svLe, vLe, lfLe, lfsLe, ifB], rfl, ?_⟩
    rw [nf_angle]
    simp only [wrap_mask]
    have e : (t % 65536 - f % 65536 + 32768) % 65536 - 32768 = byF f t := rfl
    have b : -32768 ≤ byF f t ∧ byF f t ≤ 32767 := by unfold byF; omega
    have hl : -2147483648 ≤ lerpF 0 (byF f t) n o ∧ lerpF 0 (byF f t) n o ≤ 2147483647 := by unfold lerpF; exact sat_bd _
    rw [e]
    unfold angF
    generalize byF f t = y at *
    generalize lerpF 0 y n o = z at *
    simp only [inR, klo, khi]
    refine ⟨?_, ?_, ?_, ?_, ?_, ?_, ?_, ?_⟩
    all_goals first | trivial | omega
  · cases h
noncomputable def Γ_angle : List (FuncId × FC) := (88, c_angle) :: Γ_number
theorem ok_angle : ΓOk Try.prog Γ_angle := ΓOk.cons s_angle ok_number

noncomputable def c_turn : FC := fun us => match us with
  | [.v (.one (.int .i64 _ f)), .v (.one (.int .i64 _ t)), .v (.one (.int .i64 _ n)), .v (.one (.int .i64 _ o))] => some (none, .tup [.one (.int .i64 false (if wayB n o = true then angF f t n o else 0)), .one (.int .i64 false (if wayB n o = true then 0 else 1))])
  | _ => none
theorem nf_turn (f : Int) (t : Int) (n : Int) (o : Int) : goal ⟨Mx, Try.prog, Γ_angle, Δ0⟩ noL 400 Try.f59 [.v (.one (.int .i64 false f)), .v (.one (.int .i64 false t)), .v (.one (.int .i64 false n)), .v (.one (.int .i64 false o))] [] (fun r _ => svLe r (.tup [.one (.int .i64 false (if wayB n o = true then angF f t n o else 0)), .one (.int .i64 false (if wayB n o = true then 0 else 1))])) = (((!wayB n o) = true → ((0 : Int) = if wayB n o = true then angF f t n o else (0 : Int)) ∧ (1 : Int) = if wayB n o = true then (0 : Int) else (1 : Int)) ∧ ((!wayB n o) = false → (((1 : Int) ≤ o ∧ o ≤ (65536 : Int)) ∧ (0 : Int) ≤ n ∧ n ≤ o) ∧ (angF f t n o = if wayB n o = true then angF f t n o else (0 : Int)) ∧ (0 : Int) = if wayB n o = true then (0 : Int) else (1 : Int))) := by kernel_rfl
theorem s_turn : FSound Try.prog 59 c_turn := by
  refine fsound_of (Ctx.ok_of2 (M := Mx) mixedA ok_angle okD0) Try.func59 (by kernel_rfl) (by kernel_rfl) ?_
  intro us p v h hp
  unfold c_turn at h
  split at h
  · rename_i k0 f k1 t k2 n k3 o
    cases h
    refine ⟨rfl, noL, 400, [.v (.one (.int .i64 false f)), .v (.one (.int .i64 false t)), .v (.one (.int .i64 false n)), .v (.one (.int .i64 false o))], by simp [tmLe, svLe, vLe, lfLe, lfsLe, ifB], rfl, ?_⟩
    rw [nf_turn]
    clear hp
    refine ⟨fun h => ?_, fun h => ?_⟩
    · simp only [Bool.not_eq_true'] at h; simp [h]
    · simp only [Bool.not_eq_false'] at h; simp [h, way_iff.1 h]
  · cases h
noncomputable def Γ_turn : List (FuncId × FC) := (59, c_turn) :: Γ_angle
theorem ok_turn : ΓOk Try.prog Γ_turn := ΓOk.cons s_turn ok_angle

noncomputable def c_awake22 : FC := fun us => match us with
  | [] => some (none, .v (.one (.bool true (true))))
  | _ => none
theorem nf_awake22  : goal ⟨Mx, Try.prog, Γ_turn, Δ0⟩ noL 400 Try.f25 [] [] (fun r _ => svLe r (.v (.one (.bool true (true))))) = ((true = true → true = true) ∧ (true = false → false = true)) := by kernel_rfl
theorem s_awake22 : FSound Try.prog 25 c_awake22 := by
  refine fsound_of (Ctx.ok_of2 (M := Mx) mixedA ok_turn okD0) Try.func25 (by kernel_rfl) (by kernel_rfl) ?_
  intro us p v h hp
  unfold c_awake22 at h
  split at h
  · skip
    cases h
    refine ⟨rfl, noL, 400, [], by simp [tmLe, svLe, vLe, lfLe, lfsLe, ifB], rfl, ?_⟩
    rw [nf_awake22]
    clear hp
    decide
  · cases h
noncomputable def Γ_awake22 : List (FuncId × FC) := (25, c_awake22) :: Γ_turn
theorem ok_awake22 : ΓOk Try.prog Γ_awake22 := ΓOk.cons s_awake22 ok_turn

end Go.Proofs.Yteogppcalekfaaa
