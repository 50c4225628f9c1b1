/- TWEEN: CONTRACTS. Conditions: the contracts' own. Own work; the normal forms were printed by a program of mine (wip/rex). -/
import Derived.Test.YtceffompldihjaaR0
import Derived.Test.YtceffompldihjaaFixed2
import Derived.Test.YtceffompldihjaaShape3
namespace Go.Proofs.Ytceffompldihjaa
open Go.RowKit Rex
set_option linter.unusedVariables false
set_option linter.unusedSimpArgs false
set_option maxRecDepth 100000


def wayB (n o : Int) : Bool := decide (1 ≤ o) && (decide (o ≤ 65536) && (decide (0 ≤ n) && decide (n ≤ o)))
def smallB (x y : Int) : Bool := decide (x < 1073741824) && (decide (-1073741824 < x) && (decide (y < 1073741824) && decide (-1073741824 < y)))
theorem small_iff {x y : Int} : smallB x y = true ↔ (-1073741824 < x ∧ x < 1073741824) ∧ -1073741824 < y ∧ y < 1073741824 := by
  unfold smallB; simp only [Bool.and_eq_true, decide_eq_true_eq]; omega
def byF (f t : Int) : Int := (t % 65536 - f % 65536 + 32768) % 65536 - 32768
def angF (f t n o : Int) : Int := (f % 65536 + lerpF 0 (byF f t) n o) % 65536
theorem way_iff {n o : Int} : wayB n o = true ↔ (1 ≤ o ∧ o ≤ 65536) ∧ 0 ≤ n ∧ n ≤ o := by
  unfold wayB; simp only [Bool.and_eq_true, decide_eq_true_eq]; omega
theorem and_mask (a : Int) : ((BitVec.ofInt 64 a &&& BitVec.ofInt 64 65535).toNat : Int) = a % 65536 := by
  rw [BitVec.toNat_and, BitVec.toNat_ofInt, BitVec.toNat_ofInt, show ((65535 : Int) % ((2 ^ 64 : Nat) : Int)).toNat = 2 ^ 16 - 1 from rfl, Nat.and_two_pow_sub_one_eq_mod]
  omega
theorem wrap_mask (a : Int) : IntKind.i64.wrap ((BitVec.ofInt 64 a &&& BitVec.ofInt 64 65535).toNat : Int) = a % 65536 := by
  rw [and_mask, wrap_in]
  simp only [inR, klo, khi]; omega


noncomputable def c_lerp : FC := fun us => match us with
  | [.v (.one (.int .i32 _ a)), .v (.one (.int .i32 _ b)), .v (.one (.int .i64 _ n)), .v (.one (.int .i64 _ o))] => some (some ((-2147483648 ≤ a ∧ a ≤ 2147483647) ∧ (-2147483648 ≤ b ∧ b ≤ 2147483647) ∧ (1 ≤ o ∧ o ≤ 65536) ∧ (0 ≤ n ∧ n ≤ o)), .tup [.one (.int .i32 false (lerpF a b n o)), .one (.int .i64 false (0))])
  | _ => none
theorem s_lerp : FSound Try.prog 56 c_lerp := by
  refine fsound_calls Try.func56 (by kernel_rfl) (by kernel_rfl) ?_
  intro us p v h hp
  unfold c_lerp at h
  split at h
  · rename_i k0 a k1 b k2 n k3 o
    cases h
    have hp : (-2147483648 ≤ a ∧ a ≤ 2147483647) ∧ (-2147483648 ≤ b ∧ b ≤ 2147483647) ∧ (1 ≤ o ∧ o ≤ 65536) ∧ (0 ≤ n ∧ n ≤ o) := hp
    exact ⟨[.int .i32 a, .int .i32 b, .int .i64 n, .int .i64 o], .tuple #[.int .i32 (lerpF a b n o), .int .i64 (0)], rfl, rfl, fun w => same_ext (lerp_any a b n o w hp.1 hp.2.1 hp.2.2.1 hp.2.2.2)⟩
  · cases h
noncomputable def Γ_lerp : List (FuncId × FX) := (56, c_lerp) :: Γ0
theorem ok_lerp : ΓOk Try.prog Γ_lerp := ΓOk.cons (c := .pure c_lerp) s_lerp ok0

noncomputable def c_wright : FC := fun us => match us with
  | [.v (.agg [.int .i64 _ n, .int .i64 _ o])] => some (none, .v (.one (.bool false (wayB n o))))
  | _ => none
theorem nf_wright (n : Int) (o : Int) : goal ⟨Mx, Try.prog, Γ_lerp, Δ0, B0, none, false, [], none⟩ noL 400 Try.f14 [.v (.agg [.int .i64 false n, .int .i64 false o])] [] (fun r _ => svLe idR r (.v (.one (.bool false (wayB n o))))) = ((decide ((1 : Int) ≤ o) = true → (decide (o ≤ (65536 : Int)) = true → (decide ((0 : Int) ≤ n) = true → decide (n ≤ o) = wayB n o) ∧ (decide ((0 : Int) ≤ n) = false → false = wayB n o)) ∧ (decide (o ≤ (65536 : Int)) = false → false = wayB n o)) ∧ (decide ((1 : Int) ≤ o) = false → false = wayB n o)) := by kernel_rfl
theorem s_wright : FSound Try.prog 14 c_wright := by
  refine fsound_of (Ctx.ok_of2 (M := Mx) (N := []) mixedA ok_lerp okD0 okB0) Try.func14 (by kernel_rfl) (by kernel_rfl) ?_
  intro us p v h hp
  unfold c_wright at h
  split at h
  · rename_i k0 n k1 o
    cases h
    refine ⟨rfl, noL, 400, [.v (.agg [.int .i64 false n, .int .i64 false o])], by simp [tmLe, svLe, vLe, lfLe, lfsLe, ifB, nmIs, idR], rfl, ?_⟩
    rw [nf_wright]
    clear hp
    unfold wayB
    (repeat' (first | (refine And.intro ?_ ?_) | intro _))
    all_goals simp [*]
  · cases h
noncomputable def Γ_wright : List (FuncId × FX) := (14, c_wright) :: Γ_lerp
theorem ok_wright : ΓOk Try.prog Γ_wright := ΓOk.cons (c := .pure c_wright) s_wright ok_lerp

noncomputable def c_number : FC := fun us => match us with
  | [.v (.agg [.int .i64 _ n, .int .i64 _ o]), .v (.one (.int .i32 _ a)), .v (.one (.int .i32 _ b))] => some (some ((-2147483648 ≤ a ∧ a ≤ 2147483647) ∧ (-2147483648 ≤ b ∧ b ≤ 2147483647) ∧ (1 ≤ o ∧ o ≤ 65536) ∧ (0 ≤ n ∧ n ≤ o)), .v (.one (.int .i32 false (lerpF a b n o))))
  | _ => none
theorem nf_number (n : Int) (o : Int) (a : Int) (b : Int) : goal ⟨Mx, Try.prog, Γ_wright, Δ0, B0, none, false, [], none⟩ noL 400 Try.f42 [.v (.agg [.int .i64 false n, .int .i64 false o]), .v (.one (.int .i32 false a)), .v (.one (.int .i32 false b))] [] (fun r _ => svLe idR r (.v (.one (.int .i32 false (lerpF a b n o))))) = ((((-2147483648 : Int) ≤ a ∧ a ≤ (2147483647 : Int)) ∧ ((-2147483648 : Int) ≤ b ∧ b ≤ (2147483647 : Int)) ∧ ((1 : Int) ≤ o ∧ o ≤ (65536 : Int)) ∧ (0 : Int) ≤ n ∧ n ≤ o) ∧ lerpF a b n o = lerpF a b n o) := by kernel_rfl
theorem s_number : FSound Try.prog 42 c_number := by
  refine fsound_of (Ctx.ok_of2 (M := Mx) (N := []) mixedA ok_wright okD0 okB0) Try.func42 (by kernel_rfl) (by kernel_rfl) ?_
  intro us p v h hp
  unfold c_number at h
  split at h
  · rename_i k0 n k1 o k2 a k3 b
    cases h
    have hp : (-2147483648 ≤ a ∧ a ≤ 2147483647) ∧ (-2147483648 ≤ b ∧ b ≤ 2147483647) ∧ (1 ≤ o ∧ o ≤ 65536) ∧ (0 ≤ n ∧ n ≤ o) := hp
    refine ⟨rfl, noL, 400, [.v (.agg [.int .i64 false n, .int .i64 false o]), .v (.one (.int .i32 false a)), .v (.one (.int .i32 false b))], by simp [tmLe, svLe, vLe, lfLe, lfsLe, ifB, nmIs, idR], rfl, ?_⟩
    rw [nf_number]
    exact ⟨hp, rfl⟩
  · cases h
noncomputable def Γ_number : List (FuncId × FX) := (42, c_number) :: Γ_wright
theorem ok_number : ΓOk Try.prog Γ_number := ΓOk.cons (c := .pure c_number) s_number ok_wright

noncomputable def c_angle : FC := fun us => match us with
  | [.v (.agg [.int .i64 _ n, .int .i64 _ o]), .v (.one (.int .i64 _ f)), .v (.one (.int .i64 _ t))] => some (some ((1 ≤ o ∧ o ≤ 65536) ∧ (0 ≤ n ∧ n ≤ o)), .v (.one (.int .i64 false (angF f t n o))))
  | _ => none
theorem nf_angle (n : Int) (o : Int) (f : Int) (t : Int) : goal ⟨Mx, Try.prog, Γ_number, Δ0, B0, none, false, [], none⟩ noL 400 Try.f24 [.v (.agg [.int .i64 false n, .int .i64 false o]), .v (.one (.int .i64 false f)), .v (.one (.int .i64 false t))] [] (fun r _ => svLe idR r (.v (.one (.int .i64 false (angF f t n o))))) = (inR IntKind.i64 (IntKind.i64.wrap (↑(BitVec.ofInt (64 : Nat) t &&& BitVec.ofInt (64 : Nat) (65535 : Int)).toNat : Int) - IntKind.i64.wrap (↑(BitVec.ofInt (64 : Nat) f &&& BitVec.ofInt (64 : Nat) (65535 : Int)).toNat : Int)) ∧ inR IntKind.i64 (IntKind.i64.wrap (↑(BitVec.ofInt (64 : Nat) t &&& BitVec.ofInt (64 : Nat) (65535 : Int)).toNat : Int) - IntKind.i64.wrap (↑(BitVec.ofInt (64 : Nat) f &&& BitVec.ofInt (64 : Nat) (65535 : Int)).toNat : Int) + (32768 : Int)) ∧ inR IntKind.i64 (IntKind.i64.wrap (↑(BitVec.ofInt (64 : Nat) (IntKind.i64.wrap (↑(BitVec.ofInt (64 : Nat) t &&& BitVec.ofInt (64 : Nat) (65535 : Int)).toNat : Int) - IntKind.i64.wrap (↑(BitVec.ofInt (64 : Nat) f &&& BitVec.ofInt (64 : Nat) (65535 : Int)).toNat : Int) + (32768 : Int)) &&& BitVec.ofInt (64 : Nat) (65535 : Int)).toNat : Int) - (32768 : Int)) ∧ inR IntKind.i32 (IntKind.i64.wrap (↑(BitVec.ofInt (64 : Nat) (IntKind.i64.wrap (↑(BitVec.ofInt (64 : Nat) t &&& BitVec.ofInt (64 : Nat) (65535 : Int)).toNat : Int) - IntKind.i64.wrap (↑(BitVec.ofInt (64 : Nat) f &&& BitVec.ofInt (64 : Nat) (65535 : Int)).toNat : Int) + (32768 : Int)) &&& BitVec.ofInt (64 : Nat) (65535 : Int)).toNat : Int) - (32768 : Int)) ∧ (((-2147483648 : Int) ≤ (0 : Int) ∧ (0 : Int) ≤ (2147483647 : Int)) ∧ ((-2147483648 : Int) ≤ IntKind.i64.wrap (↑(BitVec.ofInt (64 : Nat) (IntKind.i64.wrap (↑(BitVec.ofInt (64 : Nat) t &&& BitVec.ofInt (64 : Nat) (65535 : Int)).toNat : Int) - IntKind.i64.wrap (↑(BitVec.ofInt (64 : Nat) f &&& BitVec.ofInt (64 : Nat) (65535 : Int)).toNat : Int) + (32768 : Int)) &&& BitVec.ofInt (64 : Nat) (65535 : Int)).toNat : Int) - (32768 : Int) ∧ IntKind.i64.wrap (↑(BitVec.ofInt (64 : Nat) (IntKind.i64.wrap (↑(BitVec.ofInt (64 : Nat) t &&& BitVec.ofInt (64 : Nat) (65535 : Int)).toNat : Int) - IntKind.i64.wrap (↑(BitVec.ofInt (64 : Nat) f &&& BitVec.ofInt (64 : Nat) (65535 : Int)).toNat : Int) + (32768 : Int)) &&& BitVec.ofInt (64 : Nat) (65535 : Int)).toNat : Int) - (32768 : Int) ≤ (2147483647 : Int)) ∧ ((1 : Int) ≤ o ∧ o ≤ (65536 : Int)) ∧ (0 : Int) ≤ n ∧ n ≤ o) ∧ inR IntKind.i64 (lerpF (0 : Int) (IntKind.i64.wrap (↑(BitVec.ofInt (64 : Nat) (IntKind.i64.wrap (↑(BitVec.ofInt (64 : Nat) t &&& BitVec.ofInt (64 : Nat) (65535 : Int)).toNat : Int) - IntKind.i64.wrap (↑(BitVec.ofInt (64 : Nat) f &&& BitVec.ofInt (64 : Nat) (65535 : Int)).toNat : Int) + (32768 : Int)) &&& BitVec.ofInt (64 : Nat) (65535 : Int)).toNat : Int) - (32768 : Int)) n o) ∧ inR IntKind.i64 (IntKind.i64.wrap (↑(BitVec.ofInt (64 : Nat) f &&& BitVec.ofInt (64 : Nat) (65535 : Int)).toNat : Int) + lerpF (0 : Int) (IntKind.i64.wrap (↑(BitVec.ofInt (64 : Nat) (IntKind.i64.wrap (↑(BitVec.ofInt (64 : Nat) t &&& BitVec.ofInt (64 : Nat) (65535 : Int)).toNat : Int) - IntKind.i64.wrap (↑(BitVec.ofInt (64 : Nat) f &&& BitVec.ofInt (64 : Nat) (65535 : Int)).toNat : Int) + (32768 : Int)) &&& BitVec.ofInt (64 : Nat) (65535 : Int)).toNat : Int) - (32768 : Int)) n o) ∧ IntKind.i64.wrap (↑(BitVec.ofInt (64 : Nat) (IntKind.i64.wrap (↑(BitVec.ofInt (64 : Nat) f &&& BitVec.ofInt (64 : Nat) (65535 : Int)).toNat : Int) + lerpF (0 : Int) (IntKind.i64.wrap (↑(BitVec.ofInt (64 : Nat) (IntKind.i64.wrap (↑(BitVec.ofInt (64 : Nat) t &&& BitVec.ofInt (64 : Nat) (65535 : Int)).toNat : Int) - IntKind.i64.wrap (↑(BitVec.ofInt (64 : Nat) f &&& BitVec.ofInt (64 : Nat) (65535 : Int)).toNat : Int) + (32768 : Int)) &&& BitVec.ofInt (64 : Nat) (65535 : Int)).toNat : Int) - (32768 : Int)) n o) &&& BitVec.ofInt (64 : Nat) (65535 : Int)).toNat : Int) = angF f t n o) := by kernel_rfl
theorem s_angle : FSound Try.prog 24 c_angle := by
  refine fsound_of (Ctx.ok_of2 (M := Mx) (N := []) mixedA ok_number okD0 okB0) Try.func24 (by kernel_rfl) (by kernel_rfl) ?_
  intro us p v h hp
  unfold c_angle at h
  split at h
  · rename_i k0 n k1 o k2 f k3 t
    cases h
    have hp : (1 ≤ o ∧ o ≤ 65536) ∧ (0 ≤ n ∧ n ≤ o) := hp
    refine ⟨rfl, noL, 400, [.v (.agg [.int .i64 false n, .int .i64 false o]), .v (.one (.int .i64 false f)), .v (.one (.int .i64 false t))], by simp [tmLe, svLe, vLe, lfLe, lfsLe, ifB, nmIs, idR], rfl, ?_⟩
    rw [nf_angle]
    simp only [wrap_mask]
    have e : (t % 65536 - f % 65536 + 32768) % 65536 - 32768 = byF f t := rfl
    have b : -32768 ≤ byF f t ∧ byF f t ≤ 32767 := by unfold byF; omega
    have hl : -2147483648 ≤ lerpF 0 (byF f t) n o ∧ lerpF 0 (byF f t) n o ≤ 2147483647 := by unfold lerpF; exact sat_bd _
    rw [e]
    unfold angF
    generalize byF f t = y at *
    generalize lerpF 0 y n o = z at *
    simp only [inR, klo, khi]
    refine ⟨?_, ?_, ?_, ?_, ?_, ?_, ?_, ?_⟩
    all_goals first | trivial | omega
  · cases h
noncomputable def Γ_angle : List (FuncId × FX) := (24, c_angle) :: Γ_number
theorem ok_angle : ΓOk Try.prog Γ_angle := ΓOk.cons (c := .pure c_angle) s_angle ok_number

noncomputable def c_turn : FC := fun us => match us with
  | [.v (.one (.int .i64 _ f)), .v (.one (.int .i64 _ t)), .v (.one (.int .i64 _ n)), .v (.one (.int .i64 _ o))] => some (none, .tup [.one (.int .i64 false (if wayB n o = true then angF f t n o else 0)), .one (.int .i64 false (if wayB n o = true then 0 else 1))])
  | _ => none
theorem nf_turn (f : Int) (t : Int) (n : Int) (o : Int) : goal ⟨Mx, Try.prog, Γ_angle, Δ0, B0, none, false, [], none⟩ noL 400 Try.f11 [.v (.one (.int .i64 false f)), .v (.one (.int .i64 false t)), .v (.one (.int .i64 false n)), .v (.one (.int .i64 false o))] [] (fun r _ => svLe idR r (.tup [.one (.int .i64 false (if wayB n o = true then angF f t n o else 0)), .one (.int .i64 false (if wayB n o = true then 0 else 1))])) = (((!wayB n o) = true → ((0 : Int) = if wayB n o = true then angF f t n o else (0 : Int)) ∧ (1 : Int) = if wayB n o = true then (0 : Int) else (1 : Int)) ∧ ((!wayB n o) = false → (((1 : Int) ≤ o ∧ o ≤ (65536 : Int)) ∧ (0 : Int) ≤ n ∧ n ≤ o) ∧ (angF f t n o = if wayB n o = true then angF f t n o else (0 : Int)) ∧ (0 : Int) = if wayB n o = true then (0 : Int) else (1 : Int))) := by kernel_rfl
theorem s_turn : FSound Try.prog 11 c_turn := by
  refine fsound_of (Ctx.ok_of2 (M := Mx) (N := []) mixedA ok_angle okD0 okB0) Try.func11 (by kernel_rfl) (by kernel_rfl) ?_
  intro us p v h hp
  unfold c_turn at h
  split at h
  · rename_i k0 f k1 t k2 n k3 o
    cases h
    refine ⟨rfl, noL, 400, [.v (.one (.int .i64 false f)), .v (.one (.int .i64 false t)), .v (.one (.int .i64 false n)), .v (.one (.int .i64 false o))], by simp [tmLe, svLe, vLe, lfLe, lfsLe, ifB, nmIs, idR], rfl, ?_⟩
    rw [nf_turn]
    clear hp
    refine ⟨fun h => ?_, fun h => ?_⟩
    · simp only [Bool.not_eq_true'] at h; simp [h]
    · simp only [Bool.not_eq_false'] at h; simp [h, way_iff.1 h]
  · cases h
noncomputable def Γ_turn : List (FuncId × FX) := (11, c_turn) :: Γ_angle
theorem ok_turn : ΓOk Try.prog Γ_turn := ΓOk.cons (c := .pure c_turn) s_turn ok_angle

noncomputable def c_awake22 : FC := fun us => match us with
  | [] => some (none, .v (.one (.bool true (true))))
  | _ => none
theorem nf_awake22  : goal ⟨Mx, Try.prog, Γ_turn, Δ0, B0, none, false, [], none⟩ noL 400 Try.f5 [] [] (fun r _ => svLe idR r (.v (.one (.bool true (true))))) = ((true = true → true = true) ∧ (true = false → false = true)) := by kernel_rfl
theorem s_awake22 : FSound Try.prog 5 c_awake22 := by
  refine fsound_of (Ctx.ok_of2 (M := Mx) (N := []) mixedA ok_turn okD0 okB0) Try.func5 (by kernel_rfl) (by kernel_rfl) ?_
  intro us p v h hp
  unfold c_awake22 at h
  split at h
  · skip
    cases h
    refine ⟨rfl, noL, 400, [], by simp [tmLe, svLe, vLe, lfLe, lfsLe, ifB, nmIs, idR], rfl, ?_⟩
    rw [nf_awake22]
    clear hp
    decide
  · cases h
noncomputable def Γ_awake22 : List (FuncId × FX) := (5, c_awake22) :: Γ_turn
theorem ok_awake22 : ΓOk Try.prog Γ_awake22 := ΓOk.cons (c := .pure c_awake22) s_awake22 ok_turn

end Go.Proofs.Ytceffompldihjaa
