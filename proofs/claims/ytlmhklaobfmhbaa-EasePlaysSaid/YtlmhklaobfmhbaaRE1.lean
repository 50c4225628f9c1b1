/- EASE: CONTRACTS. Conditions: the contracts' own. Own work; the normal forms were printed by a program of mine (wip/rex). -/
import Derived.Test.YtlmhklaobfmhbaaR0
import Derived.Test.YtlmhklaobfmhbaaFixed2
import Derived.Test.YtlmhklaobfmhbaaShape3
import Derived.Test.YtlmhklaobfmhbaaTrig2
import Derived.Test.YtlmhklaobfmhbaaEase
namespace Go.Proofs.Ytlmhklaobfmhbaa
open Go.RowKit Rex
set_option linter.unusedVariables false
set_option linter.unusedSimpArgs false
set_option maxRecDepth 100000


def far (x y p q : Int) : Bool := decide (1048576 < lenF (sat (x + p)) (sat (y + q)))
def mX (x y p q : Int) : Int := if far x y p q = true then 0 else sat (x + p)
def mY (x y p q : Int) : Int := if far x y p q = true then 0 else sat (y + q)
theorem mX_bd (x y p q : Int) : -2147483648 ≤ mX x y p q ∧ mX x y p q ≤ 2147483647 := by
  unfold mX; split
  · omega
  · exact sat_bd _
theorem mY_bd (x y p q : Int) : -2147483648 ≤ mY x y p q ∧ mY x y p q ≤ 2147483647 := by
  unfold mY; split
  · omega
  · exact sat_bd _


noncomputable def c_vadd : FC := fun us => match us with
  | [.v (.agg [.int .i32 _ a, .int .i32 _ b]), .v (.agg [.int .i32 _ c, .int .i32 _ d])] => some (some ((-2147483648 ≤ a ∧ a ≤ 2147483647) ∧ (-2147483648 ≤ b ∧ b ≤ 2147483647) ∧ (-2147483648 ≤ c ∧ c ≤ 2147483647) ∧ (-2147483648 ≤ d ∧ d ≤ 2147483647)), .v (.agg [.int .i32 false (sat (a + c)), .int .i32 false (sat (b + d))]))
  | _ => none
theorem s_vadd : FSound Try.prog 59 c_vadd := by
  refine fsound_calls Try.func59 (by kernel_rfl) (by kernel_rfl) ?_
  intro us p v h hp
  unfold c_vadd at h
  split at h
  · rename_i k0 a k1 b k2 c k3 d
    cases h
    have hp : (-2147483648 ≤ a ∧ a ≤ 2147483647) ∧ (-2147483648 ≤ b ∧ b ≤ 2147483647) ∧ (-2147483648 ≤ c ∧ c ≤ 2147483647) ∧ (-2147483648 ≤ d ∧ d ≤ 2147483647) := hp
    exact ⟨[.agg #[.int .i32 a, .int .i32 b], .agg #[.int .i32 c, .int .i32 d]], .agg #[.int .i32 (sat (a + c)), .int .i32 (sat (b + d))], rfl, rfl, fun w => vAdd_any a b c d w hp.1 hp.2.1 hp.2.2.1 hp.2.2.2⟩
  · cases h
noncomputable def Γ_vadd : List (FuncId × FC) := (59, c_vadd) :: Γ0
theorem ok_vadd : ΓOk Try.prog Γ_vadd := ΓOk.cons s_vadd ok0

noncomputable def c_rplus : FC := fun us => match us with
  | [.v (.agg [.int .i32 _ a, .int .i32 _ b]), .v (.agg [.int .i32 _ c, .int .i32 _ d])] => some (some ((-2147483648 ≤ a ∧ a ≤ 2147483647) ∧ (-2147483648 ≤ b ∧ b ≤ 2147483647) ∧ (-2147483648 ≤ c ∧ c ≤ 2147483647) ∧ (-2147483648 ≤ d ∧ d ≤ 2147483647)), .v (.agg [.int .i32 false (sat (a + c)), .int .i32 false (sat (b + d))]))
  | _ => none
theorem s_rplus : FSound Try.prog 61 c_rplus := by
  refine fsound_calls Try.func61 (by kernel_rfl) (by kernel_rfl) ?_
  intro us p v h hp
  unfold c_rplus at h
  split at h
  · rename_i k0 a k1 b k2 c k3 d
    cases h
    have hp : (-2147483648 ≤ a ∧ a ≤ 2147483647) ∧ (-2147483648 ≤ b ∧ b ≤ 2147483647) ∧ (-2147483648 ≤ c ∧ c ≤ 2147483647) ∧ (-2147483648 ≤ d ∧ d ≤ 2147483647) := hp
    exact ⟨[.agg #[.int .i32 a, .int .i32 b], .agg #[.int .i32 c, .int .i32 d]], .agg #[.int .i32 (sat (a + c)), .int .i32 (sat (b + d))], rfl, rfl, fun w => rplus_any a b c d w hp.1 hp.2.1 hp.2.2.1 hp.2.2.2⟩
  · cases h
noncomputable def Γ_rplus : List (FuncId × FC) := (61, c_rplus) :: Γ_vadd
theorem ok_rplus : ΓOk Try.prog Γ_rplus := ΓOk.cons s_rplus ok_vadd

noncomputable def c_len : FC := fun us => match us with
  | [.v (.one (.int .i32 _ a)), .v (.one (.int .i32 _ b))] => some (some ((-2147483648 ≤ a ∧ a ≤ 2147483647) ∧ (-2147483648 ≤ b ∧ b ≤ 2147483647)), .v (.one (.int .i32 false (lenF a b))))
  | _ => none
theorem s_len : FSound Try.prog 60 c_len := by
  refine fsound_calls Try.func60 (by kernel_rfl) (by kernel_rfl) ?_
  intro us p v h hp
  unfold c_len at h
  split at h
  · rename_i k0 a k1 b
    cases h
    have hp : (-2147483648 ≤ a ∧ a ≤ 2147483647) ∧ (-2147483648 ≤ b ∧ b ≤ 2147483647) := hp
    exact ⟨[.int .i32 a, .int .i32 b], .int .i32 (lenF a b), rfl, rfl, fun w => same_ext (length_any a b w hp.1 hp.2)⟩
  · cases h
noncomputable def Γ_len : List (FuncId × FC) := (60, c_len) :: Γ_rplus
theorem ok_len : ΓOk Try.prog Γ_len := ΓOk.cons s_len ok_rplus

noncomputable def c_rlen : FC := fun us => match us with
  | [.v (.one (.int .i32 _ a)), .v (.one (.int .i32 _ b))] => some (some ((-2147483648 ≤ a ∧ a ≤ 2147483647) ∧ (-2147483648 ≤ b ∧ b ≤ 2147483647)), .v (.one (.int .i32 false (lenF a b))))
  | _ => none
theorem s_rlen : FSound Try.prog 62 c_rlen := by
  refine fsound_calls Try.func62 (by kernel_rfl) (by kernel_rfl) ?_
  intro us p v h hp
  unfold c_rlen at h
  split at h
  · rename_i k0 a k1 b
    cases h
    have hp : (-2147483648 ≤ a ∧ a ≤ 2147483647) ∧ (-2147483648 ≤ b ∧ b ≤ 2147483647) := hp
    exact ⟨[.int .i32 a, .int .i32 b], .int .i32 (lenF a b), rfl, rfl, fun w => same_ext (rlength_any a b w hp.1 hp.2)⟩
  · cases h
noncomputable def Γ_rlen : List (FuncId × FC) := (62, c_rlen) :: Γ_len
theorem ok_rlen : ΓOk Try.prog Γ_rlen := ΓOk.cons s_rlen ok_len

noncomputable def c_less : FC := fun us => match us with
  | [.v (.one (.int .i32 _ a))] => some (some ((-2147483648 ≤ a ∧ a ≤ 2147483647)), .v (.one (.int .i32 false (lessF a))))
  | _ => none
theorem s_less : FSound Try.prog 58 c_less := by
  refine fsound_calls Try.func58 (by kernel_rfl) (by kernel_rfl) ?_
  intro us p v h hp
  unfold c_less at h
  split at h
  · rename_i k0 a
    cases h
    have hp : (-2147483648 ≤ a ∧ a ≤ 2147483647) := hp
    exact ⟨[.int .i32 a], .int .i32 (lessF a), rfl, rfl, fun w => same_ext (less_any a w hp)⟩
  · cases h
noncomputable def Γ_less : List (FuncId × FC) := (58, c_less) :: Γ_rlen
theorem ok_less : ΓOk Try.prog Γ_less := ΓOk.cons s_less ok_rlen

noncomputable def c_rless : FC := fun us => match us with
  | [.v (.one (.int .i32 _ a))] => some (some ((-2147483648 ≤ a ∧ a ≤ 2147483647)), .v (.one (.int .i32 false (lessF a))))
  | _ => none
theorem s_rless : FSound Try.prog 63 c_rless := by
  refine fsound_calls Try.func63 (by kernel_rfl) (by kernel_rfl) ?_
  intro us p v h hp
  unfold c_rless at h
  split at h
  · rename_i k0 a
    cases h
    have hp : (-2147483648 ≤ a ∧ a ≤ 2147483647) := hp
    exact ⟨[.int .i32 a], .int .i32 (lessF a), rfl, rfl, fun w => same_ext (rlessE_any a w hp)⟩
  · cases h
noncomputable def Γ_rless : List (FuncId × FC) := (63, c_rless) :: Γ_less
theorem ok_rless : ΓOk Try.prog Γ_rless := ΓOk.cons s_rless ok_less

noncomputable def c_ticks : FC := fun us => match us with
  | [.v (.one (.int .i32 _ a))] => some (some ((-2147483648 ≤ a ∧ a ≤ 2147483647)), .v (.one (.int .i64 false (((tk a : Nat) : Int)))))
  | _ => none
theorem s_ticks : FSound Try.prog 35 c_ticks := by
  refine fsound_calls Try.func35 (by kernel_rfl) (by kernel_rfl) ?_
  intro us p v h hp
  unfold c_ticks at h
  split at h
  · rename_i k0 a
    cases h
    have hp : (-2147483648 ≤ a ∧ a ≤ 2147483647) := hp
    exact ⟨[.int .i32 a], .int .i64 (((tk a : Nat) : Int)), rfl, rfl, fun w => same_ext (ticks_any a w hp)⟩
  · cases h
noncomputable def Γ_ticks : List (FuncId × FC) := (35, c_ticks) :: Γ_rless
theorem ok_ticks : ΓOk Try.prog Γ_ticks := ΓOk.cons s_ticks ok_rless

noncomputable def c_awake23 : FC := fun us => match us with
  | [] => some (none, .v (.one (.bool true (true))))
  | _ => none
theorem s_awake23 : FSound Try.prog 27 c_awake23 := by
  refine fsound_calls Try.func27 (by kernel_rfl) (by kernel_rfl) ?_
  intro us p v h hp
  unfold c_awake23 at h
  split at h
  · skip
    cases h
    exact ⟨[], .bool (true), rfl, rfl, fun w => same_ext (awake23 w)⟩
  · cases h
noncomputable def Γ_awake23 : List (FuncId × FC) := (27, c_awake23) :: Γ_ticks
theorem ok_awake23 : ΓOk Try.prog Γ_awake23 := ΓOk.cons s_awake23 ok_ticks

noncomputable def c_miss : BC := fun us ls t => match us, ls with
  | [.v (.agg [.int .i32 _ p0, .int .i32 _ q0, .int .i32 _ p1, .int .i32 _ q1])], [.int .i32 _ x0, .int .i32 _ y0, .int .i32 _ x1, .int .i32 _ y1] => match Nat.beq t 107 with
    | true => some (some ((-2147483648 ≤ x0 ∧ x0 ≤ 2147483647) ∧ (-2147483648 ≤ y0 ∧ y0 ≤ 2147483647) ∧ (-2147483648 ≤ x1 ∧ x1 ≤ 2147483647) ∧ (-2147483648 ≤ y1 ∧ y1 ≤ 2147483647) ∧ (-2147483648 ≤ p0 ∧ p0 ≤ 2147483647) ∧ (-2147483648 ≤ q0 ∧ q0 ≤ 2147483647) ∧ (-2147483648 ≤ p1 ∧ p1 ≤ 2147483647) ∧ (-2147483648 ≤ q1 ∧ q1 ≤ 2147483647)), .v (.one (.int .i64 false (((if far x0 y0 p0 q0 = true then 1 else 0) + (if far x1 y1 p1 q1 = true then 1 else 0))))), [.int .i32 false (mX x0 y0 p0 q0), .int .i32 false (mY x0 y0 p0 q0), .int .i32 false (mX x1 y1 p1 q1), .int .i32 false (mY x1 y1 p1 q1)])
    | false => none
  | _, _ => none
theorem nf_miss (p0 : Int) (q0 : Int) (p1 : Int) (q1 : Int) (x0 : Int) (y0 : Int) (x1 : Int) (y1 : Int) : goal ⟨Mx, Try.prog, Γ_awake23, Δ0, B0⟩ noL 400 Try.f29 [.v (.one (.ptr 0 0)), .v (.agg [.int .i32 false p0, .int .i32 false q0, .int .i32 false p1, .int .i32 false q1])] [some (.cells [.int .i32 false x0, .int .i32 false y0, .int .i32 false x1, .int .i32 false y1] 107)] (fun r m' => stLe 1 ⟨[r], m'⟩ ⟨[.v (.one (.int .i64 false (((if far x0 y0 p0 q0 = true then 1 else 0) + (if far x1 y1 p1 q1 = true then 1 else 0)))))], [some (.cells [.int .i32 false (mX x0 y0 p0 q0), .int .i32 false (mY x0 y0 p0 q0), .int .i32 false (mX x1 y1 p1 q1), .int .i32 false (mY x1 y1 p1 q1)] 107)]⟩) = ((((-2147483648 : Int) ≤ x0 ∧ x0 ≤ (2147483647 : Int)) ∧ ((-2147483648 : Int) ≤ y0 ∧ y0 ≤ (2147483647 : Int)) ∧ ((-2147483648 : Int) ≤ p0 ∧ p0 ≤ (2147483647 : Int)) ∧ (-2147483648 : Int) ≤ q0 ∧ q0 ≤ (2147483647 : Int)) ∧ (((-2147483648 : Int) ≤ sat (x0 + p0) ∧ sat (x0 + p0) ≤ (2147483647 : Int)) ∧ (-2147483648 : Int) ≤ sat (y0 + q0) ∧ sat (y0 + q0) ≤ (2147483647 : Int)) ∧ (decide ((1048576 : Int) < lenF (sat (x0 + p0)) (sat (y0 + q0))) = true → (((-2147483648 : Int) ≤ x1 ∧ x1 ≤ (2147483647 : Int)) ∧ ((-2147483648 : Int) ≤ y1 ∧ y1 ≤ (2147483647 : Int)) ∧ ((-2147483648 : Int) ≤ p1 ∧ p1 ≤ (2147483647 : Int)) ∧ (-2147483648 : Int) ≤ q1 ∧ q1 ≤ (2147483647 : Int)) ∧ (((-2147483648 : Int) ≤ sat (x1 + p1) ∧ sat (x1 + p1) ≤ (2147483647 : Int)) ∧ (-2147483648 : Int) ≤ sat (y1 + q1) ∧ sat (y1 + q1) ≤ (2147483647 : Int)) ∧ (decide ((1048576 : Int) < lenF (sat (x1 + p1)) (sat (y1 + q1))) = true → (((2 : Int) = (if far x0 y0 p0 q0 = true then (1 : Int) else (0 : Int)) + if far x1 y1 p1 q1 = true then (1 : Int) else (0 : Int)) ∧ True) ∧ ((0 : Int) = mX x0 y0 p0 q0 ∧ (0 : Int) = mY x0 y0 p0 q0 ∧ (0 : Int) = mX x1 y1 p1 q1 ∧ (0 : Int) = mY x1 y1 p1 q1) ∧ True) ∧ (decide ((1048576 : Int) < lenF (sat (x1 + p1)) (sat (y1 + q1))) = false → (((1 : Int) = (if far x0 y0 p0 q0 = true then (1 : Int) else (0 : Int)) + if far x1 y1 p1 q1 = true then (1 : Int) else (0 : Int)) ∧ True) ∧ ((0 : Int) = mX x0 y0 p0 q0 ∧ (0 : Int) = mY x0 y0 p0 q0 ∧ sat (x1 + p1) = mX x1 y1 p1 q1 ∧ sat (y1 + q1) = mY x1 y1 p1 q1) ∧ True)) ∧ (decide ((1048576 : Int) < lenF (sat (x0 + p0)) (sat (y0 + q0))) = false → (((-2147483648 : Int) ≤ x1 ∧ x1 ≤ (2147483647 : Int)) ∧ ((-2147483648 : Int) ≤ y1 ∧ y1 ≤ (2147483647 : Int)) ∧ ((-2147483648 : Int) ≤ p1 ∧ p1 ≤ (2147483647 : Int)) ∧ (-2147483648 : Int) ≤ q1 ∧ q1 ≤ (2147483647 : Int)) ∧ (((-2147483648 : Int) ≤ sat (x1 + p1) ∧ sat (x1 + p1) ≤ (2147483647 : Int)) ∧ (-2147483648 : Int) ≤ sat (y1 + q1) ∧ sat (y1 + q1) ≤ (2147483647 : Int)) ∧ (decide ((1048576 : Int) < lenF (sat (x1 + p1)) (sat (y1 + q1))) = true → (((1 : Int) = (if far x0 y0 p0 q0 = true then (1 : Int) else (0 : Int)) + if far x1 y1 p1 q1 = true then (1 : Int) else (0 : Int)) ∧ True) ∧ (sat (x0 + p0) = mX x0 y0 p0 q0 ∧ sat (y0 + q0) = mY x0 y0 p0 q0 ∧ (0 : Int) = mX x1 y1 p1 q1 ∧ (0 : Int) = mY x1 y1 p1 q1) ∧ True) ∧ (decide ((1048576 : Int) < lenF (sat (x1 + p1)) (sat (y1 + q1))) = false → (((0 : Int) = (if far x0 y0 p0 q0 = true then (1 : Int) else (0 : Int)) + if far x1 y1 p1 q1 = true then (1 : Int) else (0 : Int)) ∧ True) ∧ (sat (x0 + p0) = mX x0 y0 p0 q0 ∧ sat (y0 + q0) = mY x0 y0 p0 q0 ∧ sat (x1 + p1) = mX x1 y1 p1 q1 ∧ sat (y1 + q1) = mY x1 y1 p1 q1) ∧ True))) := by kernel_rfl
theorem s_miss : BSound Try.prog 29 c_miss := by
  refine bsound_of (Ctx.ok_of2 (M := Mx) mixedA ok_awake23 okD0 okB0) Try.func29 (by kernel_rfl) (by kernel_rfl) ?_
  intro us ls t p s new h hp
  unfold c_miss at h
  split at h
  · rename_i j0 p0 j1 q0 j2 p1 j3 q1 j4 x0 j5 y0 j6 x1 j7 y1
    split at h
    · rename_i ht
      have ht := Nat.eq_of_beq_eq_true ht
      subst ht
      cases h
      have hp : (-2147483648 ≤ x0 ∧ x0 ≤ 2147483647) ∧ (-2147483648 ≤ y0 ∧ y0 ≤ 2147483647) ∧ (-2147483648 ≤ x1 ∧ x1 ≤ 2147483647) ∧ (-2147483648 ≤ y1 ∧ y1 ≤ 2147483647) ∧ (-2147483648 ≤ p0 ∧ p0 ≤ 2147483647) ∧ (-2147483648 ≤ q0 ∧ q0 ≤ 2147483647) ∧ (-2147483648 ≤ p1 ∧ p1 ≤ 2147483647) ∧ (-2147483648 ≤ q1 ∧ q1 ≤ 2147483647) := hp
      refine ⟨⟨rfl, rfl⟩, noL, 400, [.v (.agg [.int .i32 false p0, .int .i32 false q0, .int .i32 false p1, .int .i32 false q1])], [.int .i32 false x0, .int .i32 false y0, .int .i32 false x1, .int .i32 false y1], by simp [tmLe, svLe, vLe, lfLe, lfsLe, ifB, nmIs, idR], by simp [lfLe, lfsLe, ifB, nmIs, idR], rfl, rfl, ?_⟩
      rw [nf_miss]
      (repeat' (first | (refine And.intro ?_ ?_) | intro _))
      all_goals first
        | omega
        | exact (sat_bd _).1
        | exact (sat_bd _).2
        | (simp only [decide_eq_true_eq, decide_eq_false_iff_not] at *; simp [mX, mY, far, *])
        | trivial
    · cases h
  · cases h
noncomputable def B_miss : List (FuncId × BC) := (29, c_miss) :: B0
theorem okB_miss : BOk Try.prog B_miss := BOk.cons s_miss okB0

noncomputable def c_rmiss : BC := fun us ls t => match us, ls with
  | [.v (.agg [.int .i32 _ p0, .int .i32 _ q0, .int .i32 _ p1, .int .i32 _ q1])], [.int .i32 _ x0, .int .i32 _ y0, .int .i32 _ x1, .int .i32 _ y1] => match Nat.beq t 70 with
    | true => some (some ((-2147483648 ≤ x0 ∧ x0 ≤ 2147483647) ∧ (-2147483648 ≤ y0 ∧ y0 ≤ 2147483647) ∧ (-2147483648 ≤ x1 ∧ x1 ≤ 2147483647) ∧ (-2147483648 ≤ y1 ∧ y1 ≤ 2147483647) ∧ (-2147483648 ≤ p0 ∧ p0 ≤ 2147483647) ∧ (-2147483648 ≤ q0 ∧ q0 ≤ 2147483647) ∧ (-2147483648 ≤ p1 ∧ p1 ≤ 2147483647) ∧ (-2147483648 ≤ q1 ∧ q1 ≤ 2147483647)), .v (.one (.int .i64 false (((if far x0 y0 p0 q0 = true then 1 else 0) + (if far x1 y1 p1 q1 = true then 1 else 0))))), [.int .i32 false (mX x0 y0 p0 q0), .int .i32 false (mY x0 y0 p0 q0), .int .i32 false (mX x1 y1 p1 q1), .int .i32 false (mY x1 y1 p1 q1)])
    | false => none
  | _, _ => none
theorem nf_rmiss (p0 : Int) (q0 : Int) (p1 : Int) (q1 : Int) (x0 : Int) (y0 : Int) (x1 : Int) (y1 : Int) : goal ⟨Mx, Try.prog, Γ_awake23, Δ0, B_miss⟩ noL 400 Try.f30 [.v (.one (.ptr 0 0)), .v (.agg [.int .i32 false p0, .int .i32 false q0, .int .i32 false p1, .int .i32 false q1])] [some (.cells [.int .i32 false x0, .int .i32 false y0, .int .i32 false x1, .int .i32 false y1] 70)] (fun r m' => stLe 1 ⟨[r], m'⟩ ⟨[.v (.one (.int .i64 false (((if far x0 y0 p0 q0 = true then 1 else 0) + (if far x1 y1 p1 q1 = true then 1 else 0)))))], [some (.cells [.int .i32 false (mX x0 y0 p0 q0), .int .i32 false (mY x0 y0 p0 q0), .int .i32 false (mX x1 y1 p1 q1), .int .i32 false (mY x1 y1 p1 q1)] 70)]⟩) = ((((-2147483648 : Int) ≤ x0 ∧ x0 ≤ (2147483647 : Int)) ∧ ((-2147483648 : Int) ≤ y0 ∧ y0 ≤ (2147483647 : Int)) ∧ ((-2147483648 : Int) ≤ p0 ∧ p0 ≤ (2147483647 : Int)) ∧ (-2147483648 : Int) ≤ q0 ∧ q0 ≤ (2147483647 : Int)) ∧ (((-2147483648 : Int) ≤ sat (x0 + p0) ∧ sat (x0 + p0) ≤ (2147483647 : Int)) ∧ (-2147483648 : Int) ≤ sat (y0 + q0) ∧ sat (y0 + q0) ≤ (2147483647 : Int)) ∧ (decide ((1048576 : Int) < lenF (sat (x0 + p0)) (sat (y0 + q0))) = true → (((-2147483648 : Int) ≤ x1 ∧ x1 ≤ (2147483647 : Int)) ∧ ((-2147483648 : Int) ≤ y1 ∧ y1 ≤ (2147483647 : Int)) ∧ ((-2147483648 : Int) ≤ p1 ∧ p1 ≤ (2147483647 : Int)) ∧ (-2147483648 : Int) ≤ q1 ∧ q1 ≤ (2147483647 : Int)) ∧ (((-2147483648 : Int) ≤ sat (x1 + p1) ∧ sat (x1 + p1) ≤ (2147483647 : Int)) ∧ (-2147483648 : Int) ≤ sat (y1 + q1) ∧ sat (y1 + q1) ≤ (2147483647 : Int)) ∧ (decide ((1048576 : Int) < lenF (sat (x1 + p1)) (sat (y1 + q1))) = true → (((2 : Int) = (if far x0 y0 p0 q0 = true then (1 : Int) else (0 : Int)) + if far x1 y1 p1 q1 = true then (1 : Int) else (0 : Int)) ∧ True) ∧ ((0 : Int) = mX x0 y0 p0 q0 ∧ (0 : Int) = mY x0 y0 p0 q0 ∧ (0 : Int) = mX x1 y1 p1 q1 ∧ (0 : Int) = mY x1 y1 p1 q1) ∧ True) ∧ (decide ((1048576 : Int) < lenF (sat (x1 + p1)) (sat (y1 + q1))) = false → (((1 : Int) = (if far x0 y0 p0 q0 = true then (1 : Int) else (0 : Int)) + if far x1 y1 p1 q1 = true then (1 : Int) else (0 : Int)) ∧ True) ∧ ((0 : Int) = mX x0 y0 p0 q0 ∧ (0 : Int) = mY x0 y0 p0 q0 ∧ sat (x1 + p1) = mX x1 y1 p1 q1 ∧ sat (y1 + q1) = mY x1 y1 p1 q1) ∧ True)) ∧ (decide ((1048576 : Int) < lenF (sat (x0 + p0)) (sat (y0 + q0))) = false → (((-2147483648 : Int) ≤ x1 ∧ x1 ≤ (2147483647 : Int)) ∧ ((-2147483648 : Int) ≤ y1 ∧ y1 ≤ (2147483647 : Int)) ∧ ((-2147483648 : Int) ≤ p1 ∧ p1 ≤ (2147483647 : Int)) ∧ (-2147483648 : Int) ≤ q1 ∧ q1 ≤ (2147483647 : Int)) ∧ (((-2147483648 : Int) ≤ sat (x1 + p1) ∧ sat (x1 + p1) ≤ (2147483647 : Int)) ∧ (-2147483648 : Int) ≤ sat (y1 + q1) ∧ sat (y1 + q1) ≤ (2147483647 : Int)) ∧ (decide ((1048576 : Int) < lenF (sat (x1 + p1)) (sat (y1 + q1))) = true → (((1 : Int) = (if far x0 y0 p0 q0 = true then (1 : Int) else (0 : Int)) + if far x1 y1 p1 q1 = true then (1 : Int) else (0 : Int)) ∧ True) ∧ (sat (x0 + p0) = mX x0 y0 p0 q0 ∧ sat (y0 + q0) = mY x0 y0 p0 q0 ∧ (0 : Int) = mX x1 y1 p1 q1 ∧ (0 : Int) = mY x1 y1 p1 q1) ∧ True) ∧ (decide ((1048576 : Int) < lenF (sat (x1 + p1)) (sat (y1 + q1))) = false → (((0 : Int) = (if far x0 y0 p0 q0 = true then (1 : Int) else (0 : Int)) + if far x1 y1 p1 q1 = true then (1 : Int) else (0 : Int)) ∧ True) ∧ (sat (x0 + p0) = mX x0 y0 p0 q0 ∧ sat (y0 + q0) = mY x0 y0 p0 q0 ∧ sat (x1 + p1) = mX x1 y1 p1 q1 ∧ sat (y1 + q1) = mY x1 y1 p1 q1) ∧ True))) := by kernel_rfl
theorem s_rmiss : BSound Try.prog 30 c_rmiss := by
  refine bsound_of (Ctx.ok_of2 (M := Mx) mixedA ok_awake23 okD0 okB_miss) Try.func30 (by kernel_rfl) (by kernel_rfl) ?_
  intro us ls t p s new h hp
  unfold c_rmiss at h
  split at h
  · rename_i j0 p0 j1 q0 j2 p1 j3 q1 j4 x0 j5 y0 j6 x1 j7 y1
    split at h
    · rename_i ht
      have ht := Nat.eq_of_beq_eq_true ht
      subst ht
      cases h
      have hp : (-2147483648 ≤ x0 ∧ x0 ≤ 2147483647) ∧ (-2147483648 ≤ y0 ∧ y0 ≤ 2147483647) ∧ (-2147483648 ≤ x1 ∧ x1 ≤ 2147483647) ∧ (-2147483648 ≤ y1 ∧ y1 ≤ 2147483647) ∧ (-2147483648 ≤ p0 ∧ p0 ≤ 2147483647) ∧ (-2147483648 ≤ q0 ∧ q0 ≤ 2147483647) ∧ (-2147483648 ≤ p1 ∧ p1 ≤ 2147483647) ∧ (-2147483648 ≤ q1 ∧ q1 ≤ 2147483647) := hp
      refine ⟨⟨rfl, rfl⟩, noL, 400, [.v (.agg [.int .i32 false p0, .int .i32 false q0, .int .i32 false p1, .int .i32 false q1])], [.int .i32 false x0, .int .i32 false y0, .int .i32 false x1, .int .i32 false y1], by simp [tmLe, svLe, vLe, lfLe, lfsLe, ifB, nmIs, idR], by simp [lfLe, lfsLe, ifB, nmIs, idR], rfl, rfl, ?_⟩
      rw [nf_rmiss]
      (repeat' (first | (refine And.intro ?_ ?_) | intro _))
      all_goals first
        | omega
        | exact (sat_bd _).1
        | exact (sat_bd _).2
        | (simp only [decide_eq_true_eq, decide_eq_false_iff_not] at *; simp [mX, mY, far, *])
        | trivial
    · cases h
  · cases h
noncomputable def B_rmiss : List (FuncId × BC) := (30, c_rmiss) :: B_miss
theorem okB_rmiss : BOk Try.prog B_rmiss := BOk.cons s_rmiss okB_miss

noncomputable def c_tick : BC := fun us ls t => match us, ls with
  | [], [.int .i32 _ x0, .int .i32 _ y0, .int .i32 _ x1, .int .i32 _ y1] => match Nat.beq t 107 with
    | true => some (some ((-2147483648 ≤ x0 ∧ x0 ≤ 2147483647) ∧ (-2147483648 ≤ y0 ∧ y0 ≤ 2147483647) ∧ (-2147483648 ≤ x1 ∧ x1 ≤ 2147483647) ∧ (-2147483648 ≤ y1 ∧ y1 ≤ 2147483647)), .v (.one (.bool false (!(lessF x0 == 0 && (lessF y0 == 0 && (lessF x1 == 0 && lessF y1 == 0)))))), [.int .i32 false (lessF x0), .int .i32 false (lessF y0), .int .i32 false (lessF x1), .int .i32 false (lessF y1)])
    | false => none
  | _, _ => none
theorem nf_tick (x0 : Int) (y0 : Int) (x1 : Int) (y1 : Int) : goal ⟨Mx, Try.prog, Γ_awake23, Δ0, B_rmiss⟩ noL 400 Try.f31 [.v (.one (.ptr 0 0))] [some (.cells [.int .i32 false x0, .int .i32 false y0, .int .i32 false x1, .int .i32 false y1] 107)] (fun r m' => stLe 1 ⟨[r], m'⟩ ⟨[.v (.one (.bool false (!(lessF x0 == 0 && (lessF y0 == 0 && (lessF x1 == 0 && lessF y1 == 0))))))], [some (.cells [.int .i32 false (lessF x0), .int .i32 false (lessF y0), .int .i32 false (lessF x1), .int .i32 false (lessF y1)] 107)]⟩) = (((-2147483648 : Int) ≤ x0 ∧ x0 ≤ (2147483647 : Int)) ∧ ((-2147483648 : Int) ≤ y0 ∧ y0 ≤ (2147483647 : Int)) ∧ ((-2147483648 : Int) ≤ x1 ∧ x1 ≤ (2147483647 : Int)) ∧ ((-2147483648 : Int) ≤ y1 ∧ y1 ≤ (2147483647 : Int)) ∧ ((!(lessF x0 == (0 : Int) && (lessF y0 == (0 : Int) && true) && (lessF x1 == (0 : Int) && (lessF y1 == (0 : Int) && true) && true))) = !(lessF x0 == (0 : Int) && (lessF y0 == (0 : Int) && (lessF x1 == (0 : Int) && lessF y1 == (0 : Int)))) ∧ True) ∧ (lessF x0 = lessF x0 ∧ lessF y0 = lessF y0 ∧ lessF x1 = lessF x1 ∧ lessF y1 = lessF y1) ∧ True) := by kernel_rfl
theorem s_tick : BSound Try.prog 31 c_tick := by
  refine bsound_of (Ctx.ok_of2 (M := Mx) mixedA ok_awake23 okD0 okB_rmiss) Try.func31 (by kernel_rfl) (by kernel_rfl) ?_
  intro us ls t p s new h hp
  unfold c_tick at h
  split at h
  · rename_i j0 x0 j1 y0 j2 x1 j3 y1
    split at h
    · rename_i ht
      have ht := Nat.eq_of_beq_eq_true ht
      subst ht
      cases h
      have hp : (-2147483648 ≤ x0 ∧ x0 ≤ 2147483647) ∧ (-2147483648 ≤ y0 ∧ y0 ≤ 2147483647) ∧ (-2147483648 ≤ x1 ∧ x1 ≤ 2147483647) ∧ (-2147483648 ≤ y1 ∧ y1 ≤ 2147483647) := hp
      refine ⟨⟨rfl, rfl⟩, noL, 400, [], [.int .i32 false x0, .int .i32 false y0, .int .i32 false x1, .int .i32 false y1], by simp [tmLe, svLe, vLe, lfLe, lfsLe, ifB, nmIs, idR], by simp [lfLe, lfsLe, ifB, nmIs, idR], rfl, rfl, ?_⟩
      rw [nf_tick]
      (repeat' (first | (refine And.intro ?_ ?_) | intro _))
      all_goals first
        | omega
        | rfl
        | trivial
        | simp [Bool.and_assoc]
    · cases h
  · cases h
noncomputable def B_tick : List (FuncId × BC) := (31, c_tick) :: B_rmiss
theorem okB_tick : BOk Try.prog B_tick := BOk.cons s_tick okB_rmiss

noncomputable def c_rtick : BC := fun us ls t => match us, ls with
  | [], [.int .i32 _ x0, .int .i32 _ y0, .int .i32 _ x1, .int .i32 _ y1] => match Nat.beq t 70 with
    | true => some (some ((-2147483648 ≤ x0 ∧ x0 ≤ 2147483647) ∧ (-2147483648 ≤ y0 ∧ y0 ≤ 2147483647) ∧ (-2147483648 ≤ x1 ∧ x1 ≤ 2147483647) ∧ (-2147483648 ≤ y1 ∧ y1 ≤ 2147483647)), .v (.one (.bool false (!(lessF x0 == 0 && (lessF y0 == 0 && (lessF x1 == 0 && lessF y1 == 0)))))), [.int .i32 false (lessF x0), .int .i32 false (lessF y0), .int .i32 false (lessF x1), .int .i32 false (lessF y1)])
    | false => none
  | _, _ => none
theorem nf_rtick (x0 : Int) (y0 : Int) (x1 : Int) (y1 : Int) : goal ⟨Mx, Try.prog, Γ_awake23, Δ0, B_tick⟩ noL 400 Try.f32 [.v (.one (.ptr 0 0))] [some (.cells [.int .i32 false x0, .int .i32 false y0, .int .i32 false x1, .int .i32 false y1] 70)] (fun r m' => stLe 1 ⟨[r], m'⟩ ⟨[.v (.one (.bool false (!(lessF x0 == 0 && (lessF y0 == 0 && (lessF x1 == 0 && lessF y1 == 0))))))], [some (.cells [.int .i32 false (lessF x0), .int .i32 false (lessF y0), .int .i32 false (lessF x1), .int .i32 false (lessF y1)] 70)]⟩) = (((-2147483648 : Int) ≤ x0 ∧ x0 ≤ (2147483647 : Int)) ∧ ((-2147483648 : Int) ≤ y0 ∧ y0 ≤ (2147483647 : Int)) ∧ ((-2147483648 : Int) ≤ x1 ∧ x1 ≤ (2147483647 : Int)) ∧ ((-2147483648 : Int) ≤ y1 ∧ y1 ≤ (2147483647 : Int)) ∧ ((!(lessF x0 == (0 : Int) && (lessF y0 == (0 : Int) && true) && (lessF x1 == (0 : Int) && (lessF y1 == (0 : Int) && true) && true))) = !(lessF x0 == (0 : Int) && (lessF y0 == (0 : Int) && (lessF x1 == (0 : Int) && lessF y1 == (0 : Int)))) ∧ True) ∧ (lessF x0 = lessF x0 ∧ lessF y0 = lessF y0 ∧ lessF x1 = lessF x1 ∧ lessF y1 = lessF y1) ∧ True) := by kernel_rfl
theorem s_rtick : BSound Try.prog 32 c_rtick := by
  refine bsound_of (Ctx.ok_of2 (M := Mx) mixedA ok_awake23 okD0 okB_tick) Try.func32 (by kernel_rfl) (by kernel_rfl) ?_
  intro us ls t p s new h hp
  unfold c_rtick at h
  split at h
  · rename_i j0 x0 j1 y0 j2 x1 j3 y1
    split at h
    · rename_i ht
      have ht := Nat.eq_of_beq_eq_true ht
      subst ht
      cases h
      have hp : (-2147483648 ≤ x0 ∧ x0 ≤ 2147483647) ∧ (-2147483648 ≤ y0 ∧ y0 ≤ 2147483647) ∧ (-2147483648 ≤ x1 ∧ x1 ≤ 2147483647) ∧ (-2147483648 ≤ y1 ∧ y1 ≤ 2147483647) := hp
      refine ⟨⟨rfl, rfl⟩, noL, 400, [], [.int .i32 false x0, .int .i32 false y0, .int .i32 false x1, .int .i32 false y1], by simp [tmLe, svLe, vLe, lfLe, lfsLe, ifB, nmIs, idR], by simp [lfLe, lfsLe, ifB, nmIs, idR], rfl, rfl, ?_⟩
      rw [nf_rtick]
      (repeat' (first | (refine And.intro ?_ ?_) | intro _))
      all_goals first
        | omega
        | rfl
        | trivial
        | simp [Bool.and_assoc]
    · cases h
  · cases h
noncomputable def B_rtick : List (FuncId × BC) := (32, c_rtick) :: B_tick
theorem okB_rtick : BOk Try.prog B_rtick := BOk.cons s_rtick okB_tick

noncomputable def c_offsets : BC := fun us ls t => match us, ls with
  | [], [.int .i32 _ x0, .int .i32 _ y0, .int .i32 _ x1, .int .i32 _ y1] => match Nat.beq t 107 with
    | true => some (none, .v (.agg [.int .i32 false (x0), .int .i32 false (y0), .int .i32 false (x1), .int .i32 false (y1)]), [.int .i32 false x0, .int .i32 false y0, .int .i32 false x1, .int .i32 false y1])
    | false => none
  | _, _ => none
theorem nf_offsets (x0 : Int) (y0 : Int) (x1 : Int) (y1 : Int) : goal ⟨Mx, Try.prog, Γ_awake23, Δ0, B_rtick⟩ noL 400 Try.f34 [.v (.one (.ptr 0 0))] [some (.cells [.int .i32 false x0, .int .i32 false y0, .int .i32 false x1, .int .i32 false y1] 107)] (fun r m' => stLe 1 ⟨[r], m'⟩ ⟨[.v (.agg [.int .i32 false (x0), .int .i32 false (y0), .int .i32 false (x1), .int .i32 false (y1)])], [some (.cells [.int .i32 false x0, .int .i32 false y0, .int .i32 false x1, .int .i32 false y1] 107)]⟩) = (((x0 = x0 ∧ y0 = y0 ∧ x1 = x1 ∧ y1 = y1) ∧ True) ∧ (x0 = x0 ∧ y0 = y0 ∧ x1 = x1 ∧ y1 = y1) ∧ True) := by kernel_rfl
theorem s_offsets : BSound Try.prog 34 c_offsets := by
  refine bsound_of (Ctx.ok_of2 (M := Mx) mixedA ok_awake23 okD0 okB_rtick) Try.func34 (by kernel_rfl) (by kernel_rfl) ?_
  intro us ls t p s new h hp
  unfold c_offsets at h
  split at h
  · rename_i j0 x0 j1 y0 j2 x1 j3 y1
    split at h
    · rename_i ht
      have ht := Nat.eq_of_beq_eq_true ht
      subst ht
      cases h
      clear hp
      refine ⟨⟨rfl, rfl⟩, noL, 400, [], [.int .i32 false x0, .int .i32 false y0, .int .i32 false x1, .int .i32 false y1], by simp [tmLe, svLe, vLe, lfLe, lfsLe, ifB, nmIs, idR], by simp [lfLe, lfsLe, ifB, nmIs, idR], rfl, rfl, ?_⟩
      rw [nf_offsets]
      simp
    · cases h
  · cases h
noncomputable def B_offsets : List (FuncId × BC) := (34, c_offsets) :: B_rtick
theorem okB_offsets : BOk Try.prog B_offsets := BOk.cons s_offsets okB_rtick

noncomputable def c_clear : BC := fun us ls t => match us, ls with
  | [], [.int .i32 _ x0, .int .i32 _ y0, .int .i32 _ x1, .int .i32 _ y1] => match Nat.beq t 107 with
    | true => some (none, .tup [], [.int .i32 false (0), .int .i32 false (0), .int .i32 false (0), .int .i32 false (0)])
    | false => none
  | _, _ => none
theorem nf_clear (x0 : Int) (y0 : Int) (x1 : Int) (y1 : Int) : goal ⟨Mx, Try.prog, Γ_awake23, Δ0, B_offsets⟩ noL 400 Try.f33 [.v (.one (.ptr 0 0))] [some (.cells [.int .i32 false x0, .int .i32 false y0, .int .i32 false x1, .int .i32 false y1] 107)] (fun r m' => stLe 1 ⟨[r], m'⟩ ⟨[.tup []], [some (.cells [.int .i32 false (0), .int .i32 false (0), .int .i32 false (0), .int .i32 false (0)] 107)]⟩) = ((True ∧ True) ∧ ((0 : Int) = (0 : Int) ∧ (0 : Int) = (0 : Int) ∧ (0 : Int) = (0 : Int) ∧ (0 : Int) = (0 : Int)) ∧ True) := by kernel_rfl
theorem s_clear : BSound Try.prog 33 c_clear := by
  refine bsound_of (Ctx.ok_of2 (M := Mx) mixedA ok_awake23 okD0 okB_offsets) Try.func33 (by kernel_rfl) (by kernel_rfl) ?_
  intro us ls t p s new h hp
  unfold c_clear at h
  split at h
  · rename_i j0 x0 j1 y0 j2 x1 j3 y1
    split at h
    · rename_i ht
      have ht := Nat.eq_of_beq_eq_true ht
      subst ht
      cases h
      clear hp
      refine ⟨⟨rfl, rfl⟩, noL, 400, [], [.int .i32 false x0, .int .i32 false y0, .int .i32 false x1, .int .i32 false y1], by simp [tmLe, svLe, vLe, lfLe, lfsLe, ifB, nmIs, idR], by simp [lfLe, lfsLe, ifB, nmIs, idR], rfl, rfl, ?_⟩
      rw [nf_clear]
      simp
    · cases h
  · cases h
noncomputable def B_clear : List (FuncId × BC) := (33, c_clear) :: B_offsets
theorem okB_clear : BOk Try.prog B_clear := BOk.cons s_clear okB_offsets

noncomputable def c_new : MC := fun us m K => match us with
  | [] => K (.v (.one (.ptr m.length 0))) (m ++ [some (.cells [.int .i32 false (0), .int .i32 false (0), .int .i32 false (0), .int .i32 false (0)] 107)])
  | _ => False
theorem nf_new : goal ⟨Mx, Try.prog, Γ_awake23, Δ0, B_clear⟩ noL 400 Try.f28 [] [] (fun r m' => stLe 0 ⟨[r], m'⟩ ⟨[.v (.one (.ptr 0 0))], [some (.cells [.int .i32 false (0), .int .i32 false (0), .int .i32 false (0), .int .i32 false (0)] 107)]⟩) = ((True ∧ True) ∧ ((0 : Int) = (0 : Int) ∧ (0 : Int) = (0 : Int) ∧ (0 : Int) = (0 : Int) ∧ (0 : Int) = (0 : Int)) ∧ True) := by kernel_rfl
theorem s_new : MSound Try.prog 28 c_new := by
  refine msound_new (l := [.int .i32 false (0), .int .i32 false (0), .int .i32 false (0), .int .i32 false (0)]) (t := 107) (fuel := 400) (L := noL) (Ctx.ok_of2 (M := Mx) mixedA ok_awake23 okD0 okB_clear) Try.func28 (by kernel_rfl) (by kernel_rfl) (fun us m K h => ?_) ?_
  · unfold c_new at h
    split at h
    · exact ⟨rfl, h⟩
    · exact h.elim
  · rw [nf_new]
    simp
noncomputable def Δ_new : List (FuncId × MC) := (28, c_new) :: Δ0
theorem okD_new : ΔOk Try.prog Δ_new := ΔOk.cons s_new okD0

end Go.Proofs.Ytlmhklaobfmhbaa
