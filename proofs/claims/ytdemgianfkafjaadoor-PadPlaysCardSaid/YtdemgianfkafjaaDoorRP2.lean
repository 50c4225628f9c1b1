/- PADS: A STICK; A PAD THAT IS NOT THERE. Conditions: the contracts' own. Own work; the normal forms were printed by a program of mine (wip/rex). -/
import Derived.Test.YtdemgianfkafjaaDoorRP1
namespace Go.Proofs.YtdemgianfkafjaaDoor
open Go.RowKit Rex
set_option linter.unusedVariables false
set_option linter.unusedSimpArgs false
set_option maxRecDepth 100000

theorem padS_or (x y f : Int) : padS x y f = 0 ∨ padS x y f = 1 ∨ padS x y f = 2 ∨ padS x y f = 4 ∨ padS x y f = 5 ∨ padS x y f = 6 := by
  unfold padS
  (repeat' split) <;> simp


noncomputable def c_awake : FC := fun us => match us with
  | [] => some (none, .v (.one (.bool false (true))))
  | _ => none
theorem nf_awake  : goal ⟨Mx, Tryd.prog, Γ_rStick, Δ0, B0, none, false, [11, 36, 50, 37, 12, 38, 14, 13, 18, 40], none⟩ noL 400 Tryd.f7 [] [] (fun r _ => svLe idR r (.v (.one (.bool false (true))))) = ((true = true → (true = true → (true = true → true = true) ∧ (true = false → false = true)) ∧ (true = false → false = true)) ∧ (true = false → false = true)) := by kernel_rfl
theorem s_awake : FSound Tryd.prog 7 c_awake := by
  refine fsound_of (Ctx.ok_of2 (M := Mx) (N := [11, 36, 50, 37, 12, 38, 14, 13, 18, 40]) mixedA ok_rStick okD0 okB0) Tryd.func7 (by kernel_rfl) (by kernel_rfl) ?_
  intro us p v h hp
  unfold c_awake at h
  split at h
  · skip
    cases h
    refine ⟨rfl, noL, 400, [], by simp [tmLe, svLe, vLe, lfLe, lfsLe, ifB, nmIs, idR], rfl, ?_⟩
    rw [nf_awake]
    clear hp
    simp
  · cases h
noncomputable def Γ_awake : List (FuncId × FX) := (7, c_awake) :: Γ_rStick
theorem ok_awake : ΓOk Tryd.prog Γ_awake := ΓOk.cons (c := .pure c_awake) s_awake ok_rStick

noncomputable def c_PadSticks : FC := fun us => match us with
  | [.v (.one (.int .i64 _ x)), .v (.one (.int .i64 _ y)), .v (.one (.int .i64 _ f))] => some (none, .v (.one (.bool false (true))))
  | _ => none
theorem nf_PadSticks (x : Int) (y : Int) (f : Int) : goal ⟨Mx, Tryd.prog, Γ_awake, Δ0, B0, none, false, [11, 36, 50, 37, 12, 38, 14, 13, 18, 40], none⟩ noL 400 Tryd.f3 [.v (.one (.int .i64 false x)), .v (.one (.int .i64 false y)), .v (.one (.int .i64 false f))] [] (fun r _ => svLe idR r (.v (.one (.bool false (true))))) = ((false = true → false = true) ∧ (false = false → ((padS x y f == padS x y f) = true → (decide (padS x y f < (8 : Int)) = true → (IntKind.u8.wrap (↑(BitVec.ofInt (8 : Nat) (padS x y f) &&& BitVec.ofInt (8 : Nat) (3 : Int)).toNat : Int) != (3 : Int)) = true) ∧ (decide (padS x y f < (8 : Int)) = false → false = true)) ∧ ((padS x y f == padS x y f) = false → false = true))) := by kernel_rfl
theorem s_PadSticks : FSound Tryd.prog 3 c_PadSticks := by
  refine fsound_of (Ctx.ok_of2 (M := Mx) (N := [11, 36, 50, 37, 12, 38, 14, 13, 18, 40]) mixedA ok_awake okD0 okB0) Tryd.func3 (by kernel_rfl) (by kernel_rfl) ?_
  intro us p v h hp
  unfold c_PadSticks at h
  split at h
  · rename_i k0 x k1 y k2 f
    cases h
    refine ⟨rfl, noL, 400, [.v (.one (.int .i64 false x)), .v (.one (.int .i64 false y)), .v (.one (.int .i64 false f))], by simp [tmLe, svLe, vLe, lfLe, lfsLe, ifB, nmIs, idR], rfl, ?_⟩
    rw [nf_PadSticks]
    clear hp
    rcases padS_or x y f with h | h | h | h | h | h <;> rw [h] <;> decide
  · cases h
noncomputable def Γ_PadSticks : List (FuncId × FX) := (3, c_PadSticks) :: Γ_awake
theorem ok_PadSticks : ΓOk Tryd.prog Γ_PadSticks := ΓOk.cons (c := .pure c_PadSticks) s_PadSticks ok_awake

theorem PadSticks_walk (x : Int) (y : Int) (f : Int) (w_x : (Lit.int .i64 x).wf = true) (w_y : (Lit.int .i64 y).wf = true) (w_f : (Lit.int .i64 f).wf = true) (w : World) (hG : Glob w) : Calls Tryd.prog 3 #[.int .i64 x, .int .i64 y, .int .i64 f] w fun e w' => e = .returned (.bool true) ∧ Ext w w' :=
  calls_of_fsound s_PadSticks (us := [.v (.one (.int .i64 false x)), .v (.one (.int .i64 false y)), .v (.one (.int .i64 false f))]) (p := none) rfl (trivial) rfl rfl w hG

noncomputable def c_PadNil : FC := fun us => match us with
  | [.v (.agg [.int .i64 _ x, .int .i64 _ y, .int .u8 _ b, .bool _ t, .int .i64 _ f, .bool _ r])] => some (none, .v (.one (.bool false (true))))
  | _ => none
theorem nf_PadNil (x : Int) (y : Int) (b : Int) (t : Bool) (f : Int) (r : Bool) : goal ⟨Mx, Tryd.prog, Γ_PadSticks, Δ0, B0, none, false, [11, 36, 50, 37, 12, 38, 14, 13, 18, 40], none⟩ noL 400 Tryd.f6 [.v (.agg [.int .i64 false x, .int .i64 false y, .int .u8 false b, .bool false t, .int .i64 false f, .bool false r])] [] (fun r _ => svLe idR r (.v (.one (.bool false (true))))) = ((false = true → false = true) ∧ (false = false → ((b == (16 : Int)) = true → true = true) ∧ ((b == (16 : Int)) = false → ((b == (32 : Int)) = true → true = true) ∧ ((b == (32 : Int)) = false → ((b == (8 : Int)) = true → true = true) ∧ ((b == (8 : Int)) = false → true = true))))) := by kernel_rfl
theorem s_PadNil : FSound Tryd.prog 6 c_PadNil := by
  refine fsound_of (Ctx.ok_of2 (M := Mx) (N := [11, 36, 50, 37, 12, 38, 14, 13, 18, 40]) mixedA ok_PadSticks okD0 okB0) Tryd.func6 (by kernel_rfl) (by kernel_rfl) ?_
  intro us p v h hp
  unfold c_PadNil at h
  split at h
  · rename_i k0 x k1 y k2 b k3 t k4 f k5 r
    cases h
    refine ⟨rfl, noL, 400, [.v (.agg [.int .i64 false x, .int .i64 false y, .int .u8 false b, .bool false t, .int .i64 false f, .bool false r])], by simp [tmLe, svLe, vLe, lfLe, lfsLe, ifB, nmIs, idR], rfl, ?_⟩
    rw [nf_PadNil]
    clear hp
    simp
  · cases h
noncomputable def Γ_PadNil : List (FuncId × FX) := (6, c_PadNil) :: Γ_PadSticks
theorem ok_PadNil : ΓOk Tryd.prog Γ_PadNil := ΓOk.cons (c := .pure c_PadNil) s_PadNil ok_PadSticks

theorem PadNil_walk (x : Int) (y : Int) (b : Int) (t : Bool) (f : Int) (r : Bool) (w_x : (Lit.int .i64 x).wf = true) (w_y : (Lit.int .i64 y).wf = true) (w_b : (Lit.int .u8 b).wf = true) (w_f : (Lit.int .i64 f).wf = true) (w : World) (hG : Glob w) : Calls Tryd.prog 6 #[.agg #[.int .i64 x, .int .i64 y, .int .u8 b, .bool t, .int .i64 f, .bool r]] w fun e w' => e = .returned (.bool true) ∧ Ext w w' :=
  calls_of_fsound s_PadNil (us := [.v (.agg [.int .i64 false x, .int .i64 false y, .int .u8 false b, .bool false t, .int .i64 false f, .bool false r])]) (p := none) rfl (trivial) rfl rfl w hG

end Go.Proofs.YtdemgianfkafjaaDoor
