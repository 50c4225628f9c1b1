/- A MIXER THAT IS NOT THERE. Conditions: the contracts' own. Own work; the normal forms were printed by a program of mine (wip/rex). -/
import Derived.Test.YtljnddhldjaglaaRM10
namespace Go.Proofs.Ytljnddhldjaglaa
open Go.RowKit Rex
set_option linter.unusedVariables false
set_option linter.unusedSimpArgs false
set_option maxRecDepth 100000

noncomputable def c_MixerNil : FC := fun us => match us with
  | [.v (.agg [.int .i64 _ kd, .int .i64 _ fr, .int .i64 _ em, .int .i64 _ ki, .int .i64 _ od, .int .i64 _ ass, .int .i64 _ gn, .int .i64 _ pn, .int .i64 _ pr, .int .i64 _ ln, .int .i64 _ by_])] => some (none, .v (.one (.bool false (true))))
  | _ => none
theorem nf_MixerNil (kd : Int) (fr : Int) (em : Int) (ki : Int) (od : Int) (ass : Int) (gn : Int) (pn : Int) (pr : Int) (ln : Int) (by_ : Int) : goal ⟨Mx, Try.prog, Γ_awake20, Δ0, B0, none, false, [13, 14, 15, 16, 18, 17, 20], none⟩ noL 400 Try.f7 [.v (.agg [.int .i64 false kd, .int .i64 false fr, .int .i64 false em, .int .i64 false ki, .int .i64 false od, .int .i64 false ass, .int .i64 false gn, .int .i64 false pn, .int .i64 false pr, .int .i64 false ln, .int .i64 false by_])] [] (fun r _ => svLe idR r (.v (.one (.bool false (true))))) = (true = true) := by kernel_rfl
theorem s_MixerNil : FSound Try.prog 7 c_MixerNil := by
  refine fsound_of (Ctx.ok_of2 (M := Mx) (N := [13, 14, 15, 16, 18, 17, 20]) mixedA ok_awake20 okD0 okB0) Try.func7 (by kernel_rfl) (by kernel_rfl) ?_
  intro us p v h hp
  unfold c_MixerNil at h
  split at h
  · rename_i k0 kd k1 fr k2 em k3 ki k4 od k5 ass k6 gn k7 pn k8 pr k9 ln k10 by_
    cases h
    refine ⟨rfl, noL, 400, [.v (.agg [.int .i64 false kd, .int .i64 false fr, .int .i64 false em, .int .i64 false ki, .int .i64 false od, .int .i64 false ass, .int .i64 false gn, .int .i64 false pn, .int .i64 false pr, .int .i64 false ln, .int .i64 false by_])], by simp [tmLe, svLe, vLe, lfLe, lfsLe, ifB, nmIs, idR], rfl, ?_⟩
    rw [nf_MixerNil]
    skip
  · cases h
noncomputable def Γ_MixerNil : List (FuncId × FX) := (7, c_MixerNil) :: Γ_awake20
theorem ok_MixerNil : ΓOk Try.prog Γ_MixerNil := ΓOk.cons (c := .pure c_MixerNil) s_MixerNil ok_awake20

theorem MixerNil_walk (kd : Int) (fr : Int) (em : Int) (ki : Int) (od : Int) (ass : Int) (gn : Int) (pn : Int) (pr : Int) (ln : Int) (by_ : Int) (w_kd : (Lit.int .i64 kd).wf = true) (w_fr : (Lit.int .i64 fr).wf = true) (w_em : (Lit.int .i64 em).wf = true) (w_ki : (Lit.int .i64 ki).wf = true) (w_od : (Lit.int .i64 od).wf = true) (w_ass : (Lit.int .i64 ass).wf = true) (w_gn : (Lit.int .i64 gn).wf = true) (w_pn : (Lit.int .i64 pn).wf = true) (w_pr : (Lit.int .i64 pr).wf = true) (w_ln : (Lit.int .i64 ln).wf = true) (w_by_ : (Lit.int .i64 by_).wf = true) (w : World) : Calls Try.prog 7 #[.agg #[.int .i64 kd, .int .i64 fr, .int .i64 em, .int .i64 ki, .int .i64 od, .int .i64 ass, .int .i64 gn, .int .i64 pn, .int .i64 pr, .int .i64 ln, .int .i64 by_]] w fun e w' => e = .returned (.bool true) ∧ Ext w w' :=
  calls_of_fsound s_MixerNil (us := [.v (.agg [.int .i64 false kd, .int .i64 false fr, .int .i64 false em, .int .i64 false ki, .int .i64 false od, .int .i64 false ass, .int .i64 false gn, .int .i64 false pn, .int .i64 false pr, .int .i64 false ln, .int .i64 false by_])]) (p := none) rfl (trivial) rfl rfl w (fun _ hp => absurd hp (by simp [GG]))

end Go.Proofs.Ytljnddhldjaglaa
