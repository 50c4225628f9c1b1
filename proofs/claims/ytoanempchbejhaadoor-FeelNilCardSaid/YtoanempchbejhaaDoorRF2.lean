/- A FEEL THAT IS NOT THERE. Conditions: the contracts' own. Own work; the normal forms were printed by a program of mine (wip/rex). -/
import Derived.Test.YtoanempchbejhaaDoorRF4
namespace Go.Proofs.YtoanempchbejhaaDoor
open Go.RowKit Rex
set_option linter.unusedVariables false
set_option linter.unusedSimpArgs false
set_option maxRecDepth 100000

noncomputable def c_FeelNil : FC := fun us => match us with
  | [.v (.agg [.int .i64 _ kd, .int .i64 _ fr, .int .i64 _ em, .int .i64 _ ki, .int .i64 _ od, .int .i64 _ ass, .int .i64 _ gn, .int .i64 _ pn, .int .i64 _ pr, .int .i64 _ ln, .int .i32 _ ax, .int .i32 _ ay, .int .i64 _ f])] => some (none, .v (.one (.bool false (true))))
  | _ => none
theorem nf_FeelNil (kd : Int) (fr : Int) (em : Int) (ki : Int) (od : Int) (ass : Int) (gn : Int) (pn : Int) (pr : Int) (ln : Int) (ax : Int) (ay : Int) (f : Int) : goal ⟨Mx, Tryd.prog, Γ_awake, Δ0, B0, none, false, [9, 10, 11, 12, 13, 14], none⟩ noL 400 Tryd.f5 [.v (.agg [.int .i64 false kd, .int .i64 false fr, .int .i64 false em, .int .i64 false ki, .int .i64 false od, .int .i64 false ass, .int .i64 false gn, .int .i64 false pn, .int .i64 false pr, .int .i64 false ln, .int .i32 false ax, .int .i32 false ay, .int .i64 false f])] [] (fun r _ => svLe idR r (.v (.one (.bool false (true))))) = ((false = true → false = true) ∧ (false = false → true = true)) := by kernel_rfl
theorem s_FeelNil : FSound Tryd.prog 5 c_FeelNil := by
  refine fsound_of (Ctx.ok_of2 (M := Mx) (N := [9, 10, 11, 12, 13, 14]) mixedA ok_awake okD0 okB0) Tryd.func5 (by kernel_rfl) (by kernel_rfl) ?_
  intro us p v h hp
  unfold c_FeelNil at h
  split at h
  · rename_i k0 kd k1 fr k2 em k3 ki k4 od k5 ass k6 gn k7 pn k8 pr k9 ln k10 ax k11 ay k12 f
    cases h
    refine ⟨rfl, noL, 400, [.v (.agg [.int .i64 false kd, .int .i64 false fr, .int .i64 false em, .int .i64 false ki, .int .i64 false od, .int .i64 false ass, .int .i64 false gn, .int .i64 false pn, .int .i64 false pr, .int .i64 false ln, .int .i32 false ax, .int .i32 false ay, .int .i64 false f])], by simp [tmLe, svLe, vLe, lfLe, lfsLe, ifB, nmIs, idR], rfl, ?_⟩
    rw [nf_FeelNil]
    clear hp
    exact ⟨id, fun _ => rfl⟩
  · cases h
noncomputable def Γ_FeelNil : List (FuncId × FX) := (5, c_FeelNil) :: Γ_awake
theorem ok_FeelNil : ΓOk Tryd.prog Γ_FeelNil := ΓOk.cons (c := .pure c_FeelNil) s_FeelNil ok_awake

theorem FeelNil_walk (kd : Int) (fr : Int) (em : Int) (ki : Int) (od : Int) (ass : Int) (gn : Int) (pn : Int) (pr : Int) (ln : Int) (ax : Int) (ay : Int) (f : Int) (w_kd : (Lit.int .i64 kd).wf = true) (w_fr : (Lit.int .i64 fr).wf = true) (w_em : (Lit.int .i64 em).wf = true) (w_ki : (Lit.int .i64 ki).wf = true) (w_od : (Lit.int .i64 od).wf = true) (w_ass : (Lit.int .i64 ass).wf = true) (w_gn : (Lit.int .i64 gn).wf = true) (w_pn : (Lit.int .i64 pn).wf = true) (w_pr : (Lit.int .i64 pr).wf = true) (w_ln : (Lit.int .i64 ln).wf = true) (w_ax : (Lit.int .i32 ax).wf = true) (w_ay : (Lit.int .i32 ay).wf = true) (w_f : (Lit.int .i64 f).wf = true) (w : World) (hG : Glob w) : Calls Tryd.prog 5 #[.agg #[.int .i64 kd, .int .i64 fr, .int .i64 em, .int .i64 ki, .int .i64 od, .int .i64 ass, .int .i64 gn, .int .i64 pn, .int .i64 pr, .int .i64 ln, .int .i32 ax, .int .i32 ay, .int .i64 f]] w fun e w' => e = .returned (.bool true) ∧ Ext w w' :=
  calls_of_fsound s_FeelNil (us := [.v (.agg [.int .i64 false kd, .int .i64 false fr, .int .i64 false em, .int .i64 false ki, .int .i64 false od, .int .i64 false ass, .int .i64 false gn, .int .i64 false pn, .int .i64 false pr, .int .i64 false ln, .int .i32 false ax, .int .i32 false ay, .int .i64 false f])]) (p := none) rfl (trivial) rfl rfl w hG

end Go.Proofs.YtoanempchbejhaaDoor
