/- 'MixerNil' IS TRUE AT EVERY INPUT: the given statement, out of the walk of its Go text. Conditions: none. The frame is the guide's own template (proof-skeleton), turned to 'Below'. -/
import Derived.Test.YtljnddhldjaglaaRows
import Derived.WalkKit
import Derived.ProofKit
import Derived.OpenShut
import Derived.Test.YtljnddhldjaglaaRM11
import Derived.Test.YtljnddhldjaglaaOpen
namespace Go.Proofs.Ytljnddhldjaglaa.mixerNil
open Go.ChangeShapes Go.WideShapes Go.ChangeAt Go.RowKit
set_option linter.unusedVariables false

theorem own : ownKnob Try.prog.godebug = none := by kernel_rfl
theorem laidOut : laidOutB Try.prog = true := by kernel_rfl
theorem lv0 : leaves Try.prog 9 37 = some [some .i64, some .i64, some .i64, some .i64, some .i64, some .i64, some .i64, some .i64, some .i64, some .i64, some .i64] := by kernel_rfl
theorem sh0 : (match Try.prog.underlying 37 with | some (.struct _) | some (.array _ _) => true | _ => false) = true := by kernel_rfl

set_option maxRecDepth 100000 in
theorem lifted (os : Os) (started : os.Started) (H : Type) (enc : TypeId × Value → H) :
    ReturnsInHanded {} Try.checked os 7 .any (Rows.mixerNilSpec.pre6 enc Try.prog Try.f7 Rows.mixerNilRow.domain false) (Rows.mixerNilSpec.post enc Try.prog Try.f7 false true false false) := by
  refine returnsInHanded_of_change (C := Try.checked) own started (by kernel_rfl) Try.func7
    (ChangeSpec.witness6 (enc := enc) (C := Try.checked) false ⟨#[], #[.agg #[.int .i64 0, .int .i64 0, .int .i64 0, .int .i64 0, .int .i64 0, .int .i64 0, .int .i64 0, .int .i64 0, .int .i64 0, .int .i64 0, .int .i64 0]], []⟩ 8 (by kernel_rfl) (by kernel_rfl) (by kernel_rfl) (by kernel_rfl)) ?_
  intro W base args ds gs before hval0 hW hcnd _
  have hval : ∀ (j : Nat) t v, Try.f7.params[j]? = some t → args[j]? = some v → Value.okWide Try.prog W .any base t v := hval0
  have hW' := hW
  obtain ⟨p, q, hA0, hV, rfl, hfz, hnd⟩ := hW
  have hA : DataW.TrodAll enc Try.prog W 0 (fun _ => true) true Try.f7.params.toList args.toList ds p := hA0
  rw [Try.params7] at hA hval
  obtain ⟨v0, vs0, d0, ds0, p0, q0, hargs, rfl, rfl, h0, r0⟩ := trodAll_cons hA
  obtain ⟨rfl, rfl, rfl⟩ := trodAll_nil r0
  obtain rfl : args = #[v0] := by cases args; simp_all
  obtain ⟨rfl, rfl⟩ := trodVars_none hV
  have k0 := h0
  have lt0 : ∀ x ∈ p0, x.block < W.heap.size := by obtain ⟨m, hm⟩ := k0; exact DataW.trod_lt m _ _ _ hm
  obtain ⟨cs0, rfl, al0⟩ := open_flat lv0 sh0 (hval 0 37 v0 rfl rfl) h0
  obtain ⟨_, _, rfl, ⟨a0_0, rfl, w0_0⟩, al0_0⟩ := AllFit.cons_inv al0
  obtain ⟨_, _, rfl, ⟨a0_1, rfl, w0_1⟩, al0_1⟩ := AllFit.cons_inv al0_0
  obtain ⟨_, _, rfl, ⟨a0_2, rfl, w0_2⟩, al0_2⟩ := AllFit.cons_inv al0_1
  obtain ⟨_, _, rfl, ⟨a0_3, rfl, w0_3⟩, al0_3⟩ := AllFit.cons_inv al0_2
  obtain ⟨_, _, rfl, ⟨a0_4, rfl, w0_4⟩, al0_4⟩ := AllFit.cons_inv al0_3
  obtain ⟨_, _, rfl, ⟨a0_5, rfl, w0_5⟩, al0_5⟩ := AllFit.cons_inv al0_4
  obtain ⟨_, _, rfl, ⟨a0_6, rfl, w0_6⟩, al0_6⟩ := AllFit.cons_inv al0_5
  obtain ⟨_, _, rfl, ⟨a0_7, rfl, w0_7⟩, al0_7⟩ := AllFit.cons_inv al0_6
  obtain ⟨_, _, rfl, ⟨a0_8, rfl, w0_8⟩, al0_8⟩ := AllFit.cons_inv al0_7
  obtain ⟨_, _, rfl, ⟨a0_9, rfl, w0_9⟩, al0_9⟩ := AllFit.cons_inv al0_8
  obtain ⟨_, _, rfl, ⟨a0_10, rfl, w0_10⟩, al0_10⟩ := AllFit.cons_inv al0_9
  obtain rfl := AllFit.nil_inv al0_10
  clear hA0 hval0
  refine (MixerNil_walk a0_0 a0_1 a0_2 a0_3 a0_4 a0_5 a0_6 a0_7 a0_8 a0_9 a0_10 w0_0 w0_1 w0_2 w0_3 w0_4 w0_5 w0_6 w0_7 w0_8 w0_9 w0_10 W).mono fun e W' ⟨he, hx⟩ => ?_
  have bel : Below W.heap.size W W' := hx
  subst he
  exact ⟨_, rfl, _, _, _, [], _, [], hW', trodAll_mk1 (shut_bool Try.underlying4 _), (trodAll_cons_mk (Below.trod laidOut (by kernel_rfl) (of_decide_eq_true (by kernel_rfl)) k0 bel lt0) trodAll_mk0), rfl, bel.frame _, fun h => by cases h⟩

theorem over : Rows.mixerNilRow.holds Try.pinned (OpenSpec.ofChange Rows.mixerNilSpec) :=
  OpenClaim.holds_of_wide 7 Try.f7 rfl rfl rfl rfl rfl rfl rfl ⟨rfl, rfl, rfl, rfl, rfl⟩ rfl rfl rfl rfl rfl (by kernel_rfl) Try.func7 (by kernel_rfl)
    (of_decide_eq_true (by kernel_rfl)) (by unfold Func.isWrapper; rw [if_neg (by decide +kernel)]; exact ⟨rfl, rfl⟩)
    (fun os started H enc _ => lifted os started H enc)

/-- THE STATEMENT. -/
theorem proved : Rows.MixerNilSaid :=
  over
#print axioms proved
end Go.Proofs.Ytljnddhldjaglaa.mixerNil
