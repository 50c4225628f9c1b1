/- 'TweenSteps' IS TRUE AT EVERY INPUT: the given statement, out of the walk of its Go text. Conditions: none. The frame is the guide's own template (proof-skeleton), turned to 'Below'. -/
import Derived.Test.YtceffompldihjaaRows
import Derived.WalkKit
import Derived.ProofKit
import Derived.OpenShut
import Derived.Test.YtceffompldihjaaRT10
import Derived.Test.YtceffompldihjaaOpen
namespace Go.Proofs.Ytceffompldihjaa.tweenSteps
open Go.ChangeShapes Go.WideShapes Go.ChangeAt Go.RowKit
set_option linter.unusedVariables false

theorem own : ownKnob Try.prog.godebug = none := by kernel_rfl
theorem laidOut : laidOutB Try.prog = true := by kernel_rfl
theorem lv0 : leaves Try.prog 9 33 = some [some .i64, some .u32, some .i64, some .i64, some .i32, some .i32, some .i32, some .i32, some .i64, some .i64, some .i64, some .i64, some .i64, some .i64, some .i32, some .i32, some .i32, some .i32, some .i64, some .i64, some .i64, some .i64, some .i64, some .i64, some .i32, some .i32, some .i32, some .i32, some .i64, some .i64, some .i32, some .i32, some .i32, some .i32, some .i64, some .i64, some .i32, some .i32, some .i32, some .i32, some .i64, some .i64, some .i32, some .i32, some .i32, some .i32, some .i64, some .i64, some .i32, some .i32, some .i32, some .i32, some .i64, some .i64, some .i32, some .i32, some .i32, some .i32, some .i64, some .i64] := by kernel_rfl
theorem lv1 : leaves Try.prog 9 49 = some [some .u8, some .u8] := by kernel_rfl
theorem sh0 : (match Try.prog.underlying 33 with | some (.struct _) | some (.array _ _) => true | _ => false) = true := by kernel_rfl
theorem sh1 : (match Try.prog.underlying 49 with | some (.struct _) | some (.array _ _) => true | _ => false) = true := by kernel_rfl

set_option maxRecDepth 100000 in
theorem lifted (os : Os) (started : os.Started) (H : Type) (enc : TypeId × Value → H) :
    ReturnsInHanded {} Try.checked os 4 .any (Rows.tweenStepsSpec.pre6 enc Try.prog Try.f4 Rows.tweenStepsRow.domain false) (Rows.tweenStepsSpec.post enc Try.prog Try.f4 false true false false) := by
  refine returnsInHanded_of_change (C := Try.checked) own started (by kernel_rfl) Try.func4
    (ChangeSpec.witness6 (enc := enc) (C := Try.checked) false ⟨#[], #[.agg #[.int .i64 0, .int .u32 0, .int .i64 0, .int .i64 0, .int .i32 0, .int .i32 0, .int .i32 0, .int .i32 0, .int .i64 0, .int .i64 0, .int .i64 0, .int .i64 0, .int .i64 0, .int .i64 0, .int .i32 0, .int .i32 0, .int .i32 0, .int .i32 0, .int .i64 0, .int .i64 0, .int .i64 0, .int .i64 0, .int .i64 0, .int .i64 0, .int .i32 0, .int .i32 0, .int .i32 0, .int .i32 0, .int .i64 0, .int .i64 0, .int .i32 0, .int .i32 0, .int .i32 0, .int .i32 0, .int .i64 0, .int .i64 0, .int .i32 0, .int .i32 0, .int .i32 0, .int .i32 0, .int .i64 0, .int .i64 0, .int .i32 0, .int .i32 0, .int .i32 0, .int .i32 0, .int .i64 0, .int .i64 0, .int .i32 0, .int .i32 0, .int .i32 0, .int .i32 0, .int .i64 0, .int .i64 0, .int .i32 0, .int .i32 0, .int .i32 0, .int .i32 0, .int .i64 0, .int .i64 0], .agg #[.int .u8 0, .int .u8 0], .int .u8 0], []⟩ 8 (by kernel_rfl) (by kernel_rfl) (by kernel_rfl) (by kernel_rfl)) ?_
  intro W base args ds gs before hval0 hW hcnd _
  have hval : ∀ (j : Nat) t v, Try.f4.params[j]? = some t → args[j]? = some v → Value.okWide Try.prog W .any base t v := hval0
  have hW' := hW
  obtain ⟨p, q, hA0, hV, rfl, hfz, hnd⟩ := hW
  have hA : DataW.TrodAll enc Try.prog W 0 (fun _ => true) true Try.f4.params.toList args.toList ds p := hA0
  rw [Try.params4] at hA hval
  obtain ⟨v0, vs0, d0, ds0, p0, q0, hargs, rfl, rfl, h0, r0⟩ := trodAll_cons hA
  obtain ⟨v1, vs1, d1, ds1, p1, q1, rfl, rfl, rfl, h1, r1⟩ := trodAll_cons r0
  obtain ⟨v2, vs2, d2, ds2, p2, q2, rfl, rfl, rfl, h2, r2⟩ := trodAll_cons r1
  obtain ⟨rfl, rfl, rfl⟩ := trodAll_nil r2
  obtain rfl : args = #[v0, v1, v2] := by cases args; simp_all
  obtain ⟨rfl, rfl⟩ := trodVars_none hV
  have k0 := h0
  have lt0 : ∀ x ∈ p0, x.block < W.heap.size := by obtain ⟨m, hm⟩ := k0; exact DataW.trod_lt m _ _ _ hm
  obtain ⟨cs0, rfl, al0⟩ := open_flat lv0 sh0 (hval 0 33 v0 rfl rfl) h0
  obtain ⟨_, _, rfl, ⟨a0_0, rfl, w0_0⟩, al0_0⟩ := AllFit.cons_inv al0
  obtain ⟨_, _, rfl, ⟨a0_1, rfl, w0_1⟩, al0_1⟩ := AllFit.cons_inv al0_0
  obtain ⟨_, _, rfl, ⟨a0_2, rfl, w0_2⟩, al0_2⟩ := AllFit.cons_inv al0_1
  obtain ⟨_, _, rfl, ⟨a0_3, rfl, w0_3⟩, al0_3⟩ := AllFit.cons_inv al0_2
  obtain ⟨_, _, rfl, ⟨a0_4, rfl, w0_4⟩, al0_4⟩ := AllFit.cons_inv al0_3
  obtain ⟨_, _, rfl, ⟨a0_5, rfl, w0_5⟩, al0_5⟩ := AllFit.cons_inv al0_4
  obtain ⟨_, _, rfl, ⟨a0_6, rfl, w0_6⟩, al0_6⟩ := AllFit.cons_inv al0_5
  obtain ⟨_, _, rfl, ⟨a0_7, rfl, w0_7⟩, al0_7⟩ := AllFit.cons_inv al0_6
  obtain ⟨_, _, rfl, ⟨a0_8, rfl, w0_8⟩, al0_8⟩ := AllFit.cons_inv al0_7
  obtain ⟨_, _, rfl, ⟨a0_9, rfl, w0_9⟩, al0_9⟩ := AllFit.cons_inv al0_8
  obtain ⟨_, _, rfl, ⟨a0_10, rfl, w0_10⟩, al0_10⟩ := AllFit.cons_inv al0_9
  obtain ⟨_, _, rfl, ⟨a0_11, rfl, w0_11⟩, al0_11⟩ := AllFit.cons_inv al0_10
  obtain ⟨_, _, rfl, ⟨a0_12, rfl, w0_12⟩, al0_12⟩ := AllFit.cons_inv al0_11
  obtain ⟨_, _, rfl, ⟨a0_13, rfl, w0_13⟩, al0_13⟩ := AllFit.cons_inv al0_12
  obtain ⟨_, _, rfl, ⟨a0_14, rfl, w0_14⟩, al0_14⟩ := AllFit.cons_inv al0_13
  obtain ⟨_, _, rfl, ⟨a0_15, rfl, w0_15⟩, al0_15⟩ := AllFit.cons_inv al0_14
  obtain ⟨_, _, rfl, ⟨a0_16, rfl, w0_16⟩, al0_16⟩ := AllFit.cons_inv al0_15
  obtain ⟨_, _, rfl, ⟨a0_17, rfl, w0_17⟩, al0_17⟩ := AllFit.cons_inv al0_16
  obtain ⟨_, _, rfl, ⟨a0_18, rfl, w0_18⟩, al0_18⟩ := AllFit.cons_inv al0_17
  obtain ⟨_, _, rfl, ⟨a0_19, rfl, w0_19⟩, al0_19⟩ := AllFit.cons_inv al0_18
  obtain ⟨_, _, rfl, ⟨a0_20, rfl, w0_20⟩, al0_20⟩ := AllFit.cons_inv al0_19
  obtain ⟨_, _, rfl, ⟨a0_21, rfl, w0_21⟩, al0_21⟩ := AllFit.cons_inv al0_20
  obtain ⟨_, _, rfl, ⟨a0_22, rfl, w0_22⟩, al0_22⟩ := AllFit.cons_inv al0_21
  obtain ⟨_, _, rfl, ⟨a0_23, rfl, w0_23⟩, al0_23⟩ := AllFit.cons_inv al0_22
  obtain ⟨_, _, rfl, ⟨a0_24, rfl, w0_24⟩, al0_24⟩ := AllFit.cons_inv al0_23
  obtain ⟨_, _, rfl, ⟨a0_25, rfl, w0_25⟩, al0_25⟩ := AllFit.cons_inv al0_24
  obtain ⟨_, _, rfl, ⟨a0_26, rfl, w0_26⟩, al0_26⟩ := AllFit.cons_inv al0_25
  obtain ⟨_, _, rfl, ⟨a0_27, rfl, w0_27⟩, al0_27⟩ := AllFit.cons_inv al0_26
  obtain ⟨_, _, rfl, ⟨a0_28, rfl, w0_28⟩, al0_28⟩ := AllFit.cons_inv al0_27
  obtain ⟨_, _, rfl, ⟨a0_29, rfl, w0_29⟩, al0_29⟩ := AllFit.cons_inv al0_28
  obtain ⟨_, _, rfl, ⟨a0_30, rfl, w0_30⟩, al0_30⟩ := AllFit.cons_inv al0_29
  obtain ⟨_, _, rfl, ⟨a0_31, rfl, w0_31⟩, al0_31⟩ := AllFit.cons_inv al0_30
  obtain ⟨_, _, rfl, ⟨a0_32, rfl, w0_32⟩, al0_32⟩ := AllFit.cons_inv al0_31
  obtain ⟨_, _, rfl, ⟨a0_33, rfl, w0_33⟩, al0_33⟩ := AllFit.cons_inv al0_32
  obtain ⟨_, _, rfl, ⟨a0_34, rfl, w0_34⟩, al0_34⟩ := AllFit.cons_inv al0_33
  obtain ⟨_, _, rfl, ⟨a0_35, rfl, w0_35⟩, al0_35⟩ := AllFit.cons_inv al0_34
  obtain ⟨_, _, rfl, ⟨a0_36, rfl, w0_36⟩, al0_36⟩ := AllFit.cons_inv al0_35
  obtain ⟨_, _, rfl, ⟨a0_37, rfl, w0_37⟩, al0_37⟩ := AllFit.cons_inv al0_36
  obtain ⟨_, _, rfl, ⟨a0_38, rfl, w0_38⟩, al0_38⟩ := AllFit.cons_inv al0_37
  obtain ⟨_, _, rfl, ⟨a0_39, rfl, w0_39⟩, al0_39⟩ := AllFit.cons_inv al0_38
  obtain ⟨_, _, rfl, ⟨a0_40, rfl, w0_40⟩, al0_40⟩ := AllFit.cons_inv al0_39
  obtain ⟨_, _, rfl, ⟨a0_41, rfl, w0_41⟩, al0_41⟩ := AllFit.cons_inv al0_40
  obtain ⟨_, _, rfl, ⟨a0_42, rfl, w0_42⟩, al0_42⟩ := AllFit.cons_inv al0_41
  obtain ⟨_, _, rfl, ⟨a0_43, rfl, w0_43⟩, al0_43⟩ := AllFit.cons_inv al0_42
  obtain ⟨_, _, rfl, ⟨a0_44, rfl, w0_44⟩, al0_44⟩ := AllFit.cons_inv al0_43
  obtain ⟨_, _, rfl, ⟨a0_45, rfl, w0_45⟩, al0_45⟩ := AllFit.cons_inv al0_44
  obtain ⟨_, _, rfl, ⟨a0_46, rfl, w0_46⟩, al0_46⟩ := AllFit.cons_inv al0_45
  obtain ⟨_, _, rfl, ⟨a0_47, rfl, w0_47⟩, al0_47⟩ := AllFit.cons_inv al0_46
  obtain ⟨_, _, rfl, ⟨a0_48, rfl, w0_48⟩, al0_48⟩ := AllFit.cons_inv al0_47
  obtain ⟨_, _, rfl, ⟨a0_49, rfl, w0_49⟩, al0_49⟩ := AllFit.cons_inv al0_48
  obtain ⟨_, _, rfl, ⟨a0_50, rfl, w0_50⟩, al0_50⟩ := AllFit.cons_inv al0_49
  obtain ⟨_, _, rfl, ⟨a0_51, rfl, w0_51⟩, al0_51⟩ := AllFit.cons_inv al0_50
  obtain ⟨_, _, rfl, ⟨a0_52, rfl, w0_52⟩, al0_52⟩ := AllFit.cons_inv al0_51
  obtain ⟨_, _, rfl, ⟨a0_53, rfl, w0_53⟩, al0_53⟩ := AllFit.cons_inv al0_52
  obtain ⟨_, _, rfl, ⟨a0_54, rfl, w0_54⟩, al0_54⟩ := AllFit.cons_inv al0_53
  obtain ⟨_, _, rfl, ⟨a0_55, rfl, w0_55⟩, al0_55⟩ := AllFit.cons_inv al0_54
  obtain ⟨_, _, rfl, ⟨a0_56, rfl, w0_56⟩, al0_56⟩ := AllFit.cons_inv al0_55
  obtain ⟨_, _, rfl, ⟨a0_57, rfl, w0_57⟩, al0_57⟩ := AllFit.cons_inv al0_56
  obtain ⟨_, _, rfl, ⟨a0_58, rfl, w0_58⟩, al0_58⟩ := AllFit.cons_inv al0_57
  obtain ⟨_, _, rfl, ⟨a0_59, rfl, w0_59⟩, al0_59⟩ := AllFit.cons_inv al0_58
  obtain rfl := AllFit.nil_inv al0_59
  have k1 := h1
  have lt1 : ∀ x ∈ p1, x.block < W.heap.size := by obtain ⟨m, hm⟩ := k1; exact DataW.trod_lt m _ _ _ hm
  obtain ⟨cs1, rfl, al1⟩ := open_flat lv1 sh1 (hval 1 49 v1 rfl rfl) h1
  obtain ⟨_, _, rfl, ⟨a1_0, rfl, w1_0⟩, al1_0⟩ := AllFit.cons_inv al1
  obtain ⟨_, _, rfl, ⟨a1_1, rfl, w1_1⟩, al1_1⟩ := AllFit.cons_inv al1_0
  obtain rfl := AllFit.nil_inv al1_1
  obtain ⟨a2, rfl, rfl, rfl, w2⟩ := open_int Try.underlying5 (hval 2 5 v2 rfl rfl) h2
  clear hA0 hval0
  refine (TweenSteps_walk a0_0 a0_1 a0_2 a0_3 a0_4 a0_5 a0_6 a0_7 a0_8 a0_9 a0_10 a0_11 a0_12 a0_13 a0_14 a0_15 a0_16 a0_17 a0_18 a0_19 a0_20 a0_21 a0_22 a0_23 a0_24 a0_25 a0_26 a0_27 a0_28 a0_29 a0_30 a0_31 a0_32 a0_33 a0_34 a0_35 a0_36 a0_37 a0_38 a0_39 a0_40 a0_41 a0_42 a0_43 a0_44 a0_45 a0_46 a0_47 a0_48 a0_49 a0_50 a0_51 a0_52 a0_53 a0_54 a0_55 a0_56 a0_57 a0_58 a0_59 a1_0 a1_1 a2 w0_0 w0_1 w0_2 w0_3 w0_4 w0_5 w0_6 w0_7 w0_8 w0_9 w0_10 w0_11 w0_12 w0_13 w0_14 w0_15 w0_16 w0_17 w0_18 w0_19 w0_20 w0_21 w0_22 w0_23 w0_24 w0_25 w0_26 w0_27 w0_28 w0_29 w0_30 w0_31 w0_32 w0_33 w0_34 w0_35 w0_36 w0_37 w0_38 w0_39 w0_40 w0_41 w0_42 w0_43 w0_44 w0_45 w0_46 w0_47 w0_48 w0_49 w0_50 w0_51 w0_52 w0_53 w0_54 w0_55 w0_56 w0_57 w0_58 w0_59 w1_0 w1_1 w2 W).mono fun e W' ⟨he, hx⟩ => ?_
  have bel : Below W.heap.size W W' := hx
  subst he
  exact ⟨_, rfl, _, _, _, [], _, [], hW', trodAll_mk1 (shut_bool Try.underlying4 _), (trodAll_cons_mk (Below.trod laidOut (by kernel_rfl) (of_decide_eq_true (by kernel_rfl)) k0 bel lt0) (trodAll_cons_mk (Below.trod laidOut (by kernel_rfl) (of_decide_eq_true (by kernel_rfl)) k1 bel lt1) (trodAll_cons_mk (shut_int Try.underlying5 w2) trodAll_mk0))), rfl, bel.frame _, fun h => by cases h⟩

theorem over : Rows.tweenStepsRow.holds Try.pinned (OpenSpec.ofChange Rows.tweenStepsSpec) :=
  OpenClaim.holds_of_wide 4 Try.f4 rfl rfl rfl rfl rfl rfl rfl ⟨rfl, rfl, rfl, rfl, rfl⟩ rfl rfl rfl rfl rfl (by kernel_rfl) Try.func4 (by kernel_rfl)
    (of_decide_eq_true (by kernel_rfl)) (by unfold Func.isWrapper; rw [if_neg (by decide +kernel)]; exact ⟨rfl, rfl⟩)
    (fun os started H enc _ => lifted os started H enc)

/-- THE STATEMENT. -/
theorem proved : Rows.TweenStepsSaid :=
  over
#print axioms proved
end Go.Proofs.Ytceffompldihjaa.tweenSteps
