/- 'TweenShifts' IS TRUE AT EVERY INPUT: the given statement, out of the walk of its Go text. Conditions: none. The frame is the guide's own template (proof-skeleton), turned to 'Below'. -/
import Derived.Test.YteogppcalekfaaaRows
import Derived.WalkKit
import Derived.ProofKit
import Derived.OpenShut
import Derived.Test.YteogppcalekfaaaRT2
import Derived.Test.YteogppcalekfaaaOpen
namespace Go.Proofs.Yteogppcalekfaaa.tweenShifts
open Go.ChangeShapes Go.WideShapes Go.ChangeAt Go.RowKit
set_option linter.unusedVariables false

theorem own : ownKnob Try.prog.godebug = none := by kernel_rfl
theorem laidOut : laidOutB Try.prog = true := by kernel_rfl
theorem lv0 : leaves Try.prog 9 49 = some [some .i32, some .i32, some .i64, none, some .i32, some .i32, some .i64, none, some .i32, some .i32, some .i64, some .i32, some .i32, some .i64, some .i32, some .i32, some .i64, some .i32, some .i32, some .i64, some .i32, some .i32, some .i64, some .i32, some .i32, some .i64] := by kernel_rfl
theorem lv1 : leaves Try.prog 9 49 = some [some .i32, some .i32, some .i64, none, some .i32, some .i32, some .i64, none, some .i32, some .i32, some .i64, some .i32, some .i32, some .i64, some .i32, some .i32, some .i64, some .i32, some .i32, some .i64, some .i32, some .i32, some .i64, some .i32, some .i32, some .i64] := by kernel_rfl
theorem lv2 : leaves Try.prog 9 29 = some [some .i32, some .i32, some .i32, some .i32] := by kernel_rfl
theorem sh0 : (match Try.prog.underlying 49 with | some (.struct _) | some (.array _ _) => true | _ => false) = true := by kernel_rfl
theorem sh1 : (match Try.prog.underlying 49 with | some (.struct _) | some (.array _ _) => true | _ => false) = true := by kernel_rfl
theorem sh2 : (match Try.prog.underlying 29 with | some (.struct _) | some (.array _ _) => true | _ => false) = true := by kernel_rfl

set_option maxRecDepth 100000 in
theorem lifted (os : Os) (started : os.Started) (H : Type) (enc : TypeId × Value → H) :
    ReturnsInHanded {} Try.checked os 7 .any (Rows.tweenShiftsSpec.pre6 enc Try.prog Try.f7 Rows.tweenShiftsRow.domain false) (Rows.tweenShiftsSpec.post enc Try.prog Try.f7 false true false false) := by
  refine returnsInHanded_of_change (C := Try.checked) own started (by kernel_rfl) Try.func7
    (ChangeSpec.witness6 (enc := enc) (C := Try.checked) false ⟨#[], #[.agg #[.int .i32 0, .int .i32 0, .int .i64 0, .bool false, .int .i32 0, .int .i32 0, .int .i64 0, .bool false, .int .i32 0, .int .i32 0, .int .i64 0, .int .i32 0, .int .i32 0, .int .i64 0, .int .i32 0, .int .i32 0, .int .i64 0, .int .i32 0, .int .i32 0, .int .i64 0, .int .i32 0, .int .i32 0, .int .i64 0, .int .i32 0, .int .i32 0, .int .i64 0], .agg #[.int .i32 0, .int .i32 0, .int .i64 0, .bool false, .int .i32 0, .int .i32 0, .int .i64 0, .bool false, .int .i32 0, .int .i32 0, .int .i64 0, .int .i32 0, .int .i32 0, .int .i64 0, .int .i32 0, .int .i32 0, .int .i64 0, .int .i32 0, .int .i32 0, .int .i64 0, .int .i32 0, .int .i32 0, .int .i64 0, .int .i32 0, .int .i32 0, .int .i64 0], .agg #[.int .i32 0, .int .i32 0, .int .i32 0, .int .i32 0]], []⟩ 8 (by kernel_rfl) (by kernel_rfl) (by kernel_rfl) (by kernel_rfl)) ?_
  intro W base args ds gs before hval0 hW hcnd _
  have hval : ∀ (j : Nat) t v, Try.f7.params[j]? = some t → args[j]? = some v → Value.okWide Try.prog W .any base t v := hval0
  have hW' := hW
  obtain ⟨p, q, hA0, hV, rfl, hfz, hnd⟩ := hW
  have hA : DataW.TrodAll enc Try.prog W 0 (fun _ => true) true Try.f7.params.toList args.toList ds p := hA0
  rw [Try.params7] at hA hval
  obtain ⟨v0, vs0, d0, ds0, p0, q0, hargs, rfl, rfl, h0, r0⟩ := trodAll_cons hA
  obtain ⟨v1, vs1, d1, ds1, p1, q1, rfl, rfl, rfl, h1, r1⟩ := trodAll_cons r0
  obtain ⟨v2, vs2, d2, ds2, p2, q2, rfl, rfl, rfl, h2, r2⟩ := trodAll_cons r1
  obtain ⟨rfl, rfl, rfl⟩ := trodAll_nil r2
  obtain rfl : args = #[v0, v1, v2] := by cases args; simp_all
  obtain ⟨rfl, rfl⟩ := trodVars_none hV
  have k0 := h0
  have lt0 : ∀ x ∈ p0, x.block < W.heap.size := by obtain ⟨m, hm⟩ := k0; exact DataW.trod_lt m _ _ _ hm
  obtain ⟨cs0, rfl, al0⟩ := open_flat lv0 sh0 (hval 0 49 v0 rfl rfl) h0
  obtain ⟨_, _, rfl, ⟨a0_0, rfl, w0_0⟩, al0_0⟩ := AllFit.cons_inv al0
  obtain ⟨_, _, rfl, ⟨a0_1, rfl, w0_1⟩, al0_1⟩ := AllFit.cons_inv al0_0
  obtain ⟨_, _, rfl, ⟨a0_2, rfl, w0_2⟩, al0_2⟩ := AllFit.cons_inv al0_1
  obtain ⟨_, _, rfl, ⟨a0_3, rfl⟩, al0_3⟩ := AllFit.cons_inv al0_2
  obtain ⟨_, _, rfl, ⟨a0_4, rfl, w0_4⟩, al0_4⟩ := AllFit.cons_inv al0_3
  obtain ⟨_, _, rfl, ⟨a0_5, rfl, w0_5⟩, al0_5⟩ := AllFit.cons_inv al0_4
  obtain ⟨_, _, rfl, ⟨a0_6, rfl, w0_6⟩, al0_6⟩ := AllFit.cons_inv al0_5
  obtain ⟨_, _, rfl, ⟨a0_7, rfl⟩, al0_7⟩ := AllFit.cons_inv al0_6
  obtain ⟨_, _, rfl, ⟨a0_8, rfl, w0_8⟩, al0_8⟩ := AllFit.cons_inv al0_7
  obtain ⟨_, _, rfl, ⟨a0_9, rfl, w0_9⟩, al0_9⟩ := AllFit.cons_inv al0_8
  obtain ⟨_, _, rfl, ⟨a0_10, rfl, w0_10⟩, al0_10⟩ := AllFit.cons_inv al0_9
  obtain ⟨_, _, rfl, ⟨a0_11, rfl, w0_11⟩, al0_11⟩ := AllFit.cons_inv al0_10
  obtain ⟨_, _, rfl, ⟨a0_12, rfl, w0_12⟩, al0_12⟩ := AllFit.cons_inv al0_11
  obtain ⟨_, _, rfl, ⟨a0_13, rfl, w0_13⟩, al0_13⟩ := AllFit.cons_inv al0_12
  obtain ⟨_, _, rfl, ⟨a0_14, rfl, w0_14⟩, al0_14⟩ := AllFit.cons_inv al0_13
  obtain ⟨_, _, rfl, ⟨a0_15, rfl, w0_15⟩, al0_15⟩ := AllFit.cons_inv al0_14
  obtain ⟨_, _, rfl, ⟨a0_16, rfl, w0_16⟩, al0_16⟩ := AllFit.cons_inv al0_15
  obtain ⟨_, _, rfl, ⟨a0_17, rfl, w0_17⟩, al0_17⟩ := AllFit.cons_inv al0_16
  obtain ⟨_, _, rfl, ⟨a0_18, rfl, w0_18⟩, al0_18⟩ := AllFit.cons_inv al0_17
  obtain ⟨_, _, rfl, ⟨a0_19, rfl, w0_19⟩, al0_19⟩ := AllFit.cons_inv al0_18
  obtain ⟨_, _, rfl, ⟨a0_20, rfl, w0_20⟩, al0_20⟩ := AllFit.cons_inv al0_19
  obtain ⟨_, _, rfl, ⟨a0_21, rfl, w0_21⟩, al0_21⟩ := AllFit.cons_inv al0_20
  obtain ⟨_, _, rfl, ⟨a0_22, rfl, w0_22⟩, al0_22⟩ := AllFit.cons_inv al0_21
  obtain ⟨_, _, rfl, ⟨a0_23, rfl, w0_23⟩, al0_23⟩ := AllFit.cons_inv al0_22
  obtain ⟨_, _, rfl, ⟨a0_24, rfl, w0_24⟩, al0_24⟩ := AllFit.cons_inv al0_23
  obtain ⟨_, _, rfl, ⟨a0_25, rfl, w0_25⟩, al0_25⟩ := AllFit.cons_inv al0_24
  obtain rfl := AllFit.nil_inv al0_25
  have k1 := h1
  have lt1 : ∀ x ∈ p1, x.block < W.heap.size := by obtain ⟨m, hm⟩ := k1; exact DataW.trod_lt m _ _ _ hm
  obtain ⟨cs1, rfl, al1⟩ := open_flat lv1 sh1 (hval 1 49 v1 rfl rfl) h1
  obtain ⟨_, _, rfl, ⟨a1_0, rfl, w1_0⟩, al1_0⟩ := AllFit.cons_inv al1
  obtain ⟨_, _, rfl, ⟨a1_1, rfl, w1_1⟩, al1_1⟩ := AllFit.cons_inv al1_0
  obtain ⟨_, _, rfl, ⟨a1_2, rfl, w1_2⟩, al1_2⟩ := AllFit.cons_inv al1_1
  obtain ⟨_, _, rfl, ⟨a1_3, rfl⟩, al1_3⟩ := AllFit.cons_inv al1_2
  obtain ⟨_, _, rfl, ⟨a1_4, rfl, w1_4⟩, al1_4⟩ := AllFit.cons_inv al1_3
  obtain ⟨_, _, rfl, ⟨a1_5, rfl, w1_5⟩, al1_5⟩ := AllFit.cons_inv al1_4
  obtain ⟨_, _, rfl, ⟨a1_6, rfl, w1_6⟩, al1_6⟩ := AllFit.cons_inv al1_5
  obtain ⟨_, _, rfl, ⟨a1_7, rfl⟩, al1_7⟩ := AllFit.cons_inv al1_6
  obtain ⟨_, _, rfl, ⟨a1_8, rfl, w1_8⟩, al1_8⟩ := AllFit.cons_inv al1_7
  obtain ⟨_, _, rfl, ⟨a1_9, rfl, w1_9⟩, al1_9⟩ := AllFit.cons_inv al1_8
  obtain ⟨_, _, rfl, ⟨a1_10, rfl, w1_10⟩, al1_10⟩ := AllFit.cons_inv al1_9
  obtain ⟨_, _, rfl, ⟨a1_11, rfl, w1_11⟩, al1_11⟩ := AllFit.cons_inv al1_10
  obtain ⟨_, _, rfl, ⟨a1_12, rfl, w1_12⟩, al1_12⟩ := AllFit.cons_inv al1_11
  obtain ⟨_, _, rfl, ⟨a1_13, rfl, w1_13⟩, al1_13⟩ := AllFit.cons_inv al1_12
  obtain ⟨_, _, rfl, ⟨a1_14, rfl, w1_14⟩, al1_14⟩ := AllFit.cons_inv al1_13
  obtain ⟨_, _, rfl, ⟨a1_15, rfl, w1_15⟩, al1_15⟩ := AllFit.cons_inv al1_14
  obtain ⟨_, _, rfl, ⟨a1_16, rfl, w1_16⟩, al1_16⟩ := AllFit.cons_inv al1_15
  obtain ⟨_, _, rfl, ⟨a1_17, rfl, w1_17⟩, al1_17⟩ := AllFit.cons_inv al1_16
  obtain ⟨_, _, rfl, ⟨a1_18, rfl, w1_18⟩, al1_18⟩ := AllFit.cons_inv al1_17
  obtain ⟨_, _, rfl, ⟨a1_19, rfl, w1_19⟩, al1_19⟩ := AllFit.cons_inv al1_18
  obtain ⟨_, _, rfl, ⟨a1_20, rfl, w1_20⟩, al1_20⟩ := AllFit.cons_inv al1_19
  obtain ⟨_, _, rfl, ⟨a1_21, rfl, w1_21⟩, al1_21⟩ := AllFit.cons_inv al1_20
  obtain ⟨_, _, rfl, ⟨a1_22, rfl, w1_22⟩, al1_22⟩ := AllFit.cons_inv al1_21
  obtain ⟨_, _, rfl, ⟨a1_23, rfl, w1_23⟩, al1_23⟩ := AllFit.cons_inv al1_22
  obtain ⟨_, _, rfl, ⟨a1_24, rfl, w1_24⟩, al1_24⟩ := AllFit.cons_inv al1_23
  obtain ⟨_, _, rfl, ⟨a1_25, rfl, w1_25⟩, al1_25⟩ := AllFit.cons_inv al1_24
  obtain rfl := AllFit.nil_inv al1_25
  have k2 := h2
  have lt2 : ∀ x ∈ p2, x.block < W.heap.size := by obtain ⟨m, hm⟩ := k2; exact DataW.trod_lt m _ _ _ hm
  obtain ⟨cs2, rfl, al2⟩ := open_flat lv2 sh2 (hval 2 29 v2 rfl rfl) h2
  obtain ⟨_, _, rfl, ⟨a2_0, rfl, w2_0⟩, al2_0⟩ := AllFit.cons_inv al2
  obtain ⟨_, _, rfl, ⟨a2_1, rfl, w2_1⟩, al2_1⟩ := AllFit.cons_inv al2_0
  obtain ⟨_, _, rfl, ⟨a2_2, rfl, w2_2⟩, al2_2⟩ := AllFit.cons_inv al2_1
  obtain ⟨_, _, rfl, ⟨a2_3, rfl, w2_3⟩, al2_3⟩ := AllFit.cons_inv al2_2
  obtain rfl := AllFit.nil_inv al2_3
  clear hA0 hval0
  refine (TweenShifts_walk a0_0 a0_1 a0_2 a0_3 a0_4 a0_5 a0_6 a0_7 a0_8 a0_9 a0_10 a0_11 a0_12 a0_13 a0_14 a0_15 a0_16 a0_17 a0_18 a0_19 a0_20 a0_21 a0_22 a0_23 a0_24 a0_25 a1_0 a1_1 a1_2 a1_3 a1_4 a1_5 a1_6 a1_7 a1_8 a1_9 a1_10 a1_11 a1_12 a1_13 a1_14 a1_15 a1_16 a1_17 a1_18 a1_19 a1_20 a1_21 a1_22 a1_23 a1_24 a1_25 a2_0 a2_1 a2_2 a2_3 w0_0 w0_1 w0_2 w0_4 w0_5 w0_6 w0_8 w0_9 w0_10 w0_11 w0_12 w0_13 w0_14 w0_15 w0_16 w0_17 w0_18 w0_19 w0_20 w0_21 w0_22 w0_23 w0_24 w0_25 w1_0 w1_1 w1_2 w1_4 w1_5 w1_6 w1_8 w1_9 w1_10 w1_11 w1_12 w1_13 w1_14 w1_15 w1_16 w1_17 w1_18 w1_19 w1_20 w1_21 w1_22 w1_23 w1_24 w1_25 w2_0 w2_1 w2_2 w2_3 W).mono fun e W' ⟨he, hx⟩ => ?_
  have bel : Below W.heap.size W W' := hx
  subst he
  exact ⟨_, rfl, _, _, _, [], _, [], hW', trodAll_mk1 (shut_bool Try.underlying4 _), (trodAll_cons_mk (Below.trod laidOut (by kernel_rfl) (of_decide_eq_true (by kernel_rfl)) k0 bel lt0) (trodAll_cons_mk (Below.trod laidOut (by kernel_rfl) (of_decide_eq_true (by kernel_rfl)) k1 bel lt1) (trodAll_cons_mk (Below.trod laidOut (by kernel_rfl) (of_decide_eq_true (by kernel_rfl)) k2 bel lt2) trodAll_mk0))), rfl, bel.frame _, fun h => by cases h⟩

theorem over : Rows.tweenShiftsRow.holds Try.pinned (OpenSpec.ofChange Rows.tweenShiftsSpec) :=
  OpenClaim.holds_of_wide 7 Try.f7 rfl rfl rfl rfl rfl rfl rfl ⟨rfl, rfl, rfl, rfl, rfl⟩ rfl rfl rfl rfl rfl (by kernel_rfl) Try.func7 (by kernel_rfl)
    (of_decide_eq_true (by kernel_rfl)) (by unfold Func.isWrapper; rw [if_neg (by decide +kernel)]; exact ⟨rfl, rfl⟩)
    (fun os started H enc _ => lifted os started H enc)

/-- THE STATEMENT. -/
theorem proved : Rows.TweenShiftsSaid :=
  over
#print axioms proved
end Go.Proofs.Yteogppcalekfaaa.tweenShifts
