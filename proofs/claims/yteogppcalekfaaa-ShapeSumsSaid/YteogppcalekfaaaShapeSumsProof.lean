/- 'ShapeSums' IS TRUE AT EVERY INPUT: the given statement, out of the walk of its Go text. Conditions: none. The frame is the guide's own template (proof-skeleton), turned to 'Below'. -/
import Derived.Test.YteogppcalekfaaaRows
import Derived.WalkKit
import Derived.ProofKit
import Derived.OpenShut
import Derived.Test.YteogppcalekfaaaShapeSumsWalk
import Derived.Test.YteogppcalekfaaaOpen
namespace Go.Proofs.Yteogppcalekfaaa.shapeSums
open Go.ChangeShapes Go.WideShapes Go.ChangeAt Go.RowKit
set_option linter.unusedVariables false

theorem own : ownKnob Try.prog.godebug = none := by kernel_rfl
theorem laidOut : laidOutB Try.prog = true := by kernel_rfl
theorem lv0 : leaves Try.prog 9 28 = some [some .i32, some .i32] := by kernel_rfl
theorem lv1 : leaves Try.prog 9 28 = some [some .i32, some .i32] := by kernel_rfl
theorem lv3 : leaves Try.prog 9 77 = some [some .i32, some .i32, some .i32, some .i32] := by kernel_rfl
theorem sh0 : (match Try.prog.underlying 28 with | some (.struct _) | some (.array _ _) => true | _ => false) = true := by kernel_rfl
theorem sh1 : (match Try.prog.underlying 28 with | some (.struct _) | some (.array _ _) => true | _ => false) = true := by kernel_rfl
theorem sh3 : (match Try.prog.underlying 77 with | some (.struct _) | some (.array _ _) => true | _ => false) = true := by kernel_rfl

set_option maxRecDepth 100000 in
theorem lifted (os : Os) (started : os.Started) (H : Type) (enc : TypeId × Value → H) :
    ReturnsInHanded {} Try.checked os 12 .any (Rows.shapeSumsSpec.pre6 enc Try.prog Try.f12 Rows.shapeSumsRow.domain false) (Rows.shapeSumsSpec.post enc Try.prog Try.f12 false true false false) := by
  refine returnsInHanded_of_change (C := Try.checked) own started (by kernel_rfl) Try.func12
    (ChangeSpec.witness6 (enc := enc) (C := Try.checked) false ⟨#[], #[.agg #[.int .i32 0, .int .i32 0], .agg #[.int .i32 0, .int .i32 0], .int .i32 0, .agg #[.int .i32 0, .int .i32 0, .int .i32 0, .int .i32 0]], []⟩ 8 (by kernel_rfl) (by kernel_rfl) (by kernel_rfl) (by kernel_rfl)) ?_
  intro W base args ds gs before hval0 hW hcnd _
  have hval : ∀ (j : Nat) t v, Try.f12.params[j]? = some t → args[j]? = some v → Value.okWide Try.prog W .any base t v := hval0
  have hW' := hW
  obtain ⟨p, q, hA0, hV, rfl, hfz, hnd⟩ := hW
  have hA : DataW.TrodAll enc Try.prog W 0 (fun _ => true) true Try.f12.params.toList args.toList ds p := hA0
  rw [Try.params12] at hA hval
  obtain ⟨v0, vs0, d0, ds0, p0, q0, hargs, rfl, rfl, h0, r0⟩ := trodAll_cons hA
  obtain ⟨v1, vs1, d1, ds1, p1, q1, rfl, rfl, rfl, h1, r1⟩ := trodAll_cons r0
  obtain ⟨v2, vs2, d2, ds2, p2, q2, rfl, rfl, rfl, h2, r2⟩ := trodAll_cons r1
  obtain ⟨v3, vs3, d3, ds3, p3, q3, rfl, rfl, rfl, h3, r3⟩ := trodAll_cons r2
  obtain ⟨rfl, rfl, rfl⟩ := trodAll_nil r3
  obtain rfl : args = #[v0, v1, v2, v3] := by cases args; simp_all
  obtain ⟨rfl, rfl⟩ := trodVars_none hV
  have k0 := h0
  have lt0 : ∀ x ∈ p0, x.block < W.heap.size := by obtain ⟨m, hm⟩ := k0; exact DataW.trod_lt m _ _ _ hm
  obtain ⟨cs0, rfl, al0⟩ := open_flat lv0 sh0 (hval 0 28 v0 rfl rfl) h0
  obtain ⟨_, _, rfl, ⟨a0_0, rfl, w0_0⟩, al0_0⟩ := AllFit.cons_inv al0
  obtain ⟨_, _, rfl, ⟨a0_1, rfl, w0_1⟩, al0_1⟩ := AllFit.cons_inv al0_0
  obtain rfl := AllFit.nil_inv al0_1
  have k1 := h1
  have lt1 : ∀ x ∈ p1, x.block < W.heap.size := by obtain ⟨m, hm⟩ := k1; exact DataW.trod_lt m _ _ _ hm
  obtain ⟨cs1, rfl, al1⟩ := open_flat lv1 sh1 (hval 1 28 v1 rfl rfl) h1
  obtain ⟨_, _, rfl, ⟨a1_0, rfl, w1_0⟩, al1_0⟩ := AllFit.cons_inv al1
  obtain ⟨_, _, rfl, ⟨a1_1, rfl, w1_1⟩, al1_1⟩ := AllFit.cons_inv al1_0
  obtain rfl := AllFit.nil_inv al1_1
  obtain ⟨a2, rfl, rfl, rfl, w2⟩ := open_int Try.underlying22 (hval 2 22 v2 rfl rfl) h2
  have k3 := h3
  have lt3 : ∀ x ∈ p3, x.block < W.heap.size := by obtain ⟨m, hm⟩ := k3; exact DataW.trod_lt m _ _ _ hm
  obtain ⟨cs3, rfl, al3⟩ := open_flat lv3 sh3 (hval 3 77 v3 rfl rfl) h3
  obtain ⟨_, _, rfl, ⟨a3_0, rfl, w3_0⟩, al3_0⟩ := AllFit.cons_inv al3
  obtain ⟨_, _, rfl, ⟨a3_1, rfl, w3_1⟩, al3_1⟩ := AllFit.cons_inv al3_0
  obtain ⟨_, _, rfl, ⟨a3_2, rfl, w3_2⟩, al3_2⟩ := AllFit.cons_inv al3_1
  obtain ⟨_, _, rfl, ⟨a3_3, rfl, w3_3⟩, al3_3⟩ := AllFit.cons_inv al3_2
  obtain rfl := AllFit.nil_inv al3_3
  clear hA0 hval0
  refine (ShapeSums_walk a0_0 a0_1 a1_0 a1_1 a2 a3_0 a3_1 a3_2 a3_3 w0_0 w0_1 w1_0 w1_1 w2 w3_0 w3_1 w3_2 w3_3 W).mono fun e W' ⟨he, hx⟩ => ?_
  have bel : Below W.heap.size W W' := hx
  subst he
  exact ⟨_, rfl, _, _, _, [], _, [], hW', trodAll_mk1 (shut_bool Try.underlying4 _), (trodAll_cons_mk (Below.trod laidOut (by kernel_rfl) (of_decide_eq_true (by kernel_rfl)) k0 bel lt0) (trodAll_cons_mk (Below.trod laidOut (by kernel_rfl) (of_decide_eq_true (by kernel_rfl)) k1 bel lt1) (trodAll_cons_mk (shut_int Try.underlying22 w2) (trodAll_cons_mk (Below.trod laidOut (by kernel_rfl) (of_decide_eq_true (by kernel_rfl)) k3 bel lt3) trodAll_mk0)))), rfl, bel.frame _, fun h => by cases h⟩

theorem over : Rows.shapeSumsRow.holds Try.pinned (OpenSpec.ofChange Rows.shapeSumsSpec) :=
  OpenClaim.holds_of_wide 12 Try.f12 rfl rfl rfl rfl rfl rfl rfl ⟨rfl, rfl, rfl, rfl, rfl⟩ rfl rfl rfl rfl rfl (by kernel_rfl) Try.func12 (by kernel_rfl)
    (of_decide_eq_true (by kernel_rfl)) (by unfold Func.isWrapper; rw [if_neg (by decide +kernel)]; exact ⟨rfl, rfl⟩)
    (fun os started H enc _ => lifted os started H enc)

/-- THE STATEMENT. -/
theorem proved : Rows.ShapeSumsSaid :=
  over
#print axioms proved
end Go.Proofs.Yteogppcalekfaaa.shapeSums
