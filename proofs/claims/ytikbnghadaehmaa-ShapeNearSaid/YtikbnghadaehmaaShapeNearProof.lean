/- 'ShapeNear' IS TRUE AT EVERY INPUT: the given statement, out of the walk of its Go text. Conditions: none. The frame is the guide's own template (proof-skeleton), turned to 'Below'. -/
import Derived.Test.YtikbnghadaehmaaRows
import Derived.WalkKit
import Derived.ProofKit
import Derived.OpenShut
import Derived.Test.YtikbnghadaehmaaShapeNearWalk
import Derived.Test.YtikbnghadaehmaaOpen
namespace Go.Proofs.Ytikbnghadaehmaa.shapeNear
open Go.ChangeShapes Go.WideShapes Go.ChangeAt Go.RowKit
set_option linter.unusedVariables false

theorem own : ownKnob Try.prog.godebug = none := by kernel_rfl
theorem laidOut : laidOutB Try.prog = true := by kernel_rfl
theorem lv0 : leaves Try.prog 9 28 = some [some .i32, some .i32] := by kernel_rfl
theorem lv1 : leaves Try.prog 9 28 = some [some .i32, some .i32] := by kernel_rfl
theorem sh0 : (match Try.prog.underlying 28 with | some (.struct _) | some (.array _ _) => true | _ => false) = true := by kernel_rfl
theorem sh1 : (match Try.prog.underlying 28 with | some (.struct _) | some (.array _ _) => true | _ => false) = true := by kernel_rfl

set_option maxRecDepth 100000 in
theorem lifted (os : Os) (started : os.Started) (H : Type) (enc : TypeId × Value → H) :
    ReturnsInHanded {} Try.checked os 5 .any (Rows.shapeNearSpec.pre6 enc Try.prog Try.f5 Rows.shapeNearRow.domain false) (Rows.shapeNearSpec.post enc Try.prog Try.f5 false true false false) := by
  refine returnsInHanded_of_change (C := Try.checked) own started (by kernel_rfl) Try.func5
    (ChangeSpec.witness6 (enc := enc) (C := Try.checked) false ⟨#[], #[.agg #[.int .i32 0, .int .i32 0], .agg #[.int .i32 0, .int .i32 0], .int .i32 0, .int .i32 0, .int .u16 0], []⟩ 8 (by kernel_rfl) (by kernel_rfl) (by kernel_rfl) (by kernel_rfl)) ?_
  intro W base args ds gs before hval0 hW hcnd _
  have hval : ∀ (j : Nat) t v, Try.f5.params[j]? = some t → args[j]? = some v → Value.okWide Try.prog W .any base t v := hval0
  have hW' := hW
  obtain ⟨p, q, hA0, hV, rfl, hfz, hnd⟩ := hW
  have hA : DataW.TrodAll enc Try.prog W 0 (fun _ => true) true Try.f5.params.toList args.toList ds p := hA0
  rw [Try.params5] at hA hval
  obtain ⟨v0, vs0, d0, ds0, p0, q0, hargs, rfl, rfl, h0, r0⟩ := trodAll_cons hA
  obtain ⟨v1, vs1, d1, ds1, p1, q1, rfl, rfl, rfl, h1, r1⟩ := trodAll_cons r0
  obtain ⟨v2, vs2, d2, ds2, p2, q2, rfl, rfl, rfl, h2, r2⟩ := trodAll_cons r1
  obtain ⟨v3, vs3, d3, ds3, p3, q3, rfl, rfl, rfl, h3, r3⟩ := trodAll_cons r2
  obtain ⟨v4, vs4, d4, ds4, p4, q4, rfl, rfl, rfl, h4, r4⟩ := trodAll_cons r3
  obtain ⟨rfl, rfl, rfl⟩ := trodAll_nil r4
  obtain rfl : args = #[v0, v1, v2, v3, v4] := by cases args; simp_all
  obtain ⟨rfl, rfl⟩ := trodVars_none hV
  have k0 := h0
  have lt0 : ∀ x ∈ p0, x.block < W.heap.size := by obtain ⟨m, hm⟩ := k0; exact DataW.trod_lt m _ _ _ hm
  obtain ⟨cs0, rfl, al0⟩ := open_flat lv0 sh0 (hval 0 28 v0 rfl rfl) h0
  obtain ⟨_, _, rfl, ⟨a0_0, rfl, w0_0⟩, al0_0⟩ := AllFit.cons_inv al0
  obtain ⟨_, _, rfl, ⟨a0_1, rfl, w0_1⟩, al0_1⟩ := AllFit.cons_inv al0_0
  obtain rfl := AllFit.nil_inv al0_1
  have k1 := h1
  have lt1 : ∀ x ∈ p1, x.block < W.heap.size := by obtain ⟨m, hm⟩ := k1; exact DataW.trod_lt m _ _ _ hm
  obtain ⟨cs1, rfl, al1⟩ := open_flat lv1 sh1 (hval 1 28 v1 rfl rfl) h1
  obtain ⟨_, _, rfl, ⟨a1_0, rfl, w1_0⟩, al1_0⟩ := AllFit.cons_inv al1
  obtain ⟨_, _, rfl, ⟨a1_1, rfl, w1_1⟩, al1_1⟩ := AllFit.cons_inv al1_0
  obtain rfl := AllFit.nil_inv al1_1
  obtain ⟨a2, rfl, rfl, rfl, w2⟩ := open_int Try.underlying22 (hval 2 22 v2 rfl rfl) h2
  obtain ⟨a3, rfl, rfl, rfl, w3⟩ := open_int Try.underlying22 (hval 3 22 v3 rfl rfl) h3
  obtain ⟨a4, rfl, rfl, rfl, w4⟩ := open_int Try.underlying39 (hval 4 39 v4 rfl rfl) h4
  clear hA0 hval0
  refine (ShapeNear_walk a0_0 a0_1 a1_0 a1_1 a2 a3 a4 w0_0 w0_1 w1_0 w1_1 w2 w3 w4 W).mono fun e W' ⟨he, hx⟩ => ?_
  have bel : Below W.heap.size W W' := hx
  subst he
  exact ⟨_, rfl, _, _, _, [], _, [], hW', trodAll_mk1 (shut_bool Try.underlying4 _), (trodAll_cons_mk (Below.trod laidOut (by kernel_rfl) (of_decide_eq_true (by kernel_rfl)) k0 bel lt0) (trodAll_cons_mk (Below.trod laidOut (by kernel_rfl) (of_decide_eq_true (by kernel_rfl)) k1 bel lt1) (trodAll_cons_mk (shut_int Try.underlying22 w2) (trodAll_cons_mk (shut_int Try.underlying22 w3) (trodAll_cons_mk (shut_int Try.underlying39 w4) trodAll_mk0))))), rfl, bel.frame _, fun h => by cases h⟩

theorem over : Rows.shapeNearRow.holds Try.pinned (OpenSpec.ofChange Rows.shapeNearSpec) :=
  OpenClaim.holds_of_wide 5 Try.f5 rfl rfl rfl rfl rfl rfl rfl ⟨rfl, rfl, rfl, rfl, rfl⟩ rfl rfl rfl rfl rfl (by kernel_rfl) Try.func5 (by kernel_rfl)
    (of_decide_eq_true (by kernel_rfl)) (by unfold Func.isWrapper; rw [if_neg (by decide +kernel)]; exact ⟨rfl, rfl⟩)
    (fun os started H enc _ => lifted os started H enc)

/-- THE STATEMENT. -/
theorem proved : Rows.ShapeNearSaid :=
  over
#print axioms proved
end Go.Proofs.Ytikbnghadaehmaa.shapeNear
