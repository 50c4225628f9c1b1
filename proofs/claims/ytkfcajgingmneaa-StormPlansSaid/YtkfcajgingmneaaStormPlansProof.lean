/- 'StormPlans' IS TRUE AT EVERY INPUT: the given statement, out of the walk of its Go text. Conditions: none. The frame is the guide's own template (proof-skeleton), turned to 'Below'. -/
import Derived.Test.YtkfcajgingmneaaRows
import Derived.WalkKit
import Derived.ProofKit
import Derived.OpenShut
import Derived.Test.YtkfcajgingmneaaRS10
import Derived.Test.YtkfcajgingmneaaOpenS
namespace Go.Proofs.Ytkfcajgingmneaa.stormPlans
open Go.ChangeShapes Go.WideShapes Go.ChangeAt Go.RowKit Rex
set_option linter.unusedVariables false

theorem own : ownKnob Try.prog.godebug = none := by kernel_rfl
theorem laidOut : laidOutB Try.prog = true := by kernel_rfl
theorem lv1 : leaves Try.prog 9 32 = some [some .i64, some .i64, some .i64, some .i64] := by kernel_rfl
theorem lv2 : leaves Try.prog 9 5 = some ([Kd.int .u8].map kdOf) := by kernel_rfl
theorem lv3 : leaves Try.prog 9 5 = some ([Kd.int .u8].map kdOf) := by kernel_rfl
theorem sh1 : (match Try.prog.underlying 32 with | some (.struct _) | some (.array _ _) => true | _ => false) = true := by kernel_rfl

set_option maxRecDepth 100000 in
theorem lifted (os : Os) (started : os.Started) (H : Type) (enc : TypeId × Value → H) :
    ReturnsInHanded {} Try.checked os 4 .any (Rows.stormPlansSpec.pre6 enc Try.prog Try.f4 Rows.stormPlansRow.domain false) (Rows.stormPlansSpec.post enc Try.prog Try.f4 false true false false) := by
  refine returnsInHanded_of_change (C := Try.checked) own started (by kernel_rfl) Try.func4
    (ChangeSpec.witness6 (enc := enc) (C := Try.checked) false ⟨#[], #[.int .u32 0, .agg #[.int .i64 0, .int .i64 0, .int .i64 0, .int .i64 0], .slice none 0 0, .slice none 0 0], []⟩ 8 (by kernel_rfl) (by kernel_rfl) (by kernel_rfl) (by kernel_rfl)) ?_
  intro W base args ds gs before hval0 hW hcnd _
  have hval : ∀ (j : Nat) t v, Try.f4.params[j]? = some t → args[j]? = some v → Value.okWide Try.prog W .any base t v := hval0
  have hW' := hW
  obtain ⟨p, q, hA0, hV, rfl, hfz, hnd⟩ := hW
  have hA : DataW.TrodAll enc Try.prog W 0 (fun _ => true) true Try.f4.params.toList args.toList ds p := hA0
  rw [Try.params4] at hA hval
  obtain ⟨v0, vs0, d0, ds0, p0, q0, hargs, rfl, rfl, h0, r0⟩ := trodAll_cons hA
  obtain ⟨v1, vs1, d1, ds1, p1, q1, rfl, rfl, rfl, h1, r1⟩ := trodAll_cons r0
  obtain ⟨v2, vs2, d2, ds2, p2, q2, rfl, rfl, rfl, h2, r2⟩ := trodAll_cons r1
  obtain ⟨v3, vs3, d3, ds3, p3, q3, rfl, rfl, rfl, h3, r3⟩ := trodAll_cons r2
  obtain ⟨rfl, rfl, rfl⟩ := trodAll_nil r3
  obtain rfl : args = #[v0, v1, v2, v3] := by cases args; simp_all
  obtain ⟨rfl, rfl⟩ := trodVars_none hV
  obtain ⟨a0, rfl, rfl, rfl, w0⟩ := open_int Try.underlying30 (hval 0 30 v0 rfl rfl) h0
  have k1 := h1
  have lt1 : ∀ x ∈ p1, x.block < W.heap.size := by obtain ⟨m, hm⟩ := k1; exact DataW.trod_lt m _ _ _ hm
  obtain ⟨cs1, rfl, al1⟩ := open_flat lv1 sh1 (hval 1 32 v1 rfl rfl) h1
  obtain ⟨_, _, rfl, ⟨a1_0, rfl, w1_0⟩, al1_0⟩ := AllFit.cons_inv al1
  obtain ⟨_, _, rfl, ⟨a1_1, rfl, w1_1⟩, al1_1⟩ := AllFit.cons_inv al1_0
  obtain ⟨_, _, rfl, ⟨a1_2, rfl, w1_2⟩, al1_2⟩ := AllFit.cons_inv al1_1
  obtain ⟨_, _, rfl, ⟨a1_3, rfl, w1_3⟩, al1_3⟩ := AllFit.cons_inv al1_2
  obtain rfl := AllFit.nil_inv al1_3
  have k2 := h2
  have lt2 : ∀ x ∈ p2, x.block < W.heap.size := by obtain ⟨m, hm⟩ := k2; exact DataW.trod_lt m _ _ _ hm
  obtain ⟨xs2, sl2, ww2⟩ := open_rows (sh := [Kd.int .u8]) Try.underlying33 lv2 (by kernel_rfl) (by decide) (hval 2 33 v2 rfl rfl) h2
  have k3 := h3
  have lt3 : ∀ x ∈ p3, x.block < W.heap.size := by obtain ⟨m, hm⟩ := k3; exact DataW.trod_lt m _ _ _ hm
  obtain ⟨xs3, sl3, ww3⟩ := open_rows (sh := [Kd.int .u8]) Try.underlying33 lv3 (by kernel_rfl) (by decide) (hval 3 33 v3 rfl rfl) h3
  clear hA0 hval0
  refine (StormPlans_walk a0 a1_0 a1_1 a1_2 a1_3 W xs2 v2 sl2 ww2 xs3 v3 sl3 ww3 w0 w1_0 w1_1 w1_2 w1_3).mono fun e W' ⟨he, hx⟩ => ?_
  have bel : Below W.heap.size W W' := hx
  subst he
  exact ⟨_, rfl, _, _, _, [], _, [], hW', trodAll_mk1 (shut_bool Try.underlying4 _), (trodAll_cons_mk (shut_int Try.underlying30 w0) (trodAll_cons_mk (Below.trod laidOut (by kernel_rfl) (of_decide_eq_true (by kernel_rfl)) k1 bel lt1) (trodAll_cons_mk (Below.trod laidOut (by kernel_rfl) (of_decide_eq_true (by kernel_rfl)) k2 bel lt2) (trodAll_cons_mk (Below.trod laidOut (by kernel_rfl) (of_decide_eq_true (by kernel_rfl)) k3 bel lt3) trodAll_mk0)))), rfl, bel.frame _, fun h => by cases h⟩

theorem over : Rows.stormPlansRow.holds Try.pinned (OpenSpec.ofChange Rows.stormPlansSpec) :=
  OpenClaim.holds_of_wide 4 Try.f4 rfl rfl rfl rfl rfl rfl rfl ⟨rfl, rfl, rfl, rfl, rfl⟩ rfl rfl rfl rfl rfl (by kernel_rfl) Try.func4 (by kernel_rfl)
    (of_decide_eq_true (by kernel_rfl)) (by unfold Func.isWrapper; rw [if_neg (by decide +kernel)]; exact ⟨rfl, rfl⟩)
    (fun os started H enc _ => lifted os started H enc)

/-- THE STATEMENT. -/
theorem proved : Rows.StormPlansSaid :=
  over
#print axioms proved
end Go.Proofs.Ytkfcajgingmneaa.stormPlans
