/- 'VoiceCuts' IS TRUE AT EVERY INPUT: the given statement, out of the walk of its Go text. Conditions: none. The frame is the guide's own template (proof-skeleton), turned to 'Below'. -/
import Derived.Test.YtjfgobhipemioaaRows
import Derived.WalkKit
import Derived.ProofKit
import Derived.OpenShut
import Derived.Test.YtjfgobhipemioaaRV4
import Derived.Test.YtjfgobhipemioaaOpen
namespace Go.Proofs.Ytjfgobhipemioaa.voiceCuts
open Go.ChangeShapes Go.WideShapes Go.ChangeAt Go.RowKit
set_option linter.unusedVariables false

theorem own : ownKnob Try.prog.godebug = none := by kernel_rfl
theorem laidOut : laidOutB Try.prog = true := by kernel_rfl
theorem lv0 : leaves Try.prog 9 27 = some [some .i64, some .i64, some .i64, some .i64, some .i64, some .i64, some .i64, some .i64, some .i64, some .i64, some .i64, some .i64] := by kernel_rfl
theorem sh0 : (match Try.prog.underlying 27 with | some (.struct _) | some (.array _ _) => true | _ => false) = true := by kernel_rfl

set_option maxRecDepth 100000 in
theorem lifted (os : Os) (started : os.Started) (H : Type) (enc : TypeId × Value → H) :
    ReturnsInHanded {} Try.checked os 5 .any (Rows.voiceCutsSpec.pre6 enc Try.prog Try.f5 Rows.voiceCutsRow.domain false) (Rows.voiceCutsSpec.post enc Try.prog Try.f5 false true false false) := by
  refine returnsInHanded_of_change (C := Try.checked) own started (by kernel_rfl) Try.func5
    (ChangeSpec.witness6 (enc := enc) (C := Try.checked) false ⟨#[], #[.agg #[.int .i64 0, .int .i64 0, .int .i64 0, .int .i64 0, .int .i64 0, .int .i64 0, .int .i64 0, .int .i64 0, .int .i64 0, .int .i64 0, .int .i64 0, .int .i64 0], .int .i64 0, .int .u8 0], []⟩ 8 (by kernel_rfl) (by kernel_rfl) (by kernel_rfl) (by kernel_rfl)) ?_
  intro W base args ds gs before hval0 hW hcnd _
  have hval : ∀ (j : Nat) t v, Try.f5.params[j]? = some t → args[j]? = some v → Value.okWide Try.prog W .any base t v := hval0
  have hW' := hW
  obtain ⟨p, q, hA0, hV, rfl, hfz, hnd⟩ := hW
  have hA : DataW.TrodAll enc Try.prog W 0 (fun _ => true) true Try.f5.params.toList args.toList ds p := hA0
  rw [Try.params5] at hA hval
  obtain ⟨v0, vs0, d0, ds0, p0, q0, hargs, rfl, rfl, h0, r0⟩ := trodAll_cons hA
  obtain ⟨v1, vs1, d1, ds1, p1, q1, rfl, rfl, rfl, h1, r1⟩ := trodAll_cons r0
  obtain ⟨v2, vs2, d2, ds2, p2, q2, rfl, rfl, rfl, h2, r2⟩ := trodAll_cons r1
  obtain ⟨rfl, rfl, rfl⟩ := trodAll_nil r2
  obtain rfl : args = #[v0, v1, v2] := by cases args; simp_all
  obtain ⟨rfl, rfl⟩ := trodVars_none hV
  have k0 := h0
  have lt0 : ∀ x ∈ p0, x.block < W.heap.size := by obtain ⟨m, hm⟩ := k0; exact DataW.trod_lt m _ _ _ hm
  obtain ⟨cs0, rfl, al0⟩ := open_flat lv0 sh0 (hval 0 27 v0 rfl rfl) h0
  obtain ⟨_, _, rfl, ⟨a0_0, rfl, w0_0⟩, al0_0⟩ := AllFit.cons_inv al0
  obtain ⟨_, _, rfl, ⟨a0_1, rfl, w0_1⟩, al0_1⟩ := AllFit.cons_inv al0_0
  obtain ⟨_, _, rfl, ⟨a0_2, rfl, w0_2⟩, al0_2⟩ := AllFit.cons_inv al0_1
  obtain ⟨_, _, rfl, ⟨a0_3, rfl, w0_3⟩, al0_3⟩ := AllFit.cons_inv al0_2
  obtain ⟨_, _, rfl, ⟨a0_4, rfl, w0_4⟩, al0_4⟩ := AllFit.cons_inv al0_3
  obtain ⟨_, _, rfl, ⟨a0_5, rfl, w0_5⟩, al0_5⟩ := AllFit.cons_inv al0_4
  obtain ⟨_, _, rfl, ⟨a0_6, rfl, w0_6⟩, al0_6⟩ := AllFit.cons_inv al0_5
  obtain ⟨_, _, rfl, ⟨a0_7, rfl, w0_7⟩, al0_7⟩ := AllFit.cons_inv al0_6
  obtain ⟨_, _, rfl, ⟨a0_8, rfl, w0_8⟩, al0_8⟩ := AllFit.cons_inv al0_7
  obtain ⟨_, _, rfl, ⟨a0_9, rfl, w0_9⟩, al0_9⟩ := AllFit.cons_inv al0_8
  obtain ⟨_, _, rfl, ⟨a0_10, rfl, w0_10⟩, al0_10⟩ := AllFit.cons_inv al0_9
  obtain ⟨_, _, rfl, ⟨a0_11, rfl, w0_11⟩, al0_11⟩ := AllFit.cons_inv al0_10
  obtain rfl := AllFit.nil_inv al0_11
  obtain ⟨a1, rfl, rfl, rfl, w1⟩ := open_int Try.underlying3 (hval 1 3 v1 rfl rfl) h1
  obtain ⟨a2, rfl, rfl, rfl, w2⟩ := open_int Try.underlying5 (hval 2 5 v2 rfl rfl) h2
  clear hA0 hval0
  refine (VoiceCuts_walk a0_0 a0_1 a0_2 a0_3 a0_4 a0_5 a0_6 a0_7 a0_8 a0_9 a0_10 a0_11 a1 a2 w0_0 w0_1 w0_2 w0_3 w0_4 w0_5 w0_6 w0_7 w0_8 w0_9 w0_10 w0_11 w1 w2 W).mono fun e W' ⟨he, hx⟩ => ?_
  have bel : Below W.heap.size W W' := hx
  subst he
  exact ⟨_, rfl, _, _, _, [], _, [], hW', trodAll_mk1 (shut_bool Try.underlying4 _), (trodAll_cons_mk (Below.trod laidOut (by kernel_rfl) (of_decide_eq_true (by kernel_rfl)) k0 bel lt0) (trodAll_cons_mk (shut_int Try.underlying3 w1) (trodAll_cons_mk (shut_int Try.underlying5 w2) trodAll_mk0))), rfl, bel.frame _, fun h => by cases h⟩

theorem over : Rows.voiceCutsRow.holds Try.pinned (OpenSpec.ofChange Rows.voiceCutsSpec) :=
  OpenClaim.holds_of_wide 5 Try.f5 rfl rfl rfl rfl rfl rfl rfl ⟨rfl, rfl, rfl, rfl, rfl⟩ rfl rfl rfl rfl rfl (by kernel_rfl) Try.func5 (by kernel_rfl)
    (of_decide_eq_true (by kernel_rfl)) (by unfold Func.isWrapper; rw [if_neg (by decide +kernel)]; exact ⟨rfl, rfl⟩)
    (fun os started H enc _ => lifted os started H enc)

/-- THE STATEMENT. -/
theorem proved : Rows.VoiceCutsSaid :=
  over
#print axioms proved
end Go.Proofs.Ytjfgobhipemioaa.voiceCuts
