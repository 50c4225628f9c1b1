/- 'FeelNil' IS TRUE AT EVERY INPUT: the given statement, out of the walk of its Go text. Conditions: none. The frame is the guide's own template (proof-skeleton), turned to 'Below'. -/
import Derived.Test.YtoanempchbejhaaDoorRows
import Derived.WalkKit
import Derived.ProofKit
import Derived.OpenShut
import Derived.Test.YtoanempchbejhaaDoorRF2
import Derived.Test.YtoanempchbejhaaDoorOpen
import Derived.Test.YtoanempchbejhaaDoorCards
import Derived.Test.YtoanempchbejhaaDoorTie
import Derived.Test.YtoanempchbejhaaDoorLaid
import Derived.LaidMore
import Derived.Stop.Joined
import Derived.SevenTiedAt
namespace Go.Proofs.YtoanempchbejhaaDoor.feelNil
open Go.ChangeShapes Go.WideShapes Go.ChangeAt Go.RowKit
set_option linter.unusedVariables false

theorem own : ownKnob Tryd.prog.godebug = none := by kernel_rfl
theorem laidOut : laidOutB Tryd.prog = true := by kernel_rfl
theorem lv0 : leaves Tryd.prog 9 36 = some [some .i64, some .i64, some .i64, some .i64, some .i64, some .i64, some .i64, some .i64, some .i64, some .i64, some .i32, some .i32, some .i64] := by kernel_rfl
theorem sh0 : (match Tryd.prog.underlying 36 with | some (.struct _) | some (.array _ _) => true | _ => false) = true := by kernel_rfl

abbrev laid : List (String × DataW Unit) := [("promptbook/feel.kinds", Rows.laid_promptbook_feel_kinds)]
theorem gV : Tryd.prog.globalNamed "promptbook/feel.kinds" = some 0 := by kernel_rfl
theorem tV : (Tryd.prog.globals[0]?).map (·.type) = some 83 := by kernel_rfl
theorem door_met (os : Os) (args : Array Value) : laidMetH Tryd.prog laid ((World.doorLaid Tryd.prog 400 os).forCall (fun _ _ => 0) ⟨#[], args, []⟩).memory :=
  laidMetH_of_parts3 (fuel := 8) (laidMet_of_run' 8 (by kernel_rfl) (by kernel_rfl)) (by kernel_rfl) (by kernel_rfl)
theorem of_laid {W : World} (h : laidMetH Tryd.prog laid W) : Rex.Glob W := by
  obtain ⟨t', fz, hh⟩ := laid_one (us := Rex.ggV) rfl gV tV (ks := Rex.ggK) (by kernel_rfl) (by kernel_rfl) h
  intro p hp
  have e : p = (0, Rex.ggV) := by simpa [Rex.GG] using hp
  subst e
  exact ⟨t', fz, hh⟩

set_option maxRecDepth 100000 in
theorem lifted (os : Os) (started : os.Started) (H : Type) (enc : TypeId × Value → H) :
    ReturnsInHanded {} Tryd.checked os 5 .any (fun w args => (Rows.feelNilSpec.pre enc Tryd.prog Tryd.f5 [] false w args ∧ laidMetH Tryd.prog laid w) ∧ sizedMet enc Tryd.prog Tryd.f5 (OpenSpec.ofChange Rows.feelNilSpec) false w args) (Rows.feelNilSpec.post enc Tryd.prog Tryd.f5 false true false false) := by
  refine returnsInHanded_of_change_and (C := Tryd.checked) (X := fun w _ => laidMetH Tryd.prog laid w) (fun _ _ _ hh h => h.of_heap hh) own started (by kernel_rfl) Tryd.func5
    (ChangeSpec.witness_shaped (enc := enc) (C := Tryd.checked) (os := os) (X := fun w _ => laidMetH Tryd.prog laid w) false (World.doorLaid Tryd.prog 400 os) #[.agg #[.int .i64 0, .int .i64 0, .int .i64 0, .int .i64 0, .int .i64 0, .int .i64 0, .int .i64 0, .int .i64 0, .int .i64 0, .int .i64 0, .int .i32 0, .int .i32 0, .int .i64 0]] 8 rfl (World.shaped_of_RefB (by kernel_rfl) (by kernel_rfl)) (by kernel_rfl) (by kernel_rfl) (by kernel_rfl) (door_met os _)) ?_
  intro W base args ds gs before hval0 hW _ _ hL _
  have hG := of_laid hL
  have hval : ∀ (j : Nat) t v, Tryd.f5.params[j]? = some t → args[j]? = some v → Value.okWide Tryd.prog W .any base t v := hval0
  have hW' := hW
  obtain ⟨p, q, hA0, hV, rfl, hfz, hnd⟩ := hW
  have hA : DataW.TrodAll enc Tryd.prog W 0 (fun _ => true) true Tryd.f5.params.toList args.toList ds p := hA0
  rw [Tryd.params5] at hA hval
  obtain ⟨v0, vs0, d0, ds0, p0, q0, hargs, rfl, rfl, h0, r0⟩ := trodAll_cons hA
  obtain ⟨rfl, rfl, rfl⟩ := trodAll_nil r0
  obtain rfl : args = #[v0] := by cases args; simp_all
  obtain ⟨rfl, rfl⟩ := trodVars_none hV
  have k0 := h0
  have lt0 : ∀ x ∈ p0, x.block < W.heap.size := by obtain ⟨m, hm⟩ := k0; exact DataW.trod_lt m _ _ _ hm
  obtain ⟨cs0, rfl, al0⟩ := open_flat lv0 sh0 (hval 0 36 v0 rfl rfl) h0
  obtain ⟨_, _, rfl, ⟨a0_0, rfl, w0_0⟩, al0_0⟩ := AllFit.cons_inv al0
  obtain ⟨_, _, rfl, ⟨a0_1, rfl, w0_1⟩, al0_1⟩ := AllFit.cons_inv al0_0
  obtain ⟨_, _, rfl, ⟨a0_2, rfl, w0_2⟩, al0_2⟩ := AllFit.cons_inv al0_1
  obtain ⟨_, _, rfl, ⟨a0_3, rfl, w0_3⟩, al0_3⟩ := AllFit.cons_inv al0_2
  obtain ⟨_, _, rfl, ⟨a0_4, rfl, w0_4⟩, al0_4⟩ := AllFit.cons_inv al0_3
  obtain ⟨_, _, rfl, ⟨a0_5, rfl, w0_5⟩, al0_5⟩ := AllFit.cons_inv al0_4
  obtain ⟨_, _, rfl, ⟨a0_6, rfl, w0_6⟩, al0_6⟩ := AllFit.cons_inv al0_5
  obtain ⟨_, _, rfl, ⟨a0_7, rfl, w0_7⟩, al0_7⟩ := AllFit.cons_inv al0_6
  obtain ⟨_, _, rfl, ⟨a0_8, rfl, w0_8⟩, al0_8⟩ := AllFit.cons_inv al0_7
  obtain ⟨_, _, rfl, ⟨a0_9, rfl, w0_9⟩, al0_9⟩ := AllFit.cons_inv al0_8
  obtain ⟨_, _, rfl, ⟨a0_10, rfl, w0_10⟩, al0_10⟩ := AllFit.cons_inv al0_9
  obtain ⟨_, _, rfl, ⟨a0_11, rfl, w0_11⟩, al0_11⟩ := AllFit.cons_inv al0_10
  obtain ⟨_, _, rfl, ⟨a0_12, rfl, w0_12⟩, al0_12⟩ := AllFit.cons_inv al0_11
  obtain rfl := AllFit.nil_inv al0_12
  clear hA0 hval0
  refine (FeelNil_walk a0_0 a0_1 a0_2 a0_3 a0_4 a0_5 a0_6 a0_7 a0_8 a0_9 a0_10 a0_11 a0_12 w0_0 w0_1 w0_2 w0_3 w0_4 w0_5 w0_6 w0_7 w0_8 w0_9 w0_10 w0_11 w0_12 W hG).mono fun e W' ⟨he, hx⟩ => ?_
  have bel : Below W.heap.size W W' := hx
  subst he
  exact ⟨_, rfl, _, _, _, [], _, [], hW', trodAll_mk1 (shut_bool Tryd.underlying4 _), (trodAll_cons_mk (Below.trod laidOut (by kernel_rfl) (of_decide_eq_true (by kernel_rfl)) k0 bel lt0) trodAll_mk0), rfl, bel.frame _, fun h => by cases h⟩

theorem over : Rows.feelNilRow.holds Tryd.pinned (OpenSpec.ofChange Rows.feelNilSpec) :=
  OpenClaim.holds_of_wide 5 Tryd.f5 rfl rfl rfl rfl rfl rfl rfl ⟨rfl, rfl, rfl, rfl, rfl⟩ rfl rfl rfl rfl rfl (by kernel_rfl) Tryd.func5 (by kernel_rfl)
    (of_decide_eq_true (by kernel_rfl)) (by unfold Func.isWrapper; rw [if_neg (by decide +kernel)]; exact ⟨rfl, rfl⟩)
    (fun os started H enc _ => lifted os started H enc)

/-- THE STATEMENT. -/
theorem proved : Rows.FeelNilCardSaid :=
  Claim7.holds_tied_plain_at .later [] [.data] true (true, "711e92614b694c3067d1eccc0f36400ffe33942c2787e57d7a9c82eb7cc986df") false
    over (fun _ h => by cases h) (by kernel_rfl) (fun _ h => by cases h) feelNil_row_tie rfl ⟨rfl, rfl⟩ (by kernel_rfl) rfl
    (fun f fn hf hfn => by
      obtain rfl : f = 5 := Option.some.inj ((show Tryd.prog.funcNamed "promptbook/promptbooklaw21.FeelNil" = some 5 by kernel_rfl).symm.trans hf) |>.symm
      obtain rfl : fn = Tryd.f5 := (Option.some.inj (Tryd.func5.symm.trans hfn)).symm
      exact ⟨by kernel_rfl, fun j t ht => by
        rw [Tryd.params5] at ht
        have hm : t ∈ [36] := by simpa using Array.mem_of_getElem? ht
        have hall : ([36].all fun u => !Tryd.prog.wantsStandIn u) = true := by kernel_rfl
        exact (show Tryd.prog.wantsStandIn t = false by simpa using List.all_eq_true.1 hall t hm)⟩)
    (by kernel_rfl)
#print axioms proved
end Go.Proofs.YtoanempchbejhaaDoor.feelNil
