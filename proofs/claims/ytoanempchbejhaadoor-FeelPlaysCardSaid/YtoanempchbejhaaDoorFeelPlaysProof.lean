/- 'FeelPlays' IS TRUE AT EVERY INPUT: the given statement, out of the walk of its Go text. Conditions: none. The frame is the guide's own template (proof-skeleton), turned to 'Below'. -/
import Derived.Test.YtoanempchbejhaaDoorRows
import Derived.WalkKit
import Derived.ProofKit
import Derived.OpenShut
import Derived.Test.YtoanempchbejhaaDoorRF9
import Derived.Test.YtoanempchbejhaaDoorOpenS
import Derived.Test.YtoanempchbejhaaDoorCards
import Derived.Test.YtoanempchbejhaaDoorTie
import Derived.Test.YtoanempchbejhaaDoorLaid
import Derived.LaidMore
import Derived.Stop.Joined
import Derived.SevenTiedAt
namespace Go.Proofs.YtoanempchbejhaaDoor.feelPlays
open Go.ChangeShapes Go.WideShapes Go.ChangeAt Go.RowKit Rex
set_option linter.unusedVariables false

theorem own : ownKnob Tryd.prog.godebug = none := by kernel_rfl
theorem laidOut : laidOutB Tryd.prog = true := by kernel_rfl
theorem lv0 : leaves Tryd.prog 9 36 = some ([Kd.int .i64, Kd.int .i64, Kd.int .i64, Kd.int .i64, Kd.int .i64, Kd.int .i64, Kd.int .i64, Kd.int .i64, Kd.int .i64, Kd.int .i64, Kd.int .i32, Kd.int .i32, Kd.int .i64].map kdOf) := by kernel_rfl

abbrev laid : List (String × DataW Unit) := [("promptbook/feel.kinds", Rows.laid_promptbook_feel_kinds)]
theorem gV : Tryd.prog.globalNamed "promptbook/feel.kinds" = some 0 := by kernel_rfl
theorem tV : (Tryd.prog.globals[0]?).map (·.type) = some 83 := by kernel_rfl
theorem door_met (os : Os) (args : Array Value) : laidMetH Tryd.prog laid ((World.doorLaid Tryd.prog 400 os).forCall (fun _ _ => 0) ⟨#[], args, []⟩).memory :=
  laidMetH_of_parts3 (fuel := 8) (laidMet_of_run' 8 (by kernel_rfl) (by kernel_rfl)) (by kernel_rfl) (by kernel_rfl)
theorem of_laid {W : World} (h : laidMetH Tryd.prog laid W) : Rex.Glob W := by
  obtain ⟨t', fz, hh⟩ := laid_one (us := Rex.ggV) rfl gV tV (ks := Rex.ggK) (by kernel_rfl) (by kernel_rfl) h
  intro p hp
  have e : p = (0, Rex.ggV) := by simpa [Rex.GG] using hp
  subst e
  exact ⟨t', fz, hh⟩

set_option maxRecDepth 100000 in
theorem lifted (os : Os) (started : os.Started) (H : Type) (enc : TypeId × Value → H) :
    ReturnsInHanded {} Tryd.checked os 6 .any (fun w args => (Rows.feelPlaysSpec.pre enc Tryd.prog Tryd.f6 [] false w args ∧ laidMetH Tryd.prog laid w) ∧ sizedMet enc Tryd.prog Tryd.f6 (OpenSpec.ofChange Rows.feelPlaysSpec) false w args) (Rows.feelPlaysSpec.post enc Tryd.prog Tryd.f6 false true false false) := by
  refine returnsInHanded_of_change_and (C := Tryd.checked) (X := fun w _ => laidMetH Tryd.prog laid w) (fun _ _ _ hh h => h.of_heap hh) own started (by kernel_rfl) Tryd.func6
    (ChangeSpec.witness_shaped (enc := enc) (C := Tryd.checked) (os := os) (X := fun w _ => laidMetH Tryd.prog laid w) false (World.doorLaid Tryd.prog 400 os) #[.slice none 0 0, .int .i64 0, .int .i64 0] 8 rfl (World.shaped_of_RefB (by kernel_rfl) (by kernel_rfl)) (by kernel_rfl) (by kernel_rfl) (by kernel_rfl) (door_met os _)) ?_
  intro W base args ds gs before hval0 hW _ _ hL _
  have hG := of_laid hL
  have hval : ∀ (j : Nat) t v, Tryd.f6.params[j]? = some t → args[j]? = some v → Value.okWide Tryd.prog W .any base t v := hval0
  have hW' := hW
  obtain ⟨p, q, hA0, hV, rfl, hfz, hnd⟩ := hW
  have hA : DataW.TrodAll enc Tryd.prog W 0 (fun _ => true) true Tryd.f6.params.toList args.toList ds p := hA0
  rw [Tryd.params6] at hA hval
  obtain ⟨v0, vs0, d0, ds0, p0, q0, hargs, rfl, rfl, h0, r0⟩ := trodAll_cons hA
  obtain ⟨v1, vs1, d1, ds1, p1, q1, rfl, rfl, rfl, h1, r1⟩ := trodAll_cons r0
  obtain ⟨v2, vs2, d2, ds2, p2, q2, rfl, rfl, rfl, h2, r2⟩ := trodAll_cons r1
  obtain ⟨rfl, rfl, rfl⟩ := trodAll_nil r2
  obtain rfl : args = #[v0, v1, v2] := by cases args; simp_all
  obtain ⟨rfl, rfl⟩ := trodVars_none hV
  have k0 := h0
  have lt0 : ∀ x ∈ p0, x.block < W.heap.size := by obtain ⟨m, hm⟩ := k0; exact DataW.trod_lt m _ _ _ hm
  obtain ⟨xs0, sl0, ww0⟩ := open_rows (sh := [Kd.int .i64, Kd.int .i64, Kd.int .i64, Kd.int .i64, Kd.int .i64, Kd.int .i64, Kd.int .i64, Kd.int .i64, Kd.int .i64, Kd.int .i64, Kd.int .i32, Kd.int .i32, Kd.int .i64]) Tryd.underlying22 lv0 (by kernel_rfl) (by decide) (hval 0 22 v0 rfl rfl) h0
  obtain ⟨a1, rfl, rfl, rfl, w1⟩ := open_int Tryd.underlying3 (hval 1 3 v1 rfl rfl) h1
  obtain ⟨a2, rfl, rfl, rfl, w2⟩ := open_int Tryd.underlying3 (hval 2 3 v2 rfl rfl) h2
  clear hA0 hval0
  refine (FeelPlays_walk a1 a2 W hG xs0 v0 sl0 ww0 w1 w2).mono fun e W' ⟨he, hx⟩ => ?_
  have bel : Below W.heap.size W W' := hx
  subst he
  exact ⟨_, rfl, _, _, _, [], _, [], hW', trodAll_mk1 (shut_bool Tryd.underlying4 _), (trodAll_cons_mk (Below.trod laidOut (by kernel_rfl) (of_decide_eq_true (by kernel_rfl)) k0 bel lt0) (trodAll_cons_mk (shut_int Tryd.underlying3 w1) (trodAll_cons_mk (shut_int Tryd.underlying3 w2) trodAll_mk0))), rfl, bel.frame _, fun h => by cases h⟩

theorem over : Rows.feelPlaysRow.holds Tryd.pinned (OpenSpec.ofChange Rows.feelPlaysSpec) :=
  OpenClaim.holds_of_wide 6 Tryd.f6 rfl rfl rfl rfl rfl rfl rfl ⟨rfl, rfl, rfl, rfl, rfl⟩ rfl rfl rfl rfl rfl (by kernel_rfl) Tryd.func6 (by kernel_rfl)
    (of_decide_eq_true (by kernel_rfl)) (by unfold Func.isWrapper; rw [if_neg (by decide +kernel)]; exact ⟨rfl, rfl⟩)
    (fun os started H enc _ => lifted os started H enc)

/-- THE STATEMENT. -/
theorem proved : Rows.FeelPlaysCardSaid :=
  Claim7.holds_tied_plain_at .later [] [.data] true (true, "711e92614b694c3067d1eccc0f36400ffe33942c2787e57d7a9c82eb7cc986df") false
    over (fun _ h => by cases h) (by kernel_rfl) (fun _ h => by cases h) feelPlays_row_tie rfl ⟨rfl, rfl⟩ (by kernel_rfl) rfl
    (fun f fn hf hfn => by
      obtain rfl : f = 6 := Option.some.inj ((show Tryd.prog.funcNamed "promptbook/promptbooklaw21.FeelPlays" = some 6 by kernel_rfl).symm.trans hf) |>.symm
      obtain rfl : fn = Tryd.f6 := (Option.some.inj (Tryd.func6.symm.trans hfn)).symm
      exact ⟨by kernel_rfl, fun j t ht => by
        rw [Tryd.params6] at ht
        have hm : t ∈ [22, 3, 3] := by simpa using Array.mem_of_getElem? ht
        have hall : ([22, 3, 3].all fun u => !Tryd.prog.wantsStandIn u) = true := by kernel_rfl
        exact (show Tryd.prog.wantsStandIn t = false by simpa using List.all_eq_true.1 hall t hm)⟩)
    (by kernel_rfl)
#print axioms proved
end Go.Proofs.YtoanempchbejhaaDoor.feelPlays
