/- 'PadPlays' IS TRUE AT EVERY INPUT: the given statement, out of the walk of its Go text. Conditions: none. The frame is the guide's own template (proof-skeleton), turned to 'Below'. -/
import Derived.Test.YtdemgianfkafjaaDoorRows
import Derived.WalkKit
import Derived.ProofKit
import Derived.OpenShut
import Derived.Test.YtdemgianfkafjaaDoorRP5
import Derived.Test.YtdemgianfkafjaaDoorOpenS
import Derived.Test.YtdemgianfkafjaaDoorCards
import Derived.Test.YtdemgianfkafjaaDoorTie
import Derived.Test.YtdemgianfkafjaaDoorLaid
import Derived.LaidMore
import Derived.Stop.Joined
import Derived.SevenTiedAt
namespace Go.Proofs.YtdemgianfkafjaaDoor.padPlays
open Go.ChangeShapes Go.WideShapes Go.ChangeAt Go.RowKit Rex
set_option linter.unusedVariables false

theorem own : ownKnob Tryd.prog.godebug = none := by kernel_rfl
theorem laidOut : laidOutB Tryd.prog = true := by kernel_rfl
theorem lv1 : leaves Tryd.prog 9 57 = some ([Kd.int .u8, Kd.int .i64].map kdOf) := by kernel_rfl
theorem lv2 : leaves Tryd.prog 9 42 = some ([Kd.int .i64, Kd.int .i64, Kd.int .u8, Kd.bool, Kd.int .i64, Kd.bool].map kdOf) := by kernel_rfl

abbrev laid : List (String × DataW Unit) := [("promptbook/pad.buttons", Rows.laid_promptbook_pad_buttons)]
theorem gV : Tryd.prog.globalNamed "promptbook/pad.buttons" = some 0 := by kernel_rfl
theorem tV : (Tryd.prog.globals[0]?).map (·.type) = some 66 := by kernel_rfl
theorem door_met (os : Os) (args : Array Value) : laidMetH Tryd.prog laid ((World.doorLaid Tryd.prog 400 os).forCall (fun _ _ => 0) ⟨#[], args, []⟩).memory :=
  laidMetH_of_parts3 (fuel := 8) (laidMet_of_run' 8 (by kernel_rfl) (by kernel_rfl)) (by kernel_rfl) (by kernel_rfl)
theorem of_laid {W : World} (h : laidMetH Tryd.prog laid W) : Rex.Glob W := by
  obtain ⟨t', fz, hh⟩ := laid_one (us := Rex.ggV) rfl gV tV (ks := Rex.ggK) (by kernel_rfl) (by kernel_rfl) h
  intro p hp
  have e : p = (0, Rex.ggV) := by simpa [Rex.GG] using hp
  subst e
  exact ⟨t', fz, hh⟩

set_option maxRecDepth 100000 in
theorem lifted (os : Os) (started : os.Started) (H : Type) (enc : TypeId × Value → H) :
    ReturnsInHanded {} Tryd.checked os 5 .any (fun w args => (Rows.padPlaysSpec.pre enc Tryd.prog Tryd.f5 [] false w args ∧ laidMetH Tryd.prog laid w) ∧ sizedMet enc Tryd.prog Tryd.f5 (OpenSpec.ofChange Rows.padPlaysSpec) false w args) (Rows.padPlaysSpec.post enc Tryd.prog Tryd.f5 false true false false) := by
  refine returnsInHanded_of_change_and (C := Tryd.checked) (X := fun w _ => laidMetH Tryd.prog laid w) (fun _ _ _ hh h => h.of_heap hh) own started (by kernel_rfl) Tryd.func5
    (ChangeSpec.witness_shaped (enc := enc) (C := Tryd.checked) (os := os) (X := fun w _ => laidMetH Tryd.prog laid w) false (World.doorLaid Tryd.prog 400 os) #[.int .i64 0, .slice none 0 0, .slice none 0 0, .int .u8 0] 8 rfl (World.shaped_of_RefB (by kernel_rfl) (by kernel_rfl)) (by kernel_rfl) (by kernel_rfl) (by kernel_rfl) (door_met os _)) ?_
  intro W base args ds gs before hval0 hW _ _ hL _
  have hG := of_laid hL
  have hval : ∀ (j : Nat) t v, Tryd.f5.params[j]? = some t → args[j]? = some v → Value.okWide Tryd.prog W .any base t v := hval0
  have hW' := hW
  obtain ⟨p, q, hA0, hV, rfl, hfz, hnd⟩ := hW
  have hA : DataW.TrodAll enc Tryd.prog W 0 (fun _ => true) true Tryd.f5.params.toList args.toList ds p := hA0
  rw [Tryd.params5] at hA hval
  obtain ⟨v0, vs0, d0, ds0, p0, q0, hargs, rfl, rfl, h0, r0⟩ := trodAll_cons hA
  obtain ⟨v1, vs1, d1, ds1, p1, q1, rfl, rfl, rfl, h1, r1⟩ := trodAll_cons r0
  obtain ⟨v2, vs2, d2, ds2, p2, q2, rfl, rfl, rfl, h2, r2⟩ := trodAll_cons r1
  obtain ⟨v3, vs3, d3, ds3, p3, q3, rfl, rfl, rfl, h3, r3⟩ := trodAll_cons r2
  obtain ⟨rfl, rfl, rfl⟩ := trodAll_nil r3
  obtain rfl : args = #[v0, v1, v2, v3] := by cases args; simp_all
  obtain ⟨rfl, rfl⟩ := trodVars_none hV
  obtain ⟨a0, rfl, rfl, rfl, w0⟩ := open_int Tryd.underlying3 (hval 0 3 v0 rfl rfl) h0
  have k1 := h1
  have lt1 : ∀ x ∈ p1, x.block < W.heap.size := by obtain ⟨m, hm⟩ := k1; exact DataW.trod_lt m _ _ _ hm
  obtain ⟨xs1, sl1, ww1⟩ := open_rows (sh := [Kd.int .u8, Kd.int .i64]) Tryd.underlying25 lv1 (by kernel_rfl) (by decide) (hval 1 25 v1 rfl rfl) h1
  have k2 := h2
  have lt2 : ∀ x ∈ p2, x.block < W.heap.size := by obtain ⟨m, hm⟩ := k2; exact DataW.trod_lt m _ _ _ hm
  obtain ⟨xs2, sl2, ww2⟩ := open_rows (sh := [Kd.int .i64, Kd.int .i64, Kd.int .u8, Kd.bool, Kd.int .i64, Kd.bool]) Tryd.underlying36 lv2 (by kernel_rfl) (by decide) (hval 2 36 v2 rfl rfl) h2
  obtain ⟨a3, rfl, rfl, rfl, w3⟩ := open_int Tryd.underlying5 (hval 3 5 v3 rfl rfl) h3
  clear hA0 hval0
  refine (PadPlays_walk a0 a3 W hG xs1 v1 sl1 ww1 xs2 v2 sl2 ww2 w0 w3).mono fun e W' ⟨he, hx⟩ => ?_
  have bel : Below W.heap.size W W' := hx
  subst he
  exact ⟨_, rfl, _, _, _, [], _, [], hW', trodAll_mk1 (shut_bool Tryd.underlying4 _), (trodAll_cons_mk (shut_int Tryd.underlying3 w0) (trodAll_cons_mk (Below.trod laidOut (by kernel_rfl) (of_decide_eq_true (by kernel_rfl)) k1 bel lt1) (trodAll_cons_mk (Below.trod laidOut (by kernel_rfl) (of_decide_eq_true (by kernel_rfl)) k2 bel lt2) (trodAll_cons_mk (shut_int Tryd.underlying5 w3) trodAll_mk0)))), rfl, bel.frame _, fun h => by cases h⟩

theorem over : Rows.padPlaysRow.holds Tryd.pinned (OpenSpec.ofChange Rows.padPlaysSpec) :=
  OpenClaim.holds_of_wide 5 Tryd.f5 rfl rfl rfl rfl rfl rfl rfl ⟨rfl, rfl, rfl, rfl, rfl⟩ rfl rfl rfl rfl rfl (by kernel_rfl) Tryd.func5 (by kernel_rfl)
    (of_decide_eq_true (by kernel_rfl)) (by unfold Func.isWrapper; rw [if_neg (by decide +kernel)]; exact ⟨rfl, rfl⟩)
    (fun os started H enc _ => lifted os started H enc)

/-- THE STATEMENT. -/
theorem proved : Rows.PadPlaysCardSaid :=
  Claim7.holds_tied_plain_at .later [] [.widerDeep] true (true, "921bdaff0502f05929c149c206a90fdda138bc5a788e162d6faeb71c21532cef") false
    over (fun _ h => by cases h) (by kernel_rfl) (fun _ h => by cases h) padPlays_row_tie rfl ⟨rfl, rfl⟩ (by kernel_rfl) rfl
    (fun f fn hf hfn => by
      obtain rfl : f = 5 := Option.some.inj ((show Tryd.prog.funcNamed "promptbook/promptbooklaw36.PadPlays" = some 5 by kernel_rfl).symm.trans hf) |>.symm
      obtain rfl : fn = Tryd.f5 := (Option.some.inj (Tryd.func5.symm.trans hfn)).symm
      exact ⟨by kernel_rfl, fun j t ht => by
        rw [Tryd.params5] at ht
        have hm : t ∈ [3, 25, 36, 5] := by simpa using Array.mem_of_getElem? ht
        have hall : ([3, 25, 36, 5].all fun u => !Tryd.prog.wantsStandIn u) = true := by kernel_rfl
        exact (show Tryd.prog.wantsStandIn t = false by simpa using List.all_eq_true.1 hall t hm)⟩)
    (by kernel_rfl)
#print axioms proved
end Go.Proofs.YtdemgianfkafjaaDoor.padPlays
