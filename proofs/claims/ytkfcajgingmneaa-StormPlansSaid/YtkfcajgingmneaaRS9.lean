/- CALM: THE LAW. Conditions: the contracts' own. Own work; the normal forms were printed by a program of mine (wip/rex). -/
import Derived.Test.YtkfcajgingmneaaRS7
import Derived.Test.YtkfcajgingmneaaRS8
namespace Go.Proofs.Ytkfcajgingmneaa
open Go.RowKit Rex
set_option linter.unusedVariables false
set_option linter.unusedSimpArgs false
set_option maxRecDepth 100000

noncomputable def Δ_rplan2 : List (FuncId × MC) := (15, c_rplan) :: Δ_rfair
theorem okD_rplan2 : ΔOk Try.prog Δ_rplan2 := ΔOk.cons s_rplan okD_rfair
theorem calm_row (c w : Int) : takeR c 0 0 0 0 w = (2, w, 0, 0, 0, 0, ()) := by
  have h := calm_kind c
  have b := th_bd c 100 (by omega) (by omega)
  have hs : spoilB c 0 0 0 = false := by
    unfold spoilB
    rw [decide_eq_false (p := th c 100 < 0 + 0 + 0) (by omega)]
    simp
  unfold takeR
  rw [h.1, h.2]
  simp [dgA, dgB, hs]
theorem calm_seed (s s' : Int) (xa xb : List (Row sh8)) : ∀ n, planN s 0 0 0 0 xa xb n = planN s' 0 0 0 0 xa xb n
  | 0 => rfl
  | n + 1 => by
    simp only [planN, calm_row, calm_seed s s' xa xb n]


noncomputable def c_StormCalms : FC := fun us => match us with
  | [.v (.one (.int .i64 _ r)), .v (.one (.int .u32 _ sd))] => some (none, .v (.one (.bool false (true))))
  | _ => none
theorem nf_StormCalms (r : Int) (sd : Int) : goal ⟨Mx, Try.prog, Γ_awake, Δ_rplan2, B_dgram, none, false, [], none⟩ noL 400 Try.f5 [.v (.one (.int .i64 false r)), .v (.one (.int .u32 false sd))] [] (fun r _ => svLe idR r (.v (.one (.bool false (true))))) = ((false = true → false = true) ∧ (false = false → (decide ((200 : Int) < r) = true → (decide (r ≤ (2000 : Int)) = true → true = true) ∧ (decide (r ≤ (2000 : Int)) = false → ∀ (e : Nat), calmN r ≤ e ∧ (calmN r = (0 : Nat) → e = (0 : Nat)) → (decide (r < (0 : Int)) = false → (decide ((2000 : Int) < r) = true → (((↑(calmN r) : Int) == (0 : Int)) = true → ((if calmB r = true then (0 : Int) else (1 : Int)) == (1 : Int)) = true) ∧ (((↑(calmN r) : Int) == (0 : Int)) = false → false = true)) ∧ (decide ((2000 : Int) < r) = false → ((0 : Int) ≤ r ∧ r ≤ r ∧ (1 : Int) * r ≤ (140737488355328 : Int) ∧ r ≤ (140737488355328 : Int)) ∧ (r.toNat = (List.replicate r.toNat (Int.ofNat (0 : Nat), ())).length ∧ false = false ∧ (0 : Nat) = (0 : Nat)) ∧ (r.toNat = (List.replicate r.toNat (Int.ofNat (0 : Nat), ())).length ∧ false = false ∧ (0 : Nat) = (0 : Nat)) ∧ ((List.replicate r.toNat (Int.ofNat (0 : Nat), ())).length ≤ (2000 : Nat) ∧ (List.replicate r.toNat (Int.ofNat (0 : Nat), ())).length ≤ (2000 : Nat)) ∧ ∀ (e : Nat), planL (0 : Int) (0 : Int) (0 : Int) (0 : Int) (List.replicate r.toNat (Int.ofNat (0 : Nat), ())) (List.replicate r.toNat (Int.ofNat (0 : Nat), ())) ≤ e ∧ (planL (0 : Int) (0 : Int) (0 : Int) (0 : Int) (List.replicate r.toNat (Int.ofNat (0 : Nat), ())) (List.replicate r.toNat (Int.ofNat (0 : Nat), ())) = (0 : Nat) → e = (0 : Nat)) → ((calmN r = (calmX r).length ∧ decide (calmN r = (0 : Nat)) = decide (calmN r = (0 : Nat)) ∧ (0 : Nat) = (0 : Nat)) ∧ (calmX r).length ≤ (1000000 : Nat)) ∧ (((if calmB r = true then (0 : Int) else (1 : Int)) == (0 : Int)) = true → (((if planB (0 : Int) (0 : Int) (0 : Int) (0 : Int) (List.replicate r.toNat (Int.ofNat (0 : Nat), ())) (List.replicate r.toNat (Int.ofNat (0 : Nat), ())) = true then (0 : Int) else (1 : Int)) == (0 : Int)) = true → (calmN r = (calmX r).length ∧ decide (calmN r = (0 : Nat)) = decide (calmN r = (0 : Nat)) ∧ (0 : Nat) = (0 : Nat)) ∧ (planL (0 : Int) (0 : Int) (0 : Int) (0 : Int) (List.replicate r.toNat (Int.ofNat (0 : Nat), ())) (List.replicate r.toNat (Int.ofNat (0 : Nat), ())) = (planX sd (0 : Int) (0 : Int) (0 : Int) (0 : Int) (List.replicate r.toNat (Int.ofNat (0 : Nat), ())) (List.replicate r.toNat (Int.ofNat (0 : Nat), ()))).length ∧ decide (planL (0 : Int) (0 : Int) (0 : Int) (0 : Int) (List.replicate r.toNat (Int.ofNat (0 : Nat), ())) (List.replicate r.toNat (Int.ofNat (0 : Nat), ())) = (0 : Nat)) = decide (planL (0 : Int) (0 : Int) (0 : Int) (0 : Int) (List.replicate r.toNat (Int.ofNat (0 : Nat), ())) (List.replicate r.toNat (Int.ofNat (0 : Nat), ())) = (0 : Nat)) ∧ (0 : Nat) = (0 : Nat)) ∧ ((calmX r).length ≤ (1000000 : Nat) ∧ (planX sd (0 : Int) (0 : Int) (0 : Int) (0 : Int) (List.replicate r.toNat (Int.ofNat (0 : Nat), ())) (List.replicate r.toNat (Int.ofNat (0 : Nat), ()))).length ≤ (1000000 : Nat)) ∧ ∀ (e : Unit), True → ((decide ((calmX r).length = (planX sd (0 : Int) (0 : Int) (0 : Int) (0 : Int) (List.replicate r.toNat (Int.ofNat (0 : Nat), ())) (List.replicate r.toNat (Int.ofNat (0 : Nat), ()))).length) && sameN (calmX r) (planX sd (0 : Int) (0 : Int) (0 : Int) (0 : Int) (List.replicate r.toNat (Int.ofNat (0 : Nat), ())) (List.replicate r.toNat (Int.ofNat (0 : Nat), ()))) (calmX r).length) = true → inR IntKind.i64 ((2 : Int) * r) ∧ ((tallyN (calmX r) (1 : Int) (calmX r).length == (2 : Int) * r) = true → inR IntKind.i64 ((2 : Int) * r) ∧ ((tallyN (calmX r) (2 : Int) (calmX r).length == (2 : Int) * r) = true → (calmN r = (calmX r).length ∧ decide (calmN r = (0 : Nat)) = decide (calmN r = (0 : Nat)) ∧ (0 : Nat) = (0 : Nat)) ∧ ((calmX r).length ≤ (1000000 : Nat) ∧ (4 : Int) ≤ (1000000 : Int)) ∧ fairR (calmX r) (4 : Int) = true) ∧ ((tallyN (calmX r) (2 : Int) (calmX r).length == (2 : Int) * r) = false → false = true)) ∧ ((tallyN (calmX r) (1 : Int) (calmX r).length == (2 : Int) * r) = false → false = true)) ∧ ((decide ((calmX r).length = (planX sd (0 : Int) (0 : Int) (0 : Int) (0 : Int) (List.replicate r.toNat (Int.ofNat (0 : Nat), ())) (List.replicate r.toNat (Int.ofNat (0 : Nat), ()))).length) && sameN (calmX r) (planX sd (0 : Int) (0 : Int) (0 : Int) (0 : Int) (List.replicate r.toNat (Int.ofNat (0 : Nat), ())) (List.replicate r.toNat (Int.ofNat (0 : Nat), ()))) (calmX r).length) = false → false = true)) ∧ (((if planB (0 : Int) (0 : Int) (0 : Int) (0 : Int) (List.replicate r.toNat (Int.ofNat (0 : Nat), ())) (List.replicate r.toNat (Int.ofNat (0 : Nat), ())) = true then (0 : Int) else (1 : Int)) == (0 : Int)) = false → false = true)) ∧ (((if calmB r = true then (0 : Int) else (1 : Int)) == (0 : Int)) = false → false = true))) ∧ (decide (r < (0 : Int)) = true → (((↑(calmN r) : Int) == (0 : Int)) = true → ((if calmB r = true then (0 : Int) else (1 : Int)) == (1 : Int)) = true) ∧ (((↑(calmN r) : Int) == (0 : Int)) = false → false = true)))) ∧ (decide ((200 : Int) < r) = false → ∀ (e : Nat), calmN r ≤ e ∧ (calmN r = (0 : Nat) → e = (0 : Nat)) → (decide (r < (0 : Int)) = false → (decide ((2000 : Int) < r) = true → (((↑(calmN r) : Int) == (0 : Int)) = true → ((if calmB r = true then (0 : Int) else (1 : Int)) == (1 : Int)) = true) ∧ (((↑(calmN r) : Int) == (0 : Int)) = false → false = true)) ∧ (decide ((2000 : Int) < r) = false → ((0 : Int) ≤ r ∧ r ≤ r ∧ (1 : Int) * r ≤ (140737488355328 : Int) ∧ r ≤ (140737488355328 : Int)) ∧ (r.toNat = (List.replicate r.toNat (Int.ofNat (0 : Nat), ())).length ∧ false = false ∧ (0 : Nat) = (0 : Nat)) ∧ (r.toNat = (List.replicate r.toNat (Int.ofNat (0 : Nat), ())).length ∧ false = false ∧ (0 : Nat) = (0 : Nat)) ∧ ((List.replicate r.toNat (Int.ofNat (0 : Nat), ())).length ≤ (2000 : Nat) ∧ (List.replicate r.toNat (Int.ofNat (0 : Nat), ())).length ≤ (2000 : Nat)) ∧ ∀ (e : Nat), planL (0 : Int) (0 : Int) (0 : Int) (0 : Int) (List.replicate r.toNat (Int.ofNat (0 : Nat), ())) (List.replicate r.toNat (Int.ofNat (0 : Nat), ())) ≤ e ∧ (planL (0 : Int) (0 : Int) (0 : Int) (0 : Int) (List.replicate r.toNat (Int.ofNat (0 : Nat), ())) (List.replicate r.toNat (Int.ofNat (0 : Nat), ())) = (0 : Nat) → e = (0 : Nat)) → ((calmN r = (calmX r).length ∧ decide (calmN r = (0 : Nat)) = decide (calmN r = (0 : Nat)) ∧ (0 : Nat) = (0 : Nat)) ∧ (calmX r).length ≤ (1000000 : Nat)) ∧ (((if calmB r = true then (0 : Int) else (1 : Int)) == (0 : Int)) = true → (((if planB (0 : Int) (0 : Int) (0 : Int) (0 : Int) (List.replicate r.toNat (Int.ofNat (0 : Nat), ())) (List.replicate r.toNat (Int.ofNat (0 : Nat), ())) = true then (0 : Int) else (1 : Int)) == (0 : Int)) = true → (calmN r = (calmX r).length ∧ decide (calmN r = (0 : Nat)) = decide (calmN r = (0 : Nat)) ∧ (0 : Nat) = (0 : Nat)) ∧ (planL (0 : Int) (0 : Int) (0 : Int) (0 : Int) (List.replicate r.toNat (Int.ofNat (0 : Nat), ())) (List.replicate r.toNat (Int.ofNat (0 : Nat), ())) = (planX sd (0 : Int) (0 : Int) (0 : Int) (0 : Int) (List.replicate r.toNat (Int.ofNat (0 : Nat), ())) (List.replicate r.toNat (Int.ofNat (0 : Nat), ()))).length ∧ decide (planL (0 : Int) (0 : Int) (0 : Int) (0 : Int) (List.replicate r.toNat (Int.ofNat (0 : Nat), ())) (List.replicate r.toNat (Int.ofNat (0 : Nat), ())) = (0 : Nat)) = decide (planL (0 : Int) (0 : Int) (0 : Int) (0 : Int) (List.replicate r.toNat (Int.ofNat (0 : Nat), ())) (List.replicate r.toNat (Int.ofNat (0 : Nat), ())) = (0 : Nat)) ∧ (0 : Nat) = (0 : Nat)) ∧ ((calmX r).length ≤ (1000000 : Nat) ∧ (planX sd (0 : Int) (0 : Int) (0 : Int) (0 : Int) (List.replicate r.toNat (Int.ofNat (0 : Nat), ())) (List.replicate r.toNat (Int.ofNat (0 : Nat), ()))).length ≤ (1000000 : Nat)) ∧ ∀ (e : Unit), True → ((decide ((calmX r).length = (planX sd (0 : Int) (0 : Int) (0 : Int) (0 : Int) (List.replicate r.toNat (Int.ofNat (0 : Nat), ())) (List.replicate r.toNat (Int.ofNat (0 : Nat), ()))).length) && sameN (calmX r) (planX sd (0 : Int) (0 : Int) (0 : Int) (0 : Int) (List.replicate r.toNat (Int.ofNat (0 : Nat), ())) (List.replicate r.toNat (Int.ofNat (0 : Nat), ()))) (calmX r).length) = true → inR IntKind.i64 ((2 : Int) * r) ∧ ((tallyN (calmX r) (1 : Int) (calmX r).length == (2 : Int) * r) = true → inR IntKind.i64 ((2 : Int) * r) ∧ ((tallyN (calmX r) (2 : Int) (calmX r).length == (2 : Int) * r) = true → (calmN r = (calmX r).length ∧ decide (calmN r = (0 : Nat)) = decide (calmN r = (0 : Nat)) ∧ (0 : Nat) = (0 : Nat)) ∧ ((calmX r).length ≤ (1000000 : Nat) ∧ (4 : Int) ≤ (1000000 : Int)) ∧ fairR (calmX r) (4 : Int) = true) ∧ ((tallyN (calmX r) (2 : Int) (calmX r).length == (2 : Int) * r) = false → false = true)) ∧ ((tallyN (calmX r) (1 : Int) (calmX r).length == (2 : Int) * r) = false → false = true)) ∧ ((decide ((calmX r).length = (planX sd (0 : Int) (0 : Int) (0 : Int) (0 : Int) (List.replicate r.toNat (Int.ofNat (0 : Nat), ())) (List.replicate r.toNat (Int.ofNat (0 : Nat), ()))).length) && sameN (calmX r) (planX sd (0 : Int) (0 : Int) (0 : Int) (0 : Int) (List.replicate r.toNat (Int.ofNat (0 : Nat), ())) (List.replicate r.toNat (Int.ofNat (0 : Nat), ()))) (calmX r).length) = false → false = true)) ∧ (((if planB (0 : Int) (0 : Int) (0 : Int) (0 : Int) (List.replicate r.toNat (Int.ofNat (0 : Nat), ())) (List.replicate r.toNat (Int.ofNat (0 : Nat), ())) = true then (0 : Int) else (1 : Int)) == (0 : Int)) = false → false = true)) ∧ (((if calmB r = true then (0 : Int) else (1 : Int)) == (0 : Int)) = false → false = true))) ∧ (decide (r < (0 : Int)) = true → (((↑(calmN r) : Int) == (0 : Int)) = true → ((if calmB r = true then (0 : Int) else (1 : Int)) == (1 : Int)) = true) ∧ (((↑(calmN r) : Int) == (0 : Int)) = false → false = true))))) := by kernel_rfl
theorem s_StormCalms : FSound Try.prog 5 c_StormCalms := by
  refine fsound_of (Ctx.ok_of2 (M := Mx) (N := []) mixedA ok_awake okD_rplan2 okB_dgram) Try.func5 (by kernel_rfl) (by kernel_rfl) ?_
  intro us p v h hp
  unfold c_StormCalms at h
  split at h
  · rename_i k0 r k1 sd
    cases h
    refine ⟨rfl, noL, 400, [.v (.one (.int .i64 false r)), .v (.one (.int .u32 false sd))], by simp [tmLe, svLe, vLe, lfLe, lfsLe, ifB, nmIs, idR], rfl, ?_⟩
    rw [nf_StormCalms]
    clear hp
    have core : (∀ (e : Nat), calmN r ≤ e ∧ (calmN r = (0 : Nat) → e = (0 : Nat)) → (decide (r < (0 : Int)) = false → (decide ((2000 : Int) < r) = true → (((↑(calmN r) : Int) == (0 : Int)) = true → ((if calmB r = true then (0 : Int) else (1 : Int)) == (1 : Int)) = true) ∧ (((↑(calmN r) : Int) == (0 : Int)) = false → false = true)) ∧ (decide ((2000 : Int) < r) = false → ((0 : Int) ≤ r ∧ r ≤ r ∧ (1 : Int) * r ≤ (140737488355328 : Int) ∧ r ≤ (140737488355328 : Int)) ∧ (r.toNat = (zer r.toNat).length ∧ false = false ∧ (0 : Nat) = (0 : Nat)) ∧ (r.toNat = (zer r.toNat).length ∧ false = false ∧ (0 : Nat) = (0 : Nat)) ∧ ((zer r.toNat).length ≤ (2000 : Nat) ∧ (zer r.toNat).length ≤ (2000 : Nat)) ∧ ∀ (e : Nat), planL (0 : Int) (0 : Int) (0 : Int) (0 : Int) (zer r.toNat) (zer r.toNat) ≤ e ∧ (planL (0 : Int) (0 : Int) (0 : Int) (0 : Int) (zer r.toNat) (zer r.toNat) = (0 : Nat) → e = (0 : Nat)) → ((calmN r = (calmX r).length ∧ decide (calmN r = (0 : Nat)) = decide (calmN r = (0 : Nat)) ∧ (0 : Nat) = (0 : Nat)) ∧ (calmX r).length ≤ (1000000 : Nat)) ∧ (((if calmB r = true then (0 : Int) else (1 : Int)) == (0 : Int)) = true → (((if planB (0 : Int) (0 : Int) (0 : Int) (0 : Int) (zer r.toNat) (zer r.toNat) = true then (0 : Int) else (1 : Int)) == (0 : Int)) = true → (calmN r = (calmX r).length ∧ decide (calmN r = (0 : Nat)) = decide (calmN r = (0 : Nat)) ∧ (0 : Nat) = (0 : Nat)) ∧ (planL (0 : Int) (0 : Int) (0 : Int) (0 : Int) (zer r.toNat) (zer r.toNat) = (planX sd (0 : Int) (0 : Int) (0 : Int) (0 : Int) (zer r.toNat) (zer r.toNat)).length ∧ decide (planL (0 : Int) (0 : Int) (0 : Int) (0 : Int) (zer r.toNat) (zer r.toNat) = (0 : Nat)) = decide (planL (0 : Int) (0 : Int) (0 : Int) (0 : Int) (zer r.toNat) (zer r.toNat) = (0 : Nat)) ∧ (0 : Nat) = (0 : Nat)) ∧ ((calmX r).length ≤ (1000000 : Nat) ∧ (planX sd (0 : Int) (0 : Int) (0 : Int) (0 : Int) (zer r.toNat) (zer r.toNat)).length ≤ (1000000 : Nat)) ∧ ∀ (e : Unit), True → ((decide ((calmX r).length = (planX sd (0 : Int) (0 : Int) (0 : Int) (0 : Int) (zer r.toNat) (zer r.toNat)).length) && sameN (calmX r) (planX sd (0 : Int) (0 : Int) (0 : Int) (0 : Int) (zer r.toNat) (zer r.toNat)) (calmX r).length) = true → inR IntKind.i64 ((2 : Int) * r) ∧ ((tallyN (calmX r) (1 : Int) (calmX r).length == (2 : Int) * r) = true → inR IntKind.i64 ((2 : Int) * r) ∧ ((tallyN (calmX r) (2 : Int) (calmX r).length == (2 : Int) * r) = true → (calmN r = (calmX r).length ∧ decide (calmN r = (0 : Nat)) = decide (calmN r = (0 : Nat)) ∧ (0 : Nat) = (0 : Nat)) ∧ ((calmX r).length ≤ (1000000 : Nat) ∧ (4 : Int) ≤ (1000000 : Int)) ∧ fairR (calmX r) (4 : Int) = true) ∧ ((tallyN (calmX r) (2 : Int) (calmX r).length == (2 : Int) * r) = false → false = true)) ∧ ((tallyN (calmX r) (1 : Int) (calmX r).length == (2 : Int) * r) = false → false = true)) ∧ ((decide ((calmX r).length = (planX sd (0 : Int) (0 : Int) (0 : Int) (0 : Int) (zer r.toNat) (zer r.toNat)).length) && sameN (calmX r) (planX sd (0 : Int) (0 : Int) (0 : Int) (0 : Int) (zer r.toNat) (zer r.toNat)) (calmX r).length) = false → false = true)) ∧ (((if planB (0 : Int) (0 : Int) (0 : Int) (0 : Int) (zer r.toNat) (zer r.toNat) = true then (0 : Int) else (1 : Int)) == (0 : Int)) = false → false = true)) ∧ (((if calmB r = true then (0 : Int) else (1 : Int)) == (0 : Int)) = false → false = true))) ∧ (decide (r < (0 : Int)) = true → (((↑(calmN r) : Int) == (0 : Int)) = true → ((if calmB r = true then (0 : Int) else (1 : Int)) == (1 : Int)) = true) ∧ (((↑(calmN r) : Int) == (0 : Int)) = false → false = true))) := by
      intro e he
      have hB0 : ¬ (0 ≤ r ∧ r ≤ 2000) → calmB r = false := by
        intro h
        unfold calmB
        simp only [Bool.and_eq_false_iff, decide_eq_false_iff_not]
        omega
      refine ⟨fun h1 => ⟨fun h2 => ?_, fun h2 => ?_⟩, fun h1 => ?_⟩
      · simp only [decide_eq_true_eq] at h2
        have hb := hB0 (by omega)
        simp [calmN, hb]
      · simp only [decide_eq_false_iff_not] at h1 h2
        have hb : calmB r = true := by simp [calmB]; omega
        have hn : calmN r = 4 * r.toNat := by simp [calmN, hb]
        have hz : (zer r.toNat).length = r.toNat := by simp [zer]
        have hf : ∀ n, firstN (zer r.toNat) n = -1 := by
          intro n
          induction n with
          | zero => rfl
          | succ n ih =>
            have hg : (getR (zer r.toNat) n).1 = 0 := by
              unfold getR zer
              rw [List.getD_eq_getElem?_getD, List.getElem?_replicate]
              split <;> rfl
            show (if 0 ≤ firstN (zer r.toNat) n then firstN (zer r.toNat) n else if 63 < (getR (zer r.toNat) n).1 then (n : Int) else -1) = -1
            rw [ih, hg]
            rfl
        have hPB : planB 0 0 0 0 (zer r.toNat) (zer r.toNat) = true := by
          unfold planB
          rw [hf]
          rfl
        have hPL : planL 0 0 0 0 (zer r.toNat) (zer r.toNat) = 4 * r.toNat := by
          unfold planL
          rw [if_pos hPB, hz]
          omega
        have hX : calmX r = planN 0 0 0 0 0 (zer r.toNat) (zer r.toNat) r.toNat := by simp [calmX, hb]
        have hPX : planX sd 0 0 0 0 (zer r.toNat) (zer r.toNat) = planN 0 0 0 0 0 (zer r.toNat) (zer r.toNat) r.toNat := by
          unfold planX
          rw [if_pos hPB, hz, calm_seed sd 0]
          congr 1
          omega
        have hl := planN_length 0 0 0 0 0 (zer r.toNat) (zer r.toNat) r.toNat
        have ht := calm_tally 0 (zer r.toNat) (zer r.toNat) r.toNat r.toNat (Nat.le_refl _)
        have hF := calm_fair 0 (zer r.toNat) (zer r.toNat) r.toNat
        have hS := sameN_self (planN 0 0 0 0 0 (zer r.toNat) (zer r.toNat) r.toNat)
        rw [hX, hPX, hPL, hn, hPB, hb, hl, ht.1, ht.2, hF, hz, hS]
        have e2 : 2 * ((r.toNat : Nat) : Int) = 2 * r := by omega
        rw [e2]
        have g1 : ((2 * r == 2 * r) = true) := beq_self_eq_true _
        refine ⟨by omega, ⟨rfl, rfl, rfl⟩, ⟨rfl, rfl, rfl⟩, ⟨by omega, by omega⟩, fun e3 he3 => ⟨⟨⟨rfl, rfl, rfl⟩, by omega⟩, fun _ => ⟨fun _ => ⟨⟨rfl, rfl, rfl⟩, ⟨rfl, rfl, rfl⟩, ⟨by omega, by omega⟩, fun _ _ => ⟨fun _ => ⟨by simp only [inR, klo, khi]; omega, fun _ => ⟨by simp only [inR, klo, khi]; omega, fun _ => ⟨⟨rfl, rfl, rfl⟩, ⟨by omega, by omega⟩, rfl⟩, fun h => ?_⟩, fun h => ?_⟩, fun h => ?_⟩⟩, fun h => ?_⟩, fun h => ?_⟩⟩ <;> simp at h
      · simp only [decide_eq_true_eq] at h1
        have hb := hB0 (by omega)
        simp [calmN, hb]
    exact ⟨fun h => h, fun _ => ⟨fun h1 => ⟨fun _ => rfl, fun h2 => core⟩, fun h1 => core⟩⟩
  · cases h
noncomputable def Γ_StormCalms : List (FuncId × FX) := (5, c_StormCalms) :: Γ_awake
theorem ok_StormCalms : ΓOk Try.prog Γ_StormCalms := ΓOk.cons (c := .pure c_StormCalms) s_StormCalms ok_awake

theorem StormCalms_walk (r : Int) (sd : Int) (w_r : (Lit.int .i64 r).wf = true) (w_sd : (Lit.int .u32 sd).wf = true) (w : World) : Calls Try.prog 5 #[.int .i64 r, .int .u32 sd] w fun e w' => e = .returned (.bool true) ∧ Ext w w' :=
  calls_of_fsound s_StormCalms (us := [.v (.one (.int .i64 false r)), .v (.one (.int .u32 false sd))]) (p := none) rfl (trivial) rfl rfl w (fun _ hp => absurd hp (by simp [GG]))

end Go.Proofs.Ytkfcajgingmneaa
