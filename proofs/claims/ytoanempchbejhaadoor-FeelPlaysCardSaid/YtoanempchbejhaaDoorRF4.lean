/- FEEL: THE EXAMPLE. Conditions: the contracts' own. Own work; the normal forms were printed by a program of mine (wip/rex). -/
import Derived.Test.YtoanempchbejhaaDoorRF3
namespace Go.Proofs.YtoanempchbejhaaDoor
open Go.RowKit Rex
set_option linter.unusedVariables false
set_option linter.unusedSimpArgs false
set_option maxRecDepth 100000

noncomputable def c_awake : FC := fun us => match us with
  | [] => some (none, .v (.one (.bool false (true))))
  | _ => none
theorem nf_awake  : goal ⟨Mx, Tryd.prog, Γ_right, Δ_Start, B0, none, false, [], none⟩ noL 400 Tryd.f7 [] [] (fun r _ => svLe idR r (.v (.one (.bool false (true))))) = (((0 : Nat) = (0 : Nat) ∧ true = true ∧ (0 : Nat) = (0 : Nat) ∧ (true = true → (0 : Nat) = (0 : Nat))) ∧ (0 : Nat) ≤ (32 : Nat) ∧ ∀ (e : Nat × Bool), (true = true → (1 : Nat) ≤ e.fst ∧ e.snd = false) ∧ (true = false → e = ((0 : Nat), true)) → ((1 : Nat) = (1 : Nat) ∧ e.snd = e.snd ∧ e.fst = e.fst ∧ (e.snd = true → e.fst = (0 : Nat))) ∧ ((1 : Nat) ≤ (32 : Nat) ∧ okL (startL noP (0 : Int) (0 : Int) (5 : Int) (0 : Int) (0 : Int) (0 : Int) (0 : Int) (0 : Int) (0 : Int) (0 : Int) (0 : Int)) ∧ (-1099511627776 : Int) ≤ (0 : Int) ∧ (0 : Int) ≤ (1099511627776 : Int)) ∧ ∀ (e_1 : Unit), True → ((1 : Nat) = (1 : Nat) ∧ e.snd = e.snd ∧ e.fst = e.fst ∧ (e.snd = true → e.fst = (0 : Nat))) ∧ ((1 : Nat) ≤ (32 : Nat) ∧ okL (startL noP (0 : Int) (0 : Int) (5 : Int) (0 : Int) (0 : Int) (0 : Int) (0 : Int) (0 : Int) (0 : Int) (0 : Int) (0 : Int)) ∧ (-1099511627776 : Int) ≤ (15 : Int) ∧ (15 : Int) ≤ (1099511627776 : Int)) ∧ ∀ (e : Unit), True → (true = true → (true = true → (true = true → (true = true → true = true) ∧ (true = false → false = true)) ∧ (true = false → false = true)) ∧ (true = false → false = true)) ∧ (true = false → false = true)) := by kernel_rfl
theorem s_awake : FSound Tryd.prog 7 c_awake := by
  refine fsound_of (Ctx.ok_of2 (M := Mx) (N := []) mixedA ok_right okD_Start okB0) Tryd.func7 (by kernel_rfl) (by kernel_rfl) ?_
  intro us p v h hp
  unfold c_awake at h
  split at h
  · skip
    cases h
    refine ⟨rfl, noL, 400, [], by simp [tmLe, svLe, vLe, lfLe, lfsLe, ifB, nmIs, idR], rfl, ?_⟩
    rw [nf_awake]
    clear hp
    have hL : okL (startL noP (0 : Int) (0 : Int) (5 : Int) (0 : Int) (0 : Int) (0 : Int) (0 : Int) (0 : Int) (0 : Int) (0 : Int) (0 : Int)) := by
      intro p hp
      have e : startL noP (0 : Int) (0 : Int) (5 : Int) (0 : Int) (0 : Int) (0 : Int) (0 : Int) (0 : Int) (0 : Int) (0 : Int) (0 : Int) = [(32768, 32768, 30, 24, 0, 0, 5, 0, 0, 0, ())] := rfl
      rw [e] at hp
      obtain rfl := List.mem_singleton.1 hp
      refine ⟨⟨?_, ?_⟩, ⟨?_, ?_⟩, ⟨?_, ?_⟩, ⟨?_, ?_⟩, ⟨?_, ?_⟩, ⟨?_, ?_⟩, ⟨?_, ?_⟩, ?_, ?_⟩ <;> decide
    refine ⟨⟨rfl, rfl, rfl, fun _ => rfl⟩, by omega, fun e he => ?_⟩
    obtain ⟨h2, h3⟩ := he.1 rfl
    have hz : e.snd = true → e.fst = 0 := fun h => by rw [h3] at h; cases h
    exact ⟨⟨rfl, rfl, rfl, hz⟩, ⟨by omega, hL, by omega, by omega⟩, fun _ _ => ⟨⟨rfl, rfl, rfl, hz⟩, ⟨by omega, hL, by omega, by omega⟩, fun _ _ => ⟨fun _ => ⟨fun _ => ⟨fun _ => ⟨fun _ => rfl, fun h => by cases h⟩, fun h => by cases h⟩, fun h => by cases h⟩, fun h => by cases h⟩⟩⟩
  · cases h
noncomputable def Γ_awake : List (FuncId × FX) := (7, c_awake) :: Γ_right
theorem ok_awake : ΓOk Tryd.prog Γ_awake := ΓOk.cons (c := .pure c_awake) s_awake ok_right

end Go.Proofs.YtoanempchbejhaaDoor
