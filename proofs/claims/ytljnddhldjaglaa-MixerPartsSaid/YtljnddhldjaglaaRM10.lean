/- THE MIXER: THE EXAMPLE; A SAMPLE OF ANY VOICES. Conditions: the contracts' own. Own work; the normal forms were printed by a program of mine (wip/rex). -/
import Derived.Test.YtljnddhldjaglaaRM9
namespace Go.Proofs.Ytljnddhldjaglaa
open Go.RowKit Rex
set_option linter.unusedVariables false
set_option linter.unusedSimpArgs false
set_option maxRecDepth 100000


def noV : List RV := []
theorem ldF_max (xs : List RV) (vs t : Int) : ldF xs (max vs 0) t = ldF xs vs t := by
  unfold ldF
  rw [show max (max vs 0) 0 = max vs 0 by omega]
theorem pcm_bd (n : Int) : -32768 ≤ wi n (-32768) 32767 ∧ wi n (-32768) 32767 ≤ 32767 := by
  unfold wi
  (repeat' split) <;> omega


noncomputable def c_awake20 : FC := fun us => match us with
  | [] => some (none, .v (.one (.bool true (true))))
  | _ => none
theorem nf_awake20  : goal ⟨Mx, Try.prog, Γ_reright, Δ_Mix, B0, none, false, [11], none⟩ (fun bk => match bk with | 500002 => some { S := Nat, st := fun s => ⟨[.junk, .v (.one (.ptr 0 0)), .v (.one (.int .i64 true 0)), .junk, .junk, .junk, .junk, .junk, .junk, .junk, .junk, .junk, .junk, .junk, .junk, .junk, .junk, .junk, .junk, .junk, .junk, .junk, .junk, .junk, .junk, .junk, .junk, .junk, .junk, .junk, .junk, .junk, .junk, .junk, .junk, .junk, .junk, .junk, .junk, .junk, .junk, .junk, .junk, .junk, .junk, .junk, .junk, .junk, .junk, .junk, .junk, .junk, .junk, .junk, .junk, .junk, .junk, .junk, .junk, .junk, .junk, .junk, .junk, .junk], [some (.cells [.int .i64 false 2, .int .i64 false 0, .rs true 0 1 0 12 0 0 0] 64), some (.rows false true shV noV 0 0 50)]⟩, ok := fun s => True, mu := fun s => 0, init := 0 } | _ => none) 400 Try.f8 [] [] (fun r _ => svLe idR r (.v (.one (.bool true (true))))) = ((∃ (s : Nat), ((True ∧ (0 : Int) = (0 : Int) ∧ True) ∧ ((2 : Int) = (2 : Int) ∧ (0 : Int) = (0 : Int) ∧ true = true ∧ (0 : Nat) = (0 : Nat) ∧ (0 : Nat) = (0 : Nat) ∧ (0 : Nat) = (0 : Nat)) ∧ (true = true ∧ noV = []) ∧ True) ∧ True) ∧ ∀ (s : Nat), True → ((0 : Nat) = (0 : Nat) ∧ true = true ∧ (0 : Nat) = (0 : Nat) ∧ (true = true → (0 : Nat) = (0 : Nat))) ∧ okB (0 : Int) (0 : Nat) ∧ ∀ (e : Unit), True → ((0 : Nat) = (0 : Nat) ∧ true = true ∧ (0 : Nat) = (0 : Nat) ∧ (true = true → (0 : Nat) = (0 : Nat))) ∧ okB (2 : Int) (0 : Nat) ∧ ∀ (e : Nat × Bool), (1 : Nat) ≤ e.fst ∧ (e.snd = true → e.fst = (0 : Nat)) → ((1 : Nat) = (1 : Nat) ∧ e.snd = e.snd ∧ e.fst = e.fst ∧ (e.snd = true → e.fst = (0 : Nat))) ∧ okB (2 : Int) (1 : Nat) ∧ ∀ (e : Unit), True → (true = true → (true = true → ((0 : Int) ≤ (1 : Int) ∧ (1 : Int) < (2 : Int)) ∧ (1 : Nat) < (2 : Nat) ∧ (true = true → (true = true → (true = true → (true = true → ((0 : Int) ≤ (16 : Int) ∧ (16 : Int) < (20 : Int)) ∧ (16 : Nat) < (20 : Nat) ∧ true = true) ∧ (true = false → false = true)) ∧ (true = false → false = true)) ∧ (true = false → false = true)) ∧ (true = false → false = true)) ∧ (true = false → false = true)) ∧ (true = false → false = true)) := by kernel_rfl
theorem s_awake20 : FSound Try.prog 8 c_awake20 := by
  refine fsound_of (Ctx.ok_of2 (M := Mx) (N := [11]) mixedA ok_reright okD_Mix okB0) Try.func8 (by kernel_rfl) (by kernel_rfl) ?_
  intro us p v h hp
  unfold c_awake20 at h
  split at h
  · skip
    cases h
    refine ⟨rfl, (fun bk => match bk with | 500002 => some { S := Nat, st := fun s => ⟨[.junk, .v (.one (.ptr 0 0)), .v (.one (.int .i64 true 0)), .junk, .junk, .junk, .junk, .junk, .junk, .junk, .junk, .junk, .junk, .junk, .junk, .junk, .junk, .junk, .junk, .junk, .junk, .junk, .junk, .junk, .junk, .junk, .junk, .junk, .junk, .junk, .junk, .junk, .junk, .junk, .junk, .junk, .junk, .junk, .junk, .junk, .junk, .junk, .junk, .junk, .junk, .junk, .junk, .junk, .junk, .junk, .junk, .junk, .junk, .junk, .junk, .junk, .junk, .junk, .junk, .junk, .junk, .junk, .junk, .junk], [some (.cells [.int .i64 false 2, .int .i64 false 0, .rs true 0 1 0 12 0 0 0] 64), some (.rows false true shV noV 0 0 50)]⟩, ok := fun s => True, mu := fun s => 0, init := 0 } | _ => none), 400, [], by simp [tmLe, svLe, vLe, lfLe, lfsLe, ifB, nmIs, idR], rfl, ?_⟩
    rw [nf_awake20]
    clear hp
    refine ⟨⟨0, ⟨⟨trivial, rfl, trivial⟩, ⟨rfl, rfl, rfl, rfl, rfl, rfl⟩, ⟨rfl, rfl⟩, trivial⟩, trivial⟩, fun _ _ => ⟨⟨rfl, rfl, rfl, fun _ => rfl⟩, by unfold okB; omega, fun _ _ => ⟨⟨rfl, rfl, rfl, fun _ => rfl⟩, by unfold okB; omega, fun e he => ⟨⟨rfl, rfl, rfl, he.2⟩, by unfold okB; omega, fun _ _ => ?_⟩⟩⟩⟩
    simp
  · cases h
noncomputable def Γ_awake20 : List (FuncId × FX) := (8, c_awake20) :: Γ_reright
theorem ok_awake20 : ΓOk Try.prog Γ_awake20 := ΓOk.cons (c := .pure c_awake20) s_awake20 ok_reright

theorem nf_MixerAt (z : Bool) (base : Nat) (c : Nat) (xs : List (Row shV)) (vs : Int) (t : Int) : goal ⟨Mx, Try.prog, Γ_awake20, Δ_Mix, B0, none, false, [], none⟩ (fun bk => match bk with | 700006 => some { S := Unit, st := fun s => ⟨[.v (.one (.ptr 1 0))], []⟩, ok := fun s => True, mu := fun s => 0, init := () } | _ => none) 400 Try.f3 [.v (.one (.rs z 0 0 base (List.length shV) 0 (List.length xs) c)), .v (.one (.int .i64 false vs)), .v (.one (.int .i64 false t))] [some (.rows true z shV xs base (List.length xs) 50)] (fun r _ => svLe idR r (.v (.one (.bool false true)))) = ((decide ((40 : Int) < (↑xs.length : Int)) = false → (decide ((100 : Int) < vs) = true → true = true) ∧ (decide ((100 : Int) < vs) = false → (xs.length = xs.length ∧ z = z ∧ base = base) ∧ xs.length ≤ (64 : Nat) ∧ ∀ (e : Unit), True → (xs.length = xs.length ∧ z = z ∧ base = base) ∧ xs.length ≤ (64 : Nat) ∧ ∀ (e : Unit), True → (wi (sumL (ldF xs vs t) t (ldF xs vs t).length) (-32768 : Int) (32767 : Int) = wi (sumL (ldF xs vs t) t (ldF xs vs t).length) (-32768 : Int) (32767 : Int) ∧ wi (sumR (ldF xs vs t) t (ldF xs vs t).length) (-32768 : Int) (32767 : Int) = wi (sumR (ldF xs vs t) t (ldF xs vs t).length) (-32768 : Int) (32767 : Int)) ∧ ((wi (sumL (ldF xs vs t) t (ldF xs vs t).length) (-32768 : Int) (32767 : Int) == wi (sumL (ldF xs (if vs < (0 : Int) then (0 : Int) else vs) t) t (ldF xs (if vs < (0 : Int) then (0 : Int) else vs) t).length) (-32768 : Int) (32767 : Int) && (wi (sumR (ldF xs vs t) t (ldF xs vs t).length) (-32768 : Int) (32767 : Int) == wi (sumR (ldF xs (if vs < (0 : Int) then (0 : Int) else vs) t) t (ldF xs (if vs < (0 : Int) then (0 : Int) else vs) t).length) (-32768 : Int) (32767 : Int) && true)) = true → (decide ((-32768 : Int) ≤ wi (sumL (ldF xs vs t) t (ldF xs vs t).length) (-32768 : Int) (32767 : Int)) = true → (decide (wi (sumL (ldF xs vs t) t (ldF xs vs t).length) (-32768 : Int) (32767 : Int) ≤ (32767 : Int)) = true → (decide ((-32768 : Int) ≤ wi (sumR (ldF xs vs t) t (ldF xs vs t).length) (-32768 : Int) (32767 : Int)) = true → decide (wi (sumR (ldF xs vs t) t (ldF xs vs t).length) (-32768 : Int) (32767 : Int) ≤ (32767 : Int)) = true) ∧ (decide ((-32768 : Int) ≤ wi (sumR (ldF xs vs t) t (ldF xs vs t).length) (-32768 : Int) (32767 : Int)) = false → false = true)) ∧ (decide (wi (sumL (ldF xs vs t) t (ldF xs vs t).length) (-32768 : Int) (32767 : Int) ≤ (32767 : Int)) = false → false = true)) ∧ (decide ((-32768 : Int) ≤ wi (sumL (ldF xs vs t) t (ldF xs vs t).length) (-32768 : Int) (32767 : Int)) = false → false = true)) ∧ ((wi (sumL (ldF xs vs t) t (ldF xs vs t).length) (-32768 : Int) (32767 : Int) == wi (sumL (ldF xs (if vs < (0 : Int) then (0 : Int) else vs) t) t (ldF xs (if vs < (0 : Int) then (0 : Int) else vs) t).length) (-32768 : Int) (32767 : Int) && (wi (sumR (ldF xs vs t) t (ldF xs vs t).length) (-32768 : Int) (32767 : Int) == wi (sumR (ldF xs (if vs < (0 : Int) then (0 : Int) else vs) t) t (ldF xs (if vs < (0 : Int) then (0 : Int) else vs) t).length) (-32768 : Int) (32767 : Int) && true)) = false → false = true))) ∧ (decide ((40 : Int) < (↑xs.length : Int)) = true → true = true)) := by kernel_rfl
theorem MixerAt_walk (vs : Int) (t : Int) (W : World) (xs : List (Row shV)) (v : Value) (hv : SlArg W shV xs v) (hw : ∀ r ∈ xs, rowWf shV r) (w_vs : (Lit.int .i64 vs).wf = true) (w_t : (Lit.int .i64 t).wf = true) : Calls Try.prog 3 #[v, .int .i64 vs, .int .i64 t] W fun e w' => e = .returned (.bool true) ∧ Ext W w' := by
  refine law_of1 (sh := shV) (pre := []) (post := [.v (.one (.int .i64 false vs)), .v (.one (.int .i64 false t))]) (vpre := []) (vpost := [.int .i64 vs, .int .i64 t]) (Ctx.ok_of2 (M := Mx) (N := []) mixedA ok_awake20 okD_Mix okB0) Try.func3 (fun _ hp => absurd hp (by simp [GG])) hv (fun β => .nil) (fun β => (.cons (.v (.one (.int))) (.cons (.v (.one (.int))) .nil))) 50 fun z base c hzx => ⟨fun bk => match bk with | 700006 => some { S := Unit, st := fun s => ⟨[.v (.one (.ptr 1 0))], []⟩, ok := fun s => True, mu := fun s => 0, init := () } | _ => none, 400, ?_⟩
  refine by_nf (nf_MixerAt z base c xs vs t) ?_
  have el : ldF xs (if vs < 0 then 0 else vs) t = ldF xs vs t := by
    rw [← ldF_max xs vs t]
    congr 1
    split <;> omega
  rw [el]
  have p1 := pcm_bd (sumL (ldF xs vs t) t (ldF xs vs t).length)
  have p2 := pcm_bd (sumR (ldF xs vs t) t (ldF xs vs t).length)
  generalize wi (sumL (ldF xs vs t) t (ldF xs vs t).length) (-32768) 32767 = A at *
  generalize wi (sumR (ldF xs vs t) t (ldF xs vs t).length) (-32768) 32767 = B at *
  simp only [eq_self_iff_true, true_and, and_true, Int.toNat_natCast, implies_true, decide_eq_true_eq, decide_eq_false_iff_not, bne_iff_ne, bne_eq_false_iff_eq, ne_eq, Decidable.not_not, inR, klo, khi, Bool.not_eq_true', Bool.not_eq_false', beq_iff_eq, beq_eq_false_iff_ne]
  refine fun h _ => ⟨by omega, fun _ _ => ⟨by omega, fun _ _ => ?_⟩⟩
  simp [p1, p2]
end Go.Proofs.Ytljnddhldjaglaa
