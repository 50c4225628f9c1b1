/- CALM: A PLAN OF NO WEATHER. Conditions: the contracts' own. Own work; the normal forms were printed by a program of mine (wip/rex). -/
import Derived.Test.YtkfcajgingmneaaRS3
namespace Go.Proofs.Ytkfcajgingmneaa
open Go.RowKit Rex
set_option linter.unusedVariables false
set_option linter.unusedSimpArgs false
set_option maxRecDepth 100000


def tickR (w a : Int) : Row shM := (1, w, 0, 0, 0, a, ())
def takeR (s l d p m w : Int) : Row shM := (dgK s l d p, w, dgI s l d p m, dgA s l d p, dgB s l d p, 0, ())
/-- chance behind so many rounds -/
def chN (s l d p : Int) : Nat → Int
  | 0 => s
  | n + 1 => nx (dgS (nx (dgS (chN s l d p n) l d p)) l d p)
/-- the moves of so many rounds -/
def planN (s l d p m : Int) (xa xb : List (Row sh8)) : Nat → List (Row shM)
  | 0 => []
  | n + 1 => planN s l d p m xa xb n ++ [tickR 0 (inputF xa (n : Int)), tickR 1 (inputF xb (n : Int)), takeR (chN s l d p n) l d p m 0, takeR (nx (dgS (chN s l d p n) l d p)) l d p m 1]
theorem planN_length (s l d p m : Int) (xa xb : List (Row sh8)) (n : Nat) : (planN s l d p m xa xb n).length = 4 * n := by
  induction n with
  | zero => rfl
  | succ n ih => simp only [planN, List.length_append, ih, List.length_cons, List.length_nil]; omega
def zer (n : Nat) : List (Row sh8) := List.replicate n (row0 sh8)
def calmB (r : Int) : Bool := decide (0 ≤ r) && decide (r ≤ 2000)
def calmN (r : Int) : Nat := if calmB r = true then 4 * r.toNat else 0
def calmX (r : Int) : List (Row shM) := if calmB r = true then planN 0 0 0 0 0 (zer r.toNat) (zer r.toNat) r.toNat else []


noncomputable def c_calm : MC := fun us m K => match us with
  | [.v (.one (.int .i64 _ q))] => (∀ e : Nat, (calmN q ≤ e ∧ (calmN q = 0 → e = 0)) → K (.tup [.one (.rs (decide (calmN q = 0)) 0 (m.length + 0) 0 6 0 (calmN q) e), .one (.int .i64 false (if calmB q = true then 0 else 1))]) (m ++ [some (.rows false (decide (calmN q = 0)) shM (calmX q) 0 e 28)]))
  | _ => False
theorem nf_calm (q : Int) : goal ⟨Mx, Try.prog, Γ_rthrow, Δ_fair, B_dgram, none, false, [21, 20], none⟩ (fun bk => match bk with | 21001000 => some { S := Nat × Nat, st := fun s => ⟨[.junk, .v (.one (.ptr 4 0)), .v (.one (.ptr 2 0)), .v (.one (.ptr 3 0)), .junk, .junk, .junk, .junk, .junk, .junk, .junk, .junk, .junk, .junk, .junk, .v (.one (.int .i64 false (q))), .v (.one (.int .i64 false ((s.1 : Int)))), .junk, .junk, .junk, .junk, .junk, .junk, .junk, .junk, .junk, .junk, .junk, .junk, .junk, .junk, .junk, .junk, .junk, .junk, .junk, .junk, .junk, .junk, .junk, .junk, .junk, .junk, .junk, .junk], [some (.rows false false sh8 (zer q.toNat) 0 q.toNat 5), some (.cells [.int .u32 false (chN 0 0 0 0 s.1)] 53), some (.cells [.ptr 1 0] 51), some (.cells [.int .i64 false 0, .int .i64 false 0, .int .i64 false 0, .int .i64 false 0] 32), some (.cells [.rs false 0 0 0 1 0 q.toNat q.toNat, .rs false 0 0 0 1 0 q.toNat q.toNat] 54), some (.cells [.rs (decide (s.1 = 0)) 0 7 0 6 0 (4 * s.1) s.2] 22), none, some (.rows false (decide (s.1 = 0)) shM (planN 0 0 0 0 0 (zer q.toNat) (zer q.toNat) s.1) 0 s.2 28)]⟩, ok := fun s => s.1 ≤ q.toNat ∧ 4 * s.1 ≤ s.2 ∧ (s.1 = 0 → s.2 = 0), mu := fun s => q.toNat - s.1, init := (0, 0) } | _ => none) 400 Try.f16 [.v (.one (.int .i64 false q))] [] (fun r m' => ∃ e : Nat, (calmN q ≤ e ∧ (calmN q = 0 → e = 0)) ∧ stLe 0 ⟨[r], m'⟩ ⟨[.tup [.one (.rs (decide (calmN q = 0)) 0 0 0 6 0 (calmN q) e), .one (.int .i64 false (if calmB q = true then 0 else 1))]], [some (.rows false (decide (calmN q = 0)) shM (calmX q) 0 e 28)]⟩) = ((decide (q < (0 : Int)) = false → (decide ((2000 : Int) < q) = true → ∃ (e : Nat), (calmN q ≤ e ∧ (calmN q = (0 : Nat) → e = (0 : Nat))) ∧ (((decide (calmN q = (0 : Nat)) = true ∧ (0 : Nat) = (0 : Nat) ∧ calmN q = (0 : Nat) ∧ e = (0 : Nat)) ∧ (1 : Int) = if calmB q = true then (0 : Int) else (1 : Int)) ∧ True) ∧ (decide (calmN q = (0 : Nat)) = true ∧ calmX q = []) ∧ True) ∧ (decide ((2000 : Int) < q) = false → ((0 : Int) ≤ q ∧ q ≤ q ∧ (↑(1 : Nat) : Int) * q ≤ (140737488355328 : Int) ∧ q ≤ (140737488355328 : Int)) ∧ ∀ (l : Nat) (r : Loop), (((Value.func (Fn.yield l) { toList := [] } { toList := [] } = Value.func (Fn.yield l) { toList := [] } { toList := [] } ∧ True ∧ True ∧ True ∧ (if (↑q.toNat : Int) < (↑q.toNat : Int) then (↑q.toNat : Int) else (↑q.toNat : Int)) = q ∧ (0 : Int) = (↑(0 : Nat) : Int) ∧ True) ∧ (false = false ∧ (0 : Nat) = (0 : Nat) ∧ q.toNat = q.toNat ∧ List.take (zer q.toNat).length (List.replicate q.toNat (Int.ofNat (0 : Nat), PUnit.unit)) = zer q.toNat) ∧ (0 : Int) = chN (0 : Int) (0 : Int) (0 : Int) (0 : Int) (0 : Nat) ∧ True ∧ ((0 : Int) = (0 : Int) ∧ (0 : Int) = (0 : Int) ∧ (0 : Int) = (0 : Int) ∧ (0 : Int) = (0 : Int)) ∧ (((false = false ∧ (0 : Nat) = (0 : Nat) ∧ (0 : Nat) = (0 : Nat) ∧ q.toNat = q.toNat ∧ q.toNat = q.toNat) ∧ True) ∧ (false = false ∧ (0 : Nat) = (0 : Nat) ∧ (0 : Nat) = (0 : Nat) ∧ q.toNat = q.toNat ∧ q.toNat = q.toNat) ∧ True) ∧ (decide ((0 : Nat) = (0 : Nat)) = true ∧ (0 : Nat) = (0 : Nat) ∧ (4 : Nat) * (0 : Nat) = (0 : Nat) ∧ (0 : Nat) = (0 : Nat)) ∧ (r = r ∧ (0 : Nat) = (0 : Nat)) ∧ (decide ((0 : Nat) = (0 : Nat)) = true ∧ planN (0 : Int) (0 : Int) (0 : Int) (0 : Int) (0 : Int) (zer q.toNat) (zer q.toNat) (0 : Nat) = []) ∧ True) ∧ (0 : Nat) ≤ q.toNat ∧ (4 : Nat) * (0 : Nat) ≤ (0 : Nat) ∧ ((0 : Nat) = (0 : Nat) → (0 : Nat) = (0 : Nat))) ∧ ∀ (s : Nat × Nat), s.fst ≤ q.toNat ∧ (4 : Nat) * s.fst ≤ s.snd ∧ (s.fst = (0 : Nat) → s.snd = (0 : Nat)) → (decide ((↑s.fst : Int) < q) = true → (q.toNat = (zer q.toNat).length ∧ false = false ∧ (0 : Nat) = (0 : Nat)) ∧ (0 : Int) ≤ (↑s.fst : Int) ∧ l = l ∧ r = r ∧ r = r ∧ ((4 : Nat) * s.fst = (planN (0 : Int) (0 : Int) (0 : Int) (0 : Int) (0 : Int) (zer q.toNat) (zer q.toNat) s.fst).length ∧ s.snd = s.snd ∧ decide (s.fst = (0 : Nat)) = decide (s.fst = (0 : Nat)) ∧ (decide (s.fst = (0 : Nat)) = true → s.snd = (0 : Nat)) ∧ ((4 : Nat) * s.fst + (1 : Nat)) * (40 : Nat) ≤ (140737488355328 : Nat)) ∧ ∀ (c' : Nat), (4 : Nat) * s.fst + (1 : Nat) ≤ c' → r = r ∧ (q.toNat = (zer q.toNat).length ∧ false = false ∧ (0 : Nat) = (0 : Nat)) ∧ (0 : Int) ≤ (↑s.fst : Int) ∧ l = l ∧ r = r ∧ r = r ∧ ((4 : Nat) * s.fst + (1 : Nat) = ((planN (0 : Int) (0 : Int) (0 : Int) (0 : Int) (0 : Int) (zer q.toNat) (zer q.toNat) s.fst).append [((1 : Int), (0 : Int), (0 : Int), (0 : Int), (0 : Int), inputF (zer q.toNat) (↑s.fst : Int), PUnit.unit)]).length ∧ c' = c' ∧ (false && decide (s.fst = (0 : Nat))) = (false && decide (s.fst = (0 : Nat))) ∧ ((false && decide (s.fst = (0 : Nat))) = true → c' = (0 : Nat)) ∧ ((4 : Nat) * s.fst + (1 : Nat) + (1 : Nat)) * (40 : Nat) ≤ (140737488355328 : Nat)) ∧ ∀ (c' : Nat), (4 : Nat) * s.fst + (1 : Nat) + (1 : Nat) ≤ c' → r = r ∧ (((0 : Int) ≤ (0 : Int) ∧ (0 : Int) ≤ (100 : Int)) ∧ ((0 : Int) ≤ (0 : Int) ∧ (0 : Int) ≤ (100 : Int)) ∧ ((0 : Int) ≤ (0 : Int) ∧ (0 : Int) ≤ (100 : Int)) ∧ (0 : Int) ≤ (0 : Int) ∧ (0 : Int) ≤ (8 : Int)) ∧ l = l ∧ r = r ∧ r = r ∧ ((4 : Nat) * s.fst + (1 : Nat) + (1 : Nat) = (((planN (0 : Int) (0 : Int) (0 : Int) (0 : Int) (0 : Int) (zer q.toNat) (zer q.toNat) s.fst).append [((1 : Int), (0 : Int), (0 : Int), (0 : Int), (0 : Int), inputF (zer q.toNat) (↑s.fst : Int), PUnit.unit)]).append [((1 : Int), (1 : Int), (0 : Int), (0 : Int), (0 : Int), inputF (zer q.toNat) (↑s.fst : Int), PUnit.unit)]).length ∧ c' = c' ∧ (false && (false && decide (s.fst = (0 : Nat)))) = (false && (false && decide (s.fst = (0 : Nat)))) ∧ ((false && (false && decide (s.fst = (0 : Nat)))) = true → c' = (0 : Nat)) ∧ ((4 : Nat) * s.fst + (1 : Nat) + (1 : Nat) + (1 : Nat)) * (40 : Nat) ≤ (140737488355328 : Nat)) ∧ ∀ (c' : Nat), (4 : Nat) * s.fst + (1 : Nat) + (1 : Nat) + (1 : Nat) ≤ c' → r = r ∧ (((0 : Int) ≤ (0 : Int) ∧ (0 : Int) ≤ (100 : Int)) ∧ ((0 : Int) ≤ (0 : Int) ∧ (0 : Int) ≤ (100 : Int)) ∧ ((0 : Int) ≤ (0 : Int) ∧ (0 : Int) ≤ (100 : Int)) ∧ (0 : Int) ≤ (0 : Int) ∧ (0 : Int) ≤ (8 : Int)) ∧ l = l ∧ r = r ∧ r = r ∧ ((4 : Nat) * s.fst + (1 : Nat) + (1 : Nat) + (1 : Nat) = ((((planN (0 : Int) (0 : Int) (0 : Int) (0 : Int) (0 : Int) (zer q.toNat) (zer q.toNat) s.fst).append [((1 : Int), (0 : Int), (0 : Int), (0 : Int), (0 : Int), inputF (zer q.toNat) (↑s.fst : Int), PUnit.unit)]).append [((1 : Int), (1 : Int), (0 : Int), (0 : Int), (0 : Int), inputF (zer q.toNat) (↑s.fst : Int), PUnit.unit)]).append [(dgK (chN (0 : Int) (0 : Int) (0 : Int) (0 : Int) s.fst) (0 : Int) (0 : Int) (0 : Int), (0 : Int), dgI (chN (0 : Int) (0 : Int) (0 : Int) (0 : Int) s.fst) (0 : Int) (0 : Int) (0 : Int) (0 : Int), dgA (chN (0 : Int) (0 : Int) (0 : Int) (0 : Int) s.fst) (0 : Int) (0 : Int) (0 : Int), dgB (chN (0 : Int) (0 : Int) (0 : Int) (0 : Int) s.fst) (0 : Int) (0 : Int) (0 : Int), (0 : Int), PUnit.unit)]).length ∧ c' = c' ∧ (false && (false && (false && decide (s.fst = (0 : Nat))))) = (false && (false && (false && decide (s.fst = (0 : Nat))))) ∧ ((false && (false && (false && decide (s.fst = (0 : Nat))))) = true → c' = (0 : Nat)) ∧ ((4 : Nat) * s.fst + (1 : Nat) + (1 : Nat) + (1 : Nat) + (1 : Nat)) * (40 : Nat) ≤ (140737488355328 : Nat)) ∧ ∀ (c' : Nat), (4 : Nat) * s.fst + (1 : Nat) + (1 : Nat) + (1 : Nat) + (1 : Nat) ≤ c' → r = r ∧ inR IntKind.i64 ((↑s.fst : Int) + (1 : Int)) ∧ ∃ (s' : Nat × Nat), (((Value.func (Fn.yield l) { toList := [] } { toList := [] } = Value.func (Fn.yield l) { toList := [] } { toList := [] } ∧ True ∧ True ∧ True ∧ q = q ∧ (↑s.fst : Int) + (1 : Int) = (↑s'.fst : Int) ∧ True) ∧ (false = false ∧ (0 : Nat) = (0 : Nat) ∧ q.toNat = q.toNat ∧ List.take (zer q.toNat).length (zer q.toNat) = zer q.toNat) ∧ nx (dgS (nx (dgS (chN (0 : Int) (0 : Int) (0 : Int) (0 : Int) s.fst) (0 : Int) (0 : Int) (0 : Int))) (0 : Int) (0 : Int) (0 : Int)) = chN (0 : Int) (0 : Int) (0 : Int) (0 : Int) s'.fst ∧ True ∧ ((0 : Int) = (0 : Int) ∧ (0 : Int) = (0 : Int) ∧ (0 : Int) = (0 : Int) ∧ (0 : Int) = (0 : Int)) ∧ (((false = false ∧ (0 : Nat) = (0 : Nat) ∧ (0 : Nat) = (0 : Nat) ∧ q.toNat = q.toNat ∧ q.toNat = q.toNat) ∧ True) ∧ (false = false ∧ (0 : Nat) = (0 : Nat) ∧ (0 : Nat) = (0 : Nat) ∧ q.toNat = q.toNat ∧ q.toNat = q.toNat) ∧ True) ∧ (((false && (false && (false && (false && decide (s.fst = (0 : Nat)))))) = decide (s'.fst = (0 : Nat)) ∧ (0 : Nat) = (0 : Nat) ∧ (0 : Nat) = (0 : Nat) ∧ (4 : Nat) * s.fst + (1 : Nat) + (1 : Nat) + (1 : Nat) + (1 : Nat) = (4 : Nat) * s'.fst ∧ c' = s'.snd) ∧ True) ∧ (r = r ∧ (0 : Nat) = (0 : Nat)) ∧ ((false && (false && (false && (false && decide (s.fst = (0 : Nat)))))) = decide (s'.fst = (0 : Nat)) ∧ (0 : Nat) = (0 : Nat) ∧ c' = s'.snd ∧ List.take (planN (0 : Int) (0 : Int) (0 : Int) (0 : Int) (0 : Int) (zer q.toNat) (zer q.toNat) s'.fst).length (((((planN (0 : Int) (0 : Int) (0 : Int) (0 : Int) (0 : Int) (zer q.toNat) (zer q.toNat) s.fst).append [((1 : Int), (0 : Int), (0 : Int), (0 : Int), (0 : Int), inputF (zer q.toNat) (↑s.fst : Int), PUnit.unit)]).append [((1 : Int), (1 : Int), (0 : Int), (0 : Int), (0 : Int), inputF (zer q.toNat) (↑s.fst : Int), PUnit.unit)]).append [(dgK (chN (0 : Int) (0 : Int) (0 : Int) (0 : Int) s.fst) (0 : Int) (0 : Int) (0 : Int), (0 : Int), dgI (chN (0 : Int) (0 : Int) (0 : Int) (0 : Int) s.fst) (0 : Int) (0 : Int) (0 : Int) (0 : Int), dgA (chN (0 : Int) (0 : Int) (0 : Int) (0 : Int) s.fst) (0 : Int) (0 : Int) (0 : Int), dgB (chN (0 : Int) (0 : Int) (0 : Int) (0 : Int) s.fst) (0 : Int) (0 : Int) (0 : Int), (0 : Int), PUnit.unit)]).append [(dgK (nx (dgS (chN (0 : Int) (0 : Int) (0 : Int) (0 : Int) s.fst) (0 : Int) (0 : Int) (0 : Int))) (0 : Int) (0 : Int) (0 : Int), (1 : Int), dgI (nx (dgS (chN (0 : Int) (0 : Int) (0 : Int) (0 : Int) s.fst) (0 : Int) (0 : Int) (0 : Int))) (0 : Int) (0 : Int) (0 : Int) (0 : Int), dgA (nx (dgS (chN (0 : Int) (0 : Int) (0 : Int) (0 : Int) s.fst) (0 : Int) (0 : Int) (0 : Int))) (0 : Int) (0 : Int) (0 : Int), dgB (nx (dgS (chN (0 : Int) (0 : Int) (0 : Int) (0 : Int) s.fst) (0 : Int) (0 : Int) (0 : Int))) (0 : Int) (0 : Int) (0 : Int), (0 : Int), PUnit.unit)]) = planN (0 : Int) (0 : Int) (0 : Int) (0 : Int) (0 : Int) (zer q.toNat) (zer q.toNat) s'.fst) ∧ True) ∧ s'.fst ≤ q.toNat ∧ (4 : Nat) * s'.fst ≤ s'.snd ∧ (s'.fst = (0 : Nat) → s'.snd = (0 : Nat))) ∧ q.toNat - s'.fst < q.toNat - s.fst) ∧ (decide ((↑s.fst : Int) < q) = false → ∃ (e : Nat), (calmN q ≤ e ∧ (calmN q = (0 : Nat) → e = (0 : Nat))) ∧ ((((decide (s.fst = (0 : Nat)) = decide (calmN q = (0 : Nat)) ∧ (0 : Nat) = (0 : Nat) ∧ (0 : Nat) = (0 : Nat) ∧ (4 : Nat) * s.fst = calmN q ∧ s.snd = e) ∧ True) ∧ (0 : Int) = if calmB q = true then (0 : Int) else (1 : Int)) ∧ True) ∧ (decide (s.fst = (0 : Nat)) = decide (calmN q = (0 : Nat)) ∧ (0 : Nat) = (0 : Nat) ∧ s.snd = e ∧ List.take (calmX q).length (planN (0 : Int) (0 : Int) (0 : Int) (0 : Int) (0 : Int) (zer q.toNat) (zer q.toNat) s.fst) = calmX q) ∧ True))) ∧ (decide (q < (0 : Int)) = true → ∃ (e : Nat), (calmN q ≤ e ∧ (calmN q = (0 : Nat) → e = (0 : Nat))) ∧ (((decide (calmN q = (0 : Nat)) = true ∧ (0 : Nat) = (0 : Nat) ∧ calmN q = (0 : Nat) ∧ e = (0 : Nat)) ∧ (1 : Int) = if calmB q = true then (0 : Int) else (1 : Int)) ∧ True) ∧ (decide (calmN q = (0 : Nat)) = true ∧ calmX q = []) ∧ True)) := by kernel_rfl
set_option maxHeartbeats 2000000 in
theorem s_calm : MSound Try.prog 16 c_calm := by
  refine msound_mk (Ctx.ok_of2 (M := Mx) (N := [21, 20]) mixedA ok_rthrow okD_fair okB_dgram) Try.func16 (by kernel_rfl) (by kernel_rfl) (fun us m K h => ?_)
  unfold c_calm at h
  split at h
  · rename_i k0 q
    refine ⟨Nat, fun e => calmN q ≤ e ∧ (calmN q = 0 → e = 0), (fun bk => match bk with | 21001000 => some { S := Nat × Nat, st := fun s => ⟨[.junk, .v (.one (.ptr 4 0)), .v (.one (.ptr 2 0)), .v (.one (.ptr 3 0)), .junk, .junk, .junk, .junk, .junk, .junk, .junk, .junk, .junk, .junk, .junk, .v (.one (.int .i64 false (q))), .v (.one (.int .i64 false ((s.1 : Int)))), .junk, .junk, .junk, .junk, .junk, .junk, .junk, .junk, .junk, .junk, .junk, .junk, .junk, .junk, .junk, .junk, .junk, .junk, .junk, .junk, .junk, .junk, .junk, .junk, .junk, .junk, .junk, .junk], [some (.rows false false sh8 (zer q.toNat) 0 q.toNat 5), some (.cells [.int .u32 false (chN 0 0 0 0 s.1)] 53), some (.cells [.ptr 1 0] 51), some (.cells [.int .i64 false 0, .int .i64 false 0, .int .i64 false 0, .int .i64 false 0] 32), some (.cells [.rs false 0 0 0 1 0 q.toNat q.toNat, .rs false 0 0 0 1 0 q.toNat q.toNat] 54), some (.cells [.rs (decide (s.1 = 0)) 0 7 0 6 0 (4 * s.1) s.2] 22), none, some (.rows false (decide (s.1 = 0)) shM (planN 0 0 0 0 0 (zer q.toNat) (zer q.toNat) s.1) 0 s.2 28)]⟩, ok := fun s => s.1 ≤ q.toNat ∧ 4 * s.1 ≤ s.2 ∧ (s.1 = 0 → s.2 = 0), mu := fun s => q.toNat - s.1, init := (0, 0) } | _ => none), 400, [.v (.one (.int .i64 false q))], fun e => .tup [.one (.rs (decide (calmN q = 0)) 0 0 0 6 0 (calmN q) e), .one (.int .i64 false (if calmB q = true then 0 else 1))], fun e => [some (.rows false (decide (calmN q = 0)) shM (calmX q) 0 e 28)], (fun r m' => ∃ e : Nat, (calmN q ≤ e ∧ (calmN q = 0 → e = 0)) ∧ stLe 0 ⟨[r], m'⟩ ⟨[.tup [.one (.rs (decide (calmN q = 0)) 0 0 0 6 0 (calmN q) e), .one (.int .i64 false (if calmB q = true then 0 else 1))]], [some (.rows false (decide (calmN q = 0)) shM (calmX q) 0 e 28)]⟩), by simp [tmLe, svLe, vLe, lfLe, lfsLe, ifB, nmIs], fun e => rfl, ?_, fun r m' hr => hr, fun e he => h e he⟩
    rw [nf_calm]
    have hB0 : ¬ (0 ≤ q ∧ q ≤ 2000) → calmB q = false := by
      intro h
      unfold calmB
      simp only [Bool.and_eq_false_iff, decide_eq_false_iff_not]
      omega
    have hB1 : 0 ≤ q → q ≤ 2000 → calmB q = true := fun h k => by simp [calmB, h, k]
    refine ⟨fun h0 => ⟨fun h1 => ?_, fun h1 => ?_⟩, fun h0 => ?_⟩
    · simp only [decide_eq_true_eq, decide_eq_false_iff_not] at h0 h1
      have hb := hB0 (by omega)
      exact ⟨0, by simp [calmN, calmX, hb]⟩
    · simp only [decide_eq_false_iff_not] at h0 h1
      have hb := hB1 (by omega) (by omega)
      have hn : calmN q = 4 * q.toNat := by simp [calmN, hb]
      have hx : calmX q = planN 0 0 0 0 0 (zer q.toNat) (zer q.toNat) q.toNat := by simp [calmX, hb]
      have hz : (zer q.toNat).length = q.toNat := by simp [zer]
      have hz2 : List.replicate q.toNat ((Int.ofNat 0, PUnit.unit) : Row sh8) = zer q.toNat := rfl
      refine ⟨by omega, fun l r => ⟨?_, fun s hs => ⟨fun hc => ?_, fun hc => ?_⟩⟩⟩
      · have ht : List.take (zer q.toNat).length (List.replicate q.toNat ((Int.ofNat 0, PUnit.unit) : Row sh8)) = zer q.toNat := by rw [hz2]; exact List.take_length
        refine ⟨⟨⟨rfl, trivial, trivial, trivial, by omega, rfl, trivial⟩, ⟨rfl, rfl, rfl, ht⟩, rfl, trivial, ⟨rfl, rfl, rfl, rfl⟩, ⟨⟨⟨rfl, rfl, rfl, rfl, rfl⟩, trivial⟩, ⟨rfl, rfl, rfl, rfl, rfl⟩, trivial⟩, ⟨rfl, rfl, rfl, rfl⟩, ⟨rfl, rfl⟩, ⟨rfl, rfl⟩, trivial⟩, by omega, by omega, fun _ => rfl⟩
      · simp only [decide_eq_true_eq] at hc
        obtain ⟨h2, h3, h4⟩ := hs
        have hp := planN_length 0 0 0 0 0 (zer q.toNat) (zer q.toNat) s.1
        have ht : List.take (zer q.toNat).length (zer q.toNat) = zer q.toNat := List.take_length
        simp only [List.append_eq, List.length_append, List.length_cons, List.length_nil, true_and, and_true, Bool.false_and, Bool.false_eq_true, false_implies, implies_true, decide_eq_true_eq, inR, klo, khi]
        (repeat' (first | (refine And.intro ?_ ?_) | intro _))
        all_goals (try first | exact True.intro | rfl | omega)
        rename_i c1 k1 c2 k2 c3 k3 c4 k4
        refine ⟨(s.1 + 1, c4), ?_⟩
        have e1 : decide (s.1 + 1 = 0) = false := decide_eq_false (by omega)
        have e2 : 4 * s.1 + 1 + 1 + 1 + 1 = 4 * (s.1 + 1) := by omega
        have e3 : (s.1 : Int) + 1 = ((s.1 + 1 : Nat) : Int) := by omega
        simp only [e1, e2, e3, true_and, and_true]
        refine ⟨⟨⟨ht, rfl, ?_⟩, by omega, by omega, by omega⟩, by omega⟩
        have hp1 := planN_length 0 0 0 0 0 (zer q.toNat) (zer q.toNat) (s.1 + 1)
        rw [List.take_of_length_le (by simp only [List.length_append, List.length_cons, List.length_nil]; omega)]
        simp only [List.append_assoc]
        rfl
      · simp only [decide_eq_false_iff_not] at hc
        obtain ⟨h2, h3, h4⟩ := hs
        have e1 : s.1 = q.toNat := by omega
        have e2 : decide (s.1 = 0) = decide (calmN q = 0) := by rw [hn]; exact decide_eq_decide.2 (by omega)
        refine ⟨s.2, ⟨by omega, by omega⟩, ?_⟩
        rw [e2, hx, hn, hb]
        rw [e1]
        exact ⟨⟨⟨⟨⟨rfl, rfl, rfl, rfl, rfl⟩, trivial⟩, by simp⟩, trivial⟩, ⟨rfl, rfl, rfl, List.take_length⟩, trivial⟩
    · simp only [decide_eq_true_eq] at h0
      have hb := hB0 (by omega)
      exact ⟨0, by simp [calmN, calmX, hb]⟩
  · exact h.elim
noncomputable def Δ_calm : List (FuncId × MC) := (16, c_calm) :: Δ_fair
theorem okD_calm : ΔOk Try.prog Δ_calm := ΔOk.cons s_calm okD_fair

end Go.Proofs.Ytkfcajgingmneaa
