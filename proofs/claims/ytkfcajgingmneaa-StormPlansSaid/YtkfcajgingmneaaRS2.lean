/- MOVES: THE LEAST NUMBER WITHIN WHICH THEY ARE FAIR. Conditions: the contracts' own. Own work; the normal forms were printed by a program of mine (wip/rex). -/
import Derived.Test.YtkfcajgingmneaaRS1
namespace Go.Proofs.Ytkfcajgingmneaa
open Go.RowKit Rex
set_option linter.unusedVariables false
set_option linter.unusedSimpArgs false
set_option maxRecDepth 100000


def needR (xs : List (Row shM)) (n : Nat) : Int := needF (getR xs n).1 (getR xs n).2.1 (getR xs n).2.2.1
/-- the last place, of the first n, that meets need j -/
def lastN (xs : List (Row shM)) (j : Int) : Nat → Int
  | 0 => -1
  | n + 1 => if needR xs n = j then (n : Int) else lastN xs j n
def longN (xs : List (Row shM)) (j l0 : Int) : Nat → Int
  | 0 => l0
  | n + 1 => if needR xs n = j then max (longN xs j l0 n) ((n : Int) - lastN xs j n) else longN xs j l0 n
def outN (xs : List (Row shM)) : Nat → Int
  | 0 => 0
  | j + 1 => max (longN xs (j : Int) (outN xs j) xs.length) ((xs.length : Int) - lastN xs (j : Int) xs.length)
theorem lastN_bd (xs : List (Row shM)) (j : Int) (n : Nat) : -1 ≤ lastN xs j n ∧ lastN xs j n < (n : Int) := by
  induction n with
  | zero => simp [lastN]
  | succ n ih =>
    simp only [lastN]
    split <;> omega
def leastF (xs : List (Row shM)) : Int := min (outN xs 4) ((xs.length : Int) + 1)


noncomputable def c_least : MC := fun us m K => match us with
  | [s] => match rdS shM m s with
    | some (q, x, z, base, n, c, tot, xs) => q ∧ (xs.length ≤ 1000000) ∧ K (.v (.one (.int .i64 false (leastF xs)))) m
    | none => False
  | _ => False
theorem nf_least (z : Bool) (base : Nat) (c : Nat) (tot : Nat) (xs : List (Row shM)) : goal ⟨Mx, Try.prog, Γ_tally, Δ_input, B0, none, false, [], none⟩ (fun bk => match bk with | 0 => some { S := Nat, st := fun j => ⟨[.v (.one (.rs z 0 0 base 6 0 (List.length xs) c)), .junk, .junk, .v (.one (.int .i64 false (outN xs j))), .junk, .junk, .junk, .junk, .v (.one (.int .i64 false ((j : Int)))), .junk, .junk, .junk, .junk, .junk, .junk, .junk, .junk, .junk, .junk, .junk, .junk, .junk, .junk, .junk, .junk, .junk, .junk, .junk, .junk, .junk, .junk, .junk, .junk, .junk, .junk, .junk, .junk, .junk, .junk, .junk, .junk], [some (.rows true z shM xs base tot 28)]⟩, ok := fun j => j ≤ 4, mu := fun j => 4 - j, init := 0 } | 2 => some { S := Nat × Nat, st := fun s => ⟨[.v (.one (.rs z 0 0 base 6 0 (List.length xs) c)), .junk, .junk, .v (.one (.int .i64 false (longN xs (s.1 : Int) (outN xs s.1) s.2))), .v (.one (.int .i64 false ((s.1 : Int)))), .v (.one (.int .i64 false (lastN xs (s.1 : Int) s.2))), .junk, .junk, .v (.one (.int .i64 false ((s.1 : Int)))), .junk, .junk, .v (.one (.rs z 0 0 base 6 0 (List.length xs) c)), .v (.one (.int .i64 false ((xs.length : Int)))), .v (.one (.int .i64 false ((s.2 : Int)))), .junk, .junk, .junk, .junk, .junk, .junk, .junk, .junk, .junk, .junk, .junk, .junk, .junk, .junk, .junk, .junk, .junk, .junk, .junk, .junk, .junk, .junk, .junk, .junk, .junk, .junk, .junk], [some (.rows true z shM xs base tot 28)]⟩, ok := fun s => s.1 < 4 ∧ s.2 ≤ xs.length, mu := fun s => xs.length - s.2, init := (0, 0), ex := true, tie := some (fun (σ : St) (s : Nat × Nat) => match (σ.tm[8]? : Option SV) with | some (.v (.one (.int _ _ n))) => n = (s.1 : Int) | _ => False) } | _ => none) 400 Try.f7 [.v (.one (.rs z 0 0 base (List.length shM) 0 (List.length xs) c))] [some (.rows true z shM xs base tot 28)] (fun r m' => stLe 1 ⟨[r], m'⟩ ⟨[.v (.one (.int .i64 false (leastF xs)))], [none]⟩) = ((((((z = z ∧ base = base ∧ (0 : Nat) = (0 : Nat) ∧ xs.length = xs.length ∧ c = c) ∧ True) ∧ (0 : Int) = outN xs (0 : Nat) ∧ (0 : Int) = (↑(0 : Nat) : Int) ∧ True) ∧ (z = z ∧ base = base ∧ tot = tot ∧ List.take xs.length xs = xs) ∧ True) ∧ (0 : Nat) ≤ (4 : Nat)) ∧ ∀ (s : Nat), s ≤ (4 : Nat) → (decide ((↑s : Int) < (4 : Int)) = true → (∃ (s_1 : Nat × Nat), ((((z = z ∧ base = base ∧ (0 : Nat) = (0 : Nat) ∧ xs.length = xs.length ∧ c = c) ∧ True) ∧ outN xs s = longN xs (↑s_1.fst : Int) (outN xs s_1.fst) s_1.snd ∧ (↑s : Int) = (↑s_1.fst : Int) ∧ (-1 : Int) = lastN xs (↑s_1.fst : Int) s_1.snd ∧ (↑s : Int) = (↑s_1.fst : Int) ∧ ((z = z ∧ base = base ∧ (0 : Nat) = (0 : Nat) ∧ xs.length = xs.length ∧ c = c) ∧ True) ∧ (↑xs.length : Int) = (↑xs.length : Int) ∧ (0 : Int) = (↑s_1.snd : Int) ∧ True) ∧ (z = z ∧ base = base ∧ tot = tot ∧ List.take xs.length xs = xs) ∧ True) ∧ (s_1.fst < (4 : Nat) ∧ s_1.snd ≤ xs.length) ∧ (↑s : Int) = (↑s_1.fst : Int)) ∧ ∀ (s_1 : Nat × Nat), (s_1.fst < (4 : Nat) ∧ s_1.snd ≤ xs.length) ∧ (↑s : Int) = (↑s_1.fst : Int) → (decide ((↑s_1.snd : Int) < (↑xs.length : Int)) = true → ((0 : Int) ≤ (↑s_1.snd : Int) ∧ (↑s_1.snd : Int) < (↑xs.length : Int)) ∧ (base = base ∧ (↑s_1.snd : Int).toNat < xs.length) ∧ ((needF (getR xs (↑s_1.snd : Int).toNat).fst (getR xs (↑s_1.snd : Int).toNat).snd.fst (getR xs (↑s_1.snd : Int).toNat).snd.snd.fst == (↑s_1.fst : Int)) = true → inR IntKind.i64 ((↑s_1.snd : Int) - lastN xs (↑s_1.fst : Int) s_1.snd) ∧ inR IntKind.i64 ((↑s_1.snd : Int) + (1 : Int)) ∧ ∃ (s' : Nat × Nat), (((((z = z ∧ base = base ∧ (0 : Nat) = (0 : Nat) ∧ xs.length = xs.length ∧ c = c) ∧ True) ∧ (if longN xs (↑s_1.fst : Int) (outN xs s_1.fst) s_1.snd < (↑s_1.snd : Int) - lastN xs (↑s_1.fst : Int) s_1.snd then (↑s_1.snd : Int) - lastN xs (↑s_1.fst : Int) s_1.snd else longN xs (↑s_1.fst : Int) (outN xs s_1.fst) s_1.snd) = longN xs (↑s'.fst : Int) (outN xs s'.fst) s'.snd ∧ (↑s_1.fst : Int) = (↑s'.fst : Int) ∧ (↑s_1.snd : Int) = lastN xs (↑s'.fst : Int) s'.snd ∧ (↑s_1.fst : Int) = (↑s'.fst : Int) ∧ ((z = z ∧ base = base ∧ (0 : Nat) = (0 : Nat) ∧ xs.length = xs.length ∧ c = c) ∧ True) ∧ (↑xs.length : Int) = (↑xs.length : Int) ∧ (↑s_1.snd : Int) + (1 : Int) = (↑s'.snd : Int) ∧ True) ∧ (z = z ∧ base = base ∧ tot = tot ∧ List.take xs.length xs = xs) ∧ True) ∧ (s'.fst < (4 : Nat) ∧ s'.snd ≤ xs.length) ∧ (↑s : Int) = (↑s'.fst : Int)) ∧ xs.length - s'.snd < xs.length - s_1.snd) ∧ ((needF (getR xs (↑s_1.snd : Int).toNat).fst (getR xs (↑s_1.snd : Int).toNat).snd.fst (getR xs (↑s_1.snd : Int).toNat).snd.snd.fst == (↑s_1.fst : Int)) = false → inR IntKind.i64 ((↑s_1.snd : Int) + (1 : Int)) ∧ ∃ (s' : Nat × Nat), (((((z = z ∧ base = base ∧ (0 : Nat) = (0 : Nat) ∧ xs.length = xs.length ∧ c = c) ∧ True) ∧ longN xs (↑s_1.fst : Int) (outN xs s_1.fst) s_1.snd = longN xs (↑s'.fst : Int) (outN xs s'.fst) s'.snd ∧ (↑s_1.fst : Int) = (↑s'.fst : Int) ∧ lastN xs (↑s_1.fst : Int) s_1.snd = lastN xs (↑s'.fst : Int) s'.snd ∧ (↑s_1.fst : Int) = (↑s'.fst : Int) ∧ ((z = z ∧ base = base ∧ (0 : Nat) = (0 : Nat) ∧ xs.length = xs.length ∧ c = c) ∧ True) ∧ (↑xs.length : Int) = (↑xs.length : Int) ∧ (↑s_1.snd : Int) + (1 : Int) = (↑s'.snd : Int) ∧ True) ∧ (z = z ∧ base = base ∧ tot = tot ∧ List.take xs.length xs = xs) ∧ True) ∧ (s'.fst < (4 : Nat) ∧ s'.snd ≤ xs.length) ∧ (↑s : Int) = (↑s'.fst : Int)) ∧ xs.length - s'.snd < xs.length - s_1.snd)) ∧ (decide ((↑s_1.snd : Int) < (↑xs.length : Int)) = false → inR IntKind.i64 ((↑xs.length : Int) - lastN xs (↑s_1.fst : Int) s_1.snd) ∧ inR IntKind.i64 ((↑s_1.fst : Int) + (1 : Int)) ∧ ∃ (s' : Nat), (((((z = z ∧ base = base ∧ (0 : Nat) = (0 : Nat) ∧ xs.length = xs.length ∧ c = c) ∧ True) ∧ (if longN xs (↑s_1.fst : Int) (outN xs s_1.fst) s_1.snd < (↑xs.length : Int) - lastN xs (↑s_1.fst : Int) s_1.snd then (↑xs.length : Int) - lastN xs (↑s_1.fst : Int) s_1.snd else longN xs (↑s_1.fst : Int) (outN xs s_1.fst) s_1.snd) = outN xs s' ∧ (↑s_1.fst : Int) + (1 : Int) = (↑s' : Int) ∧ True) ∧ (z = z ∧ base = base ∧ tot = tot ∧ List.take xs.length xs = xs) ∧ True) ∧ s' ≤ (4 : Nat)) ∧ (4 : Nat) - s' < (4 : Nat) - s)) ∧ (decide ((↑s : Int) < (4 : Int)) = false → inR IntKind.i64 ((↑xs.length : Int) + (1 : Int)) ∧ ((if (↑xs.length : Int) + (1 : Int) < outN xs s then (↑xs.length : Int) + (1 : Int) else outN xs s) = leastF xs ∧ True) ∧ True)) := by kernel_rfl
set_option maxHeartbeats 2000000 in
theorem s_least : MSound Try.prog 7 c_least := by
  refine rsound1 (Ctx.ok_of2 (M := Mx) (N := []) mixedA ok_tally okD_input okB0) Try.func7 (by kernel_rfl) (by kernel_rfl) (fun us m K h => ?_)
  unfold c_least at h
  split at h
  · rename_i s
    split at h
    · rename_i q x z base n c tot xs hrd
      obtain ⟨hq, h⟩ := h
      obtain ⟨hp, h⟩ := h
      refine ⟨shM, q, x, z, base, n, c, tot, xs, 28, s, .v (.one (.int .i64 false (leastF xs))), [], [], [], [], (fun bk => match bk with | 0 => some { S := Nat, st := fun j => ⟨[.v (.one (.rs z 0 0 base 6 0 (List.length xs) c)), .junk, .junk, .v (.one (.int .i64 false (outN xs j))), .junk, .junk, .junk, .junk, .v (.one (.int .i64 false ((j : Int)))), .junk, .junk, .junk, .junk, .junk, .junk, .junk, .junk, .junk, .junk, .junk, .junk, .junk, .junk, .junk, .junk, .junk, .junk, .junk, .junk, .junk, .junk, .junk, .junk, .junk, .junk, .junk, .junk, .junk, .junk, .junk, .junk], [some (.rows true z shM xs base tot 28)]⟩, ok := fun j => j ≤ 4, mu := fun j => 4 - j, init := 0 } | 2 => some { S := Nat × Nat, st := fun s => ⟨[.v (.one (.rs z 0 0 base 6 0 (List.length xs) c)), .junk, .junk, .v (.one (.int .i64 false (longN xs (s.1 : Int) (outN xs s.1) s.2))), .v (.one (.int .i64 false ((s.1 : Int)))), .v (.one (.int .i64 false (lastN xs (s.1 : Int) s.2))), .junk, .junk, .v (.one (.int .i64 false ((s.1 : Int)))), .junk, .junk, .v (.one (.rs z 0 0 base 6 0 (List.length xs) c)), .v (.one (.int .i64 false ((xs.length : Int)))), .v (.one (.int .i64 false ((s.2 : Int)))), .junk, .junk, .junk, .junk, .junk, .junk, .junk, .junk, .junk, .junk, .junk, .junk, .junk, .junk, .junk, .junk, .junk, .junk, .junk, .junk, .junk, .junk, .junk, .junk, .junk, .junk, .junk], [some (.rows true z shM xs base tot 28)]⟩, ok := fun s => s.1 < 4 ∧ s.2 ≤ xs.length, mu := fun s => xs.length - s.2, init := (0, 0), ex := true, tie := some (fun (σ : St) (s : Nat × Nat) => match (σ.tm[8]? : Option SV) with | some (.v (.one (.int _ _ n))) => n = (s.1 : Int) | _ => False) } | _ => none), 400, rfl, hrd, hq, ⟨by simp [tmLe, svLe, vLe, lfLe, lfsLe, ifB, nmIs, idR], rfl⟩, ⟨by simp [tmLe, svLe, vLe, lfLe, lfsLe, ifB, nmIs, idR], rfl⟩, fun hn => ?_, h⟩
      subst hn
      refine by_nf (nf_least z base c tot xs) ?_
      clear h hrd hq
      refine ⟨⟨by simp [outN], by omega⟩, fun j hj => ⟨fun hc => ⟨⟨(j, 0), by simp [longN, lastN]; simp only [decide_eq_true_eq] at hc; omega⟩, fun s hs => ⟨fun hd => ?_, fun hd => ?_⟩⟩, fun hc => ?_⟩⟩
      · simp only [decide_eq_true_eq] at hd
        obtain ⟨⟨h1, h2⟩, h3⟩ := hs
        have e0 : (s.2 : Int).toNat = s.2 := by omega
        have hl := lastN_bd xs s.1 s.2
        have hN : needF (getR xs s.2).1 (getR xs s.2).2.1 (getR xs s.2).2.2.1 = needR xs s.2 := rfl
        have s1 : lastN xs (s.1 : Int) (s.2 + 1) = if needR xs s.2 = (s.1 : Int) then (s.2 : Int) else lastN xs (s.1 : Int) s.2 := rfl
        have s2 : longN xs (s.1 : Int) (outN xs s.1) (s.2 + 1) = if needR xs s.2 = (s.1 : Int) then max (longN xs (s.1 : Int) (outN xs s.1) s.2) ((s.2 : Int) - lastN xs (s.1 : Int) s.2) else longN xs (s.1 : Int) (outN xs s.1) s.2 := rfl
        simp only [e0, hN]
        refine ⟨by omega, ⟨trivial, by omega⟩, fun h => ?_, fun h => ?_⟩
        · simp only [beq_iff_eq] at h
          rw [if_pos h] at s1 s2
          refine ⟨by simp only [inR, klo, khi, and_true]; omega, by simp only [inR, klo, khi, and_true]; omega, (s.1, s.2 + 1), ?_⟩
          simp only [s1, s2, true_and, and_true, List.take_length]
          (repeat' (refine And.intro ?_ ?_)) <;> first | omega | (split <;> omega)
        · simp only [beq_eq_false_iff_ne, ne_eq] at h
          rw [if_neg h] at s1 s2
          refine ⟨by simp only [inR, klo, khi, and_true]; omega, (s.1, s.2 + 1), ?_⟩
          simp only [s1, s2, true_and, and_true, List.take_length]
          (repeat' (refine And.intro ?_ ?_)) <;> first | omega | (split <;> omega)
      · simp only [decide_eq_false_iff_not] at hd
        obtain ⟨⟨h1, h2⟩, h3⟩ := hs
        have e1 : s.2 = xs.length := by omega
        have hl := lastN_bd xs s.1 s.2
        have so : outN xs (s.1 + 1) = max (longN xs (s.1 : Int) (outN xs s.1) xs.length) ((xs.length : Int) - lastN xs (s.1 : Int) xs.length) := rfl
        simp only [e1] at hl ⊢
        refine ⟨by simp only [inR, klo, khi, and_true]; omega, by simp only [inR, klo, khi, and_true]; omega, s.1 + 1, ?_⟩
        simp only [so, true_and, and_true, List.take_length]
        (repeat' (refine And.intro ?_ ?_)) <;> first | omega | (split <;> omega)
      · simp only [decide_eq_false_iff_not] at hc
        obtain rfl : j = 4 := by omega
        simp only [and_true]
        refine ⟨by simp only [inR, klo, khi, and_true]; omega, ?_⟩
        unfold leastF
        split <;> omega
    · exact h.elim
  · exact h.elim
noncomputable def Δ_least : List (FuncId × MC) := (7, c_least) :: Δ_input
theorem okD_least : ΔOk Try.prog Δ_least := ΔOk.cons s_least okD_input

noncomputable def c_fair : MC := fun us m K => match us with
  | [s, .v (.one (.int .i64 _ k))] => match rdS shM m s with
    | some (q, x, z, base, n, c, tot, xs) => q ∧ (xs.length ≤ 1000000) ∧ K (.v (.one (.bool false (decide (1 ≤ k) && decide (leastF xs ≤ k))))) m
    | none => False
  | _ => False
theorem nf_fair (z : Bool) (base : Nat) (c : Nat) (tot : Nat) (xs : List (Row shM)) (k : Int) : goal ⟨Mx, Try.prog, Γ_tally, Δ_least, B0, none, false, [], none⟩ noL 400 Try.f8 [.v (.one (.rs z 0 0 base (List.length shM) 0 (List.length xs) c)), .v (.one (.int .i64 false k))] [some (.rows true z shM xs base tot 28)] (fun r m' => stLe 1 ⟨[r], m'⟩ ⟨[.v (.one (.bool false (decide (1 ≤ k) && decide (leastF xs ≤ k))))], [none]⟩) = ((decide ((1 : Int) ≤ k) = true → (xs.length = xs.length ∧ z = z ∧ base = base) ∧ xs.length ≤ (1000000 : Nat) ∧ (decide (leastF xs ≤ k) = (decide ((1 : Int) ≤ k) && decide (leastF xs ≤ k)) ∧ True) ∧ True) ∧ (decide ((1 : Int) ≤ k) = false → (false = (decide ((1 : Int) ≤ k) && decide (leastF xs ≤ k)) ∧ True) ∧ True)) := by kernel_rfl
theorem s_fair : MSound Try.prog 8 c_fair := by
  refine rsound1 (Ctx.ok_of2 (M := Mx) (N := []) mixedA ok_tally okD_least okB0) Try.func8 (by kernel_rfl) (by kernel_rfl) (fun us m K h => ?_)
  unfold c_fair at h
  split at h
  · rename_i s j0 k
    split at h
    · rename_i q x z base n c tot xs hrd
      obtain ⟨hq, h⟩ := h
      obtain ⟨hp, h⟩ := h
      refine ⟨shM, q, x, z, base, n, c, tot, xs, 28, s, .v (.one (.bool false (decide (1 ≤ k) && decide (leastF xs ≤ k)))), [], [], [.v (.one (.int .i64 j0 k))], [.v (.one (.int .i64 false k))], noL, 400, rfl, hrd, hq, ⟨by simp [tmLe, svLe, vLe, lfLe, lfsLe, ifB, nmIs, idR], rfl⟩, ⟨by simp [tmLe, svLe, vLe, lfLe, lfsLe, ifB, nmIs, idR], rfl⟩, fun hn => ?_, h⟩
      subst hn
      refine by_nf (nf_fair z base c tot xs k) ?_
      clear h hrd hq
      (repeat' (first | (refine And.intro ?_ ?_) | intro _))
      all_goals (try (refine Bool.eq_iff_iff.2 ?_))
      all_goals (try simp only [decide_eq_true_eq, decide_eq_false_iff_not, beq_iff_eq, beq_eq_false_iff_ne, bne_iff_ne, bne_eq_false_iff_eq, ne_eq, Bool.not_eq_true', Bool.not_eq_false', ← Bool.not_eq_true, Bool.true_eq_false, Bool.false_eq_true, Bool.and_eq_true, Bool.or_eq_true, false_iff, iff_false, true_iff, iff_true, not_true_eq_false, not_false_eq_true, and_true, true_and, inR, klo, khi] at *)
      all_goals (repeat' split)
      all_goals (first | omega | simp_all)
    · exact h.elim
  · exact h.elim
noncomputable def Δ_fair : List (FuncId × MC) := (8, c_fair) :: Δ_least
theorem okD_fair : ΔOk Try.prog Δ_fair := ΔOk.cons s_fair okD_least

end Go.Proofs.Ytkfcajgingmneaa
