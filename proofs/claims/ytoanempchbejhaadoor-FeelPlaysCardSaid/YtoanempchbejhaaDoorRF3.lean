/- WHAT IS FELT: AN OBJECT. Conditions: the contracts' own. Own work; the normal forms were printed by a program of mine (wip/rex). -/
import Derived.Test.YtoanempchbejhaaDoorRF1
import Derived.Test.YtoanempchbejhaaDoorRexO
namespace Go.Proofs.YtoanempchbejhaaDoor
open Go.RowKit Rex
set_option linter.unusedVariables false
set_option linter.unusedSimpArgs false
set_option maxRecDepth 100000


@[reducible] def shP : List Kd := [.int .i64, .int .i64, .int .i64, .int .i64, .int .i64, .int .i64, .int .i64, .int .i64, .int .i32, .int .i32]
def noP : List (Row shP) := []
def keyB (fr em ki od : Int) (p : Row shP) : Bool := decide (p.2.2.2.2.1 = fr ∧ p.2.2.2.2.2.1 = em ∧ p.2.2.2.2.2.2.1 = ki ∧ p.2.2.2.2.2.2.2.1 = od)
def fndF (xs : List (Row shP)) (fr em ki od : Int) : Int := if xs.findIdx (keyB fr em ki od) < xs.length then (xs.findIdx (keyB fr em ki od) : Int) else -1
def okP (p : Row shP) : Prop := (0 ≤ p.1 ∧ p.1 ≤ 32768) ∧ (0 ≤ p.2.1 ∧ p.2.1 ≤ 32768) ∧ (0 < p.2.2.1 ∧ p.2.2.1 ≤ 30) ∧ (0 ≤ p.2.2.2.1 ∧ p.2.2.2.1 ≤ 24) ∧ (0 ≤ p.2.2.2.2.1 ∧ p.2.2.2.2.1 ≤ 1073741824) ∧ (0 ≤ p.2.2.2.2.2.2.2.1 ∧ p.2.2.2.2.2.2.2.1 ≤ 15) ∧ (-2147483648 ≤ p.2.2.2.2.2.2.2.2.1 ∧ p.2.2.2.2.2.2.2.2.1 ≤ 2147483647) ∧ (-2147483648 ≤ p.2.2.2.2.2.2.2.2.2.1 ∧ p.2.2.2.2.2.2.2.2.2.1 ≤ 2147483647)
def okL (xs : List (Row shP)) : Prop := ∀ p ∈ xs, okP p
def motL (xs : List (Row shP)) (t : Int) : Nat → Int
  | 0 => 0
  | n + 1 => max (motL xs t n) (str (getR xs n).1 (getR xs n).2.2.1 (getR xs n).2.2.2.2.1 t)
def motH (xs : List (Row shP)) (t : Int) : Nat → Int
  | 0 => 0
  | n + 1 => max (motH xs t n) (str (getR xs n).2.1 (getR xs n).2.2.1 (getR xs n).2.2.2.2.1 t)
def overB (t : Int) (p : Row shP) : Bool := decide (p.2.2.1 ≤ t - p.2.2.2.2.1 ∧ (p.2.2.2.1 = 0 ∨ 15 ≤ t - p.2.2.2.2.1))
def rightE (fr em ki od ass gn pn pr ln : Int) : Bool := (wb fr 0 1073741824 && wb em 0 2 && wb ki 1 9 && wb od 0 15) && wb ass 0 31 && wb gn 0 32768 && wb pn (-32768) 32768 && wb pr 0 15 && wb ln 0 600
def startE (xs : List (Row shP)) (fr em ki od ass gn pn pr ln : Int) : Int :=
  if rightE fr em ki od ass gn pn pr ln = false then 1 else if fFm ki = 0 then 0 else if 0 ≤ fndF xs fr em ki od then 7 else if 32 ≤ xs.length then 8 else 0
def startP (xs : List (Row shP)) (fr em ki od ass gn pn pr ln : Int) : Bool := rightE fr em ki od ass gn pn pr ln && (decide (fFm ki ≠ 0) && (decide (fndF xs fr em ki od < 0) && decide (xs.length < 32)))
def startL (xs : List (Row shP)) (fr em ki od ass gn pn pr ln ax ay : Int) : List (Row shP) :=
  if startP xs fr em ki od ass gn pn pr ln then xs ++ [((fLow ki, fHigh ki, fFm ki, fSk ki, fr, em, ki, od, ax, ay, ()) : Row shP)] else xs
theorem getR_eq {sh : List Kd} {xs : List (Row sh)} {i : Nat} (h : i < xs.length) : getR xs i = xs[i] := by unfold getR; rw [List.getD_eq_getElem?_getD, List.getElem?_eq_getElem h]; rfl
theorem fnd_some {xs : List (Row shP)} {fr em ki od : Int} {i : Nat} (h : i < xs.length) (h1 : keyB fr em ki od (getR xs i) = true) (h2 : ∀ j, j < i → keyB fr em ki od (getR xs j) = false) : fndF xs fr em ki od = (i : Int) := by
  have e : xs.findIdx (keyB fr em ki od) = i := by
    rw [List.findIdx_eq h]
    refine ⟨by rw [← getR_eq h]; exact h1, fun j hj => ?_⟩
    rw [← getR_eq (Nat.lt_trans hj h)]
    exact h2 j hj
  unfold fndF
  rw [e, if_pos h]
theorem fnd_none {xs : List (Row shP)} {fr em ki od : Int} (h2 : ∀ j, j < xs.length → keyB fr em ki od (getR xs j) = false) : fndF xs fr em ki od = -1 := by
  have e : xs.findIdx (keyB fr em ki od) = xs.length := by
    rw [List.findIdx_eq_length]
    intro x hx
    obtain ⟨i, hi, rfl⟩ := List.getElem_of_mem hx
    rw [← getR_eq hi]
    exact h2 i hi
  unfold fndF
  rw [e, if_neg (Nat.lt_irrefl _)]
theorem fm0 (ki : Int) : fFm ki = 0 → fLow ki = 0 ∧ fHigh ki = 0 ∧ fSk ki = 0 := by
  unfold fFm fLow fHigh fSk
  intro h
  (repeat' split at h) <;> first | omega | (refine ⟨?_, ?_, ?_⟩ <;> (repeat' split) <;> omega)


noncomputable def c_New : MC := fun us m K => match us with
  | [] => K (.v (.one (.ptr (m.length + 0) 0))) (m ++ [some (.cells [.rs true 0 (m.length + 1) 0 10 0 0 0] 59), some (.rows false true shP noP 0 0 66)])
  | _ => False
theorem nf_New  : goal ⟨Mx, Tryd.prog, Γ_right, Δ0, B0, none, false, [39, 40], none⟩ noL 400 Tryd.f8 [] [] (fun r m' => stLe 0 ⟨[r], m'⟩ ⟨[.v (.one (.ptr 0 0))], [some (.cells [.rs true 0 1 0 10 0 0 0] 59), some (.rows false true shP noP 0 0 66)]⟩) = ((True ∧ True) ∧ (true = true ∧ (0 : Nat) = (0 : Nat) ∧ (0 : Nat) = (0 : Nat) ∧ (0 : Nat) = (0 : Nat)) ∧ (true = true ∧ noP = []) ∧ True) := by kernel_rfl
theorem s_New : MSound Tryd.prog 8 c_New := by
  refine msound_mk (Ctx.ok_of2 (M := Mx) (N := [39, 40]) mixedA ok_right okD0 okB0) Tryd.func8 (by kernel_rfl) (by kernel_rfl) (fun us m K h => ?_)
  unfold c_New at h
  split at h
  · skip
    refine ⟨Unit, fun _ => True, noL, 400, [], fun _ => .v (.one (.ptr 0 0)), fun _ => [some (.cells [.rs true 0 1 0 10 0 0 0] 59), some (.rows false true shP noP 0 0 66)], (fun r m' => stLe 0 ⟨[r], m'⟩ ⟨[.v (.one (.ptr 0 0))], [some (.cells [.rs true 0 1 0 10 0 0 0] 59), some (.rows false true shP noP 0 0 66)]⟩), by simp [tmLe, svLe, vLe, lfLe, lfsLe, ifB, nmIs], fun _ => rfl, ?_, fun r m' hr => ⟨(), trivial, hr⟩, fun _ he => h⟩
    rw [nf_New]
    exact ⟨⟨trivial, trivial⟩, ⟨rfl, rfl, rfl, rfl⟩, ⟨rfl, rfl⟩, trivial⟩
  · exact h.elim
noncomputable def Δ_New : List (FuncId × MC) := (8, c_New) :: Δ0
theorem okD_New : ΔOk Tryd.prog Δ_New := ΔOk.cons s_New okD0

noncomputable def c_find : MC := fun us m K => match us with
  | [s, .v (.agg [.int .i64 _ fr, .int .i64 _ em, .int .i64 _ ki, .int .i64 _ od])] => match obS [] shP [] 59 66 m s with
    | some (q, y, x, z, n, c, xs, (), ()) => q ∧ (xs.length ≤ 32) ∧ (∀ e : Unit, (True) → K (obR m y x (.v (.one (.int .i64 false (fndF xs fr em ki od))))) (obM m y x [some (.cells [.rs z 0 1 0 (List.length shP) 0 (List.length xs) c] 59), some (.rows false z shP xs 0 c 66)]))
    | none => False
  | _ => False
theorem nf_find (z : Bool) (c : Nat) (xs : List (Row shP)) (fr : Int) (em : Int) (ki : Int) (od : Int) : goal ⟨Mx, Tryd.prog, Γ_right, Δ_New, B0, none, false, [39, 40], none⟩ (fun bk => match bk with | 40000000 => some { S := Nat, st := fun i => ⟨[.v (.one (.rs z 0 1 0 10 0 xs.length c)), .clo 40 [.ptr 2 0], .junk, .junk, .junk, .junk, .junk, .v (.one (.int .i64 false ((xs.length : Int)))), .v (.one (.int .i64 false ((i : Int)))), .junk, .junk, .junk, .junk, .junk, .junk, .junk, .junk, .junk, .junk], [some (.cells [.rs z 0 1 0 10 0 xs.length c] 59), some (.rows false z shP xs 0 c 66), some (.cells [.int .i64 false fr, .int .i64 false em, .int .i64 false ki, .int .i64 false od] 29)]⟩, ok := fun i => i ≤ xs.length ∧ ∀ j, j < i → keyB fr em ki od (getR xs j) = false, mu := fun i => xs.length - i, init := 0 } | _ => none) 400 Tryd.f25 [.v (.one (.ptr 0 0)), .v (.agg [.int .i64 false fr, .int .i64 false em, .int .i64 false ki, .int .i64 false od])] [some (.cells [.rs z 0 1 0 (List.length shP) 0 (List.length xs) c] 59), some (.rows false z shP xs 0 c 66)] (fun r m' => stLe 2 ⟨[r], m'⟩ ⟨[.v (.one (.int .i64 false (fndF xs fr em ki od)))], [some (.cells [.rs z 0 1 0 (List.length shP) 0 (List.length xs) c] 59), some (.rows false z shP xs 0 c 66)]⟩) = ((((((z = z ∧ (0 : Nat) = (0 : Nat) ∧ (0 : Nat) = (0 : Nat) ∧ xs.length = xs.length ∧ c = c) ∧ True) ∧ True ∧ (↑xs.length : Int) = (↑xs.length : Int) ∧ (0 : Int) = (↑(0 : Nat) : Int) ∧ True) ∧ ((z = z ∧ (0 : Nat) = (0 : Nat) ∧ (0 : Nat) = (0 : Nat) ∧ xs.length = xs.length ∧ c = c) ∧ True) ∧ (z = z ∧ (0 : Nat) = (0 : Nat) ∧ c = c ∧ List.take xs.length xs = xs) ∧ (fr = fr ∧ em = em ∧ ki = ki ∧ od = od) ∧ True) ∧ (0 : Nat) ≤ xs.length ∧ ∀ (j : Nat), j < (0 : Nat) → keyB fr em ki od (getR xs j) = false) ∧ ∀ (s : Nat), (s ≤ xs.length ∧ ∀ (j : Nat), j < s → keyB fr em ki od (getR xs j) = false) → (decide ((↑s : Int) < (↑xs.length : Int)) = true → ((0 : Int) ≤ (↑s : Int) ∧ (↑s : Int) < (↑xs.length : Int)) ∧ (↑s : Int).toNat < xs.length ∧ (((getR xs (↑s : Int).toNat).snd.snd.snd.snd.fst == fr && ((getR xs (↑s : Int).toNat).snd.snd.snd.snd.snd.fst == em && ((getR xs (↑s : Int).toNat).snd.snd.snd.snd.snd.snd.fst == ki && ((getR xs (↑s : Int).toNat).snd.snd.snd.snd.snd.snd.snd.fst == od && true)))) = true → ((↑s : Int) = fndF xs fr em ki od ∧ True) ∧ ((z = z ∧ (0 : Nat) = (0 : Nat) ∧ (0 : Nat) = (0 : Nat) ∧ xs.length = xs.length ∧ c = c) ∧ True) ∧ (z = z ∧ (0 : Nat) = (0 : Nat) ∧ c = c ∧ List.take xs.length xs = xs) ∧ True) ∧ (((getR xs (↑s : Int).toNat).snd.snd.snd.snd.fst == fr && ((getR xs (↑s : Int).toNat).snd.snd.snd.snd.snd.fst == em && ((getR xs (↑s : Int).toNat).snd.snd.snd.snd.snd.snd.fst == ki && ((getR xs (↑s : Int).toNat).snd.snd.snd.snd.snd.snd.snd.fst == od && true)))) = false → inR IntKind.i64 ((↑s : Int) + (1 : Int)) ∧ ∃ (s' : Nat), (((((z = z ∧ (0 : Nat) = (0 : Nat) ∧ (0 : Nat) = (0 : Nat) ∧ xs.length = xs.length ∧ c = c) ∧ True) ∧ True ∧ (↑xs.length : Int) = (↑xs.length : Int) ∧ (↑s : Int) + (1 : Int) = (↑s' : Int) ∧ True) ∧ ((z = z ∧ (0 : Nat) = (0 : Nat) ∧ (0 : Nat) = (0 : Nat) ∧ xs.length = xs.length ∧ c = c) ∧ True) ∧ (z = z ∧ (0 : Nat) = (0 : Nat) ∧ c = c ∧ List.take xs.length xs = xs) ∧ (fr = fr ∧ em = em ∧ ki = ki ∧ od = od) ∧ True) ∧ s' ≤ xs.length ∧ ∀ (j : Nat), j < s' → keyB fr em ki od (getR xs j) = false) ∧ xs.length - s' < xs.length - s)) ∧ (decide ((↑s : Int) < (↑xs.length : Int)) = false → ((-1 : Int) = fndF xs fr em ki od ∧ True) ∧ ((z = z ∧ (0 : Nat) = (0 : Nat) ∧ (0 : Nat) = (0 : Nat) ∧ xs.length = xs.length ∧ c = c) ∧ True) ∧ (z = z ∧ (0 : Nat) = (0 : Nat) ∧ c = c ∧ List.take xs.length xs = xs) ∧ True)) := by kernel_rfl
theorem s_find : MSound Tryd.prog 25 c_find := by
  refine osound (Ctx.ok_of2 (M := Mx) (N := [39, 40]) mixedA ok_right okD_New okB0) Tryd.func25 (by kernel_rfl) (by kernel_rfl) (fun us m K h => ?_)
  unfold c_find at h
  split at h
  · rename_i s k0_0 fr k0_1 em k0_2 ki k0_3 od
    split at h
    · rename_i q y x z n c xs hob
      obtain ⟨hq, h⟩ := h
      obtain ⟨hp, h⟩ := h
      refine ⟨Unit, fun _ => True, [], shP, [], 59, 66, q, y, x, z, n, c, xs, (), (), [.rs z 0 1 0 (List.length shP) 0 n c], s, [.v (.agg [.int .i64 k0_0 fr, .int .i64 k0_1 em, .int .i64 k0_2 ki, .int .i64 k0_3 od])], [.v (.agg [.int .i64 false fr, .int .i64 false em, .int .i64 false ki, .int .i64 false od])], (fun bk => match bk with | 40000000 => some { S := Nat, st := fun i => ⟨[.v (.one (.rs z 0 1 0 10 0 xs.length c)), .clo 40 [.ptr 2 0], .junk, .junk, .junk, .junk, .junk, .v (.one (.int .i64 false ((xs.length : Int)))), .v (.one (.int .i64 false ((i : Int)))), .junk, .junk, .junk, .junk, .junk, .junk, .junk, .junk, .junk, .junk], [some (.cells [.rs z 0 1 0 10 0 xs.length c] 59), some (.rows false z shP xs 0 c 66), some (.cells [.int .i64 false fr, .int .i64 false em, .int .i64 false ki, .int .i64 false od] 29)]⟩, ok := fun i => i ≤ xs.length ∧ ∀ j, j < i → keyB fr em ki od (getR xs j) = false, mu := fun i => xs.length - i, init := 0 } | _ => none), 400, fun _ => .v (.one (.int .i64 false (fndF xs fr em ki od))), fun _ => [some (.cells [.rs z 0 1 0 (List.length shP) 0 (List.length xs) c] 59), some (.rows false z shP xs 0 c 66)], (fun r m' => stLe 2 ⟨[r], m'⟩ ⟨[.v (.one (.int .i64 false (fndF xs fr em ki od)))], [some (.cells [.rs z 0 1 0 (List.length shP) 0 (List.length xs) c] 59), some (.rows false z shP xs 0 c 66)]⟩), rfl, hob, hq, ⟨by simp [tmLe, svLe, vLe, lfLe, lfsLe, ifB, nmIs, idR], rfl⟩, fun _ => rfl, rfl, fun hn hz hlc hzl => ?_, fun r m' hr => ⟨(), trivial, hr⟩, fun e he => h e he⟩
      subst hn
      refine by_nfG (nf_find z c xs fr em ki od) ?_
      clear h hob hq
      refine ⟨⟨by ((repeat' (refine And.intro ?_ ?_)) <;> first | exact True.intro | rfl | exact List.take_length | omega | assumption | (show _ = max _ _; rw [Int.max_def]; (repeat' split) <;> omega)), Nat.zero_le _, fun j hj => absurd hj (Nat.not_lt_zero _)⟩, fun s hs => ?_⟩
      have e0 : (s : Int).toNat = s := Int.toNat_natCast s
      simp only [e0]
      refine ⟨fun hc => ?_, fun hc => ?_⟩
      · simp only [decide_eq_true_eq] at hc
        have hlt : s < xs.length := by omega
        refine ⟨by omega, hlt, fun hk => ?_, fun hk => ?_⟩
        · have hb : keyB fr em ki od (getR xs s) = true := by
            simp only [Bool.and_eq_true, beq_iff_eq, and_true] at hk
            exact decide_eq_true hk
          have := fnd_some hlt hb hs.2
          rw [this]
          ((repeat' (refine And.intro ?_ ?_)) <;> first | exact True.intro | rfl | exact List.take_length | omega | assumption | (show _ = max _ _; rw [Int.max_def]; (repeat' split) <;> omega))
        · have hb : keyB fr em ki od (getR xs s) = false := by
            refine decide_eq_false fun h => ?_
            rw [h.1, h.2.1, h.2.2.1, h.2.2.2] at hk
            simp at hk
          refine ⟨by simp only [inR, klo, khi]; omega, s + 1, ⟨by ((repeat' (refine And.intro ?_ ?_)) <;> first | exact True.intro | rfl | exact List.take_length | omega | assumption | (show _ = max _ _; rw [Int.max_def]; (repeat' split) <;> omega)), by omega, fun j hj => ?_⟩, by omega⟩
          by_cases e : j = s
          · rw [e]; exact hb
          · exact hs.2 j (by omega)
      · simp only [decide_eq_false_iff_not] at hc
        rw [fnd_none (xs := xs) (fun j hj => hs.2 j (by omega))]
        ((repeat' (refine And.intro ?_ ?_)) <;> first | exact True.intro | rfl | exact List.take_length | omega | assumption | (show _ = max _ _; rw [Int.max_def]; (repeat' split) <;> omega))
    · exact h.elim
  · exact h.elim
noncomputable def Δ_find : List (FuncId × MC) := (25, c_find) :: Δ_New
theorem okD_find : ΔOk Tryd.prog Δ_find := ΔOk.cons s_find okD_New

noncomputable def c_Count : MC := fun us m K => match us with
  | [s] => match obS [] shP [] 59 66 m s with
    | some (q, y, x, z, n, c, xs, (), ()) => q ∧ (∀ e : Unit, (True) → K (obR m y x (.v (.one (.int .i64 false ((xs.length : Int)))))) (obM m y x [some (.cells [.rs z 0 1 0 (List.length shP) 0 (List.length xs) c] 59), some (.rows false z shP xs 0 c 66)]))
    | none => False
  | _ => False
theorem nf_Count (z : Bool) (c : Nat) (xs : List (Row shP)) : goal ⟨Mx, Tryd.prog, Γ_right, Δ_find, B0, none, false, [], none⟩ noL 400 Tryd.f13 [.v (.one (.ptr 0 0))] [some (.cells [.rs z 0 1 0 (List.length shP) 0 (List.length xs) c] 59), some (.rows false z shP xs 0 c 66)] (fun r m' => stLe 2 ⟨[r], m'⟩ ⟨[.v (.one (.int .i64 false ((xs.length : Int))))], [some (.cells [.rs z 0 1 0 (List.length shP) 0 (List.length xs) c] 59), some (.rows false z shP xs 0 c 66)]⟩) = (((↑xs.length : Int) = (↑xs.length : Int) ∧ True) ∧ ((z = z ∧ (0 : Nat) = (0 : Nat) ∧ (0 : Nat) = (0 : Nat) ∧ xs.length = xs.length ∧ c = c) ∧ True) ∧ (z = z ∧ (0 : Nat) = (0 : Nat) ∧ c = c ∧ List.take xs.length xs = xs) ∧ True) := by kernel_rfl
theorem s_Count : MSound Tryd.prog 13 c_Count := by
  refine osound (Ctx.ok_of2 (M := Mx) (N := []) mixedA ok_right okD_find okB0) Tryd.func13 (by kernel_rfl) (by kernel_rfl) (fun us m K h => ?_)
  unfold c_Count at h
  split at h
  · rename_i s
    split at h
    · rename_i q y x z n c xs hob
      obtain ⟨hq, h⟩ := h
      refine ⟨Unit, fun _ => True, [], shP, [], 59, 66, q, y, x, z, n, c, xs, (), (), [.rs z 0 1 0 (List.length shP) 0 n c], s, [], [], noL, 400, fun _ => .v (.one (.int .i64 false ((xs.length : Int)))), fun _ => [some (.cells [.rs z 0 1 0 (List.length shP) 0 (List.length xs) c] 59), some (.rows false z shP xs 0 c 66)], (fun r m' => stLe 2 ⟨[r], m'⟩ ⟨[.v (.one (.int .i64 false ((xs.length : Int))))], [some (.cells [.rs z 0 1 0 (List.length shP) 0 (List.length xs) c] 59), some (.rows false z shP xs 0 c 66)]⟩), rfl, hob, hq, ⟨by simp [tmLe, svLe, vLe, lfLe, lfsLe, ifB, nmIs, idR], rfl⟩, fun _ => rfl, rfl, fun hn hz hlc hzl => ?_, fun r m' hr => ⟨(), trivial, hr⟩, fun e he => h e he⟩
      subst hn
      refine by_nfG (nf_Count z c xs) ?_
      clear h hob hq
      ((repeat' (refine And.intro ?_ ?_)) <;> first | exact True.intro | rfl | exact List.take_length | omega | assumption | (show _ = max _ _; rw [Int.max_def]; (repeat' split) <;> omega))
    · exact h.elim
  · exact h.elim
noncomputable def Δ_Count : List (FuncId × MC) := (13, c_Count) :: Δ_find
theorem okD_Count : ΔOk Tryd.prog Δ_Count := ΔOk.cons s_Count okD_find

noncomputable def c_Motors : MC := fun us m K => match us with
  | [s, .v (.one (.int .i64 _ t))] => match obS [] shP [] 59 66 m s with
    | some (q, y, x, z, n, c, xs, (), ()) => q ∧ (xs.length ≤ 32 ∧ okL xs ∧ (-1099511627776 ≤ t ∧ t ≤ 1099511627776)) ∧ (∀ e : Unit, (True) → K (obR m y x (.tup [.one (.int .i64 false (motL xs t xs.length)), .one (.int .i64 false (motH xs t xs.length))])) (obM m y x [some (.cells [.rs z 0 1 0 (List.length shP) 0 (List.length xs) c] 59), some (.rows false z shP xs 0 c 66)]))
    | none => False
  | _ => False
theorem nf_Motors (z : Bool) (c : Nat) (xs : List (Row shP)) (t : Int) : goal ⟨Mx, Tryd.prog, Γ_right, Δ_Count, B0, none, false, [], none⟩ (fun bk => match bk with | 0 => some { S := Nat, st := fun i => ⟨[.junk, .v (.one (.int .i64 false (t))), .junk, .junk, .junk, .junk, .v (.one (.int .i64 false (motL xs t i))), .v (.one (.int .i64 false (motH xs t i))), .junk, .junk, .junk, .junk, .junk, .junk, .junk, .v (.one (.rs z 0 1 0 10 0 xs.length c)), .v (.one (.int .i64 false ((xs.length : Int)))), .v (.one (.int .i64 false ((i : Int)))), .junk, .junk, .junk, .junk, .junk, .junk, .junk, .junk, .junk, .junk, .junk, .junk, .junk, .junk, .junk, .junk, .junk, .junk, .junk, .junk, .junk, .junk], [some (.cells [.rs z 0 1 0 10 0 xs.length c] 59), some (.rows false z shP xs 0 c 66)]⟩, ok := fun i => i ≤ xs.length, mu := fun i => xs.length - i, init := 0 } | _ => none) 400 Tryd.f10 [.v (.one (.ptr 0 0)), .v (.one (.int .i64 false t))] [some (.cells [.rs z 0 1 0 (List.length shP) 0 (List.length xs) c] 59), some (.rows false z shP xs 0 c 66)] (fun r m' => stLe 2 ⟨[r], m'⟩ ⟨[.tup [.one (.int .i64 false (motL xs t xs.length)), .one (.int .i64 false (motH xs t xs.length))]], [some (.cells [.rs z 0 1 0 (List.length shP) 0 (List.length xs) c] 59), some (.rows false z shP xs 0 c 66)]⟩) = ((((t = t ∧ (0 : Int) = motL xs t (0 : Nat) ∧ (0 : Int) = motH xs t (0 : Nat) ∧ ((z = z ∧ (0 : Nat) = (0 : Nat) ∧ (0 : Nat) = (0 : Nat) ∧ xs.length = xs.length ∧ c = c) ∧ True) ∧ (↑xs.length : Int) = (↑xs.length : Int) ∧ (0 : Int) = (↑(0 : Nat) : Int) ∧ True) ∧ ((z = z ∧ (0 : Nat) = (0 : Nat) ∧ (0 : Nat) = (0 : Nat) ∧ xs.length = xs.length ∧ c = c) ∧ True) ∧ (z = z ∧ (0 : Nat) = (0 : Nat) ∧ c = c ∧ List.take xs.length xs = xs) ∧ True) ∧ (0 : Nat) ≤ xs.length) ∧ ∀ (s : Nat), s ≤ xs.length → (decide ((↑s : Int) < (↑xs.length : Int)) = true → ((0 : Int) ≤ (↑s : Int) ∧ (↑s : Int) < (↑xs.length : Int)) ∧ (↑s : Int).toNat < xs.length ∧ (((-1099511627776 : Int) ≤ (getR xs (↑s : Int).toNat).snd.snd.snd.snd.fst ∧ (getR xs (↑s : Int).toNat).snd.snd.snd.snd.fst ≤ (1099511627776 : Int)) ∧ ((-1099511627776 : Int) ≤ t ∧ t ≤ (1099511627776 : Int)) ∧ ((0 : Int) ≤ (getR xs (↑s : Int).toNat).fst ∧ (getR xs (↑s : Int).toNat).fst ≤ (32768 : Int)) ∧ (0 : Int) ≤ (getR xs (↑s : Int).toNat).snd.snd.fst ∧ (getR xs (↑s : Int).toNat).snd.snd.fst ≤ (30 : Int)) ∧ (((-1099511627776 : Int) ≤ (getR xs (↑s : Int).toNat).snd.snd.snd.snd.fst ∧ (getR xs (↑s : Int).toNat).snd.snd.snd.snd.fst ≤ (1099511627776 : Int)) ∧ ((-1099511627776 : Int) ≤ t ∧ t ≤ (1099511627776 : Int)) ∧ ((0 : Int) ≤ (getR xs (↑s : Int).toNat).snd.fst ∧ (getR xs (↑s : Int).toNat).snd.fst ≤ (32768 : Int)) ∧ (0 : Int) ≤ (getR xs (↑s : Int).toNat).snd.snd.fst ∧ (getR xs (↑s : Int).toNat).snd.snd.fst ≤ (30 : Int)) ∧ inR IntKind.i64 ((↑s : Int) + (1 : Int)) ∧ ∃ (s' : Nat), (((t = t ∧ (if motL xs t s < str (getR xs (↑s : Int).toNat).fst (getR xs (↑s : Int).toNat).snd.snd.fst (getR xs (↑s : Int).toNat).snd.snd.snd.snd.fst t then str (getR xs (↑s : Int).toNat).fst (getR xs (↑s : Int).toNat).snd.snd.fst (getR xs (↑s : Int).toNat).snd.snd.snd.snd.fst t else motL xs t s) = motL xs t s' ∧ (if motH xs t s < str (getR xs (↑s : Int).toNat).snd.fst (getR xs (↑s : Int).toNat).snd.snd.fst (getR xs (↑s : Int).toNat).snd.snd.snd.snd.fst t then str (getR xs (↑s : Int).toNat).snd.fst (getR xs (↑s : Int).toNat).snd.snd.fst (getR xs (↑s : Int).toNat).snd.snd.snd.snd.fst t else motH xs t s) = motH xs t s' ∧ ((z = z ∧ (0 : Nat) = (0 : Nat) ∧ (0 : Nat) = (0 : Nat) ∧ xs.length = xs.length ∧ c = c) ∧ True) ∧ (↑xs.length : Int) = (↑xs.length : Int) ∧ (↑s : Int) + (1 : Int) = (↑s' : Int) ∧ True) ∧ ((z = z ∧ (0 : Nat) = (0 : Nat) ∧ (0 : Nat) = (0 : Nat) ∧ xs.length = xs.length ∧ c = c) ∧ True) ∧ (z = z ∧ (0 : Nat) = (0 : Nat) ∧ c = c ∧ List.take xs.length xs = xs) ∧ True) ∧ s' ≤ xs.length) ∧ xs.length - s' < xs.length - s) ∧ (decide ((↑s : Int) < (↑xs.length : Int)) = false → ((motL xs t s = motL xs t xs.length ∧ motH xs t s = motH xs t xs.length) ∧ True) ∧ ((z = z ∧ (0 : Nat) = (0 : Nat) ∧ (0 : Nat) = (0 : Nat) ∧ xs.length = xs.length ∧ c = c) ∧ True) ∧ (z = z ∧ (0 : Nat) = (0 : Nat) ∧ c = c ∧ List.take xs.length xs = xs) ∧ True)) := by kernel_rfl
theorem s_Motors : MSound Tryd.prog 10 c_Motors := by
  refine osound (Ctx.ok_of2 (M := Mx) (N := []) mixedA ok_right okD_Count okB0) Tryd.func10 (by kernel_rfl) (by kernel_rfl) (fun us m K h => ?_)
  unfold c_Motors at h
  split at h
  · rename_i s k0 t
    split at h
    · rename_i q y x z n c xs hob
      obtain ⟨hq, h⟩ := h
      obtain ⟨hp, h⟩ := h
      refine ⟨Unit, fun _ => True, [], shP, [], 59, 66, q, y, x, z, n, c, xs, (), (), [.rs z 0 1 0 (List.length shP) 0 n c], s, [.v (.one (.int .i64 k0 t))], [.v (.one (.int .i64 false t))], (fun bk => match bk with | 0 => some { S := Nat, st := fun i => ⟨[.junk, .v (.one (.int .i64 false (t))), .junk, .junk, .junk, .junk, .v (.one (.int .i64 false (motL xs t i))), .v (.one (.int .i64 false (motH xs t i))), .junk, .junk, .junk, .junk, .junk, .junk, .junk, .v (.one (.rs z 0 1 0 10 0 xs.length c)), .v (.one (.int .i64 false ((xs.length : Int)))), .v (.one (.int .i64 false ((i : Int)))), .junk, .junk, .junk, .junk, .junk, .junk, .junk, .junk, .junk, .junk, .junk, .junk, .junk, .junk, .junk, .junk, .junk, .junk, .junk, .junk, .junk, .junk], [some (.cells [.rs z 0 1 0 10 0 xs.length c] 59), some (.rows false z shP xs 0 c 66)]⟩, ok := fun i => i ≤ xs.length, mu := fun i => xs.length - i, init := 0 } | _ => none), 400, fun _ => .tup [.one (.int .i64 false (motL xs t xs.length)), .one (.int .i64 false (motH xs t xs.length))], fun _ => [some (.cells [.rs z 0 1 0 (List.length shP) 0 (List.length xs) c] 59), some (.rows false z shP xs 0 c 66)], (fun r m' => stLe 2 ⟨[r], m'⟩ ⟨[.tup [.one (.int .i64 false (motL xs t xs.length)), .one (.int .i64 false (motH xs t xs.length))]], [some (.cells [.rs z 0 1 0 (List.length shP) 0 (List.length xs) c] 59), some (.rows false z shP xs 0 c 66)]⟩), rfl, hob, hq, ⟨by simp [tmLe, svLe, vLe, lfLe, lfsLe, ifB, nmIs, idR], rfl⟩, fun _ => rfl, rfl, fun hn hz hlc hzl => ?_, fun r m' hr => ⟨(), trivial, hr⟩, fun e he => h e he⟩
      subst hn
      refine by_nfG (nf_Motors z c xs t) ?_
      clear h hob hq
      obtain ⟨h32, hok, ht⟩ := hp
      refine ⟨⟨by ((repeat' (refine And.intro ?_ ?_)) <;> first | exact True.intro | rfl | exact List.take_length | omega | assumption | (show _ = max _ _; rw [Int.max_def]; (repeat' split) <;> omega)), Nat.zero_le _⟩, fun s hs => ?_⟩
      have e0 : (s : Int).toNat = s := Int.toNat_natCast s
      simp only [e0]
      refine ⟨fun hc => ?_, fun hc => ?_⟩
      · simp only [decide_eq_true_eq] at hc
        have hlt : s < xs.length := by omega
        obtain ⟨⟨a1, a2⟩, ⟨b1, b2⟩, ⟨c1, c2⟩, _, ⟨d1, d2⟩, _⟩ := hok _ (getR_mem hlt)
        dsimp only [Kd.T] at *
        refine ⟨by omega, hlt, ⟨⟨by omega, by omega⟩, ht, ⟨a1, a2⟩, by omega, by omega⟩, ⟨⟨by omega, by omega⟩, ht, ⟨b1, b2⟩, by omega, by omega⟩, by simp only [inR, klo, khi]; omega, s + 1, ?_⟩
        ((repeat' (refine And.intro ?_ ?_)) <;> first | exact True.intro | rfl | exact List.take_length | omega | assumption | (show _ = max _ _; rw [Int.max_def]; (repeat' split) <;> omega))
      · simp only [decide_eq_false_iff_not] at hc
        have e1 : s = xs.length := by omega
        rw [e1]
        ((repeat' (refine And.intro ?_ ?_)) <;> first | exact True.intro | rfl | exact List.take_length | omega | assumption | (show _ = max _ _; rw [Int.max_def]; (repeat' split) <;> omega))
    · exact h.elim
  · exact h.elim
noncomputable def Δ_Motors : List (FuncId × MC) := (10, c_Motors) :: Δ_Count
theorem okD_Motors : ΔOk Tryd.prog Δ_Motors := ΔOk.cons s_Motors okD_Count

noncomputable def c_Start : MC := fun us m K => match us with
  | [s, .v (.agg [.int .i64 _ fr, .int .i64 _ em, .int .i64 _ ki, .int .i64 _ od, .int .i64 _ ass, .int .i64 _ gn, .int .i64 _ pn, .int .i64 _ pr, .int .i64 _ ln]), .v (.agg [.int .i32 _ ax, .int .i32 _ ay])] => match obS [] shP [] 59 66 m s with
    | some (q, y, x, z, n, c, xs, (), ()) => q ∧ (xs.length ≤ 32) ∧ (∀ e : Nat × Bool, ((startP xs fr em ki od ass gn pn pr ln = true → xs.length + 1 ≤ e.1 ∧ e.2 = false) ∧ (startP xs fr em ki od ass gn pn pr ln = false → e = (c, z))) → K (obR m y x (.v (.one (.int .i64 false (startE xs fr em ki od ass gn pn pr ln))))) (obM m y x [some (.cells [.rs e.2 0 2 0 10 0 (List.length (startL xs fr em ki od ass gn pn pr ln ax ay)) e.1] 59), none, some (.rows false e.2 shP (startL xs fr em ki od ass gn pn pr ln ax ay) 0 e.1 66)]))
    | none => False
  | _ => False
theorem nf_Start (z : Bool) (c : Nat) (xs : List (Row shP)) (fr : Int) (em : Int) (ki : Int) (od : Int) (ass : Int) (gn : Int) (pn : Int) (pr : Int) (ln : Int) (ax : Int) (ay : Int) : goal ⟨Mx, Tryd.prog, Γ_right, Δ_Motors, B0, none, false, [], none⟩ noL 400 Tryd.f9 [.v (.one (.ptr 0 0)), .v (.agg [.int .i64 false fr, .int .i64 false em, .int .i64 false ki, .int .i64 false od, .int .i64 false ass, .int .i64 false gn, .int .i64 false pn, .int .i64 false pr, .int .i64 false ln]), .v (.agg [.int .i32 false ax, .int .i32 false ay])] [some (.cells [.rs z 0 1 0 (List.length shP) 0 (List.length xs) c] 59), some (.rows false z shP xs 0 c 66)] (fun r m' => ∃ e : Nat × Bool, ((startP xs fr em ki od ass gn pn pr ln = true → xs.length + 1 ≤ e.1 ∧ e.2 = false) ∧ (startP xs fr em ki od ass gn pn pr ln = false → e = (c, z))) ∧ stLe 2 ⟨[r], m'⟩ ⟨[.v (.one (.int .i64 false (startE xs fr em ki od ass gn pn pr ln)))], [some (.cells [.rs e.2 0 2 0 10 0 (List.length (startL xs fr em ki od ass gn pn pr ln ax ay)) e.1] 59), none, some (.rows false e.2 shP (startL xs fr em ki od ass gn pn pr ln ax ay) 0 e.1 66)]⟩) = (((!(wb fr (0 : Int) (1073741824 : Int) && wb em (0 : Int) (2 : Int) && wb ki (1 : Int) (9 : Int) && wb od (0 : Int) (15 : Int) && wb ass (0 : Int) (31 : Int) && wb gn (0 : Int) (32768 : Int) && wb pn (-32768 : Int) (32768 : Int) && wb pr (0 : Int) (15 : Int) && wb ln (0 : Int) (600 : Int))) = true → ∃ (e : Nat × Bool), ((startP xs fr em ki od ass gn pn pr ln = true → xs.length + (1 : Nat) ≤ e.fst ∧ e.snd = false) ∧ (startP xs fr em ki od ass gn pn pr ln = false → e = (c, z))) ∧ ((1 : Int) = startE xs fr em ki od ass gn pn pr ln ∧ True) ∧ ((z = e.snd ∧ (0 : Nat) = (0 : Nat) ∧ (0 : Nat) = (0 : Nat) ∧ xs.length = (startL xs fr em ki od ass gn pn pr ln ax ay).length ∧ c = e.fst) ∧ True) ∧ (z = e.snd ∧ (0 : Nat) = (0 : Nat) ∧ c = e.fst ∧ List.take (startL xs fr em ki od ass gn pn pr ln ax ay).length xs = startL xs fr em ki od ass gn pn pr ln ax ay) ∧ True) ∧ ((!(wb fr (0 : Int) (1073741824 : Int) && wb em (0 : Int) (2 : Int) && wb ki (1 : Int) (9 : Int) && wb od (0 : Int) (15 : Int) && wb ass (0 : Int) (31 : Int) && wb gn (0 : Int) (32768 : Int) && wb pn (-32768 : Int) (32768 : Int) && wb pr (0 : Int) (15 : Int) && wb ln (0 : Int) (600 : Int))) = false → ((fLow ki == (0 : Int) && (fHigh ki == (0 : Int) && (fFm ki == (0 : Int) && (fSk ki == (0 : Int) && true)))) = true → ∃ (e : Nat × Bool), ((startP xs fr em ki od ass gn pn pr ln = true → xs.length + (1 : Nat) ≤ e.fst ∧ e.snd = false) ∧ (startP xs fr em ki od ass gn pn pr ln = false → e = (c, z))) ∧ ((0 : Int) = startE xs fr em ki od ass gn pn pr ln ∧ True) ∧ ((z = e.snd ∧ (0 : Nat) = (0 : Nat) ∧ (0 : Nat) = (0 : Nat) ∧ xs.length = (startL xs fr em ki od ass gn pn pr ln ax ay).length ∧ c = e.fst) ∧ True) ∧ (z = e.snd ∧ (0 : Nat) = (0 : Nat) ∧ c = e.fst ∧ List.take (startL xs fr em ki od ass gn pn pr ln ax ay).length xs = startL xs fr em ki od ass gn pn pr ln ax ay) ∧ True) ∧ ((fLow ki == (0 : Int) && (fHigh ki == (0 : Int) && (fFm ki == (0 : Int) && (fSk ki == (0 : Int) && true)))) = false → (xs.length = xs.length ∧ z = z ∧ c = c ∧ (z = true → c = (0 : Nat))) ∧ xs.length ≤ (32 : Nat) ∧ ∀ (e : Unit), True → (decide ((0 : Int) ≤ fndF xs fr em ki od) = true → ∃ (e : Nat × Bool), ((startP xs fr em ki od ass gn pn pr ln = true → xs.length + (1 : Nat) ≤ e.fst ∧ e.snd = false) ∧ (startP xs fr em ki od ass gn pn pr ln = false → e = (c, z))) ∧ ((7 : Int) = startE xs fr em ki od ass gn pn pr ln ∧ True) ∧ ((z = e.snd ∧ (0 : Nat) = (0 : Nat) ∧ (0 : Nat) = (0 : Nat) ∧ xs.length = (startL xs fr em ki od ass gn pn pr ln ax ay).length ∧ c = e.fst) ∧ True) ∧ (z = e.snd ∧ (0 : Nat) = (0 : Nat) ∧ c = e.fst ∧ List.take (startL xs fr em ki od ass gn pn pr ln ax ay).length xs = startL xs fr em ki od ass gn pn pr ln ax ay) ∧ True) ∧ (decide ((0 : Int) ≤ fndF xs fr em ki od) = false → (decide ((32 : Int) ≤ (↑xs.length : Int)) = true → ∃ (e : Nat × Bool), ((startP xs fr em ki od ass gn pn pr ln = true → xs.length + (1 : Nat) ≤ e.fst ∧ e.snd = false) ∧ (startP xs fr em ki od ass gn pn pr ln = false → e = (c, z))) ∧ ((8 : Int) = startE xs fr em ki od ass gn pn pr ln ∧ True) ∧ ((z = e.snd ∧ (0 : Nat) = (0 : Nat) ∧ (0 : Nat) = (0 : Nat) ∧ xs.length = (startL xs fr em ki od ass gn pn pr ln ax ay).length ∧ c = e.fst) ∧ True) ∧ (z = e.snd ∧ (0 : Nat) = (0 : Nat) ∧ c = e.fst ∧ List.take (startL xs fr em ki od ass gn pn pr ln ax ay).length xs = startL xs fr em ki od ass gn pn pr ln ax ay) ∧ True) ∧ (decide ((32 : Int) ≤ (↑xs.length : Int)) = false → (xs.length = xs.length ∧ c = c ∧ z = z ∧ (z = true → c = (0 : Nat)) ∧ (xs.length + (1 : Nat)) * (72 : Nat) ≤ (140737488355328 : Nat)) ∧ ∀ (c' : Nat), xs.length + (1 : Nat) ≤ c' → ((1 : Nat) = (0 : Nat) → c' = c) → ∃ (e : Nat × Bool), ((startP xs fr em ki od ass gn pn pr ln = true → xs.length + (1 : Nat) ≤ e.fst ∧ e.snd = false) ∧ (startP xs fr em ki od ass gn pn pr ln = false → e = (c, z))) ∧ ((0 : Int) = startE xs fr em ki od ass gn pn pr ln ∧ True) ∧ (((false && z) = e.snd ∧ (0 : Nat) = (0 : Nat) ∧ (0 : Nat) = (0 : Nat) ∧ xs.length + (1 : Nat) = (startL xs fr em ki od ass gn pn pr ln ax ay).length ∧ c' = e.fst) ∧ True) ∧ ((false && z) = e.snd ∧ (0 : Nat) = (0 : Nat) ∧ c' = e.fst ∧ List.take (startL xs fr em ki od ass gn pn pr ln ax ay).length (xs.append [(fLow ki, fHigh ki, fFm ki, fSk ki, fr, em, ki, od, ax, ay, ())]) = startL xs fr em ki od ass gn pn pr ln ax ay) ∧ True))))) := by kernel_rfl
theorem s_Start : MSound Tryd.prog 9 c_Start := by
  refine osound (Ctx.ok_of2 (M := Mx) (N := []) mixedA ok_right okD_Motors okB0) Tryd.func9 (by kernel_rfl) (by kernel_rfl) (fun us m K h => ?_)
  unfold c_Start at h
  split at h
  · rename_i s k0_0 fr k0_1 em k0_2 ki k0_3 od k0_4 ass k0_5 gn k0_6 pn k0_7 pr k0_8 ln k1_0 ax k1_1 ay
    split at h
    · rename_i q y x z n c xs hob
      obtain ⟨hq, h⟩ := h
      obtain ⟨hp, h⟩ := h
      refine ⟨Nat × Bool, fun e => (startP xs fr em ki od ass gn pn pr ln = true → xs.length + 1 ≤ e.1 ∧ e.2 = false) ∧ (startP xs fr em ki od ass gn pn pr ln = false → e = (c, z)), [], shP, [], 59, 66, q, y, x, z, n, c, xs, (), (), [.rs z 0 1 0 (List.length shP) 0 n c], s, [.v (.agg [.int .i64 k0_0 fr, .int .i64 k0_1 em, .int .i64 k0_2 ki, .int .i64 k0_3 od, .int .i64 k0_4 ass, .int .i64 k0_5 gn, .int .i64 k0_6 pn, .int .i64 k0_7 pr, .int .i64 k0_8 ln]), .v (.agg [.int .i32 k1_0 ax, .int .i32 k1_1 ay])], [.v (.agg [.int .i64 false fr, .int .i64 false em, .int .i64 false ki, .int .i64 false od, .int .i64 false ass, .int .i64 false gn, .int .i64 false pn, .int .i64 false pr, .int .i64 false ln]), .v (.agg [.int .i32 false ax, .int .i32 false ay])], noL, 400, fun e => .v (.one (.int .i64 false (startE xs fr em ki od ass gn pn pr ln))), fun e => [some (.cells [.rs e.2 0 2 0 10 0 (List.length (startL xs fr em ki od ass gn pn pr ln ax ay)) e.1] 59), none, some (.rows false e.2 shP (startL xs fr em ki od ass gn pn pr ln ax ay) 0 e.1 66)], (fun r m' => ∃ e : Nat × Bool, ((startP xs fr em ki od ass gn pn pr ln = true → xs.length + 1 ≤ e.1 ∧ e.2 = false) ∧ (startP xs fr em ki od ass gn pn pr ln = false → e = (c, z))) ∧ stLe 2 ⟨[r], m'⟩ ⟨[.v (.one (.int .i64 false (startE xs fr em ki od ass gn pn pr ln)))], [some (.cells [.rs e.2 0 2 0 10 0 (List.length (startL xs fr em ki od ass gn pn pr ln ax ay)) e.1] 59), none, some (.rows false e.2 shP (startL xs fr em ki od ass gn pn pr ln ax ay) 0 e.1 66)]⟩), rfl, hob, hq, ⟨by simp [tmLe, svLe, vLe, lfLe, lfsLe, ifB, nmIs, idR], rfl⟩, fun _ => rfl, rfl, fun hn hz hlc hzl => ?_, fun r m' hr => hr, fun e he => h e he⟩
      subst hn
      refine by_nfG (nf_Start z c xs fr em ki od ass gn pn pr ln ax ay) ?_
      clear h hob hq
      have hT : startP xs fr em ki od ass gn pn pr ln = false → startL xs fr em ki od ass gn pn pr ln ax ay = xs := fun h => by unfold startL; rw [if_neg (by rw [h]; simp)]
      have fail : ∀ (r : Int), startP xs fr em ki od ass gn pn pr ln = false → r = startE xs fr em ki od ass gn pn pr ln → ∃ (e : Nat × Bool), ((startP xs fr em ki od ass gn pn pr ln = true → xs.length + (1 : Nat) ≤ e.fst ∧ e.snd = false) ∧ (startP xs fr em ki od ass gn pn pr ln = false → e = (c, z))) ∧ (r = startE xs fr em ki od ass gn pn pr ln ∧ True) ∧ ((z = e.snd ∧ (0 : Nat) = (0 : Nat) ∧ (0 : Nat) = (0 : Nat) ∧ xs.length = (startL xs fr em ki od ass gn pn pr ln ax ay).length ∧ c = e.fst) ∧ True) ∧ (z = e.snd ∧ (0 : Nat) = (0 : Nat) ∧ c = e.fst ∧ List.take (startL xs fr em ki od ass gn pn pr ln ax ay).length xs = startL xs fr em ki od ass gn pn pr ln ax ay) ∧ True := by
        intro r hS hr
        have hL := hT hS
        exact ⟨(c, z), ⟨fun h => absurd h (by rw [hS]; simp), fun _ => rfl⟩, ⟨hr, trivial⟩, ⟨⟨rfl, rfl, rfl, by rw [hL], rfl⟩, trivial⟩, ⟨rfl, rfl, rfl, by rw [hL]; exact List.take_length⟩, trivial⟩
      refine ⟨fun h1 => ?_, fun h1 => ⟨fun h2 => ?_, fun h2 => ⟨⟨rfl, rfl, rfl, hz⟩, hp, fun _ _ => ⟨fun h3 => ?_, fun h3 => ⟨fun h4 => ?_, fun h4 => ⟨⟨rfl, rfl, rfl, hz, by omega⟩, fun c' hc' _ => ?_⟩⟩⟩⟩⟩⟩
      · have hR : rightE fr em ki od ass gn pn pr ln = false := by unfold rightE; simpa only [Bool.not_eq_true'] using h1
        refine fail _ (by unfold startP; rw [hR]; rfl) ?_
        unfold startE
        rw [if_pos hR]
      all_goals have hR : rightE fr em ki od ass gn pn pr ln = true := by unfold rightE; simpa only [Bool.not_eq_false'] using h1
      · have h0 : fFm ki = 0 := by simp only [Bool.and_eq_true, beq_iff_eq] at h2; exact h2.2.2.1
        refine fail _ (by unfold startP; rw [hR, h0]; rfl) ?_
        unfold startE
        rw [if_neg (by rw [hR]; simp), if_pos h0]
      all_goals
        have h0 : fFm ki ≠ 0 := by
          intro h0
          obtain ⟨a, b, d⟩ := fm0 ki h0
          rw [a, b, d, h0] at h2
          simp at h2
      · simp only [decide_eq_true_eq] at h3
        refine fail _ (by unfold startP; rw [hR, decide_eq_true h0, decide_eq_false (by omega)]; rfl) ?_
        unfold startE
        rw [if_neg (by rw [hR]; simp), if_neg h0, if_pos h3]
      all_goals simp only [decide_eq_false_iff_not] at h3
      · simp only [decide_eq_true_eq] at h4
        refine fail _ (by unfold startP; rw [hR, decide_eq_true h0, decide_eq_true (by omega), decide_eq_false (by omega)]; rfl) ?_
        unfold startE
        rw [if_neg (by rw [hR]; simp), if_neg h0, if_neg h3, if_pos (by omega)]
      · simp only [decide_eq_false_iff_not] at h4
        have hS : startP xs fr em ki od ass gn pn pr ln = true := by unfold startP; rw [hR, decide_eq_true h0, decide_eq_true (by omega), decide_eq_true (by omega)]; rfl
        have hL : startL xs fr em ki od ass gn pn pr ln ax ay = xs ++ [((fLow ki, fHigh ki, fFm ki, fSk ki, fr, em, ki, od, ax, ay, ()) : Row shP)] := by unfold startL; rw [if_pos hS]
        have hE : (0 : Int) = startE xs fr em ki od ass gn pn pr ln := by
          unfold startE
          rw [if_neg (by rw [hR]; simp), if_neg h0, if_neg h3, if_neg (by omega)]
        refine ⟨(c', false), ⟨fun _ => ⟨hc', rfl⟩, fun h => absurd h (by rw [hS]; simp)⟩, ⟨hE, trivial⟩, ⟨⟨rfl, rfl, rfl, ?_, rfl⟩, trivial⟩, ⟨rfl, rfl, rfl, ?_⟩, trivial⟩
        · rw [hL, List.length_append]; rfl
        · rw [hL]; exact List.take_length
    · exact h.elim
  · exact h.elim
noncomputable def Δ_Start : List (FuncId × MC) := (9, c_Start) :: Δ_Motors
theorem okD_Start : ΔOk Tryd.prog Δ_Start := ΔOk.cons s_Start okD_Motors

end Go.Proofs.YtoanempchbejhaaDoor
