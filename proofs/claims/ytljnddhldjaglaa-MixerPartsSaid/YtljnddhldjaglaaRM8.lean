/- THE MIXER: AN OBJECT. Conditions: the contracts' own. Own work; the normal forms were printed by a program of mine (wip/rex). -/
import Derived.Test.YtljnddhldjaglaaRM7
namespace Go.Proofs.Ytljnddhldjaglaa
open Go.RowKit Rex
set_option linter.unusedVariables false
set_option linter.unusedSimpArgs false
set_option maxRecDepth 100000


def wb (n l m : Int) : Bool := decide (l ≤ n) && decide (n ≤ m)
def rightE (fr em ki od ass gn pn pr ln : Int) : Bool := (wb fr 0 1073741824 && wb em 0 2 && wb ki 1 9 && wb od 0 15) && wb ass 0 31 && wb gn 0 32768 && wb pn (-32768) 32768 && wb pr 0 15 && wb ln 0 600
def ovrB (t : Int) (p : RV) : Bool := overB p.2.2.2.2.1 p.2.2.2.2.2.1 p.2.2.2.2.2.2.1 p.2.2.2.2.2.2.2.2.1 p.2.2.2.2.2.2.2.2.2.1 p.2.2.2.2.2.2.2.2.2.2.1 p.2.2.2.2.2.2.2.2.2.2.2.1 t
/-- the voice of a key that is not cut, nor over -/
def keyV (fr em ki od t : Int) (p : RV) : Bool := decide (p.1 = fr ∧ p.2.1 = em ∧ p.2.2.1 = ki ∧ p.2.2.2.1 = od ∧ p.2.2.2.2.2.2.2.2.2.2.2.1 = -1 ∧ ovrB t p = false)
def fndV (xs : List RV) (fr em ki od t : Int) : Int := if xs.findIdx (keyV fr em ki od t) < xs.length then (xs.findIdx (keyV fr em ki od t) : Int) else -1
def keepON (xs : List RV) (t : Int) (n : Nat) : List RV := (xs.take n).filter (fun p => !ovrB t p)
def keepO (xs : List RV) (t : Int) : List RV := xs.filter (fun p => !ovrB t p)
def okB (n : Int) (k : Nat) : Prop := 0 ≤ n ∧ n ≤ 1099511627776 ∧ k ≤ 64
theorem fnd_some {xs : List RV} {fr em ki od t : Int} {i : Nat} (h : i < xs.length) (h1 : keyV fr em ki od t (getR xs i) = true) (h2 : ∀ j, j < i → keyV fr em ki od t (getR xs j) = false) : fndV xs fr em ki od t = (i : Int) := by
  have e : xs.findIdx (keyV fr em ki od t) = i := by
    rw [List.findIdx_eq h]
    refine ⟨by rw [← gR_lt h]; exact h1, fun j hj => ?_⟩
    rw [← gR_lt (Nat.lt_trans hj h)]
    exact h2 j hj
  unfold fndV
  rw [e, if_pos h]
theorem fnd_none {xs : List RV} {fr em ki od t : Int} (h2 : ∀ j, j < xs.length → keyV fr em ki od t (getR xs j) = false) : fndV xs fr em ki od t = -1 := by
  have e : xs.findIdx (keyV fr em ki od t) = xs.length := by
    rw [List.findIdx_eq_length]
    intro x hx
    obtain ⟨i, hi, rfl⟩ := List.getElem_of_mem hx
    rw [← gR_lt hi]
    exact h2 i hi
  unfold fndV
  rw [e, if_neg (Nat.lt_irrefl _)]
theorem fnd_nat (xs : List RV) (fr em ki od t : Int) (h : ¬ fndV xs fr em ki od t < 0) : ∃ i : Nat, fndV xs fr em ki od t = (i : Int) ∧ i < xs.length := by
  unfold fndV at *
  split at h
  · rename_i h1; exact ⟨_, by rw [if_pos h1], h1⟩
  · omega
theorem keepON_zero (xs : List RV) (t : Int) : keepON xs t 0 = [] := by unfold keepON; simp
theorem keepON_all (xs : List RV) (t : Int) : keepON xs t xs.length = keepO xs t := by unfold keepON keepO; rw [List.take_length]
theorem keepON_succ (xs : List RV) (t : Int) {n : Nat} (h : n < xs.length) : keepON xs t (n + 1) = keepON xs t n ++ (if ovrB t (getR xs n) = true then [] else [getR xs n]) := by
  unfold keepON
  rw [List.take_add_one, gR_some h, Option.toList_some, List.filter_append]
  congr 1
  cases hb : ovrB t (getR xs n) <;> simp [hb]
theorem keepON_le (xs : List RV) (t : Int) (n : Nat) : (keepON xs t n).length ≤ n := by
  unfold keepON
  exact Nat.le_trans (List.length_filter_le _ _) (by rw [List.length_take]; omega)
theorem keepO_le (xs : List RV) (t : Int) : (keepO xs t).length ≤ xs.length := List.length_filter_le _ _
def newV (fr em ki od ass gn pn pr ln ti late : Int) : RV := (fr, em, ki, od, ass, gn, pn, pr, ln, ti, late * 32, -1, ())
/-- what Start answers -/
def startE (xs : List RV) (ti fr em ki od ass gn pn pr ln late : Int) : Int :=
  if rightE fr em ki od ass gn pn pr ln = false ∨ late < 0 ∨ 1073741824 < late then 1 else if withinB ass 1 9 = false then 14 else if 0 ≤ fndV xs fr em ki od ti then 7 else if 64 ≤ (keepO xs ti).length then 8 else 0
def startL (xs : List RV) (ti fr em ki od ass gn pn pr ln late : Int) : List RV :=
  if startE xs ti fr em ki od ass gn pn pr ln late = 0 then keepO xs ti ++ [newV fr em ki od ass gn pn pr ln ti late] else if startE xs ti fr em ki od ass gn pn pr ln late = 8 then keepO xs ti else xs
def evV (p : RV) (fr em ki od ass gn pn pr ln : Int) : RV := (fr, em, ki, od, ass, gn, pn, pr, ln, p.2.2.2.2.2.2.2.2.2)
def turnE (xs : List RV) (ti fr em ki od ass gn pn pr ln : Int) : Int :=
  if rightE fr em ki od ass gn pn pr ln = false then 1 else if fndV xs fr em ki od ti < 0 ∨ (getR xs (fndV xs fr em ki od ti).toNat).2.2.2.2.1 ≠ ass ∨ (getR xs (fndV xs fr em ki od ti).toNat).2.2.2.2.2.2.2.2.1 ≠ ln then 6 else 0
def turnL (xs : List RV) (ti fr em ki od ass gn pn pr ln : Int) : List RV :=
  if turnE xs ti fr em ki od ass gn pn pr ln = 0 then xs.set (fndV xs fr em ki od ti).toNat (evV (getR xs (fndV xs fr em ki od ti).toNat) fr em ki od ass gn pn pr ln) else xs
def cutV (t : Int) (p : RV) : RV := (p.1, p.2.1, p.2.2.1, p.2.2.2.1, p.2.2.2.2.1, p.2.2.2.2.2.1, p.2.2.2.2.2.2.1, p.2.2.2.2.2.2.2.1, p.2.2.2.2.2.2.2.2.1, p.2.2.2.2.2.2.2.2.2.1, p.2.2.2.2.2.2.2.2.2.2.1, cutF p.2.2.2.2.1 p.2.2.2.2.2.1 p.2.2.2.2.2.2.1 p.2.2.2.2.2.2.2.2.1 p.2.2.2.2.2.2.2.2.2.1 p.2.2.2.2.2.2.2.2.2.2.1 p.2.2.2.2.2.2.2.2.2.2.2.1 t, ())
def cancelL (xs : List RV) (ti fr em ki od : Int) : List RV :=
  if fndV xs fr em ki od ti < 0 then xs else xs.set (fndV xs fr em ki od ti).toNat (cutV ti (getR xs (fndV xs fr em ki od ti).toNat))
@[reducible] def sh2 : List Kd := [.int .i64, .int .i64]
def at2 (xs : List RV) (vs t : Int) : Row sh2 := (wi (sumL (ldF xs vs t) t (ldF xs vs t).length) (-32768) 32767, wi (sumR (ldF xs vs t) t (ldF xs vs t).length) (-32768) 32767, ())
/-- so many samples, from a time on -/
def mixS (xs : List RV) (vs t : Int) : Nat → List (Row sh2)
  | 0 => []
  | n + 1 => mixS xs vs t n ++ [at2 xs vs (t + n)]
def mixE (ti n : Int) : Int := if n < 0 ∨ 4096 < n then 1 else if 1099511627776 < ti + n then 5 else 0
theorem mixS_len (xs : List RV) (vs t : Int) : ∀ n, (mixS xs vs t n).length = n
  | 0 => rfl
  | n + 1 => by rw [mixS, List.length_append, mixS_len xs vs t n]; rfl
theorem startL_le {xs : List RV} {ti fr em ki od ass gn pn pr ln late : Int} (h : xs.length ≤ 64) : (startL xs ti fr em ki od ass gn pn pr ln late).length ≤ 64 := by
  have h1 := keepO_le xs ti
  unfold startL
  split
  · rename_i h0
    rw [List.length_append]
    unfold startE at h0
    (repeat' split at h0) <;> first | (simp only [List.length_cons, List.length_nil]; omega) | omega
  · split <;> omega
theorem turnL_len (xs : List RV) (ti fr em ki od ass gn pn pr ln : Int) : (turnL xs ti fr em ki od ass gn pn pr ln).length = xs.length := by
  unfold turnL; split
  · exact List.length_set ..
  · rfl
theorem cancelL_len (xs : List RV) (ti fr em ki od : Int) : (cancelL xs ti fr em ki od).length = xs.length := by
  unfold cancelL; split
  · rfl
  · exact List.length_set ..


noncomputable def c_ewithin : FC := fun us => match us with
  | [.v (.one (.int .i64 _ n)), .v (.one (.int .i64 _ l)), .v (.one (.int .i64 _ m))] => some (none, .v (.one (.bool false (wb n l m))))
  | _ => none
theorem nf_ewithin (n : Int) (l : Int) (m : Int) : goal ⟨Mx, Try.prog, Γ_rgives, Δ_rAt, B0, none, false, [], none⟩ noL 400 Try.f57 [.v (.one (.int .i64 false n)), .v (.one (.int .i64 false l)), .v (.one (.int .i64 false m))] [] (fun r _ => svLe idR r (.v (.one (.bool false (wb n l m))))) = ((decide (l ≤ n) = true → decide (n ≤ m) = wb n l m) ∧ (decide (l ≤ n) = false → false = wb n l m)) := by kernel_rfl
theorem s_ewithin : FSound Try.prog 57 c_ewithin := by
  refine fsound_of (Ctx.ok_of2 (M := Mx) (N := []) mixedA ok_rgives okD_rAt okB0) Try.func57 (by kernel_rfl) (by kernel_rfl) ?_
  intro us p v h hp
  unfold c_ewithin at h
  split at h
  · rename_i k0 n k1 l k2 m
    cases h
    refine ⟨rfl, noL, 400, [.v (.one (.int .i64 false n)), .v (.one (.int .i64 false l)), .v (.one (.int .i64 false m))], by simp [tmLe, svLe, vLe, lfLe, lfsLe, ifB, nmIs, idR], rfl, ?_⟩
    rw [nf_ewithin]
    clear hp
    (repeat' (first | (refine And.intro ?_ ?_) | intro _)) <;> unfold wb <;> simp [*]
  · cases h
noncomputable def Γ_ewithin : List (FuncId × FX) := (57, c_ewithin) :: Γ_rgives
theorem ok_ewithin : ΓOk Try.prog Γ_ewithin := ΓOk.cons (c := .pure c_ewithin) s_ewithin ok_rgives

noncomputable def c_ekey : FC := fun us => match us with
  | [.v (.agg [.int .i64 _ fr, .int .i64 _ em, .int .i64 _ ki, .int .i64 _ od])] => some (none, .v (.one (.bool false (wb fr 0 1073741824 && wb em 0 2 && wb ki 1 9 && wb od 0 15))))
  | _ => none
theorem nf_ekey (fr : Int) (em : Int) (ki : Int) (od : Int) : goal ⟨Mx, Try.prog, Γ_ewithin, Δ_rAt, B0, none, false, [], none⟩ noL 400 Try.f56 [.v (.agg [.int .i64 false fr, .int .i64 false em, .int .i64 false ki, .int .i64 false od])] [] (fun r _ => svLe idR r (.v (.one (.bool false (wb fr 0 1073741824 && wb em 0 2 && wb ki 1 9 && wb od 0 15))))) = ((wb fr (0 : Int) (1073741824 : Int) = true → (wb em (0 : Int) (2 : Int) = true → (wb ki (1 : Int) (9 : Int) = true → wb od (0 : Int) (15 : Int) = (wb fr (0 : Int) (1073741824 : Int) && wb em (0 : Int) (2 : Int) && wb ki (1 : Int) (9 : Int) && wb od (0 : Int) (15 : Int))) ∧ (wb ki (1 : Int) (9 : Int) = false → false = (wb fr (0 : Int) (1073741824 : Int) && wb em (0 : Int) (2 : Int) && wb ki (1 : Int) (9 : Int) && wb od (0 : Int) (15 : Int)))) ∧ (wb em (0 : Int) (2 : Int) = false → false = (wb fr (0 : Int) (1073741824 : Int) && wb em (0 : Int) (2 : Int) && wb ki (1 : Int) (9 : Int) && wb od (0 : Int) (15 : Int)))) ∧ (wb fr (0 : Int) (1073741824 : Int) = false → false = (wb fr (0 : Int) (1073741824 : Int) && wb em (0 : Int) (2 : Int) && wb ki (1 : Int) (9 : Int) && wb od (0 : Int) (15 : Int)))) := by kernel_rfl
theorem s_ekey : FSound Try.prog 56 c_ekey := by
  refine fsound_of (Ctx.ok_of2 (M := Mx) (N := []) mixedA ok_ewithin okD_rAt okB0) Try.func56 (by kernel_rfl) (by kernel_rfl) ?_
  intro us p v h hp
  unfold c_ekey at h
  split at h
  · rename_i k0 fr k1 em k2 ki k3 od
    cases h
    refine ⟨rfl, noL, 400, [.v (.agg [.int .i64 false fr, .int .i64 false em, .int .i64 false ki, .int .i64 false od])], by simp [tmLe, svLe, vLe, lfLe, lfsLe, ifB, nmIs, idR], rfl, ?_⟩
    rw [nf_ekey]
    clear hp
    (repeat' (first | (refine And.intro ?_ ?_) | intro _)) <;> simp [*]
  · cases h
noncomputable def Γ_ekey : List (FuncId × FX) := (56, c_ekey) :: Γ_ewithin
theorem ok_ekey : ΓOk Try.prog Γ_ekey := ΓOk.cons (c := .pure c_ekey) s_ekey ok_ewithin

noncomputable def c_eright : FC := fun us => match us with
  | [.v (.agg [.int .i64 _ fr, .int .i64 _ em, .int .i64 _ ki, .int .i64 _ od, .int .i64 _ ass, .int .i64 _ gn, .int .i64 _ pn, .int .i64 _ pr, .int .i64 _ ln])] => some (none, .v (.one (.bool false (rightE fr em ki od ass gn pn pr ln))))
  | _ => none
theorem nf_eright (fr : Int) (em : Int) (ki : Int) (od : Int) (ass : Int) (gn : Int) (pn : Int) (pr : Int) (ln : Int) : goal ⟨Mx, Try.prog, Γ_ekey, Δ_rAt, B0, none, false, [], none⟩ noL 400 Try.f29 [.v (.agg [.int .i64 false fr, .int .i64 false em, .int .i64 false ki, .int .i64 false od, .int .i64 false ass, .int .i64 false gn, .int .i64 false pn, .int .i64 false pr, .int .i64 false ln])] [] (fun r _ => svLe idR r (.v (.one (.bool false (rightE fr em ki od ass gn pn pr ln))))) = (((wb fr (0 : Int) (1073741824 : Int) && wb em (0 : Int) (2 : Int) && wb ki (1 : Int) (9 : Int) && wb od (0 : Int) (15 : Int)) = true → (wb ass (0 : Int) (31 : Int) = true → (wb gn (0 : Int) (32768 : Int) = true → (wb pn (-32768 : Int) (32768 : Int) = true → (wb pr (0 : Int) (15 : Int) = true → wb ln (0 : Int) (600 : Int) = rightE fr em ki od ass gn pn pr ln) ∧ (wb pr (0 : Int) (15 : Int) = false → false = rightE fr em ki od ass gn pn pr ln)) ∧ (wb pn (-32768 : Int) (32768 : Int) = false → false = rightE fr em ki od ass gn pn pr ln)) ∧ (wb gn (0 : Int) (32768 : Int) = false → false = rightE fr em ki od ass gn pn pr ln)) ∧ (wb ass (0 : Int) (31 : Int) = false → false = rightE fr em ki od ass gn pn pr ln)) ∧ ((wb fr (0 : Int) (1073741824 : Int) && wb em (0 : Int) (2 : Int) && wb ki (1 : Int) (9 : Int) && wb od (0 : Int) (15 : Int)) = false → false = rightE fr em ki od ass gn pn pr ln)) := by kernel_rfl
theorem s_eright : FSound Try.prog 29 c_eright := by
  refine fsound_of (Ctx.ok_of2 (M := Mx) (N := []) mixedA ok_ekey okD_rAt okB0) Try.func29 (by kernel_rfl) (by kernel_rfl) ?_
  intro us p v h hp
  unfold c_eright at h
  split at h
  · rename_i k0 fr k1 em k2 ki k3 od k4 ass k5 gn k6 pn k7 pr k8 ln
    cases h
    refine ⟨rfl, noL, 400, [.v (.agg [.int .i64 false fr, .int .i64 false em, .int .i64 false ki, .int .i64 false od, .int .i64 false ass, .int .i64 false gn, .int .i64 false pn, .int .i64 false pr, .int .i64 false ln])], by simp [tmLe, svLe, vLe, lfLe, lfsLe, ifB, nmIs, idR], rfl, ?_⟩
    rw [nf_eright]
    clear hp
    (repeat' (first | (refine And.intro ?_ ?_) | intro _))
    all_goals (unfold rightE)
    all_goals simp [*]
  · cases h
noncomputable def Γ_eright : List (FuncId × FX) := (29, c_eright) :: Γ_ekey
theorem ok_eright : ΓOk Try.prog Γ_eright := ΓOk.cons (c := .pure c_eright) s_eright ok_ekey

noncomputable def c_rkey : FC := fun us => match us with
  | [.v (.agg [.int .i64 _ fr, .int .i64 _ em, .int .i64 _ ki, .int .i64 _ od])] => some (none, .v (.one (.bool false (wb fr 0 1073741824 && wb em 0 2 && wb ki 1 9 && wb od 0 15))))
  | _ => none
theorem nf_rkey (fr : Int) (em : Int) (ki : Int) (od : Int) : goal ⟨Mx, Try.prog, Γ_eright, Δ_rAt, B0, none, false, [], none⟩ noL 400 Try.f79 [.v (.agg [.int .i64 false fr, .int .i64 false em, .int .i64 false ki, .int .i64 false od])] [] (fun r _ => svLe idR r (.v (.one (.bool false (wb fr 0 1073741824 && wb em 0 2 && wb ki 1 9 && wb od 0 15))))) = ((decide ((0 : Int) ≤ fr) = true → (decide (fr ≤ (1073741824 : Int)) = true → (decide ((0 : Int) ≤ em) = true → (decide (em ≤ (2 : Int)) = true → (decide ((1 : Int) ≤ ki) = true → (decide (ki ≤ (9 : Int)) = true → (decide ((0 : Int) ≤ od) = true → decide (od ≤ (15 : Int)) = (wb fr (0 : Int) (1073741824 : Int) && wb em (0 : Int) (2 : Int) && wb ki (1 : Int) (9 : Int) && wb od (0 : Int) (15 : Int))) ∧ (decide ((0 : Int) ≤ od) = false → false = (wb fr (0 : Int) (1073741824 : Int) && wb em (0 : Int) (2 : Int) && wb ki (1 : Int) (9 : Int) && wb od (0 : Int) (15 : Int)))) ∧ (decide (ki ≤ (9 : Int)) = false → false = (wb fr (0 : Int) (1073741824 : Int) && wb em (0 : Int) (2 : Int) && wb ki (1 : Int) (9 : Int) && wb od (0 : Int) (15 : Int)))) ∧ (decide ((1 : Int) ≤ ki) = false → false = (wb fr (0 : Int) (1073741824 : Int) && wb em (0 : Int) (2 : Int) && wb ki (1 : Int) (9 : Int) && wb od (0 : Int) (15 : Int)))) ∧ (decide (em ≤ (2 : Int)) = false → false = (wb fr (0 : Int) (1073741824 : Int) && wb em (0 : Int) (2 : Int) && wb ki (1 : Int) (9 : Int) && wb od (0 : Int) (15 : Int)))) ∧ (decide ((0 : Int) ≤ em) = false → false = (wb fr (0 : Int) (1073741824 : Int) && wb em (0 : Int) (2 : Int) && wb ki (1 : Int) (9 : Int) && wb od (0 : Int) (15 : Int)))) ∧ (decide (fr ≤ (1073741824 : Int)) = false → false = (wb fr (0 : Int) (1073741824 : Int) && wb em (0 : Int) (2 : Int) && wb ki (1 : Int) (9 : Int) && wb od (0 : Int) (15 : Int)))) ∧ (decide ((0 : Int) ≤ fr) = false → false = (wb fr (0 : Int) (1073741824 : Int) && wb em (0 : Int) (2 : Int) && wb ki (1 : Int) (9 : Int) && wb od (0 : Int) (15 : Int)))) := by kernel_rfl
theorem s_rkey : FSound Try.prog 79 c_rkey := by
  refine fsound_of (Ctx.ok_of2 (M := Mx) (N := []) mixedA ok_eright okD_rAt okB0) Try.func79 (by kernel_rfl) (by kernel_rfl) ?_
  intro us p v h hp
  unfold c_rkey at h
  split at h
  · rename_i k0 fr k1 em k2 ki k3 od
    cases h
    refine ⟨rfl, noL, 400, [.v (.agg [.int .i64 false fr, .int .i64 false em, .int .i64 false ki, .int .i64 false od])], by simp [tmLe, svLe, vLe, lfLe, lfsLe, ifB, nmIs, idR], rfl, ?_⟩
    rw [nf_rkey]
    clear hp
    (repeat' (first | (refine And.intro ?_ ?_) | intro _)) <;> unfold wb <;> simp [*]
  · cases h
noncomputable def Γ_rkey : List (FuncId × FX) := (79, c_rkey) :: Γ_eright
theorem ok_rkey : ΓOk Try.prog Γ_rkey := ΓOk.cons (c := .pure c_rkey) s_rkey ok_eright

noncomputable def c_reright : FC := fun us => match us with
  | [.v (.agg [.int .i64 _ fr, .int .i64 _ em, .int .i64 _ ki, .int .i64 _ od, .int .i64 _ ass, .int .i64 _ gn, .int .i64 _ pn, .int .i64 _ pr, .int .i64 _ ln])] => some (none, .v (.one (.bool false (rightE fr em ki od ass gn pn pr ln))))
  | _ => none
theorem nf_reright (fr : Int) (em : Int) (ki : Int) (od : Int) (ass : Int) (gn : Int) (pn : Int) (pr : Int) (ln : Int) : goal ⟨Mx, Try.prog, Γ_rkey, Δ_rAt, B0, none, false, [], none⟩ noL 400 Try.f64 [.v (.agg [.int .i64 false fr, .int .i64 false em, .int .i64 false ki, .int .i64 false od, .int .i64 false ass, .int .i64 false gn, .int .i64 false pn, .int .i64 false pr, .int .i64 false ln])] [] (fun r _ => svLe idR r (.v (.one (.bool false (rightE fr em ki od ass gn pn pr ln))))) = (((wb fr (0 : Int) (1073741824 : Int) && wb em (0 : Int) (2 : Int) && wb ki (1 : Int) (9 : Int) && wb od (0 : Int) (15 : Int)) = true → (decide ((0 : Int) ≤ ass) = true → (decide (ass ≤ (31 : Int)) = true → (decide ((0 : Int) ≤ gn) = true → (decide (gn ≤ (32768 : Int)) = true → (decide ((-32768 : Int) ≤ pn) = true → (decide (pn ≤ (32768 : Int)) = true → (decide ((0 : Int) ≤ pr) = true → (decide (pr ≤ (15 : Int)) = true → (decide ((0 : Int) ≤ ln) = true → decide (ln ≤ (600 : Int)) = rightE fr em ki od ass gn pn pr ln) ∧ (decide ((0 : Int) ≤ ln) = false → false = rightE fr em ki od ass gn pn pr ln)) ∧ (decide (pr ≤ (15 : Int)) = false → false = rightE fr em ki od ass gn pn pr ln)) ∧ (decide ((0 : Int) ≤ pr) = false → false = rightE fr em ki od ass gn pn pr ln)) ∧ (decide (pn ≤ (32768 : Int)) = false → false = rightE fr em ki od ass gn pn pr ln)) ∧ (decide ((-32768 : Int) ≤ pn) = false → false = rightE fr em ki od ass gn pn pr ln)) ∧ (decide (gn ≤ (32768 : Int)) = false → false = rightE fr em ki od ass gn pn pr ln)) ∧ (decide ((0 : Int) ≤ gn) = false → false = rightE fr em ki od ass gn pn pr ln)) ∧ (decide (ass ≤ (31 : Int)) = false → false = rightE fr em ki od ass gn pn pr ln)) ∧ (decide ((0 : Int) ≤ ass) = false → false = rightE fr em ki od ass gn pn pr ln)) ∧ ((wb fr (0 : Int) (1073741824 : Int) && wb em (0 : Int) (2 : Int) && wb ki (1 : Int) (9 : Int) && wb od (0 : Int) (15 : Int)) = false → false = rightE fr em ki od ass gn pn pr ln)) := by kernel_rfl
theorem s_reright : FSound Try.prog 64 c_reright := by
  refine fsound_of (Ctx.ok_of2 (M := Mx) (N := []) mixedA ok_rkey okD_rAt okB0) Try.func64 (by kernel_rfl) (by kernel_rfl) ?_
  intro us p v h hp
  unfold c_reright at h
  split at h
  · rename_i k0 fr k1 em k2 ki k3 od k4 ass k5 gn k6 pn k7 pr k8 ln
    cases h
    refine ⟨rfl, noL, 400, [.v (.agg [.int .i64 false fr, .int .i64 false em, .int .i64 false ki, .int .i64 false od, .int .i64 false ass, .int .i64 false gn, .int .i64 false pn, .int .i64 false pr, .int .i64 false ln])], by simp [tmLe, svLe, vLe, lfLe, lfsLe, ifB, nmIs, idR], rfl, ?_⟩
    rw [nf_reright]
    clear hp
    (repeat' (first | (refine And.intro ?_ ?_) | intro _)) <;> unfold rightE <;> unfold wb at * <;> simp [*]
  · cases h
noncomputable def Γ_reright : List (FuncId × FX) := (64, c_reright) :: Γ_rkey
theorem ok_reright : ΓOk Try.prog Γ_reright := ΓOk.cons (c := .pure c_reright) s_reright ok_rkey

noncomputable def c_find : MC := fun us m K => match us with
  | [s, .v (.agg [.int .i64 _ fr, .int .i64 _ em, .int .i64 _ ki, .int .i64 _ od])] => match obS [.int .i64, .int .i64] shV [] 64 50 m s with
    | some (q, y, x, z, n, c, xs, (vo, ti, ()), ()) => q ∧ (xs.length ≤ 64) ∧ (∀ e : Unit, (True) → K (obR m y x (.v (.one (.int .i64 false (fndV xs fr em ki od ti))))) (obM m y x [some (.cells [.int .i64 false vo, .int .i64 false ti, .rs z 0 1 0 (List.length shV) 0 (List.length xs) c] 64), some (.rows false z shV xs 0 c 50)]))
    | none => False
  | _ => False
theorem nf_find (z : Bool) (c : Nat) (xs : List (Row shV)) (vo : Int) (ti : Int) (fr : Int) (em : Int) (ki : Int) (od : Int) : goal ⟨Mx, Try.prog, Γ_reright, Δ_rAt, B0, none, false, [59, 60], none⟩ (fun bk => match bk with | 60000000 => some { S := Nat, st := fun i => ⟨[.v (.one (.rs z 0 1 0 12 0 xs.length c)), .clo 60 [.ptr 3 0, .ptr 2 0], .junk, .junk, .junk, .junk, .junk, .v (.one (.int .i64 false ((xs.length : Int)))), .v (.one (.int .i64 false ((i : Int)))), .junk, .junk, .junk, .junk, .junk, .junk, .junk, .junk, .junk, .junk], [some (.cells [.int .i64 false vo, .int .i64 false ti, .rs z 0 1 0 12 0 xs.length c] 64), some (.rows false z shV xs 0 c 50), some (.cells [.ptr 0 0] 28), some (.cells [.int .i64 false fr, .int .i64 false em, .int .i64 false ki, .int .i64 false od] 33)]⟩, ok := fun i => i ≤ xs.length ∧ ∀ j, j < i → keyV fr em ki od ti (getR xs j) = false, mu := fun i => xs.length - i, init := 0 } | _ => none) 400 Try.f31 [.v (.one (.ptr 0 0)), .v (.agg [.int .i64 false fr, .int .i64 false em, .int .i64 false ki, .int .i64 false od])] [some (.cells [.int .i64 false vo, .int .i64 false ti, .rs z 0 1 0 (List.length shV) 0 (List.length xs) c] 64), some (.rows false z shV xs 0 c 50)] (fun r m' => stLe 2 ⟨[r], m'⟩ ⟨[.v (.one (.int .i64 false (fndV xs fr em ki od ti)))], [some (.cells [.int .i64 false vo, .int .i64 false ti, .rs z 0 1 0 (List.length shV) 0 (List.length xs) c] 64), some (.rows false z shV xs 0 c 50)]⟩) = ((((((z = z ∧ (0 : Nat) = (0 : Nat) ∧ (0 : Nat) = (0 : Nat) ∧ xs.length = xs.length ∧ c = c) ∧ True) ∧ (True ∧ True) ∧ (↑xs.length : Int) = (↑xs.length : Int) ∧ (0 : Int) = (↑(0 : Nat) : Int) ∧ True) ∧ (vo = vo ∧ ti = ti ∧ (z = z ∧ (0 : Nat) = (0 : Nat) ∧ (0 : Nat) = (0 : Nat) ∧ xs.length = xs.length ∧ c = c) ∧ True) ∧ (z = z ∧ (0 : Nat) = (0 : Nat) ∧ c = c ∧ List.take xs.length xs = xs) ∧ True ∧ (fr = fr ∧ em = em ∧ ki = ki ∧ od = od) ∧ True) ∧ (0 : Nat) ≤ xs.length ∧ ∀ (j : Nat), j < (0 : Nat) → keyV fr em ki od ti (getR xs j) = false) ∧ ∀ (s : Nat), (s ≤ xs.length ∧ ∀ (j : Nat), j < s → keyV fr em ki od ti (getR xs j) = false) → (decide ((↑s : Int) < (↑xs.length : Int)) = true → ((0 : Int) ≤ (↑s : Int) ∧ (↑s : Int) < (↑xs.length : Int)) ∧ (↑s : Int).toNat < xs.length ∧ (((getR xs (↑s : Int).toNat).fst == fr && ((getR xs (↑s : Int).toNat).snd.fst == em && ((getR xs (↑s : Int).toNat).snd.snd.fst == ki && ((getR xs (↑s : Int).toNat).snd.snd.snd.fst == od && true)))) = true → (((getR xs (↑s : Int).toNat).snd.snd.snd.snd.snd.snd.snd.snd.snd.snd.snd.fst == (-1 : Int)) = true → ((getR xs (↑s : Int).toNat).fst == fr && ((getR xs (↑s : Int).toNat).snd.fst == em && ((getR xs (↑s : Int).toNat).snd.snd.fst == ki && ((getR xs (↑s : Int).toNat).snd.snd.snd.fst == od && true)))) = true ∧ ((getR xs (↑s : Int).toNat).snd.snd.snd.snd.snd.snd.snd.snd.snd.snd.snd.fst == (-1 : Int)) = true ∧ ((!ovrB ti (getR xs (↑s : Int).toNat)) = true → ((↑s : Int) = fndV xs fr em ki od ti ∧ True) ∧ (vo = vo ∧ ti = ti ∧ (z = z ∧ (0 : Nat) = (0 : Nat) ∧ (0 : Nat) = (0 : Nat) ∧ xs.length = xs.length ∧ c = c) ∧ True) ∧ (z = z ∧ (0 : Nat) = (0 : Nat) ∧ c = c ∧ List.take xs.length xs = xs) ∧ True) ∧ ((!ovrB ti (getR xs (↑s : Int).toNat)) = false → inR IntKind.i64 ((↑s : Int) + (1 : Int)) ∧ ∃ (s' : Nat), (((((z = z ∧ (0 : Nat) = (0 : Nat) ∧ (0 : Nat) = (0 : Nat) ∧ xs.length = xs.length ∧ c = c) ∧ True) ∧ (True ∧ True) ∧ (↑xs.length : Int) = (↑xs.length : Int) ∧ (↑s : Int) + (1 : Int) = (↑s' : Int) ∧ True) ∧ (vo = vo ∧ ti = ti ∧ (z = z ∧ (0 : Nat) = (0 : Nat) ∧ (0 : Nat) = (0 : Nat) ∧ xs.length = xs.length ∧ c = c) ∧ True) ∧ (z = z ∧ (0 : Nat) = (0 : Nat) ∧ c = c ∧ List.take xs.length xs = xs) ∧ True ∧ (fr = fr ∧ em = em ∧ ki = ki ∧ od = od) ∧ True) ∧ s' ≤ xs.length ∧ ∀ (j : Nat), j < s' → keyV fr em ki od ti (getR xs j) = false) ∧ xs.length - s' < xs.length - s)) ∧ (((getR xs (↑s : Int).toNat).snd.snd.snd.snd.snd.snd.snd.snd.snd.snd.snd.fst == (-1 : Int)) = false → ((getR xs (↑s : Int).toNat).fst == fr && ((getR xs (↑s : Int).toNat).snd.fst == em && ((getR xs (↑s : Int).toNat).snd.snd.fst == ki && ((getR xs (↑s : Int).toNat).snd.snd.snd.fst == od && true)))) = true ∧ ((getR xs (↑s : Int).toNat).snd.snd.snd.snd.snd.snd.snd.snd.snd.snd.snd.fst == (-1 : Int)) = false ∧ inR IntKind.i64 ((↑s : Int) + (1 : Int)) ∧ ∃ (s' : Nat), (((((z = z ∧ (0 : Nat) = (0 : Nat) ∧ (0 : Nat) = (0 : Nat) ∧ xs.length = xs.length ∧ c = c) ∧ True) ∧ (True ∧ True) ∧ (↑xs.length : Int) = (↑xs.length : Int) ∧ (↑s : Int) + (1 : Int) = (↑s' : Int) ∧ True) ∧ (vo = vo ∧ ti = ti ∧ (z = z ∧ (0 : Nat) = (0 : Nat) ∧ (0 : Nat) = (0 : Nat) ∧ xs.length = xs.length ∧ c = c) ∧ True) ∧ (z = z ∧ (0 : Nat) = (0 : Nat) ∧ c = c ∧ List.take xs.length xs = xs) ∧ True ∧ (fr = fr ∧ em = em ∧ ki = ki ∧ od = od) ∧ True) ∧ s' ≤ xs.length ∧ ∀ (j : Nat), j < s' → keyV fr em ki od ti (getR xs j) = false) ∧ xs.length - s' < xs.length - s)) ∧ (((getR xs (↑s : Int).toNat).fst == fr && ((getR xs (↑s : Int).toNat).snd.fst == em && ((getR xs (↑s : Int).toNat).snd.snd.fst == ki && ((getR xs (↑s : Int).toNat).snd.snd.snd.fst == od && true)))) = false → ((getR xs (↑s : Int).toNat).fst == fr && ((getR xs (↑s : Int).toNat).snd.fst == em && ((getR xs (↑s : Int).toNat).snd.snd.fst == ki && ((getR xs (↑s : Int).toNat).snd.snd.snd.fst == od && true)))) = false ∧ inR IntKind.i64 ((↑s : Int) + (1 : Int)) ∧ ∃ (s' : Nat), (((((z = z ∧ (0 : Nat) = (0 : Nat) ∧ (0 : Nat) = (0 : Nat) ∧ xs.length = xs.length ∧ c = c) ∧ True) ∧ (True ∧ True) ∧ (↑xs.length : Int) = (↑xs.length : Int) ∧ (↑s : Int) + (1 : Int) = (↑s' : Int) ∧ True) ∧ (vo = vo ∧ ti = ti ∧ (z = z ∧ (0 : Nat) = (0 : Nat) ∧ (0 : Nat) = (0 : Nat) ∧ xs.length = xs.length ∧ c = c) ∧ True) ∧ (z = z ∧ (0 : Nat) = (0 : Nat) ∧ c = c ∧ List.take xs.length xs = xs) ∧ True ∧ (fr = fr ∧ em = em ∧ ki = ki ∧ od = od) ∧ True) ∧ s' ≤ xs.length ∧ ∀ (j : Nat), j < s' → keyV fr em ki od ti (getR xs j) = false) ∧ xs.length - s' < xs.length - s)) ∧ (decide ((↑s : Int) < (↑xs.length : Int)) = false → ((-1 : Int) = fndV xs fr em ki od ti ∧ True) ∧ (vo = vo ∧ ti = ti ∧ (z = z ∧ (0 : Nat) = (0 : Nat) ∧ (0 : Nat) = (0 : Nat) ∧ xs.length = xs.length ∧ c = c) ∧ True) ∧ (z = z ∧ (0 : Nat) = (0 : Nat) ∧ c = c ∧ List.take xs.length xs = xs) ∧ True)) := by kernel_rfl
theorem s_find : MSound Try.prog 31 c_find := by
  refine osound (Ctx.ok_of2 (M := Mx) (N := [59, 60]) mixedA ok_reright okD_rAt okB0) Try.func31 (by kernel_rfl) (by kernel_rfl) (fun us m K h => ?_)
  unfold c_find at h
  split at h
  · rename_i s k0_0 fr k0_1 em k0_2 ki k0_3 od
    split at h
    · rename_i q y x z n c xs vo ti hob
      obtain ⟨hq, h⟩ := h
      obtain ⟨hp, h⟩ := h
      refine ⟨Unit, fun _ => True, [.int .i64, .int .i64], shV, [], 64, 50, q, y, x, z, n, c, xs, (vo, ti, ()), (), [.int .i64 false vo, .int .i64 false ti, .rs z 0 1 0 (List.length shV) 0 n c], s, [.v (.agg [.int .i64 k0_0 fr, .int .i64 k0_1 em, .int .i64 k0_2 ki, .int .i64 k0_3 od])], [.v (.agg [.int .i64 false fr, .int .i64 false em, .int .i64 false ki, .int .i64 false od])], (fun bk => match bk with | 60000000 => some { S := Nat, st := fun i => ⟨[.v (.one (.rs z 0 1 0 12 0 xs.length c)), .clo 60 [.ptr 3 0, .ptr 2 0], .junk, .junk, .junk, .junk, .junk, .v (.one (.int .i64 false ((xs.length : Int)))), .v (.one (.int .i64 false ((i : Int)))), .junk, .junk, .junk, .junk, .junk, .junk, .junk, .junk, .junk, .junk], [some (.cells [.int .i64 false vo, .int .i64 false ti, .rs z 0 1 0 12 0 xs.length c] 64), some (.rows false z shV xs 0 c 50), some (.cells [.ptr 0 0] 28), some (.cells [.int .i64 false fr, .int .i64 false em, .int .i64 false ki, .int .i64 false od] 33)]⟩, ok := fun i => i ≤ xs.length ∧ ∀ j, j < i → keyV fr em ki od ti (getR xs j) = false, mu := fun i => xs.length - i, init := 0 } | _ => none), 400, fun _ => .v (.one (.int .i64 false (fndV xs fr em ki od ti))), fun _ => [some (.cells [.int .i64 false vo, .int .i64 false ti, .rs z 0 1 0 (List.length shV) 0 (List.length xs) c] 64), some (.rows false z shV xs 0 c 50)], (fun r m' => stLe 2 ⟨[r], m'⟩ ⟨[.v (.one (.int .i64 false (fndV xs fr em ki od ti)))], [some (.cells [.int .i64 false vo, .int .i64 false ti, .rs z 0 1 0 (List.length shV) 0 (List.length xs) c] 64), some (.rows false z shV xs 0 c 50)]⟩), rfl, hob, hq, ⟨by simp [tmLe, svLe, vLe, lfLe, lfsLe, ifB, nmIs, idR], rfl⟩, fun _ => rfl, rfl, fun hn hz hlc hzl => ?_, fun r m' hr => ⟨(), trivial, hr⟩, fun e he => h e he⟩
      subst hn
      refine by_nfG (nf_find z c xs vo ti fr em ki od) ?_
      clear h hob hq
      simp only [eq_self_iff_true, true_and, and_true, Int.toNat_natCast, implies_true, decide_eq_true_eq, decide_eq_false_iff_not, bne_iff_ne, bne_eq_false_iff_eq, ne_eq, Decidable.not_not, inR, klo, khi, Bool.not_eq_true', Bool.not_eq_false', beq_iff_eq, beq_eq_false_iff_ne, List.take_length, List.append_eq]
      have nxt : ∀ s : Nat, s < xs.length → (∀ j, j < s → keyV fr em ki od ti (getR xs j) = false) → keyV fr em ki od ti (getR xs s) = false → (-9223372036854775808 ≤ (s : Int) + 1 ∧ (s : Int) + 1 ≤ 9223372036854775807) ∧ ∃ s' : Nat, ((s : Int) + 1 = (s' : Int) ∧ s' ≤ xs.length ∧ ∀ j, j < s' → keyV fr em ki od ti (getR xs j) = false) ∧ xs.length - s' < xs.length - s := by
        intro s hlt h2 hb
        refine ⟨by omega, s + 1, ⟨by omega, by omega, fun j hj => ?_⟩, by omega⟩
        by_cases e : j = s
        · rw [e]; exact hb
        · exact h2 j (by omega)
      refine ⟨⟨rfl, Nat.zero_le _, fun j hj => absurd hj (Nat.not_lt_zero _)⟩, fun s hs => ⟨fun hc => ?_, fun hc => ?_⟩⟩
      · have hlt : s < xs.length := by omega
        refine ⟨by omega, hlt, fun hk => ⟨fun hu => ⟨hk, hu, fun ho => ?_, fun ho => nxt s hlt hs.2 ?_⟩, fun hu => ⟨hk, hu, nxt s hlt hs.2 ?_⟩⟩, fun hk => ⟨hk, nxt s hlt hs.2 ?_⟩⟩
        · simp only [Bool.and_eq_true, beq_iff_eq, and_true] at hk
          rw [fnd_some hlt (decide_eq_true ⟨hk.1, hk.2.1, hk.2.2.1, hk.2.2.2, hu, ho⟩) hs.2]
        · exact decide_eq_false fun h => by rw [ho] at h; exact absurd h.2.2.2.2.2 (by simp)
        · exact decide_eq_false fun h => hu h.2.2.2.2.1
        · refine decide_eq_false fun h => ?_
          rw [h.1, h.2.1, h.2.2.1, h.2.2.2.1] at hk
          simp at hk
      · rw [fnd_none (xs := xs) (fun j hj => hs.2 j (by omega))]
    · exact h.elim
  · exact h.elim
noncomputable def Δ_find : List (FuncId × MC) := (31, c_find) :: Δ_rAt
theorem okD_find : ΔOk Try.prog Δ_find := ΔOk.cons s_find okD_rAt

noncomputable def c_Time : MC := fun us m K => match us with
  | [s] => match obS [.int .i64, .int .i64] shV [] 64 50 m s with
    | some (q, y, x, z, n, c, xs, (vo, ti, ()), ()) => q ∧ (∀ e : Unit, (True) → K (obR m y x (.v (.one (.int .i64 false (ti))))) (obM m y x [some (.cells [.int .i64 false vo, .int .i64 false ti, .rs z 0 1 0 (List.length shV) 0 (List.length xs) c] 64), some (.rows false z shV xs 0 c 50)]))
    | none => False
  | _ => False
theorem nf_Time (z : Bool) (c : Nat) (xs : List (Row shV)) (vo : Int) (ti : Int) : goal ⟨Mx, Try.prog, Γ_reright, Δ_find, B0, none, false, [], none⟩ noL 400 Try.f18 [.v (.one (.ptr 0 0))] [some (.cells [.int .i64 false vo, .int .i64 false ti, .rs z 0 1 0 (List.length shV) 0 (List.length xs) c] 64), some (.rows false z shV xs 0 c 50)] (fun r m' => stLe 2 ⟨[r], m'⟩ ⟨[.v (.one (.int .i64 false (ti)))], [some (.cells [.int .i64 false vo, .int .i64 false ti, .rs z 0 1 0 (List.length shV) 0 (List.length xs) c] 64), some (.rows false z shV xs 0 c 50)]⟩) = ((ti = ti ∧ True) ∧ (vo = vo ∧ ti = ti ∧ (z = z ∧ (0 : Nat) = (0 : Nat) ∧ (0 : Nat) = (0 : Nat) ∧ xs.length = xs.length ∧ c = c) ∧ True) ∧ (z = z ∧ (0 : Nat) = (0 : Nat) ∧ c = c ∧ List.take xs.length xs = xs) ∧ True) := by kernel_rfl
theorem s_Time : MSound Try.prog 18 c_Time := by
  refine osound (Ctx.ok_of2 (M := Mx) (N := []) mixedA ok_reright okD_find okB0) Try.func18 (by kernel_rfl) (by kernel_rfl) (fun us m K h => ?_)
  unfold c_Time at h
  split at h
  · rename_i s
    split at h
    · rename_i q y x z n c xs vo ti hob
      obtain ⟨hq, h⟩ := h
      refine ⟨Unit, fun _ => True, [.int .i64, .int .i64], shV, [], 64, 50, q, y, x, z, n, c, xs, (vo, ti, ()), (), [.int .i64 false vo, .int .i64 false ti, .rs z 0 1 0 (List.length shV) 0 n c], s, [], [], noL, 400, fun _ => .v (.one (.int .i64 false (ti))), fun _ => [some (.cells [.int .i64 false vo, .int .i64 false ti, .rs z 0 1 0 (List.length shV) 0 (List.length xs) c] 64), some (.rows false z shV xs 0 c 50)], (fun r m' => stLe 2 ⟨[r], m'⟩ ⟨[.v (.one (.int .i64 false (ti)))], [some (.cells [.int .i64 false vo, .int .i64 false ti, .rs z 0 1 0 (List.length shV) 0 (List.length xs) c] 64), some (.rows false z shV xs 0 c 50)]⟩), rfl, hob, hq, ⟨by simp [tmLe, svLe, vLe, lfLe, lfsLe, ifB, nmIs, idR], rfl⟩, fun _ => rfl, rfl, fun hn hz hlc hzl => ?_, fun r m' hr => ⟨(), trivial, hr⟩, fun e he => h e he⟩
      subst hn
      refine by_nfG (nf_Time z c xs vo ti) ?_
      clear h hob hq
      exact ⟨⟨rfl, trivial⟩, ⟨rfl, rfl, ⟨rfl, rfl, rfl, rfl, rfl⟩, trivial⟩, ⟨rfl, rfl, rfl, List.take_length⟩, trivial⟩
    · exact h.elim
  · exact h.elim
noncomputable def Δ_Time : List (FuncId × MC) := (18, c_Time) :: Δ_find
theorem okD_Time : ΔOk Try.prog Δ_Time := ΔOk.cons s_Time okD_find

noncomputable def c_Voices : MC := fun us m K => match us with
  | [s] => match obS [.int .i64, .int .i64] shV [] 64 50 m s with
    | some (q, y, x, z, n, c, xs, (vo, ti, ()), ()) => q ∧ (xs.length ≤ 64) ∧ (∀ e : Nat × Bool, (List.length (xs) ≤ e.1 ∧ (e.2 = true → e.1 = 0)) → K (obR m y x (.v (.one (.rs e.2 0 2 0 12 0 (List.length (xs)) e.1)))) (obM m y x [some (.cells [.int .i64 false vo, .int .i64 false ti, .rs z 0 1 0 12 0 xs.length c] 64), some (.rows false z shV xs 0 c 50), some (.rows false e.2 shV (xs) 0 e.1 50)]))
    | none => False
  | _ => False
theorem nf_Voices (z : Bool) (c : Nat) (xs : List (Row shV)) (vo : Int) (ti : Int) : goal ⟨Mx, Try.prog, Γ_reright, Δ_Time, B0, none, false, [], none⟩ noL 400 Try.f17 [.v (.one (.ptr 0 0))] [some (.cells [.int .i64 false vo, .int .i64 false ti, .rs z 0 1 0 (List.length shV) 0 (List.length xs) c] 64), some (.rows false z shV xs 0 c 50)] (fun r m' => ∃ e : Nat × Bool, (List.length (xs) ≤ e.1 ∧ (e.2 = true → e.1 = 0)) ∧ stLe 2 ⟨[r], m'⟩ ⟨[.v (.one (.rs e.2 0 2 0 12 0 (List.length (xs)) e.1))], [some (.cells [.int .i64 false vo, .int .i64 false ti, .rs z 0 1 0 12 0 xs.length c] 64), some (.rows false z shV xs 0 c 50), some (.rows false e.2 shV (xs) 0 e.1 50)]⟩) = ((xs.length = xs.length ∧ z = z ∧ (0 : Nat) = (0 : Nat)) ∧ xs.length ≤ (64 : Nat) ∧ ∀ (e : Nat × Bool), xs.length ≤ e.fst ∧ (e.snd = true → e.fst = (0 : Nat)) → ∃ (e_1 : Nat × Bool), (xs.length ≤ e_1.fst ∧ (e_1.snd = true → e_1.fst = (0 : Nat))) ∧ (((e.snd = e_1.snd ∧ (0 : Nat) = (0 : Nat) ∧ (0 : Nat) = (0 : Nat) ∧ xs.length = xs.length ∧ e.fst = e_1.fst) ∧ True) ∧ True) ∧ (vo = vo ∧ ti = ti ∧ (z = z ∧ (0 : Nat) = (0 : Nat) ∧ (0 : Nat) = (0 : Nat) ∧ xs.length = xs.length ∧ c = c) ∧ True) ∧ (z = z ∧ (0 : Nat) = (0 : Nat) ∧ c = c ∧ List.take xs.length xs = xs) ∧ (e.snd = e_1.snd ∧ (0 : Nat) = (0 : Nat) ∧ e.fst = e_1.fst ∧ List.take xs.length xs = xs) ∧ True) := by kernel_rfl
theorem s_Voices : MSound Try.prog 17 c_Voices := by
  refine osound (Ctx.ok_of2 (M := Mx) (N := []) mixedA ok_reright okD_Time okB0) Try.func17 (by kernel_rfl) (by kernel_rfl) (fun us m K h => ?_)
  unfold c_Voices at h
  split at h
  · rename_i s
    split at h
    · rename_i q y x z n c xs vo ti hob
      obtain ⟨hq, h⟩ := h
      obtain ⟨hp, h⟩ := h
      refine ⟨Nat × Bool, fun e => List.length (xs) ≤ e.1 ∧ (e.2 = true → e.1 = 0), [.int .i64, .int .i64], shV, [], 64, 50, q, y, x, z, n, c, xs, (vo, ti, ()), (), [.int .i64 false vo, .int .i64 false ti, .rs z 0 1 0 (List.length shV) 0 n c], s, [], [], noL, 400, fun e => .v (.one (.rs e.2 0 2 0 12 0 (List.length (xs)) e.1)), fun e => [some (.cells [.int .i64 false vo, .int .i64 false ti, .rs z 0 1 0 12 0 xs.length c] 64), some (.rows false z shV xs 0 c 50), some (.rows false e.2 shV (xs) 0 e.1 50)], (fun r m' => ∃ e : Nat × Bool, (List.length (xs) ≤ e.1 ∧ (e.2 = true → e.1 = 0)) ∧ stLe 2 ⟨[r], m'⟩ ⟨[.v (.one (.rs e.2 0 2 0 12 0 (List.length (xs)) e.1))], [some (.cells [.int .i64 false vo, .int .i64 false ti, .rs z 0 1 0 12 0 xs.length c] 64), some (.rows false z shV xs 0 c 50), some (.rows false e.2 shV (xs) 0 e.1 50)]⟩), rfl, hob, hq, ⟨by simp [tmLe, svLe, vLe, lfLe, lfsLe, ifB, nmIs, idR], rfl⟩, fun _ => rfl, rfl, fun hn hz hlc hzl => ?_, fun r m' hr => hr, fun e he => h e he⟩
      subst hn
      refine by_nfG (nf_Voices z c xs vo ti) ?_
      clear h hob hq
      simp only [eq_self_iff_true, true_and, and_true, Int.toNat_natCast, implies_true, decide_eq_true_eq, decide_eq_false_iff_not, bne_iff_ne, bne_eq_false_iff_eq, ne_eq, Decidable.not_not, inR, klo, khi, Bool.not_eq_true', Bool.not_eq_false', beq_iff_eq, beq_eq_false_iff_ne, List.take_length, List.append_eq]
      exact ⟨hp, fun e he => ⟨e, he, ⟨rfl, rfl⟩, rfl, rfl⟩⟩
    · exact h.elim
  · exact h.elim
noncomputable def Δ_Voices : List (FuncId × MC) := (17, c_Voices) :: Δ_Time
theorem okD_Voices : ΔOk Try.prog Δ_Voices := ΔOk.cons s_Voices okD_Time

noncomputable def c_Sounding : MC := fun us m K => match us with
  | [s] => match obS [.int .i64, .int .i64] shV [] 64 50 m s with
    | some (q, y, x, z, n, c, xs, (vo, ti, ()), ()) => q ∧ (xs.length ≤ 64) ∧ (∀ e : Nat × Bool, (List.length (ldF xs vo ti) ≤ e.1 ∧ (e.2 = true → e.1 = 0)) → K (obR m y x (.v (.one (.rs e.2 0 2 0 12 0 (List.length (ldF xs vo ti)) e.1)))) (obM m y x [some (.cells [.int .i64 false vo, .int .i64 false ti, .rs z 0 1 0 12 0 xs.length c] 64), some (.rows false z shV xs 0 c 50), some (.rows false e.2 shV (ldF xs vo ti) 0 e.1 50)]))
    | none => False
  | _ => False
theorem nf_Sounding (z : Bool) (c : Nat) (xs : List (Row shV)) (vo : Int) (ti : Int) : goal ⟨Mx, Try.prog, Γ_reright, Δ_Voices, B0, none, false, [], none⟩ noL 400 Try.f20 [.v (.one (.ptr 0 0))] [some (.cells [.int .i64 false vo, .int .i64 false ti, .rs z 0 1 0 (List.length shV) 0 (List.length xs) c] 64), some (.rows false z shV xs 0 c 50)] (fun r m' => ∃ e : Nat × Bool, (List.length (ldF xs vo ti) ≤ e.1 ∧ (e.2 = true → e.1 = 0)) ∧ stLe 2 ⟨[r], m'⟩ ⟨[.v (.one (.rs e.2 0 2 0 12 0 (List.length (ldF xs vo ti)) e.1))], [some (.cells [.int .i64 false vo, .int .i64 false ti, .rs z 0 1 0 12 0 xs.length c] 64), some (.rows false z shV xs 0 c 50), some (.rows false e.2 shV (ldF xs vo ti) 0 e.1 50)]⟩) = ((xs.length = xs.length ∧ z = z ∧ (0 : Nat) = (0 : Nat)) ∧ xs.length ≤ (64 : Nat) ∧ ∀ (e : Nat × Bool), (ldF xs vo ti).length ≤ e.fst ∧ (e.snd = true → e.fst = (0 : Nat)) → ∃ (e_1 : Nat × Bool), ((ldF xs vo ti).length ≤ e_1.fst ∧ (e_1.snd = true → e_1.fst = (0 : Nat))) ∧ (((e.snd = e_1.snd ∧ (0 : Nat) = (0 : Nat) ∧ (0 : Nat) = (0 : Nat) ∧ (ldF xs vo ti).length = (ldF xs vo ti).length ∧ e.fst = e_1.fst) ∧ True) ∧ True) ∧ (vo = vo ∧ ti = ti ∧ (z = z ∧ (0 : Nat) = (0 : Nat) ∧ (0 : Nat) = (0 : Nat) ∧ xs.length = xs.length ∧ c = c) ∧ True) ∧ (z = z ∧ (0 : Nat) = (0 : Nat) ∧ c = c ∧ List.take xs.length xs = xs) ∧ (e.snd = e_1.snd ∧ (0 : Nat) = (0 : Nat) ∧ e.fst = e_1.fst ∧ List.take (ldF xs vo ti).length (ldF xs vo ti) = ldF xs vo ti) ∧ True) := by kernel_rfl
theorem s_Sounding : MSound Try.prog 20 c_Sounding := by
  refine osound (Ctx.ok_of2 (M := Mx) (N := []) mixedA ok_reright okD_Voices okB0) Try.func20 (by kernel_rfl) (by kernel_rfl) (fun us m K h => ?_)
  unfold c_Sounding at h
  split at h
  · rename_i s
    split at h
    · rename_i q y x z n c xs vo ti hob
      obtain ⟨hq, h⟩ := h
      obtain ⟨hp, h⟩ := h
      refine ⟨Nat × Bool, fun e => List.length (ldF xs vo ti) ≤ e.1 ∧ (e.2 = true → e.1 = 0), [.int .i64, .int .i64], shV, [], 64, 50, q, y, x, z, n, c, xs, (vo, ti, ()), (), [.int .i64 false vo, .int .i64 false ti, .rs z 0 1 0 (List.length shV) 0 n c], s, [], [], noL, 400, fun e => .v (.one (.rs e.2 0 2 0 12 0 (List.length (ldF xs vo ti)) e.1)), fun e => [some (.cells [.int .i64 false vo, .int .i64 false ti, .rs z 0 1 0 12 0 xs.length c] 64), some (.rows false z shV xs 0 c 50), some (.rows false e.2 shV (ldF xs vo ti) 0 e.1 50)], (fun r m' => ∃ e : Nat × Bool, (List.length (ldF xs vo ti) ≤ e.1 ∧ (e.2 = true → e.1 = 0)) ∧ stLe 2 ⟨[r], m'⟩ ⟨[.v (.one (.rs e.2 0 2 0 12 0 (List.length (ldF xs vo ti)) e.1))], [some (.cells [.int .i64 false vo, .int .i64 false ti, .rs z 0 1 0 12 0 xs.length c] 64), some (.rows false z shV xs 0 c 50), some (.rows false e.2 shV (ldF xs vo ti) 0 e.1 50)]⟩), rfl, hob, hq, ⟨by simp [tmLe, svLe, vLe, lfLe, lfsLe, ifB, nmIs, idR], rfl⟩, fun _ => rfl, rfl, fun hn hz hlc hzl => ?_, fun r m' hr => hr, fun e he => h e he⟩
      subst hn
      refine by_nfG (nf_Sounding z c xs vo ti) ?_
      clear h hob hq
      simp only [eq_self_iff_true, true_and, and_true, Int.toNat_natCast, implies_true, decide_eq_true_eq, decide_eq_false_iff_not, bne_iff_ne, bne_eq_false_iff_eq, ne_eq, Decidable.not_not, inR, klo, khi, Bool.not_eq_true', Bool.not_eq_false', beq_iff_eq, beq_eq_false_iff_ne, List.take_length, List.append_eq]
      exact ⟨hp, fun e he => ⟨e, he, ⟨rfl, rfl⟩, rfl, rfl⟩⟩
    · exact h.elim
  · exact h.elim
noncomputable def Δ_Sounding : List (FuncId × MC) := (20, c_Sounding) :: Δ_Voices
theorem okD_Sounding : ΔOk Try.prog Δ_Sounding := ΔOk.cons s_Sounding okD_Voices

noncomputable def c_Cancel : MC := fun us m K => match us with
  | [s, .v (.agg [.int .i64 _ fr, .int .i64 _ em, .int .i64 _ ki, .int .i64 _ od])] => match obS [.int .i64, .int .i64] shV [] 64 50 m s with
    | some (q, y, x, z, n, c, xs, (vo, ti, ()), ()) => q ∧ (xs.length ≤ 64) ∧ (∀ e : Unit, (True) → K (obR m y x (.v (.one (.int .i64 false (if fndV xs fr em ki od ti < 0 then 6 else 0))))) (obM m y x [some (.cells [.int .i64 false vo, .int .i64 false (ti), .rs z 0 1 0 12 0 (List.length (cancelL xs ti fr em ki od)) c] 64), some (.rows false z shV (cancelL xs ti fr em ki od) 0 c 50)]))
    | none => False
  | _ => False
theorem nf_Cancel (z : Bool) (c : Nat) (xs : List (Row shV)) (vo : Int) (ti : Int) (fr : Int) (em : Int) (ki : Int) (od : Int) : goal ⟨Mx, Try.prog, Γ_reright, Δ_Sounding, B0, none, false, [], none⟩ noL 400 Try.f15 [.v (.one (.ptr 0 0)), .v (.agg [.int .i64 false fr, .int .i64 false em, .int .i64 false ki, .int .i64 false od])] [some (.cells [.int .i64 false vo, .int .i64 false ti, .rs z 0 1 0 (List.length shV) 0 (List.length xs) c] 64), some (.rows false z shV xs 0 c 50)] (fun r m' => stLe 2 ⟨[r], m'⟩ ⟨[.v (.one (.int .i64 false (if fndV xs fr em ki od ti < 0 then 6 else 0)))], [some (.cells [.int .i64 false vo, .int .i64 false (ti), .rs z 0 1 0 12 0 (List.length (cancelL xs ti fr em ki od)) c] 64), some (.rows false z shV (cancelL xs ti fr em ki od) 0 c 50)]⟩) = ((xs.length = xs.length ∧ z = z ∧ c = c ∧ (z = true → c = (0 : Nat))) ∧ xs.length ≤ (64 : Nat) ∧ ∀ (e : Unit), True → (decide (fndV xs fr em ki od ti < (0 : Int)) = true → (((6 : Int) = if fndV xs fr em ki od ti < (0 : Int) then (6 : Int) else (0 : Int)) ∧ True) ∧ (vo = vo ∧ ti = ti ∧ (z = z ∧ (0 : Nat) = (0 : Nat) ∧ (0 : Nat) = (0 : Nat) ∧ xs.length = (cancelL xs ti fr em ki od).length ∧ c = c) ∧ True) ∧ (z = z ∧ (0 : Nat) = (0 : Nat) ∧ c = c ∧ List.take (cancelL xs ti fr em ki od).length xs = cancelL xs ti fr em ki od) ∧ True) ∧ (decide (fndV xs fr em ki od ti < (0 : Int)) = false → ((0 : Int) ≤ fndV xs fr em ki od ti ∧ fndV xs fr em ki od ti < (↑xs.length : Int)) ∧ (fndV xs fr em ki od ti).toNat < xs.length ∧ ((0 : Int) ≤ fndV xs fr em ki od ti ∧ fndV xs fr em ki od ti < (↑xs.length : Int)) ∧ (fndV xs fr em ki od ti).toNat < xs.length ∧ (((0 : Int) = if fndV xs fr em ki od ti < (0 : Int) then (6 : Int) else (0 : Int)) ∧ True) ∧ (vo = vo ∧ ti = ti ∧ (z = z ∧ (0 : Nat) = (0 : Nat) ∧ (0 : Nat) = (0 : Nat) ∧ xs.length = (cancelL xs ti fr em ki od).length ∧ c = c) ∧ True) ∧ (z = z ∧ (0 : Nat) = (0 : Nat) ∧ c = c ∧ List.take (cancelL xs ti fr em ki od).length (xs.set (fndV xs fr em ki od ti).toNat ((getR xs (fndV xs fr em ki od ti).toNat).fst, (getR xs (fndV xs fr em ki od ti).toNat).snd.fst, (getR xs (fndV xs fr em ki od ti).toNat).snd.snd.fst, (getR xs (fndV xs fr em ki od ti).toNat).snd.snd.snd.fst, (getR xs (fndV xs fr em ki od ti).toNat).snd.snd.snd.snd.fst, (getR xs (fndV xs fr em ki od ti).toNat).snd.snd.snd.snd.snd.fst, (getR xs (fndV xs fr em ki od ti).toNat).snd.snd.snd.snd.snd.snd.fst, (getR xs (fndV xs fr em ki od ti).toNat).snd.snd.snd.snd.snd.snd.snd.fst, (getR xs (fndV xs fr em ki od ti).toNat).snd.snd.snd.snd.snd.snd.snd.snd.fst, (getR xs (fndV xs fr em ki od ti).toNat).snd.snd.snd.snd.snd.snd.snd.snd.snd.fst, (getR xs (fndV xs fr em ki od ti).toNat).snd.snd.snd.snd.snd.snd.snd.snd.snd.snd.fst, cutF (getR xs (fndV xs fr em ki od ti).toNat).snd.snd.snd.snd.fst (getR xs (fndV xs fr em ki od ti).toNat).snd.snd.snd.snd.snd.fst (getR xs (fndV xs fr em ki od ti).toNat).snd.snd.snd.snd.snd.snd.fst (getR xs (fndV xs fr em ki od ti).toNat).snd.snd.snd.snd.snd.snd.snd.snd.fst (getR xs (fndV xs fr em ki od ti).toNat).snd.snd.snd.snd.snd.snd.snd.snd.snd.fst (getR xs (fndV xs fr em ki od ti).toNat).snd.snd.snd.snd.snd.snd.snd.snd.snd.snd.fst (getR xs (fndV xs fr em ki od ti).toNat).snd.snd.snd.snd.snd.snd.snd.snd.snd.snd.snd.fst ti, ())) = cancelL xs ti fr em ki od) ∧ True)) := by kernel_rfl
theorem s_Cancel : MSound Try.prog 15 c_Cancel := by
  refine osound (Ctx.ok_of2 (M := Mx) (N := []) mixedA ok_reright okD_Sounding okB0) Try.func15 (by kernel_rfl) (by kernel_rfl) (fun us m K h => ?_)
  unfold c_Cancel at h
  split at h
  · rename_i s k0_0 fr k0_1 em k0_2 ki k0_3 od
    split at h
    · rename_i q y x z n c xs vo ti hob
      obtain ⟨hq, h⟩ := h
      obtain ⟨hp, h⟩ := h
      refine ⟨Unit, fun _ => True, [.int .i64, .int .i64], shV, [], 64, 50, q, y, x, z, n, c, xs, (vo, ti, ()), (), [.int .i64 false vo, .int .i64 false ti, .rs z 0 1 0 (List.length shV) 0 n c], s, [.v (.agg [.int .i64 k0_0 fr, .int .i64 k0_1 em, .int .i64 k0_2 ki, .int .i64 k0_3 od])], [.v (.agg [.int .i64 false fr, .int .i64 false em, .int .i64 false ki, .int .i64 false od])], noL, 400, fun _ => .v (.one (.int .i64 false (if fndV xs fr em ki od ti < 0 then 6 else 0))), fun _ => [some (.cells [.int .i64 false vo, .int .i64 false (ti), .rs z 0 1 0 12 0 (List.length (cancelL xs ti fr em ki od)) c] 64), some (.rows false z shV (cancelL xs ti fr em ki od) 0 c 50)], (fun r m' => stLe 2 ⟨[r], m'⟩ ⟨[.v (.one (.int .i64 false (if fndV xs fr em ki od ti < 0 then 6 else 0)))], [some (.cells [.int .i64 false vo, .int .i64 false (ti), .rs z 0 1 0 12 0 (List.length (cancelL xs ti fr em ki od)) c] 64), some (.rows false z shV (cancelL xs ti fr em ki od) 0 c 50)]⟩), rfl, hob, hq, ⟨by simp [tmLe, svLe, vLe, lfLe, lfsLe, ifB, nmIs, idR], rfl⟩, fun _ => rfl, rfl, fun hn hz hlc hzl => ?_, fun r m' hr => ⟨(), trivial, hr⟩, fun e he => h e he⟩
      subst hn
      refine by_nfG (nf_Cancel z c xs vo ti fr em ki od) ?_
      clear h hob hq
      simp only [eq_self_iff_true, true_and, and_true, Int.toNat_natCast, implies_true, decide_eq_true_eq, decide_eq_false_iff_not, bne_iff_ne, bne_eq_false_iff_eq, ne_eq, Decidable.not_not, inR, klo, khi, Bool.not_eq_true', Bool.not_eq_false', beq_iff_eq, beq_eq_false_iff_ne, List.take_length, List.append_eq]
      refine ⟨hz, hp, fun _ _ => ⟨fun h => ?_, fun h => ?_⟩⟩
      · have e : cancelL xs ti fr em ki od = xs := by unfold cancelL; rw [if_pos h]
        rw [e, if_pos h]
        exact ⟨rfl, rfl, List.take_length⟩
      · obtain ⟨i, hi, hlt⟩ := fnd_nat xs fr em ki od ti h
        have e : cancelL xs ti fr em ki od = xs.set i (cutV ti (getR xs i)) := by unfold cancelL; rw [if_neg h, hi, Int.toNat_natCast]
        have l := cancelL_len xs ti fr em ki od
        rw [if_neg h]
        rw [hi, Int.toNat_natCast]
        refine ⟨by omega, by omega, by omega, by omega, rfl, l.symm, ?_⟩
        rw [e]
        exact take_self rfl
    · exact h.elim
  · exact h.elim
noncomputable def Δ_Cancel : List (FuncId × MC) := (15, c_Cancel) :: Δ_Sounding
theorem okD_Cancel : ΔOk Try.prog Δ_Cancel := ΔOk.cons s_Cancel okD_Sounding

noncomputable def c_Turn : MC := fun us m K => match us with
  | [s, .v (.agg [.int .i64 _ fr, .int .i64 _ em, .int .i64 _ ki, .int .i64 _ od, .int .i64 _ ass, .int .i64 _ gn, .int .i64 _ pn, .int .i64 _ pr, .int .i64 _ ln])] => match obS [.int .i64, .int .i64] shV [] 64 50 m s with
    | some (q, y, x, z, n, c, xs, (vo, ti, ()), ()) => q ∧ (xs.length ≤ 64) ∧ (∀ e : Unit, (True) → K (obR m y x (.v (.one (.int .i64 false (turnE xs ti fr em ki od ass gn pn pr ln))))) (obM m y x [some (.cells [.int .i64 false vo, .int .i64 false (ti), .rs z 0 1 0 12 0 (List.length (turnL xs ti fr em ki od ass gn pn pr ln)) c] 64), some (.rows false z shV (turnL xs ti fr em ki od ass gn pn pr ln) 0 c 50)]))
    | none => False
  | _ => False
theorem nf_Turn (z : Bool) (c : Nat) (xs : List (Row shV)) (vo : Int) (ti : Int) (fr : Int) (em : Int) (ki : Int) (od : Int) (ass : Int) (gn : Int) (pn : Int) (pr : Int) (ln : Int) : goal ⟨Mx, Try.prog, Γ_reright, Δ_Cancel, B0, none, false, [], none⟩ noL 400 Try.f14 [.v (.one (.ptr 0 0)), .v (.agg [.int .i64 false fr, .int .i64 false em, .int .i64 false ki, .int .i64 false od, .int .i64 false ass, .int .i64 false gn, .int .i64 false pn, .int .i64 false pr, .int .i64 false ln])] [some (.cells [.int .i64 false vo, .int .i64 false ti, .rs z 0 1 0 (List.length shV) 0 (List.length xs) c] 64), some (.rows false z shV xs 0 c 50)] (fun r m' => stLe 2 ⟨[r], m'⟩ ⟨[.v (.one (.int .i64 false (turnE xs ti fr em ki od ass gn pn pr ln)))], [some (.cells [.int .i64 false vo, .int .i64 false (ti), .rs z 0 1 0 12 0 (List.length (turnL xs ti fr em ki od ass gn pn pr ln)) c] 64), some (.rows false z shV (turnL xs ti fr em ki od ass gn pn pr ln) 0 c 50)]⟩) = (((!rightE fr em ki od ass gn pn pr ln) = true → ((1 : Int) = turnE xs ti fr em ki od ass gn pn pr ln ∧ True) ∧ (vo = vo ∧ ti = ti ∧ (z = z ∧ (0 : Nat) = (0 : Nat) ∧ (0 : Nat) = (0 : Nat) ∧ xs.length = (turnL xs ti fr em ki od ass gn pn pr ln).length ∧ c = c) ∧ True) ∧ (z = z ∧ (0 : Nat) = (0 : Nat) ∧ c = c ∧ List.take (turnL xs ti fr em ki od ass gn pn pr ln).length xs = turnL xs ti fr em ki od ass gn pn pr ln) ∧ True) ∧ ((!rightE fr em ki od ass gn pn pr ln) = false → (xs.length = xs.length ∧ z = z ∧ c = c ∧ (z = true → c = (0 : Nat))) ∧ xs.length ≤ (64 : Nat) ∧ ∀ (e : Unit), True → (decide (fndV xs fr em ki od ti < (0 : Int)) = true → decide (fndV xs fr em ki od ti < (0 : Int)) = true ∧ ((6 : Int) = turnE xs ti fr em ki od ass gn pn pr ln ∧ True) ∧ (vo = vo ∧ ti = ti ∧ (z = z ∧ (0 : Nat) = (0 : Nat) ∧ (0 : Nat) = (0 : Nat) ∧ xs.length = (turnL xs ti fr em ki od ass gn pn pr ln).length ∧ c = c) ∧ True) ∧ (z = z ∧ (0 : Nat) = (0 : Nat) ∧ c = c ∧ List.take (turnL xs ti fr em ki od ass gn pn pr ln).length xs = turnL xs ti fr em ki od ass gn pn pr ln) ∧ True) ∧ (decide (fndV xs fr em ki od ti < (0 : Int)) = false → (((getR xs (fndV xs fr em ki od ti).toNat).snd.snd.snd.snd.fst != ass) = true → decide (fndV xs fr em ki od ti < (0 : Int)) = false ∧ ((0 : Int) ≤ fndV xs fr em ki od ti ∧ fndV xs fr em ki od ti < (↑xs.length : Int)) ∧ (fndV xs fr em ki od ti).toNat < xs.length ∧ ((getR xs (fndV xs fr em ki od ti).toNat).snd.snd.snd.snd.fst != ass) = true ∧ ((6 : Int) = turnE xs ti fr em ki od ass gn pn pr ln ∧ True) ∧ (vo = vo ∧ ti = ti ∧ (z = z ∧ (0 : Nat) = (0 : Nat) ∧ (0 : Nat) = (0 : Nat) ∧ xs.length = (turnL xs ti fr em ki od ass gn pn pr ln).length ∧ c = c) ∧ True) ∧ (z = z ∧ (0 : Nat) = (0 : Nat) ∧ c = c ∧ List.take (turnL xs ti fr em ki od ass gn pn pr ln).length xs = turnL xs ti fr em ki od ass gn pn pr ln) ∧ True) ∧ (((getR xs (fndV xs fr em ki od ti).toNat).snd.snd.snd.snd.fst != ass) = false → decide (fndV xs fr em ki od ti < (0 : Int)) = false ∧ ((0 : Int) ≤ fndV xs fr em ki od ti ∧ fndV xs fr em ki od ti < (↑xs.length : Int)) ∧ (fndV xs fr em ki od ti).toNat < xs.length ∧ ((getR xs (fndV xs fr em ki od ti).toNat).snd.snd.snd.snd.fst != ass) = false ∧ ((0 : Int) ≤ fndV xs fr em ki od ti ∧ fndV xs fr em ki od ti < (↑xs.length : Int)) ∧ (fndV xs fr em ki od ti).toNat < xs.length ∧ (((getR xs (fndV xs fr em ki od ti).toNat).snd.snd.snd.snd.snd.snd.snd.snd.fst != ln) = true → ((6 : Int) = turnE xs ti fr em ki od ass gn pn pr ln ∧ True) ∧ (vo = vo ∧ ti = ti ∧ (z = z ∧ (0 : Nat) = (0 : Nat) ∧ (0 : Nat) = (0 : Nat) ∧ xs.length = (turnL xs ti fr em ki od ass gn pn pr ln).length ∧ c = c) ∧ True) ∧ (z = z ∧ (0 : Nat) = (0 : Nat) ∧ c = c ∧ List.take (turnL xs ti fr em ki od ass gn pn pr ln).length xs = turnL xs ti fr em ki od ass gn pn pr ln) ∧ True) ∧ (((getR xs (fndV xs fr em ki od ti).toNat).snd.snd.snd.snd.snd.snd.snd.snd.fst != ln) = false → ((0 : Int) ≤ fndV xs fr em ki od ti ∧ fndV xs fr em ki od ti < (↑xs.length : Int)) ∧ (fndV xs fr em ki od ti).toNat < xs.length ∧ ((0 : Int) = turnE xs ti fr em ki od ass gn pn pr ln ∧ True) ∧ (vo = vo ∧ ti = ti ∧ (z = z ∧ (0 : Nat) = (0 : Nat) ∧ (0 : Nat) = (0 : Nat) ∧ xs.length = (turnL xs ti fr em ki od ass gn pn pr ln).length ∧ c = c) ∧ True) ∧ (z = z ∧ (0 : Nat) = (0 : Nat) ∧ c = c ∧ List.take (turnL xs ti fr em ki od ass gn pn pr ln).length (xs.set (fndV xs fr em ki od ti).toNat (fr, em, ki, od, ass, gn, pn, pr, ln, (getR xs (fndV xs fr em ki od ti).toNat).snd.snd.snd.snd.snd.snd.snd.snd.snd.fst, (getR xs (fndV xs fr em ki od ti).toNat).snd.snd.snd.snd.snd.snd.snd.snd.snd.snd.fst, (getR xs (fndV xs fr em ki od ti).toNat).snd.snd.snd.snd.snd.snd.snd.snd.snd.snd.snd.fst, ())) = turnL xs ti fr em ki od ass gn pn pr ln) ∧ True))))) := by kernel_rfl
theorem s_Turn : MSound Try.prog 14 c_Turn := by
  refine osound (Ctx.ok_of2 (M := Mx) (N := []) mixedA ok_reright okD_Cancel okB0) Try.func14 (by kernel_rfl) (by kernel_rfl) (fun us m K h => ?_)
  unfold c_Turn at h
  split at h
  · rename_i s k0_0 fr k0_1 em k0_2 ki k0_3 od k0_4 ass k0_5 gn k0_6 pn k0_7 pr k0_8 ln
    split at h
    · rename_i q y x z n c xs vo ti hob
      obtain ⟨hq, h⟩ := h
      obtain ⟨hp, h⟩ := h
      refine ⟨Unit, fun _ => True, [.int .i64, .int .i64], shV, [], 64, 50, q, y, x, z, n, c, xs, (vo, ti, ()), (), [.int .i64 false vo, .int .i64 false ti, .rs z 0 1 0 (List.length shV) 0 n c], s, [.v (.agg [.int .i64 k0_0 fr, .int .i64 k0_1 em, .int .i64 k0_2 ki, .int .i64 k0_3 od, .int .i64 k0_4 ass, .int .i64 k0_5 gn, .int .i64 k0_6 pn, .int .i64 k0_7 pr, .int .i64 k0_8 ln])], [.v (.agg [.int .i64 false fr, .int .i64 false em, .int .i64 false ki, .int .i64 false od, .int .i64 false ass, .int .i64 false gn, .int .i64 false pn, .int .i64 false pr, .int .i64 false ln])], noL, 400, fun _ => .v (.one (.int .i64 false (turnE xs ti fr em ki od ass gn pn pr ln))), fun _ => [some (.cells [.int .i64 false vo, .int .i64 false (ti), .rs z 0 1 0 12 0 (List.length (turnL xs ti fr em ki od ass gn pn pr ln)) c] 64), some (.rows false z shV (turnL xs ti fr em ki od ass gn pn pr ln) 0 c 50)], (fun r m' => stLe 2 ⟨[r], m'⟩ ⟨[.v (.one (.int .i64 false (turnE xs ti fr em ki od ass gn pn pr ln)))], [some (.cells [.int .i64 false vo, .int .i64 false (ti), .rs z 0 1 0 12 0 (List.length (turnL xs ti fr em ki od ass gn pn pr ln)) c] 64), some (.rows false z shV (turnL xs ti fr em ki od ass gn pn pr ln) 0 c 50)]⟩), rfl, hob, hq, ⟨by simp [tmLe, svLe, vLe, lfLe, lfsLe, ifB, nmIs, idR], rfl⟩, fun _ => rfl, rfl, fun hn hz hlc hzl => ?_, fun r m' hr => ⟨(), trivial, hr⟩, fun e he => h e he⟩
      subst hn
      refine by_nfG (nf_Turn z c xs vo ti fr em ki od ass gn pn pr ln) ?_
      clear h hob hq
      simp only [eq_self_iff_true, true_and, and_true, Int.toNat_natCast, implies_true, decide_eq_true_eq, decide_eq_false_iff_not, bne_iff_ne, bne_eq_false_iff_eq, ne_eq, Decidable.not_not, inR, klo, khi, Bool.not_eq_true', Bool.not_eq_false', beq_iff_eq, beq_eq_false_iff_ne, List.take_length, List.append_eq]
      have keep : turnE xs ti fr em ki od ass gn pn pr ln ≠ 0 → xs.length = (turnL xs ti fr em ki od ass gn pn pr ln).length ∧ List.take (turnL xs ti fr em ki od ass gn pn pr ln).length xs = turnL xs ti fr em ki od ass gn pn pr ln := by
        intro h
        have e : turnL xs ti fr em ki od ass gn pn pr ln = xs := by unfold turnL; rw [if_neg h]
        rw [e]
        exact ⟨rfl, List.take_length⟩
      refine ⟨fun hr => ?_, fun hr => ⟨hz, hp, fun _ _ => ⟨fun h => ⟨h, ?_⟩, fun h => ⟨fun ha => ?_, fun ha => ?_⟩⟩⟩⟩
      · have e : turnE xs ti fr em ki od ass gn pn pr ln = 1 := by unfold turnE; rw [if_pos hr]
        exact ⟨e.symm, keep (by rw [e]; decide)⟩
      · have e : turnE xs ti fr em ki od ass gn pn pr ln = 6 := by unfold turnE; rw [if_neg (by rw [hr]; simp), if_pos (.inl h)]
        exact ⟨e.symm, keep (by rw [e]; decide)⟩
      all_goals obtain ⟨i, hi, hlt⟩ := fnd_nat xs fr em ki od ti h
      all_goals have hn : (fndV xs fr em ki od ti).toNat = i := by omega
      · have e : turnE xs ti fr em ki od ass gn pn pr ln = 6 := by unfold turnE; rw [if_neg (by rw [hr]; simp), if_pos (.inr (.inl ha))]
        exact ⟨h, by omega, by omega, ha, e.symm, keep (by rw [e]; decide)⟩
      · refine ⟨h, by omega, by omega, ha, by omega, by omega, fun hl => ?_, fun hl => ?_⟩
        · have e : turnE xs ti fr em ki od ass gn pn pr ln = 6 := by unfold turnE; rw [if_neg (by rw [hr]; simp), if_pos (.inr (.inr hl))]
          exact ⟨e.symm, keep (by rw [e]; decide)⟩
        · have e : turnE xs ti fr em ki od ass gn pn pr ln = 0 := by
            unfold turnE
            rw [if_neg (by rw [hr]; simp), if_neg]
            rintro (k | k | k)
            · exact h k
            · exact k ha
            · exact k hl
          refine ⟨by omega, by omega, e.symm, (turnL_len ..).symm, take_self ?_⟩
          unfold turnL
          rw [if_pos e]
          rfl
    · exact h.elim
  · exact h.elim
noncomputable def Δ_Turn : List (FuncId × MC) := (14, c_Turn) :: Δ_Cancel
theorem okD_Turn : ΔOk Try.prog Δ_Turn := ΔOk.cons s_Turn okD_Cancel

end Go.Proofs.Ytljnddhldjaglaa
