/- VOICES, AND THE DOCUMENT'S: which may be, how long they are, whether they sound. Conditions: the contracts' own. Own work; the normal forms were printed by a program of mine (wip/rex). -/
import Derived.Test.YtljnddhldjaglaaR0
namespace Go.Proofs.Ytljnddhldjaglaa
open Go.RowKit Rex
set_option linter.unusedVariables false
set_option linter.unusedSimpArgs false
set_option maxRecDepth 100000


def withinB (n l m : Int) : Bool := decide (l ≤ n) && decide (n ≤ m)
theorem within_iff {n l m : Int} : withinB n l m = true ↔ l ≤ n ∧ n ≤ m := by unfold withinB; simp
/-- may a voice be? -/
def rightB (at_ gn pn ln bo lt cu : Int) : Bool := withinB at_ 1 9 && (withinB gn 0 32768 && (withinB pn (-32768) 32768 && (withinB ln 0 600 && (withinB bo 0 1099511627776 && (withinB lt 0 1099511627776 && (cu == -1 || withinB cu bo 1099511627776))))))
def durF (at_ ln : Int) : Int := if 0 < ln then ln * 32 else 48 * at_
/-- the first sample at which a voice that may be is over -/
def endF (at_ ln bo lt cu : Int) : Int := if cu = -1 then bo + max (durF at_ ln - lt) 0 else min (bo + max (durF at_ ln - lt) 0) (cu + 64)
def atB (at_ gn pn ln bo lt cu t : Int) : Bool := rightB at_ gn pn ln bo lt cu && withinB t 0 2199023255552
def overB (at_ gn pn ln bo lt cu t : Int) : Bool := atB at_ gn pn ln bo lt cu t && (decide (bo ≤ t) && decide (endF at_ ln bo lt cu ≤ t))
def soundsB (at_ gn pn ln bo lt cu t : Int) : Bool := atB at_ gn pn ln bo lt cu t && (decide (bo ≤ t) && decide (t < endF at_ ln bo lt cu))
/-- the sample from which a voice is cut, behind 'cut at t' -/
def cutF (at_ gn pn ln bo lt cu t : Int) : Int := if rightB at_ gn pn ln bo lt cu = true ∧ cu = -1 ∧ t ≤ 1099511627776 then max t bo else cu
def envF (at_ gn pn ln bo lt cu t : Int) : Int := if atB at_ gn pn ln bo lt cu t = true then (if cu = -1 ∨ t < cu then 32768 else 32768 * max (64 - (t - cu)) 0 / 64) else 0
theorem right_facts {at_ gn pn ln bo lt cu : Int} : rightB at_ gn pn ln bo lt cu = true ↔ (1 ≤ at_ ∧ at_ ≤ 9) ∧ (0 ≤ gn ∧ gn ≤ 32768) ∧ (-32768 ≤ pn ∧ pn ≤ 32768) ∧ (0 ≤ ln ∧ ln ≤ 600) ∧ (0 ≤ bo ∧ bo ≤ 1099511627776) ∧ (0 ≤ lt ∧ lt ≤ 1099511627776) ∧ (cu = -1 ∨ (bo ≤ cu ∧ cu ≤ 1099511627776)) := by
  unfold rightB; simp only [Bool.and_eq_true, Bool.or_eq_true, within_iff, beq_iff_eq]
theorem at_facts {at_ gn pn ln bo lt cu t : Int} : atB at_ gn pn ln bo lt cu t = true ↔ rightB at_ gn pn ln bo lt cu = true ∧ 0 ≤ t ∧ t ≤ 2199023255552 := by
  unfold atB; simp only [Bool.and_eq_true, within_iff]
theorem durF_bd {at_ ln : Int} (h : 1 ≤ at_ ∧ at_ ≤ 9) (k : 0 ≤ ln ∧ ln ≤ 600) : 1 ≤ durF at_ ln ∧ durF at_ ln ≤ 19200 := by unfold durF; split <;> omega


noncomputable def c_within : FC := fun us => match us with
  | [.v (.one (.int .i64 _ n)), .v (.one (.int .i64 _ l)), .v (.one (.int .i64 _ m))] => some (none, .v (.one (.bool false (withinB n l m))))
  | _ => none
theorem nf_within (n : Int) (l : Int) (m : Int) : goal ⟨Mx, Try.prog, Γ0, Δ0, B0, none, false, [], none⟩ noL 400 Try.f77 [.v (.one (.int .i64 false n)), .v (.one (.int .i64 false l)), .v (.one (.int .i64 false m))] [] (fun r _ => svLe idR r (.v (.one (.bool false (withinB n l m))))) = ((decide (l ≤ n) = true → decide (n ≤ m) = withinB n l m) ∧ (decide (l ≤ n) = false → false = withinB n l m)) := by kernel_rfl
theorem s_within : FSound Try.prog 77 c_within := by
  refine fsound_of (Ctx.ok_of2 (M := Mx) (N := []) mixedA ok0 okD0 okB0) Try.func77 (by kernel_rfl) (by kernel_rfl) ?_
  intro us p v h hp
  unfold c_within at h
  split at h
  · rename_i k0 n k1 l k2 m
    cases h
    refine ⟨rfl, noL, 400, [.v (.one (.int .i64 false n)), .v (.one (.int .i64 false l)), .v (.one (.int .i64 false m))], by simp [tmLe, svLe, vLe, lfLe, lfsLe, ifB, nmIs, idR], rfl, ?_⟩
    rw [nf_within]
    clear hp
    (repeat' (first | (refine And.intro ?_ ?_) | intro _))
    all_goals (try (refine Bool.eq_iff_iff.2 ?_))
    all_goals (try simp only [decide_eq_true_eq, decide_eq_false_iff_not, beq_iff_eq, beq_eq_false_iff_ne, bne_iff_ne, bne_eq_false_iff_eq, ne_eq, Bool.not_eq_true', Bool.not_eq_false', ← Bool.not_eq_true, Bool.true_eq_false, Bool.false_eq_true, Bool.and_eq_true, Bool.or_eq_true, false_iff, iff_false, true_iff, iff_true, not_true_eq_false, not_false_eq_true, and_true, true_and, inR, klo, khi, within_iff] at *)
    all_goals (repeat' split)
    all_goals omega
  · cases h
noncomputable def Γ_within : List (FuncId × FX) := (77, c_within) :: Γ0
theorem ok_within : ΓOk Try.prog Γ_within := ΓOk.cons (c := .pure c_within) s_within ok0

noncomputable def c_there : FC := fun us => match us with
  | [.v (.one (.int .i64 _ n))] => some (none, .v (.one (.bool false (withinB n 1 9))))
  | _ => none
theorem nf_there (n : Int) : goal ⟨Mx, Try.prog, Γ_within, Δ0, B0, none, false, [], none⟩ noL 400 Try.f58 [.v (.one (.int .i64 false n))] [] (fun r _ => svLe idR r (.v (.one (.bool false (withinB n 1 9))))) = ((decide ((1 : Int) ≤ n) = true → decide (n ≤ (9 : Int)) = withinB n (1 : Int) (9 : Int)) ∧ (decide ((1 : Int) ≤ n) = false → false = withinB n (1 : Int) (9 : Int))) := by kernel_rfl
theorem s_there : FSound Try.prog 58 c_there := by
  refine fsound_of (Ctx.ok_of2 (M := Mx) (N := []) mixedA ok_within okD0 okB0) Try.func58 (by kernel_rfl) (by kernel_rfl) ?_
  intro us p v h hp
  unfold c_there at h
  split at h
  · rename_i k0 n
    cases h
    refine ⟨rfl, noL, 400, [.v (.one (.int .i64 false n))], by simp [tmLe, svLe, vLe, lfLe, lfsLe, ifB, nmIs, idR], rfl, ?_⟩
    rw [nf_there]
    clear hp
    (repeat' (first | (refine And.intro ?_ ?_) | intro _))
    all_goals (try (refine Bool.eq_iff_iff.2 ?_))
    all_goals (try simp only [decide_eq_true_eq, decide_eq_false_iff_not, beq_iff_eq, beq_eq_false_iff_ne, bne_iff_ne, bne_eq_false_iff_eq, ne_eq, Bool.not_eq_true', Bool.not_eq_false', ← Bool.not_eq_true, Bool.true_eq_false, Bool.false_eq_true, Bool.and_eq_true, Bool.or_eq_true, false_iff, iff_false, true_iff, iff_true, not_true_eq_false, not_false_eq_true, and_true, true_and, inR, klo, khi, within_iff] at *)
    all_goals (repeat' split)
    all_goals omega
  · cases h
noncomputable def Γ_there : List (FuncId × FX) := (58, c_there) :: Γ_within
theorem ok_there : ΓOk Try.prog Γ_there := ΓOk.cons (c := .pure c_there) s_there ok_within

noncomputable def c_blen : FC := fun us => match us with
  | [.v (.one (.int .i64 _ n))] => some (none, .tup [.one (.int .i64 false (if withinB n 1 9 = true then 48 * n else 0)), .one (.int .i64 false (if withinB n 1 9 = true then 0 else 14))])
  | _ => none
theorem nf_blen (n : Int) : goal ⟨Mx, Try.prog, Γ_there, Δ0, B0, none, false, [], none⟩ noL 400 Try.f30 [.v (.one (.int .i64 false n))] [] (fun r _ => svLe idR r (.tup [.one (.int .i64 false (if withinB n 1 9 = true then 48 * n else 0)), .one (.int .i64 false (if withinB n 1 9 = true then 0 else 14))])) = (((!withinB n (1 : Int) (9 : Int)) = true → ((0 : Int) = if withinB n (1 : Int) (9 : Int) = true then (48 : Int) * n else (0 : Int)) ∧ (14 : Int) = if withinB n (1 : Int) (9 : Int) = true then (0 : Int) else (14 : Int)) ∧ ((!withinB n (1 : Int) (9 : Int)) = false → inR IntKind.i64 ((48 : Int) * n) ∧ ((48 : Int) * n = if withinB n (1 : Int) (9 : Int) = true then (48 : Int) * n else (0 : Int)) ∧ (0 : Int) = if withinB n (1 : Int) (9 : Int) = true then (0 : Int) else (14 : Int))) := by kernel_rfl
theorem s_blen : FSound Try.prog 30 c_blen := by
  refine fsound_of (Ctx.ok_of2 (M := Mx) (N := []) mixedA ok_there okD0 okB0) Try.func30 (by kernel_rfl) (by kernel_rfl) ?_
  intro us p v h hp
  unfold c_blen at h
  split at h
  · rename_i k0 n
    cases h
    refine ⟨rfl, noL, 400, [.v (.one (.int .i64 false n))], by simp [tmLe, svLe, vLe, lfLe, lfsLe, ifB, nmIs, idR], rfl, ?_⟩
    rw [nf_blen]
    clear hp
    cases h : withinB n 1 9
    · simp
    · have := within_iff.1 h
      simp [inR, klo, khi]; omega
  · cases h
noncomputable def Γ_blen : List (FuncId × FX) := (30, c_blen) :: Γ_there
theorem ok_blen : ΓOk Try.prog Γ_blen := ΓOk.cons (c := .pure c_blen) s_blen ok_there

noncomputable def c_vright : FC := fun us => match us with
  | [.v (.agg [.int .i64 _ fr, .int .i64 _ em, .int .i64 _ ki, .int .i64 _ od, .int .i64 _ at_, .int .i64 _ gn, .int .i64 _ pn, .int .i64 _ pr, .int .i64 _ ln, .int .i64 _ bo, .int .i64 _ lt, .int .i64 _ cu])] => some (none, .v (.one (.bool false (rightB at_ gn pn ln bo lt cu))))
  | _ => none
theorem nf_vright (fr : Int) (em : Int) (ki : Int) (od : Int) (at_ : Int) (gn : Int) (pn : Int) (pr : Int) (ln : Int) (bo : Int) (lt : Int) (cu : Int) : goal ⟨Mx, Try.prog, Γ_blen, Δ0, B0, none, false, [], none⟩ noL 400 Try.f63 [.v (.agg [.int .i64 false fr, .int .i64 false em, .int .i64 false ki, .int .i64 false od, .int .i64 false at_, .int .i64 false gn, .int .i64 false pn, .int .i64 false pr, .int .i64 false ln, .int .i64 false bo, .int .i64 false lt, .int .i64 false cu])] [] (fun r _ => svLe idR r (.v (.one (.bool false (rightB at_ gn pn ln bo lt cu))))) = ((((if withinB at_ (1 : Int) (9 : Int) = true then (0 : Int) else (14 : Int)) == (0 : Int)) = true → (withinB gn (0 : Int) (32768 : Int) = true → (withinB pn (-32768 : Int) (32768 : Int) = true → (withinB ln (0 : Int) (600 : Int) = true → (withinB bo (0 : Int) (1099511627776 : Int) = true → (withinB lt (0 : Int) (1099511627776 : Int) = true → ((cu == (-1 : Int)) = false → withinB cu bo (1099511627776 : Int) = rightB at_ gn pn ln bo lt cu) ∧ ((cu == (-1 : Int)) = true → true = rightB at_ gn pn ln bo lt cu)) ∧ (withinB lt (0 : Int) (1099511627776 : Int) = false → false = rightB at_ gn pn ln bo lt cu)) ∧ (withinB bo (0 : Int) (1099511627776 : Int) = false → false = rightB at_ gn pn ln bo lt cu)) ∧ (withinB ln (0 : Int) (600 : Int) = false → false = rightB at_ gn pn ln bo lt cu)) ∧ (withinB pn (-32768 : Int) (32768 : Int) = false → false = rightB at_ gn pn ln bo lt cu)) ∧ (withinB gn (0 : Int) (32768 : Int) = false → false = rightB at_ gn pn ln bo lt cu)) ∧ (((if withinB at_ (1 : Int) (9 : Int) = true then (0 : Int) else (14 : Int)) == (0 : Int)) = false → false = rightB at_ gn pn ln bo lt cu)) := by kernel_rfl
theorem s_vright : FSound Try.prog 63 c_vright := by
  refine fsound_of (Ctx.ok_of2 (M := Mx) (N := []) mixedA ok_blen okD0 okB0) Try.func63 (by kernel_rfl) (by kernel_rfl) ?_
  intro us p v h hp
  unfold c_vright at h
  split at h
  · rename_i k0 fr k1 em k2 ki k3 od k4 at_ k5 gn k6 pn k7 pr k8 ln k9 bo k10 lt k11 cu
    cases h
    refine ⟨rfl, noL, 400, [.v (.agg [.int .i64 false fr, .int .i64 false em, .int .i64 false ki, .int .i64 false od, .int .i64 false at_, .int .i64 false gn, .int .i64 false pn, .int .i64 false pr, .int .i64 false ln, .int .i64 false bo, .int .i64 false lt, .int .i64 false cu])], by simp [tmLe, svLe, vLe, lfLe, lfsLe, ifB, nmIs, idR], rfl, ?_⟩
    rw [nf_vright]
    clear hp
    cases h : withinB at_ 1 9 <;> simp +contextual [rightB, h]
  · cases h
noncomputable def Γ_vright : List (FuncId × FX) := (63, c_vright) :: Γ_blen
theorem ok_vright : ΓOk Try.prog Γ_vright := ΓOk.cons (c := .pure c_vright) s_vright ok_blen

noncomputable def c_vat : FC := fun us => match us with
  | [.v (.agg [.int .i64 _ fr, .int .i64 _ em, .int .i64 _ ki, .int .i64 _ od, .int .i64 _ at_, .int .i64 _ gn, .int .i64 _ pn, .int .i64 _ pr, .int .i64 _ ln, .int .i64 _ bo, .int .i64 _ lt, .int .i64 _ cu]), .v (.one (.int .i64 _ t))] => some (none, .v (.one (.bool false (atB at_ gn pn ln bo lt cu t))))
  | _ => none
theorem nf_vat (fr : Int) (em : Int) (ki : Int) (od : Int) (at_ : Int) (gn : Int) (pn : Int) (pr : Int) (ln : Int) (bo : Int) (lt : Int) (cu : Int) (t : Int) : goal ⟨Mx, Try.prog, Γ_vright, Δ0, B0, none, false, [], none⟩ noL 400 Try.f61 [.v (.agg [.int .i64 false fr, .int .i64 false em, .int .i64 false ki, .int .i64 false od, .int .i64 false at_, .int .i64 false gn, .int .i64 false pn, .int .i64 false pr, .int .i64 false ln, .int .i64 false bo, .int .i64 false lt, .int .i64 false cu]), .v (.one (.int .i64 false t))] [] (fun r _ => svLe idR r (.v (.one (.bool false (atB at_ gn pn ln bo lt cu t))))) = ((rightB at_ gn pn ln bo lt cu = true → withinB t (0 : Int) (2199023255552 : Int) = atB at_ gn pn ln bo lt cu t) ∧ (rightB at_ gn pn ln bo lt cu = false → false = atB at_ gn pn ln bo lt cu t)) := by kernel_rfl
theorem s_vat : FSound Try.prog 61 c_vat := by
  refine fsound_of (Ctx.ok_of2 (M := Mx) (N := []) mixedA ok_vright okD0 okB0) Try.func61 (by kernel_rfl) (by kernel_rfl) ?_
  intro us p v h hp
  unfold c_vat at h
  split at h
  · rename_i k0 fr k1 em k2 ki k3 od k4 at_ k5 gn k6 pn k7 pr k8 ln k9 bo k10 lt k11 cu k12 t
    cases h
    refine ⟨rfl, noL, 400, [.v (.agg [.int .i64 false fr, .int .i64 false em, .int .i64 false ki, .int .i64 false od, .int .i64 false at_, .int .i64 false gn, .int .i64 false pn, .int .i64 false pr, .int .i64 false ln, .int .i64 false bo, .int .i64 false lt, .int .i64 false cu]), .v (.one (.int .i64 false t))], by simp [tmLe, svLe, vLe, lfLe, lfsLe, ifB, nmIs, idR], rfl, ?_⟩
    rw [nf_vat]
    clear hp
    simp +contextual [atB]
  · cases h
noncomputable def Γ_vat : List (FuncId × FX) := (61, c_vat) :: Γ_vright
theorem ok_vat : ΓOk Try.prog Γ_vat := ΓOk.cons (c := .pure c_vat) s_vat ok_vright

noncomputable def c_vlength : FC := fun us => match us with
  | [.v (.agg [.int .i64 _ fr, .int .i64 _ em, .int .i64 _ ki, .int .i64 _ od, .int .i64 _ at_, .int .i64 _ gn, .int .i64 _ pn, .int .i64 _ pr, .int .i64 _ ln])] => some (some ((1 ≤ at_ ∧ at_ ≤ 9) ∧ (0 ≤ ln ∧ ln ≤ 600)), .v (.one (.int .i64 false (durF at_ ln))))
  | _ => none
theorem nf_vlength (fr : Int) (em : Int) (ki : Int) (od : Int) (at_ : Int) (gn : Int) (pn : Int) (pr : Int) (ln : Int) : goal ⟨Mx, Try.prog, Γ_vat, Δ0, B0, none, false, [], none⟩ noL 400 Try.f78 [.v (.agg [.int .i64 false fr, .int .i64 false em, .int .i64 false ki, .int .i64 false od, .int .i64 false at_, .int .i64 false gn, .int .i64 false pn, .int .i64 false pr, .int .i64 false ln])] [] (fun r _ => svLe idR r (.v (.one (.int .i64 false (durF at_ ln))))) = ((decide ((0 : Int) < ln) = true → inR IntKind.i64 (ln * (32 : Int)) ∧ ln * (32 : Int) = durF at_ ln) ∧ (decide ((0 : Int) < ln) = false → (if withinB at_ (1 : Int) (9 : Int) = true then (48 : Int) * at_ else (0 : Int)) = durF at_ ln)) := by kernel_rfl
theorem s_vlength : FSound Try.prog 78 c_vlength := by
  refine fsound_of (Ctx.ok_of2 (M := Mx) (N := []) mixedA ok_vat okD0 okB0) Try.func78 (by kernel_rfl) (by kernel_rfl) ?_
  intro us p v h hp
  unfold c_vlength at h
  split at h
  · rename_i k0 fr k1 em k2 ki k3 od k4 at_ k5 gn k6 pn k7 pr k8 ln
    cases h
    have hp : (1 ≤ at_ ∧ at_ ≤ 9) ∧ (0 ≤ ln ∧ ln ≤ 600) := hp
    refine ⟨rfl, noL, 400, [.v (.agg [.int .i64 false fr, .int .i64 false em, .int .i64 false ki, .int .i64 false od, .int .i64 false at_, .int .i64 false gn, .int .i64 false pn, .int .i64 false pr, .int .i64 false ln])], by simp [tmLe, svLe, vLe, lfLe, lfsLe, ifB, nmIs, idR], rfl, ?_⟩
    rw [nf_vlength]
    have h9 := within_iff.2 hp.1
    simp only [h9, if_true]
    (repeat' (first | (refine And.intro ?_ ?_) | intro _))
    all_goals (try (refine Bool.eq_iff_iff.2 ?_))
    all_goals (try simp only [decide_eq_true_eq, decide_eq_false_iff_not, beq_iff_eq, beq_eq_false_iff_ne, bne_iff_ne, bne_eq_false_iff_eq, ne_eq, Bool.not_eq_true', Bool.not_eq_false', ← Bool.not_eq_true, Bool.true_eq_false, Bool.false_eq_true, Bool.and_eq_true, Bool.or_eq_true, false_iff, iff_false, true_iff, iff_true, not_true_eq_false, not_false_eq_true, and_true, true_and, inR, klo, khi] at *)
    all_goals (try unfold durF)
    all_goals (repeat' split)
    all_goals omega
  · cases h
noncomputable def Γ_vlength : List (FuncId × FX) := (78, c_vlength) :: Γ_vat
theorem ok_vlength : ΓOk Try.prog Γ_vlength := ΓOk.cons (c := .pure c_vlength) s_vlength ok_vat

noncomputable def c_vends : FC := fun us => match us with
  | [.v (.agg [.int .i64 _ fr, .int .i64 _ em, .int .i64 _ ki, .int .i64 _ od, .int .i64 _ at_, .int .i64 _ gn, .int .i64 _ pn, .int .i64 _ pr, .int .i64 _ ln, .int .i64 _ bo, .int .i64 _ lt, .int .i64 _ cu])] => some (none, .v (.one (.int .i64 false (if rightB at_ gn pn ln bo lt cu = true then endF at_ ln bo lt cu else 0))))
  | _ => none
theorem nf_vends (fr : Int) (em : Int) (ki : Int) (od : Int) (at_ : Int) (gn : Int) (pn : Int) (pr : Int) (ln : Int) (bo : Int) (lt : Int) (cu : Int) : goal ⟨Mx, Try.prog, Γ_vlength, Δ0, B0, none, false, [], none⟩ noL 400 Try.f62 [.v (.agg [.int .i64 false fr, .int .i64 false em, .int .i64 false ki, .int .i64 false od, .int .i64 false at_, .int .i64 false gn, .int .i64 false pn, .int .i64 false pr, .int .i64 false ln, .int .i64 false bo, .int .i64 false lt, .int .i64 false cu])] [] (fun r _ => svLe idR r (.v (.one (.int .i64 false (if rightB at_ gn pn ln bo lt cu = true then endF at_ ln bo lt cu else 0))))) = (((!rightB at_ gn pn ln bo lt cu) = true → (0 : Int) = if rightB at_ gn pn ln bo lt cu = true then endF at_ ln bo lt cu else (0 : Int)) ∧ ((!rightB at_ gn pn ln bo lt cu) = false → (((1 : Int) ≤ at_ ∧ at_ ≤ (9 : Int)) ∧ (0 : Int) ≤ ln ∧ ln ≤ (600 : Int)) ∧ inR IntKind.i64 (durF at_ ln - lt) ∧ inR IntKind.i64 (bo + if durF at_ ln - lt < (0 : Int) then (0 : Int) else durF at_ ln - lt) ∧ ((cu != (-1 : Int)) = true → inR IntKind.i64 (cu + (64 : Int)) ∧ (if cu + (64 : Int) < bo + if durF at_ ln - lt < (0 : Int) then (0 : Int) else durF at_ ln - lt then cu + (64 : Int) else bo + if durF at_ ln - lt < (0 : Int) then (0 : Int) else durF at_ ln - lt) = if rightB at_ gn pn ln bo lt cu = true then endF at_ ln bo lt cu else (0 : Int)) ∧ ((cu != (-1 : Int)) = false → (bo + if durF at_ ln - lt < (0 : Int) then (0 : Int) else durF at_ ln - lt) = if rightB at_ gn pn ln bo lt cu = true then endF at_ ln bo lt cu else (0 : Int)))) := by kernel_rfl
theorem s_vends : FSound Try.prog 62 c_vends := by
  refine fsound_of (Ctx.ok_of2 (M := Mx) (N := []) mixedA ok_vlength okD0 okB0) Try.func62 (by kernel_rfl) (by kernel_rfl) ?_
  intro us p v h hp
  unfold c_vends at h
  split at h
  · rename_i k0 fr k1 em k2 ki k3 od k4 at_ k5 gn k6 pn k7 pr k8 ln k9 bo k10 lt k11 cu
    cases h
    refine ⟨rfl, noL, 400, [.v (.agg [.int .i64 false fr, .int .i64 false em, .int .i64 false ki, .int .i64 false od, .int .i64 false at_, .int .i64 false gn, .int .i64 false pn, .int .i64 false pr, .int .i64 false ln, .int .i64 false bo, .int .i64 false lt, .int .i64 false cu])], by simp [tmLe, svLe, vLe, lfLe, lfsLe, ifB, nmIs, idR], rfl, ?_⟩
    rw [nf_vends]
    clear hp
    cases h : rightB at_ gn pn ln bo lt cu
    · simp
    · obtain ⟨f1, f2, f3, f4, f5, f6, f7⟩ := right_facts.1 h
      have f8 := durF_bd f1 f4
      simp only [Bool.not_true, Bool.false_eq_true, false_implies, true_and, if_true, true_implies]
      unfold endF
      (repeat' (first | (refine And.intro ?_ ?_) | intro _))
      all_goals (try (refine Bool.eq_iff_iff.2 ?_))
      all_goals (try simp only [decide_eq_true_eq, decide_eq_false_iff_not, beq_iff_eq, beq_eq_false_iff_ne, bne_iff_ne, bne_eq_false_iff_eq, ne_eq, Bool.not_eq_true', Bool.not_eq_false', ← Bool.not_eq_true, Bool.true_eq_false, Bool.false_eq_true, Bool.and_eq_true, Bool.or_eq_true, false_iff, iff_false, true_iff, iff_true, not_true_eq_false, not_false_eq_true, and_true, true_and, inR, klo, khi] at *)
      all_goals (repeat' split)
      all_goals omega
  · cases h
noncomputable def Γ_vends : List (FuncId × FX) := (62, c_vends) :: Γ_vlength
theorem ok_vends : ΓOk Try.prog Γ_vends := ΓOk.cons (c := .pure c_vends) s_vends ok_vlength

noncomputable def c_vover : FC := fun us => match us with
  | [.v (.agg [.int .i64 _ fr, .int .i64 _ em, .int .i64 _ ki, .int .i64 _ od, .int .i64 _ at_, .int .i64 _ gn, .int .i64 _ pn, .int .i64 _ pr, .int .i64 _ ln, .int .i64 _ bo, .int .i64 _ lt, .int .i64 _ cu]), .v (.one (.int .i64 _ t))] => some (none, .v (.one (.bool false (overB at_ gn pn ln bo lt cu t))))
  | _ => none
theorem nf_vover (fr : Int) (em : Int) (ki : Int) (od : Int) (at_ : Int) (gn : Int) (pn : Int) (pr : Int) (ln : Int) (bo : Int) (lt : Int) (cu : Int) (t : Int) : goal ⟨Mx, Try.prog, Γ_vends, Δ0, B0, none, false, [], none⟩ noL 400 Try.f34 [.v (.agg [.int .i64 false fr, .int .i64 false em, .int .i64 false ki, .int .i64 false od, .int .i64 false at_, .int .i64 false gn, .int .i64 false pn, .int .i64 false pr, .int .i64 false ln, .int .i64 false bo, .int .i64 false lt, .int .i64 false cu]), .v (.one (.int .i64 false t))] [] (fun r _ => svLe idR r (.v (.one (.bool false (overB at_ gn pn ln bo lt cu t))))) = ((atB at_ gn pn ln bo lt cu t = true → (decide (bo ≤ t) = true → decide ((if rightB at_ gn pn ln bo lt cu = true then endF at_ ln bo lt cu else (0 : Int)) ≤ t) = overB at_ gn pn ln bo lt cu t) ∧ (decide (bo ≤ t) = false → false = overB at_ gn pn ln bo lt cu t)) ∧ (atB at_ gn pn ln bo lt cu t = false → false = overB at_ gn pn ln bo lt cu t)) := by kernel_rfl
theorem s_vover : FSound Try.prog 34 c_vover := by
  refine fsound_of (Ctx.ok_of2 (M := Mx) (N := []) mixedA ok_vends okD0 okB0) Try.func34 (by kernel_rfl) (by kernel_rfl) ?_
  intro us p v h hp
  unfold c_vover at h
  split at h
  · rename_i k0 fr k1 em k2 ki k3 od k4 at_ k5 gn k6 pn k7 pr k8 ln k9 bo k10 lt k11 cu k12 t
    cases h
    refine ⟨rfl, noL, 400, [.v (.agg [.int .i64 false fr, .int .i64 false em, .int .i64 false ki, .int .i64 false od, .int .i64 false at_, .int .i64 false gn, .int .i64 false pn, .int .i64 false pr, .int .i64 false ln, .int .i64 false bo, .int .i64 false lt, .int .i64 false cu]), .v (.one (.int .i64 false t))], by simp [tmLe, svLe, vLe, lfLe, lfsLe, ifB, nmIs, idR], rfl, ?_⟩
    rw [nf_vover]
    clear hp
    unfold overB
    cases h : atB at_ gn pn ln bo lt cu t
    · simp
    · rw [(at_facts.1 h).1]
      simp only [Bool.true_and, if_true]
      (repeat' (first | (refine And.intro ?_ ?_) | intro _))
      all_goals (try (refine Bool.eq_iff_iff.2 ?_))
      all_goals (try simp only [decide_eq_true_eq, decide_eq_false_iff_not, beq_iff_eq, beq_eq_false_iff_ne, bne_iff_ne, bne_eq_false_iff_eq, ne_eq, Bool.not_eq_true', Bool.not_eq_false', ← Bool.not_eq_true, Bool.true_eq_false, Bool.false_eq_true, Bool.and_eq_true, Bool.or_eq_true, false_iff, iff_false, true_iff, iff_true, not_true_eq_false, not_false_eq_true, and_true, true_and, inR, klo, khi] at *)
      all_goals (repeat' split)
      all_goals omega
  · cases h
noncomputable def Γ_vover : List (FuncId × FX) := (34, c_vover) :: Γ_vends
theorem ok_vover : ΓOk Try.prog Γ_vover := ΓOk.cons (c := .pure c_vover) s_vover ok_vends

noncomputable def c_vsounds : FC := fun us => match us with
  | [.v (.agg [.int .i64 _ fr, .int .i64 _ em, .int .i64 _ ki, .int .i64 _ od, .int .i64 _ at_, .int .i64 _ gn, .int .i64 _ pn, .int .i64 _ pr, .int .i64 _ ln, .int .i64 _ bo, .int .i64 _ lt, .int .i64 _ cu]), .v (.one (.int .i64 _ t))] => some (none, .v (.one (.bool false (soundsB at_ gn pn ln bo lt cu t))))
  | _ => none
theorem nf_vsounds (fr : Int) (em : Int) (ki : Int) (od : Int) (at_ : Int) (gn : Int) (pn : Int) (pr : Int) (ln : Int) (bo : Int) (lt : Int) (cu : Int) (t : Int) : goal ⟨Mx, Try.prog, Γ_vover, Δ0, B0, none, false, [], none⟩ noL 400 Try.f44 [.v (.agg [.int .i64 false fr, .int .i64 false em, .int .i64 false ki, .int .i64 false od, .int .i64 false at_, .int .i64 false gn, .int .i64 false pn, .int .i64 false pr, .int .i64 false ln, .int .i64 false bo, .int .i64 false lt, .int .i64 false cu]), .v (.one (.int .i64 false t))] [] (fun r _ => svLe idR r (.v (.one (.bool false (soundsB at_ gn pn ln bo lt cu t))))) = ((atB at_ gn pn ln bo lt cu t = true → (decide (bo ≤ t) = true → decide (t < if rightB at_ gn pn ln bo lt cu = true then endF at_ ln bo lt cu else (0 : Int)) = soundsB at_ gn pn ln bo lt cu t) ∧ (decide (bo ≤ t) = false → false = soundsB at_ gn pn ln bo lt cu t)) ∧ (atB at_ gn pn ln bo lt cu t = false → false = soundsB at_ gn pn ln bo lt cu t)) := by kernel_rfl
theorem s_vsounds : FSound Try.prog 44 c_vsounds := by
  refine fsound_of (Ctx.ok_of2 (M := Mx) (N := []) mixedA ok_vover okD0 okB0) Try.func44 (by kernel_rfl) (by kernel_rfl) ?_
  intro us p v h hp
  unfold c_vsounds at h
  split at h
  · rename_i k0 fr k1 em k2 ki k3 od k4 at_ k5 gn k6 pn k7 pr k8 ln k9 bo k10 lt k11 cu k12 t
    cases h
    refine ⟨rfl, noL, 400, [.v (.agg [.int .i64 false fr, .int .i64 false em, .int .i64 false ki, .int .i64 false od, .int .i64 false at_, .int .i64 false gn, .int .i64 false pn, .int .i64 false pr, .int .i64 false ln, .int .i64 false bo, .int .i64 false lt, .int .i64 false cu]), .v (.one (.int .i64 false t))], by simp [tmLe, svLe, vLe, lfLe, lfsLe, ifB, nmIs, idR], rfl, ?_⟩
    rw [nf_vsounds]
    clear hp
    unfold soundsB
    cases h : atB at_ gn pn ln bo lt cu t
    · simp
    · rw [(at_facts.1 h).1]
      simp only [Bool.true_and, if_true]
      (repeat' (first | (refine And.intro ?_ ?_) | intro _))
      all_goals (try (refine Bool.eq_iff_iff.2 ?_))
      all_goals (try simp only [decide_eq_true_eq, decide_eq_false_iff_not, beq_iff_eq, beq_eq_false_iff_ne, bne_iff_ne, bne_eq_false_iff_eq, ne_eq, Bool.not_eq_true', Bool.not_eq_false', ← Bool.not_eq_true, Bool.true_eq_false, Bool.false_eq_true, Bool.and_eq_true, Bool.or_eq_true, false_iff, iff_false, true_iff, iff_true, not_true_eq_false, not_false_eq_true, and_true, true_and, inR, klo, khi] at *)
      all_goals (repeat' split)
      all_goals omega
  · cases h
noncomputable def Γ_vsounds : List (FuncId × FX) := (44, c_vsounds) :: Γ_vover
theorem ok_vsounds : ΓOk Try.prog Γ_vsounds := ΓOk.cons (c := .pure c_vsounds) s_vsounds ok_vover

noncomputable def c_vcut : FC := fun us => match us with
  | [.v (.agg [.int .i64 _ fr, .int .i64 _ em, .int .i64 _ ki, .int .i64 _ od, .int .i64 _ at_, .int .i64 _ gn, .int .i64 _ pn, .int .i64 _ pr, .int .i64 _ ln, .int .i64 _ bo, .int .i64 _ lt, .int .i64 _ cu]), .v (.one (.int .i64 _ t))] => some (none, .v (.agg [.int .i64 false (fr), .int .i64 false (em), .int .i64 false (ki), .int .i64 false (od), .int .i64 false (at_), .int .i64 false (gn), .int .i64 false (pn), .int .i64 false (pr), .int .i64 false (ln), .int .i64 false (bo), .int .i64 false (lt), .int .i64 false (cutF at_ gn pn ln bo lt cu t)]))
  | _ => none
theorem nf_vcut (fr : Int) (em : Int) (ki : Int) (od : Int) (at_ : Int) (gn : Int) (pn : Int) (pr : Int) (ln : Int) (bo : Int) (lt : Int) (cu : Int) (t : Int) : goal ⟨Mx, Try.prog, Γ_vsounds, Δ0, B0, none, false, [], none⟩ noL 400 Try.f35 [.v (.agg [.int .i64 false fr, .int .i64 false em, .int .i64 false ki, .int .i64 false od, .int .i64 false at_, .int .i64 false gn, .int .i64 false pn, .int .i64 false pr, .int .i64 false ln, .int .i64 false bo, .int .i64 false lt, .int .i64 false cu]), .v (.one (.int .i64 false t))] [] (fun r _ => svLe idR r (.v (.agg [.int .i64 false (fr), .int .i64 false (em), .int .i64 false (ki), .int .i64 false (od), .int .i64 false (at_), .int .i64 false (gn), .int .i64 false (pn), .int .i64 false (pr), .int .i64 false (ln), .int .i64 false (bo), .int .i64 false (lt), .int .i64 false (cutF at_ gn pn ln bo lt cu t)]))) = ((rightB at_ gn pn ln bo lt cu = true → ((cu == (-1 : Int)) = true → (decide (t ≤ (1099511627776 : Int)) = true → fr = fr ∧ em = em ∧ ki = ki ∧ od = od ∧ at_ = at_ ∧ gn = gn ∧ pn = pn ∧ pr = pr ∧ ln = ln ∧ bo = bo ∧ lt = lt ∧ (if t < bo then bo else t) = cutF at_ gn pn ln bo lt cu t) ∧ (decide (t ≤ (1099511627776 : Int)) = false → fr = fr ∧ em = em ∧ ki = ki ∧ od = od ∧ at_ = at_ ∧ gn = gn ∧ pn = pn ∧ pr = pr ∧ ln = ln ∧ bo = bo ∧ lt = lt ∧ cu = cutF at_ gn pn ln bo lt cu t)) ∧ ((cu == (-1 : Int)) = false → fr = fr ∧ em = em ∧ ki = ki ∧ od = od ∧ at_ = at_ ∧ gn = gn ∧ pn = pn ∧ pr = pr ∧ ln = ln ∧ bo = bo ∧ lt = lt ∧ cu = cutF at_ gn pn ln bo lt cu t)) ∧ (rightB at_ gn pn ln bo lt cu = false → fr = fr ∧ em = em ∧ ki = ki ∧ od = od ∧ at_ = at_ ∧ gn = gn ∧ pn = pn ∧ pr = pr ∧ ln = ln ∧ bo = bo ∧ lt = lt ∧ cu = cutF at_ gn pn ln bo lt cu t)) := by kernel_rfl
theorem s_vcut : FSound Try.prog 35 c_vcut := by
  refine fsound_of (Ctx.ok_of2 (M := Mx) (N := []) mixedA ok_vsounds okD0 okB0) Try.func35 (by kernel_rfl) (by kernel_rfl) ?_
  intro us p v h hp
  unfold c_vcut at h
  split at h
  · rename_i k0 fr k1 em k2 ki k3 od k4 at_ k5 gn k6 pn k7 pr k8 ln k9 bo k10 lt k11 cu k12 t
    cases h
    refine ⟨rfl, noL, 400, [.v (.agg [.int .i64 false fr, .int .i64 false em, .int .i64 false ki, .int .i64 false od, .int .i64 false at_, .int .i64 false gn, .int .i64 false pn, .int .i64 false pr, .int .i64 false ln, .int .i64 false bo, .int .i64 false lt, .int .i64 false cu]), .v (.one (.int .i64 false t))], by simp [tmLe, svLe, vLe, lfLe, lfsLe, ifB, nmIs, idR], rfl, ?_⟩
    rw [nf_vcut]
    clear hp
    simp only [true_and]
    unfold cutF
    cases h : rightB at_ gn pn ln bo lt cu
    · simp
    · simp only [true_and]
      (repeat' (first | (refine And.intro ?_ ?_) | intro _))
      all_goals (try (refine Bool.eq_iff_iff.2 ?_))
      all_goals (try simp only [decide_eq_true_eq, decide_eq_false_iff_not, beq_iff_eq, beq_eq_false_iff_ne, bne_iff_ne, bne_eq_false_iff_eq, ne_eq, Bool.not_eq_true', Bool.not_eq_false', ← Bool.not_eq_true, Bool.true_eq_false, Bool.false_eq_true, Bool.and_eq_true, Bool.or_eq_true, false_iff, iff_false, true_iff, iff_true, not_true_eq_false, not_false_eq_true, and_true, true_and, inR, klo, khi] at *)
      all_goals (repeat' split)
      all_goals omega
  · cases h
noncomputable def Γ_vcut : List (FuncId × FX) := (35, c_vcut) :: Γ_vsounds
theorem ok_vcut : ΓOk Try.prog Γ_vcut := ΓOk.cons (c := .pure c_vcut) s_vcut ok_vsounds

noncomputable def c_rlen : FC := fun us => match us with
  | [.v (.one (.int .i64 _ n))] => some (none, .v (.one (.int .i64 false (if withinB n 1 9 = true then 48 * n else 0))))
  | _ => none
theorem nf_rlen (n : Int) : goal ⟨Mx, Try.prog, Γ_vcut, Δ0, B0, none, false, [], none⟩ noL 400 Try.f65 [.v (.one (.int .i64 false n))] [] (fun r _ => svLe idR r (.v (.one (.int .i64 false (if withinB n 1 9 = true then 48 * n else 0))))) = ((decide (n < (1 : Int)) = false → (decide ((9 : Int) < n) = true → (0 : Int) = if withinB n (1 : Int) (9 : Int) = true then (48 : Int) * n else (0 : Int)) ∧ (decide ((9 : Int) < n) = false → inR IntKind.i64 ((48 : Int) * n) ∧ (48 : Int) * n = if withinB n (1 : Int) (9 : Int) = true then (48 : Int) * n else (0 : Int))) ∧ (decide (n < (1 : Int)) = true → (0 : Int) = if withinB n (1 : Int) (9 : Int) = true then (48 : Int) * n else (0 : Int))) := by kernel_rfl
theorem s_rlen : FSound Try.prog 65 c_rlen := by
  refine fsound_of (Ctx.ok_of2 (M := Mx) (N := []) mixedA ok_vcut okD0 okB0) Try.func65 (by kernel_rfl) (by kernel_rfl) ?_
  intro us p v h hp
  unfold c_rlen at h
  split at h
  · rename_i k0 n
    cases h
    refine ⟨rfl, noL, 400, [.v (.one (.int .i64 false n))], by simp [tmLe, svLe, vLe, lfLe, lfsLe, ifB, nmIs, idR], rfl, ?_⟩
    rw [nf_rlen]
    clear hp
    (repeat' (first | (refine And.intro ?_ ?_) | intro _))
    all_goals (try (refine Bool.eq_iff_iff.2 ?_))
    all_goals (try simp only [decide_eq_true_eq, decide_eq_false_iff_not, beq_iff_eq, beq_eq_false_iff_ne, bne_iff_ne, bne_eq_false_iff_eq, ne_eq, Bool.not_eq_true', Bool.not_eq_false', ← Bool.not_eq_true, Bool.true_eq_false, Bool.false_eq_true, Bool.and_eq_true, Bool.or_eq_true, false_iff, iff_false, true_iff, iff_true, not_true_eq_false, not_false_eq_true, and_true, true_and, inR, klo, khi, within_iff] at *)
    all_goals (repeat' split)
    all_goals omega
  · cases h
noncomputable def Γ_rlen : List (FuncId × FX) := (65, c_rlen) :: Γ_vcut
theorem ok_rlen : ΓOk Try.prog Γ_rlen := ΓOk.cons (c := .pure c_rlen) s_rlen ok_vcut

noncomputable def c_rright : FC := fun us => match us with
  | [.v (.agg [.int .i64 _ fr, .int .i64 _ em, .int .i64 _ ki, .int .i64 _ od, .int .i64 _ at_, .int .i64 _ gn, .int .i64 _ pn, .int .i64 _ pr, .int .i64 _ ln, .int .i64 _ bo, .int .i64 _ lt, .int .i64 _ cu])] => some (none, .v (.one (.bool false (rightB at_ gn pn ln bo lt cu))))
  | _ => none
theorem nf_rright (fr : Int) (em : Int) (ki : Int) (od : Int) (at_ : Int) (gn : Int) (pn : Int) (pr : Int) (ln : Int) (bo : Int) (lt : Int) (cu : Int) : goal ⟨Mx, Try.prog, Γ_rlen, Δ0, B0, none, false, [], none⟩ noL 400 Try.f80 [.v (.agg [.int .i64 false fr, .int .i64 false em, .int .i64 false ki, .int .i64 false od, .int .i64 false at_, .int .i64 false gn, .int .i64 false pn, .int .i64 false pr, .int .i64 false ln, .int .i64 false bo, .int .i64 false lt, .int .i64 false cu])] [] (fun r _ => svLe idR r (.v (.one (.bool false (rightB at_ gn pn ln bo lt cu))))) = ((((if withinB at_ (1 : Int) (9 : Int) = true then (48 : Int) * at_ else (0 : Int)) == (0 : Int)) = false → (decide (gn < (0 : Int)) = false → (decide ((32768 : Int) < gn) = false → (decide (pn < (-32768 : Int)) = false → (decide ((32768 : Int) < pn) = false → (decide (ln < (0 : Int)) = false → (decide ((600 : Int) < ln) = true → false = rightB at_ gn pn ln bo lt cu) ∧ (decide ((600 : Int) < ln) = false → (decide (bo < (0 : Int)) = false → (decide ((1099511627776 : Int) < bo) = false → (decide (lt < (0 : Int)) = false → (decide ((1099511627776 : Int) < lt) = true → false = rightB at_ gn pn ln bo lt cu) ∧ (decide ((1099511627776 : Int) < lt) = false → ((cu == (-1 : Int)) = false → (decide (bo ≤ cu) = true → decide (cu ≤ (1099511627776 : Int)) = rightB at_ gn pn ln bo lt cu) ∧ (decide (bo ≤ cu) = false → false = rightB at_ gn pn ln bo lt cu)) ∧ ((cu == (-1 : Int)) = true → true = rightB at_ gn pn ln bo lt cu))) ∧ (decide (lt < (0 : Int)) = true → false = rightB at_ gn pn ln bo lt cu)) ∧ (decide ((1099511627776 : Int) < bo) = true → false = rightB at_ gn pn ln bo lt cu)) ∧ (decide (bo < (0 : Int)) = true → false = rightB at_ gn pn ln bo lt cu))) ∧ (decide (ln < (0 : Int)) = true → false = rightB at_ gn pn ln bo lt cu)) ∧ (decide ((32768 : Int) < pn) = true → false = rightB at_ gn pn ln bo lt cu)) ∧ (decide (pn < (-32768 : Int)) = true → false = rightB at_ gn pn ln bo lt cu)) ∧ (decide ((32768 : Int) < gn) = true → false = rightB at_ gn pn ln bo lt cu)) ∧ (decide (gn < (0 : Int)) = true → false = rightB at_ gn pn ln bo lt cu)) ∧ (((if withinB at_ (1 : Int) (9 : Int) = true then (48 : Int) * at_ else (0 : Int)) == (0 : Int)) = true → false = rightB at_ gn pn ln bo lt cu)) := by kernel_rfl
theorem s_rright : FSound Try.prog 80 c_rright := by
  refine fsound_of (Ctx.ok_of2 (M := Mx) (N := []) mixedA ok_rlen okD0 okB0) Try.func80 (by kernel_rfl) (by kernel_rfl) ?_
  intro us p v h hp
  unfold c_rright at h
  split at h
  · rename_i k0 fr k1 em k2 ki k3 od k4 at_ k5 gn k6 pn k7 pr k8 ln k9 bo k10 lt k11 cu
    cases h
    refine ⟨rfl, noL, 400, [.v (.agg [.int .i64 false fr, .int .i64 false em, .int .i64 false ki, .int .i64 false od, .int .i64 false at_, .int .i64 false gn, .int .i64 false pn, .int .i64 false pr, .int .i64 false ln, .int .i64 false bo, .int .i64 false lt, .int .i64 false cu])], by simp [tmLe, svLe, vLe, lfLe, lfsLe, ifB, nmIs, idR], rfl, ?_⟩
    rw [nf_rright]
    clear hp
    cases h : withinB at_ 1 9
    · simp [rightB, h]
    · have h9 := within_iff.1 h
      simp only [if_true]
      (repeat' (first | (refine And.intro ?_ ?_) | intro _))
      all_goals (try (refine Bool.eq_iff_iff.2 ?_))
      all_goals (try simp only [decide_eq_true_eq, decide_eq_false_iff_not, beq_iff_eq, beq_eq_false_iff_ne, bne_iff_ne, bne_eq_false_iff_eq, ne_eq, Bool.not_eq_true', Bool.not_eq_false', ← Bool.not_eq_true, Bool.true_eq_false, Bool.false_eq_true, Bool.and_eq_true, Bool.or_eq_true, false_iff, iff_false, true_iff, iff_true, not_true_eq_false, not_false_eq_true, and_true, true_and, inR, klo, khi, right_facts] at *)
      all_goals (repeat' split)
      all_goals omega
  · cases h
noncomputable def Γ_rright : List (FuncId × FX) := (80, c_rright) :: Γ_rlen
theorem ok_rright : ΓOk Try.prog Γ_rright := ΓOk.cons (c := .pure c_rright) s_rright ok_rlen

noncomputable def c_rat : FC := fun us => match us with
  | [.v (.agg [.int .i64 _ fr, .int .i64 _ em, .int .i64 _ ki, .int .i64 _ od, .int .i64 _ at_, .int .i64 _ gn, .int .i64 _ pn, .int .i64 _ pr, .int .i64 _ ln, .int .i64 _ bo, .int .i64 _ lt, .int .i64 _ cu]), .v (.one (.int .i64 _ t))] => some (none, .v (.one (.bool false (atB at_ gn pn ln bo lt cu t))))
  | _ => none
theorem nf_rat (fr : Int) (em : Int) (ki : Int) (od : Int) (at_ : Int) (gn : Int) (pn : Int) (pr : Int) (ln : Int) (bo : Int) (lt : Int) (cu : Int) (t : Int) : goal ⟨Mx, Try.prog, Γ_rright, Δ0, B0, none, false, [], none⟩ noL 400 Try.f69 [.v (.agg [.int .i64 false fr, .int .i64 false em, .int .i64 false ki, .int .i64 false od, .int .i64 false at_, .int .i64 false gn, .int .i64 false pn, .int .i64 false pr, .int .i64 false ln, .int .i64 false bo, .int .i64 false lt, .int .i64 false cu]), .v (.one (.int .i64 false t))] [] (fun r _ => svLe idR r (.v (.one (.bool false (atB at_ gn pn ln bo lt cu t))))) = ((rightB at_ gn pn ln bo lt cu = true → (decide ((0 : Int) ≤ t) = true → decide (t ≤ (2199023255552 : Int)) = atB at_ gn pn ln bo lt cu t) ∧ (decide ((0 : Int) ≤ t) = false → false = atB at_ gn pn ln bo lt cu t)) ∧ (rightB at_ gn pn ln bo lt cu = false → false = atB at_ gn pn ln bo lt cu t)) := by kernel_rfl
theorem s_rat : FSound Try.prog 69 c_rat := by
  refine fsound_of (Ctx.ok_of2 (M := Mx) (N := []) mixedA ok_rright okD0 okB0) Try.func69 (by kernel_rfl) (by kernel_rfl) ?_
  intro us p v h hp
  unfold c_rat at h
  split at h
  · rename_i k0 fr k1 em k2 ki k3 od k4 at_ k5 gn k6 pn k7 pr k8 ln k9 bo k10 lt k11 cu k12 t
    cases h
    refine ⟨rfl, noL, 400, [.v (.agg [.int .i64 false fr, .int .i64 false em, .int .i64 false ki, .int .i64 false od, .int .i64 false at_, .int .i64 false gn, .int .i64 false pn, .int .i64 false pr, .int .i64 false ln, .int .i64 false bo, .int .i64 false lt, .int .i64 false cu]), .v (.one (.int .i64 false t))], by simp [tmLe, svLe, vLe, lfLe, lfsLe, ifB, nmIs, idR], rfl, ?_⟩
    rw [nf_rat]
    clear hp
    unfold atB
    cases h : rightB at_ gn pn ln bo lt cu
    · simp
    · simp only [Bool.true_and]
      (repeat' (first | (refine And.intro ?_ ?_) | intro _))
      all_goals (try (refine Bool.eq_iff_iff.2 ?_))
      all_goals (try simp only [decide_eq_true_eq, decide_eq_false_iff_not, beq_iff_eq, beq_eq_false_iff_ne, bne_iff_ne, bne_eq_false_iff_eq, ne_eq, Bool.not_eq_true', Bool.not_eq_false', ← Bool.not_eq_true, Bool.true_eq_false, Bool.false_eq_true, Bool.and_eq_true, Bool.or_eq_true, false_iff, iff_false, true_iff, iff_true, not_true_eq_false, not_false_eq_true, and_true, true_and, inR, klo, khi, within_iff] at *)
      all_goals (repeat' split)
      all_goals omega
  · cases h
noncomputable def Γ_rat : List (FuncId × FX) := (69, c_rat) :: Γ_rright
theorem ok_rat : ΓOk Try.prog Γ_rat := ΓOk.cons (c := .pure c_rat) s_rat ok_rright

noncomputable def c_rover : FC := fun us => match us with
  | [.v (.agg [.int .i64 _ fr, .int .i64 _ em, .int .i64 _ ki, .int .i64 _ od, .int .i64 _ at_, .int .i64 _ gn, .int .i64 _ pn, .int .i64 _ pr, .int .i64 _ ln, .int .i64 _ bo, .int .i64 _ lt, .int .i64 _ cu]), .v (.one (.int .i64 _ t))] => some (none, .v (.one (.bool false (overB at_ gn pn ln bo lt cu t))))
  | _ => none
theorem nf_rover (fr : Int) (em : Int) (ki : Int) (od : Int) (at_ : Int) (gn : Int) (pn : Int) (pr : Int) (ln : Int) (bo : Int) (lt : Int) (cu : Int) (t : Int) : goal ⟨Mx, Try.prog, Γ_rat, Δ0, B0, none, false, [], none⟩ noL 400 Try.f67 [.v (.agg [.int .i64 false fr, .int .i64 false em, .int .i64 false ki, .int .i64 false od, .int .i64 false at_, .int .i64 false gn, .int .i64 false pn, .int .i64 false pr, .int .i64 false ln, .int .i64 false bo, .int .i64 false lt, .int .i64 false cu]), .v (.one (.int .i64 false t))] [] (fun r _ => svLe idR r (.v (.one (.bool false (overB at_ gn pn ln bo lt cu t))))) = (((!atB at_ gn pn ln bo lt cu t) = false → (decide (t < bo) = true → false = overB at_ gn pn ln bo lt cu t) ∧ (decide (t < bo) = false → (decide ((0 : Int) < ln) = true → inR IntKind.i64 (ln * (32 : Int)) ∧ inR IntKind.i64 (t - bo) ∧ inR IntKind.i64 (t - bo + lt) ∧ (decide (ln * (32 : Int) ≤ t - bo + lt) = false → (decide ((0 : Int) ≤ cu) = true → inR IntKind.i64 (t - cu) ∧ decide ((64 : Int) ≤ t - cu) = overB at_ gn pn ln bo lt cu t) ∧ (decide ((0 : Int) ≤ cu) = false → false = overB at_ gn pn ln bo lt cu t)) ∧ (decide (ln * (32 : Int) ≤ t - bo + lt) = true → true = overB at_ gn pn ln bo lt cu t)) ∧ (decide ((0 : Int) < ln) = false → inR IntKind.i64 (t - bo) ∧ inR IntKind.i64 (t - bo + lt) ∧ (decide ((if withinB at_ (1 : Int) (9 : Int) = true then (48 : Int) * at_ else (0 : Int)) ≤ t - bo + lt) = false → (decide ((0 : Int) ≤ cu) = true → inR IntKind.i64 (t - cu) ∧ decide ((64 : Int) ≤ t - cu) = overB at_ gn pn ln bo lt cu t) ∧ (decide ((0 : Int) ≤ cu) = false → false = overB at_ gn pn ln bo lt cu t)) ∧ (decide ((if withinB at_ (1 : Int) (9 : Int) = true then (48 : Int) * at_ else (0 : Int)) ≤ t - bo + lt) = true → true = overB at_ gn pn ln bo lt cu t)))) ∧ ((!atB at_ gn pn ln bo lt cu t) = true → false = overB at_ gn pn ln bo lt cu t)) := by kernel_rfl
theorem s_rover : FSound Try.prog 67 c_rover := by
  refine fsound_of (Ctx.ok_of2 (M := Mx) (N := []) mixedA ok_rat okD0 okB0) Try.func67 (by kernel_rfl) (by kernel_rfl) ?_
  intro us p v h hp
  unfold c_rover at h
  split at h
  · rename_i k0 fr k1 em k2 ki k3 od k4 at_ k5 gn k6 pn k7 pr k8 ln k9 bo k10 lt k11 cu k12 t
    cases h
    refine ⟨rfl, noL, 400, [.v (.agg [.int .i64 false fr, .int .i64 false em, .int .i64 false ki, .int .i64 false od, .int .i64 false at_, .int .i64 false gn, .int .i64 false pn, .int .i64 false pr, .int .i64 false ln, .int .i64 false bo, .int .i64 false lt, .int .i64 false cu]), .v (.one (.int .i64 false t))], by simp [tmLe, svLe, vLe, lfLe, lfsLe, ifB, nmIs, idR], rfl, ?_⟩
    rw [nf_rover]
    clear hp
    unfold overB
    cases h : atB at_ gn pn ln bo lt cu t
    · simp
    · obtain ⟨h1, h2⟩ := at_facts.1 h
      obtain ⟨f1, f2, f3, f4, f5, f6, f7⟩ := right_facts.1 h1
      have f8 := durF_bd f1 f4
      have f9 := within_iff.2 f1
      simp only [f9, if_true, Bool.not_true, Bool.true_and]
      clear h h1
      unfold endF durF at *
      (repeat' (first | (refine And.intro ?_ ?_) | intro _))
      all_goals (try (refine Bool.eq_iff_iff.2 ?_))
      all_goals (try simp only [decide_eq_true_eq, decide_eq_false_iff_not, beq_iff_eq, beq_eq_false_iff_ne, bne_iff_ne, bne_eq_false_iff_eq, ne_eq, Bool.not_eq_true', Bool.not_eq_false', ← Bool.not_eq_true, Bool.true_eq_false, Bool.false_eq_true, Bool.and_eq_true, Bool.or_eq_true, false_iff, iff_false, true_iff, iff_true, not_true_eq_false, not_false_eq_true, and_true, true_and, inR, klo, khi] at *)
      all_goals (repeat' split)
      all_goals omega
  · cases h
noncomputable def Γ_rover : List (FuncId × FX) := (67, c_rover) :: Γ_rat
theorem ok_rover : ΓOk Try.prog Γ_rover := ΓOk.cons (c := .pure c_rover) s_rover ok_rat

noncomputable def c_rsounds : FC := fun us => match us with
  | [.v (.agg [.int .i64 _ fr, .int .i64 _ em, .int .i64 _ ki, .int .i64 _ od, .int .i64 _ at_, .int .i64 _ gn, .int .i64 _ pn, .int .i64 _ pr, .int .i64 _ ln, .int .i64 _ bo, .int .i64 _ lt, .int .i64 _ cu]), .v (.one (.int .i64 _ t))] => some (none, .v (.one (.bool false (soundsB at_ gn pn ln bo lt cu t))))
  | _ => none
theorem nf_rsounds (fr : Int) (em : Int) (ki : Int) (od : Int) (at_ : Int) (gn : Int) (pn : Int) (pr : Int) (ln : Int) (bo : Int) (lt : Int) (cu : Int) (t : Int) : goal ⟨Mx, Try.prog, Γ_rover, Δ0, B0, none, false, [], none⟩ noL 400 Try.f41 [.v (.agg [.int .i64 false fr, .int .i64 false em, .int .i64 false ki, .int .i64 false od, .int .i64 false at_, .int .i64 false gn, .int .i64 false pn, .int .i64 false pr, .int .i64 false ln, .int .i64 false bo, .int .i64 false lt, .int .i64 false cu]), .v (.one (.int .i64 false t))] [] (fun r _ => svLe idR r (.v (.one (.bool false (soundsB at_ gn pn ln bo lt cu t))))) = ((atB at_ gn pn ln bo lt cu t = true → (decide (bo ≤ t) = true → (!overB at_ gn pn ln bo lt cu t) = soundsB at_ gn pn ln bo lt cu t) ∧ (decide (bo ≤ t) = false → false = soundsB at_ gn pn ln bo lt cu t)) ∧ (atB at_ gn pn ln bo lt cu t = false → false = soundsB at_ gn pn ln bo lt cu t)) := by kernel_rfl
theorem s_rsounds : FSound Try.prog 41 c_rsounds := by
  refine fsound_of (Ctx.ok_of2 (M := Mx) (N := []) mixedA ok_rover okD0 okB0) Try.func41 (by kernel_rfl) (by kernel_rfl) ?_
  intro us p v h hp
  unfold c_rsounds at h
  split at h
  · rename_i k0 fr k1 em k2 ki k3 od k4 at_ k5 gn k6 pn k7 pr k8 ln k9 bo k10 lt k11 cu k12 t
    cases h
    refine ⟨rfl, noL, 400, [.v (.agg [.int .i64 false fr, .int .i64 false em, .int .i64 false ki, .int .i64 false od, .int .i64 false at_, .int .i64 false gn, .int .i64 false pn, .int .i64 false pr, .int .i64 false ln, .int .i64 false bo, .int .i64 false lt, .int .i64 false cu]), .v (.one (.int .i64 false t))], by simp [tmLe, svLe, vLe, lfLe, lfsLe, ifB, nmIs, idR], rfl, ?_⟩
    rw [nf_rsounds]
    clear hp
    unfold soundsB overB
    cases h : atB at_ gn pn ln bo lt cu t
    · simp
    · simp only [Bool.true_and]
      (repeat' (first | (refine And.intro ?_ ?_) | intro _))
      all_goals (try (refine Bool.eq_iff_iff.2 ?_))
      all_goals (try simp only [decide_eq_true_eq, decide_eq_false_iff_not, beq_iff_eq, beq_eq_false_iff_ne, bne_iff_ne, bne_eq_false_iff_eq, ne_eq, Bool.not_eq_true', Bool.not_eq_false', ← Bool.not_eq_true, Bool.true_eq_false, Bool.false_eq_true, Bool.and_eq_true, Bool.or_eq_true, false_iff, iff_false, true_iff, iff_true, not_true_eq_false, not_false_eq_true, and_true, true_and, inR, klo, khi] at *)
      all_goals (repeat' split)
      all_goals omega
  · cases h
noncomputable def Γ_rsounds : List (FuncId × FX) := (41, c_rsounds) :: Γ_rover
theorem ok_rsounds : ΓOk Try.prog Γ_rsounds := ΓOk.cons (c := .pure c_rsounds) s_rsounds ok_rover

noncomputable def c_rcut : FC := fun us => match us with
  | [.v (.agg [.int .i64 _ fr, .int .i64 _ em, .int .i64 _ ki, .int .i64 _ od, .int .i64 _ at_, .int .i64 _ gn, .int .i64 _ pn, .int .i64 _ pr, .int .i64 _ ln, .int .i64 _ bo, .int .i64 _ lt, .int .i64 _ cu]), .v (.one (.int .i64 _ t))] => some (none, .v (.agg [.int .i64 false (fr), .int .i64 false (em), .int .i64 false (ki), .int .i64 false (od), .int .i64 false (at_), .int .i64 false (gn), .int .i64 false (pn), .int .i64 false (pr), .int .i64 false (ln), .int .i64 false (bo), .int .i64 false (lt), .int .i64 false (cutF at_ gn pn ln bo lt cu t)]))
  | _ => none
theorem nf_rcut (fr : Int) (em : Int) (ki : Int) (od : Int) (at_ : Int) (gn : Int) (pn : Int) (pr : Int) (ln : Int) (bo : Int) (lt : Int) (cu : Int) (t : Int) : goal ⟨Mx, Try.prog, Γ_rsounds, Δ0, B0, none, false, [], none⟩ noL 400 Try.f68 [.v (.agg [.int .i64 false fr, .int .i64 false em, .int .i64 false ki, .int .i64 false od, .int .i64 false at_, .int .i64 false gn, .int .i64 false pn, .int .i64 false pr, .int .i64 false ln, .int .i64 false bo, .int .i64 false lt, .int .i64 false cu]), .v (.one (.int .i64 false t))] [] (fun r _ => svLe idR r (.v (.agg [.int .i64 false (fr), .int .i64 false (em), .int .i64 false (ki), .int .i64 false (od), .int .i64 false (at_), .int .i64 false (gn), .int .i64 false (pn), .int .i64 false (pr), .int .i64 false (ln), .int .i64 false (bo), .int .i64 false (lt), .int .i64 false (cutF at_ gn pn ln bo lt cu t)]))) = (((!rightB at_ gn pn ln bo lt cu) = false → (decide ((0 : Int) ≤ cu) = false → (decide ((1099511627776 : Int) < t) = true → fr = fr ∧ em = em ∧ ki = ki ∧ od = od ∧ at_ = at_ ∧ gn = gn ∧ pn = pn ∧ pr = pr ∧ ln = ln ∧ bo = bo ∧ lt = lt ∧ cu = cutF at_ gn pn ln bo lt cu t) ∧ (decide ((1099511627776 : Int) < t) = false → (decide (t < bo) = true → fr = fr ∧ em = em ∧ ki = ki ∧ od = od ∧ at_ = at_ ∧ gn = gn ∧ pn = pn ∧ pr = pr ∧ ln = ln ∧ bo = bo ∧ lt = lt ∧ bo = cutF at_ gn pn ln bo lt cu t) ∧ (decide (t < bo) = false → fr = fr ∧ em = em ∧ ki = ki ∧ od = od ∧ at_ = at_ ∧ gn = gn ∧ pn = pn ∧ pr = pr ∧ ln = ln ∧ bo = bo ∧ lt = lt ∧ t = cutF at_ gn pn ln bo lt cu t))) ∧ (decide ((0 : Int) ≤ cu) = true → fr = fr ∧ em = em ∧ ki = ki ∧ od = od ∧ at_ = at_ ∧ gn = gn ∧ pn = pn ∧ pr = pr ∧ ln = ln ∧ bo = bo ∧ lt = lt ∧ cu = cutF at_ gn pn ln bo lt cu t)) ∧ ((!rightB at_ gn pn ln bo lt cu) = true → fr = fr ∧ em = em ∧ ki = ki ∧ od = od ∧ at_ = at_ ∧ gn = gn ∧ pn = pn ∧ pr = pr ∧ ln = ln ∧ bo = bo ∧ lt = lt ∧ cu = cutF at_ gn pn ln bo lt cu t)) := by kernel_rfl
theorem s_rcut : FSound Try.prog 68 c_rcut := by
  refine fsound_of (Ctx.ok_of2 (M := Mx) (N := []) mixedA ok_rsounds okD0 okB0) Try.func68 (by kernel_rfl) (by kernel_rfl) ?_
  intro us p v h hp
  unfold c_rcut at h
  split at h
  · rename_i k0 fr k1 em k2 ki k3 od k4 at_ k5 gn k6 pn k7 pr k8 ln k9 bo k10 lt k11 cu k12 t
    cases h
    refine ⟨rfl, noL, 400, [.v (.agg [.int .i64 false fr, .int .i64 false em, .int .i64 false ki, .int .i64 false od, .int .i64 false at_, .int .i64 false gn, .int .i64 false pn, .int .i64 false pr, .int .i64 false ln, .int .i64 false bo, .int .i64 false lt, .int .i64 false cu]), .v (.one (.int .i64 false t))], by simp [tmLe, svLe, vLe, lfLe, lfsLe, ifB, nmIs, idR], rfl, ?_⟩
    rw [nf_rcut]
    clear hp
    simp only [true_and]
    cases h : rightB at_ gn pn ln bo lt cu
    · unfold cutF; simp [h]
    · obtain ⟨f1, f2, f3, f4, f5, f6, f7⟩ := right_facts.1 h
      simp only [Bool.not_true, Bool.false_eq_true, false_implies, and_true, true_implies]
      unfold cutF
      simp only [h, true_and]
      (repeat' (first | (refine And.intro ?_ ?_) | intro _))
      all_goals (try (refine Bool.eq_iff_iff.2 ?_))
      all_goals (try simp only [decide_eq_true_eq, decide_eq_false_iff_not, beq_iff_eq, beq_eq_false_iff_ne, bne_iff_ne, bne_eq_false_iff_eq, ne_eq, Bool.not_eq_true', Bool.not_eq_false', ← Bool.not_eq_true, Bool.true_eq_false, Bool.false_eq_true, Bool.and_eq_true, Bool.or_eq_true, false_iff, iff_false, true_iff, iff_true, not_true_eq_false, not_false_eq_true, and_true, true_and, inR, klo, khi] at *)
      all_goals (repeat' split)
      all_goals omega
  · cases h
noncomputable def Γ_rcut : List (FuncId × FX) := (68, c_rcut) :: Γ_rsounds
theorem ok_rcut : ΓOk Try.prog Γ_rcut := ΓOk.cons (c := .pure c_rcut) s_rcut ok_rsounds

end Go.Proofs.Ytljnddhldjaglaa
