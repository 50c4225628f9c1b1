/- FEEL: A KIND; A STRENGTH; RIGHT EVENTS. Conditions: the contracts' own. Own work; the normal forms were printed by a program of mine (wip/rex). -/
import Derived.Test.YtoanempchbejhaaDoorR0
namespace Go.Proofs.YtoanempchbejhaaDoor
open Go.RowKit Rex
set_option linter.unusedVariables false
set_option linter.unusedSimpArgs false
set_option maxRecDepth 100000


def fLow (k : Int) : Int := if k = 2 then 24000 else if k = 3 then 8000 else if k = 4 then 16000 else if k = 5 then 32768 else 0
def fHigh (k : Int) : Int := if k = 1 then 6000 else if k = 2 then 12000 else if k = 4 then 8000 else if k = 5 then 32768 else if k = 6 then 4000 else 0
def fFm (k : Int) : Int := if k = 1 then 3 else if k = 2 then 12 else if k = 3 then 4 else if k = 4 then 8 else if k = 5 then 30 else if k = 6 then 6 else 0
def fSk (k : Int) : Int := if k = 2 then 6 else if k = 4 then 4 else if k = 5 then 24 else if k = 6 then 8 else 0
def str (full fm fr t : Int) : Int := if t - fr < 0 ∨ fm ≤ t - fr then 0 else (full * (fm - (t - fr))).tdiv fm
def wb (n l m : Int) : Bool := decide (l ≤ n) && decide (n ≤ m)


noncomputable def c_of : FC := fun us => match us with
  | [.v (.one (.int .i64 _ k))] => some (none, .v (.agg [.int .i64 false (fLow k), .int .i64 false (fHigh k), .int .i64 false (fFm k), .int .i64 false (fSk k)]))
  | _ => none
theorem nf_of (k : Int) : goal ⟨Mx, Tryd.prog, Γ0, Δ0, B0, none, false, [], none⟩ noL 400 Tryd.f24 [.v (.one (.int .i64 false k))] [] (fun r _ => svLe idR r (.v (.agg [.int .i64 false (fLow k), .int .i64 false (fHigh k), .int .i64 false (fFm k), .int .i64 false (fSk k)]))) = ((decide (k < (0 : Int)) = false → (decide ((10 : Int) ≤ k) = true → (0 : Int) = fLow k ∧ (0 : Int) = fHigh k ∧ (0 : Int) = fFm k ∧ (0 : Int) = fSk k) ∧ (decide ((10 : Int) ≤ k) = false → ((0 : Int) ≤ k ∧ k < (10 : Int)) ∧ (((((((((k = (0 : Int) → (0 : Int) = fLow k ∧ (0 : Int) = fHigh k ∧ (0 : Int) = fFm k ∧ (0 : Int) = fSk k) ∧ (k = (1 : Int) → (0 : Int) = fLow k ∧ (6000 : Int) = fHigh k ∧ (3 : Int) = fFm k ∧ (0 : Int) = fSk k)) ∧ (k = (2 : Int) → (24000 : Int) = fLow k ∧ (12000 : Int) = fHigh k ∧ (12 : Int) = fFm k ∧ (6 : Int) = fSk k)) ∧ (k = (3 : Int) → (8000 : Int) = fLow k ∧ (0 : Int) = fHigh k ∧ (4 : Int) = fFm k ∧ (0 : Int) = fSk k)) ∧ (k = (4 : Int) → (16000 : Int) = fLow k ∧ (8000 : Int) = fHigh k ∧ (8 : Int) = fFm k ∧ (4 : Int) = fSk k)) ∧ (k = (5 : Int) → (32768 : Int) = fLow k ∧ (32768 : Int) = fHigh k ∧ (30 : Int) = fFm k ∧ (24 : Int) = fSk k)) ∧ (k = (6 : Int) → (0 : Int) = fLow k ∧ (4000 : Int) = fHigh k ∧ (6 : Int) = fFm k ∧ (8 : Int) = fSk k)) ∧ (k = (7 : Int) → (0 : Int) = fLow k ∧ (0 : Int) = fHigh k ∧ (0 : Int) = fFm k ∧ (0 : Int) = fSk k)) ∧ (k = (8 : Int) → (0 : Int) = fLow k ∧ (0 : Int) = fHigh k ∧ (0 : Int) = fFm k ∧ (0 : Int) = fSk k)) ∧ (k = (9 : Int) → (0 : Int) = fLow k ∧ (0 : Int) = fHigh k ∧ (0 : Int) = fFm k ∧ (0 : Int) = fSk k))) ∧ (decide (k < (0 : Int)) = true → (0 : Int) = fLow k ∧ (0 : Int) = fHigh k ∧ (0 : Int) = fFm k ∧ (0 : Int) = fSk k)) := by kernel_rfl
theorem s_of : FSound Tryd.prog 24 c_of := by
  refine fsound_of (Ctx.ok_of2 (M := Mx) (N := []) mixedA ok0 okD0 okB0) Tryd.func24 (by kernel_rfl) (by kernel_rfl) ?_
  intro us p v h hp
  unfold c_of at h
  split at h
  · rename_i k0 k
    cases h
    refine ⟨rfl, noL, 400, [.v (.one (.int .i64 false k))], by simp [tmLe, svLe, vLe, lfLe, lfsLe, ifB, nmIs, idR], rfl, ?_⟩
    rw [nf_of]
    clear hp
    (repeat' (first | (refine And.intro ?_ ?_) | intro _))
    all_goals (try simp only [decide_eq_true_eq, decide_eq_false_iff_not] at *)
    all_goals first
      | omega
      | (unfold fLow; (repeat' split) <;> omega)
      | (unfold fHigh; (repeat' split) <;> omega)
      | (unfold fFm; (repeat' split) <;> omega)
      | (unfold fSk; (repeat' split) <;> omega)
  · cases h
noncomputable def Γ_of : List (FuncId × FX) := (24, c_of) :: Γ0
theorem ok_of : ΓOk Tryd.prog Γ_of := ΓOk.cons (c := .pure c_of) s_of ok0

noncomputable def c_strength : FC := fun us => match us with
  | [.v (.agg [.int .i64 _ lo, .int .i64 _ hi, .int .i64 _ fm, .int .i64 _ sk, .int .i64 _ fr, .int .i64 _ em, .int .i64 _ ki, .int .i64 _ od, .int .i32 _ px, .int .i32 _ py]), .v (.one (.int .i64 _ full)), .v (.one (.int .i64 _ t))] => some (some ((-1099511627776 ≤ fr ∧ fr ≤ 1099511627776) ∧ (-1099511627776 ≤ t ∧ t ≤ 1099511627776) ∧ (0 ≤ full ∧ full ≤ 32768) ∧ (0 ≤ fm ∧ fm ≤ 30)), .v (.one (.int .i64 false (str full fm fr t))))
  | _ => none
theorem nf_strength (lo : Int) (hi : Int) (fm : Int) (sk : Int) (fr : Int) (em : Int) (ki : Int) (od : Int) (px : Int) (py : Int) (full : Int) (t : Int) : goal ⟨Mx, Tryd.prog, Γ_of, Δ0, B0, none, false, [], none⟩ noL 400 Tryd.f26 [.v (.agg [.int .i64 false lo, .int .i64 false hi, .int .i64 false fm, .int .i64 false sk, .int .i64 false fr, .int .i64 false em, .int .i64 false ki, .int .i64 false od, .int .i32 false px, .int .i32 false py]), .v (.one (.int .i64 false full)), .v (.one (.int .i64 false t))] [] (fun r _ => svLe idR r (.v (.one (.int .i64 false (str full fm fr t))))) = (inR IntKind.i64 (t - fr) ∧ (decide (t - fr < (0 : Int)) = false → (decide (fm ≤ t - fr) = true → (0 : Int) = str full fm fr t) ∧ (decide (fm ≤ t - fr) = false → inR IntKind.i64 (fm - (t - fr)) ∧ inR IntKind.i64 (full * (fm - (t - fr))) ∧ (fm ≠ (0 : Int) ∧ inR IntKind.i64 ((full * (fm - (t - fr))).tdiv fm)) ∧ (full * (fm - (t - fr))).tdiv fm = str full fm fr t)) ∧ (decide (t - fr < (0 : Int)) = true → (0 : Int) = str full fm fr t)) := by kernel_rfl
theorem s_strength : FSound Tryd.prog 26 c_strength := by
  refine fsound_of (Ctx.ok_of2 (M := Mx) (N := []) mixedA ok_of okD0 okB0) Tryd.func26 (by kernel_rfl) (by kernel_rfl) ?_
  intro us p v h hp
  unfold c_strength at h
  split at h
  · rename_i k0 lo k1 hi k2 fm k3 sk k4 fr k5 em k6 ki k7 od k8 px k9 py k10 full k11 t
    cases h
    have hp : (-1099511627776 ≤ fr ∧ fr ≤ 1099511627776) ∧ (-1099511627776 ≤ t ∧ t ≤ 1099511627776) ∧ (0 ≤ full ∧ full ≤ 32768) ∧ (0 ≤ fm ∧ fm ≤ 30) := hp
    refine ⟨rfl, noL, 400, [.v (.agg [.int .i64 false lo, .int .i64 false hi, .int .i64 false fm, .int .i64 false sk, .int .i64 false fr, .int .i64 false em, .int .i64 false ki, .int .i64 false od, .int .i32 false px, .int .i32 false py]), .v (.one (.int .i64 false full)), .v (.one (.int .i64 false t))], by simp [tmLe, svLe, vLe, lfLe, lfsLe, ifB, nmIs, idR], rfl, ?_⟩
    rw [nf_strength]
    obtain ⟨⟨h1, h2⟩, ⟨h3, h4⟩, ⟨h5, h6⟩, h7, h8⟩ := hp
    refine ⟨by simp only [inR, klo, khi]; omega, fun g1 => ⟨fun g2 => ?_, fun g2 => ?_⟩, fun g1 => ?_⟩
    · rw [decide_eq_true_eq] at g2
      rw [str, if_pos (Or.inr g2)]
    · rw [decide_eq_false_iff_not] at g1 g2
      have m1 : 0 ≤ full * (fm - (t - fr)) := Int.mul_nonneg h5 (by omega)
      have m2 : full * (fm - (t - fr)) ≤ 32768 * 30 := Int.mul_le_mul h6 (by omega) (by omega) (by omega)
      have m3 : (full * (fm - (t - fr))).tdiv fm = full * (fm - (t - fr)) / fm := Int.tdiv_eq_ediv_of_nonneg m1
      have m4 : 0 ≤ full * (fm - (t - fr)) / fm := Int.ediv_nonneg m1 h7
      have m5 : full * (fm - (t - fr)) / fm ≤ full * (fm - (t - fr)) := Int.ediv_le_self _ m1
      refine ⟨by simp only [inR, klo, khi]; omega, by simp only [inR, klo, khi]; omega, ⟨by omega, by rw [m3]; simp only [inR, klo, khi]; omega⟩, ?_⟩
      rw [str, if_neg (by omega)]
    · rw [decide_eq_true_eq] at g1
      rw [str, if_pos (Or.inl g1)]
  · cases h
noncomputable def Γ_strength : List (FuncId × FX) := (26, c_strength) :: Γ_of
theorem ok_strength : ΓOk Tryd.prog Γ_strength := ΓOk.cons (c := .pure c_strength) s_strength ok_of

noncomputable def c_within : FC := fun us => match us with
  | [.v (.one (.int .i64 _ n)), .v (.one (.int .i64 _ l)), .v (.one (.int .i64 _ m))] => some (none, .v (.one (.bool false (wb n l m))))
  | _ => none
theorem nf_within (n : Int) (l : Int) (m : Int) : goal ⟨Mx, Tryd.prog, Γ_strength, Δ0, B0, none, false, [], none⟩ noL 400 Tryd.f38 [.v (.one (.int .i64 false n)), .v (.one (.int .i64 false l)), .v (.one (.int .i64 false m))] [] (fun r _ => svLe idR r (.v (.one (.bool false (wb n l m))))) = ((decide (l ≤ n) = true → decide (n ≤ m) = wb n l m) ∧ (decide (l ≤ n) = false → false = wb n l m)) := by kernel_rfl
theorem s_within : FSound Tryd.prog 38 c_within := by
  refine fsound_of (Ctx.ok_of2 (M := Mx) (N := []) mixedA ok_strength okD0 okB0) Tryd.func38 (by kernel_rfl) (by kernel_rfl) ?_
  intro us p v h hp
  unfold c_within at h
  split at h
  · rename_i k0 n k1 l k2 m
    cases h
    refine ⟨rfl, noL, 400, [.v (.one (.int .i64 false n)), .v (.one (.int .i64 false l)), .v (.one (.int .i64 false m))], by simp [tmLe, svLe, vLe, lfLe, lfsLe, ifB, nmIs, idR], rfl, ?_⟩
    rw [nf_within]
    clear hp
    (repeat' (first | (refine And.intro ?_ ?_) | intro _)) <;> unfold wb <;> simp [*]
  · cases h
noncomputable def Γ_within : List (FuncId × FX) := (38, c_within) :: Γ_strength
theorem ok_within : ΓOk Tryd.prog Γ_within := ΓOk.cons (c := .pure c_within) s_within ok_strength

noncomputable def c_key : FC := fun us => match us with
  | [.v (.agg [.int .i64 _ fr, .int .i64 _ em, .int .i64 _ ki, .int .i64 _ od])] => some (none, .v (.one (.bool false (wb fr 0 1073741824 && wb em 0 2 && wb ki 1 9 && wb od 0 15))))
  | _ => none
theorem nf_key (fr : Int) (em : Int) (ki : Int) (od : Int) : goal ⟨Mx, Tryd.prog, Γ_within, Δ0, B0, none, false, [], none⟩ noL 400 Tryd.f37 [.v (.agg [.int .i64 false fr, .int .i64 false em, .int .i64 false ki, .int .i64 false od])] [] (fun r _ => svLe idR r (.v (.one (.bool false (wb fr 0 1073741824 && wb em 0 2 && wb ki 1 9 && wb od 0 15))))) = ((wb fr (0 : Int) (1073741824 : Int) = true → (wb em (0 : Int) (2 : Int) = true → (wb ki (1 : Int) (9 : Int) = true → wb od (0 : Int) (15 : Int) = (wb fr (0 : Int) (1073741824 : Int) && wb em (0 : Int) (2 : Int) && wb ki (1 : Int) (9 : Int) && wb od (0 : Int) (15 : Int))) ∧ (wb ki (1 : Int) (9 : Int) = false → false = (wb fr (0 : Int) (1073741824 : Int) && wb em (0 : Int) (2 : Int) && wb ki (1 : Int) (9 : Int) && wb od (0 : Int) (15 : Int)))) ∧ (wb em (0 : Int) (2 : Int) = false → false = (wb fr (0 : Int) (1073741824 : Int) && wb em (0 : Int) (2 : Int) && wb ki (1 : Int) (9 : Int) && wb od (0 : Int) (15 : Int)))) ∧ (wb fr (0 : Int) (1073741824 : Int) = false → false = (wb fr (0 : Int) (1073741824 : Int) && wb em (0 : Int) (2 : Int) && wb ki (1 : Int) (9 : Int) && wb od (0 : Int) (15 : Int)))) := by kernel_rfl
theorem s_key : FSound Tryd.prog 37 c_key := by
  refine fsound_of (Ctx.ok_of2 (M := Mx) (N := []) mixedA ok_within okD0 okB0) Tryd.func37 (by kernel_rfl) (by kernel_rfl) ?_
  intro us p v h hp
  unfold c_key at h
  split at h
  · rename_i k0 fr k1 em k2 ki k3 od
    cases h
    refine ⟨rfl, noL, 400, [.v (.agg [.int .i64 false fr, .int .i64 false em, .int .i64 false ki, .int .i64 false od])], by simp [tmLe, svLe, vLe, lfLe, lfsLe, ifB, nmIs, idR], rfl, ?_⟩
    rw [nf_key]
    clear hp
    (repeat' (first | (refine And.intro ?_ ?_) | intro _)) <;> simp [*]
  · cases h
noncomputable def Γ_key : List (FuncId × FX) := (37, c_key) :: Γ_within
theorem ok_key : ΓOk Tryd.prog Γ_key := ΓOk.cons (c := .pure c_key) s_key ok_within

noncomputable def c_right : FC := fun us => match us with
  | [.v (.agg [.int .i64 _ fr, .int .i64 _ em, .int .i64 _ ki, .int .i64 _ od, .int .i64 _ ass, .int .i64 _ gn, .int .i64 _ pn, .int .i64 _ pr, .int .i64 _ ln])] => some (none, .v (.one (.bool false ((wb fr 0 1073741824 && wb em 0 2 && wb ki 1 9 && wb od 0 15) && wb ass 0 31 && wb gn 0 32768 && wb pn (-32768) 32768 && wb pr 0 15 && wb ln 0 600))))
  | _ => none
theorem nf_right (fr : Int) (em : Int) (ki : Int) (od : Int) (ass : Int) (gn : Int) (pn : Int) (pr : Int) (ln : Int) : goal ⟨Mx, Tryd.prog, Γ_key, Δ0, B0, none, false, [], none⟩ noL 400 Tryd.f23 [.v (.agg [.int .i64 false fr, .int .i64 false em, .int .i64 false ki, .int .i64 false od, .int .i64 false ass, .int .i64 false gn, .int .i64 false pn, .int .i64 false pr, .int .i64 false ln])] [] (fun r _ => svLe idR r (.v (.one (.bool false ((wb fr 0 1073741824 && wb em 0 2 && wb ki 1 9 && wb od 0 15) && wb ass 0 31 && wb gn 0 32768 && wb pn (-32768) 32768 && wb pr 0 15 && wb ln 0 600))))) = (((wb fr (0 : Int) (1073741824 : Int) && wb em (0 : Int) (2 : Int) && wb ki (1 : Int) (9 : Int) && wb od (0 : Int) (15 : Int)) = true → (wb ass (0 : Int) (31 : Int) = true → (wb gn (0 : Int) (32768 : Int) = true → (wb pn (-32768 : Int) (32768 : Int) = true → (wb pr (0 : Int) (15 : Int) = true → wb ln (0 : Int) (600 : Int) = (wb fr (0 : Int) (1073741824 : Int) && wb em (0 : Int) (2 : Int) && wb ki (1 : Int) (9 : Int) && wb od (0 : Int) (15 : Int) && wb ass (0 : Int) (31 : Int) && wb gn (0 : Int) (32768 : Int) && wb pn (-32768 : Int) (32768 : Int) && wb pr (0 : Int) (15 : Int) && wb ln (0 : Int) (600 : Int))) ∧ (wb pr (0 : Int) (15 : Int) = false → false = (wb fr (0 : Int) (1073741824 : Int) && wb em (0 : Int) (2 : Int) && wb ki (1 : Int) (9 : Int) && wb od (0 : Int) (15 : Int) && wb ass (0 : Int) (31 : Int) && wb gn (0 : Int) (32768 : Int) && wb pn (-32768 : Int) (32768 : Int) && wb pr (0 : Int) (15 : Int) && wb ln (0 : Int) (600 : Int)))) ∧ (wb pn (-32768 : Int) (32768 : Int) = false → false = (wb fr (0 : Int) (1073741824 : Int) && wb em (0 : Int) (2 : Int) && wb ki (1 : Int) (9 : Int) && wb od (0 : Int) (15 : Int) && wb ass (0 : Int) (31 : Int) && wb gn (0 : Int) (32768 : Int) && wb pn (-32768 : Int) (32768 : Int) && wb pr (0 : Int) (15 : Int) && wb ln (0 : Int) (600 : Int)))) ∧ (wb gn (0 : Int) (32768 : Int) = false → false = (wb fr (0 : Int) (1073741824 : Int) && wb em (0 : Int) (2 : Int) && wb ki (1 : Int) (9 : Int) && wb od (0 : Int) (15 : Int) && wb ass (0 : Int) (31 : Int) && wb gn (0 : Int) (32768 : Int) && wb pn (-32768 : Int) (32768 : Int) && wb pr (0 : Int) (15 : Int) && wb ln (0 : Int) (600 : Int)))) ∧ (wb ass (0 : Int) (31 : Int) = false → false = (wb fr (0 : Int) (1073741824 : Int) && wb em (0 : Int) (2 : Int) && wb ki (1 : Int) (9 : Int) && wb od (0 : Int) (15 : Int) && wb ass (0 : Int) (31 : Int) && wb gn (0 : Int) (32768 : Int) && wb pn (-32768 : Int) (32768 : Int) && wb pr (0 : Int) (15 : Int) && wb ln (0 : Int) (600 : Int)))) ∧ ((wb fr (0 : Int) (1073741824 : Int) && wb em (0 : Int) (2 : Int) && wb ki (1 : Int) (9 : Int) && wb od (0 : Int) (15 : Int)) = false → false = (wb fr (0 : Int) (1073741824 : Int) && wb em (0 : Int) (2 : Int) && wb ki (1 : Int) (9 : Int) && wb od (0 : Int) (15 : Int) && wb ass (0 : Int) (31 : Int) && wb gn (0 : Int) (32768 : Int) && wb pn (-32768 : Int) (32768 : Int) && wb pr (0 : Int) (15 : Int) && wb ln (0 : Int) (600 : Int)))) := by kernel_rfl
theorem s_right : FSound Tryd.prog 23 c_right := by
  refine fsound_of (Ctx.ok_of2 (M := Mx) (N := []) mixedA ok_key okD0 okB0) Tryd.func23 (by kernel_rfl) (by kernel_rfl) ?_
  intro us p v h hp
  unfold c_right at h
  split at h
  · rename_i k0 fr k1 em k2 ki k3 od k4 ass k5 gn k6 pn k7 pr k8 ln
    cases h
    refine ⟨rfl, noL, 400, [.v (.agg [.int .i64 false fr, .int .i64 false em, .int .i64 false ki, .int .i64 false od, .int .i64 false ass, .int .i64 false gn, .int .i64 false pn, .int .i64 false pr, .int .i64 false ln])], by simp [tmLe, svLe, vLe, lfLe, lfsLe, ifB, nmIs, idR], rfl, ?_⟩
    rw [nf_right]
    clear hp
    (repeat' (first | (refine And.intro ?_ ?_) | intro _)) <;> simp [*]
  · cases h
noncomputable def Γ_right : List (FuncId × FX) := (23, c_right) :: Γ_key
theorem ok_right : ΓOk Tryd.prog Γ_right := ΓOk.cons (c := .pure c_right) s_right ok_key

end Go.Proofs.YtoanempchbejhaaDoor
