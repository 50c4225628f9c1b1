/- THE MIXER: WHATEVER IS DONE TO BOTH. Conditions: the contracts' own. Own work; the normal forms were printed by a program of mine (wip/rex). -/
import Derived.Test.YtljnddhldjaglaaRM12
import Derived.Test.YtljnddhldjaglaaRexP
namespace Go.Proofs.Ytljnddhldjaglaa
open Go.RowKit Rex
set_option linter.unusedVariables false
set_option linter.unusedSimpArgs false
set_option maxRecDepth 100000


def farB (kd by_ : Int) : Bool := decide (kd = 4) && (decide (200 < by_) && decide (by_ ≤ 4096))
/-- the voices behind a call -/
def doesL (xs : List RV) (ti kd fr em ki od ass gn pn pr ln by_ : Int) : List RV :=
  if kd = 1 then startL xs ti fr em ki od ass gn pn pr ln by_ else if kd = 2 then turnL xs ti fr em ki od ass gn pn pr ln else if kd = 3 then cancelL xs ti fr em ki od else xs
def doesT (ti kd by_ : Int) : Int := if kd = 4 then mixT ti by_ else ti
def okE (k : Nat) (e : Nat × Bool) : Prop := k ≤ e.1 ∧ (e.2 = true → e.1 = 0)
theorem mixT_bd {ti n : Int} (h : 0 ≤ ti ∧ ti ≤ 1099511627776) : 0 ≤ mixT ti n ∧ mixT ti n ≤ 1099511627776 := by
  unfold mixT
  split
  · rename_i h0
    unfold mixE at h0
    split at h0
    · omega
    · split at h0 <;> omega
  · exact h
theorem does_ok {xs : List RV} {ti : Int} (h : okB ti xs.length) (k : okC xs) (kd fr em ki od ass gn pn pr ln by_ : Int) :
    okB (doesT ti kd by_) (doesL xs ti kd fr em ki od ass gn pn pr ln by_).length ∧ okC (doesL xs ti kd fr em ki od ass gn pn pr ln by_) := by
  obtain ⟨h1, h2, h3⟩ := h
  have ht : 0 ≤ doesT ti kd by_ ∧ doesT ti kd by_ ≤ 1099511627776 := by
    unfold doesT
    split
    · exact mixT_bd ⟨h1, h2⟩
    · exact ⟨h1, h2⟩
  refine ⟨⟨ht.1, ht.2, ?_⟩, ?_⟩
  · unfold doesL
    split
    · exact startL_le h3
    · split
      · rw [turnL_len]; exact h3
      · split
        · rw [cancelL_len]; exact h3
        · exact h3
  · unfold doesL
    split
    · exact okC_start k _ _ _ _ _ _ _ _ _ _ _
    · split
      · exact okC_turn k _ _ _ _ _ _ _ _ _ _
      · split
        · exact okC_cancel k h1 _ _ _ _
        · exact k


noncomputable def c_far : FC := fun us => match us with
  | [.v (.agg [.int .i64 _ kd, .int .i64 _ fr, .int .i64 _ em, .int .i64 _ ki, .int .i64 _ od, .int .i64 _ ass, .int .i64 _ gn, .int .i64 _ pn, .int .i64 _ pr, .int .i64 _ ln, .int .i64 _ by_])] => some (none, .v (.one (.bool false (farB kd by_))))
  | _ => none
theorem nf_far (kd : Int) (fr : Int) (em : Int) (ki : Int) (od : Int) (ass : Int) (gn : Int) (pn : Int) (pr : Int) (ln : Int) (by_ : Int) : goal ⟨Mx, Try.prog, Γ_awake20, Δ_rSamples, B0, none, false, [], none⟩ noL 400 Try.f12 [.v (.agg [.int .i64 false kd, .int .i64 false fr, .int .i64 false em, .int .i64 false ki, .int .i64 false od, .int .i64 false ass, .int .i64 false gn, .int .i64 false pn, .int .i64 false pr, .int .i64 false ln, .int .i64 false by_])] [] (fun r _ => svLe idR r (.v (.one (.bool false (farB kd by_))))) = (((kd == (4 : Int)) = true → (decide ((200 : Int) < by_) = true → decide (by_ ≤ (4096 : Int)) = farB kd by_) ∧ (decide ((200 : Int) < by_) = false → false = farB kd by_)) ∧ ((kd == (4 : Int)) = false → false = farB kd by_)) := by kernel_rfl
theorem s_far : FSound Try.prog 12 c_far := by
  refine fsound_of (Ctx.ok_of2 (M := Mx) (N := []) mixedA ok_awake20 okD_rSamples okB0) Try.func12 (by kernel_rfl) (by kernel_rfl) ?_
  intro us p v h hp
  unfold c_far at h
  split at h
  · rename_i k0 kd k1 fr k2 em k3 ki k4 od k5 ass k6 gn k7 pn k8 pr k9 ln k10 by_
    cases h
    refine ⟨rfl, noL, 400, [.v (.agg [.int .i64 false kd, .int .i64 false fr, .int .i64 false em, .int .i64 false ki, .int .i64 false od, .int .i64 false ass, .int .i64 false gn, .int .i64 false pn, .int .i64 false pr, .int .i64 false ln, .int .i64 false by_])], by simp [tmLe, svLe, vLe, lfLe, lfsLe, ifB, nmIs, idR], rfl, ?_⟩
    rw [nf_far]
    clear hp
    unfold farB
    cases h1 : decide (kd = 4) <;> cases h2 : decide (200 < by_) <;> cases h3 : decide (by_ ≤ 4096) <;> simp_all
    all_goals omega
  · cases h
noncomputable def Γ_far : List (FuncId × FX) := (12, c_far) :: Γ_awake20
theorem ok_far : ΓOk Try.prog Γ_far := ΓOk.cons (c := .pure c_far) s_far ok_awake20

noncomputable def c_does : MC := fun us m K => match us with
  | [s, s2, .v (.agg [.int .i64 _ kd, .int .i64 _ fr, .int .i64 _ em, .int .i64 _ ki, .int .i64 _ od, .int .i64 _ ass, .int .i64 _ gn, .int .i64 _ pn, .int .i64 _ pr, .int .i64 _ ln, .int .i64 _ by_])] => match obS [.int .i64, .int .i64] shV [] 64 50 m s, obS [.int .i64, .int .i64] shV [] 54 50 m s2 with
    | some (q, y, x, z, n, c, xs, (vo, ti, ()), _), some (q2, y2, x2, z2, n2, c2, xs2, (vo2, ti2, ()), _) => q ∧ q2 ∧ ndN [y, x, y2, x2] [] = true ∧ ((xs2 = xs ∧ vo2 = vo ∧ ti2 = ti) ∧ okB ti xs.length ∧ okC xs) ∧ (∀ e : (Nat × Bool) × Nat × Bool, (okE (List.length (doesL xs ti kd fr em ki od ass gn pn pr ln by_)) e.1 ∧ okE (List.length (doesL xs ti kd fr em ki od ass gn pn pr ln by_)) e.2) → K ((.v (.one (.bool true (true))) : SV).ren (back [y, x, y2, x2] m.length)) (backM [y, x, y2, x2] [] m [some (.cells [.int .i64 false vo, .int .i64 false (doesT ti kd by_), .rs e.1.2 0 4 0 12 0 (List.length (doesL xs ti kd fr em ki od ass gn pn pr ln by_)) e.1.1] 64), none, some (.cells [.int .i64 false vo, .int .i64 false (doesT ti kd by_), .rs e.2.2 0 5 0 12 0 (List.length (doesL xs ti kd fr em ki od ass gn pn pr ln by_)) e.2.1] 54), none, some (.rows false e.1.2 shV (doesL xs ti kd fr em ki od ass gn pn pr ln by_) 0 e.1.1 50), some (.rows false e.2.2 shV (doesL xs ti kd fr em ki od ass gn pn pr ln by_) 0 e.2.1 50)]))
    | _, _ => False
  | _ => False
theorem nf_does (z : Bool) (c : Nat) (xs : List (Row shV)) (vo : Int) (ti : Int) (z2 : Bool) (c2 : Nat) (xs2 : List (Row shV)) (vo2 : Int) (ti2 : Int) (kd : Int) (fr : Int) (em : Int) (ki : Int) (od : Int) (ass : Int) (gn : Int) (pn : Int) (pr : Int) (ln : Int) (by_ : Int) : goal ⟨Mx, Try.prog, Γ_far, Δ_rSamples, B0, none, false, [], none⟩ (fun bk => match bk with | 700003 => some { S := Unit, st := fun s => ⟨[.v (.one (.ptr 4 0))], []⟩, ok := fun s => True, mu := fun s => 0, init := () } | 700005 => some { S := Unit, st := fun s => ⟨[.v (.one (.ptr 4 0))], []⟩, ok := fun s => True, mu := fun s => 0, init := () } | 700007 => some { S := Unit, st := fun s => ⟨[.v (.one (.ptr 4 0))], []⟩, ok := fun s => True, mu := fun s => 0, init := () } | _ => none) 400 Try.f21 [.v (.one (.ptr 0 0)), .v (.one (.ptr 2 0)), .v (.agg [.int .i64 false kd, .int .i64 false fr, .int .i64 false em, .int .i64 false ki, .int .i64 false od, .int .i64 false ass, .int .i64 false gn, .int .i64 false pn, .int .i64 false pr, .int .i64 false ln, .int .i64 false by_])] [some (.cells [.int .i64 false vo, .int .i64 false ti, .rs z 0 1 0 (List.length shV) 0 (List.length xs) c] 64), some (.rows false z shV xs 0 c 50), some (.cells [.int .i64 false vo2, .int .i64 false ti2, .rs z2 0 3 0 (List.length shV) 0 (List.length xs2) c2] 54), some (.rows false z2 shV xs2 0 c2 50)] (fun r m' => ∃ e : (Nat × Bool) × Nat × Bool, (okE (List.length (doesL xs ti kd fr em ki od ass gn pn pr ln by_)) e.1 ∧ okE (List.length (doesL xs ti kd fr em ki od ass gn pn pr ln by_)) e.2) ∧ stLe 4 ⟨[r], m'⟩ ⟨[.v (.one (.bool true (true)))], [some (.cells [.int .i64 false vo, .int .i64 false (doesT ti kd by_), .rs e.1.2 0 4 0 12 0 (List.length (doesL xs ti kd fr em ki od ass gn pn pr ln by_)) e.1.1] 64), none, some (.cells [.int .i64 false vo, .int .i64 false (doesT ti kd by_), .rs e.2.2 0 5 0 12 0 (List.length (doesL xs ti kd fr em ki od ass gn pn pr ln by_)) e.2.1] 54), none, some (.rows false e.1.2 shV (doesL xs ti kd fr em ki od ass gn pn pr ln by_) 0 e.1.1 50), some (.rows false e.2.2 shV (doesL xs ti kd fr em ki od ass gn pn pr ln by_) 0 e.2.1 50)]⟩) = (((kd == (1 : Int)) = true → (xs.length = xs.length ∧ z = z ∧ c = c ∧ (z = true → c = (0 : Nat))) ∧ okB ti xs.length ∧ ∀ (e : Nat × Bool), (startL xs ti fr em ki od ass gn pn pr ln by_).length ≤ e.fst ∧ (e.snd = true → e.fst = (0 : Nat)) → (kd = kd ∧ fr = fr ∧ em = em ∧ ki = ki ∧ od = od ∧ ass = ass ∧ gn = gn ∧ pn = pn ∧ pr = pr ∧ ln = ln ∧ by_ = by_) ∧ (xs2.length = xs2.length ∧ z2 = z2 ∧ c2 = c2 ∧ (z2 = true → c2 = (0 : Nat))) ∧ (okB ti2 xs2.length ∧ okC xs2) ∧ ∀ (e_1 : Nat × Bool), (startL xs2 ti2 fr em ki od ass gn pn pr ln by_).length ≤ e_1.fst ∧ (e_1.snd = true → e_1.fst = (0 : Nat)) → (kd = kd ∧ fr = fr ∧ em = em ∧ ki = ki ∧ od = od ∧ ass = ass ∧ gn = gn ∧ pn = pn ∧ pr = pr ∧ ln = ln ∧ by_ = by_) ∧ ∃ (e_2 : (Nat × Bool) × Nat × Bool), (okE (doesL xs ti kd fr em ki od ass gn pn pr ln by_).length e_2.fst ∧ okE (doesL xs ti kd fr em ki od ass gn pn pr ln by_).length e_2.snd) ∧ ((startE xs ti fr em ki od ass gn pn pr ln by_ == startE xs2 ti2 fr em ki od ass gn pn pr ln by_) = true ∧ True) ∧ (vo = vo ∧ ti = doesT ti kd by_ ∧ (e.snd = e_2.fst.snd ∧ (0 : Nat) = (0 : Nat) ∧ (0 : Nat) = (0 : Nat) ∧ (startL xs ti fr em ki od ass gn pn pr ln by_).length = (doesL xs ti kd fr em ki od ass gn pn pr ln by_).length ∧ e.fst = e_2.fst.fst) ∧ True) ∧ (vo2 = vo ∧ ti2 = doesT ti kd by_ ∧ (e_1.snd = e_2.snd.snd ∧ (0 : Nat) = (0 : Nat) ∧ (0 : Nat) = (0 : Nat) ∧ (startL xs2 ti2 fr em ki od ass gn pn pr ln by_).length = (doesL xs ti kd fr em ki od ass gn pn pr ln by_).length ∧ e_1.fst = e_2.snd.fst) ∧ True) ∧ (e.snd = e_2.fst.snd ∧ (0 : Nat) = (0 : Nat) ∧ e.fst = e_2.fst.fst ∧ List.take (doesL xs ti kd fr em ki od ass gn pn pr ln by_).length (startL xs ti fr em ki od ass gn pn pr ln by_) = doesL xs ti kd fr em ki od ass gn pn pr ln by_) ∧ (e_1.snd = e_2.snd.snd ∧ (0 : Nat) = (0 : Nat) ∧ e_1.fst = e_2.snd.fst ∧ List.take (doesL xs ti kd fr em ki od ass gn pn pr ln by_).length (startL xs2 ti2 fr em ki od ass gn pn pr ln by_) = doesL xs ti kd fr em ki od ass gn pn pr ln by_) ∧ True) ∧ ((kd == (1 : Int)) = false → ((kd == (2 : Int)) = true → (xs.length = xs.length ∧ z = z ∧ c = c ∧ (z = true → c = (0 : Nat))) ∧ xs.length ≤ (64 : Nat) ∧ ∀ (e : Unit), True → (kd = kd ∧ fr = fr ∧ em = em ∧ ki = ki ∧ od = od ∧ ass = ass ∧ gn = gn ∧ pn = pn ∧ pr = pr ∧ ln = ln ∧ by_ = by_) ∧ (xs2.length = xs2.length ∧ z2 = z2 ∧ c2 = c2 ∧ (z2 = true → c2 = (0 : Nat))) ∧ (xs2.length ≤ (64 : Nat) ∧ okC xs2) ∧ ∀ (e : Unit), True → (kd = kd ∧ fr = fr ∧ em = em ∧ ki = ki ∧ od = od ∧ ass = ass ∧ gn = gn ∧ pn = pn ∧ pr = pr ∧ ln = ln ∧ by_ = by_) ∧ ∃ (e : (Nat × Bool) × Nat × Bool), (okE (doesL xs ti kd fr em ki od ass gn pn pr ln by_).length e.fst ∧ okE (doesL xs ti kd fr em ki od ass gn pn pr ln by_).length e.snd) ∧ ((turnE xs ti fr em ki od ass gn pn pr ln == turnE xs2 ti2 fr em ki od ass gn pn pr ln) = true ∧ True) ∧ (vo = vo ∧ ti = doesT ti kd by_ ∧ (z = e.fst.snd ∧ (0 : Nat) = (0 : Nat) ∧ (0 : Nat) = (0 : Nat) ∧ (turnL xs ti fr em ki od ass gn pn pr ln).length = (doesL xs ti kd fr em ki od ass gn pn pr ln by_).length ∧ c = e.fst.fst) ∧ True) ∧ (vo2 = vo ∧ ti2 = doesT ti kd by_ ∧ (z2 = e.snd.snd ∧ (0 : Nat) = (0 : Nat) ∧ (0 : Nat) = (0 : Nat) ∧ (turnL xs2 ti2 fr em ki od ass gn pn pr ln).length = (doesL xs ti kd fr em ki od ass gn pn pr ln by_).length ∧ c2 = e.snd.fst) ∧ True) ∧ (z = e.fst.snd ∧ (0 : Nat) = (0 : Nat) ∧ c = e.fst.fst ∧ List.take (doesL xs ti kd fr em ki od ass gn pn pr ln by_).length (turnL xs ti fr em ki od ass gn pn pr ln) = doesL xs ti kd fr em ki od ass gn pn pr ln by_) ∧ (z2 = e.snd.snd ∧ (0 : Nat) = (0 : Nat) ∧ c2 = e.snd.fst ∧ List.take (doesL xs ti kd fr em ki od ass gn pn pr ln by_).length (turnL xs2 ti2 fr em ki od ass gn pn pr ln) = doesL xs ti kd fr em ki od ass gn pn pr ln by_) ∧ True) ∧ ((kd == (2 : Int)) = false → ((kd == (3 : Int)) = true → (xs.length = xs.length ∧ z = z ∧ c = c ∧ (z = true → c = (0 : Nat))) ∧ xs.length ≤ (64 : Nat) ∧ ∀ (e : Unit), True → (kd = kd ∧ fr = fr ∧ em = em ∧ ki = ki ∧ od = od ∧ ass = ass ∧ gn = gn ∧ pn = pn ∧ pr = pr ∧ ln = ln ∧ by_ = by_) ∧ (xs2.length = xs2.length ∧ z2 = z2 ∧ c2 = c2 ∧ (z2 = true → c2 = (0 : Nat))) ∧ (xs2.length ≤ (64 : Nat) ∧ okC xs2) ∧ ∀ (e : Unit), True → (kd = kd ∧ fr = fr ∧ em = em ∧ ki = ki ∧ od = od ∧ ass = ass ∧ gn = gn ∧ pn = pn ∧ pr = pr ∧ ln = ln ∧ by_ = by_) ∧ ∃ (e : (Nat × Bool) × Nat × Bool), (okE (doesL xs ti kd fr em ki od ass gn pn pr ln by_).length e.fst ∧ okE (doesL xs ti kd fr em ki od ass gn pn pr ln by_).length e.snd) ∧ (((if fndV xs fr em ki od ti < (0 : Int) then (6 : Int) else (0 : Int)) == if fndV xs2 fr em ki od ti2 < (0 : Int) then (6 : Int) else (0 : Int)) = true ∧ True) ∧ (vo = vo ∧ ti = doesT ti kd by_ ∧ (z = e.fst.snd ∧ (0 : Nat) = (0 : Nat) ∧ (0 : Nat) = (0 : Nat) ∧ (cancelL xs ti fr em ki od).length = (doesL xs ti kd fr em ki od ass gn pn pr ln by_).length ∧ c = e.fst.fst) ∧ True) ∧ (vo2 = vo ∧ ti2 = doesT ti kd by_ ∧ (z2 = e.snd.snd ∧ (0 : Nat) = (0 : Nat) ∧ (0 : Nat) = (0 : Nat) ∧ (cancelL xs2 ti2 fr em ki od).length = (doesL xs ti kd fr em ki od ass gn pn pr ln by_).length ∧ c2 = e.snd.fst) ∧ True) ∧ (z = e.fst.snd ∧ (0 : Nat) = (0 : Nat) ∧ c = e.fst.fst ∧ List.take (doesL xs ti kd fr em ki od ass gn pn pr ln by_).length (cancelL xs ti fr em ki od) = doesL xs ti kd fr em ki od ass gn pn pr ln by_) ∧ (z2 = e.snd.snd ∧ (0 : Nat) = (0 : Nat) ∧ c2 = e.snd.fst ∧ List.take (doesL xs ti kd fr em ki od ass gn pn pr ln by_).length (cancelL xs2 ti2 fr em ki od) = doesL xs ti kd fr em ki od ass gn pn pr ln by_) ∧ True) ∧ ((kd == (3 : Int)) = false → ((kd == (4 : Int)) = true → (xs.length = xs.length ∧ z = z ∧ c = c ∧ (z = true → c = (0 : Nat))) ∧ okB ti xs.length ∧ ∀ (e : Unit), True → (xs2.length = xs2.length ∧ z2 = z2 ∧ c2 = c2 ∧ (z2 = true → c2 = (0 : Nat))) ∧ okB ti2 xs2.length ∧ ∀ (e : Nat × Bool), (mixR xs2 vo2 ti2 by_).length ≤ e.fst ∧ (e.snd = true → e.fst = (0 : Nat)) → ((mixR xs vo ti by_).length = (mixR xs vo ti by_).length ∧ (!decide (mixE ti by_ = (0 : Int))) = !decide (mixE ti by_ = (0 : Int)) ∧ (0 : Nat) = (0 : Nat)) ∧ ((mixR xs2 vo2 ti2 by_).length = (mixR xs2 vo2 ti2 by_).length ∧ e.snd = e.snd ∧ (0 : Nat) = (0 : Nat)) ∧ ((mixR xs vo ti by_).length ≤ (8192 : Nat) ∧ (mixR xs2 vo2 ti2 by_).length ≤ (8192 : Nat)) ∧ ∀ (e : Unit), True → (eqB (mixR xs vo ti by_) (mixR xs2 vo2 ti2 by_) = true → ∃ (e : (Nat × Bool) × Nat × Bool), (okE (doesL xs ti kd fr em ki od ass gn pn pr ln by_).length e.fst ∧ okE (doesL xs ti kd fr em ki od ass gn pn pr ln by_).length e.snd) ∧ ((mixE ti by_ == mixE ti2 by_) = true ∧ True) ∧ (vo = vo ∧ mixT ti by_ = doesT ti kd by_ ∧ (z = e.fst.snd ∧ (0 : Nat) = (0 : Nat) ∧ (0 : Nat) = (0 : Nat) ∧ xs.length = (doesL xs ti kd fr em ki od ass gn pn pr ln by_).length ∧ c = e.fst.fst) ∧ True) ∧ (vo2 = vo ∧ mixT ti2 by_ = doesT ti kd by_ ∧ (z2 = e.snd.snd ∧ (0 : Nat) = (0 : Nat) ∧ (0 : Nat) = (0 : Nat) ∧ xs2.length = (doesL xs ti kd fr em ki od ass gn pn pr ln by_).length ∧ c2 = e.snd.fst) ∧ True) ∧ (z = e.fst.snd ∧ (0 : Nat) = (0 : Nat) ∧ c = e.fst.fst ∧ List.take (doesL xs ti kd fr em ki od ass gn pn pr ln by_).length xs = doesL xs ti kd fr em ki od ass gn pn pr ln by_) ∧ (z2 = e.snd.snd ∧ (0 : Nat) = (0 : Nat) ∧ c2 = e.snd.fst ∧ List.take (doesL xs ti kd fr em ki od ass gn pn pr ln by_).length xs2 = doesL xs ti kd fr em ki od ass gn pn pr ln by_) ∧ True) ∧ (eqB (mixR xs vo ti by_) (mixR xs2 vo2 ti2 by_) = false → ∃ (e : (Nat × Bool) × Nat × Bool), (okE (doesL xs ti kd fr em ki od ass gn pn pr ln by_).length e.fst ∧ okE (doesL xs ti kd fr em ki od ass gn pn pr ln by_).length e.snd) ∧ (false = true ∧ True) ∧ (vo = vo ∧ mixT ti by_ = doesT ti kd by_ ∧ (z = e.fst.snd ∧ (0 : Nat) = (0 : Nat) ∧ (0 : Nat) = (0 : Nat) ∧ xs.length = (doesL xs ti kd fr em ki od ass gn pn pr ln by_).length ∧ c = e.fst.fst) ∧ True) ∧ (vo2 = vo ∧ mixT ti2 by_ = doesT ti kd by_ ∧ (z2 = e.snd.snd ∧ (0 : Nat) = (0 : Nat) ∧ (0 : Nat) = (0 : Nat) ∧ xs2.length = (doesL xs ti kd fr em ki od ass gn pn pr ln by_).length ∧ c2 = e.snd.fst) ∧ True) ∧ (z = e.fst.snd ∧ (0 : Nat) = (0 : Nat) ∧ c = e.fst.fst ∧ List.take (doesL xs ti kd fr em ki od ass gn pn pr ln by_).length xs = doesL xs ti kd fr em ki od ass gn pn pr ln by_) ∧ (z2 = e.snd.snd ∧ (0 : Nat) = (0 : Nat) ∧ c2 = e.snd.fst ∧ List.take (doesL xs ti kd fr em ki od ass gn pn pr ln by_).length xs2 = doesL xs ti kd fr em ki od ass gn pn pr ln by_) ∧ True)) ∧ ((kd == (4 : Int)) = false → ∃ (e : (Nat × Bool) × Nat × Bool), (okE (doesL xs ti kd fr em ki od ass gn pn pr ln by_).length e.fst ∧ okE (doesL xs ti kd fr em ki od ass gn pn pr ln by_).length e.snd) ∧ (true = true ∧ True) ∧ (vo = vo ∧ ti = doesT ti kd by_ ∧ (z = e.fst.snd ∧ (0 : Nat) = (0 : Nat) ∧ (0 : Nat) = (0 : Nat) ∧ xs.length = (doesL xs ti kd fr em ki od ass gn pn pr ln by_).length ∧ c = e.fst.fst) ∧ True) ∧ (vo2 = vo ∧ ti2 = doesT ti kd by_ ∧ (z2 = e.snd.snd ∧ (0 : Nat) = (0 : Nat) ∧ (0 : Nat) = (0 : Nat) ∧ xs2.length = (doesL xs ti kd fr em ki od ass gn pn pr ln by_).length ∧ c2 = e.snd.fst) ∧ True) ∧ (z = e.fst.snd ∧ (0 : Nat) = (0 : Nat) ∧ c = e.fst.fst ∧ List.take (doesL xs ti kd fr em ki od ass gn pn pr ln by_).length xs = doesL xs ti kd fr em ki od ass gn pn pr ln by_) ∧ (z2 = e.snd.snd ∧ (0 : Nat) = (0 : Nat) ∧ c2 = e.snd.fst ∧ List.take (doesL xs ti kd fr em ki od ass gn pn pr ln by_).length xs2 = doesL xs ti kd fr em ki od ass gn pn pr ln by_) ∧ True))))) := by kernel_rfl
theorem s_does : MSound Try.prog 21 c_does := by
  refine osound2 (Ctx.ok_of2 (M := Mx) (N := []) mixedA ok_far okD_rSamples okB0) Try.func21 (by kernel_rfl) (by kernel_rfl) (fun us m K h => ?_)
  unfold c_does at h
  split at h
  · rename_i s s2 k0_0 kd k0_1 fr k0_2 em k0_3 ki k0_4 od k0_5 ass k0_6 gn k0_7 pn k0_8 pr k0_9 ln k0_10 by_
    split at h
    · rename_i q y x z n c xs vo ti rb q2 y2 x2 z2 n2 c2 xs2 vo2 ti2 rb2 hob hob2
      obtain ⟨hq, hq2, hnd, h⟩ := h
      obtain ⟨hp, h⟩ := h
      refine ⟨(Nat × Bool) × Nat × Bool, fun e => okE (List.length (doesL xs ti kd fr em ki od ass gn pn pr ln by_)) e.1 ∧ okE (List.length (doesL xs ti kd fr em ki od ass gn pn pr ln by_)) e.2, [.int .i64, .int .i64], shV, [], 64, 50, q, y, x, z, n, c, xs, (vo, ti, ()), rb, [.int .i64 false vo, .int .i64 false ti, .rs z 0 1 0 (List.length shV) 0 n c], [.int .i64, .int .i64], shV, [], 54, 50, q2, y2, x2, z2, n2, c2, xs2, (vo2, ti2, ()), rb2, [.int .i64 false vo2, .int .i64 false ti2, .rs z2 0 3 0 (List.length shV) 0 n2 c2], s, s2, [.v (.agg [.int .i64 k0_0 kd, .int .i64 k0_1 fr, .int .i64 k0_2 em, .int .i64 k0_3 ki, .int .i64 k0_4 od, .int .i64 k0_5 ass, .int .i64 k0_6 gn, .int .i64 k0_7 pn, .int .i64 k0_8 pr, .int .i64 k0_9 ln, .int .i64 k0_10 by_])], [.v (.agg [.int .i64 false kd, .int .i64 false fr, .int .i64 false em, .int .i64 false ki, .int .i64 false od, .int .i64 false ass, .int .i64 false gn, .int .i64 false pn, .int .i64 false pr, .int .i64 false ln, .int .i64 false by_])], (fun bk => match bk with | 700003 => some { S := Unit, st := fun s => ⟨[.v (.one (.ptr 4 0))], []⟩, ok := fun s => True, mu := fun s => 0, init := () } | 700005 => some { S := Unit, st := fun s => ⟨[.v (.one (.ptr 4 0))], []⟩, ok := fun s => True, mu := fun s => 0, init := () } | 700007 => some { S := Unit, st := fun s => ⟨[.v (.one (.ptr 4 0))], []⟩, ok := fun s => True, mu := fun s => 0, init := () } | _ => none), 400, fun e => .v (.one (.bool true (true))), fun e => [some (.cells [.int .i64 false vo, .int .i64 false (doesT ti kd by_), .rs e.1.2 0 4 0 12 0 (List.length (doesL xs ti kd fr em ki od ass gn pn pr ln by_)) e.1.1] 64), none, some (.cells [.int .i64 false vo, .int .i64 false (doesT ti kd by_), .rs e.2.2 0 5 0 12 0 (List.length (doesL xs ti kd fr em ki od ass gn pn pr ln by_)) e.2.1] 54), none, some (.rows false e.1.2 shV (doesL xs ti kd fr em ki od ass gn pn pr ln by_) 0 e.1.1 50), some (.rows false e.2.2 shV (doesL xs ti kd fr em ki od ass gn pn pr ln by_) 0 e.2.1 50)], (fun r m' => ∃ e : (Nat × Bool) × Nat × Bool, (okE (List.length (doesL xs ti kd fr em ki od ass gn pn pr ln by_)) e.1 ∧ okE (List.length (doesL xs ti kd fr em ki od ass gn pn pr ln by_)) e.2) ∧ stLe 4 ⟨[r], m'⟩ ⟨[.v (.one (.bool true (true)))], [some (.cells [.int .i64 false vo, .int .i64 false (doesT ti kd by_), .rs e.1.2 0 4 0 12 0 (List.length (doesL xs ti kd fr em ki od ass gn pn pr ln by_)) e.1.1] 64), none, some (.cells [.int .i64 false vo, .int .i64 false (doesT ti kd by_), .rs e.2.2 0 5 0 12 0 (List.length (doesL xs ti kd fr em ki od ass gn pn pr ln by_)) e.2.1] 54), none, some (.rows false e.1.2 shV (doesL xs ti kd fr em ki od ass gn pn pr ln by_) 0 e.1.1 50), some (.rows false e.2.2 shV (doesL xs ti kd fr em ki od ass gn pn pr ln by_) 0 e.2.1 50)]⟩), rfl, ⟨hob, hq⟩, ⟨hob2, hq2⟩, hnd, ⟨by simp [tmLe, svLe, vLe, lfLe, lfsLe, ifB, nmIs, idR], rfl⟩, fun _ => rfl, ⟨rfl, rfl⟩, fun hn hz hlc hzl => ?_, fun r m' hr => hr, fun e he => h e he⟩
      obtain ⟨hn, hn2⟩ := hn
      subst hn hn2
      refine by_nfG (nf_does z c xs vo ti z2 c2 xs2 vo2 ti2 kd fr em ki od ass gn pn pr ln by_) ?_
      clear h hob hob2 hq hq2 hnd
      obtain ⟨⟨h1, h2, h3⟩, hok, hoc⟩ := hp
      subst h1 h2 h3
      simp only [eq_self_iff_true, true_and, and_true, Int.toNat_natCast, implies_true, decide_eq_true_eq, decide_eq_false_iff_not, bne_iff_ne, bne_eq_false_iff_eq, ne_eq, Decidable.not_not, inR, klo, khi, Bool.not_eq_true', Bool.not_eq_false', beq_iff_eq, beq_eq_false_iff_ne, List.take_length, List.append_eq]
      obtain ⟨hz1, hz2⟩ := hz
      obtain ⟨hl1, hl2⟩ := hlc
      have b3 := hok.2.2
      have tl : ∀ L : List RV, List.take L.length L = L := fun L => List.take_length
      have fin : ∀ (L : List RV) (T : Int) (a b : Nat × Bool), (doesL xs2 ti2 kd fr em ki od ass gn pn pr ln by_) = L → doesT ti2 kd by_ = T → okE L.length a → okE L.length b → ∃ e : (Nat × Bool) × Nat × Bool, (okE (doesL xs2 ti2 kd fr em ki od ass gn pn pr ln by_).length e.1 ∧ okE (doesL xs2 ti2 kd fr em ki od ass gn pn pr ln by_).length e.2) ∧ (T = doesT ti2 kd by_ ∧ a.2 = e.1.2 ∧ L.length = (doesL xs2 ti2 kd fr em ki od ass gn pn pr ln by_).length ∧ a.1 = e.1.1) ∧ (T = doesT ti2 kd by_ ∧ b.2 = e.2.2 ∧ L.length = (doesL xs2 ti2 kd fr em ki od ass gn pn pr ln by_).length ∧ b.1 = e.2.1) ∧ (a.2 = e.1.2 ∧ a.1 = e.1.1 ∧ List.take (doesL xs2 ti2 kd fr em ki od ass gn pn pr ln by_).length L = (doesL xs2 ti2 kd fr em ki od ass gn pn pr ln by_)) ∧ b.2 = e.2.2 ∧ b.1 = e.2.1 ∧ List.take (doesL xs2 ti2 kd fr em ki od ass gn pn pr ln by_).length L = (doesL xs2 ti2 kd fr em ki od ass gn pn pr ln by_) := by
        intro L T a b hL hT ha hb
        subst hL hT
        exact ⟨(a, b), ⟨ha, hb⟩, ⟨rfl, rfl, rfl, rfl⟩, ⟨rfl, rfl, rfl, rfl⟩, ⟨rfl, rfl, tl _⟩, rfl, rfl, tl _⟩
      refine ⟨fun k1 => ⟨hz1, hok, fun e he => ⟨hz2, ⟨hok, hoc⟩, fun e2 he2 => ?_⟩⟩, fun k1 => ⟨fun k2 => ⟨hz1, b3, fun _ _ => ⟨hz2, ⟨b3, hoc⟩, fun _ _ => ?_⟩⟩, fun k2 => ⟨fun k3 => ⟨hz1, b3, fun _ _ => ⟨hz2, ⟨b3, hoc⟩, fun _ _ => ?_⟩⟩, fun k3 => ⟨fun k4 => ⟨hz1, hok, fun _ _ => ⟨hz2, hok, fun e he => ⟨?_, fun _ _ => ⟨fun hs => ?_, fun hs => ?_⟩⟩⟩⟩, fun k4 => ?_⟩⟩⟩⟩
      · exact fin _ _ e e2 (by unfold doesL; rw [if_pos k1]) (by unfold doesT; rw [if_neg (by omega)]) he he2
      · exact fin _ _ (c, z) (c2, z2) (by unfold doesL; rw [if_neg k1, if_pos k2]) (by unfold doesT; rw [if_neg (by omega)]) ⟨by rw [turnL_len]; exact hl1, hz1⟩ ⟨by rw [turnL_len]; exact hl2, hz2⟩
      · exact fin _ _ (c, z) (c2, z2) (by unfold doesL; rw [if_neg k1, if_neg k2, if_pos k3]) (by unfold doesT; rw [if_neg (by omega)]) ⟨by rw [cancelL_len]; exact hl1, hz1⟩ ⟨by rw [cancelL_len]; exact hl2, hz2⟩
      · have : (mixR xs2 vo2 ti2 by_).length ≤ 8192 := by
          unfold mixR
          split
          · rename_i h0
            rw [mixS_len]
            unfold mixE at h0
            split at h0
            · omega
            · omega
          · exact Nat.zero_le _
        exact ⟨this, this⟩
      · exact fin _ _ (c, z) (c2, z2) (by unfold doesL; rw [if_neg k1, if_neg k2, if_neg k3]) (by unfold doesT; rw [if_pos k4]) ⟨hl1, hz1⟩ ⟨hl2, hz2⟩
      · rw [eqB_true rfl] at hs; cases hs
      · exact fin _ _ (c, z) (c2, z2) (by unfold doesL; rw [if_neg k1, if_neg k2, if_neg k3]) (by unfold doesT; rw [if_neg k4]) ⟨hl1, hz1⟩ ⟨hl2, hz2⟩
    · exact h.elim
  · exact h.elim
noncomputable def Δ_does : List (FuncId × MC) := (21, c_does) :: Δ_rSamples
theorem okD_does : ΔOk Try.prog Δ_does := ΔOk.cons s_does okD_rSamples

end Go.Proofs.Ytljnddhldjaglaa
