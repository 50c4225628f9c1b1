/- THE MIXER: WHAT IS CANCELLED IS SILENT SOON: THE PLAIN LAW. Conditions: the contracts' own. Own work; the normal forms were printed by a program of mine (wip/rex). -/
import Derived.Test.YtljnddhldjaglaaRM10
namespace Go.Proofs.Ytljnddhldjaglaa
open Go.RowKit Rex
set_option linter.unusedVariables false
set_option linter.unusedSimpArgs false
set_option maxRecDepth 100000


def farB (kd by_ : Int) : Bool := decide (kd = 4) && (decide (200 < by_) && decide (by_ ≤ 4096))
def okE (k : Nat) (e : Nat × Bool) : Prop := k ≤ e.1 ∧ (e.2 = true → e.1 = 0)
theorem wb_iff {n l m : Int} : wb n l m = true ↔ l ≤ n ∧ n ≤ m := by unfold wb; simp
def rgV (p : RV) : Bool := rightB p.2.2.2.2.1 p.2.2.2.2.2.1 p.2.2.2.2.2.2.1 p.2.2.2.2.2.2.2.2.1 p.2.2.2.2.2.2.2.2.2.1 p.2.2.2.2.2.2.2.2.2.2.1 p.2.2.2.2.2.2.2.2.2.2.2.1
/-- of each voice: it may be; it began before now; it is cancelled before now, or not at all -/
def okQ (xs : List RV) (ti : Int) : Prop := ∀ p ∈ xs, (p.2.2.2.2.2.2.2.2.2.1 ≤ ti ∧ p.2.2.2.2.2.2.2.2.2.2.2.1 ≤ ti) ∧ rgV p = true
theorem okQ_at {xs : List RV} {ti : Int} (h : okQ xs ti) {i : Nat} (hi : i < xs.length) : ((getR xs i).2.2.2.2.2.2.2.2.2.1 ≤ ti ∧ (getR xs i).2.2.2.2.2.2.2.2.2.2.2.1 ≤ ti) ∧ rgV (getR xs i) = true := h _ (gR_mem hi)
theorem okQ_nil (ti : Int) : okQ [] ti := fun p hp => by cases hp
theorem okQ_mono {xs : List RV} {ti t : Int} (h : okQ xs ti) (k : ti ≤ t) : okQ xs t := fun p hp => by
  have h1 := h p hp
  exact ⟨⟨Int.le_trans h1.1.1 k, Int.le_trans h1.1.2 k⟩, h1.2⟩
theorem okQ_keep {xs : List RV} {ti : Int} (h : okQ xs ti) (t : Int) : okQ (keepO xs t) ti := fun p hp => h p (List.mem_filter.1 hp).1
theorem okQ_set {xs : List RV} {ti : Int} (h : okQ xs ti) {i : Nat} {r : RV} (hr : (r.2.2.2.2.2.2.2.2.2.1 ≤ ti ∧ r.2.2.2.2.2.2.2.2.2.2.2.1 ≤ ti) ∧ rgV r = true) : okQ (xs.set i r) ti := fun p hp => by
  rcases List.mem_or_eq_of_mem_set hp with hp | rfl
  · exact h p hp
  · exact hr
theorem rightE_facts {fr em ki od ass gn pn pr ln : Int} (h : rightE fr em ki od ass gn pn pr ln = true) : (0 ≤ gn ∧ gn ≤ 32768) ∧ (-32768 ≤ pn ∧ pn ≤ 32768) ∧ (0 ≤ ln ∧ ln ≤ 600) := by
  unfold rightE at h
  simp only [Bool.and_eq_true, wb_iff] at h
  exact ⟨h.1.1.1.2, h.1.1.2, h.2⟩
theorem okQ_start {xs : List RV} {ti : Int} (h0 : 0 ≤ ti ∧ ti ≤ 1099511627776) (h : okQ xs ti) (fr em ki od ass gn pn pr ln late : Int) : okQ (startL xs ti fr em ki od ass gn pn pr ln late) ti := by
  unfold startL
  split
  · rename_i hE
    have hc : rightE fr em ki od ass gn pn pr ln = true ∧ (0 ≤ late ∧ late ≤ 1073741824) ∧ withinB ass 1 9 = true := by
      unfold startE at hE
      split at hE
      · omega
      · rename_i h1
        split at hE
        · omega
        · rename_i h2
          refine ⟨?_, ?_, by simpa using h2⟩
          · cases hr : rightE fr em ki od ass gn pn pr ln with
            | true => rfl
            | false => exact absurd (.inl hr) h1
          · omega
    intro p hp
    rcases List.mem_append.1 hp with hp | hp
    · exact okQ_keep h ti p hp
    · obtain rfl := List.mem_singleton.1 hp
      obtain ⟨f1, f2, f3⟩ := rightE_facts hc.1
      refine ⟨⟨Int.le_refl _, show (-1 : Int) ≤ ti by omega⟩, right_facts.2 ⟨within_iff.1 hc.2.2, f1, f2, f3, h0, ?_, .inl rfl⟩⟩
      show 0 ≤ late * 32 ∧ late * 32 ≤ 1099511627776
      omega
  · split
    · exact okQ_keep h ti
    · exact h
theorem okQ_turn {xs : List RV} {ti : Int} (h : okQ xs ti) (fr em ki od ass gn pn pr ln : Int) : okQ (turnL xs ti fr em ki od ass gn pn pr ln) ti := by
  unfold turnL
  split
  · rename_i h0
    have hc : rightE fr em ki od ass gn pn pr ln = true ∧ ¬ (fndV xs fr em ki od ti < 0 ∨ (getR xs (fndV xs fr em ki od ti).toNat).2.2.2.2.1 ≠ ass ∨ (getR xs (fndV xs fr em ki od ti).toNat).2.2.2.2.2.2.2.2.1 ≠ ln) := by
      unfold turnE at h0
      split at h0
      · omega
      · rename_i h1
        split at h0
        · omega
        · rename_i h2
          exact ⟨by simpa using h1, h2⟩
    obtain ⟨i, hi, hlt⟩ := fnd_nat xs fr em ki od ti fun hf => hc.2 (.inl hf)
    have ha : (getR xs i).2.2.2.2.1 = ass := Classical.byContradiction fun k => hc.2 (.inr (.inl (by rw [hi, Int.toNat_natCast]; exact k)))
    have hl : (getR xs i).2.2.2.2.2.2.2.2.1 = ln := Classical.byContradiction fun k => hc.2 (.inr (.inr (by rw [hi, Int.toNat_natCast]; exact k)))
    rw [hi, Int.toNat_natCast]
    have h1 := okQ_at h hlt
    obtain ⟨g1, g2, g3, g4, g5, g6, g7⟩ := right_facts.1 h1.2
    obtain ⟨f1, f2, f3⟩ := rightE_facts hc.1
    rw [ha] at g1
    exact okQ_set h ⟨h1.1, right_facts.2 ⟨g1, f1, f2, f3, g5, g6, g7⟩⟩
  · exact h
theorem okQ_cancel {xs : List RV} {ti : Int} (h0 : 0 ≤ ti ∧ ti ≤ 1099511627776) (h : okQ xs ti) (fr em ki od : Int) : okQ (cancelL xs ti fr em ki od) ti := by
  unfold cancelL
  split
  · exact h
  · rename_i hf
    obtain ⟨i, hi, hlt⟩ := fnd_nat xs fr em ki od ti hf
    rw [hi, Int.toNat_natCast]
    have h1 := okQ_at h hlt
    obtain ⟨g1, g2, g3, g4, g5, g6, g7⟩ := right_facts.1 h1.2
    refine okQ_set h ⟨⟨h1.1.1, ?_⟩, right_facts.2 ⟨g1, g2, g3, g4, g5, g6, ?_⟩⟩
    · show cutF _ _ _ _ _ _ _ _ ≤ ti
      have a1 := h1.1.1
      have a2 := h1.1.2
      unfold cutF
      dsimp only [Kd.T] at *
      split <;> omega
    · show cutF _ _ _ _ _ _ _ _ = -1 ∨ ((getR xs i).2.2.2.2.2.2.2.2.2.1 ≤ cutF _ _ _ _ _ _ _ _ ∧ cutF _ _ _ _ _ _ _ _ ≤ 1099511627776)
      have a1 := h1.1.1
      unfold cutF
      dsimp only [Kd.T] at *
      split
      · right; omega
      · exact g7
theorem mixE_of {ti n : Int} (h0 : mixE ti n = 0) : (0 ≤ n ∧ n ≤ 4096) ∧ ti + n ≤ 1099511627776 := by
  unfold mixE at h0
  split at h0
  · omega
  · split at h0 <;> omega
theorem mixT_step {ti n : Int} (h : farB 4 n = false) : mixT ti n ≤ ti + 200 ∧ ti ≤ mixT ti n := by
  unfold mixT
  split
  · rename_i h0
    have hn := (mixE_of h0).1
    unfold farB at h
    have : ¬ (200 < n ∧ n ≤ 4096) := by
      intro k
      rw [decide_eq_true k.1, decide_eq_true k.2] at h
      simp at h
    omega
  · omega
/-- may a voice still be heard, though all has been cancelled? -/
def liveB (t : Int) (p : RV) : Bool := decide (p.2.2.2.2.2.2.2.2.2.2.2.1 = -1) && !ovrB t p
theorem live_key {t : Int} {p : RV} (h : keyV p.1 p.2.1 p.2.2.1 p.2.2.2.1 t p = false) : liveB t p = false := by
  unfold keyV at h
  unfold liveB
  have h := of_decide_eq_false h
  by_cases h1 : p.2.2.2.2.2.2.2.2.2.2.2.1 = -1
  · cases h2 : ovrB t p with
    | true => simp
    | false => exact absurd ⟨rfl, rfl, rfl, rfl, h1, h2⟩ h
  · rw [decide_eq_false h1, Bool.false_and]
theorem key_live {fr em ki od t : Int} {p : RV} (h : keyV fr em ki od t p = true) : liveB t p = true := by
  have h := of_decide_eq_true h
  unfold liveB
  rw [decide_eq_true h.2.2.2.2.1, h.2.2.2.2.2]
  rfl
/-- the voices are those that were; of the first ones none lives -/
def okV (v xs : List RV) (ti : Int) (i : Nat) : Prop := xs.length = v.length ∧ (∀ j, j < xs.length → (getR xs j).1 = (getR v j).1 ∧ (getR xs j).2.1 = (getR v j).2.1 ∧ (getR xs j).2.2.1 = (getR v j).2.2.1 ∧ (getR xs j).2.2.2.1 = (getR v j).2.2.2.1) ∧ ∀ j, j < i → j < xs.length → liveB ti (getR xs j) = false
theorem okV_zero (v : List RV) (ti : Int) : okV v v ti 0 := ⟨rfl, fun _ _ => ⟨rfl, rfl, rfl, rfl⟩, fun j hj => absurd hj (Nat.not_lt_zero _)⟩
theorem live_cut {ti : Int} {p : RV} (h0 : 0 ≤ ti) (h1 : ti ≤ 1099511627776) (hr : rgV p = true) : liveB ti (cutV ti p) = false := by
  unfold liveB
  have : (cutV ti p).2.2.2.2.2.2.2.2.2.2.2.1 ≠ -1 := by
    show cutF _ _ _ _ _ _ _ _ ≠ -1
    unfold cutF
    dsimp only [Kd.T] at *
    split
    · omega
    · rename_i h
      intro e
      exact h ⟨hr, e, h1⟩
  rw [decide_eq_false this, Bool.false_and]
theorem fnd_neg {xs : List RV} {fr em ki od t : Int} (h : fndV xs fr em ki od t < 0) : ∀ j, j < xs.length → keyV fr em ki od t (getR xs j) = false := by
  intro j hj
  unfold fndV at h
  split at h
  · omega
  · rename_i hn
    have := List.findIdx_le_length (p := keyV fr em ki od t) (xs := xs)
    have e : xs.findIdx (keyV fr em ki od t) = xs.length := by omega
    rw [List.findIdx_eq_length] at e
    exact e _ (gR_mem hj)
theorem fnd_at {xs : List RV} {fr em ki od t : Int} {n : Nat} (h : fndV xs fr em ki od t = (n : Int)) (hn : n < xs.length) : keyV fr em ki od t (getR xs n) = true ∧ ∀ j, j < n → keyV fr em ki od t (getR xs j) = false := by
  unfold fndV at h
  split at h
  · rename_i hl
    have e : xs.findIdx (keyV fr em ki od t) = n := by omega
    rw [List.findIdx_eq hn] at e
    refine ⟨by rw [gR_lt hn]; exact e.1, fun j hj => ?_⟩
    rw [gR_lt (by omega)]
    exact e.2 j hj
  · omega
theorem okV_step {v xs : List RV} {ti : Int} {i : Nat} (h : okV v xs ti i) (hi : i < v.length) (h0 : 0 ≤ ti ∧ ti ≤ 1099511627776) (hq : okQ xs ti) : okV v (cancelL xs ti (getR v i).1 (getR v i).2.1 (getR v i).2.2.1 (getR v i).2.2.2.1) ti (i + 1) := by
  obtain ⟨hl, hk, hv⟩ := h
  have ki := hk i (by omega)
  rw [← ki.1, ← ki.2.1, ← ki.2.2.1, ← ki.2.2.2]
  by_cases hf : fndV xs (getR xs i).1 (getR xs i).2.1 (getR xs i).2.2.1 (getR xs i).2.2.2.1 ti < 0
  · have e : cancelL xs ti (getR xs i).1 (getR xs i).2.1 (getR xs i).2.2.1 (getR xs i).2.2.2.1 = xs := by unfold cancelL; rw [if_pos hf]
    rw [e]
    refine ⟨hl, hk, fun j hj hjl => ?_⟩
    by_cases c : j = i
    · rw [c]; exact live_key (fnd_neg hf i (by omega))
    · exact hv j (by omega) hjl
  · obtain ⟨n, hn, hlt⟩ := fnd_nat xs _ _ _ _ ti hf
    obtain ⟨f1, f2⟩ := fnd_at hn hlt
    have e : cancelL xs ti (getR xs i).1 (getR xs i).2.1 (getR xs i).2.2.1 (getR xs i).2.2.2.1 = xs.set n (cutV ti (getR xs n)) := by unfold cancelL; rw [if_neg hf, hn, Int.toNat_natCast]
    rw [e]
    refine ⟨by rw [List.length_set]; exact hl, fun j hj => ?_, fun j hj hjl => ?_⟩
    · rw [List.length_set] at hj
      rw [gR_set _ hlt]
      split
      · rename_i c; subst c; exact hk j hj
      · exact hk j hj
    · rw [List.length_set] at hjl
      rw [gR_set _ hlt]
      split
      · exact live_cut h0.1 h0.2 (okQ_at hq hlt).2
      · rename_i c
        by_cases c2 : j = i
        · subst c2
          by_cases c3 : n < j
          · have := hv n c3 hlt
            rw [key_live f1] at this
            cases this
          · exact live_key (f2 j (by omega))
        · exact hv j (by omega) hjl
theorem silent {v xs : List RV} {ti t : Int} (h : okV v xs ti xs.length) (hq : okQ xs ti) (ht : ti + 64 ≤ t) (vs : Int) : ldF xs vs t = [] := by
  have e : xs.filter (sndB t) = [] := by
    rw [List.filter_eq_nil_iff]
    intro p hp hs
    obtain ⟨j, hj, rfl⟩ := List.mem_iff_getElem.1 hp
    rw [← gR_lt hj] at hs
    have hl := h.2.2 j hj hj
    have h1 := okQ_at hq hj
    generalize getR xs j = p at *
    unfold sndB soundsB at hs
    simp only [Bool.and_eq_true, decide_eq_true_eq] at hs
    have hlt := hs.2.2
    have hend : ∀ e, e = endF p.2.2.2.2.1 p.2.2.2.2.2.2.2.2.1 p.2.2.2.2.2.2.2.2.2.1 p.2.2.2.2.2.2.2.2.2.2.1 p.2.2.2.2.2.2.2.2.2.2.2.1 → t < e → False := by
      intro e he hte
      unfold liveB at hl
      rw [Bool.and_eq_false_iff] at hl
      rcases hl with hl | hl
      · have hl := of_decide_eq_false hl
        unfold endF at he
        rw [if_neg hl] at he
        have := h1.1.2
        dsimp only [Kd.T] at *
        omega
      · rw [Bool.not_eq_false'] at hl
        unfold ovrB overB at hl
        simp only [Bool.and_eq_true, decide_eq_true_eq] at hl
        have := hl.2.2
        omega
    exact hend _ rfl hlt
  unfold ldF
  rw [e]
  simp [sortF]
theorem silent_at {v xs : List RV} {ti t : Int} (h : okV v xs ti xs.length) (hq : okQ xs ti) (ht : ti + 64 ≤ t) (vs : Int) : at2 xs vs t = (0, 0, ()) := by
  unfold at2
  rw [silent h hq ht]
  rfl
theorem mixS_at (xs : List RV) (vs t : Int) : ∀ {n i : Nat}, i < n → getR (mixS xs vs t n) i = at2 xs vs (t + i)
  | 0, i, h => absurd h (Nat.not_lt_zero _)
  | n + 1, i, h => by
    rw [mixS, gR_app, mixS_len]
    by_cases c : i < n
    · rw [if_pos c]; exact mixS_at xs vs t c
    · obtain rfl : i = n := by omega
      rw [if_neg c, Nat.sub_self]; rfl


noncomputable def c_far : FC := fun us => match us with
  | [.v (.agg [.int .i64 _ kd, .int .i64 _ fr, .int .i64 _ em, .int .i64 _ ki, .int .i64 _ od, .int .i64 _ ass, .int .i64 _ gn, .int .i64 _ pn, .int .i64 _ pr, .int .i64 _ ln, .int .i64 _ by_])] => some (none, .v (.one (.bool false (farB kd by_))))
  | _ => none
theorem nf_far (kd : Int) (fr : Int) (em : Int) (ki : Int) (od : Int) (ass : Int) (gn : Int) (pn : Int) (pr : Int) (ln : Int) (by_ : Int) : goal ⟨Mx, Try.prog, Γ_awake20, Δ_Mix, B0, none, false, [], none⟩ noL 400 Try.f12 [.v (.agg [.int .i64 false kd, .int .i64 false fr, .int .i64 false em, .int .i64 false ki, .int .i64 false od, .int .i64 false ass, .int .i64 false gn, .int .i64 false pn, .int .i64 false pr, .int .i64 false ln, .int .i64 false by_])] [] (fun r _ => svLe idR r (.v (.one (.bool false (farB kd by_))))) = (((kd == (4 : Int)) = true → (decide ((200 : Int) < by_) = true → decide (by_ ≤ (4096 : Int)) = farB kd by_) ∧ (decide ((200 : Int) < by_) = false → false = farB kd by_)) ∧ ((kd == (4 : Int)) = false → false = farB kd by_)) := by kernel_rfl
theorem s_far : FSound Try.prog 12 c_far := by
  refine fsound_of (Ctx.ok_of2 (M := Mx) (N := []) mixedA ok_awake20 okD_Mix okB0) Try.func12 (by kernel_rfl) (by kernel_rfl) ?_
  intro us p v h hp
  unfold c_far at h
  split at h
  · rename_i k0 kd k1 fr k2 em k3 ki k4 od k5 ass k6 gn k7 pn k8 pr k9 ln k10 by_
    cases h
    refine ⟨rfl, noL, 400, [.v (.agg [.int .i64 false kd, .int .i64 false fr, .int .i64 false em, .int .i64 false ki, .int .i64 false od, .int .i64 false ass, .int .i64 false gn, .int .i64 false pn, .int .i64 false pr, .int .i64 false ln, .int .i64 false by_])], by simp [tmLe, svLe, vLe, lfLe, lfsLe, ifB, nmIs, idR], rfl, ?_⟩
    rw [nf_far]
    clear hp
    unfold farB
    cases h1 : decide (kd = 4) <;> cases h2 : decide (200 < by_) <;> cases h3 : decide (by_ ≤ 4096) <;> simp_all
    all_goals omega
  · cases h
noncomputable def Γ_far : List (FuncId × FX) := (12, c_far) :: Γ_awake20
theorem ok_far : ΓOk Try.prog Γ_far := ΓOk.cons (c := .pure c_far) s_far ok_awake20

end Go.Proofs.Ytljnddhldjaglaa
