/- 'VoiceCuts': ITS GO TEXT RETURNS TRUE. Conditions: the contracts' own. Own work; the normal forms were printed by a program of mine (wip/rex). -/
import Derived.Test.YtjfgobhipemioaaRV3
namespace Go.Proofs.Ytjfgobhipemioaa
open Go.RowKit Rex
set_option linter.unusedVariables false
set_option linter.unusedSimpArgs false
set_option maxRecDepth 100000


theorem scF_in {n g : Int} (hn : -2147483648 ≤ n ∧ n ≤ 2147483648) (hg : 0 ≤ g ∧ g ≤ 65536) : scF n g = n * g / 32768 := by
  unfold scF; rw [wi_in n _ _ hn, wi_in g _ _ (by omega)]

theorem aroundF_bd (a i : Int) : -8192 ≤ aroundF a i ∧ aroundF a i ≤ 8192 := by
  unfold aroundF; split
  · exact waveF_bd _ _
  · omega

theorem sampleF_bd (a i : Int) : -8192 ≤ sampleF a i ∧ sampleF a i ≤ 8192 := by
  unfold sampleF; split
  · rename_i h
    have := ins_iff.1 h
    exact part_bd _ _ _ _ (waveF_bd a i) (by omega) (by omega)
  · omega

theorem vwaveF_bd (a ln i : Int) : -8192 ≤ vwaveF a ln i ∧ vwaveF a ln i ≤ 8192 := by
  unfold vwaveF; split
  · exact aroundF_bd _ _
  · exact sampleF_bd _ _

theorem envF_bd {at_ gn pn ln bo lt cu t : Int} : 0 ≤ envF at_ gn pn ln bo lt cu t ∧ envF at_ gn pn ln bo lt cu t ≤ 32768 := by
  unfold envF; split
  · split <;> omega
  · omega

theorem scF_bd {n g K : Int} (hK : 0 ≤ K ∧ K ≤ 2147483648) (hn : -K ≤ n ∧ n ≤ K) (hg : 0 ≤ g ∧ g ≤ 32768) : -K ≤ scF n g ∧ scF n g ≤ K := by
  rw [scF_in (by omega) (by omega)]
  exact part_bd n g 32768 K hn hg (by omega)

theorem give3_bd {w g e p : Int} (hw : -8192 ≤ w ∧ w ≤ 8192) (hg : 0 ≤ g ∧ g ≤ 32768) (he : 0 ≤ e ∧ e ≤ 32768) (hp : 0 ≤ p ∧ p ≤ 32768) : -8192 ≤ scF (scF (scF w g) e) p ∧ scF (scF (scF w g) e) p ≤ 8192 := scF_bd (by omega) (scF_bd (by omega) (scF_bd (by omega) hw hg) he) hp

theorem giveL_bd {at_ gn pn ln bo lt cu t : Int} : -8192 ≤ giveL at_ gn pn ln bo lt cu t ∧ giveL at_ gn pn ln bo lt cu t ≤ 8192 := by
  unfold giveL; split
  · rename_i h
    have hr := right_facts.1 (at_facts.1 ((Bool.and_eq_true _ _ ▸ h : _ ∧ _).1)).1
    exact give3_bd (vwaveF_bd _ _ _) hr.2.1 envF_bd (by omega)
  · omega

theorem giveR_bd {at_ gn pn ln bo lt cu t : Int} : -8192 ≤ giveR at_ gn pn ln bo lt cu t ∧ giveR at_ gn pn ln bo lt cu t ≤ 8192 := by
  unfold giveR; split
  · rename_i h
    have hr := right_facts.1 (at_facts.1 ((Bool.and_eq_true _ _ ▸ h : _ ∧ _).1)).1
    exact give3_bd (vwaveF_bd _ _ _) hr.2.1 envF_bd (by omega)
  · omega

theorem sizeF_le {a b : Int} (h : (0 ≤ a ∧ a ≤ b) ∨ (b ≤ a ∧ a ≤ 0)) : sizeF a ≤ sizeF b := by
  unfold sizeF; split <;> split <;> omega

theorem part_le {w m n : Int} (hm : 0 ≤ m ∧ m ≤ n) (hn : 0 < n) : (0 ≤ w * m / n ∧ w * m / n ≤ w) ∨ (w ≤ w * m / n ∧ w * m / n ≤ 0) := by
  have ha : w * m / n * n ≤ w * m := Int.ediv_mul_le _ (by omega)
  rcases Int.le_total 0 w with hw | hw
  · left
    have h1 : 0 ≤ w * m := Int.mul_nonneg hw hm.1
    have h2 : w * m ≤ w * n := Int.mul_le_mul_of_nonneg_left hm.2 hw
    exact ⟨Int.ediv_nonneg h1 (by omega), Int.ediv_le_of_le_mul hn h2⟩
  · right
    have h1 : w * m ≤ 0 := Int.mul_nonpos_of_nonpos_of_nonneg hw hm.1
    have h2 : w * n ≤ w * m := Int.mul_le_mul_of_nonpos_left hw hm.2
    refine ⟨(Int.le_ediv_iff_mul_le hn).2 h2, ?_⟩
    exact Int.ediv_le_of_le_mul hn (by omega)

theorem part_mono {a b m n : Int} (hm : 0 ≤ m) (hn : 0 < n) (h : a ≤ b) : a * m / n ≤ b * m / n :=
  Int.ediv_le_ediv hn (Int.mul_le_mul_of_nonneg_right h hm)

theorem give3_le {w g e p : Int} (hw : -8192 ≤ w ∧ w ≤ 8192) (hg : 0 ≤ g ∧ g ≤ 32768) (he : 0 ≤ e ∧ e ≤ 32768) (hp : 0 ≤ p ∧ p ≤ 32768) : sizeF (scF (scF (scF w g) e) p) ≤ sizeF (scF (scF (scF w g) 32768) p) := by
  have hy := scF_bd (K := 8192) (by omega) hw hg
  generalize scF w g = y at hy ⊢
  have hz := scF_bd (K := 8192) (by omega) hy he
  rw [scF_in (n := y) (g := 32768) (by omega) (by omega), Int.mul_ediv_cancel y (by omega : (32768 : Int) ≠ 0)]
  rw [scF_in (n := scF y e) (by omega) (by omega), scF_in (n := y) (g := p) (by omega) (by omega)]
  rw [scF_in (n := y) (g := e) (by omega) (by omega)]
  refine sizeF_le ?_
  rcases part_le (w := y) (m := e) (n := 32768) he (by omega) with h | h
  · left; exact ⟨Int.ediv_nonneg (Int.mul_nonneg h.1 hp.1) (by omega), part_mono hp.1 (by omega) h.2⟩
  · right; refine ⟨part_mono hp.1 (by omega) h.1, ?_⟩
    have := Int.mul_nonpos_of_nonpos_of_nonneg h.2 hp.1
    exact Int.ediv_le_of_le_mul (by omega) (by omega)

theorem endF_le {at_ ln bo lt c : Int} : endF at_ ln bo lt c ≤ endF at_ ln bo lt (-1) ∧ (c ≠ -1 → endF at_ ln bo lt c ≤ c + 64) := by
  unfold endF
  rw [if_pos rfl]
  by_cases h : c = -1
  · simp [h]
  · rw [if_neg h]; exact ⟨by omega, fun _ => by omega⟩

theorem sounds_facts {at_ gn pn ln bo lt cu t : Int} : soundsB at_ gn pn ln bo lt cu t = true ↔ atB at_ gn pn ln bo lt cu t = true ∧ bo ≤ t ∧ t < endF at_ ln bo lt cu := by
  unfold soundsB; simp only [Bool.and_eq_true, decide_eq_true_eq]

/-- What cutting does: the voice stays a right one; it ends sooner, and within 64 of the cut; it gives less. -/
theorem cut_facts {at_ gn pn ln bo lt cu t d B : Int} (hr : rightB at_ gn pn ln bo lt cu = true) (hc : cu < 0) (ht : 0 ≤ t ∧ t ≤ 1099511627776) (hB : B = if t < bo then bo else t) (hd : 0 ≤ d ∧ d ≤ 255) :
    cutF at_ gn pn ln bo lt cu t = B ∧ rightB at_ gn pn ln bo lt B = true ∧ endF at_ ln bo lt B ≤ B + 64 ∧ endF at_ ln bo lt B ≤ endF at_ ln bo lt cu ∧
    sizeF (giveL at_ gn pn ln bo lt B (B + d)) ≤ sizeF (giveL at_ gn pn ln bo lt cu (B + d)) ∧ sizeF (giveR at_ gn pn ln bo lt B (B + d)) ≤ sizeF (giveR at_ gn pn ln bo lt cu (B + d)) ∧
    (64 ≤ d → giveL at_ gn pn ln bo lt B (B + d) = 0 ∧ giveR at_ gn pn ln bo lt B (B + d) = 0) := by
  have hf := right_facts.1 hr
  have hcu : cu = -1 := by omega
  have hBb : bo ≤ B ∧ t ≤ B ∧ B ≤ 1099511627776 := by subst hB; split <;> omega
  have hrB : rightB at_ gn pn ln bo lt B = true := right_facts.2 ⟨hf.1, hf.2.1, hf.2.2.1, hf.2.2.2.1, hf.2.2.2.2.1, hf.2.2.2.2.2.1, Or.inr ⟨hBb.1, hBb.2.2⟩⟩
  have he := endF_le (at_ := at_) (ln := ln) (bo := bo) (lt := lt) (c := B)
  have hs : soundsB at_ gn pn ln bo lt B (B + d) = true → soundsB at_ gn pn ln bo lt cu (B + d) = true := by
    intro h
    have h1 := sounds_facts.1 h
    refine sounds_facts.2 ⟨at_facts.2 ⟨hr, (at_facts.1 h1.1).2⟩, h1.2.1, ?_⟩
    rw [hcu]; omega
  have hen : soundsB at_ gn pn ln bo lt cu (B + d) = true → envF at_ gn pn ln bo lt cu (B + d) = 32768 := by
    intro h
    unfold envF
    rw [if_pos (sounds_facts.1 h).1, if_pos (Or.inl hcu)]
  have hz : sizeF 0 = 0 := rfl
  have h0 : ∀ x, 0 ≤ sizeF x := by intro x; unfold sizeF; split <;> omega
  refine ⟨?_, hrB, he.2 (by omega), by rw [hcu]; exact he.1, ?_, ?_, ?_⟩
  · unfold cutF; rw [if_pos ⟨hr, hcu, ht.2⟩, hB]; split <;> omega
  · unfold giveL
    by_cases h : soundsB at_ gn pn ln bo lt B (B + d) = true
    · rw [if_pos h, if_pos (hs h), hen (hs h)]
      exact give3_le (vwaveF_bd _ _ _) hf.2.1 envF_bd (by omega)
    · rw [if_neg h, hz]; exact h0 _
  · unfold giveR
    by_cases h : soundsB at_ gn pn ln bo lt B (B + d) = true
    · rw [if_pos h, if_pos (hs h), hen (hs h)]
      exact give3_le (vwaveF_bd _ _ _) hf.2.1 envF_bd (by omega)
    · rw [if_neg h, hz]; exact h0 _
  · intro hd64
    have hn : ¬ soundsB at_ gn pn ln bo lt B (B + d) = true := by
      intro h
      have h1 := (sounds_facts.1 h).2.2
      have h2 := he.2 (by omega)
      omega
    unfold giveL giveR
    rw [if_neg hn, if_neg hn]; exact ⟨rfl, rfl⟩


noncomputable def c_VoiceCuts : FC := fun us => match us with
  | [.v (.agg [.int .i64 _ fr, .int .i64 _ em, .int .i64 _ ki, .int .i64 _ od, .int .i64 _ at_, .int .i64 _ gn, .int .i64 _ pn, .int .i64 _ pr, .int .i64 _ ln, .int .i64 _ bo, .int .i64 _ lt, .int .i64 _ cu]), .v (.one (.int .i64 _ t)), .v (.one (.int .u8 _ d))] => some (some (0 ≤ d ∧ d ≤ 255), .v (.one (.bool true (true))))
  | _ => none
theorem nf_VoiceCuts (fr : Int) (em : Int) (ki : Int) (od : Int) (at_ : Int) (gn : Int) (pn : Int) (pr : Int) (ln : Int) (bo : Int) (lt : Int) (cu : Int) (t : Int) (d : Int) : goal ⟨Mx, Try.prog, Γ_size, Δ_or5⟩ noL 400 Try.f5 [.v (.agg [.int .i64 false fr, .int .i64 false em, .int .i64 false ki, .int .i64 false od, .int .i64 false at_, .int .i64 false gn, .int .i64 false pn, .int .i64 false pr, .int .i64 false ln, .int .i64 false bo, .int .i64 false lt, .int .i64 false cu]), .v (.one (.int .i64 false t)), .v (.one (.int .u8 false d))] [] (fun r _ => svLe r (.v (.one (.bool true (true))))) = (((!(fr == fr && (em == em && (ki == ki && (od == od && true))) && (at_ == at_ && (gn == gn && (pn == pn && (pr == pr && (ln == ln && true))))) && (bo == bo && (lt == lt && (cutF at_ gn pn ln bo lt cu t == cutF at_ gn pn ln bo lt cu t && true))))) = true → false = true) ∧ ((!(fr == fr && (em == em && (ki == ki && (od == od && true))) && (at_ == at_ && (gn == gn && (pn == pn && (pr == pr && (ln == ln && true))))) && (bo == bo && (lt == lt && (cutF at_ gn pn ln bo lt cu t == cutF at_ gn pn ln bo lt cu t && true))))) = false → ((!rightB at_ gn pn ln bo lt cu) = false → (decide ((0 : Int) ≤ cu) = false → (decide (t < (0 : Int)) = false → (decide ((1099511627776 : Int) < t) = true → true = true) ∧ (decide ((1099511627776 : Int) < t) = false → inR IntKind.i64 d ∧ inR IntKind.i64 ((if t < bo then bo else t) + d) ∧ (decide ((if rightB at_ gn pn ln bo lt (cutF at_ gn pn ln bo lt cu t) = true then endF at_ ln bo lt (cutF at_ gn pn ln bo lt cu t) else (0 : Int)) ≤ (if t < bo then bo else t) + (64 : Int)) = true → (decide ((if rightB at_ gn pn ln bo lt (cutF at_ gn pn ln bo lt cu t) = true then endF at_ ln bo lt (cutF at_ gn pn ln bo lt cu t) else (0 : Int)) ≤ if (if rightB at_ gn pn ln bo lt cu = true then endF at_ ln bo lt cu else (0 : Int)) < bo then bo else if rightB at_ gn pn ln bo lt cu = true then endF at_ ln bo lt cu else (0 : Int)) = true → (decide (sizeF (giveL at_ gn pn ln bo lt (cutF at_ gn pn ln bo lt cu t) ((if t < bo then bo else t) + d)) ≤ sizeF (giveL at_ gn pn ln bo lt cu ((if t < bo then bo else t) + d)) + (1 : Int)) = true → (decide (sizeF (giveR at_ gn pn ln bo lt (cutF at_ gn pn ln bo lt cu t) ((if t < bo then bo else t) + d)) ≤ sizeF (giveR at_ gn pn ln bo lt cu ((if t < bo then bo else t) + d)) + (1 : Int)) = true → (decide (d < (64 : Int)) = true → inR IntKind.i64 ((if t < bo then bo else t) + (64 : Int)) ∧ decide ((if rightB at_ gn pn ln bo lt (cutF at_ gn pn ln bo lt cu t) = true then endF at_ ln bo lt (cutF at_ gn pn ln bo lt cu t) else (0 : Int)) ≤ (if t < bo then bo else t) + (64 : Int)) = true ∧ decide ((if rightB at_ gn pn ln bo lt (cutF at_ gn pn ln bo lt cu t) = true then endF at_ ln bo lt (cutF at_ gn pn ln bo lt cu t) else (0 : Int)) ≤ if (if rightB at_ gn pn ln bo lt cu = true then endF at_ ln bo lt cu else (0 : Int)) < bo then bo else if rightB at_ gn pn ln bo lt cu = true then endF at_ ln bo lt cu else (0 : Int)) = true ∧ ((-9223372036854775807 : Int) ≤ giveL at_ gn pn ln bo lt (cutF at_ gn pn ln bo lt cu t) ((if t < bo then bo else t) + d) ∧ giveL at_ gn pn ln bo lt (cutF at_ gn pn ln bo lt cu t) ((if t < bo then bo else t) + d) ≤ (9223372036854775807 : Int)) ∧ ((-9223372036854775807 : Int) ≤ giveL at_ gn pn ln bo lt cu ((if t < bo then bo else t) + d) ∧ giveL at_ gn pn ln bo lt cu ((if t < bo then bo else t) + d) ≤ (9223372036854775807 : Int)) ∧ inR IntKind.i64 (sizeF (giveL at_ gn pn ln bo lt cu ((if t < bo then bo else t) + d)) + (1 : Int)) ∧ decide (sizeF (giveL at_ gn pn ln bo lt (cutF at_ gn pn ln bo lt cu t) ((if t < bo then bo else t) + d)) ≤ sizeF (giveL at_ gn pn ln bo lt cu ((if t < bo then bo else t) + d)) + (1 : Int)) = true ∧ ((-9223372036854775807 : Int) ≤ giveR at_ gn pn ln bo lt (cutF at_ gn pn ln bo lt cu t) ((if t < bo then bo else t) + d) ∧ giveR at_ gn pn ln bo lt (cutF at_ gn pn ln bo lt cu t) ((if t < bo then bo else t) + d) ≤ (9223372036854775807 : Int)) ∧ ((-9223372036854775807 : Int) ≤ giveR at_ gn pn ln bo lt cu ((if t < bo then bo else t) + d) ∧ giveR at_ gn pn ln bo lt cu ((if t < bo then bo else t) + d) ≤ (9223372036854775807 : Int)) ∧ inR IntKind.i64 (sizeF (giveR at_ gn pn ln bo lt cu ((if t < bo then bo else t) + d)) + (1 : Int)) ∧ decide (sizeF (giveR at_ gn pn ln bo lt (cutF at_ gn pn ln bo lt cu t) ((if t < bo then bo else t) + d)) ≤ sizeF (giveR at_ gn pn ln bo lt cu ((if t < bo then bo else t) + d)) + (1 : Int)) = true ∧ inR IntKind.i64 d ∧ decide (d < (64 : Int)) = true ∧ true = true) ∧ (decide (d < (64 : Int)) = false → ((giveL at_ gn pn ln bo lt (cutF at_ gn pn ln bo lt cu t) ((if t < bo then bo else t) + d) == (0 : Int)) = true → inR IntKind.i64 ((if t < bo then bo else t) + (64 : Int)) ∧ decide ((if rightB at_ gn pn ln bo lt (cutF at_ gn pn ln bo lt cu t) = true then endF at_ ln bo lt (cutF at_ gn pn ln bo lt cu t) else (0 : Int)) ≤ (if t < bo then bo else t) + (64 : Int)) = true ∧ decide ((if rightB at_ gn pn ln bo lt (cutF at_ gn pn ln bo lt cu t) = true then endF at_ ln bo lt (cutF at_ gn pn ln bo lt cu t) else (0 : Int)) ≤ if (if rightB at_ gn pn ln bo lt cu = true then endF at_ ln bo lt cu else (0 : Int)) < bo then bo else if rightB at_ gn pn ln bo lt cu = true then endF at_ ln bo lt cu else (0 : Int)) = true ∧ ((-9223372036854775807 : Int) ≤ giveL at_ gn pn ln bo lt (cutF at_ gn pn ln bo lt cu t) ((if t < bo then bo else t) + d) ∧ giveL at_ gn pn ln bo lt (cutF at_ gn pn ln bo lt cu t) ((if t < bo then bo else t) + d) ≤ (9223372036854775807 : Int)) ∧ ((-9223372036854775807 : Int) ≤ giveL at_ gn pn ln bo lt cu ((if t < bo then bo else t) + d) ∧ giveL at_ gn pn ln bo lt cu ((if t < bo then bo else t) + d) ≤ (9223372036854775807 : Int)) ∧ inR IntKind.i64 (sizeF (giveL at_ gn pn ln bo lt cu ((if t < bo then bo else t) + d)) + (1 : Int)) ∧ decide (sizeF (giveL at_ gn pn ln bo lt (cutF at_ gn pn ln bo lt cu t) ((if t < bo then bo else t) + d)) ≤ sizeF (giveL at_ gn pn ln bo lt cu ((if t < bo then bo else t) + d)) + (1 : Int)) = true ∧ ((-9223372036854775807 : Int) ≤ giveR at_ gn pn ln bo lt (cutF at_ gn pn ln bo lt cu t) ((if t < bo then bo else t) + d) ∧ giveR at_ gn pn ln bo lt (cutF at_ gn pn ln bo lt cu t) ((if t < bo then bo else t) + d) ≤ (9223372036854775807 : Int)) ∧ ((-9223372036854775807 : Int) ≤ giveR at_ gn pn ln bo lt cu ((if t < bo then bo else t) + d) ∧ giveR at_ gn pn ln bo lt cu ((if t < bo then bo else t) + d) ≤ (9223372036854775807 : Int)) ∧ inR IntKind.i64 (sizeF (giveR at_ gn pn ln bo lt cu ((if t < bo then bo else t) + d)) + (1 : Int)) ∧ decide (sizeF (giveR at_ gn pn ln bo lt (cutF at_ gn pn ln bo lt cu t) ((if t < bo then bo else t) + d)) ≤ sizeF (giveR at_ gn pn ln bo lt cu ((if t < bo then bo else t) + d)) + (1 : Int)) = true ∧ inR IntKind.i64 d ∧ decide (d < (64 : Int)) = false ∧ (giveL at_ gn pn ln bo lt (cutF at_ gn pn ln bo lt cu t) ((if t < bo then bo else t) + d) == (0 : Int)) = true ∧ (giveR at_ gn pn ln bo lt (cutF at_ gn pn ln bo lt cu t) ((if t < bo then bo else t) + d) == (0 : Int)) = true) ∧ ((giveL at_ gn pn ln bo lt (cutF at_ gn pn ln bo lt cu t) ((if t < bo then bo else t) + d) == (0 : Int)) = false → inR IntKind.i64 ((if t < bo then bo else t) + (64 : Int)) ∧ decide ((if rightB at_ gn pn ln bo lt (cutF at_ gn pn ln bo lt cu t) = true then endF at_ ln bo lt (cutF at_ gn pn ln bo lt cu t) else (0 : Int)) ≤ (if t < bo then bo else t) + (64 : Int)) = true ∧ decide ((if rightB at_ gn pn ln bo lt (cutF at_ gn pn ln bo lt cu t) = true then endF at_ ln bo lt (cutF at_ gn pn ln bo lt cu t) else (0 : Int)) ≤ if (if rightB at_ gn pn ln bo lt cu = true then endF at_ ln bo lt cu else (0 : Int)) < bo then bo else if rightB at_ gn pn ln bo lt cu = true then endF at_ ln bo lt cu else (0 : Int)) = true ∧ ((-9223372036854775807 : Int) ≤ giveL at_ gn pn ln bo lt (cutF at_ gn pn ln bo lt cu t) ((if t < bo then bo else t) + d) ∧ giveL at_ gn pn ln bo lt (cutF at_ gn pn ln bo lt cu t) ((if t < bo then bo else t) + d) ≤ (9223372036854775807 : Int)) ∧ ((-9223372036854775807 : Int) ≤ giveL at_ gn pn ln bo lt cu ((if t < bo then bo else t) + d) ∧ giveL at_ gn pn ln bo lt cu ((if t < bo then bo else t) + d) ≤ (9223372036854775807 : Int)) ∧ inR IntKind.i64 (sizeF (giveL at_ gn pn ln bo lt cu ((if t < bo then bo else t) + d)) + (1 : Int)) ∧ decide (sizeF (giveL at_ gn pn ln bo lt (cutF at_ gn pn ln bo lt cu t) ((if t < bo then bo else t) + d)) ≤ sizeF (giveL at_ gn pn ln bo lt cu ((if t < bo then bo else t) + d)) + (1 : Int)) = true ∧ ((-9223372036854775807 : Int) ≤ giveR at_ gn pn ln bo lt (cutF at_ gn pn ln bo lt cu t) ((if t < bo then bo else t) + d) ∧ giveR at_ gn pn ln bo lt (cutF at_ gn pn ln bo lt cu t) ((if t < bo then bo else t) + d) ≤ (9223372036854775807 : Int)) ∧ ((-9223372036854775807 : Int) ≤ giveR at_ gn pn ln bo lt cu ((if t < bo then bo else t) + d) ∧ giveR at_ gn pn ln bo lt cu ((if t < bo then bo else t) + d) ≤ (9223372036854775807 : Int)) ∧ inR IntKind.i64 (sizeF (giveR at_ gn pn ln bo lt cu ((if t < bo then bo else t) + d)) + (1 : Int)) ∧ decide (sizeF (giveR at_ gn pn ln bo lt (cutF at_ gn pn ln bo lt cu t) ((if t < bo then bo else t) + d)) ≤ sizeF (giveR at_ gn pn ln bo lt cu ((if t < bo then bo else t) + d)) + (1 : Int)) = true ∧ inR IntKind.i64 d ∧ decide (d < (64 : Int)) = false ∧ (giveL at_ gn pn ln bo lt (cutF at_ gn pn ln bo lt cu t) ((if t < bo then bo else t) + d) == (0 : Int)) = false ∧ false = true))) ∧ (decide (sizeF (giveR at_ gn pn ln bo lt (cutF at_ gn pn ln bo lt cu t) ((if t < bo then bo else t) + d)) ≤ sizeF (giveR at_ gn pn ln bo lt cu ((if t < bo then bo else t) + d)) + (1 : Int)) = false → inR IntKind.i64 ((if t < bo then bo else t) + (64 : Int)) ∧ decide ((if rightB at_ gn pn ln bo lt (cutF at_ gn pn ln bo lt cu t) = true then endF at_ ln bo lt (cutF at_ gn pn ln bo lt cu t) else (0 : Int)) ≤ (if t < bo then bo else t) + (64 : Int)) = true ∧ decide ((if rightB at_ gn pn ln bo lt (cutF at_ gn pn ln bo lt cu t) = true then endF at_ ln bo lt (cutF at_ gn pn ln bo lt cu t) else (0 : Int)) ≤ if (if rightB at_ gn pn ln bo lt cu = true then endF at_ ln bo lt cu else (0 : Int)) < bo then bo else if rightB at_ gn pn ln bo lt cu = true then endF at_ ln bo lt cu else (0 : Int)) = true ∧ ((-9223372036854775807 : Int) ≤ giveL at_ gn pn ln bo lt (cutF at_ gn pn ln bo lt cu t) ((if t < bo then bo else t) + d) ∧ giveL at_ gn pn ln bo lt (cutF at_ gn pn ln bo lt cu t) ((if t < bo then bo else t) + d) ≤ (9223372036854775807 : Int)) ∧ ((-9223372036854775807 : Int) ≤ giveL at_ gn pn ln bo lt cu ((if t < bo then bo else t) + d) ∧ giveL at_ gn pn ln bo lt cu ((if t < bo then bo else t) + d) ≤ (9223372036854775807 : Int)) ∧ inR IntKind.i64 (sizeF (giveL at_ gn pn ln bo lt cu ((if t < bo then bo else t) + d)) + (1 : Int)) ∧ decide (sizeF (giveL at_ gn pn ln bo lt (cutF at_ gn pn ln bo lt cu t) ((if t < bo then bo else t) + d)) ≤ sizeF (giveL at_ gn pn ln bo lt cu ((if t < bo then bo else t) + d)) + (1 : Int)) = true ∧ ((-9223372036854775807 : Int) ≤ giveR at_ gn pn ln bo lt (cutF at_ gn pn ln bo lt cu t) ((if t < bo then bo else t) + d) ∧ giveR at_ gn pn ln bo lt (cutF at_ gn pn ln bo lt cu t) ((if t < bo then bo else t) + d) ≤ (9223372036854775807 : Int)) ∧ ((-9223372036854775807 : Int) ≤ giveR at_ gn pn ln bo lt cu ((if t < bo then bo else t) + d) ∧ giveR at_ gn pn ln bo lt cu ((if t < bo then bo else t) + d) ≤ (9223372036854775807 : Int)) ∧ inR IntKind.i64 (sizeF (giveR at_ gn pn ln bo lt cu ((if t < bo then bo else t) + d)) + (1 : Int)) ∧ decide (sizeF (giveR at_ gn pn ln bo lt (cutF at_ gn pn ln bo lt cu t) ((if t < bo then bo else t) + d)) ≤ sizeF (giveR at_ gn pn ln bo lt cu ((if t < bo then bo else t) + d)) + (1 : Int)) = false ∧ false = true)) ∧ (decide (sizeF (giveL at_ gn pn ln bo lt (cutF at_ gn pn ln bo lt cu t) ((if t < bo then bo else t) + d)) ≤ sizeF (giveL at_ gn pn ln bo lt cu ((if t < bo then bo else t) + d)) + (1 : Int)) = false → inR IntKind.i64 ((if t < bo then bo else t) + (64 : Int)) ∧ decide ((if rightB at_ gn pn ln bo lt (cutF at_ gn pn ln bo lt cu t) = true then endF at_ ln bo lt (cutF at_ gn pn ln bo lt cu t) else (0 : Int)) ≤ (if t < bo then bo else t) + (64 : Int)) = true ∧ decide ((if rightB at_ gn pn ln bo lt (cutF at_ gn pn ln bo lt cu t) = true then endF at_ ln bo lt (cutF at_ gn pn ln bo lt cu t) else (0 : Int)) ≤ if (if rightB at_ gn pn ln bo lt cu = true then endF at_ ln bo lt cu else (0 : Int)) < bo then bo else if rightB at_ gn pn ln bo lt cu = true then endF at_ ln bo lt cu else (0 : Int)) = true ∧ ((-9223372036854775807 : Int) ≤ giveL at_ gn pn ln bo lt (cutF at_ gn pn ln bo lt cu t) ((if t < bo then bo else t) + d) ∧ giveL at_ gn pn ln bo lt (cutF at_ gn pn ln bo lt cu t) ((if t < bo then bo else t) + d) ≤ (9223372036854775807 : Int)) ∧ ((-9223372036854775807 : Int) ≤ giveL at_ gn pn ln bo lt cu ((if t < bo then bo else t) + d) ∧ giveL at_ gn pn ln bo lt cu ((if t < bo then bo else t) + d) ≤ (9223372036854775807 : Int)) ∧ inR IntKind.i64 (sizeF (giveL at_ gn pn ln bo lt cu ((if t < bo then bo else t) + d)) + (1 : Int)) ∧ decide (sizeF (giveL at_ gn pn ln bo lt (cutF at_ gn pn ln bo lt cu t) ((if t < bo then bo else t) + d)) ≤ sizeF (giveL at_ gn pn ln bo lt cu ((if t < bo then bo else t) + d)) + (1 : Int)) = false ∧ false = true)) ∧ (decide ((if rightB at_ gn pn ln bo lt (cutF at_ gn pn ln bo lt cu t) = true then endF at_ ln bo lt (cutF at_ gn pn ln bo lt cu t) else (0 : Int)) ≤ if (if rightB at_ gn pn ln bo lt cu = true then endF at_ ln bo lt cu else (0 : Int)) < bo then bo else if rightB at_ gn pn ln bo lt cu = true then endF at_ ln bo lt cu else (0 : Int)) = false → inR IntKind.i64 ((if t < bo then bo else t) + (64 : Int)) ∧ decide ((if rightB at_ gn pn ln bo lt (cutF at_ gn pn ln bo lt cu t) = true then endF at_ ln bo lt (cutF at_ gn pn ln bo lt cu t) else (0 : Int)) ≤ (if t < bo then bo else t) + (64 : Int)) = true ∧ decide ((if rightB at_ gn pn ln bo lt (cutF at_ gn pn ln bo lt cu t) = true then endF at_ ln bo lt (cutF at_ gn pn ln bo lt cu t) else (0 : Int)) ≤ if (if rightB at_ gn pn ln bo lt cu = true then endF at_ ln bo lt cu else (0 : Int)) < bo then bo else if rightB at_ gn pn ln bo lt cu = true then endF at_ ln bo lt cu else (0 : Int)) = false ∧ false = true)) ∧ (decide ((if rightB at_ gn pn ln bo lt (cutF at_ gn pn ln bo lt cu t) = true then endF at_ ln bo lt (cutF at_ gn pn ln bo lt cu t) else (0 : Int)) ≤ (if t < bo then bo else t) + (64 : Int)) = false → inR IntKind.i64 ((if t < bo then bo else t) + (64 : Int)) ∧ decide ((if rightB at_ gn pn ln bo lt (cutF at_ gn pn ln bo lt cu t) = true then endF at_ ln bo lt (cutF at_ gn pn ln bo lt cu t) else (0 : Int)) ≤ (if t < bo then bo else t) + (64 : Int)) = false ∧ false = true))) ∧ (decide (t < (0 : Int)) = true → true = true)) ∧ (decide ((0 : Int) ≤ cu) = true → true = true)) ∧ ((!rightB at_ gn pn ln bo lt cu) = true → true = true))) := by kernel_rfl
theorem s_VoiceCuts : FSound Try.prog 5 c_VoiceCuts := by
  refine fsound_of (Ctx.ok_of2 (M := Mx) mixedA ok_size okD_or5) Try.func5 (by kernel_rfl) (by kernel_rfl) ?_
  intro us p v h hp
  unfold c_VoiceCuts at h
  split at h
  · rename_i k0 fr k1 em k2 ki k3 od k4 at_ k5 gn k6 pn k7 pr k8 ln k9 bo k10 lt k11 cu k12 t k13 d
    cases h
    have hp : 0 ≤ d ∧ d ≤ 255 := hp
    refine ⟨rfl, noL, 400, [.v (.agg [.int .i64 false fr, .int .i64 false em, .int .i64 false ki, .int .i64 false od, .int .i64 false at_, .int .i64 false gn, .int .i64 false pn, .int .i64 false pr, .int .i64 false ln, .int .i64 false bo, .int .i64 false lt, .int .i64 false cu]), .v (.one (.int .i64 false t)), .v (.one (.int .u8 false d))], by simp [tmLe, svLe, vLe, lfLe, lfsLe, ifB], rfl, ?_⟩
    rw [nf_VoiceCuts]
    simp only [beq_self_eq_true, Bool.and_self, Bool.not_true, Bool.false_eq_true, false_implies, true_and, implies_true, and_true]
    by_cases hr0 : ¬ rightB at_ gn pn ln bo lt cu = true
    · simp [hr0]
    have hr := Decidable.not_not.1 hr0
    by_cases hc : 0 ≤ cu
    · simp [hc]
    by_cases h0 : t < 0
    · simp [h0]
    by_cases h1 : 1099511627776 < t
    · simp [h1]
    generalize hB : (if t < bo then bo else t) = B
    have hBb : bo ≤ B ∧ t ≤ B ∧ B ≤ 1099511627776 ∧ 0 ≤ B := by
      have := right_facts.1 hr
      subst hB; split <;> omega
    obtain ⟨e1, e2, e3, e4, e5, e6, e7⟩ := cut_facts (d := d) (B := B) hr (by omega) ⟨by omega, by omega⟩ hB.symm hp
    rw [e1]
    have b1 := giveL_bd (at_ := at_) (gn := gn) (pn := pn) (ln := ln) (bo := bo) (lt := lt) (cu := B) (t := B + d)
    have b2 := giveR_bd (at_ := at_) (gn := gn) (pn := pn) (ln := ln) (bo := bo) (lt := lt) (cu := B) (t := B + d)
    have b3 := giveL_bd (at_ := at_) (gn := gn) (pn := pn) (ln := ln) (bo := bo) (lt := lt) (cu := cu) (t := B + d)
    have b4 := giveR_bd (at_ := at_) (gn := gn) (pn := pn) (ln := ln) (bo := bo) (lt := lt) (cu := cu) (t := B + d)
    generalize giveL at_ gn pn ln bo lt B (B + d) = x1 at *
    generalize giveR at_ gn pn ln bo lt B (B + d) = x2 at *
    generalize giveL at_ gn pn ln bo lt cu (B + d) = x3 at *
    generalize giveR at_ gn pn ln bo lt cu (B + d) = x4 at *
    generalize endF at_ ln bo lt B = n1 at *
    generalize endF at_ ln bo lt cu = n2 at *
    have s3 : 0 ≤ sizeF x3 ∧ sizeF x3 ≤ 8192 := by unfold sizeF; split <;> omega
    have s4 : 0 ≤ sizeF x4 ∧ sizeF x4 ≤ 8192 := by unfold sizeF; split <;> omega
    have q1 : n1 ≤ B + 64 := e3
    have q2 : n1 ≤ if n2 < bo then bo else n2 := by split <;> omega
    have q3 : sizeF x1 ≤ sizeF x3 + 1 := by omega
    have q4 : sizeF x2 ≤ sizeF x4 + 1 := by omega
    have q5 : inR IntKind.i64 (sizeF x3 + 1) := by simp only [inR, klo, khi]; omega
    have q6 : inR IntKind.i64 (sizeF x4 + 1) := by simp only [inR, klo, khi]; omega
    have q7 : inR IntKind.i64 d := by simp only [inR, klo, khi]; omega
    have q8 : inR IntKind.i64 (B + d) := by simp only [inR, klo, khi]; omega
    have q9 : inR IntKind.i64 (B + 64) := by simp only [inR, klo, khi]; omega
    have q10 : (-9223372036854775807 : Int) ≤ x1 ∧ x1 ≤ 9223372036854775807 := by omega
    have q11 : (-9223372036854775807 : Int) ≤ x2 ∧ x2 ≤ 9223372036854775807 := by omega
    have q12 : (-9223372036854775807 : Int) ≤ x3 ∧ x3 ≤ 9223372036854775807 := by omega
    have q13 : (-9223372036854775807 : Int) ≤ x4 ∧ x4 ≤ 9223372036854775807 := by omega
    by_cases hd : d < 64
    · simp [hr, e2, hc, h0, h1, hd, q1, q2, q3, q4, q5, q6, q7, q8, q9, q10, q11, q12, q13]
    · obtain ⟨y1, y2⟩ := e7 (by omega)
      subst y1 y2
      simp [hr, e2, hc, h0, h1, hd, q1, q2, q3, q4, q5, q6, q7, q8, q9, q10, q11, q12, q13]
  · cases h
noncomputable def Γ_VoiceCuts : List (FuncId × FC) := (5, c_VoiceCuts) :: Γ_size
theorem ok_VoiceCuts : ΓOk Try.prog Γ_VoiceCuts := ΓOk.cons s_VoiceCuts ok_size

theorem VoiceCuts_walk (fr : Int) (em : Int) (ki : Int) (od : Int) (at_ : Int) (gn : Int) (pn : Int) (pr : Int) (ln : Int) (bo : Int) (lt : Int) (cu : Int) (t : Int) (d : Int) (w_fr : (Lit.int .i64 fr).wf = true) (w_em : (Lit.int .i64 em).wf = true) (w_ki : (Lit.int .i64 ki).wf = true) (w_od : (Lit.int .i64 od).wf = true) (w_at_ : (Lit.int .i64 at_).wf = true) (w_gn : (Lit.int .i64 gn).wf = true) (w_pn : (Lit.int .i64 pn).wf = true) (w_pr : (Lit.int .i64 pr).wf = true) (w_ln : (Lit.int .i64 ln).wf = true) (w_bo : (Lit.int .i64 bo).wf = true) (w_lt : (Lit.int .i64 lt).wf = true) (w_cu : (Lit.int .i64 cu).wf = true) (w_t : (Lit.int .i64 t).wf = true) (w_d : (Lit.int .u8 d).wf = true) (w : World) : Calls Try.prog 5 #[.agg #[.int .i64 fr, .int .i64 em, .int .i64 ki, .int .i64 od, .int .i64 at_, .int .i64 gn, .int .i64 pn, .int .i64 pr, .int .i64 ln, .int .i64 bo, .int .i64 lt, .int .i64 cu], .int .i64 t, .int .u8 d] w fun e w' => e = .returned (.bool true) ∧ Ext w w' :=
  calls_of_fsound s_VoiceCuts (us := [.v (.agg [.int .i64 false fr, .int .i64 false em, .int .i64 false ki, .int .i64 false od, .int .i64 false at_, .int .i64 false gn, .int .i64 false pn, .int .i64 false pr, .int .i64 false ln, .int .i64 false bo, .int .i64 false lt, .int .i64 false cu]), .v (.one (.int .i64 false t)), .v (.one (.int .u8 false d))]) rfl (bounds_u8 w_d) rfl rfl w

end Go.Proofs.Ytjfgobhipemioaa
