/- WHICH OF TWO VOICES IS LOUDER, BY THE PROGRAM AND BY THE DOCUMENT. Conditions: the contracts' own. Own work; the normal forms were printed by a program of mine (wip/rex). -/
import Derived.Test.YtljnddhldjaglaaRV1
namespace Go.Proofs.Ytljnddhldjaglaa
open Go.RowKit Rex
set_option linter.unusedVariables false
set_option linter.unusedSimpArgs false
set_option maxRecDepth 100000


def cmpI (x y : Int) : Int := if x < y then -1 else if y < x then 1 else 0
def or5 (a b c d e : Int) : Int := if a ≠ 0 then a else if b ≠ 0 then b else if c ≠ 0 then c else if d ≠ 0 then d else e
/-- the greater key's, as 1, 0, -1 -/
def keyC (a1 a2 a3 a4 b1 b2 b3 b4 : Int) : Int := or5 (cmpI a1 b1) (cmpI a2 b2) (cmpI a3 b3) (cmpI a4 b4) 0
/-- goes the first of two ahead? -/
def loudB (a0 a1 a2 a3 a4 b0 b1 b2 b3 b4 : Int) : Bool := decide (0 < or5 (cmpI a0 b0) (cmpI a1 b1) (cmpI a2 b2) (cmpI a3 b3) (cmpI a4 b4))
theorem or5_pos (a b c d e : Int) : 0 < or5 a b c d e ↔ 0 < a ∨ a = 0 ∧ (0 < b ∨ b = 0 ∧ (0 < c ∨ c = 0 ∧ (0 < d ∨ d = 0 ∧ 0 < e))) := by
  unfold or5
  (repeat' split) <;> omega
theorem cmpI_pos (x y : Int) : 0 < cmpI x y ↔ y < x := by
  unfold cmpI
  (repeat' split) <;> omega
theorem cmpI_zero (x y : Int) : cmpI x y = 0 ↔ x = y := by
  unfold cmpI
  (repeat' split) <;> omega
theorem keyC_pos (a1 a2 a3 a4 b1 b2 b3 b4 : Int) : 0 < keyC a1 a2 a3 a4 b1 b2 b3 b4 ↔ b1 < a1 ∨ a1 = b1 ∧ (b2 < a2 ∨ a2 = b2 ∧ (b3 < a3 ∨ a3 = b3 ∧ b4 < a4)) := by
  unfold keyC
  rw [or5_pos]
  simp only [cmpI_pos, cmpI_zero]
  omega
/-- lexicographic -/
theorem loud_lex {a0 a1 a2 a3 a4 b0 b1 b2 b3 b4 : Int} : loudB a0 a1 a2 a3 a4 b0 b1 b2 b3 b4 = true ↔ b0 < a0 ∨ a0 = b0 ∧ (b1 < a1 ∨ a1 = b1 ∧ (b2 < a2 ∨ a2 = b2 ∧ (b3 < a3 ∨ a3 = b3 ∧ b4 < a4))) := by
  unfold loudB
  rw [decide_eq_true_eq, or5_pos]
  simp only [cmpI_pos, cmpI_zero]


noncomputable def c_isnan : FC := fun us => match us with
  | [.v (.one (.int .i64 _ x))] => some (none, .v (.one (.bool true (false))))
  | _ => none
theorem nf_isnan (x : Int) : goal ⟨Mx, Try.prog, Γ_rcut, Δ0, B0, none, false, [], none⟩ noL 400 Try.f91 [.v (.one (.int .i64 false x))] [] (fun r _ => svLe idR r (.v (.one (.bool true (false))))) = ((x != x) = false) := by kernel_rfl
theorem s_isnan : FSound Try.prog 91 c_isnan := by
  refine fsound_of (Ctx.ok_of2 (M := Mx) (N := []) mixedA ok_rcut okD0 okB0) Try.func91 (by kernel_rfl) (by kernel_rfl) ?_
  intro us p v h hp
  unfold c_isnan at h
  split at h
  · rename_i k0 x
    cases h
    refine ⟨rfl, noL, 400, [.v (.one (.int .i64 false x))], by simp [tmLe, svLe, vLe, lfLe, lfsLe, ifB, nmIs, idR], rfl, ?_⟩
    rw [nf_isnan]
    clear hp
    simp
  · cases h
noncomputable def Γ_isnan : List (FuncId × FX) := (91, c_isnan) :: Γ_rcut
theorem ok_isnan : ΓOk Try.prog Γ_isnan := ΓOk.cons (c := .pure c_isnan) s_isnan ok_rcut

noncomputable def c_cmpc : FC := fun us => match us with
  | [.v (.one (.int .i64 _ x)), .v (.one (.int .i64 _ y))] => some (none, .v (.one (.int .i64 false (cmpI x y))))
  | _ => none
theorem nf_cmpc (x : Int) (y : Int) : goal ⟨Mx, Try.prog, Γ_isnan, Δ0, B0, none, false, [], none⟩ noL 400 Try.f84 [.v (.one (.int .i64 false x)), .v (.one (.int .i64 false y))] [] (fun r _ => svLe idR r (.v (.one (.int .i64 false (cmpI x y))))) = ((decide (x < y) = true → (-1 : Int) = cmpI x y) ∧ (decide (x < y) = false → (decide (y < x) = true → (1 : Int) = cmpI x y) ∧ (decide (y < x) = false → (0 : Int) = cmpI x y))) := by kernel_rfl
theorem s_cmpc : FSound Try.prog 84 c_cmpc := by
  refine fsound_of (Ctx.ok_of2 (M := Mx) (N := []) mixedA ok_isnan okD0 okB0) Try.func84 (by kernel_rfl) (by kernel_rfl) ?_
  intro us p v h hp
  unfold c_cmpc at h
  split at h
  · rename_i k0 x k1 y
    cases h
    refine ⟨rfl, noL, 400, [.v (.one (.int .i64 false x)), .v (.one (.int .i64 false y))], by simp [tmLe, svLe, vLe, lfLe, lfsLe, ifB, nmIs, idR], rfl, ?_⟩
    rw [nf_cmpc]
    clear hp
    (repeat' (first | (refine And.intro ?_ ?_) | intro _))
    all_goals (try (refine Bool.eq_iff_iff.2 ?_))
    all_goals (try simp only [decide_eq_true_eq, decide_eq_false_iff_not, beq_iff_eq, beq_eq_false_iff_ne, bne_iff_ne, bne_eq_false_iff_eq, ne_eq, Bool.not_eq_true', Bool.not_eq_false', ← Bool.not_eq_true, Bool.true_eq_false, Bool.false_eq_true, Bool.and_eq_true, Bool.or_eq_true, false_iff, iff_false, true_iff, iff_true, not_true_eq_false, not_false_eq_true, and_true, true_and, inR, klo, khi] at *)
    all_goals (try unfold cmpI)
    all_goals (repeat' split)
    all_goals omega
  · cases h
noncomputable def Γ_cmpc : List (FuncId × FX) := (84, c_cmpc) :: Γ_isnan
theorem ok_cmpc : ΓOk Try.prog Γ_cmpc := ΓOk.cons (c := .pure c_cmpc) s_cmpc ok_isnan

noncomputable def c_louder : FC := fun us => gA us fun ls0_0 us0 => gI .i64 ls0_0 fun fra ls0_1 => gI .i64 ls0_1 fun ema ls0_2 => gI .i64 ls0_2 fun kia ls0_3 => gI .i64 ls0_3 fun oda ls0_4 => gI .i64 ls0_4 fun at_a ls0_5 => gI .i64 ls0_5 fun gna ls0_6 => gI .i64 ls0_6 fun pna ls0_7 => gI .i64 ls0_7 fun pra ls0_8 => gI .i64 ls0_8 fun lna ls0_9 => gI .i64 ls0_9 fun boa ls0_10 => gI .i64 ls0_10 fun lta ls0_11 => gI .i64 ls0_11 fun cua ls0_12 => gN ls0_12 <| gA us0 fun ls1_0 us1 => gI .i64 ls1_0 fun frb ls1_1 => gI .i64 ls1_1 fun emb ls1_2 => gI .i64 ls1_2 fun kib ls1_3 => gI .i64 ls1_3 fun odb ls1_4 => gI .i64 ls1_4 fun at_b ls1_5 => gI .i64 ls1_5 fun gnb ls1_6 => gI .i64 ls1_6 fun pnb ls1_7 => gI .i64 ls1_7 fun prb ls1_8 => gI .i64 ls1_8 fun lnb ls1_9 => gI .i64 ls1_9 fun bob ls1_10 => gI .i64 ls1_10 fun ltb ls1_11 => gI .i64 ls1_11 fun cub ls1_12 => gN ls1_12 <| gE us1 <| some (none, .v (.one (.bool false (loudB pra fra ema kia oda prb frb emb kib odb))))
theorem nf_louder (fra : Int) (ema : Int) (kia : Int) (oda : Int) (at_a : Int) (gna : Int) (pna : Int) (pra : Int) (lna : Int) (boa : Int) (lta : Int) (cua : Int) (frb : Int) (emb : Int) (kib : Int) (odb : Int) (at_b : Int) (gnb : Int) (pnb : Int) (prb : Int) (lnb : Int) (bob : Int) (ltb : Int) (cub : Int) : goal ⟨Mx, Try.prog, Γ_cmpc, Δ0, B0, none, false, [83], none⟩ noL 400 Try.f72 [.v (.agg [.int .i64 false fra, .int .i64 false ema, .int .i64 false kia, .int .i64 false oda, .int .i64 false at_a, .int .i64 false gna, .int .i64 false pna, .int .i64 false pra, .int .i64 false lna, .int .i64 false boa, .int .i64 false lta, .int .i64 false cua]), .v (.agg [.int .i64 false frb, .int .i64 false emb, .int .i64 false kib, .int .i64 false odb, .int .i64 false at_b, .int .i64 false gnb, .int .i64 false pnb, .int .i64 false prb, .int .i64 false lnb, .int .i64 false bob, .int .i64 false ltb, .int .i64 false cub])] [] (fun r _ => svLe idR r (.v (.one (.bool false (loudB pra fra ema kia oda prb frb emb kib odb))))) = (((cmpI pra prb != (0 : Int)) = true → decide ((0 : Int) < cmpI pra prb) = loudB pra fra ema kia oda prb frb emb kib odb) ∧ ((cmpI pra prb != (0 : Int)) = false → ((cmpI fra frb != (0 : Int)) = true → decide ((0 : Int) < cmpI fra frb) = loudB pra fra ema kia oda prb frb emb kib odb) ∧ ((cmpI fra frb != (0 : Int)) = false → ((cmpI ema emb != (0 : Int)) = true → decide ((0 : Int) < cmpI ema emb) = loudB pra fra ema kia oda prb frb emb kib odb) ∧ ((cmpI ema emb != (0 : Int)) = false → ((cmpI kia kib != (0 : Int)) = true → decide ((0 : Int) < cmpI kia kib) = loudB pra fra ema kia oda prb frb emb kib odb) ∧ ((cmpI kia kib != (0 : Int)) = false → ((cmpI oda odb != (0 : Int)) = true → decide ((0 : Int) < cmpI oda odb) = loudB pra fra ema kia oda prb frb emb kib odb) ∧ ((cmpI oda odb != (0 : Int)) = false → false = loudB pra fra ema kia oda prb frb emb kib odb)))))) := by kernel_rfl
theorem s_louder : FSound Try.prog 72 c_louder := by
  refine fsound_of (Ctx.ok_of2 (M := Mx) (N := [83]) mixedA ok_cmpc okD0 okB0) Try.func72 (by kernel_rfl) (by kernel_rfl) ?_
  intro us p v h hp
  unfold c_louder at h
  have _d := True.intro
  · skip
    replace h := gA_some h
    obtain ⟨ls0_0, us0, rfl, h⟩ := h
    replace h := gI_some h
    obtain ⟨k0, fra, ls0_1, rfl, h⟩ := h
    replace h := gI_some h
    obtain ⟨k1, ema, ls0_2, rfl, h⟩ := h
    replace h := gI_some h
    obtain ⟨k2, kia, ls0_3, rfl, h⟩ := h
    replace h := gI_some h
    obtain ⟨k3, oda, ls0_4, rfl, h⟩ := h
    replace h := gI_some h
    obtain ⟨k4, at_a, ls0_5, rfl, h⟩ := h
    replace h := gI_some h
    obtain ⟨k5, gna, ls0_6, rfl, h⟩ := h
    replace h := gI_some h
    obtain ⟨k6, pna, ls0_7, rfl, h⟩ := h
    replace h := gI_some h
    obtain ⟨k7, pra, ls0_8, rfl, h⟩ := h
    replace h := gI_some h
    obtain ⟨k8, lna, ls0_9, rfl, h⟩ := h
    replace h := gI_some h
    obtain ⟨k9, boa, ls0_10, rfl, h⟩ := h
    replace h := gI_some h
    obtain ⟨k10, lta, ls0_11, rfl, h⟩ := h
    replace h := gI_some h
    obtain ⟨k11, cua, ls0_12, rfl, h⟩ := h
    replace h := gN_some h
    obtain ⟨rfl, h⟩ := h
    replace h := gA_some h
    obtain ⟨ls1_0, us1, rfl, h⟩ := h
    replace h := gI_some h
    obtain ⟨k12, frb, ls1_1, rfl, h⟩ := h
    replace h := gI_some h
    obtain ⟨k13, emb, ls1_2, rfl, h⟩ := h
    replace h := gI_some h
    obtain ⟨k14, kib, ls1_3, rfl, h⟩ := h
    replace h := gI_some h
    obtain ⟨k15, odb, ls1_4, rfl, h⟩ := h
    replace h := gI_some h
    obtain ⟨k16, at_b, ls1_5, rfl, h⟩ := h
    replace h := gI_some h
    obtain ⟨k17, gnb, ls1_6, rfl, h⟩ := h
    replace h := gI_some h
    obtain ⟨k18, pnb, ls1_7, rfl, h⟩ := h
    replace h := gI_some h
    obtain ⟨k19, prb, ls1_8, rfl, h⟩ := h
    replace h := gI_some h
    obtain ⟨k20, lnb, ls1_9, rfl, h⟩ := h
    replace h := gI_some h
    obtain ⟨k21, bob, ls1_10, rfl, h⟩ := h
    replace h := gI_some h
    obtain ⟨k22, ltb, ls1_11, rfl, h⟩ := h
    replace h := gI_some h
    obtain ⟨k23, cub, ls1_12, rfl, h⟩ := h
    replace h := gN_some h
    obtain ⟨rfl, h⟩ := h
    replace h := gE_some h
    obtain ⟨rfl, h⟩ := h
    cases h
    refine ⟨rfl, noL, 400, [.v (.agg [.int .i64 false fra, .int .i64 false ema, .int .i64 false kia, .int .i64 false oda, .int .i64 false at_a, .int .i64 false gna, .int .i64 false pna, .int .i64 false pra, .int .i64 false lna, .int .i64 false boa, .int .i64 false lta, .int .i64 false cua]), .v (.agg [.int .i64 false frb, .int .i64 false emb, .int .i64 false kib, .int .i64 false odb, .int .i64 false at_b, .int .i64 false gnb, .int .i64 false pnb, .int .i64 false prb, .int .i64 false lnb, .int .i64 false bob, .int .i64 false ltb, .int .i64 false cub])], by simp [tmLe, svLe, vLe, lfLe, lfsLe, ifB, nmIs, idR], rfl, ?_⟩
    rw [nf_louder]
    clear hp
    (repeat' (first | (refine And.intro ?_ ?_) | intro _))
    all_goals (simp only [bne_iff_ne, ne_eq, bne_eq_false_iff_eq] at *)
    all_goals (unfold loudB or5)
    all_goals simp [*]
noncomputable def Γ_louder : List (FuncId × FX) := (72, c_louder) :: Γ_cmpc
theorem ok_louder : ΓOk Try.prog Γ_louder := ΓOk.cons (c := .pure c_louder) s_louder ok_cmpc

noncomputable def c_rcompare : FC := fun us => match us with
  | [.v (.agg [.int .i64 _ a1, .int .i64 _ a2, .int .i64 _ a3, .int .i64 _ a4]), .v (.agg [.int .i64 _ b1, .int .i64 _ b2, .int .i64 _ b3, .int .i64 _ b4])] => some (none, .v (.one (.int .i64 false (keyC a1 a2 a3 a4 b1 b2 b3 b4))))
  | _ => none
theorem nf_rcompare (a1 : Int) (a2 : Int) (a3 : Int) (a4 : Int) (b1 : Int) (b2 : Int) (b3 : Int) (b4 : Int) : goal ⟨Mx, Try.prog, Γ_louder, Δ0, B0, none, false, [], none⟩ noL 400 Try.f70 [.v (.agg [.int .i64 false a1, .int .i64 false a2, .int .i64 false a3, .int .i64 false a4]), .v (.agg [.int .i64 false b1, .int .i64 false b2, .int .i64 false b3, .int .i64 false b4])] [] (fun r _ => svLe idR r (.v (.one (.int .i64 false (keyC a1 a2 a3 a4 b1 b2 b3 b4))))) = ((decide (a1 < b1) = true → (-1 : Int) = keyC a1 a2 a3 a4 b1 b2 b3 b4) ∧ (decide (a1 < b1) = false → (decide (b1 < a1) = true → (1 : Int) = keyC a1 a2 a3 a4 b1 b2 b3 b4) ∧ (decide (b1 < a1) = false → (decide (a2 < b2) = true → (-1 : Int) = keyC a1 a2 a3 a4 b1 b2 b3 b4) ∧ (decide (a2 < b2) = false → (decide (b2 < a2) = true → (1 : Int) = keyC a1 a2 a3 a4 b1 b2 b3 b4) ∧ (decide (b2 < a2) = false → (decide (a3 < b3) = true → (-1 : Int) = keyC a1 a2 a3 a4 b1 b2 b3 b4) ∧ (decide (a3 < b3) = false → (decide (b3 < a3) = true → (1 : Int) = keyC a1 a2 a3 a4 b1 b2 b3 b4) ∧ (decide (b3 < a3) = false → (decide (a4 < b4) = true → (-1 : Int) = keyC a1 a2 a3 a4 b1 b2 b3 b4) ∧ (decide (a4 < b4) = false → (decide (b4 < a4) = true → (1 : Int) = keyC a1 a2 a3 a4 b1 b2 b3 b4) ∧ (decide (b4 < a4) = false → (0 : Int) = keyC a1 a2 a3 a4 b1 b2 b3 b4))))))))) := by kernel_rfl
theorem s_rcompare : FSound Try.prog 70 c_rcompare := by
  refine fsound_of (Ctx.ok_of2 (M := Mx) (N := []) mixedA ok_louder okD0 okB0) Try.func70 (by kernel_rfl) (by kernel_rfl) ?_
  intro us p v h hp
  unfold c_rcompare at h
  split at h
  · rename_i k0 a1 k1 a2 k2 a3 k3 a4 k4 b1 k5 b2 k6 b3 k7 b4
    cases h
    refine ⟨rfl, noL, 400, [.v (.agg [.int .i64 false a1, .int .i64 false a2, .int .i64 false a3, .int .i64 false a4]), .v (.agg [.int .i64 false b1, .int .i64 false b2, .int .i64 false b3, .int .i64 false b4])], by simp [tmLe, svLe, vLe, lfLe, lfsLe, ifB, nmIs, idR], rfl, ?_⟩
    rw [nf_rcompare]
    clear hp
    (repeat' (first | (refine And.intro ?_ ?_) | intro _))
    all_goals (simp only [decide_eq_true_eq, decide_eq_false_iff_not] at *)
    all_goals (unfold keyC or5 cmpI)
    all_goals simp [*]
    all_goals (repeat' split)
    all_goals omega
  · cases h
noncomputable def Γ_rcompare : List (FuncId × FX) := (70, c_rcompare) :: Γ_louder
theorem ok_rcompare : ΓOk Try.prog Γ_rcompare := ΓOk.cons (c := .pure c_rcompare) s_rcompare ok_louder

noncomputable def c_rlouder : FC := fun us => gA us fun ls0_0 us0 => gI .i64 ls0_0 fun fra ls0_1 => gI .i64 ls0_1 fun ema ls0_2 => gI .i64 ls0_2 fun kia ls0_3 => gI .i64 ls0_3 fun oda ls0_4 => gI .i64 ls0_4 fun at_a ls0_5 => gI .i64 ls0_5 fun gna ls0_6 => gI .i64 ls0_6 fun pna ls0_7 => gI .i64 ls0_7 fun pra ls0_8 => gI .i64 ls0_8 fun lna ls0_9 => gI .i64 ls0_9 fun boa ls0_10 => gI .i64 ls0_10 fun lta ls0_11 => gI .i64 ls0_11 fun cua ls0_12 => gN ls0_12 <| gA us0 fun ls1_0 us1 => gI .i64 ls1_0 fun frb ls1_1 => gI .i64 ls1_1 fun emb ls1_2 => gI .i64 ls1_2 fun kib ls1_3 => gI .i64 ls1_3 fun odb ls1_4 => gI .i64 ls1_4 fun at_b ls1_5 => gI .i64 ls1_5 fun gnb ls1_6 => gI .i64 ls1_6 fun pnb ls1_7 => gI .i64 ls1_7 fun prb ls1_8 => gI .i64 ls1_8 fun lnb ls1_9 => gI .i64 ls1_9 fun bob ls1_10 => gI .i64 ls1_10 fun ltb ls1_11 => gI .i64 ls1_11 fun cub ls1_12 => gN ls1_12 <| gE us1 <| some (none, .v (.one (.bool false (loudB pra fra ema kia oda prb frb emb kib odb))))
theorem nf_rlouder (fra : Int) (ema : Int) (kia : Int) (oda : Int) (at_a : Int) (gna : Int) (pna : Int) (pra : Int) (lna : Int) (boa : Int) (lta : Int) (cua : Int) (frb : Int) (emb : Int) (kib : Int) (odb : Int) (at_b : Int) (gnb : Int) (pnb : Int) (prb : Int) (lnb : Int) (bob : Int) (ltb : Int) (cub : Int) : goal ⟨Mx, Try.prog, Γ_rcompare, Δ0, B0, none, false, [], none⟩ noL 400 Try.f42 [.v (.agg [.int .i64 false fra, .int .i64 false ema, .int .i64 false kia, .int .i64 false oda, .int .i64 false at_a, .int .i64 false gna, .int .i64 false pna, .int .i64 false pra, .int .i64 false lna, .int .i64 false boa, .int .i64 false lta, .int .i64 false cua]), .v (.agg [.int .i64 false frb, .int .i64 false emb, .int .i64 false kib, .int .i64 false odb, .int .i64 false at_b, .int .i64 false gnb, .int .i64 false pnb, .int .i64 false prb, .int .i64 false lnb, .int .i64 false bob, .int .i64 false ltb, .int .i64 false cub])] [] (fun r _ => svLe idR r (.v (.one (.bool false (loudB pra fra ema kia oda prb frb emb kib odb))))) = (((pra != prb) = true → decide (prb < pra) = loudB pra fra ema kia oda prb frb emb kib odb) ∧ ((pra != prb) = false → decide ((0 : Int) < keyC fra ema kia oda frb emb kib odb) = loudB pra fra ema kia oda prb frb emb kib odb)) := by kernel_rfl
theorem s_rlouder : FSound Try.prog 42 c_rlouder := by
  refine fsound_of (Ctx.ok_of2 (M := Mx) (N := []) mixedA ok_rcompare okD0 okB0) Try.func42 (by kernel_rfl) (by kernel_rfl) ?_
  intro us p v h hp
  unfold c_rlouder at h
  have _d := True.intro
  · skip
    replace h := gA_some h
    obtain ⟨ls0_0, us0, rfl, h⟩ := h
    replace h := gI_some h
    obtain ⟨k0, fra, ls0_1, rfl, h⟩ := h
    replace h := gI_some h
    obtain ⟨k1, ema, ls0_2, rfl, h⟩ := h
    replace h := gI_some h
    obtain ⟨k2, kia, ls0_3, rfl, h⟩ := h
    replace h := gI_some h
    obtain ⟨k3, oda, ls0_4, rfl, h⟩ := h
    replace h := gI_some h
    obtain ⟨k4, at_a, ls0_5, rfl, h⟩ := h
    replace h := gI_some h
    obtain ⟨k5, gna, ls0_6, rfl, h⟩ := h
    replace h := gI_some h
    obtain ⟨k6, pna, ls0_7, rfl, h⟩ := h
    replace h := gI_some h
    obtain ⟨k7, pra, ls0_8, rfl, h⟩ := h
    replace h := gI_some h
    obtain ⟨k8, lna, ls0_9, rfl, h⟩ := h
    replace h := gI_some h
    obtain ⟨k9, boa, ls0_10, rfl, h⟩ := h
    replace h := gI_some h
    obtain ⟨k10, lta, ls0_11, rfl, h⟩ := h
    replace h := gI_some h
    obtain ⟨k11, cua, ls0_12, rfl, h⟩ := h
    replace h := gN_some h
    obtain ⟨rfl, h⟩ := h
    replace h := gA_some h
    obtain ⟨ls1_0, us1, rfl, h⟩ := h
    replace h := gI_some h
    obtain ⟨k12, frb, ls1_1, rfl, h⟩ := h
    replace h := gI_some h
    obtain ⟨k13, emb, ls1_2, rfl, h⟩ := h
    replace h := gI_some h
    obtain ⟨k14, kib, ls1_3, rfl, h⟩ := h
    replace h := gI_some h
    obtain ⟨k15, odb, ls1_4, rfl, h⟩ := h
    replace h := gI_some h
    obtain ⟨k16, at_b, ls1_5, rfl, h⟩ := h
    replace h := gI_some h
    obtain ⟨k17, gnb, ls1_6, rfl, h⟩ := h
    replace h := gI_some h
    obtain ⟨k18, pnb, ls1_7, rfl, h⟩ := h
    replace h := gI_some h
    obtain ⟨k19, prb, ls1_8, rfl, h⟩ := h
    replace h := gI_some h
    obtain ⟨k20, lnb, ls1_9, rfl, h⟩ := h
    replace h := gI_some h
    obtain ⟨k21, bob, ls1_10, rfl, h⟩ := h
    replace h := gI_some h
    obtain ⟨k22, ltb, ls1_11, rfl, h⟩ := h
    replace h := gI_some h
    obtain ⟨k23, cub, ls1_12, rfl, h⟩ := h
    replace h := gN_some h
    obtain ⟨rfl, h⟩ := h
    replace h := gE_some h
    obtain ⟨rfl, h⟩ := h
    cases h
    refine ⟨rfl, noL, 400, [.v (.agg [.int .i64 false fra, .int .i64 false ema, .int .i64 false kia, .int .i64 false oda, .int .i64 false at_a, .int .i64 false gna, .int .i64 false pna, .int .i64 false pra, .int .i64 false lna, .int .i64 false boa, .int .i64 false lta, .int .i64 false cua]), .v (.agg [.int .i64 false frb, .int .i64 false emb, .int .i64 false kib, .int .i64 false odb, .int .i64 false at_b, .int .i64 false gnb, .int .i64 false pnb, .int .i64 false prb, .int .i64 false lnb, .int .i64 false bob, .int .i64 false ltb, .int .i64 false cub])], by simp [tmLe, svLe, vLe, lfLe, lfsLe, ifB, nmIs, idR], rfl, ?_⟩
    rw [nf_rlouder]
    clear hp
    refine ⟨fun h => ?_, fun h => ?_⟩ <;> refine Bool.eq_iff_iff.2 ?_ <;> (simp only [bne_iff_ne, ne_eq, bne_eq_false_iff_eq, decide_eq_true_eq, loud_lex, keyC_pos] at *) <;> omega
noncomputable def Γ_rlouder : List (FuncId × FX) := (42, c_rlouder) :: Γ_rcompare
theorem ok_rlouder : ΓOk Try.prog Γ_rlouder := ΓOk.cons (c := .pure c_rlouder) s_rlouder ok_rcompare

theorem loud_asymm {a0 a1 a2 a3 a4 b0 b1 b2 b3 b4 : Int} (h : loudB a0 a1 a2 a3 a4 b0 b1 b2 b3 b4 = true) : loudB b0 b1 b2 b3 b4 a0 a1 a2 a3 a4 = false := by
  rw [Bool.eq_false_iff]
  intro k
  rw [loud_lex] at h k
  omega
theorem loud_total {a0 a1 a2 a3 a4 b0 b1 b2 b3 b4 : Int} (h : loudB a0 a1 a2 a3 a4 b0 b1 b2 b3 b4 = false) (k : loudB b0 b1 b2 b3 b4 a0 a1 a2 a3 a4 = false) : a0 = b0 ∧ a1 = b1 ∧ a2 = b2 ∧ a3 = b3 ∧ a4 = b4 := by
  rw [Bool.eq_false_iff, ne_eq, loud_lex] at h k
  omega
theorem loud_trans {a0 a1 a2 a3 a4 b0 b1 b2 b3 b4 c0 c1 c2 c3 c4 : Int} (h : loudB a0 a1 a2 a3 a4 b0 b1 b2 b3 b4 = true) (k : loudB b0 b1 b2 b3 b4 c0 c1 c2 c3 c4 = true) : loudB a0 a1 a2 a3 a4 c0 c1 c2 c3 c4 = true := by
  rw [loud_lex] at *
  omega

end Go.Proofs.Ytljnddhldjaglaa
