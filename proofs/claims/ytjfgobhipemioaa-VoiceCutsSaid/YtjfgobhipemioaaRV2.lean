/- WHICH OF TWO VOICES IS LOUDER, BY THE PROGRAM AND BY THE DOCUMENT. Conditions: the contracts' own. Own work; the normal forms were printed by a program of mine (wip/rex). -/
import Derived.Test.YtjfgobhipemioaaRV1
namespace Go.Proofs.Ytjfgobhipemioaa
open Go.RowKit Rex
set_option linter.unusedVariables false
set_option linter.unusedSimpArgs false
set_option maxRecDepth 100000


def cmpI (x y : Int) : Int := if x < y then -1 else if y < x then 1 else 0
def or5 (a b c d e : Int) : Int := if a ≠ 0 then a else if b ≠ 0 then b else if c ≠ 0 then c else if d ≠ 0 then d else e
/-- the greater key's, as 1, 0, -1 -/
def keyC (a1 a2 a3 a4 b1 b2 b3 b4 : Int) : Int := or5 (cmpI a1 b1) (cmpI a2 b2) (cmpI a3 b3) (cmpI a4 b4) 0
/-- goes the first of two ahead? -/
def loudB (a0 a1 a2 a3 a4 b0 b1 b2 b3 b4 : Int) : Bool := decide (0 < or5 (cmpI a0 b0) (cmpI a1 b1) (cmpI a2 b2) (cmpI a3 b3) (cmpI a4 b4))
theorem or5_pos (a b c d e : Int) : 0 < or5 a b c d e ↔ 0 < a ∨ a = 0 ∧ (0 < b ∨ b = 0 ∧ (0 < c ∨ c = 0 ∧ (0 < d ∨ d = 0 ∧ 0 < e))) := by
  unfold or5
  (repeat' split) <;> omega
theorem cmpI_pos (x y : Int) : 0 < cmpI x y ↔ y < x := by
  unfold cmpI
  (repeat' split) <;> omega
theorem cmpI_zero (x y : Int) : cmpI x y = 0 ↔ x = y := by
  unfold cmpI
  (repeat' split) <;> omega
theorem keyC_pos (a1 a2 a3 a4 b1 b2 b3 b4 : Int) : 0 < keyC a1 a2 a3 a4 b1 b2 b3 b4 ↔ b1 < a1 ∨ a1 = b1 ∧ (b2 < a2 ∨ a2 = b2 ∧ (b3 < a3 ∨ a3 = b3 ∧ b4 < a4)) := by
  unfold keyC
  rw [or5_pos]
  simp only [cmpI_pos, cmpI_zero]
  omega
/-- lexicographic -/
theorem loud_lex {a0 a1 a2 a3 a4 b0 b1 b2 b3 b4 : Int} : loudB a0 a1 a2 a3 a4 b0 b1 b2 b3 b4 = true ↔ b0 < a0 ∨ a0 = b0 ∧ (b1 < a1 ∨ a1 = b1 ∧ (b2 < a2 ∨ a2 = b2 ∧ (b3 < a3 ∨ a3 = b3 ∧ b4 < a4))) := by
  unfold loudB
  rw [decide_eq_true_eq, or5_pos]
  simp only [cmpI_pos, cmpI_zero]


noncomputable def c_isnan : FC := fun us => match us with
  | [.v (.one (.int .i64 _ x))] => some (none, .v (.one (.bool true (false))))
  | _ => none
theorem nf_isnan (x : Int) : goal ⟨Mx, Try.prog, Γ_rcut, Δ0⟩ noL 400 Try.f87 [.v (.one (.int .i64 false x))] [] (fun r _ => svLe r (.v (.one (.bool true (false))))) = ((x != x) = false) := by kernel_rfl
theorem s_isnan : FSound Try.prog 87 c_isnan := by
  refine fsound_of (Ctx.ok_of2 (M := Mx) mixedA ok_rcut okD0) Try.func87 (by kernel_rfl) (by kernel_rfl) ?_
  intro us p v h hp
  unfold c_isnan at h
  split at h
  · rename_i k0 x
    cases h
    refine ⟨rfl, noL, 400, [.v (.one (.int .i64 false x))], by simp [tmLe, svLe, vLe, lfLe, lfsLe, ifB], rfl, ?_⟩
    rw [nf_isnan]
    clear hp
    simp
  · cases h
noncomputable def Γ_isnan : List (FuncId × FC) := (87, c_isnan) :: Γ_rcut
theorem ok_isnan : ΓOk Try.prog Γ_isnan := ΓOk.cons s_isnan ok_rcut

noncomputable def c_cmpc : FC := fun us => match us with
  | [.v (.one (.int .i64 _ x)), .v (.one (.int .i64 _ y))] => some (none, .v (.one (.int .i64 false (cmpI x y))))
  | _ => none
theorem nf_cmpc (x : Int) (y : Int) : goal ⟨Mx, Try.prog, Γ_isnan, Δ0⟩ noL 400 Try.f59 [.v (.one (.int .i64 false x)), .v (.one (.int .i64 false y))] [] (fun r _ => svLe r (.v (.one (.int .i64 false (cmpI x y))))) = ((decide (x < y) = true → (-1 : Int) = cmpI x y) ∧ (decide (x < y) = false → (decide (y < x) = true → (1 : Int) = cmpI x y) ∧ (decide (y < x) = false → (0 : Int) = cmpI x y))) := by kernel_rfl
theorem s_cmpc : FSound Try.prog 59 c_cmpc := by
  refine fsound_of (Ctx.ok_of2 (M := Mx) mixedA ok_isnan okD0) Try.func59 (by kernel_rfl) (by kernel_rfl) ?_
  intro us p v h hp
  unfold c_cmpc at h
  split at h
  · rename_i k0 x k1 y
    cases h
    refine ⟨rfl, noL, 400, [.v (.one (.int .i64 false x)), .v (.one (.int .i64 false y))], by simp [tmLe, svLe, vLe, lfLe, lfsLe, ifB], rfl, ?_⟩
    rw [nf_cmpc]
    clear hp
    (repeat' (first | (refine And.intro ?_ ?_) | intro _))
    all_goals (try (refine Bool.eq_iff_iff.2 ?_))
    all_goals (try simp only [decide_eq_true_eq, decide_eq_false_iff_not, beq_iff_eq, beq_eq_false_iff_ne, bne_iff_ne, bne_eq_false_iff_eq, ne_eq, Bool.not_eq_true', Bool.not_eq_false', ← Bool.not_eq_true, Bool.true_eq_false, Bool.false_eq_true, Bool.and_eq_true, Bool.or_eq_true, false_iff, iff_false, true_iff, iff_true, not_true_eq_false, not_false_eq_true, and_true, true_and, inR, klo, khi] at *)
    all_goals (try unfold cmpI)
    all_goals (repeat' split)
    all_goals omega
  · cases h
noncomputable def Γ_cmpc : List (FuncId × FC) := (59, c_cmpc) :: Γ_isnan
theorem ok_cmpc : ΓOk Try.prog Γ_cmpc := ΓOk.cons s_cmpc ok_isnan

noncomputable def c_or5 : MC := fun us m K => match us with
  | [.v (.one (.sl x 0 true 5 5))] => match mmOf m x with
    | some (.cells [.int .i64 _ a, .int .i64 _ b, .int .i64 _ c, .int .i64 _ d, .int .i64 _ e] 3) => K (.v (.one (.int .i64 false (or5 a b c d e)))) (m.set x (some (.cells [.int .i64 false a, .int .i64 false b, .int .i64 false c, .int .i64 false d, .int .i64 false e] 3)))
    | _ => False
  | _ => False
theorem nf_or5 (a : Int) (b : Int) (c : Int) (d : Int) (e : Int) : goal ⟨Mx, Try.prog, Γ_cmpc, Δ0⟩ noL 400 Try.f58 [.v (.one (.sl 0 0 true 5 5))] [some (.cells [.int .i64 false a, .int .i64 false b, .int .i64 false c, .int .i64 false d, .int .i64 false e] 3)] (fun r m' => svLe r (.v (.one (.int .i64 false (or5 a b c d e)))) ∧ headIs m' [.int .i64 false a, .int .i64 false b, .int .i64 false c, .int .i64 false d, .int .i64 false e] 3) = (((a != (0 : Int)) = true → a = or5 a b c d e ∧ a = a ∧ b = b ∧ c = c ∧ d = d ∧ e = e) ∧ ((a != (0 : Int)) = false → ((b != (0 : Int)) = true → b = or5 a b c d e ∧ a = a ∧ b = b ∧ c = c ∧ d = d ∧ e = e) ∧ ((b != (0 : Int)) = false → ((c != (0 : Int)) = true → c = or5 a b c d e ∧ a = a ∧ b = b ∧ c = c ∧ d = d ∧ e = e) ∧ ((c != (0 : Int)) = false → ((d != (0 : Int)) = true → d = or5 a b c d e ∧ a = a ∧ b = b ∧ c = c ∧ d = d ∧ e = e) ∧ ((d != (0 : Int)) = false → ((e != (0 : Int)) = true → e = or5 a b c d e ∧ a = a ∧ b = b ∧ c = c ∧ d = d ∧ e = e) ∧ ((e != (0 : Int)) = false → (0 : Int) = or5 a b c d e ∧ a = a ∧ b = b ∧ c = c ∧ d = d ∧ e = e)))))) := by kernel_rfl
theorem s_or5 : MSound Try.prog 58 c_or5 := by
  refine msound_of1 (Ctx.ok_of2 (M := Mx) mixedA ok_cmpc okD0) Try.func58 (by kernel_rfl) (by kernel_rfl) (fun x => .v (.one (.sl x 0 true 5 5))) (.sl 0 true 5 5) ?_
  intro us m K h
  unfold c_or5 at h
  split at h
  · rename_i x 
    split at h
    · rename_i k0 a k1 b k2 c k3 d k4 e hm
      refine ⟨noL, 400, x, [], [], _, [.int .i64 false a, .int .i64 false b, .int .i64 false c, .int .i64 false d, .int .i64 false e], _, (.v (.one (.int .i64 false (or5 a b c d e)))), [.int .i64 false a, .int .i64 false b, .int .i64 false c, .int .i64 false d, .int .i64 false e], rfl, hm, by simp [tmLe, svLe, vLe, lfLe, lfsLe, ifB], by simp [lfLe, lfsLe, ifB], rfl, rfl, rfl, rfl, ?_, h⟩
      rw [nf_or5]
      unfold or5
      (repeat' (first | (refine And.intro ?_ ?_) | intro _))
      all_goals (try (refine Bool.eq_iff_iff.2 ?_))
      all_goals (try simp only [decide_eq_true_eq, decide_eq_false_iff_not, beq_iff_eq, beq_eq_false_iff_ne, bne_iff_ne, bne_eq_false_iff_eq, ne_eq, Bool.not_eq_true', Bool.not_eq_false', ← Bool.not_eq_true, Bool.true_eq_false, Bool.false_eq_true, Bool.and_eq_true, Bool.or_eq_true, false_iff, iff_false, true_iff, iff_true, not_true_eq_false, not_false_eq_true, and_true, true_and, inR, klo, khi] at *)
      all_goals (repeat' split)
      all_goals omega
    · exact h.elim
  · exact h.elim
noncomputable def Δ_or5 : List (FuncId × MC) := (58, c_or5) :: Δ0
theorem okD_or5 : ΔOk Try.prog Δ_or5 := ΔOk.cons s_or5 okD0

noncomputable def c_louder : FC := fun us => match us with
  | [.v (.agg [.int .i64 _ fra, .int .i64 _ ema, .int .i64 _ kia, .int .i64 _ oda, .int .i64 _ at_a, .int .i64 _ gna, .int .i64 _ pna, .int .i64 _ pra, .int .i64 _ lna, .int .i64 _ boa, .int .i64 _ lta, .int .i64 _ cua]), .v (.agg [.int .i64 _ frb, .int .i64 _ emb, .int .i64 _ kib, .int .i64 _ odb, .int .i64 _ at_b, .int .i64 _ gnb, .int .i64 _ pnb, .int .i64 _ prb, .int .i64 _ lnb, .int .i64 _ bob, .int .i64 _ ltb, .int .i64 _ cub])] => some (none, .v (.one (.bool false (loudB pra fra ema kia oda prb frb emb kib odb))))
  | _ => none
theorem nf_louder (fra : Int) (ema : Int) (kia : Int) (oda : Int) (at_a : Int) (gna : Int) (pna : Int) (pra : Int) (lna : Int) (boa : Int) (lta : Int) (cua : Int) (frb : Int) (emb : Int) (kib : Int) (odb : Int) (at_b : Int) (gnb : Int) (pnb : Int) (prb : Int) (lnb : Int) (bob : Int) (ltb : Int) (cub : Int) : goal ⟨Mx, Try.prog, Γ_cmpc, Δ_or5⟩ noL 400 Try.f21 [.v (.agg [.int .i64 false fra, .int .i64 false ema, .int .i64 false kia, .int .i64 false oda, .int .i64 false at_a, .int .i64 false gna, .int .i64 false pna, .int .i64 false pra, .int .i64 false lna, .int .i64 false boa, .int .i64 false lta, .int .i64 false cua]), .v (.agg [.int .i64 false frb, .int .i64 false emb, .int .i64 false kib, .int .i64 false odb, .int .i64 false at_b, .int .i64 false gnb, .int .i64 false pnb, .int .i64 false prb, .int .i64 false lnb, .int .i64 false bob, .int .i64 false ltb, .int .i64 false cub])] [] (fun r _ => svLe r (.v (.one (.bool false (loudB pra fra ema kia oda prb frb emb kib odb))))) = (decide ((0 : Int) < or5 (cmpI pra prb) (cmpI fra frb) (cmpI ema emb) (cmpI kia kib) (cmpI oda odb)) = loudB pra fra ema kia oda prb frb emb kib odb) := by kernel_rfl
theorem s_louder : FSound Try.prog 21 c_louder := by
  refine fsound_of (Ctx.ok_of2 (M := Mx) mixedA ok_cmpc okD_or5) Try.func21 (by kernel_rfl) (by kernel_rfl) ?_
  intro us p v h hp
  unfold c_louder at h
  split at h
  · rename_i k0 fra k1 ema k2 kia k3 oda k4 at_a k5 gna k6 pna k7 pra k8 lna k9 boa k10 lta k11 cua k12 frb k13 emb k14 kib k15 odb k16 at_b k17 gnb k18 pnb k19 prb k20 lnb k21 bob k22 ltb k23 cub
    cases h
    refine ⟨rfl, noL, 400, [.v (.agg [.int .i64 false fra, .int .i64 false ema, .int .i64 false kia, .int .i64 false oda, .int .i64 false at_a, .int .i64 false gna, .int .i64 false pna, .int .i64 false pra, .int .i64 false lna, .int .i64 false boa, .int .i64 false lta, .int .i64 false cua]), .v (.agg [.int .i64 false frb, .int .i64 false emb, .int .i64 false kib, .int .i64 false odb, .int .i64 false at_b, .int .i64 false gnb, .int .i64 false pnb, .int .i64 false prb, .int .i64 false lnb, .int .i64 false bob, .int .i64 false ltb, .int .i64 false cub])], by simp [tmLe, svLe, vLe, lfLe, lfsLe, ifB], rfl, ?_⟩
    rw [nf_louder]
    clear hp
    rfl
  · cases h
noncomputable def Γ_louder : List (FuncId × FC) := (21, c_louder) :: Γ_cmpc
theorem ok_louder : ΓOk Try.prog Γ_louder := ΓOk.cons s_louder ok_cmpc

noncomputable def c_rcompare : FC := fun us => match us with
  | [.v (.agg [.int .i64 _ a1, .int .i64 _ a2, .int .i64 _ a3, .int .i64 _ a4]), .v (.agg [.int .i64 _ b1, .int .i64 _ b2, .int .i64 _ b3, .int .i64 _ b4])] => some (none, .v (.one (.int .i64 false (keyC a1 a2 a3 a4 b1 b2 b3 b4))))
  | _ => none
theorem nf_rcompare (a1 : Int) (a2 : Int) (a3 : Int) (a4 : Int) (b1 : Int) (b2 : Int) (b3 : Int) (b4 : Int) : goal ⟨Mx, Try.prog, Γ_louder, Δ_or5⟩ noL 400 Try.f60 [.v (.agg [.int .i64 false a1, .int .i64 false a2, .int .i64 false a3, .int .i64 false a4]), .v (.agg [.int .i64 false b1, .int .i64 false b2, .int .i64 false b3, .int .i64 false b4])] [] (fun r _ => svLe r (.v (.one (.int .i64 false (keyC a1 a2 a3 a4 b1 b2 b3 b4))))) = ((decide (a1 < b1) = true → (-1 : Int) = keyC a1 a2 a3 a4 b1 b2 b3 b4) ∧ (decide (a1 < b1) = false → (decide (b1 < a1) = true → (1 : Int) = keyC a1 a2 a3 a4 b1 b2 b3 b4) ∧ (decide (b1 < a1) = false → (decide (a2 < b2) = true → (-1 : Int) = keyC a1 a2 a3 a4 b1 b2 b3 b4) ∧ (decide (a2 < b2) = false → (decide (b2 < a2) = true → (1 : Int) = keyC a1 a2 a3 a4 b1 b2 b3 b4) ∧ (decide (b2 < a2) = false → (decide (a3 < b3) = true → (-1 : Int) = keyC a1 a2 a3 a4 b1 b2 b3 b4) ∧ (decide (a3 < b3) = false → (decide (b3 < a3) = true → (1 : Int) = keyC a1 a2 a3 a4 b1 b2 b3 b4) ∧ (decide (b3 < a3) = false → (decide (a4 < b4) = true → (-1 : Int) = keyC a1 a2 a3 a4 b1 b2 b3 b4) ∧ (decide (a4 < b4) = false → (decide (b4 < a4) = true → (1 : Int) = keyC a1 a2 a3 a4 b1 b2 b3 b4) ∧ (decide (b4 < a4) = false → (0 : Int) = keyC a1 a2 a3 a4 b1 b2 b3 b4))))))))) := by kernel_rfl
theorem s_rcompare : FSound Try.prog 60 c_rcompare := by
  refine fsound_of (Ctx.ok_of2 (M := Mx) mixedA ok_louder okD_or5) Try.func60 (by kernel_rfl) (by kernel_rfl) ?_
  intro us p v h hp
  unfold c_rcompare at h
  split at h
  · rename_i k0 a1 k1 a2 k2 a3 k3 a4 k4 b1 k5 b2 k6 b3 k7 b4
    cases h
    refine ⟨rfl, noL, 400, [.v (.agg [.int .i64 false a1, .int .i64 false a2, .int .i64 false a3, .int .i64 false a4]), .v (.agg [.int .i64 false b1, .int .i64 false b2, .int .i64 false b3, .int .i64 false b4])], by simp [tmLe, svLe, vLe, lfLe, lfsLe, ifB], rfl, ?_⟩
    rw [nf_rcompare]
    clear hp
    (repeat' (first | (refine And.intro ?_ ?_) | intro _))
    all_goals (simp only [decide_eq_true_eq, decide_eq_false_iff_not] at *)
    all_goals (unfold keyC or5 cmpI)
    all_goals simp [*]
    all_goals (repeat' split)
    all_goals omega
  · cases h
noncomputable def Γ_rcompare : List (FuncId × FC) := (60, c_rcompare) :: Γ_louder
theorem ok_rcompare : ΓOk Try.prog Γ_rcompare := ΓOk.cons s_rcompare ok_louder

noncomputable def c_rlouder : FC := fun us => match us with
  | [.v (.agg [.int .i64 _ fra, .int .i64 _ ema, .int .i64 _ kia, .int .i64 _ oda, .int .i64 _ at_a, .int .i64 _ gna, .int .i64 _ pna, .int .i64 _ pra, .int .i64 _ lna, .int .i64 _ boa, .int .i64 _ lta, .int .i64 _ cua]), .v (.agg [.int .i64 _ frb, .int .i64 _ emb, .int .i64 _ kib, .int .i64 _ odb, .int .i64 _ at_b, .int .i64 _ gnb, .int .i64 _ pnb, .int .i64 _ prb, .int .i64 _ lnb, .int .i64 _ bob, .int .i64 _ ltb, .int .i64 _ cub])] => some (none, .v (.one (.bool false (loudB pra fra ema kia oda prb frb emb kib odb))))
  | _ => none
theorem nf_rlouder (fra : Int) (ema : Int) (kia : Int) (oda : Int) (at_a : Int) (gna : Int) (pna : Int) (pra : Int) (lna : Int) (boa : Int) (lta : Int) (cua : Int) (frb : Int) (emb : Int) (kib : Int) (odb : Int) (at_b : Int) (gnb : Int) (pnb : Int) (prb : Int) (lnb : Int) (bob : Int) (ltb : Int) (cub : Int) : goal ⟨Mx, Try.prog, Γ_rcompare, Δ_or5⟩ noL 400 Try.f22 [.v (.agg [.int .i64 false fra, .int .i64 false ema, .int .i64 false kia, .int .i64 false oda, .int .i64 false at_a, .int .i64 false gna, .int .i64 false pna, .int .i64 false pra, .int .i64 false lna, .int .i64 false boa, .int .i64 false lta, .int .i64 false cua]), .v (.agg [.int .i64 false frb, .int .i64 false emb, .int .i64 false kib, .int .i64 false odb, .int .i64 false at_b, .int .i64 false gnb, .int .i64 false pnb, .int .i64 false prb, .int .i64 false lnb, .int .i64 false bob, .int .i64 false ltb, .int .i64 false cub])] [] (fun r _ => svLe r (.v (.one (.bool false (loudB pra fra ema kia oda prb frb emb kib odb))))) = (((pra != prb) = true → decide (prb < pra) = loudB pra fra ema kia oda prb frb emb kib odb) ∧ ((pra != prb) = false → decide ((0 : Int) < keyC fra ema kia oda frb emb kib odb) = loudB pra fra ema kia oda prb frb emb kib odb)) := by kernel_rfl
theorem s_rlouder : FSound Try.prog 22 c_rlouder := by
  refine fsound_of (Ctx.ok_of2 (M := Mx) mixedA ok_rcompare okD_or5) Try.func22 (by kernel_rfl) (by kernel_rfl) ?_
  intro us p v h hp
  unfold c_rlouder at h
  split at h
  · rename_i k0 fra k1 ema k2 kia k3 oda k4 at_a k5 gna k6 pna k7 pra k8 lna k9 boa k10 lta k11 cua k12 frb k13 emb k14 kib k15 odb k16 at_b k17 gnb k18 pnb k19 prb k20 lnb k21 bob k22 ltb k23 cub
    cases h
    refine ⟨rfl, noL, 400, [.v (.agg [.int .i64 false fra, .int .i64 false ema, .int .i64 false kia, .int .i64 false oda, .int .i64 false at_a, .int .i64 false gna, .int .i64 false pna, .int .i64 false pra, .int .i64 false lna, .int .i64 false boa, .int .i64 false lta, .int .i64 false cua]), .v (.agg [.int .i64 false frb, .int .i64 false emb, .int .i64 false kib, .int .i64 false odb, .int .i64 false at_b, .int .i64 false gnb, .int .i64 false pnb, .int .i64 false prb, .int .i64 false lnb, .int .i64 false bob, .int .i64 false ltb, .int .i64 false cub])], by simp [tmLe, svLe, vLe, lfLe, lfsLe, ifB], rfl, ?_⟩
    rw [nf_rlouder]
    clear hp
    refine ⟨fun h => ?_, fun h => ?_⟩ <;> refine Bool.eq_iff_iff.2 ?_ <;> (simp only [bne_iff_ne, ne_eq, bne_eq_false_iff_eq, decide_eq_true_eq, loud_lex, keyC_pos] at *) <;> omega
  · cases h
noncomputable def Γ_rlouder : List (FuncId × FC) := (22, c_rlouder) :: Γ_rcompare
theorem ok_rlouder : ΓOk Try.prog Γ_rlouder := ΓOk.cons s_rlouder ok_rcompare

theorem loud_asymm {a0 a1 a2 a3 a4 b0 b1 b2 b3 b4 : Int} (h : loudB a0 a1 a2 a3 a4 b0 b1 b2 b3 b4 = true) : loudB b0 b1 b2 b3 b4 a0 a1 a2 a3 a4 = false := by
  rw [Bool.eq_false_iff]
  intro k
  rw [loud_lex] at h k
  omega
theorem loud_total {a0 a1 a2 a3 a4 b0 b1 b2 b3 b4 : Int} (h : loudB a0 a1 a2 a3 a4 b0 b1 b2 b3 b4 = false) (k : loudB b0 b1 b2 b3 b4 a0 a1 a2 a3 a4 = false) : a0 = b0 ∧ a1 = b1 ∧ a2 = b2 ∧ a3 = b3 ∧ a4 = b4 := by
  rw [Bool.eq_false_iff, ne_eq, loud_lex] at h k
  omega
theorem loud_trans {a0 a1 a2 a3 a4 b0 b1 b2 b3 b4 c0 c1 c2 c3 c4 : Int} (h : loudB a0 a1 a2 a3 a4 b0 b1 b2 b3 b4 = true) (k : loudB b0 b1 b2 b3 b4 c0 c1 c2 c3 c4 = true) : loudB a0 a1 a2 a3 a4 c0 c1 c2 c3 c4 = true := by
  rw [loud_lex] at *
  omega

noncomputable def c_awake19 : FC := fun us => match us with
  | [] => some (none, .v (.one (.bool true (true))))
  | _ => none
theorem nf_awake19  : goal ⟨Mx, Try.prog, Γ_rlouder, Δ_or5⟩ noL 400 Try.f14 [] [] (fun r _ => svLe r (.v (.one (.bool true (true))))) = ((true = true → (true = true → true = true) ∧ (true = false → false = true)) ∧ (true = false → false = true)) := by kernel_rfl
theorem s_awake19 : FSound Try.prog 14 c_awake19 := by
  refine fsound_of (Ctx.ok_of2 (M := Mx) mixedA ok_rlouder okD_or5) Try.func14 (by kernel_rfl) (by kernel_rfl) ?_
  intro us p v h hp
  unfold c_awake19 at h
  split at h
  · skip
    cases h
    refine ⟨rfl, noL, 400, [], by simp [tmLe, svLe, vLe, lfLe, lfsLe, ifB], rfl, ?_⟩
    rw [nf_awake19]
    clear hp
    simp
  · cases h
noncomputable def Γ_awake19 : List (FuncId × FC) := (14, c_awake19) :: Γ_rlouder
theorem ok_awake19 : ΓOk Try.prog Γ_awake19 := ΓOk.cons s_awake19 ok_rlouder

noncomputable def c_VoiceOrder : FC := fun us => match us with
  | [.v (.agg [.int .i64 _ fra, .int .i64 _ ema, .int .i64 _ kia, .int .i64 _ oda, .int .i64 _ at_a, .int .i64 _ gna, .int .i64 _ pna, .int .i64 _ pra, .int .i64 _ lna, .int .i64 _ boa, .int .i64 _ lta, .int .i64 _ cua]), .v (.agg [.int .i64 _ frb, .int .i64 _ emb, .int .i64 _ kib, .int .i64 _ odb, .int .i64 _ at_b, .int .i64 _ gnb, .int .i64 _ pnb, .int .i64 _ prb, .int .i64 _ lnb, .int .i64 _ bob, .int .i64 _ ltb, .int .i64 _ cub]), .v (.agg [.int .i64 _ frc, .int .i64 _ emc, .int .i64 _ kic, .int .i64 _ odc, .int .i64 _ at_c, .int .i64 _ gnc, .int .i64 _ pnc, .int .i64 _ prc, .int .i64 _ lnc, .int .i64 _ boc, .int .i64 _ ltc, .int .i64 _ cuc])] => some (none, .v (.one (.bool true (true))))
  | _ => none
theorem nf_VoiceOrder (fra : Int) (ema : Int) (kia : Int) (oda : Int) (at_a : Int) (gna : Int) (pna : Int) (pra : Int) (lna : Int) (boa : Int) (lta : Int) (cua : Int) (frb : Int) (emb : Int) (kib : Int) (odb : Int) (at_b : Int) (gnb : Int) (pnb : Int) (prb : Int) (lnb : Int) (bob : Int) (ltb : Int) (cub : Int) (frc : Int) (emc : Int) (kic : Int) (odc : Int) (at_c : Int) (gnc : Int) (pnc : Int) (prc : Int) (lnc : Int) (boc : Int) (ltc : Int) (cuc : Int) : goal ⟨Mx, Try.prog, Γ_awake19, Δ_or5⟩ noL 400 Try.f4 [.v (.agg [.int .i64 false fra, .int .i64 false ema, .int .i64 false kia, .int .i64 false oda, .int .i64 false at_a, .int .i64 false gna, .int .i64 false pna, .int .i64 false pra, .int .i64 false lna, .int .i64 false boa, .int .i64 false lta, .int .i64 false cua]), .v (.agg [.int .i64 false frb, .int .i64 false emb, .int .i64 false kib, .int .i64 false odb, .int .i64 false at_b, .int .i64 false gnb, .int .i64 false pnb, .int .i64 false prb, .int .i64 false lnb, .int .i64 false bob, .int .i64 false ltb, .int .i64 false cub]), .v (.agg [.int .i64 false frc, .int .i64 false emc, .int .i64 false kic, .int .i64 false odc, .int .i64 false at_c, .int .i64 false gnc, .int .i64 false pnc, .int .i64 false prc, .int .i64 false lnc, .int .i64 false boc, .int .i64 false ltc, .int .i64 false cuc])] [] (fun r _ => svLe r (.v (.one (.bool true (true))))) = (((!loudB pra fra ema kia oda prb frb emb kib odb == loudB pra fra ema kia oda prb frb emb kib odb) = false → (loudB pra fra ema kia oda prb frb emb kib odb = true → (loudB prb frb emb kib odb pra fra ema kia oda = false → (loudB pra fra ema kia oda prb frb emb kib odb = true → (loudB prb frb emb kib odb prc frc emc kic odc = true → ((!loudB pra fra ema kia oda prc frc emc kic odc) = true → false = true) ∧ ((!loudB pra fra ema kia oda prc frc emc kic odc) = false → (loudB pra fra ema kia oda prb frb emb kib odb = false → (loudB prb frb emb kib odb pra fra ema kia oda = false → ((fra == frb && (ema == emb && (kia == kib && (oda == odb && true)))) = true → (pra == prb) = true) ∧ ((fra == frb && (ema == emb && (kia == kib && (oda == odb && true)))) = false → false = true)) ∧ (loudB prb frb emb kib odb pra fra ema kia oda = true → true = true)) ∧ (loudB pra fra ema kia oda prb frb emb kib odb = true → true = true))) ∧ (loudB prb frb emb kib odb prc frc emc kic odc = false → (loudB pra fra ema kia oda prb frb emb kib odb = false → (loudB prb frb emb kib odb pra fra ema kia oda = false → ((fra == frb && (ema == emb && (kia == kib && (oda == odb && true)))) = true → (pra == prb) = true) ∧ ((fra == frb && (ema == emb && (kia == kib && (oda == odb && true)))) = false → false = true)) ∧ (loudB prb frb emb kib odb pra fra ema kia oda = true → true = true)) ∧ (loudB pra fra ema kia oda prb frb emb kib odb = true → true = true))) ∧ (loudB pra fra ema kia oda prb frb emb kib odb = false → (loudB pra fra ema kia oda prb frb emb kib odb = false → (loudB prb frb emb kib odb pra fra ema kia oda = false → ((fra == frb && (ema == emb && (kia == kib && (oda == odb && true)))) = true → (pra == prb) = true) ∧ ((fra == frb && (ema == emb && (kia == kib && (oda == odb && true)))) = false → false = true)) ∧ (loudB prb frb emb kib odb pra fra ema kia oda = true → true = true)) ∧ (loudB pra fra ema kia oda prb frb emb kib odb = true → true = true))) ∧ (loudB prb frb emb kib odb pra fra ema kia oda = true → false = true)) ∧ (loudB pra fra ema kia oda prb frb emb kib odb = false → (loudB pra fra ema kia oda prb frb emb kib odb = true → (loudB prb frb emb kib odb prc frc emc kic odc = true → ((!loudB pra fra ema kia oda prc frc emc kic odc) = true → false = true) ∧ ((!loudB pra fra ema kia oda prc frc emc kic odc) = false → (loudB pra fra ema kia oda prb frb emb kib odb = false → (loudB prb frb emb kib odb pra fra ema kia oda = false → ((fra == frb && (ema == emb && (kia == kib && (oda == odb && true)))) = true → (pra == prb) = true) ∧ ((fra == frb && (ema == emb && (kia == kib && (oda == odb && true)))) = false → false = true)) ∧ (loudB prb frb emb kib odb pra fra ema kia oda = true → true = true)) ∧ (loudB pra fra ema kia oda prb frb emb kib odb = true → true = true))) ∧ (loudB prb frb emb kib odb prc frc emc kic odc = false → (loudB pra fra ema kia oda prb frb emb kib odb = false → (loudB prb frb emb kib odb pra fra ema kia oda = false → ((fra == frb && (ema == emb && (kia == kib && (oda == odb && true)))) = true → (pra == prb) = true) ∧ ((fra == frb && (ema == emb && (kia == kib && (oda == odb && true)))) = false → false = true)) ∧ (loudB prb frb emb kib odb pra fra ema kia oda = true → true = true)) ∧ (loudB pra fra ema kia oda prb frb emb kib odb = true → true = true))) ∧ (loudB pra fra ema kia oda prb frb emb kib odb = false → (loudB pra fra ema kia oda prb frb emb kib odb = false → (loudB prb frb emb kib odb pra fra ema kia oda = false → ((fra == frb && (ema == emb && (kia == kib && (oda == odb && true)))) = true → (pra == prb) = true) ∧ ((fra == frb && (ema == emb && (kia == kib && (oda == odb && true)))) = false → false = true)) ∧ (loudB prb frb emb kib odb pra fra ema kia oda = true → true = true)) ∧ (loudB pra fra ema kia oda prb frb emb kib odb = true → true = true)))) ∧ ((!loudB pra fra ema kia oda prb frb emb kib odb == loudB pra fra ema kia oda prb frb emb kib odb) = true → false = true)) := by kernel_rfl
theorem s_VoiceOrder : FSound Try.prog 4 c_VoiceOrder := by
  refine fsound_of (Ctx.ok_of2 (M := Mx) mixedA ok_awake19 okD_or5) Try.func4 (by kernel_rfl) (by kernel_rfl) ?_
  intro us p v h hp
  unfold c_VoiceOrder at h
  split at h
  · rename_i k0 fra k1 ema k2 kia k3 oda k4 at_a k5 gna k6 pna k7 pra k8 lna k9 boa k10 lta k11 cua k12 frb k13 emb k14 kib k15 odb k16 at_b k17 gnb k18 pnb k19 prb k20 lnb k21 bob k22 ltb k23 cub k24 frc k25 emc k26 kic k27 odc k28 at_c k29 gnc k30 pnc k31 prc k32 lnc k33 boc k34 ltc k35 cuc
    cases h
    refine ⟨rfl, noL, 400, [.v (.agg [.int .i64 false fra, .int .i64 false ema, .int .i64 false kia, .int .i64 false oda, .int .i64 false at_a, .int .i64 false gna, .int .i64 false pna, .int .i64 false pra, .int .i64 false lna, .int .i64 false boa, .int .i64 false lta, .int .i64 false cua]), .v (.agg [.int .i64 false frb, .int .i64 false emb, .int .i64 false kib, .int .i64 false odb, .int .i64 false at_b, .int .i64 false gnb, .int .i64 false pnb, .int .i64 false prb, .int .i64 false lnb, .int .i64 false bob, .int .i64 false ltb, .int .i64 false cub]), .v (.agg [.int .i64 false frc, .int .i64 false emc, .int .i64 false kic, .int .i64 false odc, .int .i64 false at_c, .int .i64 false gnc, .int .i64 false pnc, .int .i64 false prc, .int .i64 false lnc, .int .i64 false boc, .int .i64 false ltc, .int .i64 false cuc])], by simp [tmLe, svLe, vLe, lfLe, lfsLe, ifB], rfl, ?_⟩
    rw [nf_VoiceOrder]
    clear hp
    have h1 := @loud_asymm pra fra ema kia oda prb frb emb kib odb
    have h2 := @loud_trans pra fra ema kia oda prb frb emb kib odb prc frc emc kic odc
    have h3 := @loud_total pra fra ema kia oda prb frb emb kib odb
    generalize loudB pra fra ema kia oda prb frb emb kib odb = ab at *
    generalize loudB prb frb emb kib odb pra fra ema kia oda = ba at *
    generalize loudB prb frb emb kib odb prc frc emc kic odc = bc at *
    generalize loudB pra fra ema kia oda prc frc emc kic odc = ac at *
    cases ab <;> cases ba <;> cases bc <;> cases ac <;> simp_all
  · cases h
noncomputable def Γ_VoiceOrder : List (FuncId × FC) := (4, c_VoiceOrder) :: Γ_awake19
theorem ok_VoiceOrder : ΓOk Try.prog Γ_VoiceOrder := ΓOk.cons s_VoiceOrder ok_awake19

theorem VoiceOrder_walk (fra : Int) (ema : Int) (kia : Int) (oda : Int) (at_a : Int) (gna : Int) (pna : Int) (pra : Int) (lna : Int) (boa : Int) (lta : Int) (cua : Int) (frb : Int) (emb : Int) (kib : Int) (odb : Int) (at_b : Int) (gnb : Int) (pnb : Int) (prb : Int) (lnb : Int) (bob : Int) (ltb : Int) (cub : Int) (frc : Int) (emc : Int) (kic : Int) (odc : Int) (at_c : Int) (gnc : Int) (pnc : Int) (prc : Int) (lnc : Int) (boc : Int) (ltc : Int) (cuc : Int) (w_fra : (Lit.int .i64 fra).wf = true) (w_ema : (Lit.int .i64 ema).wf = true) (w_kia : (Lit.int .i64 kia).wf = true) (w_oda : (Lit.int .i64 oda).wf = true) (w_at_a : (Lit.int .i64 at_a).wf = true) (w_gna : (Lit.int .i64 gna).wf = true) (w_pna : (Lit.int .i64 pna).wf = true) (w_pra : (Lit.int .i64 pra).wf = true) (w_lna : (Lit.int .i64 lna).wf = true) (w_boa : (Lit.int .i64 boa).wf = true) (w_lta : (Lit.int .i64 lta).wf = true) (w_cua : (Lit.int .i64 cua).wf = true) (w_frb : (Lit.int .i64 frb).wf = true) (w_emb : (Lit.int .i64 emb).wf = true) (w_kib : (Lit.int .i64 kib).wf = true) (w_odb : (Lit.int .i64 odb).wf = true) (w_at_b : (Lit.int .i64 at_b).wf = true) (w_gnb : (Lit.int .i64 gnb).wf = true) (w_pnb : (Lit.int .i64 pnb).wf = true) (w_prb : (Lit.int .i64 prb).wf = true) (w_lnb : (Lit.int .i64 lnb).wf = true) (w_bob : (Lit.int .i64 bob).wf = true) (w_ltb : (Lit.int .i64 ltb).wf = true) (w_cub : (Lit.int .i64 cub).wf = true) (w_frc : (Lit.int .i64 frc).wf = true) (w_emc : (Lit.int .i64 emc).wf = true) (w_kic : (Lit.int .i64 kic).wf = true) (w_odc : (Lit.int .i64 odc).wf = true) (w_at_c : (Lit.int .i64 at_c).wf = true) (w_gnc : (Lit.int .i64 gnc).wf = true) (w_pnc : (Lit.int .i64 pnc).wf = true) (w_prc : (Lit.int .i64 prc).wf = true) (w_lnc : (Lit.int .i64 lnc).wf = true) (w_boc : (Lit.int .i64 boc).wf = true) (w_ltc : (Lit.int .i64 ltc).wf = true) (w_cuc : (Lit.int .i64 cuc).wf = true) (w : World) : Calls Try.prog 4 #[.agg #[.int .i64 fra, .int .i64 ema, .int .i64 kia, .int .i64 oda, .int .i64 at_a, .int .i64 gna, .int .i64 pna, .int .i64 pra, .int .i64 lna, .int .i64 boa, .int .i64 lta, .int .i64 cua], .agg #[.int .i64 frb, .int .i64 emb, .int .i64 kib, .int .i64 odb, .int .i64 at_b, .int .i64 gnb, .int .i64 pnb, .int .i64 prb, .int .i64 lnb, .int .i64 bob, .int .i64 ltb, .int .i64 cub], .agg #[.int .i64 frc, .int .i64 emc, .int .i64 kic, .int .i64 odc, .int .i64 at_c, .int .i64 gnc, .int .i64 pnc, .int .i64 prc, .int .i64 lnc, .int .i64 boc, .int .i64 ltc, .int .i64 cuc]] w fun e w' => e = .returned (.bool true) ∧ Ext w w' :=
  calls_of_fsound s_VoiceOrder (us := [.v (.agg [.int .i64 false fra, .int .i64 false ema, .int .i64 false kia, .int .i64 false oda, .int .i64 false at_a, .int .i64 false gna, .int .i64 false pna, .int .i64 false pra, .int .i64 false lna, .int .i64 false boa, .int .i64 false lta, .int .i64 false cua]), .v (.agg [.int .i64 false frb, .int .i64 false emb, .int .i64 false kib, .int .i64 false odb, .int .i64 false at_b, .int .i64 false gnb, .int .i64 false pnb, .int .i64 false prb, .int .i64 false lnb, .int .i64 false bob, .int .i64 false ltb, .int .i64 false cub]), .v (.agg [.int .i64 false frc, .int .i64 false emc, .int .i64 false kic, .int .i64 false odc, .int .i64 false at_c, .int .i64 false gnc, .int .i64 false pnc, .int .i64 false prc, .int .i64 false lnc, .int .i64 false boc, .int .i64 false ltc, .int .i64 false cuc])]) rfl (trivial) rfl rfl w

end Go.Proofs.Ytjfgobhipemioaa
