/- THE STABLE SORT: WHAT IT IS MADE OF. Conditions: the contracts' own. Own work; the normal forms were printed by a program of mine (wip/rex). -/
import Derived.Test.YtljnddhldjaglaaMSort
namespace Go.Proofs.Ytljnddhldjaglaa
open Go.RowKit Rex
set_option linter.unusedVariables false
set_option linter.unusedSimpArgs false
set_option maxRecDepth 100000


def rkR (p q : RV) : Int := rkF p.2.2.2.2.2.2.2.1 p.1 p.2.1 p.2.2.1 p.2.2.2.1 q.2.2.2.2.2.2.2.1 q.1 q.2.1 q.2.2.1 q.2.2.2.1
theorem rkR_neg {p q : RV} : rkR p q < 0 ↔ ltV p q = true := rkF_neg
theorem rkR_nn {p q : RV} : ¬ rkR p q < 0 ↔ ltV p q = false := by rw [rkR_neg]; simp
/-- the row at j goes down to its place among the sorted ones up to i -/
def InsI (ys : List RV) (a i j : Nat) : Prop := ∀ p q, a ≤ p → p < q → q ≤ i → q ≠ j → ltV (getR ys q) (getR ys p) = false
theorem insI_start {ys : List RV} {a i : Nat} (h : SoR ys a i) : InsI ys a i i := fun p q h1 h2 h3 h4 => h p q h1 h2 (by omega)
theorem insI_end {ys : List RV} {a i j : Nat} (h : InsI ys a i j) (h1 : j ≤ i) (h2 : j = a ∨ ltV (getR ys j) (getR ys (j - 1)) = false) : SoR ys a (i + 1) := by
  intro p q p1 p2 p3
  by_cases e : q = j
  · subst e
    rcases h2 with h2 | h2
    · omega
    · by_cases e2 : p = q - 1
      · rw [e2]; exact h2
      · exact leV_trans (h p (q - 1) p1 (by omega) (by omega) (by omega)) h2
  · exact h p q p1 p2 (by omega) e
theorem insI_step {ys : List RV} {a i j : Nat} (h : InsI ys a i j) (h0 : a < j) (h1 : j ≤ i) (h2 : i < ys.length) (hl : ltV (getR ys j) (getR ys (j - 1)) = true) : InsI (sw ys j (j - 1)) a i (j - 1) := by
  intro p q p1 p2 p3 p4
  rw [gR_sw (by omega) (by omega), gR_sw (by omega) (by omega)]
  rw [if_neg p4]
  by_cases e1 : q = j
  · rw [if_pos e1]
    by_cases e2 : p = j - 1
    · rw [if_pos e2]; exact ltV_asymm hl
    · rw [if_neg e2, if_neg (by omega)]
      exact h p (j - 1) p1 (by omega) (by omega) (by omega)
  · rw [if_neg e1]
    by_cases e2 : p = j - 1
    · rw [if_pos e2]; exact h j q (by omega) (by omega) p3 e1
    · rw [if_neg e2]
      by_cases e3 : p = j
      · rw [if_pos e3]; exact h (j - 1) q (by omega) (by omega) p3 e1
      · rw [if_neg e3]; exact h p q p1 p2 p3 e1


noncomputable def c_rank : FC := fun us => gA us fun ls0_0 us0 => gI .i64 ls0_0 fun fra ls0_1 => gI .i64 ls0_1 fun ema ls0_2 => gI .i64 ls0_2 fun kia ls0_3 => gI .i64 ls0_3 fun oda ls0_4 => gI .i64 ls0_4 fun at_a ls0_5 => gI .i64 ls0_5 fun gna ls0_6 => gI .i64 ls0_6 fun pna ls0_7 => gI .i64 ls0_7 fun pra ls0_8 => gI .i64 ls0_8 fun lna ls0_9 => gI .i64 ls0_9 fun boa ls0_10 => gI .i64 ls0_10 fun lta ls0_11 => gI .i64 ls0_11 fun cua ls0_12 => gN ls0_12 <| gA us0 fun ls1_0 us1 => gI .i64 ls1_0 fun frb ls1_1 => gI .i64 ls1_1 fun emb ls1_2 => gI .i64 ls1_2 fun kib ls1_3 => gI .i64 ls1_3 fun odb ls1_4 => gI .i64 ls1_4 fun at_b ls1_5 => gI .i64 ls1_5 fun gnb ls1_6 => gI .i64 ls1_6 fun pnb ls1_7 => gI .i64 ls1_7 fun prb ls1_8 => gI .i64 ls1_8 fun lnb ls1_9 => gI .i64 ls1_9 fun bob ls1_10 => gI .i64 ls1_10 fun ltb ls1_11 => gI .i64 ls1_11 fun cub ls1_12 => gN ls1_12 <| gE us1 <| some (none, .v (.one (.int .i64 false (rkF pra fra ema kia oda prb frb emb kib odb))))
theorem nf_rank (fra : Int) (ema : Int) (kia : Int) (oda : Int) (at_a : Int) (gna : Int) (pna : Int) (pra : Int) (lna : Int) (boa : Int) (lta : Int) (cua : Int) (frb : Int) (emb : Int) (kib : Int) (odb : Int) (at_b : Int) (gnb : Int) (pnb : Int) (prb : Int) (lnb : Int) (bob : Int) (ltb : Int) (cub : Int) : goal ⟨Mx, Try.prog, Γ_vgives, Δ0, B0, none, false, [], none⟩ noL 400 Try.f47 [.v (.agg [.int .i64 false fra, .int .i64 false ema, .int .i64 false kia, .int .i64 false oda, .int .i64 false at_a, .int .i64 false gna, .int .i64 false pna, .int .i64 false pra, .int .i64 false lna, .int .i64 false boa, .int .i64 false lta, .int .i64 false cua]), .v (.agg [.int .i64 false frb, .int .i64 false emb, .int .i64 false kib, .int .i64 false odb, .int .i64 false at_b, .int .i64 false gnb, .int .i64 false pnb, .int .i64 false prb, .int .i64 false lnb, .int .i64 false bob, .int .i64 false ltb, .int .i64 false cub])] [] (fun r _ => svLe idR r (.v (.one (.int .i64 false (rkF pra fra ema kia oda prb frb emb kib odb))))) = ((loudB pra fra ema kia oda prb frb emb kib odb = true → (-1 : Int) = rkF pra fra ema kia oda prb frb emb kib odb) ∧ (loudB pra fra ema kia oda prb frb emb kib odb = false → (loudB prb frb emb kib odb pra fra ema kia oda = true → (1 : Int) = rkF pra fra ema kia oda prb frb emb kib odb) ∧ (loudB prb frb emb kib odb pra fra ema kia oda = false → (0 : Int) = rkF pra fra ema kia oda prb frb emb kib odb))) := by kernel_rfl
theorem s_rank : FSound Try.prog 47 c_rank := by
  refine fsound_of (Ctx.ok_of2 (M := Mx) (N := []) mixedA ok_vgives okD0 okB0) Try.func47 (by kernel_rfl) (by kernel_rfl) ?_
  intro us p v h hp
  unfold c_rank at h
  have _d := True.intro
  · skip
    replace h := gA_some h
    obtain ⟨ls0_0, us0, rfl, h⟩ := h
    replace h := gI_some h
    obtain ⟨k0, fra, ls0_1, rfl, h⟩ := h
    replace h := gI_some h
    obtain ⟨k1, ema, ls0_2, rfl, h⟩ := h
    replace h := gI_some h
    obtain ⟨k2, kia, ls0_3, rfl, h⟩ := h
    replace h := gI_some h
    obtain ⟨k3, oda, ls0_4, rfl, h⟩ := h
    replace h := gI_some h
    obtain ⟨k4, at_a, ls0_5, rfl, h⟩ := h
    replace h := gI_some h
    obtain ⟨k5, gna, ls0_6, rfl, h⟩ := h
    replace h := gI_some h
    obtain ⟨k6, pna, ls0_7, rfl, h⟩ := h
    replace h := gI_some h
    obtain ⟨k7, pra, ls0_8, rfl, h⟩ := h
    replace h := gI_some h
    obtain ⟨k8, lna, ls0_9, rfl, h⟩ := h
    replace h := gI_some h
    obtain ⟨k9, boa, ls0_10, rfl, h⟩ := h
    replace h := gI_some h
    obtain ⟨k10, lta, ls0_11, rfl, h⟩ := h
    replace h := gI_some h
    obtain ⟨k11, cua, ls0_12, rfl, h⟩ := h
    replace h := gN_some h
    obtain ⟨rfl, h⟩ := h
    replace h := gA_some h
    obtain ⟨ls1_0, us1, rfl, h⟩ := h
    replace h := gI_some h
    obtain ⟨k12, frb, ls1_1, rfl, h⟩ := h
    replace h := gI_some h
    obtain ⟨k13, emb, ls1_2, rfl, h⟩ := h
    replace h := gI_some h
    obtain ⟨k14, kib, ls1_3, rfl, h⟩ := h
    replace h := gI_some h
    obtain ⟨k15, odb, ls1_4, rfl, h⟩ := h
    replace h := gI_some h
    obtain ⟨k16, at_b, ls1_5, rfl, h⟩ := h
    replace h := gI_some h
    obtain ⟨k17, gnb, ls1_6, rfl, h⟩ := h
    replace h := gI_some h
    obtain ⟨k18, pnb, ls1_7, rfl, h⟩ := h
    replace h := gI_some h
    obtain ⟨k19, prb, ls1_8, rfl, h⟩ := h
    replace h := gI_some h
    obtain ⟨k20, lnb, ls1_9, rfl, h⟩ := h
    replace h := gI_some h
    obtain ⟨k21, bob, ls1_10, rfl, h⟩ := h
    replace h := gI_some h
    obtain ⟨k22, ltb, ls1_11, rfl, h⟩ := h
    replace h := gI_some h
    obtain ⟨k23, cub, ls1_12, rfl, h⟩ := h
    replace h := gN_some h
    obtain ⟨rfl, h⟩ := h
    replace h := gE_some h
    obtain ⟨rfl, h⟩ := h
    cases h
    refine ⟨rfl, noL, 400, [.v (.agg [.int .i64 false fra, .int .i64 false ema, .int .i64 false kia, .int .i64 false oda, .int .i64 false at_a, .int .i64 false gna, .int .i64 false pna, .int .i64 false pra, .int .i64 false lna, .int .i64 false boa, .int .i64 false lta, .int .i64 false cua]), .v (.agg [.int .i64 false frb, .int .i64 false emb, .int .i64 false kib, .int .i64 false odb, .int .i64 false at_b, .int .i64 false gnb, .int .i64 false pnb, .int .i64 false prb, .int .i64 false lnb, .int .i64 false bob, .int .i64 false ltb, .int .i64 false cub])], by simp [tmLe, svLe, vLe, lfLe, lfsLe, ifB, nmIs, idR], rfl, ?_⟩
    rw [nf_rank]
    clear hp
    (repeat' (first | (refine And.intro ?_ ?_) | intro _))
    all_goals (unfold rkF)
    all_goals simp [*]
noncomputable def Γ_rank : List (FuncId × FX) := (47, c_rank) :: Γ_vgives
theorem ok_rank : ΓOk Try.prog Γ_rank := ΓOk.cons (c := .pure c_rank) s_rank ok_vgives

noncomputable def c_swapRange : MC := fun us m K => match us with
  | [s, .v (.one (.int .i64 _ a)), .v (.one (.int .i64 _ b)), .v (.one (.int .i64 _ nn)), .clo 47 []] => match owS shV 50 m s with
    | some (q, x, z, n, c, xs) => q ∧ (xs.length ≤ 64 ∧ 0 ≤ a ∧ 0 ≤ nn ∧ a + nn ≤ b ∧ b + nn ≤ xs.length) ∧ (∀ e : Unit, (True) → K ((SV.tup []).ren (back [x] m.length)) (backM [x] [] m [some (.rows false z shV (swapN xs a.toNat b.toNat nn.toNat) 0 c 50)]))
    | none => False
  | _ => False
theorem nf_swapRange (z : Bool) (c : Nat) (xs : List (Row shV)) (a : Int) (b : Int) (nn : Int) : goal ⟨Mx, Try.prog, Γ_rank, Δ0, B0, none, false, [], none⟩ (fun bk => match bk with | 0 => some { S := Nat, st := fun k => ⟨[.v (.one (.rs z 0 0 0 12 0 (List.length xs) c)), .v (.one (.int .i64 false (a))), .v (.one (.int .i64 false (b))), .v (.one (.int .i64 false (nn))), .clo 47 [], .junk, .junk, .junk, .junk, .junk, .v (.one (.int .i64 false ((k : Int)))), .junk, .junk, .junk, .junk, .junk, .junk, .junk, .junk, .junk, .junk, .junk, .junk, .junk, .junk, .junk, .junk, .junk, .junk, .junk, .junk, .junk, .junk, .junk, .junk, .junk, .junk, .junk], [some (.rows false z shV (swapN xs a.toNat b.toNat k) 0 c 50)]⟩, ok := fun k => k ≤ nn.toNat, mu := fun k => nn.toNat - k, init := 0 } | 700003 => some { S := Unit, st := fun s => ⟨[], []⟩, ok := fun s => True, mu := fun s => 0, init := () } | _ => none) 400 Try.f96 [.v (.one (.rs z 0 0 0 (List.length shV) 0 (List.length xs) c)), .v (.one (.int .i64 false a)), .v (.one (.int .i64 false b)), .v (.one (.int .i64 false nn)), .clo 47 []] [some (.rows false z shV xs 0 c 50)] (fun r m' => stLe 1 ⟨[r], m'⟩ ⟨[SV.tup []], [some (.rows false z shV (swapN xs a.toNat b.toNat nn.toNat) 0 c 50)]⟩) = ((((((z = z ∧ (0 : Nat) = (0 : Nat) ∧ (0 : Nat) = (0 : Nat) ∧ xs.length = xs.length ∧ c = c) ∧ True) ∧ a = a ∧ b = b ∧ nn = nn ∧ True ∧ (0 : Int) = (↑(0 : Nat) : Int) ∧ True) ∧ (z = z ∧ (0 : Nat) = (0 : Nat) ∧ c = c ∧ List.take (swapN xs a.toNat b.toNat (0 : Nat)).length xs = swapN xs a.toNat b.toNat (0 : Nat)) ∧ True) ∧ (0 : Nat) ≤ nn.toNat) ∧ ∀ (s : Nat), s ≤ nn.toNat → (decide ((↑s : Int) < nn) = true → inR IntKind.i64 (a + (↑s : Int)) ∧ inR IntKind.i64 (b + (↑s : Int)) ∧ inR IntKind.i64 (b + (↑s : Int)) ∧ ((0 : Int) ≤ b + (↑s : Int) ∧ b + (↑s : Int) < (↑xs.length : Int)) ∧ inR IntKind.i64 (a + (↑s : Int)) ∧ ((0 : Int) ≤ a + (↑s : Int) ∧ a + (↑s : Int) < (↑xs.length : Int)) ∧ ((b + (↑s : Int)).toNat < (swapN xs a.toNat b.toNat s).length ∧ (a + (↑s : Int)).toNat < (swapN xs a.toNat b.toNat s).length ∧ ((0 : Int) ≤ a + (↑s : Int) ∧ a + (↑s : Int) < (↑xs.length : Int)) ∧ (a + (↑s : Int)).toNat < (swapN xs a.toNat b.toNat s).length ∧ ((0 : Int) ≤ b + (↑s : Int) ∧ b + (↑s : Int) < (↑xs.length : Int)) ∧ (b + (↑s : Int)).toNat < ((swapN xs a.toNat b.toNat s).set (a + (↑s : Int)).toNat (getR (swapN xs a.toNat b.toNat s) (b + (↑s : Int)).toNat)).length ∧ inR IntKind.i64 ((↑s : Int) + (1 : Int)) ∧ ∃ (s' : Nat), (((((z = z ∧ (0 : Nat) = (0 : Nat) ∧ (0 : Nat) = (0 : Nat) ∧ xs.length = xs.length ∧ c = c) ∧ True) ∧ a = a ∧ b = b ∧ nn = nn ∧ True ∧ (↑s : Int) + (1 : Int) = (↑s' : Int) ∧ True) ∧ (z = z ∧ (0 : Nat) = (0 : Nat) ∧ c = c ∧ List.take (swapN xs a.toNat b.toNat s').length (((swapN xs a.toNat b.toNat s).set (a + (↑s : Int)).toNat (getR (swapN xs a.toNat b.toNat s) (b + (↑s : Int)).toNat)).set (b + (↑s : Int)).toNat (getR (swapN xs a.toNat b.toNat s) (a + (↑s : Int)).toNat)) = swapN xs a.toNat b.toNat s') ∧ True) ∧ s' ≤ nn.toNat) ∧ nn.toNat - s' < nn.toNat - s) ∧ (a + (↑s : Int)).toNat < (swapN xs a.toNat b.toNat s).length ∧ (b + (↑s : Int)).toNat < (swapN xs a.toNat b.toNat s).length ∧ ((0 : Int) ≤ a + (↑s : Int) ∧ a + (↑s : Int) < (↑xs.length : Int)) ∧ (a + (↑s : Int)).toNat < (swapN xs a.toNat b.toNat s).length ∧ ((0 : Int) ≤ b + (↑s : Int) ∧ b + (↑s : Int) < (↑xs.length : Int)) ∧ (b + (↑s : Int)).toNat < ((swapN xs a.toNat b.toNat s).set (a + (↑s : Int)).toNat (getR (swapN xs a.toNat b.toNat s) (b + (↑s : Int)).toNat)).length ∧ inR IntKind.i64 ((↑s : Int) + (1 : Int)) ∧ ∃ (s' : Nat), (((((z = z ∧ (0 : Nat) = (0 : Nat) ∧ (0 : Nat) = (0 : Nat) ∧ xs.length = xs.length ∧ c = c) ∧ True) ∧ a = a ∧ b = b ∧ nn = nn ∧ True ∧ (↑s : Int) + (1 : Int) = (↑s' : Int) ∧ True) ∧ (z = z ∧ (0 : Nat) = (0 : Nat) ∧ c = c ∧ List.take (swapN xs a.toNat b.toNat s').length (((swapN xs a.toNat b.toNat s).set (a + (↑s : Int)).toNat (getR (swapN xs a.toNat b.toNat s) (b + (↑s : Int)).toNat)).set (b + (↑s : Int)).toNat (getR (swapN xs a.toNat b.toNat s) (a + (↑s : Int)).toNat)) = swapN xs a.toNat b.toNat s') ∧ True) ∧ s' ≤ nn.toNat) ∧ nn.toNat - s' < nn.toNat - s) ∧ (decide ((↑s : Int) < nn) = false → (True ∧ True) ∧ (z = z ∧ (0 : Nat) = (0 : Nat) ∧ c = c ∧ List.take (swapN xs a.toNat b.toNat nn.toNat).length (swapN xs a.toNat b.toNat s) = swapN xs a.toNat b.toNat nn.toNat) ∧ True)) := by kernel_rfl
theorem s_swapRange : MSound Try.prog 96 c_swapRange := by
  refine wsound (Ctx.ok_of2 (M := Mx) (N := []) mixedA ok_rank okD0 okB0) Try.func96 (by kernel_rfl) (by kernel_rfl) (fun us m K h => ?_)
  unfold c_swapRange at h
  split at h
  · rename_i s j0 a j1 b j2 nn
    split at h
    · rename_i q x z n c xs hob
      obtain ⟨hq, h⟩ := h
      obtain ⟨hp, h⟩ := h
      refine ⟨Unit, fun e => True, shV, 50, q, x, z, n, c, xs, s, [], [], [.v (.one (.int .i64 j0 a)), .v (.one (.int .i64 j1 b)), .v (.one (.int .i64 j2 nn)), .clo 47 []], [.v (.one (.int .i64 false a)), .v (.one (.int .i64 false b)), .v (.one (.int .i64 false nn)), .clo 47 []], (fun bk => match bk with | 0 => some { S := Nat, st := fun k => ⟨[.v (.one (.rs z 0 0 0 12 0 (List.length xs) c)), .v (.one (.int .i64 false (a))), .v (.one (.int .i64 false (b))), .v (.one (.int .i64 false (nn))), .clo 47 [], .junk, .junk, .junk, .junk, .junk, .v (.one (.int .i64 false ((k : Int)))), .junk, .junk, .junk, .junk, .junk, .junk, .junk, .junk, .junk, .junk, .junk, .junk, .junk, .junk, .junk, .junk, .junk, .junk, .junk, .junk, .junk, .junk, .junk, .junk, .junk, .junk, .junk], [some (.rows false z shV (swapN xs a.toNat b.toNat k) 0 c 50)]⟩, ok := fun k => k ≤ nn.toNat, mu := fun k => nn.toNat - k, init := 0 } | 700003 => some { S := Unit, st := fun s => ⟨[], []⟩, ok := fun s => True, mu := fun s => 0, init := () } | _ => none), 400, fun e => SV.tup [], fun e => [some (.rows false z shV (swapN xs a.toNat b.toNat nn.toNat) 0 c 50)], (fun r m' => stLe 1 ⟨[r], m'⟩ ⟨[SV.tup []], [some (.rows false z shV (swapN xs a.toNat b.toNat nn.toNat) 0 c 50)]⟩), rfl, hob, hq, ⟨by simp [tmLe, svLe, vLe, lfLe, lfsLe, ifB, nmIs, idR], rfl⟩, ⟨by simp [tmLe, svLe, vLe, lfLe, lfsLe, ifB, nmIs, idR], rfl⟩, fun _ => rfl, fun hn hz hlc hzl => ?_, fun r m' hr => ⟨(), trivial, hr⟩, fun e he => h e he⟩
      subst hn
      refine by_nfG (nf_swapRange z c xs a b nn) ?_
      clear h hob hq
      obtain ⟨h64, h0, hn0, h1, h2⟩ := hp
      obtain ⟨a, rfl⟩ := Int.eq_ofNat_of_zero_le h0
      obtain ⟨nn, rfl⟩ := Int.eq_ofNat_of_zero_le hn0
      obtain ⟨b, rfl⟩ := Int.eq_ofNat_of_zero_le (show 0 ≤ b by omega)
      have e1 : ∀ k s : Nat, ((k : Int) + (s : Int)).toNat = k + s := fun k s => by omega
      simp only [e1, eq_self_iff_true, true_and, and_true, Int.toNat_natCast, implies_true, decide_eq_true_eq, decide_eq_false_iff_not, bne_iff_ne, bne_eq_false_iff_eq, ne_eq, Decidable.not_not, inR, klo, khi]
      refine ⟨⟨⟨rfl, take_self rfl⟩, Nat.zero_le _⟩, fun s hs => ⟨fun h => ?_, fun h => ?_⟩⟩
      · have l1 := swapN_len xs a b s
        have l2 : ((swapN xs a b s).set (a + s) (getR (swapN xs a b s) (b + s))).length = (swapN xs a b s).length := List.length_set ..
        have fin : ∃ s' : Nat, (((s : Int) + 1 = (s' : Int) ∧ List.take (swapN xs a b s').length (((swapN xs a b s).set (a + s) (getR (swapN xs a b s) (b + s))).set (b + s) (getR (swapN xs a b s) (a + s))) = swapN xs a b s') ∧ s' ≤ nn) ∧ nn - s' < nn - s :=
          ⟨s + 1, ⟨⟨by omega, take_self rfl⟩, by omega⟩, by omega⟩
        generalize hE : (∃ s' : Nat, (((s : Int) + 1 = (s' : Int) ∧ List.take (swapN xs a b s').length (((swapN xs a b s).set (a + s) (getR (swapN xs a b s) (b + s))).set (b + s) (getR (swapN xs a b s) (a + s))) = swapN xs a b s') ∧ s' ≤ nn) ∧ nn - s' < nn - s) = E at fin ⊢
        clear hE
        ((repeat' (refine And.intro ?_ ?_)) <;> first | exact True.intro | rfl | omega | assumption)
      · obtain rfl : s = nn := by omega
        exact take_self rfl
    · exact h.elim
  · exact h.elim
noncomputable def Δ_swapRange : List (FuncId × MC) := (96, c_swapRange) :: Δ0
theorem okD_swapRange : ΔOk Try.prog Δ_swapRange := ΔOk.cons s_swapRange okD0

noncomputable def c_rotate : MC := fun us m K => match us with
  | [s, .v (.one (.int .i64 _ a)), .v (.one (.int .i64 _ m_)), .v (.one (.int .i64 _ b)), .clo 47 []] => match owS shV 50 m s with
    | some (q, x, z, n, c, xs) => q ∧ (xs.length ≤ 64 ∧ 0 ≤ a ∧ a < m_ ∧ m_ < b ∧ b ≤ xs.length) ∧ (∀ e : Unit, (True) → K ((SV.tup []).ren (back [x] m.length)) (backM [x] [] m [some (.rows false z shV (rotL xs a.toNat m_.toNat b.toNat) 0 c 50)]))
    | none => False
  | _ => False
theorem nf_rotate (z : Bool) (c : Nat) (xs : List (Row shV)) (a : Int) (m_ : Int) (b : Int) : goal ⟨Mx, Try.prog, Γ_rank, Δ_swapRange, B0, none, false, [], none⟩ (fun bk => match bk with | 0 => some { S := List RV × Nat × Nat, st := fun s => ⟨[.v (.one (.rs z 0 0 0 12 0 (List.length xs) c)), .v (.one (.int .i64 false (a))), .v (.one (.int .i64 false (m_))), .v (.one (.int .i64 false (b))), .clo 47 [], .junk, .junk, .junk, .junk, .junk, .v (.one (.int .i64 false ((s.2.1 : Int)))), .v (.one (.int .i64 false ((s.2.2 : Int)))), .junk, .junk, .junk, .junk, .junk, .junk, .junk, .junk, .junk, .junk, .junk, .junk, .junk, .junk, .junk, .junk, .junk, .junk, .junk, .junk, .junk, .junk, .junk, .junk, .junk, .junk, .junk, .junk, .junk, .junk, .junk, .junk, .junk, .junk, .junk, .junk, .junk, .junk, .junk, .junk, .junk, .junk, .junk, .junk, .junk, .junk], [some (.rows false z shV (s.1) 0 c 50)]⟩, ok := fun s => s.1.length = xs.length ∧ 0 < s.2.1 ∧ 0 < s.2.2 ∧ s.2.1 ≤ m_.toNat ∧ m_.toNat + s.2.2 ≤ xs.length ∧ rotL s.1 (m_.toNat - s.2.1) m_.toNat (m_.toNat + s.2.2) = rotL xs a.toNat m_.toNat b.toNat, mu := fun s => s.2.1 + s.2.2, init := ([], 0, 0), ex := true } | _ => none) 400 Try.f90 [.v (.one (.rs z 0 0 0 (List.length shV) 0 (List.length xs) c)), .v (.one (.int .i64 false a)), .v (.one (.int .i64 false m_)), .v (.one (.int .i64 false b)), .clo 47 []] [some (.rows false z shV xs 0 c 50)] (fun r m' => stLe 1 ⟨[r], m'⟩ ⟨[SV.tup []], [some (.rows false z shV (rotL xs a.toNat m_.toNat b.toNat) 0 c 50)]⟩) = (inR IntKind.i64 (m_ - a) ∧ inR IntKind.i64 (b - m_) ∧ (∃ (s : List RV × Nat × Nat), ((((z = z ∧ (0 : Nat) = (0 : Nat) ∧ (0 : Nat) = (0 : Nat) ∧ xs.length = xs.length ∧ c = c) ∧ True) ∧ a = a ∧ m_ = m_ ∧ b = b ∧ True ∧ m_ - a = (↑s.snd.fst : Int) ∧ b - m_ = (↑s.snd.snd : Int) ∧ True) ∧ (z = z ∧ (0 : Nat) = (0 : Nat) ∧ c = c ∧ List.take s.fst.length xs = s.fst) ∧ True) ∧ s.fst.length = xs.length ∧ (0 : Nat) < s.snd.fst ∧ (0 : Nat) < s.snd.snd ∧ s.snd.fst ≤ m_.toNat ∧ m_.toNat + s.snd.snd ≤ xs.length ∧ rotL s.fst (m_.toNat - s.snd.fst) m_.toNat (m_.toNat + s.snd.snd) = rotL xs a.toNat m_.toNat b.toNat) ∧ ∀ (s : List RV × Nat × Nat), s.fst.length = xs.length ∧ (0 : Nat) < s.snd.fst ∧ (0 : Nat) < s.snd.snd ∧ s.snd.fst ≤ m_.toNat ∧ m_.toNat + s.snd.snd ≤ xs.length ∧ rotL s.fst (m_.toNat - s.snd.fst) m_.toNat (m_.toNat + s.snd.snd) = rotL xs a.toNat m_.toNat b.toNat → (((↑s.snd.fst : Int) != (↑s.snd.snd : Int)) = true → (decide ((↑s.snd.snd : Int) < (↑s.snd.fst : Int)) = true → inR IntKind.i64 (m_ - (↑s.snd.fst : Int)) ∧ (xs.length = s.fst.length ∧ z = z ∧ c = c ∧ (z = true → c = (0 : Nat))) ∧ (s.fst.length ≤ (64 : Nat) ∧ (0 : Int) ≤ m_ - (↑s.snd.fst : Int) ∧ (0 : Int) ≤ (↑s.snd.snd : Int) ∧ m_ - (↑s.snd.fst : Int) + (↑s.snd.snd : Int) ≤ m_ ∧ m_ + (↑s.snd.snd : Int) ≤ (↑s.fst.length : Int)) ∧ ∀ (e : Unit), True → inR IntKind.i64 ((↑s.snd.fst : Int) - (↑s.snd.snd : Int)) ∧ ∃ (s' : List RV × Nat × Nat), (((((z = z ∧ (0 : Nat) = (0 : Nat) ∧ (0 : Nat) = (0 : Nat) ∧ xs.length = xs.length ∧ c = c) ∧ True) ∧ a = a ∧ m_ = m_ ∧ b = b ∧ True ∧ (↑s.snd.fst : Int) - (↑s.snd.snd : Int) = (↑s'.snd.fst : Int) ∧ (↑s.snd.snd : Int) = (↑s'.snd.snd : Int) ∧ True) ∧ (z = z ∧ (0 : Nat) = (0 : Nat) ∧ c = c ∧ List.take s'.fst.length (swapN s.fst (m_ - (↑s.snd.fst : Int)).toNat m_.toNat (↑s.snd.snd : Int).toNat) = s'.fst) ∧ True) ∧ s'.fst.length = xs.length ∧ (0 : Nat) < s'.snd.fst ∧ (0 : Nat) < s'.snd.snd ∧ s'.snd.fst ≤ m_.toNat ∧ m_.toNat + s'.snd.snd ≤ xs.length ∧ rotL s'.fst (m_.toNat - s'.snd.fst) m_.toNat (m_.toNat + s'.snd.snd) = rotL xs a.toNat m_.toNat b.toNat) ∧ s'.snd.fst + s'.snd.snd < s.snd.fst + s.snd.snd) ∧ (decide ((↑s.snd.snd : Int) < (↑s.snd.fst : Int)) = false → inR IntKind.i64 (m_ - (↑s.snd.fst : Int)) ∧ inR IntKind.i64 (m_ + (↑s.snd.snd : Int)) ∧ inR IntKind.i64 (m_ + (↑s.snd.snd : Int) - (↑s.snd.fst : Int)) ∧ (xs.length = s.fst.length ∧ z = z ∧ c = c ∧ (z = true → c = (0 : Nat))) ∧ (s.fst.length ≤ (64 : Nat) ∧ (0 : Int) ≤ m_ - (↑s.snd.fst : Int) ∧ (0 : Int) ≤ (↑s.snd.fst : Int) ∧ m_ - (↑s.snd.fst : Int) + (↑s.snd.fst : Int) ≤ m_ + (↑s.snd.snd : Int) - (↑s.snd.fst : Int) ∧ m_ + (↑s.snd.snd : Int) - (↑s.snd.fst : Int) + (↑s.snd.fst : Int) ≤ (↑s.fst.length : Int)) ∧ ∀ (e : Unit), True → inR IntKind.i64 ((↑s.snd.snd : Int) - (↑s.snd.fst : Int)) ∧ ∃ (s' : List RV × Nat × Nat), (((((z = z ∧ (0 : Nat) = (0 : Nat) ∧ (0 : Nat) = (0 : Nat) ∧ xs.length = xs.length ∧ c = c) ∧ True) ∧ a = a ∧ m_ = m_ ∧ b = b ∧ True ∧ (↑s.snd.fst : Int) = (↑s'.snd.fst : Int) ∧ (↑s.snd.snd : Int) - (↑s.snd.fst : Int) = (↑s'.snd.snd : Int) ∧ True) ∧ (z = z ∧ (0 : Nat) = (0 : Nat) ∧ c = c ∧ List.take s'.fst.length (swapN s.fst (m_ - (↑s.snd.fst : Int)).toNat (m_ + (↑s.snd.snd : Int) - (↑s.snd.fst : Int)).toNat (↑s.snd.fst : Int).toNat) = s'.fst) ∧ True) ∧ s'.fst.length = xs.length ∧ (0 : Nat) < s'.snd.fst ∧ (0 : Nat) < s'.snd.snd ∧ s'.snd.fst ≤ m_.toNat ∧ m_.toNat + s'.snd.snd ≤ xs.length ∧ rotL s'.fst (m_.toNat - s'.snd.fst) m_.toNat (m_.toNat + s'.snd.snd) = rotL xs a.toNat m_.toNat b.toNat) ∧ s'.snd.fst + s'.snd.snd < s.snd.fst + s.snd.snd)) ∧ (((↑s.snd.fst : Int) != (↑s.snd.snd : Int)) = false → inR IntKind.i64 (m_ - (↑s.snd.fst : Int)) ∧ (xs.length = s.fst.length ∧ z = z ∧ c = c ∧ (z = true → c = (0 : Nat))) ∧ (s.fst.length ≤ (64 : Nat) ∧ (0 : Int) ≤ m_ - (↑s.snd.fst : Int) ∧ (0 : Int) ≤ (↑s.snd.fst : Int) ∧ m_ - (↑s.snd.fst : Int) + (↑s.snd.fst : Int) ≤ m_ ∧ m_ + (↑s.snd.fst : Int) ≤ (↑s.fst.length : Int)) ∧ ∀ (e : Unit), True → (True ∧ True) ∧ (z = z ∧ (0 : Nat) = (0 : Nat) ∧ c = c ∧ List.take (rotL xs a.toNat m_.toNat b.toNat).length (swapN s.fst (m_ - (↑s.snd.fst : Int)).toNat m_.toNat (↑s.snd.fst : Int).toNat) = rotL xs a.toNat m_.toNat b.toNat) ∧ True)) := by kernel_rfl
theorem s_rotate : MSound Try.prog 90 c_rotate := by
  refine wsound (Ctx.ok_of2 (M := Mx) (N := []) mixedA ok_rank okD_swapRange okB0) Try.func90 (by kernel_rfl) (by kernel_rfl) (fun us m K h => ?_)
  unfold c_rotate at h
  split at h
  · rename_i s j0 a j1 m_ j2 b
    split at h
    · rename_i q x z n c xs hob
      obtain ⟨hq, h⟩ := h
      obtain ⟨hp, h⟩ := h
      refine ⟨Unit, fun e => True, shV, 50, q, x, z, n, c, xs, s, [], [], [.v (.one (.int .i64 j0 a)), .v (.one (.int .i64 j1 m_)), .v (.one (.int .i64 j2 b)), .clo 47 []], [.v (.one (.int .i64 false a)), .v (.one (.int .i64 false m_)), .v (.one (.int .i64 false b)), .clo 47 []], (fun bk => match bk with | 0 => some { S := List RV × Nat × Nat, st := fun s => ⟨[.v (.one (.rs z 0 0 0 12 0 (List.length xs) c)), .v (.one (.int .i64 false (a))), .v (.one (.int .i64 false (m_))), .v (.one (.int .i64 false (b))), .clo 47 [], .junk, .junk, .junk, .junk, .junk, .v (.one (.int .i64 false ((s.2.1 : Int)))), .v (.one (.int .i64 false ((s.2.2 : Int)))), .junk, .junk, .junk, .junk, .junk, .junk, .junk, .junk, .junk, .junk, .junk, .junk, .junk, .junk, .junk, .junk, .junk, .junk, .junk, .junk, .junk, .junk, .junk, .junk, .junk, .junk, .junk, .junk, .junk, .junk, .junk, .junk, .junk, .junk, .junk, .junk, .junk, .junk, .junk, .junk, .junk, .junk, .junk, .junk, .junk, .junk], [some (.rows false z shV (s.1) 0 c 50)]⟩, ok := fun s => s.1.length = xs.length ∧ 0 < s.2.1 ∧ 0 < s.2.2 ∧ s.2.1 ≤ m_.toNat ∧ m_.toNat + s.2.2 ≤ xs.length ∧ rotL s.1 (m_.toNat - s.2.1) m_.toNat (m_.toNat + s.2.2) = rotL xs a.toNat m_.toNat b.toNat, mu := fun s => s.2.1 + s.2.2, init := ([], 0, 0), ex := true } | _ => none), 400, fun e => SV.tup [], fun e => [some (.rows false z shV (rotL xs a.toNat m_.toNat b.toNat) 0 c 50)], (fun r m' => stLe 1 ⟨[r], m'⟩ ⟨[SV.tup []], [some (.rows false z shV (rotL xs a.toNat m_.toNat b.toNat) 0 c 50)]⟩), rfl, hob, hq, ⟨by simp [tmLe, svLe, vLe, lfLe, lfsLe, ifB, nmIs, idR], rfl⟩, ⟨by simp [tmLe, svLe, vLe, lfLe, lfsLe, ifB, nmIs, idR], rfl⟩, fun _ => rfl, fun hn hz hlc hzl => ?_, fun r m' hr => ⟨(), trivial, hr⟩, fun e he => h e he⟩
      subst hn
      refine by_nfG (nf_rotate z c xs a m_ b) ?_
      clear h hob hq
      obtain ⟨h64, h0, h1, h2, h3⟩ := hp
      obtain ⟨a, rfl⟩ := Int.eq_ofNat_of_zero_le h0
      obtain ⟨m, rfl⟩ := Int.eq_ofNat_of_zero_le (show 0 ≤ m_ by omega)
      obtain ⟨b, rfl⟩ := Int.eq_ofNat_of_zero_le (show 0 ≤ b by omega)
      simp only [eq_self_iff_true, true_and, and_true, Int.toNat_natCast, implies_true, decide_eq_true_eq, decide_eq_false_iff_not, bne_iff_ne, bne_eq_false_iff_eq, ne_eq, Decidable.not_not, inR, klo, khi]
      refine ⟨by omega, by omega, ⟨(xs, m - a, b - m), ?_⟩, ?_⟩
      · dsimp only
        refine ⟨⟨⟨by omega, by omega⟩, List.take_length⟩, rfl, by omega, by omega, by omega, by omega, ?_⟩
        rw [show m - (m - a) = a by omega, show m + (b - m) = b by omega]
      rintro ⟨ys, i, j⟩ ⟨l1, i0, j0, him, hjl, hr⟩
      dsimp only at *
      have e1 : ((m : Int) - (i : Int)).toNat = m - i := by omega
      simp only [e1]
      refine ⟨fun hij => ⟨fun h => ?_, fun h => ?_⟩, fun hij => ?_⟩
      · refine ⟨by omega, ⟨by omega, hz⟩, ⟨by omega, by omega, by omega, by omega, by omega⟩, fun _ _ => ⟨by omega, (swapN ys (m - i) m j, i - j, j), ?_⟩⟩
        have l2 := swapN_len ys (m - i) m j
        dsimp only
        refine ⟨⟨⟨by omega, take_self rfl⟩, by omega, by omega, by omega, by omega, by omega, ?_⟩, by omega⟩
        rw [rot_left him (by omega) (by omega), hr]
      · have e2 : ((m : Int) + (j : Int) - (i : Int)).toNat = m + j - i := by omega
        simp only [e2]
        refine ⟨by omega, by omega, by omega, ⟨by omega, hz⟩, ⟨by omega, by omega, by omega, by omega, by omega⟩, fun _ _ => ⟨by omega, (swapN ys (m - i) (m + j - i) i, i, j - i), ?_⟩⟩
        have l2 := swapN_len ys (m - i) (m + j - i) i
        dsimp only
        refine ⟨⟨⟨by omega, take_self rfl⟩, by omega, by omega, by omega, by omega, by omega, ?_⟩, by omega⟩
        rw [rot_right him (by omega) (by omega), hr]
      · obtain rfl : i = j := by omega
        refine ⟨by omega, ⟨by omega, hz⟩, ⟨by omega, by omega, by omega, by omega, by omega⟩, fun _ _ => take_self ?_⟩
        rw [rot_end him (by omega), hr]
    · exact h.elim
  · exact h.elim
noncomputable def Δ_rotate : List (FuncId × MC) := (90, c_rotate) :: Δ_swapRange
theorem okD_rotate : ΔOk Try.prog Δ_rotate := ΔOk.cons s_rotate okD_swapRange

noncomputable def c_insSort : MC := fun us m K => match us with
  | [s, .v (.one (.int .i64 _ a)), .v (.one (.int .i64 _ b)), .clo 47 []] => match owS shV 50 m s with
    | some (q, x, z, n, c, xs) => q ∧ (xs.length ≤ 64 ∧ 0 ≤ a ∧ a ≤ b ∧ b ≤ xs.length) ∧ (∀ e : List RV, (Alike xs e ∧ Mix xs e a.toNat b.toNat ∧ SoR e a.toNat b.toNat) → K ((SV.tup []).ren (back [x] m.length)) (backM [x] [] m [some (.rows false z shV (e) 0 c 50)]))
    | none => False
  | _ => False
theorem nf_insSort (z : Bool) (c : Nat) (xs : List (Row shV)) (a : Int) (b : Int) : goal ⟨Mx, Try.prog, Γ_rank, Δ_rotate, B0, none, false, [], none⟩ (fun bk => match bk with | 0 => some { S := List RV × Nat, st := fun s => ⟨[.v (.one (.rs z 0 0 0 12 0 (List.length xs) c)), .v (.one (.int .i64 false (a))), .v (.one (.int .i64 false (b))), .clo 47 [], .junk, .junk, .junk, .junk, .v (.one (.int .i64 false ((s.2 : Int)))), .junk, .junk, .junk, .junk, .junk, .junk, .junk, .junk, .junk, .junk, .junk, .junk, .junk, .junk, .junk, .junk, .junk, .junk, .junk, .junk, .junk, .junk, .junk, .junk, .junk, .junk, .junk, .junk, .junk, .junk, .junk, .junk, .junk, .junk, .junk, .junk, .junk, .junk, .junk, .junk, .junk, .junk, .junk, .junk], [some (.rows false z shV (s.1) 0 c 50)]⟩, ok := fun s => (a.toNat + 1 ≤ s.2 ∧ (s.2 ≤ b.toNat ∨ s.2 = a.toNat + 1)) ∧ Alike xs s.1 ∧ Mix xs s.1 a.toNat b.toNat ∧ SoR s.1 a.toNat s.2, mu := fun s => b.toNat - s.2, init := ([], 0), ex := true } | 2 => some { S := List RV × Nat × Nat, st := fun s => ⟨[.v (.one (.rs z 0 0 0 12 0 (List.length xs) c)), .v (.one (.int .i64 false (a))), .v (.one (.int .i64 false (b))), .clo 47 [], .junk, .junk, .junk, .junk, .v (.one (.int .i64 false ((s.2.1 : Int)))), .v (.one (.int .i64 false ((s.2.2 : Int)))), .junk, .junk, .junk, .junk, .junk, .junk, .junk, .junk, .junk, .junk, .junk, .junk, .junk, .junk, .junk, .junk, .junk, .junk, .junk, .junk, .junk, .junk, .junk, .junk, .junk, .junk, .junk, .junk, .junk, .junk, .junk, .junk, .junk, .junk, .junk, .junk, .junk, .junk, .junk, .junk, .junk, .junk, .junk], [some (.rows false z shV (s.1) 0 c 50)]⟩, ok := fun s => (a.toNat ≤ s.2.2 ∧ s.2.2 ≤ s.2.1 ∧ a.toNat + 1 ≤ s.2.1 ∧ s.2.1 < b.toNat) ∧ Alike xs s.1 ∧ Mix xs s.1 a.toNat b.toNat ∧ InsI s.1 a.toNat s.2.1 s.2.2, mu := fun s => s.2.2, init := ([], 0, 0), ex := true, tie := some (fun σ s => match (σ.tm[8]? : Option SV) with | some (.v (.one (.int _ _ n))) => n = (s.2.1 : Int) | _ => False) } | 700006 => some { S := Unit, st := fun s => ⟨[], []⟩, ok := fun s => True, mu := fun s => 0, init := () } | _ => none) 400 Try.f81 [.v (.one (.rs z 0 0 0 (List.length shV) 0 (List.length xs) c)), .v (.one (.int .i64 false a)), .v (.one (.int .i64 false b)), .clo 47 []] [some (.rows false z shV xs 0 c 50)] (fun r m' => ∃ e : List RV, (Alike xs e ∧ Mix xs e a.toNat b.toNat ∧ SoR e a.toNat b.toNat) ∧ stLe 1 ⟨[r], m'⟩ ⟨[SV.tup []], [some (.rows false z shV (e) 0 c 50)]⟩) = (inR IntKind.i64 (a + (1 : Int)) ∧ (∃ (s : List RV × Nat), ((((z = z ∧ (0 : Nat) = (0 : Nat) ∧ (0 : Nat) = (0 : Nat) ∧ xs.length = xs.length ∧ c = c) ∧ True) ∧ a = a ∧ b = b ∧ True ∧ a + (1 : Int) = (↑s.snd : Int) ∧ True) ∧ (z = z ∧ (0 : Nat) = (0 : Nat) ∧ c = c ∧ List.take s.fst.length xs = s.fst) ∧ True) ∧ (a.toNat + (1 : Nat) ≤ s.snd ∧ (s.snd ≤ b.toNat ∨ s.snd = a.toNat + (1 : Nat))) ∧ Alike xs s.fst ∧ Mix xs s.fst a.toNat b.toNat ∧ SoR s.fst a.toNat s.snd) ∧ ∀ (s : List RV × Nat), (a.toNat + (1 : Nat) ≤ s.snd ∧ (s.snd ≤ b.toNat ∨ s.snd = a.toNat + (1 : Nat))) ∧ Alike xs s.fst ∧ Mix xs s.fst a.toNat b.toNat ∧ SoR s.fst a.toNat s.snd → (decide ((↑s.snd : Int) < b) = true → (∃ (s_1 : List RV × Nat × Nat), ((((z = z ∧ (0 : Nat) = (0 : Nat) ∧ (0 : Nat) = (0 : Nat) ∧ xs.length = xs.length ∧ c = c) ∧ True) ∧ a = a ∧ b = b ∧ True ∧ (↑s.snd : Int) = (↑s_1.snd.fst : Int) ∧ (↑s.snd : Int) = (↑s_1.snd.snd : Int) ∧ True) ∧ (z = z ∧ (0 : Nat) = (0 : Nat) ∧ c = c ∧ List.take s_1.fst.length s.fst = s_1.fst) ∧ True) ∧ ((a.toNat ≤ s_1.snd.snd ∧ s_1.snd.snd ≤ s_1.snd.fst ∧ a.toNat + (1 : Nat) ≤ s_1.snd.fst ∧ s_1.snd.fst < b.toNat) ∧ Alike xs s_1.fst ∧ Mix xs s_1.fst a.toNat b.toNat ∧ InsI s_1.fst a.toNat s_1.snd.fst s_1.snd.snd) ∧ (↑s.snd : Int) = (↑s_1.snd.fst : Int)) ∧ ∀ (s_1 : List RV × Nat × Nat), ((a.toNat ≤ s_1.snd.snd ∧ s_1.snd.snd ≤ s_1.snd.fst ∧ a.toNat + (1 : Nat) ≤ s_1.snd.fst ∧ s_1.snd.fst < b.toNat) ∧ Alike xs s_1.fst ∧ Mix xs s_1.fst a.toNat b.toNat ∧ InsI s_1.fst a.toNat s_1.snd.fst s_1.snd.snd) ∧ (↑s.snd : Int) = (↑s_1.snd.fst : Int) → (decide (a < (↑s_1.snd.snd : Int)) = true → decide (a < (↑s_1.snd.snd : Int)) = true ∧ ((0 : Int) ≤ (↑s_1.snd.snd : Int) ∧ (↑s_1.snd.snd : Int) < (↑xs.length : Int)) ∧ (↑s_1.snd.snd : Int).toNat < s_1.fst.length ∧ inR IntKind.i64 ((↑s_1.snd.snd : Int) - (1 : Int)) ∧ ((0 : Int) ≤ (↑s_1.snd.snd : Int) - (1 : Int) ∧ (↑s_1.snd.snd : Int) - (1 : Int) < (↑xs.length : Int)) ∧ ((↑s_1.snd.snd : Int) - (1 : Int)).toNat < s_1.fst.length ∧ (decide (rkR (getR s_1.fst (↑s_1.snd.snd : Int).toNat) (getR s_1.fst ((↑s_1.snd.snd : Int) - (1 : Int)).toNat) < (0 : Int)) = true → inR IntKind.i64 ((↑s_1.snd.snd : Int) - (1 : Int)) ∧ inR IntKind.i64 ((↑s_1.snd.snd : Int) - (1 : Int)) ∧ ((0 : Int) ≤ (↑s_1.snd.snd : Int) - (1 : Int) ∧ (↑s_1.snd.snd : Int) - (1 : Int) < (↑xs.length : Int)) ∧ ((0 : Int) ≤ (↑s_1.snd.snd : Int) ∧ (↑s_1.snd.snd : Int) < (↑xs.length : Int)) ∧ (((↑s_1.snd.snd : Int) - (1 : Int)).toNat < s_1.fst.length ∧ (↑s_1.snd.snd : Int).toNat < s_1.fst.length ∧ ((0 : Int) ≤ (↑s_1.snd.snd : Int) ∧ (↑s_1.snd.snd : Int) < (↑xs.length : Int)) ∧ (↑s_1.snd.snd : Int).toNat < s_1.fst.length ∧ ((0 : Int) ≤ (↑s_1.snd.snd : Int) - (1 : Int) ∧ (↑s_1.snd.snd : Int) - (1 : Int) < (↑xs.length : Int)) ∧ ((↑s_1.snd.snd : Int) - (1 : Int)).toNat < (s_1.fst.set (↑s_1.snd.snd : Int).toNat (getR s_1.fst ((↑s_1.snd.snd : Int) - (1 : Int)).toNat)).length ∧ inR IntKind.i64 ((↑s_1.snd.snd : Int) - (1 : Int)) ∧ ∃ (s' : List RV × Nat × Nat), (((((z = z ∧ (0 : Nat) = (0 : Nat) ∧ (0 : Nat) = (0 : Nat) ∧ xs.length = xs.length ∧ c = c) ∧ True) ∧ a = a ∧ b = b ∧ True ∧ (↑s_1.snd.fst : Int) = (↑s'.snd.fst : Int) ∧ (↑s_1.snd.snd : Int) - (1 : Int) = (↑s'.snd.snd : Int) ∧ True) ∧ (z = z ∧ (0 : Nat) = (0 : Nat) ∧ c = c ∧ List.take s'.fst.length ((s_1.fst.set (↑s_1.snd.snd : Int).toNat (getR s_1.fst ((↑s_1.snd.snd : Int) - (1 : Int)).toNat)).set ((↑s_1.snd.snd : Int) - (1 : Int)).toNat (getR s_1.fst (↑s_1.snd.snd : Int).toNat)) = s'.fst) ∧ True) ∧ ((a.toNat ≤ s'.snd.snd ∧ s'.snd.snd ≤ s'.snd.fst ∧ a.toNat + (1 : Nat) ≤ s'.snd.fst ∧ s'.snd.fst < b.toNat) ∧ Alike xs s'.fst ∧ Mix xs s'.fst a.toNat b.toNat ∧ InsI s'.fst a.toNat s'.snd.fst s'.snd.snd) ∧ (↑s.snd : Int) = (↑s'.snd.fst : Int)) ∧ s'.snd.snd < s_1.snd.snd) ∧ (↑s_1.snd.snd : Int).toNat < s_1.fst.length ∧ ((↑s_1.snd.snd : Int) - (1 : Int)).toNat < s_1.fst.length ∧ ((0 : Int) ≤ (↑s_1.snd.snd : Int) ∧ (↑s_1.snd.snd : Int) < (↑xs.length : Int)) ∧ (↑s_1.snd.snd : Int).toNat < s_1.fst.length ∧ ((0 : Int) ≤ (↑s_1.snd.snd : Int) - (1 : Int) ∧ (↑s_1.snd.snd : Int) - (1 : Int) < (↑xs.length : Int)) ∧ ((↑s_1.snd.snd : Int) - (1 : Int)).toNat < (s_1.fst.set (↑s_1.snd.snd : Int).toNat (getR s_1.fst ((↑s_1.snd.snd : Int) - (1 : Int)).toNat)).length ∧ inR IntKind.i64 ((↑s_1.snd.snd : Int) - (1 : Int)) ∧ ∃ (s' : List RV × Nat × Nat), (((((z = z ∧ (0 : Nat) = (0 : Nat) ∧ (0 : Nat) = (0 : Nat) ∧ xs.length = xs.length ∧ c = c) ∧ True) ∧ a = a ∧ b = b ∧ True ∧ (↑s_1.snd.fst : Int) = (↑s'.snd.fst : Int) ∧ (↑s_1.snd.snd : Int) - (1 : Int) = (↑s'.snd.snd : Int) ∧ True) ∧ (z = z ∧ (0 : Nat) = (0 : Nat) ∧ c = c ∧ List.take s'.fst.length ((s_1.fst.set (↑s_1.snd.snd : Int).toNat (getR s_1.fst ((↑s_1.snd.snd : Int) - (1 : Int)).toNat)).set ((↑s_1.snd.snd : Int) - (1 : Int)).toNat (getR s_1.fst (↑s_1.snd.snd : Int).toNat)) = s'.fst) ∧ True) ∧ ((a.toNat ≤ s'.snd.snd ∧ s'.snd.snd ≤ s'.snd.fst ∧ a.toNat + (1 : Nat) ≤ s'.snd.fst ∧ s'.snd.fst < b.toNat) ∧ Alike xs s'.fst ∧ Mix xs s'.fst a.toNat b.toNat ∧ InsI s'.fst a.toNat s'.snd.fst s'.snd.snd) ∧ (↑s.snd : Int) = (↑s'.snd.fst : Int)) ∧ s'.snd.snd < s_1.snd.snd) ∧ (decide (rkR (getR s_1.fst (↑s_1.snd.snd : Int).toNat) (getR s_1.fst ((↑s_1.snd.snd : Int) - (1 : Int)).toNat) < (0 : Int)) = false → inR IntKind.i64 ((↑s_1.snd.fst : Int) + (1 : Int)) ∧ ∃ (s' : List RV × Nat), (((((z = z ∧ (0 : Nat) = (0 : Nat) ∧ (0 : Nat) = (0 : Nat) ∧ xs.length = xs.length ∧ c = c) ∧ True) ∧ a = a ∧ b = b ∧ True ∧ (↑s_1.snd.fst : Int) + (1 : Int) = (↑s'.snd : Int) ∧ True) ∧ (z = z ∧ (0 : Nat) = (0 : Nat) ∧ c = c ∧ List.take s'.fst.length s_1.fst = s'.fst) ∧ True) ∧ (a.toNat + (1 : Nat) ≤ s'.snd ∧ (s'.snd ≤ b.toNat ∨ s'.snd = a.toNat + (1 : Nat))) ∧ Alike xs s'.fst ∧ Mix xs s'.fst a.toNat b.toNat ∧ SoR s'.fst a.toNat s'.snd) ∧ b.toNat - s'.snd < b.toNat - s.snd)) ∧ (decide (a < (↑s_1.snd.snd : Int)) = false → decide (a < (↑s_1.snd.snd : Int)) = false ∧ inR IntKind.i64 ((↑s_1.snd.fst : Int) + (1 : Int)) ∧ ∃ (s' : List RV × Nat), (((((z = z ∧ (0 : Nat) = (0 : Nat) ∧ (0 : Nat) = (0 : Nat) ∧ xs.length = xs.length ∧ c = c) ∧ True) ∧ a = a ∧ b = b ∧ True ∧ (↑s_1.snd.fst : Int) + (1 : Int) = (↑s'.snd : Int) ∧ True) ∧ (z = z ∧ (0 : Nat) = (0 : Nat) ∧ c = c ∧ List.take s'.fst.length s_1.fst = s'.fst) ∧ True) ∧ (a.toNat + (1 : Nat) ≤ s'.snd ∧ (s'.snd ≤ b.toNat ∨ s'.snd = a.toNat + (1 : Nat))) ∧ Alike xs s'.fst ∧ Mix xs s'.fst a.toNat b.toNat ∧ SoR s'.fst a.toNat s'.snd) ∧ b.toNat - s'.snd < b.toNat - s.snd)) ∧ (decide ((↑s.snd : Int) < b) = false → ∃ (e : List RV), (Alike xs e ∧ Mix xs e a.toNat b.toNat ∧ SoR e a.toNat b.toNat) ∧ (True ∧ True) ∧ (z = z ∧ (0 : Nat) = (0 : Nat) ∧ c = c ∧ List.take e.length s.fst = e) ∧ True)) := by kernel_rfl
theorem s_insSort : MSound Try.prog 81 c_insSort := by
  refine wsound (Ctx.ok_of2 (M := Mx) (N := []) mixedA ok_rank okD_rotate okB0) Try.func81 (by kernel_rfl) (by kernel_rfl) (fun us m K h => ?_)
  unfold c_insSort at h
  split at h
  · rename_i s j0 a j1 b
    split at h
    · rename_i q x z n c xs hob
      obtain ⟨hq, h⟩ := h
      obtain ⟨hp, h⟩ := h
      refine ⟨List RV, fun e => Alike xs e ∧ Mix xs e a.toNat b.toNat ∧ SoR e a.toNat b.toNat, shV, 50, q, x, z, n, c, xs, s, [], [], [.v (.one (.int .i64 j0 a)), .v (.one (.int .i64 j1 b)), .clo 47 []], [.v (.one (.int .i64 false a)), .v (.one (.int .i64 false b)), .clo 47 []], (fun bk => match bk with | 0 => some { S := List RV × Nat, st := fun s => ⟨[.v (.one (.rs z 0 0 0 12 0 (List.length xs) c)), .v (.one (.int .i64 false (a))), .v (.one (.int .i64 false (b))), .clo 47 [], .junk, .junk, .junk, .junk, .v (.one (.int .i64 false ((s.2 : Int)))), .junk, .junk, .junk, .junk, .junk, .junk, .junk, .junk, .junk, .junk, .junk, .junk, .junk, .junk, .junk, .junk, .junk, .junk, .junk, .junk, .junk, .junk, .junk, .junk, .junk, .junk, .junk, .junk, .junk, .junk, .junk, .junk, .junk, .junk, .junk, .junk, .junk, .junk, .junk, .junk, .junk, .junk, .junk, .junk], [some (.rows false z shV (s.1) 0 c 50)]⟩, ok := fun s => (a.toNat + 1 ≤ s.2 ∧ (s.2 ≤ b.toNat ∨ s.2 = a.toNat + 1)) ∧ Alike xs s.1 ∧ Mix xs s.1 a.toNat b.toNat ∧ SoR s.1 a.toNat s.2, mu := fun s => b.toNat - s.2, init := ([], 0), ex := true } | 2 => some { S := List RV × Nat × Nat, st := fun s => ⟨[.v (.one (.rs z 0 0 0 12 0 (List.length xs) c)), .v (.one (.int .i64 false (a))), .v (.one (.int .i64 false (b))), .clo 47 [], .junk, .junk, .junk, .junk, .v (.one (.int .i64 false ((s.2.1 : Int)))), .v (.one (.int .i64 false ((s.2.2 : Int)))), .junk, .junk, .junk, .junk, .junk, .junk, .junk, .junk, .junk, .junk, .junk, .junk, .junk, .junk, .junk, .junk, .junk, .junk, .junk, .junk, .junk, .junk, .junk, .junk, .junk, .junk, .junk, .junk, .junk, .junk, .junk, .junk, .junk, .junk, .junk, .junk, .junk, .junk, .junk, .junk, .junk, .junk, .junk], [some (.rows false z shV (s.1) 0 c 50)]⟩, ok := fun s => (a.toNat ≤ s.2.2 ∧ s.2.2 ≤ s.2.1 ∧ a.toNat + 1 ≤ s.2.1 ∧ s.2.1 < b.toNat) ∧ Alike xs s.1 ∧ Mix xs s.1 a.toNat b.toNat ∧ InsI s.1 a.toNat s.2.1 s.2.2, mu := fun s => s.2.2, init := ([], 0, 0), ex := true, tie := some (fun σ s => match (σ.tm[8]? : Option SV) with | some (.v (.one (.int _ _ n))) => n = (s.2.1 : Int) | _ => False) } | 700006 => some { S := Unit, st := fun s => ⟨[], []⟩, ok := fun s => True, mu := fun s => 0, init := () } | _ => none), 400, fun e => SV.tup [], fun e => [some (.rows false z shV (e) 0 c 50)], (fun r m' => ∃ e : List RV, (Alike xs e ∧ Mix xs e a.toNat b.toNat ∧ SoR e a.toNat b.toNat) ∧ stLe 1 ⟨[r], m'⟩ ⟨[SV.tup []], [some (.rows false z shV (e) 0 c 50)]⟩), rfl, hob, hq, ⟨by simp [tmLe, svLe, vLe, lfLe, lfsLe, ifB, nmIs, idR], rfl⟩, ⟨by simp [tmLe, svLe, vLe, lfLe, lfsLe, ifB, nmIs, idR], rfl⟩, fun _ => rfl, fun hn hz hlc hzl => ?_, fun r m' hr => hr, fun e he => h e he⟩
      subst hn
      refine by_nfG (nf_insSort z c xs a b) ?_
      clear h hob hq
      obtain ⟨h64, h0, h1, h2⟩ := hp
      obtain ⟨a, rfl⟩ := Int.eq_ofNat_of_zero_le h0
      obtain ⟨b, rfl⟩ := Int.eq_ofNat_of_zero_le (show 0 ≤ b by omega)
      simp only [eq_self_iff_true, true_and, and_true, Int.toNat_natCast, implies_true, decide_eq_true_eq, decide_eq_false_iff_not, bne_iff_ne, bne_eq_false_iff_eq, ne_eq, Decidable.not_not, inR, klo, khi]
      refine ⟨by omega, ⟨(xs, a + 1), ⟨by dsimp only; omega, List.take_length⟩, by dsimp only; omega, Alike.rfl' _, Mix.rfl' _ _ _, SoR.one (by dsimp only; omega)⟩, ?_⟩
      rintro ⟨ys, i⟩ ⟨⟨i1, i2⟩, al, mx, so⟩
      dsimp only at *
      have l1 := al.1
      refine ⟨fun hib => ⟨⟨(ys, i, i), ⟨⟨rfl, rfl⟩, List.take_length⟩, ⟨by dsimp only; omega, al, mx, insI_start so⟩, rfl⟩, ?_⟩, fun hib => ⟨ys, ⟨al, mx, so.sub (Nat.le_refl _) (by omega)⟩, List.take_length⟩⟩
      rintro ⟨zs, i', j⟩ ⟨⟨⟨j1, j2, j3, j4⟩, al2, mx2, si⟩, ti⟩
      dsimp only at *
      obtain rfl : i = i' := by omega
      have l2 := al2.1
      have out : SoR zs a (i + 1) → ∃ s' : List RV × Nat, ((((i : Int) + 1 = (s'.2 : Int)) ∧ List.take s'.1.length zs = s'.1) ∧ (a + 1 ≤ s'.2 ∧ (s'.2 ≤ b ∨ s'.2 = a + 1)) ∧ Alike xs s'.1 ∧ Mix xs s'.1 a b ∧ SoR s'.1 a s'.2) ∧ b - s'.2 < b - i := fun hs =>
        ⟨(zs, i + 1), ⟨⟨by dsimp only; omega, List.take_length⟩, by dsimp only; omega, al2, mx2, hs⟩, by dsimp only; omega⟩
      refine ⟨fun haj => ⟨by omega, by omega, by omega, by omega, by omega, by omega, fun hk => ?_, fun hk => ⟨by omega, out ?_⟩⟩, fun haj => ⟨by omega, by omega, out ?_⟩⟩
      · have e1 : ((j : Int) - 1).toNat = j - 1 := by omega
        rw [e1] at hk
        have hlt := rkR_neg.1 hk
        have l3 : (zs.set j (getR zs (j - 1))).length = zs.length := List.length_set ..
        have fin : ∃ s' : List RV × Nat × Nat, (((((i : Int) = (s'.2.1 : Int)) ∧ (j : Int) - 1 = (s'.2.2 : Int)) ∧ List.take s'.1.length ((zs.set j (getR zs (j - 1))).set (j - 1) (getR zs j)) = s'.1) ∧ ((a ≤ s'.2.2 ∧ s'.2.2 ≤ s'.2.1 ∧ a + 1 ≤ s'.2.1 ∧ s'.2.1 < b) ∧ Alike xs s'.1 ∧ Mix xs s'.1 a b ∧ InsI s'.1 a s'.2.1 s'.2.2) ∧ (i : Int) = (s'.2.1 : Int)) ∧ s'.2.2 < j := by
          refine ⟨(sw zs j (j - 1), i, j - 1), ⟨⟨⟨rfl, by dsimp only; omega⟩, take_self rfl⟩, ⟨⟨by show a ≤ j - 1; omega, by show j - 1 ≤ i; omega, j3, j4⟩, ?_, ?_, ?_⟩, rfl⟩, by show j - 1 < j; omega⟩
          · refine al2.trans ?_
            rw [sw_comm (by omega) (by omega)]
            have := alike_adj (xs := zs) (i := j - 1) (by omega) (by rw [show j - 1 + 1 = j by omega]; exact ltV_key' hlt)
            rwa [show j - 1 + 1 = j by omega] at this
          · exact mx2.trans (Mix.sw (a := a) (b := b) (i := j) (j := j - 1) (by omega) (by omega) (by omega)) (Nat.le_refl _) (Nat.le_refl _)
          · show InsI (sw zs j (j - 1)) a i (j - 1)
            exact insI_step si (by omega) (by omega) (by omega) hlt
        simp only [e1]
        exact ⟨by omega, by omega, by omega, by omega, ⟨by omega, by omega, by omega, by omega, by omega, by omega, by omega, fin⟩, by omega, by omega, by omega, by omega, by omega, by omega, by omega, fin⟩
      · have e1 : ((j : Int) - 1).toNat = j - 1 := by omega
        rw [e1] at hk
        exact insI_end si j2 (.inr (rkR_nn.1 hk))
      · exact insI_end si j2 (.inl (by omega))
    · exact h.elim
  · exact h.elim
noncomputable def Δ_insSort : List (FuncId × MC) := (81, c_insSort) :: Δ_rotate
theorem okD_insSort : ΔOk Try.prog Δ_insSort := ΔOk.cons s_insSort okD_rotate

end Go.Proofs.Ytljnddhldjaglaa
