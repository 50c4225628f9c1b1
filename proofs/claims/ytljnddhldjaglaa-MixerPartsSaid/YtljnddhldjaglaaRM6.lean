/- THE MIXER: WHICH VOICES GIVE, AND A SAMPLE OF THEM. Conditions: the contracts' own. Own work; the normal forms were printed by a program of mine (wip/rex). -/
import Derived.Test.YtljnddhldjaglaaRM5
namespace Go.Proofs.Ytljnddhldjaglaa
open Go.RowKit Rex
set_option linter.unusedVariables false
set_option linter.unusedSimpArgs false
set_option maxRecDepth 100000


def sndB (t : Int) (p : RV) : Bool := soundsB p.2.2.2.2.1 p.2.2.2.2.2.1 p.2.2.2.2.2.2.1 p.2.2.2.2.2.2.2.2.1 p.2.2.2.2.2.2.2.2.2.1 p.2.2.2.2.2.2.2.2.2.2.1 p.2.2.2.2.2.2.2.2.2.2.2.1 t
def keepV (xs : List RV) (t : Int) (n : Nat) : List RV := (xs.take n).filter (sndB t)
/-- those that give, the loudest first -/
def ldF (xs : List RV) (vs t : Int) : List RV := (sortF (xs.filter (sndB t)).reverse).take (max vs 0).toNat
def gvL (t : Int) (p : RV) : Int := giveL p.2.2.2.2.1 p.2.2.2.2.2.1 p.2.2.2.2.2.2.1 p.2.2.2.2.2.2.2.2.1 p.2.2.2.2.2.2.2.2.2.1 p.2.2.2.2.2.2.2.2.2.2.1 p.2.2.2.2.2.2.2.2.2.2.2.1 t
def gvR (t : Int) (p : RV) : Int := giveR p.2.2.2.2.1 p.2.2.2.2.2.1 p.2.2.2.2.2.2.1 p.2.2.2.2.2.2.2.2.1 p.2.2.2.2.2.2.2.2.2.1 p.2.2.2.2.2.2.2.2.2.2.1 p.2.2.2.2.2.2.2.2.2.2.2.1 t
def sumL (l : List RV) (t : Int) : Nat → Int
  | 0 => 0
  | n + 1 => sumL l t n + gvL t (getR l n)
def sumR (l : List RV) (t : Int) : Nat → Int
  | 0 => 0
  | n + 1 => sumR l t n + gvR t (getR l n)
/-- turned round, as far as a place from either end -/
def revN (xs : List RV) : Nat → List RV
  | 0 => xs
  | n + 1 => sw (revN xs n) n (xs.length - 1 - n)
theorem revN_len (xs : List RV) (n : Nat) : (revN xs n).length = xs.length := by
  induction n with
  | zero => rfl
  | succ n ih => rw [revN, sw_len, ih]
theorem gR_revN {xs : List RV} : ∀ {n : Nat}, 2 * n ≤ xs.length → ∀ i, i < xs.length → getR (revN xs n) i = if i < n ∨ xs.length - n ≤ i then getR xs (xs.length - 1 - i) else getR xs i
  | 0, h, i, hi => by rw [if_neg (by omega)]; rfl
  | n + 1, h, i, hi => by
    have ih := gR_revN (xs := xs) (n := n) (by omega)
    rw [revN, gR_sw (by rw [revN_len]; omega) (by rw [revN_len]; omega), ih i hi, ih n (by omega), ih (xs.length - 1 - n) (by omega)]
    by_cases c1 : i = xs.length - 1 - n
    · rw [if_pos c1, if_neg (by omega), if_pos (by omega)]; congr 1; omega
    · rw [if_neg c1]
      by_cases c2 : i = n
      · rw [if_pos c2, if_neg (by omega), if_pos (by omega)]; congr 1; omega
      · rw [if_neg c2]
        by_cases c3 : i < n ∨ xs.length - n ≤ i
        · rw [if_pos c3, if_pos (by omega)]
        · rw [if_neg c3, if_neg (by omega)]
theorem gR_rev {xs : List RV} {i : Nat} (h : i < xs.length) : getR xs.reverse i = getR xs (xs.length - 1 - i) := by
  rw [gR_lt (by simpa using h), gR_lt (by omega), List.getElem_reverse]
theorem rev_done {xs : List RV} {n : Nat} (h : 2 * n ≤ xs.length) (k : xs.length ≤ 2 * n + 1) : revN xs n = xs.reverse := by
  refine gR_ext (by rw [revN_len, List.length_reverse]) fun i hi => ?_
  rw [revN_len] at hi
  rw [gR_revN h i hi, gR_rev hi]
  split
  · rfl
  · congr 1; omega
def tieZ (x : Nat) (σ : St) (z : Bool) (c : Nat) : Prop := match mmOf σ.m x with
  | some (.rows _ z' _ _ _ c' _) => z' = z ∧ c' = c
  | _ => False
/-- the first that does not give -/
def FIx (xs : List RV) (t i : Int) : Prop := (i = -1 ∧ xs.filter (sndB t) = xs) ∨ (∃ n : Nat, i = (n : Int) ∧ n < xs.length ∧ keepV xs t n = xs.take n ∧ sndB t (getR xs n) = false)
theorem keepV_zero (xs : List RV) (t : Int) : keepV xs t 0 = [] := by unfold keepV; simp
theorem keepV_all (xs : List RV) (t : Int) : keepV xs t xs.length = xs.filter (sndB t) := by unfold keepV; rw [List.take_length]
theorem keepV_succ (xs : List RV) (t : Int) {n : Nat} (h : n < xs.length) : keepV xs t (n + 1) = keepV xs t n ++ (if sndB t (getR xs n) = true then [getR xs n] else []) := by
  unfold keepV
  rw [List.take_add_one, gR_some h, Option.toList_some, List.filter_append]
  congr 1
  cases hb : sndB t (getR xs n) <;> simp [hb]
theorem keepV_le (xs : List RV) (t : Int) (n : Nat) : (keepV xs t n).length ≤ n := by
  unfold keepV
  exact Nat.le_trans (List.length_filter_le _ _) (by rw [List.length_take]; omega)
theorem mix_get {sh : List Kd} (K xs : List (Row sh)) {s : Nat} (h : K.length ≤ s) : getR (K ++ xs.drop K.length) s = getR xs s := by
  rw [gR_app, if_neg (by omega), gR_drop]; congr 1; omega
theorem mix_len {α : Type} (K xs : List α) (h : K.length ≤ xs.length) : (K ++ xs.drop K.length).length = xs.length := by rw [List.length_append, List.length_drop]; omega
theorem mix_set {α : Type} (K xs : List α) (r : α) (h : K.length < xs.length) : (K ++ xs.drop K.length).set K.length r = (K ++ [r]) ++ xs.drop (K ++ [r]).length := by
  rw [List.set_append_right _ _ (Nat.le_refl _), Nat.sub_self, List.drop_eq_getElem_cons h, List.set_cons_zero, List.append_assoc, List.length_append]
  rfl
theorem ldF_len (xs : List RV) (vs t : Int) : (ldF xs vs t).length = min (max vs 0).toNat (xs.filter (sndB t)).length := by
  unfold ldF
  rw [List.length_take, sortF_len, List.length_reverse]
theorem ldF_le (xs : List RV) (vs t : Int) : (ldF xs vs t).length ≤ xs.length := by
  rw [ldF_len]
  have := List.length_filter_le (sndB t) xs
  omega
theorem scF_bd (x g : Int) (h : -8192 ≤ x ∧ x ≤ 8192) (k : 0 ≤ g ∧ g ≤ 32768) : -8192 ≤ scF x g ∧ scF x g ≤ 8192 := by
  unfold scF
  rw [show wi x (-2147483648) 2147483648 = x from by unfold wi; (repeat' split) <;> omega, show wi g (-2147483648) 2147483648 = g from by unfold wi; (repeat' split) <;> omega]
  exact part_bd x g 32768 8192 h k (by omega)
theorem vwaveF_bd (a ln age : Int) : -8192 ≤ vwaveF a ln age ∧ vwaveF a ln age ≤ 8192 := by
  unfold vwaveF
  split
  · unfold aroundF
    split
    · exact waveF_bd _ _
    · omega
  · unfold sampleF
    split
    · rename_i h
      have := ins_iff.1 h
      exact part_bd _ _ _ 8192 (waveF_bd _ _) (by omega) (by omega)
    · omega
theorem env_bd (at_ gn pn ln bo lt cu t : Int) : 0 ≤ envF at_ gn pn ln bo lt cu t ∧ envF at_ gn pn ln bo lt cu t ≤ 32768 := by
  unfold envF
  split
  · split <;> omega
  · omega
theorem give_bd (at_ gn pn ln bo lt cu t : Int) : (-8192 ≤ giveL at_ gn pn ln bo lt cu t ∧ giveL at_ gn pn ln bo lt cu t ≤ 8192) ∧ (-8192 ≤ giveR at_ gn pn ln bo lt cu t ∧ giveR at_ gn pn ln bo lt cu t ≤ 8192) := by
  unfold giveL giveR
  split
  · rename_i h
    have h0 : atB at_ gn pn ln bo lt cu t = true := by unfold soundsB at h; rw [Bool.and_eq_true] at h; exact h.1
    obtain ⟨f1, f2, f3, _⟩ := right_facts.1 (at_facts.1 h0).1
    have a1 := scF_bd _ gn (vwaveF_bd at_ ln (t - bo + lt)) f2
    have a2 := scF_bd _ _ a1 (env_bd at_ gn pn ln bo lt cu t)
    exact ⟨scF_bd _ _ a2 (by omega), scF_bd _ _ a2 (by omega)⟩
  · omega
theorem sum_bd (l : List RV) (t : Int) : ∀ n : Nat, (-8192 * (n : Int) ≤ sumL l t n ∧ sumL l t n ≤ 8192 * (n : Int)) ∧ (-8192 * (n : Int) ≤ sumR l t n ∧ sumR l t n ≤ 8192 * (n : Int))
  | 0 => by simp [sumL, sumR]
  | n + 1 => by
    have ih := sum_bd l t n
    have g := give_bd (getR l n).2.2.2.2.1 (getR l n).2.2.2.2.2.1 (getR l n).2.2.2.2.2.2.1 (getR l n).2.2.2.2.2.2.2.2.1 (getR l n).2.2.2.2.2.2.2.2.2.1 (getR l n).2.2.2.2.2.2.2.2.2.2.1 (getR l n).2.2.2.2.2.2.2.2.2.2.2.1 t
    unfold sumL sumR gvL gvR
    omega


noncomputable def c_pcm : FC := fun us => match us with
  | [.v (.one (.int .i64 _ n))] => some (none, .v (.one (.int .i64 false (wi n (-32768) 32767))))
  | _ => none
theorem s_pcm : FSound Try.prog 26 c_pcm := by
  refine fsound_calls Try.func26 (by kernel_rfl) (by kernel_rfl) ?_
  intro us p v h hp
  unfold c_pcm at h
  split at h
  · rename_i k0 n
    cases h
    exact ⟨[.int .i64 n], .int .i64 (wi n (-32768) 32767), rfl, rfl, fun w => same_ext (pcm_any n w)⟩
  · cases h
noncomputable def Γ_pcm : List (FuncId × FX) := (26, c_pcm) :: Γ_rank
theorem ok_pcm : ΓOk Try.prog Γ_pcm := ΓOk.cons (c := .pure c_pcm) s_pcm ok_rank

noncomputable def c_rbetween : FC := fun us => match us with
  | [.v (.one (.int .i64 _ n)), .v (.one (.int .i64 _ l)), .v (.one (.int .i64 _ m))] => some (some (l ≤ m), .v (.one (.int .i64 false (wi n l m))))
  | _ => none
theorem s_rbetween : FSound Try.prog 28 c_rbetween := by
  refine fsound_calls Try.func28 (by kernel_rfl) (by kernel_rfl) ?_
  intro us p v h hp
  unfold c_rbetween at h
  split at h
  · rename_i k0 n k1 l k2 m
    cases h
    have hp : l ≤ m := hp
    exact ⟨[.int .i64 n, .int .i64 l, .int .i64 m], .int .i64 (wi n l m), rfl, rfl, fun w => same_ext (between_any n l m w hp)⟩
  · cases h
noncomputable def Γ_rbetween : List (FuncId × FX) := (28, c_rbetween) :: Γ_pcm
theorem ok_rbetween : ΓOk Try.prog Γ_rbetween := ΓOk.cons (c := .pure c_rbetween) s_rbetween ok_pcm

noncomputable def c_clone : MC := fun us m K => match us with
  | [s] => match rdS shV m s with
    | some (q, x, z, base, n, c, tot, xs) => q ∧ (xs.length ≤ 64) ∧ (∀ e : Nat × Bool, (List.length (xs) ≤ e.1 ∧ (e.2 = true → e.1 = 0)) → K (.v (.one (.rs e.2 0 (m.length + 0) 0 12 0 (List.length xs) e.1))) (m ++ [some (.rows false e.2 shV xs 0 e.1 50)]))
    | none => False
  | _ => False
theorem nf_clone (z : Bool) (base : Nat) (c : Nat) (tot : Nat) (xs : List (Row shV)) : goal ⟨Mx, Try.prog, Γ_rbetween, Δ_sortStable, B0, none, false, [], none⟩ noL 400 Try.f36 [.v (.one (.rs z 0 0 base (List.length shV) 0 (List.length xs) c))] [some (.rows true z shV xs base tot 50)] (fun r m' => ∃ e : Nat × Bool, (List.length (xs) ≤ e.1 ∧ (e.2 = true → e.1 = 0)) ∧ stLe 1 ⟨[r], m'⟩ ⟨[.v (.one (.rs e.2 0 1 0 12 0 (List.length xs) e.1))], none :: [some (.rows false e.2 shV xs 0 e.1 50)]⟩) = ((z = true → ∃ (e : Nat × Bool), (xs.length ≤ e.fst ∧ (e.snd = true → e.fst = (0 : Nat))) ∧ ((e.snd = true ∧ (0 : Nat) = (0 : Nat) ∧ xs.length = (0 : Nat) ∧ e.fst = (0 : Nat)) ∧ True) ∧ (e.snd = true ∧ xs = []) ∧ True) ∧ (base = base ∧ xs.length = xs.length) ∧ xs.length * (96 : Nat) ≤ (140737488355328 : Nat) ∧ ∀ (c' : Nat), xs.length ≤ c' ∧ (xs.length = (0 : Nat) → c' = (0 : Nat)) → ∃ (e : Nat × Bool), (xs.length ≤ e.fst ∧ (e.snd = true → e.fst = (0 : Nat))) ∧ (((decide (xs.length = (0 : Nat)) = e.snd ∧ (0 : Nat) = (0 : Nat) ∧ (0 : Nat) = (0 : Nat) ∧ xs.length = xs.length ∧ c' = e.fst) ∧ True) ∧ True) ∧ (decide (xs.length = (0 : Nat)) = e.snd ∧ (0 : Nat) = (0 : Nat) ∧ c' = e.fst ∧ List.take xs.length xs = xs) ∧ True) := by kernel_rfl
theorem s_clone : MSound Try.prog 36 c_clone := by
  refine rsoundM (Ctx.ok_of2 (M := Mx) (N := []) mixedA ok_rbetween okD_sortStable okB0) Try.func36 (by kernel_rfl) (by kernel_rfl) (fun us m K h => ?_)
  unfold c_clone at h
  split at h
  · rename_i s
    split at h
    · rename_i q x z base n c tot xs hrd
      obtain ⟨hq, h⟩ := h
      obtain ⟨hp, h⟩ := h
      refine ⟨Nat × Bool, fun e => List.length (xs) ≤ e.1 ∧ (e.2 = true → e.1 = 0), shV, q, x, z, base, n, c, tot, xs, 50, s, [], [], [], [], noL, 400, fun e => .v (.one (.rs e.2 0 1 0 12 0 (List.length xs) e.1)), fun e => [some (.rows false e.2 shV xs 0 e.1 50)], (fun r m' => ∃ e : Nat × Bool, (List.length (xs) ≤ e.1 ∧ (e.2 = true → e.1 = 0)) ∧ stLe 1 ⟨[r], m'⟩ ⟨[.v (.one (.rs e.2 0 1 0 12 0 (List.length xs) e.1))], none :: [some (.rows false e.2 shV xs 0 e.1 50)]⟩), rfl, hrd, hq, ⟨by simp [tmLe, svLe, vLe, lfLe, lfsLe, ifB, nmIs, idR], rfl⟩, ⟨by simp [tmLe, svLe, vLe, lfLe, lfsLe, ifB, nmIs, idR], rfl⟩, fun _ => rfl, fun hn hzl => ?_, fun r m' hr => hr, fun e he => h e he⟩
      subst hn
      refine by_nf (nf_clone z base c tot xs) ?_
      clear h hrd hq
      simp only [eq_self_iff_true, true_and, and_true, Int.toNat_natCast, implies_true, decide_eq_true_eq, decide_eq_false_iff_not, bne_iff_ne, bne_eq_false_iff_eq, ne_eq, Decidable.not_not, inR, klo, khi, Bool.not_eq_true', Bool.not_eq_false', beq_iff_eq, beq_eq_false_iff_ne, List.take_length]
      refine ⟨fun h => ⟨(0, true), ⟨by have := hzl h; dsimp only; omega, fun _ => rfl⟩, ⟨rfl, hzl h, rfl⟩, rfl, List.eq_nil_of_length_eq_zero (hzl h)⟩, by omega, fun c' hc => ⟨(c', decide (xs.length = 0)), ⟨hc.1, fun h => hc.2 (of_decide_eq_true h)⟩, ⟨rfl, rfl⟩, rfl, rfl⟩⟩
    · exact h.elim
  · exact h.elim
noncomputable def Δ_clone : List (FuncId × MC) := (36, c_clone) :: Δ_sortStable
theorem okD_clone : ΔOk Try.prog Δ_clone := ΔOk.cons s_clone okD_sortStable

noncomputable def c_reverse : MC := fun us m K => match us with
  | [s] => match owS shV 50 m s with
    | some (q, x, z, n, c, xs) => q ∧ (xs.length ≤ 64) ∧ (∀ e : Unit, (True) → K ((SV.tup []).ren (back [x] m.length)) (backM [x] [] m [some (.rows false z shV (List.reverse xs) 0 c 50)]))
    | none => False
  | _ => False
theorem nf_reverse (z : Bool) (c : Nat) (xs : List (Row shV)) : goal ⟨Mx, Try.prog, Γ_rbetween, Δ_clone, B0, none, false, [], none⟩ (fun bk => match bk with | 0 => some { S := Nat, st := fun k => ⟨[.v (.one (.rs z 0 0 0 12 0 (List.length xs) c)), .junk, .v (.one (.int .i64 false ((k : Int)))), .v (.one (.int .i64 false ((xs.length : Int) - 1 - (k : Int)))), .junk, .junk, .junk, .junk, .junk, .junk, .junk, .junk, .junk, .junk, .junk, .junk, .junk, .junk, .junk, .junk, .junk, .junk, .junk, .junk, .junk, .junk, .junk, .junk], [some (.rows false z shV (revN xs k) 0 c 50)]⟩, ok := fun k => 2 * k ≤ xs.length, mu := fun k => xs.length - k, init := 0 } | 700003 => some { S := Unit, st := fun s => ⟨[], []⟩, ok := fun s => True, mu := fun s => 0, init := () } | _ => none) 400 Try.f45 [.v (.one (.rs z 0 0 0 (List.length shV) 0 (List.length xs) c))] [some (.rows false z shV xs 0 c 50)] (fun r m' => stLe 1 ⟨[r], m'⟩ ⟨[SV.tup []], [some (.rows false z shV (List.reverse xs) 0 c 50)]⟩) = (inR IntKind.i64 ((↑xs.length : Int) - (1 : Int)) ∧ (((((z = z ∧ (0 : Nat) = (0 : Nat) ∧ (0 : Nat) = (0 : Nat) ∧ xs.length = xs.length ∧ c = c) ∧ True) ∧ (0 : Int) = (↑(0 : Nat) : Int) ∧ (↑xs.length : Int) - (1 : Int) = (↑xs.length : Int) - (1 : Int) - (↑(0 : Nat) : Int) ∧ True) ∧ (z = z ∧ (0 : Nat) = (0 : Nat) ∧ c = c ∧ List.take (revN xs (0 : Nat)).length xs = revN xs (0 : Nat)) ∧ True) ∧ (2 : Nat) * (0 : Nat) ≤ xs.length) ∧ ∀ (s : Nat), (2 : Nat) * s ≤ xs.length → (decide ((↑s : Int) < (↑xs.length : Int) - (1 : Int) - (↑s : Int)) = true → ((0 : Int) ≤ (↑xs.length : Int) - (1 : Int) - (↑s : Int) ∧ (↑xs.length : Int) - (1 : Int) - (↑s : Int) < (↑xs.length : Int)) ∧ ((0 : Int) ≤ (↑s : Int) ∧ (↑s : Int) < (↑xs.length : Int)) ∧ (((↑xs.length : Int) - (1 : Int) - (↑s : Int)).toNat < (revN xs s).length ∧ (↑s : Int).toNat < (revN xs s).length ∧ ((0 : Int) ≤ (↑s : Int) ∧ (↑s : Int) < (↑xs.length : Int)) ∧ (↑s : Int).toNat < (revN xs s).length ∧ ((0 : Int) ≤ (↑xs.length : Int) - (1 : Int) - (↑s : Int) ∧ (↑xs.length : Int) - (1 : Int) - (↑s : Int) < (↑xs.length : Int)) ∧ ((↑xs.length : Int) - (1 : Int) - (↑s : Int)).toNat < ((revN xs s).set (↑s : Int).toNat (getR (revN xs s) ((↑xs.length : Int) - (1 : Int) - (↑s : Int)).toNat)).length ∧ inR IntKind.i64 ((↑s : Int) + (1 : Int)) ∧ inR IntKind.i64 ((↑xs.length : Int) - (1 : Int) - (↑s : Int) - (1 : Int)) ∧ ∃ (s' : Nat), (((((z = z ∧ (0 : Nat) = (0 : Nat) ∧ (0 : Nat) = (0 : Nat) ∧ xs.length = xs.length ∧ c = c) ∧ True) ∧ (↑s : Int) + (1 : Int) = (↑s' : Int) ∧ (↑xs.length : Int) - (1 : Int) - (↑s : Int) - (1 : Int) = (↑xs.length : Int) - (1 : Int) - (↑s' : Int) ∧ True) ∧ (z = z ∧ (0 : Nat) = (0 : Nat) ∧ c = c ∧ List.take (revN xs s').length (((revN xs s).set (↑s : Int).toNat (getR (revN xs s) ((↑xs.length : Int) - (1 : Int) - (↑s : Int)).toNat)).set ((↑xs.length : Int) - (1 : Int) - (↑s : Int)).toNat (getR (revN xs s) (↑s : Int).toNat)) = revN xs s') ∧ True) ∧ (2 : Nat) * s' ≤ xs.length) ∧ xs.length - s' < xs.length - s) ∧ (↑s : Int).toNat < (revN xs s).length ∧ ((↑xs.length : Int) - (1 : Int) - (↑s : Int)).toNat < (revN xs s).length ∧ ((0 : Int) ≤ (↑s : Int) ∧ (↑s : Int) < (↑xs.length : Int)) ∧ (↑s : Int).toNat < (revN xs s).length ∧ ((0 : Int) ≤ (↑xs.length : Int) - (1 : Int) - (↑s : Int) ∧ (↑xs.length : Int) - (1 : Int) - (↑s : Int) < (↑xs.length : Int)) ∧ ((↑xs.length : Int) - (1 : Int) - (↑s : Int)).toNat < ((revN xs s).set (↑s : Int).toNat (getR (revN xs s) ((↑xs.length : Int) - (1 : Int) - (↑s : Int)).toNat)).length ∧ inR IntKind.i64 ((↑s : Int) + (1 : Int)) ∧ inR IntKind.i64 ((↑xs.length : Int) - (1 : Int) - (↑s : Int) - (1 : Int)) ∧ ∃ (s' : Nat), (((((z = z ∧ (0 : Nat) = (0 : Nat) ∧ (0 : Nat) = (0 : Nat) ∧ xs.length = xs.length ∧ c = c) ∧ True) ∧ (↑s : Int) + (1 : Int) = (↑s' : Int) ∧ (↑xs.length : Int) - (1 : Int) - (↑s : Int) - (1 : Int) = (↑xs.length : Int) - (1 : Int) - (↑s' : Int) ∧ True) ∧ (z = z ∧ (0 : Nat) = (0 : Nat) ∧ c = c ∧ List.take (revN xs s').length (((revN xs s).set (↑s : Int).toNat (getR (revN xs s) ((↑xs.length : Int) - (1 : Int) - (↑s : Int)).toNat)).set ((↑xs.length : Int) - (1 : Int) - (↑s : Int)).toNat (getR (revN xs s) (↑s : Int).toNat)) = revN xs s') ∧ True) ∧ (2 : Nat) * s' ≤ xs.length) ∧ xs.length - s' < xs.length - s) ∧ (decide ((↑s : Int) < (↑xs.length : Int) - (1 : Int) - (↑s : Int)) = false → (True ∧ True) ∧ (z = z ∧ (0 : Nat) = (0 : Nat) ∧ c = c ∧ List.take xs.reverse.length (revN xs s) = xs.reverse) ∧ True)) := by kernel_rfl
theorem s_reverse : MSound Try.prog 45 c_reverse := by
  refine wsound (Ctx.ok_of2 (M := Mx) (N := []) mixedA ok_rbetween okD_clone okB0) Try.func45 (by kernel_rfl) (by kernel_rfl) (fun us m K h => ?_)
  unfold c_reverse at h
  split at h
  · rename_i s
    split at h
    · rename_i q x z n c xs hob
      obtain ⟨hq, h⟩ := h
      obtain ⟨hp, h⟩ := h
      refine ⟨Unit, fun e => True, shV, 50, q, x, z, n, c, xs, s, [], [], [], [], (fun bk => match bk with | 0 => some { S := Nat, st := fun k => ⟨[.v (.one (.rs z 0 0 0 12 0 (List.length xs) c)), .junk, .v (.one (.int .i64 false ((k : Int)))), .v (.one (.int .i64 false ((xs.length : Int) - 1 - (k : Int)))), .junk, .junk, .junk, .junk, .junk, .junk, .junk, .junk, .junk, .junk, .junk, .junk, .junk, .junk, .junk, .junk, .junk, .junk, .junk, .junk, .junk, .junk, .junk, .junk], [some (.rows false z shV (revN xs k) 0 c 50)]⟩, ok := fun k => 2 * k ≤ xs.length, mu := fun k => xs.length - k, init := 0 } | 700003 => some { S := Unit, st := fun s => ⟨[], []⟩, ok := fun s => True, mu := fun s => 0, init := () } | _ => none), 400, fun e => SV.tup [], fun e => [some (.rows false z shV (List.reverse xs) 0 c 50)], (fun r m' => stLe 1 ⟨[r], m'⟩ ⟨[SV.tup []], [some (.rows false z shV (List.reverse xs) 0 c 50)]⟩), rfl, hob, hq, ⟨by simp [tmLe, svLe, vLe, lfLe, lfsLe, ifB, nmIs, idR], rfl⟩, ⟨by simp [tmLe, svLe, vLe, lfLe, lfsLe, ifB, nmIs, idR], rfl⟩, fun _ => rfl, fun hn hz hlc hzl => ?_, fun r m' hr => ⟨(), trivial, hr⟩, fun e he => h e he⟩
      subst hn
      refine by_nfG (nf_reverse z c xs) ?_
      clear h hob hq
      simp only [eq_self_iff_true, true_and, and_true, Int.toNat_natCast, implies_true, decide_eq_true_eq, decide_eq_false_iff_not, bne_iff_ne, bne_eq_false_iff_eq, ne_eq, Decidable.not_not, inR, klo, khi, Bool.not_eq_true', Bool.not_eq_false', beq_iff_eq, beq_eq_false_iff_ne, List.take_length]
      refine ⟨by omega, ⟨⟨⟨rfl, by omega⟩, take_self rfl⟩, by omega⟩, fun s hs => ⟨fun h => ?_, fun h => take_self (rev_done hs (by omega))⟩⟩
      have e1 : ((xs.length : Int) - 1 - (s : Int)).toNat = xs.length - 1 - s := by omega
      have l1 := revN_len xs s
      have l2 : ((revN xs s).set s (getR (revN xs s) (xs.length - 1 - s))).length = (revN xs s).length := List.length_set ..
      have fin : ∃ s' : Nat, ((((s : Int) + 1 = (s' : Int) ∧ (xs.length : Int) - 1 - (s : Int) - 1 = (xs.length : Int) - 1 - (s' : Int)) ∧ List.take (revN xs s').length (((revN xs s).set s (getR (revN xs s) (xs.length - 1 - s))).set (xs.length - 1 - s) (getR (revN xs s) s)) = revN xs s') ∧ 2 * s' ≤ xs.length) ∧ xs.length - s' < xs.length - s :=
        ⟨s + 1, ⟨⟨⟨by omega, by omega⟩, take_self rfl⟩, by omega⟩, by omega⟩
      simp only [e1]
      exact ⟨by omega, by omega, ⟨by omega, by omega, by omega, by omega, by omega, by omega, by omega, by omega, fin⟩, by omega, by omega, by omega, by omega, by omega, by omega, by omega, by omega, fin⟩
    · exact h.elim
  · exact h.elim
noncomputable def Δ_reverse : List (FuncId × MC) := (45, c_reverse) :: Δ_clone
theorem okD_reverse : ΔOk Try.prog Δ_reverse := ΔOk.cons s_reverse okD_clone

noncomputable def c_loudest : MC := fun us m K => match us with
  | [s, .v (.one (.int .i64 _ vs)), .v (.one (.int .i64 _ t))] => match rdS shV m s with
    | some (q, x, z, base, n, c, tot, xs) => q ∧ (xs.length ≤ 64) ∧ (∀ e : Nat × Bool, (List.length (ldF xs vs t) ≤ e.1 ∧ (e.2 = true → e.1 = 0)) → K (.v (.one (.rs e.2 0 (m.length + 0) 0 12 0 (List.length (ldF xs vs t)) e.1))) (m ++ [some (.rows false e.2 shV (ldF xs vs t) 0 e.1 50)]))
    | none => False
  | _ => False
theorem nf_loudest (z : Bool) (base : Nat) (c : Nat) (tot : Nat) (xs : List (Row shV)) (vs : Int) (t : Int) : goal ⟨Mx, Try.prog, Γ_rbetween, Δ_reverse, B0, none, false, [32, 59, 43], none⟩ (fun bk => match bk with | 93000000 => some { S := Nat × Nat × Bool, st := fun s => ⟨[.v (.one (.rs s.2.2 0 2 0 12 0 (List.length xs) s.2.1)), .clo 43 [.ptr 1 0], .junk, .junk, .junk, .junk, .junk, .v (.one (.int .i64 false ((xs.length : Int)))), .v (.one (.int .i64 false ((s.1 : Int)))), .junk, .junk, .junk, .junk, .junk, .junk, .junk, .junk, .junk, .junk], [some (.rows true z shV xs base tot 50), some (.cells [.int .i64 false t] 3), some (.rows false s.2.2 shV (xs) 0 s.2.1 50)]⟩, ok := fun s => s.1 ≤ xs.length ∧ keepV xs t s.1 = xs.take s.1 ∧ List.length xs ≤ s.2.1 ∧ (s.2.2 = true → s.2.1 = 0), mu := fun s => xs.length - s.1, init := (0, 0, false), ex := true, tie := some (fun σ s => tieZ 2 σ s.2.2 s.2.1) } | 33500002 => some { S := Int × Nat × Bool, st := fun s => ⟨[.v (.one (.rs s.2.2 0 2 0 12 0 (List.length xs) s.2.1)), .clo 43 [.ptr 1 0], .junk, .junk, .junk, .v (.one (.int .i64 false (s.1))), .junk, .junk, .junk, .junk, .junk, .junk, .junk, .junk, .junk, .junk, .junk, .junk, .junk, .junk, .junk, .junk, .junk, .junk, .junk, .junk, .junk, .junk, .junk, .junk, .junk, .junk, .junk, .junk, .junk, .junk, .junk, .junk, .junk, .junk, .junk, .junk], [some (.rows true z shV xs base tot 50), some (.cells [.int .i64 false t] 3), some (.rows false s.2.2 shV (xs) 0 s.2.1 50)]⟩, ok := fun s => FIx xs t s.1 ∧ List.length xs ≤ s.2.1 ∧ (s.2.2 = true → s.2.1 = 0), mu := fun s => 0, init := (0, 0, false), ex := true, tie := some (fun σ s => tieZ 2 σ s.2.2 s.2.1) } | 33000000 => some { S := Nat × Nat × Bool, st := fun s => ⟨[.v (.one (.rs s.2.2 0 2 0 12 0 (List.length xs) s.2.1)), .clo 43 [.ptr 1 0], .junk, .junk, .junk, .v (.one (.int .i64 false ((List.length (keepV xs t s.1) : Int)))), .v (.one (.int .i64 false ((s.1 : Int)))), .junk, .junk, .junk, .junk, .junk, .junk, .junk, .junk, .junk, .junk, .junk, .junk, .junk, .junk, .junk, .junk, .junk, .junk, .junk, .junk, .junk, .junk, .junk, .junk, .junk, .junk, .junk, .junk, .junk, .junk, .junk, .junk, .junk, .junk, .junk], [some (.rows true z shV xs base tot 50), some (.cells [.int .i64 false t] 3), some (.rows false s.2.2 shV (keepV xs t s.1 ++ List.drop (List.length (keepV xs t s.1)) xs) 0 s.2.1 50)]⟩, ok := fun s => s.1 ≤ xs.length ∧ List.length (keepV xs t s.1) < s.1 ∧ List.length xs ≤ s.2.1 ∧ (s.2.2 = true → s.2.1 = 0), mu := fun s => xs.length - s.1, init := (0, 0, false), ex := true, tie := some (fun σ s => tieZ 2 σ s.2.2 s.2.1) } | 500002 => some { S := Nat × Bool, st := fun s => ⟨[.junk, .v (.one (.int .i64 false (vs))), .junk, .junk, .junk, .v (.one (.ptr 1 0)), .junk, .v (.one (.rs s.2 0 2 0 12 0 (List.length (List.filter (sndB t) xs)) s.1)), .junk, .junk, .junk, .junk, .junk, .junk, .junk, .junk, .junk, .junk, .junk, .junk, .junk, .junk, .junk], [some (.rows true z shV xs base tot 50), some (.cells [.int .i64 false t] 3), some (.rows false s.2 shV (List.filter (sndB t) xs) 0 s.1 50)]⟩, ok := fun s => List.length (List.filter (sndB t) xs) ≤ s.1 ∧ (s.2 = true → s.1 = 0), mu := fun s => 0, init := (0, false), ex := true } | _ => none) 400 Try.f24 [.v (.one (.rs z 0 0 base (List.length shV) 0 (List.length xs) c)), .v (.one (.int .i64 false vs)), .v (.one (.int .i64 false t))] [some (.rows true z shV xs base tot 50)] (fun r m' => ∃ e : Nat × Bool, (List.length (ldF xs vs t) ≤ e.1 ∧ (e.2 = true → e.1 = 0)) ∧ stLe 1 ⟨[r], m'⟩ ⟨[.v (.one (.rs e.2 0 1 0 12 0 (List.length (ldF xs vs t)) e.1))], none :: [some (.rows false e.2 shV (ldF xs vs t) 0 e.1 50)]⟩) = (((xs.length = xs.length ∧ z = z ∧ base = base) ∧ xs.length ≤ (64 : Nat) ∧ ∀ (e : Nat × Bool), xs.length ≤ e.fst ∧ (e.snd = true → e.fst = (0 : Nat)) → ((∃ (s : Nat × Nat × Bool), ((((e.snd = s.snd.snd ∧ (0 : Nat) = (0 : Nat) ∧ (0 : Nat) = (0 : Nat) ∧ xs.length = xs.length ∧ e.fst = s.snd.fst) ∧ True) ∧ True ∧ (↑xs.length : Int) = (↑xs.length : Int) ∧ (0 : Int) = (↑s.fst : Int) ∧ True) ∧ (z = z ∧ base = base ∧ tot = tot ∧ List.take xs.length xs = xs) ∧ t = t ∧ (e.snd = s.snd.snd ∧ (0 : Nat) = (0 : Nat) ∧ e.fst = s.snd.fst ∧ List.take xs.length xs = xs) ∧ True) ∧ (s.fst ≤ xs.length ∧ keepV xs t s.fst = List.take s.fst xs ∧ xs.length ≤ s.snd.fst ∧ (s.snd.snd = true → s.snd.fst = (0 : Nat))) ∧ e.snd = s.snd.snd ∧ e.fst = s.snd.fst) ∧ ∀ (s : Nat × Nat × Bool), (s.fst ≤ xs.length ∧ keepV xs t s.fst = List.take s.fst xs ∧ xs.length ≤ s.snd.fst ∧ (s.snd.snd = true → s.snd.fst = (0 : Nat))) ∧ e.snd = s.snd.snd ∧ e.fst = s.snd.fst → (decide ((↑s.fst : Int) < (↑xs.length : Int)) = true → ((0 : Int) ≤ (↑s.fst : Int) ∧ (↑s.fst : Int) < (↑xs.length : Int)) ∧ (↑s.fst : Int).toNat < xs.length ∧ ((!sndB t (getR xs (↑s.fst : Int).toNat)) = true → ∃ (s_1 : Int × Nat × Bool), ((((e.snd = s_1.snd.snd ∧ (0 : Nat) = (0 : Nat) ∧ (0 : Nat) = (0 : Nat) ∧ xs.length = xs.length ∧ e.fst = s_1.snd.fst) ∧ True) ∧ True ∧ (↑s.fst : Int) = s_1.fst ∧ True) ∧ (z = z ∧ base = base ∧ tot = tot ∧ List.take xs.length xs = xs) ∧ t = t ∧ (s.snd.snd = s_1.snd.snd ∧ (0 : Nat) = (0 : Nat) ∧ s.snd.fst = s_1.snd.fst ∧ List.take xs.length xs = xs) ∧ True) ∧ (FIx xs t s_1.fst ∧ xs.length ≤ s_1.snd.fst ∧ (s_1.snd.snd = true → s_1.snd.fst = (0 : Nat))) ∧ e.snd = s_1.snd.snd ∧ e.fst = s_1.snd.fst) ∧ ((!sndB t (getR xs (↑s.fst : Int).toNat)) = false → inR IntKind.i64 ((↑s.fst : Int) + (1 : Int)) ∧ ∃ (s' : Nat × Nat × Bool), (((((s.snd.snd = s'.snd.snd ∧ (0 : Nat) = (0 : Nat) ∧ (0 : Nat) = (0 : Nat) ∧ xs.length = xs.length ∧ s.snd.fst = s'.snd.fst) ∧ True) ∧ True ∧ (↑xs.length : Int) = (↑xs.length : Int) ∧ (↑s.fst : Int) + (1 : Int) = (↑s'.fst : Int) ∧ True) ∧ (z = z ∧ base = base ∧ tot = tot ∧ List.take xs.length xs = xs) ∧ t = t ∧ (s.snd.snd = s'.snd.snd ∧ (0 : Nat) = (0 : Nat) ∧ s.snd.fst = s'.snd.fst ∧ List.take xs.length xs = xs) ∧ True) ∧ (s'.fst ≤ xs.length ∧ keepV xs t s'.fst = List.take s'.fst xs ∧ xs.length ≤ s'.snd.fst ∧ (s'.snd.snd = true → s'.snd.fst = (0 : Nat))) ∧ e.snd = s'.snd.snd ∧ e.fst = s'.snd.fst) ∧ xs.length - s'.fst < xs.length - s.fst)) ∧ (decide ((↑s.fst : Int) < (↑xs.length : Int)) = false → ∃ (s_1 : Int × Nat × Bool), ((((e.snd = s_1.snd.snd ∧ (0 : Nat) = (0 : Nat) ∧ (0 : Nat) = (0 : Nat) ∧ xs.length = xs.length ∧ e.fst = s_1.snd.fst) ∧ True) ∧ True ∧ (-1 : Int) = s_1.fst ∧ True) ∧ (z = z ∧ base = base ∧ tot = tot ∧ List.take xs.length xs = xs) ∧ t = t ∧ (s.snd.snd = s_1.snd.snd ∧ (0 : Nat) = (0 : Nat) ∧ s.snd.fst = s_1.snd.fst ∧ List.take xs.length xs = xs) ∧ True) ∧ (FIx xs t s_1.fst ∧ xs.length ≤ s_1.snd.fst ∧ (s_1.snd.snd = true → s_1.snd.fst = (0 : Nat))) ∧ e.snd = s_1.snd.snd ∧ e.fst = s_1.snd.fst)) ∧ ∀ (s : Int × Nat × Bool), (FIx xs t s.fst ∧ xs.length ≤ s.snd.fst ∧ (s.snd.snd = true → s.snd.fst = (0 : Nat))) ∧ e.snd = s.snd.snd ∧ e.fst = s.snd.fst → ((s.fst == (-1 : Int)) = true → ∃ (s_1 : Nat × Bool), ((vs = vs ∧ True ∧ ((s.snd.snd = s_1.snd ∧ (0 : Nat) = (0 : Nat) ∧ (0 : Nat) = (0 : Nat) ∧ xs.length = (List.filter (sndB t) xs).length ∧ s.snd.fst = s_1.fst) ∧ True) ∧ True) ∧ (z = z ∧ base = base ∧ tot = tot ∧ List.take xs.length xs = xs) ∧ t = t ∧ (s.snd.snd = s_1.snd ∧ (0 : Nat) = (0 : Nat) ∧ s.snd.fst = s_1.fst ∧ List.take (List.filter (sndB t) xs).length xs = List.filter (sndB t) xs) ∧ True) ∧ (List.filter (sndB t) xs).length ≤ s_1.fst ∧ (s_1.snd = true → s_1.fst = (0 : Nat))) ∧ ((s.fst == (-1 : Int)) = false → inR IntKind.i64 (s.fst + (1 : Int)) ∧ (∃ (s_1 : Nat × Nat × Bool), ((((s.snd.snd = s_1.snd.snd ∧ (0 : Nat) = (0 : Nat) ∧ (0 : Nat) = (0 : Nat) ∧ xs.length = xs.length ∧ s.snd.fst = s_1.snd.fst) ∧ True) ∧ True ∧ s.fst = (↑(keepV xs t s_1.fst).length : Int) ∧ s.fst + (1 : Int) = (↑s_1.fst : Int) ∧ True) ∧ (z = z ∧ base = base ∧ tot = tot ∧ List.take xs.length xs = xs) ∧ t = t ∧ (s.snd.snd = s_1.snd.snd ∧ (0 : Nat) = (0 : Nat) ∧ s.snd.fst = s_1.snd.fst ∧ List.take ((keepV xs t s_1.fst).append (List.drop (keepV xs t s_1.fst).length xs)).length xs = (keepV xs t s_1.fst).append (List.drop (keepV xs t s_1.fst).length xs)) ∧ True) ∧ (s_1.fst ≤ xs.length ∧ (keepV xs t s_1.fst).length < s_1.fst ∧ xs.length ≤ s_1.snd.fst ∧ (s_1.snd.snd = true → s_1.snd.fst = (0 : Nat))) ∧ s.snd.snd = s_1.snd.snd ∧ s.snd.fst = s_1.snd.fst) ∧ ∀ (s_1 : Nat × Nat × Bool), (s_1.fst ≤ xs.length ∧ (keepV xs t s_1.fst).length < s_1.fst ∧ xs.length ≤ s_1.snd.fst ∧ (s_1.snd.snd = true → s_1.snd.fst = (0 : Nat))) ∧ s.snd.snd = s_1.snd.snd ∧ s.snd.fst = s_1.snd.fst → (decide ((↑s_1.fst : Int) < (↑xs.length : Int)) = true → ((0 : Int) ≤ (↑s_1.fst : Int) ∧ (↑s_1.fst : Int) < (↑xs.length : Int)) ∧ (↑s_1.fst : Int).toNat < ((keepV xs t s_1.fst).append (List.drop (keepV xs t s_1.fst).length xs)).length ∧ ((!!sndB t (getR ((keepV xs t s_1.fst).append (List.drop (keepV xs t s_1.fst).length xs)) (↑s_1.fst : Int).toNat)) = true → ((0 : Int) ≤ (↑(keepV xs t s_1.fst).length : Int) ∧ (↑(keepV xs t s_1.fst).length : Int) < (↑xs.length : Int)) ∧ (↑(keepV xs t s_1.fst).length : Int).toNat < ((keepV xs t s_1.fst).append (List.drop (keepV xs t s_1.fst).length xs)).length ∧ inR IntKind.i64 ((↑(keepV xs t s_1.fst).length : Int) + (1 : Int)) ∧ inR IntKind.i64 ((↑s_1.fst : Int) + (1 : Int)) ∧ ∃ (s' : Nat × Nat × Bool), (((((s_1.snd.snd = s'.snd.snd ∧ (0 : Nat) = (0 : Nat) ∧ (0 : Nat) = (0 : Nat) ∧ xs.length = xs.length ∧ s_1.snd.fst = s'.snd.fst) ∧ True) ∧ True ∧ (↑(keepV xs t s_1.fst).length : Int) + (1 : Int) = (↑(keepV xs t s'.fst).length : Int) ∧ (↑s_1.fst : Int) + (1 : Int) = (↑s'.fst : Int) ∧ True) ∧ (z = z ∧ base = base ∧ tot = tot ∧ List.take xs.length xs = xs) ∧ t = t ∧ (s_1.snd.snd = s'.snd.snd ∧ (0 : Nat) = (0 : Nat) ∧ s_1.snd.fst = s'.snd.fst ∧ List.take ((keepV xs t s'.fst).append (List.drop (keepV xs t s'.fst).length xs)).length (((keepV xs t s_1.fst).append (List.drop (keepV xs t s_1.fst).length xs)).set (↑(keepV xs t s_1.fst).length : Int).toNat (getR ((keepV xs t s_1.fst).append (List.drop (keepV xs t s_1.fst).length xs)) (↑s_1.fst : Int).toNat)) = (keepV xs t s'.fst).append (List.drop (keepV xs t s'.fst).length xs)) ∧ True) ∧ (s'.fst ≤ xs.length ∧ (keepV xs t s'.fst).length < s'.fst ∧ xs.length ≤ s'.snd.fst ∧ (s'.snd.snd = true → s'.snd.fst = (0 : Nat))) ∧ s.snd.snd = s'.snd.snd ∧ s.snd.fst = s'.snd.fst) ∧ xs.length - s'.fst < xs.length - s_1.fst) ∧ ((!!sndB t (getR ((keepV xs t s_1.fst).append (List.drop (keepV xs t s_1.fst).length xs)) (↑s_1.fst : Int).toNat)) = false → inR IntKind.i64 ((↑s_1.fst : Int) + (1 : Int)) ∧ ∃ (s' : Nat × Nat × Bool), (((((s_1.snd.snd = s'.snd.snd ∧ (0 : Nat) = (0 : Nat) ∧ (0 : Nat) = (0 : Nat) ∧ xs.length = xs.length ∧ s_1.snd.fst = s'.snd.fst) ∧ True) ∧ True ∧ (↑(keepV xs t s_1.fst).length : Int) = (↑(keepV xs t s'.fst).length : Int) ∧ (↑s_1.fst : Int) + (1 : Int) = (↑s'.fst : Int) ∧ True) ∧ (z = z ∧ base = base ∧ tot = tot ∧ List.take xs.length xs = xs) ∧ t = t ∧ (s_1.snd.snd = s'.snd.snd ∧ (0 : Nat) = (0 : Nat) ∧ s_1.snd.fst = s'.snd.fst ∧ List.take ((keepV xs t s'.fst).append (List.drop (keepV xs t s'.fst).length xs)).length ((keepV xs t s_1.fst).append (List.drop (keepV xs t s_1.fst).length xs)) = (keepV xs t s'.fst).append (List.drop (keepV xs t s'.fst).length xs)) ∧ True) ∧ (s'.fst ≤ xs.length ∧ (keepV xs t s'.fst).length < s'.fst ∧ xs.length ≤ s'.snd.fst ∧ (s'.snd.snd = true → s'.snd.fst = (0 : Nat))) ∧ s.snd.snd = s'.snd.snd ∧ s.snd.fst = s'.snd.fst) ∧ xs.length - s'.fst < xs.length - s_1.fst)) ∧ (decide ((↑s_1.fst : Int) < (↑xs.length : Int)) = false → ((0 : Int) ≤ (↑(keepV xs t s_1.fst).length : Int) ∧ (↑(keepV xs t s_1.fst).length : Int) ≤ (↑xs.length : Int)) ∧ (0 : Nat) + (↑(keepV xs t s_1.fst).length : Int).toNat + (xs.length - (↑(keepV xs t s_1.fst).length : Int).toNat) ≤ ((keepV xs t s_1.fst).append (List.drop (keepV xs t s_1.fst).length xs)).length ∧ ((0 : Int) ≤ (↑(keepV xs t s_1.fst).length : Int) ∧ (↑(keepV xs t s_1.fst).length : Int) ≤ (↑xs.length : Int)) ∧ ∃ (s : Nat × Bool), ((vs = vs ∧ True ∧ ((s_1.snd.snd = s.snd ∧ (0 : Nat) = (0 : Nat) ∧ (0 : Nat) = (0 : Nat) ∧ (↑(keepV xs t s_1.fst).length : Int).toNat = (List.filter (sndB t) xs).length ∧ s_1.snd.fst = s.fst) ∧ (0 : Nat) = (0 : Nat)) ∧ True) ∧ (z = z ∧ base = base ∧ tot = tot ∧ List.take xs.length xs = xs) ∧ t = t ∧ (s_1.snd.snd = s.snd ∧ (0 : Nat) = (0 : Nat) ∧ s_1.snd.fst = s.fst ∧ List.take (List.filter (sndB t) xs).length ((List.take ((0 : Nat) + (↑(keepV xs t s_1.fst).length : Int).toNat) ((keepV xs t s_1.fst).append (List.drop (keepV xs t s_1.fst).length xs))).append ((List.replicate (xs.length - (↑(keepV xs t s_1.fst).length : Int).toNat) (Int.ofNat (0 : Nat), Int.ofNat (0 : Nat), Int.ofNat (0 : Nat), Int.ofNat (0 : Nat), Int.ofNat (0 : Nat), Int.ofNat (0 : Nat), Int.ofNat (0 : Nat), Int.ofNat (0 : Nat), Int.ofNat (0 : Nat), Int.ofNat (0 : Nat), Int.ofNat (0 : Nat), Int.ofNat (0 : Nat), ())).append (List.drop ((0 : Nat) + (↑(keepV xs t s_1.fst).length : Int).toNat + (xs.length - (↑(keepV xs t s_1.fst).length : Int).toNat)) ((keepV xs t s_1.fst).append (List.drop (keepV xs t s_1.fst).length xs))))) = List.filter (sndB t) xs) ∧ True) ∧ (List.filter (sndB t) xs).length ≤ s.fst ∧ (s.snd = true → s.fst = (0 : Nat))))) ∧ ∀ (s : Nat × Bool), (List.filter (sndB t) xs).length ≤ s.fst ∧ (s.snd = true → s.fst = (0 : Nat)) → ((List.filter (sndB t) xs).length = (List.filter (sndB t) xs).length ∧ s.snd = s.snd ∧ s.fst = s.fst ∧ (s.snd = true → s.fst = (0 : Nat))) ∧ (List.filter (sndB t) xs).length ≤ (64 : Nat) ∧ ∀ (e : Unit), True → ((List.filter (sndB t) xs).length = (List.filter (sndB t) xs).reverse.length ∧ s.snd = s.snd ∧ s.fst = s.fst ∧ (s.snd = true → s.fst = (0 : Nat))) ∧ (List.filter (sndB t) xs).reverse.length ≤ (64 : Nat) ∧ ∀ (e : Unit), True → (((0 : Int) ≤ if (if vs < (0 : Int) then (0 : Int) else vs) < (↑(List.filter (sndB t) xs).length : Int) then if vs < (0 : Int) then (0 : Int) else vs else (↑(List.filter (sndB t) xs).length : Int)) ∧ (if (if vs < (0 : Int) then (0 : Int) else vs) < (↑(List.filter (sndB t) xs).length : Int) then if vs < (0 : Int) then (0 : Int) else vs else (↑(List.filter (sndB t) xs).length : Int)) ≤ (↑(List.filter (sndB t) xs).length : Int)) ∧ ∃ (e : Nat × Bool), ((ldF xs vs t).length ≤ e.fst ∧ (e.snd = true → e.fst = (0 : Nat))) ∧ (((s.snd = e.snd ∧ (0 : Nat) = (0 : Nat) ∧ (0 : Nat) = (0 : Nat) ∧ (if (if vs < (0 : Int) then (0 : Int) else vs) < (↑(List.filter (sndB t) xs).length : Int) then if vs < (0 : Int) then (0 : Int) else vs else (↑(List.filter (sndB t) xs).length : Int)).toNat = (ldF xs vs t).length ∧ s.fst = e.fst) ∧ (0 : Nat) = (0 : Nat)) ∧ True) ∧ (s.snd = e.snd ∧ (0 : Nat) = (0 : Nat) ∧ s.fst = e.fst ∧ List.take (ldF xs vs t).length (sortF (List.filter (sndB t) xs).reverse) = ldF xs vs t) ∧ True) := by kernel_rfl
theorem s_loudest : MSound Try.prog 24 c_loudest := by
  refine rsoundM (Ctx.ok_of2 (M := Mx) (N := [32, 59, 43]) mixedA ok_rbetween okD_reverse okB0) Try.func24 (by kernel_rfl) (by kernel_rfl) (fun us m K h => ?_)
  unfold c_loudest at h
  split at h
  · rename_i s j0 vs j1 t
    split at h
    · rename_i q x z base n c tot xs hrd
      obtain ⟨hq, h⟩ := h
      obtain ⟨hp, h⟩ := h
      refine ⟨Nat × Bool, fun e => List.length (ldF xs vs t) ≤ e.1 ∧ (e.2 = true → e.1 = 0), shV, q, x, z, base, n, c, tot, xs, 50, s, [], [], [.v (.one (.int .i64 j0 vs)), .v (.one (.int .i64 j1 t))], [.v (.one (.int .i64 false vs)), .v (.one (.int .i64 false t))], (fun bk => match bk with | 93000000 => some { S := Nat × Nat × Bool, st := fun s => ⟨[.v (.one (.rs s.2.2 0 2 0 12 0 (List.length xs) s.2.1)), .clo 43 [.ptr 1 0], .junk, .junk, .junk, .junk, .junk, .v (.one (.int .i64 false ((xs.length : Int)))), .v (.one (.int .i64 false ((s.1 : Int)))), .junk, .junk, .junk, .junk, .junk, .junk, .junk, .junk, .junk, .junk], [some (.rows true z shV xs base tot 50), some (.cells [.int .i64 false t] 3), some (.rows false s.2.2 shV (xs) 0 s.2.1 50)]⟩, ok := fun s => s.1 ≤ xs.length ∧ keepV xs t s.1 = xs.take s.1 ∧ List.length xs ≤ s.2.1 ∧ (s.2.2 = true → s.2.1 = 0), mu := fun s => xs.length - s.1, init := (0, 0, false), ex := true, tie := some (fun σ s => tieZ 2 σ s.2.2 s.2.1) } | 33500002 => some { S := Int × Nat × Bool, st := fun s => ⟨[.v (.one (.rs s.2.2 0 2 0 12 0 (List.length xs) s.2.1)), .clo 43 [.ptr 1 0], .junk, .junk, .junk, .v (.one (.int .i64 false (s.1))), .junk, .junk, .junk, .junk, .junk, .junk, .junk, .junk, .junk, .junk, .junk, .junk, .junk, .junk, .junk, .junk, .junk, .junk, .junk, .junk, .junk, .junk, .junk, .junk, .junk, .junk, .junk, .junk, .junk, .junk, .junk, .junk, .junk, .junk, .junk, .junk], [some (.rows true z shV xs base tot 50), some (.cells [.int .i64 false t] 3), some (.rows false s.2.2 shV (xs) 0 s.2.1 50)]⟩, ok := fun s => FIx xs t s.1 ∧ List.length xs ≤ s.2.1 ∧ (s.2.2 = true → s.2.1 = 0), mu := fun s => 0, init := (0, 0, false), ex := true, tie := some (fun σ s => tieZ 2 σ s.2.2 s.2.1) } | 33000000 => some { S := Nat × Nat × Bool, st := fun s => ⟨[.v (.one (.rs s.2.2 0 2 0 12 0 (List.length xs) s.2.1)), .clo 43 [.ptr 1 0], .junk, .junk, .junk, .v (.one (.int .i64 false ((List.length (keepV xs t s.1) : Int)))), .v (.one (.int .i64 false ((s.1 : Int)))), .junk, .junk, .junk, .junk, .junk, .junk, .junk, .junk, .junk, .junk, .junk, .junk, .junk, .junk, .junk, .junk, .junk, .junk, .junk, .junk, .junk, .junk, .junk, .junk, .junk, .junk, .junk, .junk, .junk, .junk, .junk, .junk, .junk, .junk, .junk], [some (.rows true z shV xs base tot 50), some (.cells [.int .i64 false t] 3), some (.rows false s.2.2 shV (keepV xs t s.1 ++ List.drop (List.length (keepV xs t s.1)) xs) 0 s.2.1 50)]⟩, ok := fun s => s.1 ≤ xs.length ∧ List.length (keepV xs t s.1) < s.1 ∧ List.length xs ≤ s.2.1 ∧ (s.2.2 = true → s.2.1 = 0), mu := fun s => xs.length - s.1, init := (0, 0, false), ex := true, tie := some (fun σ s => tieZ 2 σ s.2.2 s.2.1) } | 500002 => some { S := Nat × Bool, st := fun s => ⟨[.junk, .v (.one (.int .i64 false (vs))), .junk, .junk, .junk, .v (.one (.ptr 1 0)), .junk, .v (.one (.rs s.2 0 2 0 12 0 (List.length (List.filter (sndB t) xs)) s.1)), .junk, .junk, .junk, .junk, .junk, .junk, .junk, .junk, .junk, .junk, .junk, .junk, .junk, .junk, .junk], [some (.rows true z shV xs base tot 50), some (.cells [.int .i64 false t] 3), some (.rows false s.2 shV (List.filter (sndB t) xs) 0 s.1 50)]⟩, ok := fun s => List.length (List.filter (sndB t) xs) ≤ s.1 ∧ (s.2 = true → s.1 = 0), mu := fun s => 0, init := (0, false), ex := true } | _ => none), 400, fun e => .v (.one (.rs e.2 0 1 0 12 0 (List.length (ldF xs vs t)) e.1)), fun e => [some (.rows false e.2 shV (ldF xs vs t) 0 e.1 50)], (fun r m' => ∃ e : Nat × Bool, (List.length (ldF xs vs t) ≤ e.1 ∧ (e.2 = true → e.1 = 0)) ∧ stLe 1 ⟨[r], m'⟩ ⟨[.v (.one (.rs e.2 0 1 0 12 0 (List.length (ldF xs vs t)) e.1))], none :: [some (.rows false e.2 shV (ldF xs vs t) 0 e.1 50)]⟩), rfl, hrd, hq, ⟨by simp [tmLe, svLe, vLe, lfLe, lfsLe, ifB, nmIs, idR], rfl⟩, ⟨by simp [tmLe, svLe, vLe, lfLe, lfsLe, ifB, nmIs, idR], rfl⟩, fun _ => rfl, fun hn hzl => ?_, fun r m' hr => hr, fun e he => h e he⟩
      subst hn
      refine by_nf (nf_loudest z base c tot xs vs t) ?_
      clear h hrd hq
      simp only [eq_self_iff_true, true_and, and_true, Int.toNat_natCast, implies_true, decide_eq_true_eq, decide_eq_false_iff_not, bne_iff_ne, bne_eq_false_iff_eq, ne_eq, Decidable.not_not, inR, klo, khi, Bool.not_eq_true', Bool.not_eq_false', beq_iff_eq, beq_eq_false_iff_ne, List.take_length, List.append_eq]
      have tl : ∀ L : List RV, List.take L.length L = L := fun L => List.take_length
      refine ⟨⟨hp, fun e he => ⟨⟨⟨(0, e.1, e.2), ⟨⟨⟨rfl, rfl⟩, rfl⟩, rfl, rfl⟩, ⟨Nat.zero_le _, by rw [keepV_zero]; rfl, he⟩, rfl, rfl⟩, ?_⟩, ?_⟩⟩, ?_⟩
      · rintro ⟨i, c2, z2⟩ ⟨⟨i1, i2, i3, i4⟩, t1, t2⟩
        dsimp only at *
        refine ⟨fun hi => ⟨by omega, by omega, fun hs => ⟨((i : Int), c2, z2), ⟨⟨⟨t1, t2⟩, rfl⟩, rfl, rfl⟩, ⟨.inr ⟨i, rfl, by omega, i2, hs⟩, i3, i4⟩, t1, t2⟩, fun hs => ⟨by omega, (i + 1, c2, z2), ⟨⟨⟨⟨rfl, rfl⟩, by dsimp only; omega⟩, rfl, rfl⟩, ⟨by dsimp only; omega, ?_, i3, i4⟩, t1, t2⟩, by dsimp only; omega⟩⟩, fun hi => ⟨(-1, c2, z2), ⟨⟨⟨t1, t2⟩, rfl⟩, rfl, rfl⟩, ⟨.inl ⟨rfl, ?_⟩, i3, i4⟩, t1, t2⟩⟩
        · show keepV xs t (i + 1) = List.take (i + 1) xs
          rw [keepV_succ xs t (by omega), if_pos hs, i2, List.take_add_one, gR_some (show i < xs.length by omega)]; rfl
        · obtain rfl : i = xs.length := by omega
          rw [← keepV_all, i2, List.take_length]
      · rintro ⟨i, c2, z2⟩ ⟨⟨fx, i3, i4⟩, t1, t2⟩
        dsimp only at *
        refine ⟨fun h => ?_, fun h => ?_⟩
        · rcases fx with ⟨_, hf⟩ | ⟨n, hn, _⟩
          · rw [hf]; exact ⟨(c2, z2), ⟨⟨rfl, rfl, rfl⟩, rfl, rfl, tl _⟩, i3, i4⟩
          · omega
        · rcases fx with ⟨h', _⟩ | ⟨n, rfl, hn, hk, hs⟩
          · exact absurd h' h
          · have e1 : keepV xs t (n + 1) = xs.take n := by rw [keepV_succ xs t hn, if_neg (by rw [hs]; simp), List.append_nil, hk]
            have e2 : (xs.take n).length = n := by rw [List.length_take]; omega
            refine ⟨by omega, ⟨(n + 1, c2, z2), ⟨⟨⟨rfl, rfl⟩, by dsimp only; rw [e1, e2], rfl⟩, rfl, rfl, take_self ?_⟩, ⟨by dsimp only; omega, by dsimp only; rw [e1, e2]; omega, i3, i4⟩, rfl, rfl⟩, ?_⟩
            · dsimp only; rw [e1, e2]; exact (List.take_append_drop n xs).symm
            rintro ⟨j, c3, z3⟩ ⟨⟨j1, j2, j3, j4⟩, t3, t4⟩
            dsimp only at *
            subst t3 t4
            have hml := mix_len (keepV xs t j) xs (by omega)
            refine ⟨fun hj => ?_, fun hj => ?_⟩
            · have hset := mix_set (keepV xs t j) xs (getR xs j) (by omega)
              simp only [mix_get _ _ (Nat.le_of_lt j2)]
              refine ⟨by omega, by omega, fun hk => ⟨by omega, by omega, by omega, by omega, (j + 1, c2, z2), ?_⟩, fun hk => ⟨by omega, (j + 1, c2, z2), ?_⟩⟩
              · have e3 : keepV xs t (j + 1) = keepV xs t j ++ [getR xs j] := by rw [keepV_succ xs t (by omega), if_pos hk]
                have e4 : (keepV xs t (j + 1)).length = (keepV xs t j).length + 1 := by rw [e3, List.length_append]; rfl
                dsimp only
                refine ⟨⟨⟨⟨⟨rfl, rfl⟩, by omega, by omega⟩, rfl, rfl, take_self ?_⟩, ⟨by omega, by omega, j3, j4⟩, rfl, rfl⟩, by omega⟩
                rw [hset, ← e3]
              · have e3 : keepV xs t (j + 1) = keepV xs t j := by rw [keepV_succ xs t (by omega), if_neg (by rw [hk]; simp), List.append_nil]
                dsimp only
                rw [e3]
                exact ⟨⟨⟨⟨⟨rfl, rfl⟩, rfl, by omega⟩, rfl, rfl, tl _⟩, ⟨by omega, by omega, j3, j4⟩, rfl, rfl⟩, by omega⟩
            · obtain rfl : j = xs.length := by omega
              rw [keepV_all] at *
              refine ⟨by omega, by omega, by omega, (c2, z2), ⟨⟨rfl, rfl, rfl⟩, rfl, rfl, ?_⟩, by dsimp only; omega, j4⟩
              rw [Nat.zero_add, List.take_left' rfl]
              exact List.take_left' rfl
      · rintro ⟨c2, z2⟩ ⟨h1, h2⟩
        dsimp only at *
        have fl := List.length_filter_le (sndB t) xs
        have rl : (List.filter (sndB t) xs).reverse.length = (List.filter (sndB t) xs).length := List.length_reverse ..
        have ll := ldF_len xs vs t
        have sl := sortF_len (List.filter (sndB t) xs).reverse
        refine ⟨h2, by omega, fun _ _ => ⟨⟨by omega, h2⟩, by omega, fun _ _ => ⟨by constructor <;> (repeat' split) <;> omega, (c2, z2), ⟨by dsimp only; omega, h2⟩, ⟨rfl, ?_, rfl⟩, rfl, rfl, ?_⟩⟩⟩
        · rw [ll]; (repeat' split) <;> omega
        · have e : ldF xs vs t = List.take (ldF xs vs t).length (sortF (List.filter (sndB t) xs).reverse) := by
            conv => lhs; unfold ldF
            rw [ll]
            by_cases c : (max vs 0).toNat ≤ (List.filter (sndB t) xs).length
            · rw [Nat.min_eq_left c]
            · rw [Nat.min_eq_right (by omega), List.take_of_length_le (by omega), List.take_of_length_le (by omega)]
          exact e.symm
    · exact h.elim
  · exact h.elim
noncomputable def Δ_loudest : List (FuncId × MC) := (24, c_loudest) :: Δ_reverse
theorem okD_loudest : ΔOk Try.prog Δ_loudest := ΔOk.cons s_loudest okD_reverse

noncomputable def c_mAt : MC := fun us m K => match us with
  | [s, .v (.one (.int .i64 _ vs)), .v (.one (.int .i64 _ t))] => match rdS shV m s with
    | some (q, x, z, base, n, c, tot, xs) => q ∧ (xs.length ≤ 64) ∧ (∀ e : Unit, (True) → K (.v (.agg [.int .i64 false (wi (sumL (ldF xs vs t) t (ldF xs vs t).length) (-32768) 32767), .int .i64 false (wi (sumR (ldF xs vs t) t (ldF xs vs t).length) (-32768) 32767)])) (m ++ []))
    | none => False
  | _ => False
theorem nf_mAt (z : Bool) (base : Nat) (c : Nat) (tot : Nat) (xs : List (Row shV)) (vs : Int) (t : Int) : goal ⟨Mx, Try.prog, Γ_rbetween, Δ_loudest, B0, none, false, [], none⟩ (fun bk => match bk with | 0 => some { S := Nat × Nat × Bool, st := fun s => ⟨[.v (.one (.rs z 0 0 base 12 0 (List.length xs) c)), .v (.one (.int .i64 false (vs))), .v (.one (.int .i64 false (t))), .junk, .junk, .junk, .v (.one (.ptr 1 0)), .v (.one (.ptr 2 0)), .junk, .junk, .junk, .junk, .junk, .junk, .junk, .v (.one (.rs s.2.2 0 3 0 12 0 (List.length (ldF xs vs t)) s.2.1)), .v (.one (.int .i64 false ((List.length (ldF xs vs t) : Int)))), .v (.one (.int .i64 false ((s.1 : Int)))), .junk, .junk, .junk, .junk, .junk, .junk, .junk, .junk, .junk, .junk, .junk, .junk, .junk, .junk, .junk, .junk, .junk, .junk, .junk, .junk, .junk, .junk, .junk, .junk, .junk, .junk, .junk], [some (.rows true z shV xs base tot 50), some (.cells [.int .i64 true 0, .int .i64 true 0] 24), some (.cells [.int .i64 false (sumL (ldF xs vs t) t s.1), .int .i64 false (sumR (ldF xs vs t) t s.1)] 24), some (.rows false s.2.2 shV (ldF xs vs t) 0 s.2.1 50)]⟩, ok := fun s => s.1 ≤ List.length (ldF xs vs t), mu := fun s => List.length (ldF xs vs t) - s.1, init := (0, 0, false), ex := true } | _ => none) 400 Try.f9 [.v (.one (.rs z 0 0 base (List.length shV) 0 (List.length xs) c)), .v (.one (.int .i64 false vs)), .v (.one (.int .i64 false t))] [some (.rows true z shV xs base tot 50)] (fun r m' => stLe 1 ⟨[r], m'⟩ ⟨[.v (.agg [.int .i64 false (wi (sumL (ldF xs vs t) t (ldF xs vs t).length) (-32768) 32767), .int .i64 false (wi (sumR (ldF xs vs t) t (ldF xs vs t).length) (-32768) 32767)])], none :: []⟩) = ((xs.length = xs.length ∧ z = z ∧ base = base) ∧ xs.length ≤ (64 : Nat) ∧ ∀ (e : Nat × Bool), (ldF xs vs t).length ≤ e.fst ∧ (e.snd = true → e.fst = (0 : Nat)) → (∃ (s : Nat × Nat × Bool), ((((z = z ∧ base = base ∧ (0 : Nat) = (0 : Nat) ∧ xs.length = xs.length ∧ c = c) ∧ True) ∧ vs = vs ∧ t = t ∧ True ∧ True ∧ ((e.snd = s.snd.snd ∧ (0 : Nat) = (0 : Nat) ∧ (0 : Nat) = (0 : Nat) ∧ (ldF xs vs t).length = (ldF xs vs t).length ∧ e.fst = s.snd.fst) ∧ True) ∧ (↑(ldF xs vs t).length : Int) = (↑(ldF xs vs t).length : Int) ∧ (0 : Int) = (↑s.fst : Int) ∧ True) ∧ (z = z ∧ base = base ∧ tot = tot ∧ List.take xs.length xs = xs) ∧ ((0 : Int) = (0 : Int) ∧ (0 : Int) = (0 : Int)) ∧ ((0 : Int) = sumL (ldF xs vs t) t s.fst ∧ (0 : Int) = sumR (ldF xs vs t) t s.fst) ∧ (e.snd = s.snd.snd ∧ (0 : Nat) = (0 : Nat) ∧ e.fst = s.snd.fst ∧ List.take (ldF xs vs t).length (ldF xs vs t) = ldF xs vs t) ∧ True) ∧ s.fst ≤ (ldF xs vs t).length) ∧ ∀ (s : Nat × Nat × Bool), s.fst ≤ (ldF xs vs t).length → (decide ((↑s.fst : Int) < (↑(ldF xs vs t).length : Int)) = true → ((0 : Int) ≤ (↑s.fst : Int) ∧ (↑s.fst : Int) < (↑(ldF xs vs t).length : Int)) ∧ (↑s.fst : Int).toNat < (ldF xs vs t).length ∧ inR IntKind.i64 (sumL (ldF xs vs t) t s.fst + gvL t (getR (ldF xs vs t) (↑s.fst : Int).toNat)) ∧ inR IntKind.i64 (sumR (ldF xs vs t) t s.fst + gvR t (getR (ldF xs vs t) (↑s.fst : Int).toNat)) ∧ inR IntKind.i64 ((↑s.fst : Int) + (1 : Int)) ∧ ∃ (s' : Nat × Nat × Bool), (((((z = z ∧ base = base ∧ (0 : Nat) = (0 : Nat) ∧ xs.length = xs.length ∧ c = c) ∧ True) ∧ vs = vs ∧ t = t ∧ True ∧ True ∧ ((s.snd.snd = s'.snd.snd ∧ (0 : Nat) = (0 : Nat) ∧ (0 : Nat) = (0 : Nat) ∧ (ldF xs vs t).length = (ldF xs vs t).length ∧ s.snd.fst = s'.snd.fst) ∧ True) ∧ (↑(ldF xs vs t).length : Int) = (↑(ldF xs vs t).length : Int) ∧ (↑s.fst : Int) + (1 : Int) = (↑s'.fst : Int) ∧ True) ∧ (z = z ∧ base = base ∧ tot = tot ∧ List.take xs.length xs = xs) ∧ ((0 : Int) = (0 : Int) ∧ (0 : Int) = (0 : Int)) ∧ (sumL (ldF xs vs t) t s.fst + gvL t (getR (ldF xs vs t) (↑s.fst : Int).toNat) = sumL (ldF xs vs t) t s'.fst ∧ sumR (ldF xs vs t) t s.fst + gvR t (getR (ldF xs vs t) (↑s.fst : Int).toNat) = sumR (ldF xs vs t) t s'.fst) ∧ (s.snd.snd = s'.snd.snd ∧ (0 : Nat) = (0 : Nat) ∧ s.snd.fst = s'.snd.fst ∧ List.take (ldF xs vs t).length (ldF xs vs t) = ldF xs vs t) ∧ True) ∧ s'.fst ≤ (ldF xs vs t).length) ∧ (ldF xs vs t).length - s'.fst < (ldF xs vs t).length - s.fst) ∧ (decide ((↑s.fst : Int) < (↑(ldF xs vs t).length : Int)) = false → ((wi (sumL (ldF xs vs t) t s.fst) (-32768 : Int) (32767 : Int) = wi (sumL (ldF xs vs t) t (ldF xs vs t).length) (-32768 : Int) (32767 : Int) ∧ wi (sumR (ldF xs vs t) t s.fst) (-32768 : Int) (32767 : Int) = wi (sumR (ldF xs vs t) t (ldF xs vs t).length) (-32768 : Int) (32767 : Int)) ∧ True) ∧ True)) := by kernel_rfl
theorem s_mAt : MSound Try.prog 9 c_mAt := by
  refine rsoundM (Ctx.ok_of2 (M := Mx) (N := []) mixedA ok_rbetween okD_loudest okB0) Try.func9 (by kernel_rfl) (by kernel_rfl) (fun us m K h => ?_)
  unfold c_mAt at h
  split at h
  · rename_i s j0 vs j1 t
    split at h
    · rename_i q x z base n c tot xs hrd
      obtain ⟨hq, h⟩ := h
      obtain ⟨hp, h⟩ := h
      refine ⟨Unit, fun _ => True, shV, q, x, z, base, n, c, tot, xs, 50, s, [], [], [.v (.one (.int .i64 j0 vs)), .v (.one (.int .i64 j1 t))], [.v (.one (.int .i64 false vs)), .v (.one (.int .i64 false t))], (fun bk => match bk with | 0 => some { S := Nat × Nat × Bool, st := fun s => ⟨[.v (.one (.rs z 0 0 base 12 0 (List.length xs) c)), .v (.one (.int .i64 false (vs))), .v (.one (.int .i64 false (t))), .junk, .junk, .junk, .v (.one (.ptr 1 0)), .v (.one (.ptr 2 0)), .junk, .junk, .junk, .junk, .junk, .junk, .junk, .v (.one (.rs s.2.2 0 3 0 12 0 (List.length (ldF xs vs t)) s.2.1)), .v (.one (.int .i64 false ((List.length (ldF xs vs t) : Int)))), .v (.one (.int .i64 false ((s.1 : Int)))), .junk, .junk, .junk, .junk, .junk, .junk, .junk, .junk, .junk, .junk, .junk, .junk, .junk, .junk, .junk, .junk, .junk, .junk, .junk, .junk, .junk, .junk, .junk, .junk, .junk, .junk, .junk], [some (.rows true z shV xs base tot 50), some (.cells [.int .i64 true 0, .int .i64 true 0] 24), some (.cells [.int .i64 false (sumL (ldF xs vs t) t s.1), .int .i64 false (sumR (ldF xs vs t) t s.1)] 24), some (.rows false s.2.2 shV (ldF xs vs t) 0 s.2.1 50)]⟩, ok := fun s => s.1 ≤ List.length (ldF xs vs t), mu := fun s => List.length (ldF xs vs t) - s.1, init := (0, 0, false), ex := true } | _ => none), 400, fun _ => .v (.agg [.int .i64 false (wi (sumL (ldF xs vs t) t (ldF xs vs t).length) (-32768) 32767), .int .i64 false (wi (sumR (ldF xs vs t) t (ldF xs vs t).length) (-32768) 32767)]), fun _ => [], (fun r m' => stLe 1 ⟨[r], m'⟩ ⟨[.v (.agg [.int .i64 false (wi (sumL (ldF xs vs t) t (ldF xs vs t).length) (-32768) 32767), .int .i64 false (wi (sumR (ldF xs vs t) t (ldF xs vs t).length) (-32768) 32767)])], none :: []⟩), rfl, hrd, hq, ⟨by simp [tmLe, svLe, vLe, lfLe, lfsLe, ifB, nmIs, idR], rfl⟩, ⟨by simp [tmLe, svLe, vLe, lfLe, lfsLe, ifB, nmIs, idR], rfl⟩, fun _ => rfl, fun hn hzl => ?_, fun r m' hr => ⟨(), trivial, hr⟩, fun e he => h e he⟩
      subst hn
      refine by_nf (nf_mAt z base c tot xs vs t) ?_
      clear h hrd hq
      simp only [eq_self_iff_true, true_and, and_true, Int.toNat_natCast, implies_true, decide_eq_true_eq, decide_eq_false_iff_not, bne_iff_ne, bne_eq_false_iff_eq, ne_eq, Decidable.not_not, inR, klo, khi, Bool.not_eq_true', Bool.not_eq_false', beq_iff_eq, beq_eq_false_iff_ne, List.take_length, List.append_eq]
      refine ⟨hp, fun e he => ⟨⟨(0, e.1, e.2), ⟨⟨⟨rfl, rfl⟩, rfl⟩, ⟨rfl, rfl⟩, rfl, rfl⟩, Nat.zero_le _⟩, ?_⟩⟩
      rintro ⟨s, c2, z2⟩ hs
      dsimp only at *
      have ll := ldF_le xs vs t
      refine ⟨fun h => ?_, fun h => ?_⟩
      · have b1 := sum_bd (ldF xs vs t) t (s + 1)
        have e1 : sumL (ldF xs vs t) t (s + 1) = sumL (ldF xs vs t) t s + gvL t (getR (ldF xs vs t) s) := rfl
        have e2 : sumR (ldF xs vs t) t (s + 1) = sumR (ldF xs vs t) t s + gvR t (getR (ldF xs vs t) s) := rfl
        rw [← e1, ← e2]
        exact ⟨by omega, by omega, by omega, by omega, by omega, (s + 1, c2, z2), ⟨⟨⟨⟨rfl, rfl⟩, by dsimp only; omega⟩, ⟨rfl, rfl⟩, rfl, rfl⟩, by dsimp only; omega⟩, by dsimp only; omega⟩
      · obtain rfl : s = (ldF xs vs t).length := by omega
        exact ⟨rfl, rfl⟩
    · exact h.elim
  · exact h.elim
noncomputable def Δ_mAt : List (FuncId × MC) := (9, c_mAt) :: Δ_loudest
theorem okD_mAt : ΔOk Try.prog Δ_mAt := ΔOk.cons s_mAt okD_loudest

end Go.Proofs.Ytljnddhldjaglaa
