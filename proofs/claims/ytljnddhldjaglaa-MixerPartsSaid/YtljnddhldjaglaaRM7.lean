/- THE MIXER, BY THE DOCUMENT: WHICH VOICES GIVE, AND A SAMPLE OF THEM. Conditions: the contracts' own. Own work; the normal forms were printed by a program of mine (wip/rex). -/
import Derived.Test.YtljnddhldjaglaaRM6
namespace Go.Proofs.Ytljnddhldjaglaa
open Go.RowKit Rex
set_option linter.unusedVariables false
set_option linter.unusedSimpArgs false
set_option maxRecDepth 100000


@[reducible] def shB : List Kd := [.bool]
/-- those that are not taken, and give -/
def remL (xs : List RV) (tk : List (Row shB)) (t : Int) : List RV := ((xs.zip tk).filter (fun q => !q.2.1 && sndB t q.1)).map (·.1)
def av (xs : List RV) (tk : List (Row shB)) (t : Int) (j : Nat) : Bool := !(getR tk j).1 && sndB t (getR xs j)
def GvI (xs out : List RV) (tk : List (Row shB)) (vs t : Int) : Prop := tk.length = xs.length ∧ out ++ sortF (remL xs tk t).reverse = sortF (xs.filter (sndB t)).reverse ∧ (out.length : Int) ≤ max vs 0
def BstI (xs : List RV) (tk : List (Row shB)) (t b : Int) (i : Nat) : Prop := (b = -1 ∧ ∀ j, j < i → av xs tk t j = false) ∨
  (∃ n : Nat, b = (n : Int) ∧ n < i ∧ av xs tk t n = true ∧ (∀ j, j < i → av xs tk t j = true → ltV (getR xs j) (getR xs n) = false) ∧ ∀ j, n < j → j < i → av xs tk t j = true → ltV (getR xs n) (getR xs j) = true)
theorem bst_zero {xs : List RV} {tk : List (Row shB)} {t : Int} : BstI xs tk t (-1) 0 := .inl ⟨rfl, fun j hj => absurd hj (Nat.not_lt_zero _)⟩
theorem bst_skip {xs : List RV} {tk : List (Row shB)} {t b : Int} {i : Nat} (h : BstI xs tk t b i) (ha : av xs tk t i = false) : BstI xs tk t b (i + 1) := by
  have out : ∀ j, j < i + 1 → av xs tk t j = true → j < i := fun j hj hv => by
    by_cases e : j = i
    · subst e; rw [ha] at hv; cases hv
    · omega
  rcases h with ⟨h1, h2⟩ | ⟨n, h1, h2, h3, h4, h5⟩
  · refine .inl ⟨h1, fun j hj => ?_⟩
    by_cases e : j = i
    · rw [e]; exact ha
    · exact h2 j (by omega)
  · exact .inr ⟨n, h1, by omega, h3, fun j hj hv => h4 j (out j hj hv) hv, fun j hn hj hv => h5 j hn (out j hj hv) hv⟩
theorem bst_take {xs : List RV} {tk : List (Row shB)} {t b : Int} {i : Nat} (h : BstI xs tk t b i) (ha : av xs tk t i = true) (hb : b < 0 ∨ ltV (getR xs b.toNat) (getR xs i) = false) : BstI xs tk t (i : Int) (i + 1) := by
  refine .inr ⟨i, rfl, by omega, ha, fun j hj hv => ?_, fun j h1 h2 => by omega⟩
  by_cases e : j = i
  · rw [e]; exact ltV_irrefl _
  · rcases h with ⟨h1, h2⟩ | ⟨n, h1, h2, h3, h4, h5⟩
    · rw [h2 j (by omega)] at hv; cases hv
    · rcases hb with hb | hb
      · omega
      · have := h4 j (by omega) hv
        rw [h1, Int.toNat_natCast] at hb
        exact leV_trans hb this
theorem bst_keep {xs : List RV} {tk : List (Row shB)} {t : Int} {n i : Nat} (h : BstI xs tk t (n : Int) i) (hb : ltV (getR xs n) (getR xs i) = true) : BstI xs tk t (n : Int) (i + 1) := by
  rcases h with ⟨h1, h2⟩ | ⟨m, h1, h2, h3, h4, h5⟩
  · omega
  · obtain rfl : n = m := by omega
    refine .inr ⟨n, rfl, by omega, h3, fun j hj hv => ?_, fun j hn hj hv => ?_⟩
    · by_cases e : j = i
      · rw [e]; exact ltV_asymm hb
      · exact h4 j (by omega) hv
    · by_cases e : j = i
      · rw [e]; exact hb
      · exact h5 j hn (by omega) hv
theorem cutB {α : Type} (xs : List α) {n : Nat} (h : n < xs.length) : xs = xs.take n ++ xs[n] :: xs.drop (n + 1) := by
  rw [← List.drop_eq_getElem_cons h, List.take_append_drop]
theorem rem_split {xs : List RV} {tk : List (Row shB)} {t : Int} {n : Nat} (hl : tk.length = xs.length) (hn : n < xs.length) (q : Row shB) :
    remL xs (tk.set n q) t = remL (xs.take n) (tk.take n) t ++ ((if (!q.1 && sndB t (getR xs n)) = true then [getR xs n] else []) ++ remL (xs.drop (n + 1)) (tk.drop (n + 1)) t) := by
  have e1 : xs.zip (tk.set n q) = (xs.take n).zip (tk.take n) ++ (getR xs n, q) :: (xs.drop (n + 1)).zip (tk.drop (n + 1)) := by
    have e2 : tk.set n q = tk.take n ++ q :: tk.drop (n + 1) := by
      rw [List.set_eq_take_append_cons_drop, if_pos (by omega)]
    rw [e2]
    conv => lhs; rw [cutB xs hn]
    rw [List.zip_append (by rw [List.length_take, List.length_take]; omega), List.zip_cons_cons, gR_lt hn]
  unfold remL
  rw [e1, List.filter_append, List.map_append]
  congr 1
  by_cases c : (!q.1 && sndB t (getR xs n)) = true
  · rw [List.filter_cons_of_pos (by simpa using c), if_pos c]; rfl
  · rw [List.filter_cons_of_neg (by simpa using c), if_neg c]; rfl
theorem set_self {sh : List Kd} {tk : List (Row sh)} {n : Nat} (h : n < tk.length) : tk.set n (getR tk n) = tk := by
  refine gR_ext (by rw [List.length_set]) fun i hi => ?_
  rw [gR_set _ h]
  split
  · rename_i e; rw [e]
  · rfl
theorem rem_mem {xs : List RV} {tk : List (Row shB)} {t : Int} (hl : tk.length = xs.length) {p : RV} (h : p ∈ remL xs tk t) : ∃ j, j < xs.length ∧ av xs tk t j = true ∧ p = getR xs j := by
  unfold remL at h
  rw [List.mem_map] at h
  obtain ⟨q, hq, rfl⟩ := h
  rw [List.mem_filter] at hq
  obtain ⟨hq, hf⟩ := hq
  obtain ⟨j, hj, rfl⟩ := List.mem_iff_getElem.1 hq
  rw [List.length_zip] at hj
  rw [List.getElem_zip] at hf ⊢
  refine ⟨j, by omega, ?_, ?_⟩
  · unfold av
    rw [gR_lt (show j < tk.length by omega), gR_lt (show j < xs.length by omega)]
    exact hf
  · rw [gR_lt (show j < xs.length by omega)]
theorem sort_mem {l : List RV} {p : RV} (h : p ∈ sortF l) : p ∈ l := by
  have h1 : p ∈ cls (kV p) (sortF l) := by unfold cls; rw [List.mem_filter]; exact ⟨h, by simp⟩
  rw [(sortF_alike l).2] at h1
  exact (List.mem_filter.1 h1).1
theorem sort_first {A B : List RV} {x : RV} (hA : ∀ a ∈ A, ltV a x = false) (hB : ∀ b ∈ B, ltV x b = true) : sortF (A ++ x :: B).reverse = x :: sortF (A ++ B).reverse := by
  refine (sortF_eq ⟨?_, fun k => ?_⟩ ?_).symm
  · rw [List.length_cons, sortF_len]; simp; omega
  · rw [cls_cons_congr ((sortF_alike (A ++ B).reverse).2 k)]
    rw [List.reverse_append, List.reverse_append, List.reverse_cons, List.append_assoc, List.singleton_append]
    by_cases e : kV x = k
    · have hz : cls k B.reverse = [] := cls_nil fun p hp => by
        have := ltV_key (hB p (by simpa using hp))
        rw [e] at this
        exact fun h => this h.symm
      rw [cls_app, hz, List.nil_append]
      unfold cls at *
      rw [List.filter_cons_of_pos (by simp [e]), List.filter_cons_of_pos (by simp [e]), List.filter_append, hz, List.nil_append]
    · rw [cls_app]
      unfold cls
      rw [List.filter_cons_of_neg (by simp [e]), List.filter_cons_of_neg (by simp [e]), List.filter_append]
  · refine sor_cons.2 ⟨fun p hp => ?_, sortF_sor _⟩
    have hp := sort_mem hp
    rw [List.mem_reverse, List.mem_append] at hp
    rcases hp with hp | hp
    · exact hA p hp
    · exact ltV_asymm (hB p hp)
theorem rem_none {xs : List RV} {tk : List (Row shB)} {t : Int} (hl : tk.length = xs.length) (h : ∀ j, j < xs.length → av xs tk t j = false) : remL xs tk t = [] := by
  cases e : remL xs tk t with
  | nil => rfl
  | cons p l =>
    obtain ⟨j, h1, h2, _⟩ := rem_mem hl (p := p) (by rw [e]; exact List.mem_cons_self ..)
    rw [h j h1] at h2; cases h2
theorem gv_step {xs out : List RV} {tk : List (Row shB)} {vs t : Int} {n : Nat} (h : GvI xs out tk vs t) (hb : BstI xs tk t (n : Int) xs.length) (hv : (out.length : Int) < vs) : GvI xs (out ++ [getR xs n]) (tk.set n (true, ())) vs t := by
  obtain ⟨h1, h2, h3⟩ := h
  rcases hb with ⟨h', _⟩ | ⟨m, e, k2, k3, k4, k5⟩
  · omega
  · obtain rfl : n = m := by omega
    refine ⟨by rw [List.length_set]; exact h1, ?_, by rw [List.length_append]; simp only [List.length_cons, List.length_nil]; omega⟩
    have s1 := rem_split (t := t) h1 k2 (getR tk n)
    rw [set_self (by omega), if_pos (show (!(getR tk n).1 && sndB t (getR xs n)) = true from k3)] at s1
    have s2 := rem_split (t := t) h1 k2 (true, ())
    rw [if_neg (by simp)] at s2
    rw [List.nil_append] at s2
    rw [s2, List.append_assoc, ← h2, s1, List.singleton_append, List.singleton_append, sort_first]
    · intro a ha
      obtain ⟨j, j1, j2, rfl⟩ := rem_mem (by rw [List.length_take, List.length_take]; omega) ha
      rw [List.length_take] at j1
      rw [gR_take xs (by omega)]
      refine k4 j (by omega) ?_
      unfold av at j2 ⊢
      rw [gR_take xs (by omega), gR_take tk (by omega)] at j2
      exact j2
    · intro b hb
      obtain ⟨j, j1, j2, rfl⟩ := rem_mem (by rw [List.length_drop, List.length_drop]; omega) hb
      rw [List.length_drop] at j1
      rw [gR_drop]
      refine k5 _ (by omega) (by omega) ?_
      unfold av at j2 ⊢
      rw [gR_drop, gR_drop] at j2
      exact j2
theorem gv_len {xs out : List RV} {tk : List (Row shB)} {vs t : Int} (h : GvI xs out tk vs t) : out.length ≤ xs.length := by
  have h2 := congrArg List.length h.2.1
  rw [List.length_append, sortF_len, sortF_len, List.length_reverse, List.length_reverse] at h2
  have := List.length_filter_le (sndB t) xs
  omega
theorem gv_full {xs out : List RV} {tk : List (Row shB)} {vs t : Int} (h : GvI xs out tk vs t) (hv : ¬ (out.length : Int) < vs) : out = ldF xs vs t := by
  obtain ⟨h1, h2, h3⟩ := h
  unfold ldF
  rw [← h2, show (max vs 0).toNat = out.length by omega]
  exact (List.take_left' rfl).symm
theorem gv_none {xs out : List RV} {tk : List (Row shB)} {vs t : Int} (h : GvI xs out tk vs t) (hb : BstI xs tk t (-1) xs.length) : out = ldF xs vs t := by
  obtain ⟨h1, h2, h3⟩ := h
  rcases hb with ⟨_, hb⟩ | ⟨n, hn, _⟩
  · rw [rem_none h1 hb] at h2
    unfold ldF
    rw [← h2]
    rw [List.take_of_length_le]
    · exact (List.append_nil _).symm
    · rw [List.length_append]
      show out.length + 0 ≤ _
      omega
  · omega
theorem gv_zero (xs : List RV) (vs t : Int) : GvI xs [] (List.replicate xs.length (false, ())) vs t := by
  refine ⟨by simp, ?_, by simp; omega⟩
  rw [List.nil_append]
  congr 2
  unfold remL
  induction xs with
  | nil => rfl
  | cons x xs ih =>
    rw [List.length_cons, List.replicate_succ, List.zip_cons_cons, List.filter_cons, List.filter_cons]
    simp only [Bool.not_false, Bool.true_and]
    split
    · rw [List.map_cons, ih]
    · exact ih


noncomputable def c_renv : FC := fun us => match us with
  | [.v (.agg [.int .i64 _ fr, .int .i64 _ em, .int .i64 _ ki, .int .i64 _ od, .int .i64 _ at_, .int .i64 _ gn, .int .i64 _ pn, .int .i64 _ pr, .int .i64 _ ln, .int .i64 _ bo, .int .i64 _ lt, .int .i64 _ cu]), .v (.one (.int .i64 _ t))] => some (none, .v (.one (.int .i64 false (envF at_ gn pn ln bo lt cu t))))
  | _ => none
theorem nf_renv (fr : Int) (em : Int) (ki : Int) (od : Int) (at_ : Int) (gn : Int) (pn : Int) (pr : Int) (ln : Int) (bo : Int) (lt : Int) (cu : Int) (t : Int) : goal ⟨Mx, Try.prog, Γ_rbetween, Δ_mAt, B0, none, false, [], none⟩ noL 400 Try.f55 [.v (.agg [.int .i64 false fr, .int .i64 false em, .int .i64 false ki, .int .i64 false od, .int .i64 false at_, .int .i64 false gn, .int .i64 false pn, .int .i64 false pr, .int .i64 false ln, .int .i64 false bo, .int .i64 false lt, .int .i64 false cu]), .v (.one (.int .i64 false t))] [] (fun r _ => svLe idR r (.v (.one (.int .i64 false (envF at_ gn pn ln bo lt cu t))))) = (((!atB at_ gn pn ln bo lt cu t) = true → (0 : Int) = envF at_ gn pn ln bo lt cu t) ∧ ((!atB at_ gn pn ln bo lt cu t) = false → (decide (cu < (0 : Int)) = false → (decide (t < cu) = true → (32768 : Int) = envF at_ gn pn ln bo lt cu t) ∧ (decide (t < cu) = false → inR IntKind.i64 (t - cu) ∧ (decide ((64 : Int) ≤ t - cu) = true → (0 : Int) = envF at_ gn pn ln bo lt cu t) ∧ (decide ((64 : Int) ≤ t - cu) = false → inR IntKind.i64 (t - cu) ∧ inR IntKind.i64 ((64 : Int) - (t - cu)) ∧ inR IntKind.i64 ((32768 : Int) * ((64 : Int) - (t - cu))) ∧ inR IntKind.i64 (((32768 : Int) * ((64 : Int) - (t - cu))).tdiv (64 : Int)) ∧ ((32768 : Int) * ((64 : Int) - (t - cu))).tdiv (64 : Int) = envF at_ gn pn ln bo lt cu t))) ∧ (decide (cu < (0 : Int)) = true → (32768 : Int) = envF at_ gn pn ln bo lt cu t))) := by kernel_rfl
theorem s_renv : FSound Try.prog 55 c_renv := by
  refine fsound_of (Ctx.ok_of2 (M := Mx) (N := []) mixedA ok_rbetween okD_mAt okB0) Try.func55 (by kernel_rfl) (by kernel_rfl) ?_
  intro us p v h hp
  unfold c_renv at h
  split at h
  · rename_i k0 fr k1 em k2 ki k3 od k4 at_ k5 gn k6 pn k7 pr k8 ln k9 bo k10 lt k11 cu k12 t
    cases h
    refine ⟨rfl, noL, 400, [.v (.agg [.int .i64 false fr, .int .i64 false em, .int .i64 false ki, .int .i64 false od, .int .i64 false at_, .int .i64 false gn, .int .i64 false pn, .int .i64 false pr, .int .i64 false ln, .int .i64 false bo, .int .i64 false lt, .int .i64 false cu]), .v (.one (.int .i64 false t))], by simp [tmLe, svLe, vLe, lfLe, lfsLe, ifB, nmIs, idR], rfl, ?_⟩
    rw [nf_renv]
    clear hp
    unfold envF
    cases h : atB at_ gn pn ln bo lt cu t
    · simp
    · obtain ⟨h1, h2⟩ := at_facts.1 h
      obtain ⟨f1, f2, f3, f4, f5, f6, f7⟩ := right_facts.1 h1
      simp only [eq_self_iff_true, true_and, and_true, Int.toNat_natCast, implies_true, decide_eq_true_eq, decide_eq_false_iff_not, bne_iff_ne, bne_eq_false_iff_eq, ne_eq, Decidable.not_not, inR, klo, khi, Bool.not_eq_true', Bool.not_eq_false', beq_iff_eq, beq_eq_false_iff_ne, if_true, Bool.true_eq_false, Bool.false_eq_true, false_implies, true_implies, and_true]
      refine ⟨fun hc => ⟨fun ht => ?_, fun ht => ⟨by omega, fun h64 => ?_, fun h64 => ⟨by omega, by omega, by omega, ?_⟩⟩⟩, fun hc => ?_⟩
      · rw [if_pos (.inr ht)]
      · rw [if_neg (by omega)]; omega
      · rw [Int.tdiv_eq_ediv_of_nonneg (by omega), if_neg (by omega), show max (64 - (t - cu)) 0 = 64 - (t - cu) by omega]
        exact ⟨by omega, rfl⟩
      · rw [if_pos (.inl (by omega))]
  · cases h
noncomputable def Γ_renv : List (FuncId × FX) := (55, c_renv) :: Γ_rbetween
theorem ok_renv : ΓOk Try.prog Γ_renv := ΓOk.cons (c := .pure c_renv) s_renv ok_rbetween

noncomputable def c_rgives : FC := fun us => match us with
  | [.v (.agg [.int .i64 _ fr, .int .i64 _ em, .int .i64 _ ki, .int .i64 _ od, .int .i64 _ at_, .int .i64 _ gn, .int .i64 _ pn, .int .i64 _ pr, .int .i64 _ ln, .int .i64 _ bo, .int .i64 _ lt, .int .i64 _ cu]), .v (.one (.int .i64 _ t))] => some (none, .tup [.one (.int .i64 false (giveL at_ gn pn ln bo lt cu t)), .one (.int .i64 false (giveR at_ gn pn ln bo lt cu t))])
  | _ => none
theorem nf_rgives (fr : Int) (em : Int) (ki : Int) (od : Int) (at_ : Int) (gn : Int) (pn : Int) (pr : Int) (ln : Int) (bo : Int) (lt : Int) (cu : Int) (t : Int) : goal ⟨Mx, Try.prog, Γ_renv, Δ_mAt, B0, none, false, [], none⟩ noL 400 Try.f27 [.v (.agg [.int .i64 false fr, .int .i64 false em, .int .i64 false ki, .int .i64 false od, .int .i64 false at_, .int .i64 false gn, .int .i64 false pn, .int .i64 false pr, .int .i64 false ln, .int .i64 false bo, .int .i64 false lt, .int .i64 false cu]), .v (.one (.int .i64 false t))] [] (fun r _ => svLe idR r (.tup [.one (.int .i64 false (giveL at_ gn pn ln bo lt cu t)), .one (.int .i64 false (giveR at_ gn pn ln bo lt cu t))])) = (((!soundsB at_ gn pn ln bo lt cu t) = true → (0 : Int) = giveL at_ gn pn ln bo lt cu t ∧ (0 : Int) = giveR at_ gn pn ln bo lt cu t) ∧ ((!soundsB at_ gn pn ln bo lt cu t) = false → inR IntKind.i64 (t - bo) ∧ inR IntKind.i64 (t - bo + lt) ∧ (decide ((0 : Int) < ln) = true → (decide ((0 : Int) < pn) = true → inR IntKind.i64 ((32768 : Int) - pn) ∧ scF (scF (scF (aroundF at_ (t - bo + lt)) gn) (envF at_ gn pn ln bo lt cu t)) ((32768 : Int) - pn) = giveL at_ gn pn ln bo lt cu t ∧ scF (scF (scF (aroundF at_ (t - bo + lt)) gn) (envF at_ gn pn ln bo lt cu t)) (32768 : Int) = giveR at_ gn pn ln bo lt cu t) ∧ (decide ((0 : Int) < pn) = false → inR IntKind.i64 ((32768 : Int) + pn) ∧ scF (scF (scF (aroundF at_ (t - bo + lt)) gn) (envF at_ gn pn ln bo lt cu t)) (32768 : Int) = giveL at_ gn pn ln bo lt cu t ∧ scF (scF (scF (aroundF at_ (t - bo + lt)) gn) (envF at_ gn pn ln bo lt cu t)) ((32768 : Int) + pn) = giveR at_ gn pn ln bo lt cu t)) ∧ (decide ((0 : Int) < ln) = false → (decide ((0 : Int) < pn) = true → inR IntKind.i64 ((32768 : Int) - pn) ∧ scF (scF (scF (sampleF at_ (t - bo + lt)) gn) (envF at_ gn pn ln bo lt cu t)) ((32768 : Int) - pn) = giveL at_ gn pn ln bo lt cu t ∧ scF (scF (scF (sampleF at_ (t - bo + lt)) gn) (envF at_ gn pn ln bo lt cu t)) (32768 : Int) = giveR at_ gn pn ln bo lt cu t) ∧ (decide ((0 : Int) < pn) = false → inR IntKind.i64 ((32768 : Int) + pn) ∧ scF (scF (scF (sampleF at_ (t - bo + lt)) gn) (envF at_ gn pn ln bo lt cu t)) (32768 : Int) = giveL at_ gn pn ln bo lt cu t ∧ scF (scF (scF (sampleF at_ (t - bo + lt)) gn) (envF at_ gn pn ln bo lt cu t)) ((32768 : Int) + pn) = giveR at_ gn pn ln bo lt cu t)))) := by kernel_rfl
theorem s_rgives : FSound Try.prog 27 c_rgives := by
  refine fsound_of (Ctx.ok_of2 (M := Mx) (N := []) mixedA ok_renv okD_mAt okB0) Try.func27 (by kernel_rfl) (by kernel_rfl) ?_
  intro us p v h hp
  unfold c_rgives at h
  split at h
  · rename_i k0 fr k1 em k2 ki k3 od k4 at_ k5 gn k6 pn k7 pr k8 ln k9 bo k10 lt k11 cu k12 t
    cases h
    refine ⟨rfl, noL, 400, [.v (.agg [.int .i64 false fr, .int .i64 false em, .int .i64 false ki, .int .i64 false od, .int .i64 false at_, .int .i64 false gn, .int .i64 false pn, .int .i64 false pr, .int .i64 false ln, .int .i64 false bo, .int .i64 false lt, .int .i64 false cu]), .v (.one (.int .i64 false t))], by simp [tmLe, svLe, vLe, lfLe, lfsLe, ifB, nmIs, idR], rfl, ?_⟩
    rw [nf_rgives]
    clear hp
    unfold giveL giveR
    cases h : soundsB at_ gn pn ln bo lt cu t
    · simp
    · have h0 : atB at_ gn pn ln bo lt cu t = true := by unfold soundsB at h; rw [Bool.and_eq_true] at h; exact h.1
      obtain ⟨h1, h2⟩ := at_facts.1 h0
      obtain ⟨f1, f2, f3, f4, f5, f6, f7⟩ := right_facts.1 h1
      simp only [eq_self_iff_true, true_and, and_true, Int.toNat_natCast, implies_true, decide_eq_true_eq, decide_eq_false_iff_not, bne_iff_ne, bne_eq_false_iff_eq, ne_eq, Decidable.not_not, inR, klo, khi, Bool.not_eq_true', Bool.not_eq_false', beq_iff_eq, beq_eq_false_iff_ne, if_true, Bool.true_eq_false, Bool.false_eq_true, Bool.not_true, Bool.not_false, false_implies, true_implies, and_true]
      unfold vwaveF
      refine ⟨by omega, by omega, fun hl => ⟨fun hn => ?_, fun hn => ?_⟩, fun hl => ⟨fun hn => ?_, fun hn => ?_⟩⟩
      · rw [if_pos hl, show max pn 0 = pn by omega, show min pn 0 = 0 by omega]
        exact ⟨by omega, rfl, rfl⟩
      · rw [if_pos hl, show max pn 0 = 0 by omega, show min pn 0 = pn by omega]
        exact ⟨by omega, rfl, rfl⟩
      · rw [if_neg hl, show max pn 0 = pn by omega, show min pn 0 = 0 by omega]
        exact ⟨by omega, rfl, rfl⟩
      · rw [if_neg hl, show max pn 0 = 0 by omega, show min pn 0 = pn by omega]
        exact ⟨by omega, rfl, rfl⟩
  · cases h
noncomputable def Γ_rgives : List (FuncId × FX) := (27, c_rgives) :: Γ_renv
theorem ok_rgives : ΓOk Try.prog Γ_rgives := ΓOk.cons (c := .pure c_rgives) s_rgives ok_renv

noncomputable def c_rGives : MC := fun us m K => match us with
  | [s, .v (.one (.int .i64 _ vs)), .v (.one (.int .i64 _ t))] => match rdS shV m s with
    | some (q, x, z, base, n, c, tot, xs) => q ∧ (xs.length ≤ 64) ∧ (∀ e : Nat × Bool, (List.length (ldF xs vs t) ≤ e.1 ∧ (e.2 = true → e.1 = 0)) → K (.v (.one (.rs e.2 0 (m.length + 0) 0 12 0 (List.length (ldF xs vs t)) e.1))) (m ++ [some (.rows false e.2 shV (ldF xs vs t) 0 e.1 50)]))
    | none => False
  | _ => False
theorem nf_rGives (z : Bool) (base : Nat) (c : Nat) (tot : Nat) (xs : List (Row shV)) (vs : Int) (t : Int) : goal ⟨Mx, Try.prog, Γ_rgives, Δ_mAt, B0, none, false, [], none⟩ (fun bk => match bk with | 0 => some { S := List RV × List (Row shB) × Nat, st := fun s => ⟨[.v (.one (.rs z 0 0 base 12 0 (List.length xs) c)), .v (.one (.int .i64 false (vs))), .v (.one (.int .i64 false (t))), .junk, .junk, .junk, .junk, .v (.one (.rs (decide (List.length s.1 = 0)) 0 2 0 12 0 (List.length s.1) s.2.2)), .v (.one (.rs false 0 1 0 1 0 (List.length xs) (List.length xs))), .junk, .junk, .junk, .junk, .junk, .junk, .junk, .junk, .junk, .junk, .junk, .junk, .junk, .junk, .junk, .junk, .junk, .junk, .junk, .junk, .junk, .junk, .junk, .junk, .junk, .junk, .junk, .junk, .junk, .junk, .junk, .junk, .junk, .junk, .junk, .junk, .junk, .junk, .junk, .junk, .junk, .junk, .junk, .junk, .junk, .junk, .junk, .junk, .junk, .junk, .junk, .junk, .junk, .junk, .junk, .junk, .junk, .junk], [some (.rows true z shV xs base tot 50), some (.rows false false shB s.2.1 0 (List.length xs) 4), some (.rows false (decide (List.length s.1 = 0)) shV s.1 0 s.2.2 50)]⟩, ok := fun s => GvI xs s.1 s.2.1 vs t ∧ List.length s.1 ≤ s.2.2 ∧ (List.length s.1 = 0 → s.2.2 = 0), mu := fun s => vs.toNat - List.length s.1, init := ([], [], 0), ex := true } | 2 => some { S := List RV × List (Row shB) × Nat × Int × Nat, st := fun s => ⟨[.v (.one (.rs z 0 0 base 12 0 (List.length xs) c)), .v (.one (.int .i64 false (vs))), .v (.one (.int .i64 false (t))), .junk, .junk, .junk, .junk, .v (.one (.rs (decide (List.length s.1 = 0)) 0 2 0 12 0 (List.length s.1) s.2.2.1)), .v (.one (.rs false 0 1 0 1 0 (List.length xs) (List.length xs))), .v (.one (.int .i64 false (s.2.2.2.1))), .v (.one (.int .i64 false ((s.2.2.2.2 : Int)))), .junk, .junk, .junk, .junk, .junk, .junk, .junk, .junk, .junk, .junk, .junk, .junk, .junk, .junk, .junk, .junk, .junk, .junk, .junk, .junk, .junk, .junk, .junk, .junk, .junk, .junk, .junk, .junk, .junk, .junk, .junk, .junk, .junk, .junk, .junk, .junk, .junk, .junk, .junk, .junk, .junk, .junk, .junk, .junk, .junk, .junk, .junk, .junk, .junk, .junk, .junk, .junk, .junk, .junk, .junk, .junk], [some (.rows true z shV xs base tot 50), some (.rows false false shB s.2.1 0 (List.length xs) 4), some (.rows false (decide (List.length s.1 = 0)) shV s.1 0 s.2.2.1 50)]⟩, ok := fun s => GvI xs s.1 s.2.1 vs t ∧ List.length s.1 ≤ s.2.2.1 ∧ (List.length s.1 = 0 → s.2.2.1 = 0) ∧ (List.length s.1 : Int) < vs ∧ s.2.2.2.2 ≤ xs.length ∧ BstI xs s.2.1 t s.2.2.2.1 s.2.2.2.2, mu := fun s => xs.length - s.2.2.2.2, init := ([], [], 0, 0, 0), ex := true, tie := some (fun σ s => match (σ.tm[7]? : Option SV) with | some (.v (.one (.rs _ _ _ _ _ _ n _))) => n = List.length s.1 | _ => False) } | _ => none) 400 Try.f23 [.v (.one (.rs z 0 0 base (List.length shV) 0 (List.length xs) c)), .v (.one (.int .i64 false vs)), .v (.one (.int .i64 false t))] [some (.rows true z shV xs base tot 50)] (fun r m' => ∃ e : Nat × Bool, (List.length (ldF xs vs t) ≤ e.1 ∧ (e.2 = true → e.1 = 0)) ∧ stLe 1 ⟨[r], m'⟩ ⟨[.v (.one (.rs e.2 0 1 0 12 0 (List.length (ldF xs vs t)) e.1))], none :: [some (.rows false e.2 shV (ldF xs vs t) 0 e.1 50)]⟩) = (((0 : Int) ≤ (↑xs.length : Int) ∧ (↑xs.length : Int) ≤ (↑xs.length : Int) ∧ (↑(1 : Nat) : Int) * (↑xs.length : Int) ≤ (140737488355328 : Int) ∧ (↑xs.length : Int) ≤ (140737488355328 : Int)) ∧ (∃ (s : List RV × List (Row shB) × Nat), ((((z = z ∧ base = base ∧ (0 : Nat) = (0 : Nat) ∧ xs.length = xs.length ∧ c = c) ∧ True) ∧ vs = vs ∧ t = t ∧ (((0 : Nat) = (0 : Nat) ∧ (0 : Nat) = (0 : Nat)) ∧ decide (s.fst.length = (0 : Nat)) = true ∧ (0 : Nat) = (0 : Nat) ∧ s.fst.length = (0 : Nat) ∧ s.snd.snd = (0 : Nat)) ∧ ((false = false ∧ (0 : Nat) = (0 : Nat) ∧ (0 : Nat) = (0 : Nat) ∧ (↑xs.length : Int).toNat = xs.length ∧ (↑xs.length : Int).toNat = xs.length) ∧ True) ∧ True) ∧ (z = z ∧ base = base ∧ tot = tot ∧ List.take xs.length xs = xs) ∧ (false = false ∧ (0 : Nat) = (0 : Nat) ∧ (↑xs.length : Int).toNat = xs.length ∧ List.take s.snd.fst.length (List.replicate (↑xs.length : Int).toNat (false, ())) = s.snd.fst) ∧ (decide (s.fst.length = (0 : Nat)) = true ∧ s.fst = []) ∧ True) ∧ GvI xs s.fst s.snd.fst vs t ∧ s.fst.length ≤ s.snd.snd ∧ (s.fst.length = (0 : Nat) → s.snd.snd = (0 : Nat))) ∧ ∀ (s : List RV × List (Row shB) × Nat), GvI xs s.fst s.snd.fst vs t ∧ s.fst.length ≤ s.snd.snd ∧ (s.fst.length = (0 : Nat) → s.snd.snd = (0 : Nat)) → (decide ((↑s.fst.length : Int) < vs) = true → (∃ (s_1 : List RV × List (Row shB) × Nat × Int × Nat), ((((z = z ∧ base = base ∧ (0 : Nat) = (0 : Nat) ∧ xs.length = xs.length ∧ c = c) ∧ True) ∧ vs = vs ∧ t = t ∧ ((decide (s.fst.length = (0 : Nat)) = decide (s_1.fst.length = (0 : Nat)) ∧ (0 : Nat) = (0 : Nat) ∧ (0 : Nat) = (0 : Nat) ∧ s.fst.length = s_1.fst.length ∧ s.snd.snd = s_1.snd.snd.fst) ∧ True) ∧ ((false = false ∧ (0 : Nat) = (0 : Nat) ∧ (0 : Nat) = (0 : Nat) ∧ xs.length = xs.length ∧ xs.length = xs.length) ∧ True) ∧ (-1 : Int) = s_1.snd.snd.snd.fst ∧ (0 : Int) = (↑s_1.snd.snd.snd.snd : Int) ∧ True) ∧ (z = z ∧ base = base ∧ tot = tot ∧ List.take xs.length xs = xs) ∧ (false = false ∧ (0 : Nat) = (0 : Nat) ∧ xs.length = xs.length ∧ List.take s_1.snd.fst.length s.snd.fst = s_1.snd.fst) ∧ (decide (s.fst.length = (0 : Nat)) = decide (s_1.fst.length = (0 : Nat)) ∧ (0 : Nat) = (0 : Nat) ∧ s.snd.snd = s_1.snd.snd.fst ∧ List.take s_1.fst.length s.fst = s_1.fst) ∧ True) ∧ (GvI xs s_1.fst s_1.snd.fst vs t ∧ s_1.fst.length ≤ s_1.snd.snd.fst ∧ (s_1.fst.length = (0 : Nat) → s_1.snd.snd.fst = (0 : Nat)) ∧ (↑s_1.fst.length : Int) < vs ∧ s_1.snd.snd.snd.snd ≤ xs.length ∧ BstI xs s_1.snd.fst t s_1.snd.snd.snd.fst s_1.snd.snd.snd.snd) ∧ s.fst.length = s_1.fst.length) ∧ ∀ (s_1 : List RV × List (Row shB) × Nat × Int × Nat), (GvI xs s_1.fst s_1.snd.fst vs t ∧ s_1.fst.length ≤ s_1.snd.snd.fst ∧ (s_1.fst.length = (0 : Nat) → s_1.snd.snd.fst = (0 : Nat)) ∧ (↑s_1.fst.length : Int) < vs ∧ s_1.snd.snd.snd.snd ≤ xs.length ∧ BstI xs s_1.snd.fst t s_1.snd.snd.snd.fst s_1.snd.snd.snd.snd) ∧ s.fst.length = s_1.fst.length → (decide ((↑s_1.snd.snd.snd.snd : Int) < (↑xs.length : Int)) = true → ((0 : Int) ≤ (↑s_1.snd.snd.snd.snd : Int) ∧ (↑s_1.snd.snd.snd.snd : Int) < (↑xs.length : Int)) ∧ (↑s_1.snd.snd.snd.snd : Int).toNat < s_1.snd.fst.length ∧ ((getR s_1.snd.fst (↑s_1.snd.snd.snd.snd : Int).toNat).fst = false → ((0 : Int) ≤ (↑s_1.snd.snd.snd.snd : Int) ∧ (↑s_1.snd.snd.snd.snd : Int) < (↑xs.length : Int)) ∧ (base = base ∧ (↑s_1.snd.snd.snd.snd : Int).toNat < xs.length) ∧ ((!sndB t (getR xs (↑s_1.snd.snd.snd.snd : Int).toNat)) = true → inR IntKind.i64 ((↑s_1.snd.snd.snd.snd : Int) + (1 : Int)) ∧ ∃ (s' : List RV × List (Row shB) × Nat × Int × Nat), (((((z = z ∧ base = base ∧ (0 : Nat) = (0 : Nat) ∧ xs.length = xs.length ∧ c = c) ∧ True) ∧ vs = vs ∧ t = t ∧ ((decide (s_1.fst.length = (0 : Nat)) = decide (s'.fst.length = (0 : Nat)) ∧ (0 : Nat) = (0 : Nat) ∧ (0 : Nat) = (0 : Nat) ∧ s_1.fst.length = s'.fst.length ∧ s_1.snd.snd.fst = s'.snd.snd.fst) ∧ True) ∧ ((false = false ∧ (0 : Nat) = (0 : Nat) ∧ (0 : Nat) = (0 : Nat) ∧ xs.length = xs.length ∧ xs.length = xs.length) ∧ True) ∧ s_1.snd.snd.snd.fst = s'.snd.snd.snd.fst ∧ (↑s_1.snd.snd.snd.snd : Int) + (1 : Int) = (↑s'.snd.snd.snd.snd : Int) ∧ True) ∧ (z = z ∧ base = base ∧ tot = tot ∧ List.take xs.length xs = xs) ∧ (false = false ∧ (0 : Nat) = (0 : Nat) ∧ xs.length = xs.length ∧ List.take s'.snd.fst.length s_1.snd.fst = s'.snd.fst) ∧ (decide (s_1.fst.length = (0 : Nat)) = decide (s'.fst.length = (0 : Nat)) ∧ (0 : Nat) = (0 : Nat) ∧ s_1.snd.snd.fst = s'.snd.snd.fst ∧ List.take s'.fst.length s_1.fst = s'.fst) ∧ True) ∧ (GvI xs s'.fst s'.snd.fst vs t ∧ s'.fst.length ≤ s'.snd.snd.fst ∧ (s'.fst.length = (0 : Nat) → s'.snd.snd.fst = (0 : Nat)) ∧ (↑s'.fst.length : Int) < vs ∧ s'.snd.snd.snd.snd ≤ xs.length ∧ BstI xs s'.snd.fst t s'.snd.snd.snd.fst s'.snd.snd.snd.snd) ∧ s.fst.length = s'.fst.length) ∧ xs.length - s'.snd.snd.snd.snd < xs.length - s_1.snd.snd.snd.snd) ∧ ((!sndB t (getR xs (↑s_1.snd.snd.snd.snd : Int).toNat)) = false → (decide (s_1.snd.snd.snd.fst < (0 : Int)) = true → decide (s_1.snd.snd.snd.fst < (0 : Int)) = true ∧ inR IntKind.i64 ((↑s_1.snd.snd.snd.snd : Int) + (1 : Int)) ∧ ∃ (s' : List RV × List (Row shB) × Nat × Int × Nat), (((((z = z ∧ base = base ∧ (0 : Nat) = (0 : Nat) ∧ xs.length = xs.length ∧ c = c) ∧ True) ∧ vs = vs ∧ t = t ∧ ((decide (s_1.fst.length = (0 : Nat)) = decide (s'.fst.length = (0 : Nat)) ∧ (0 : Nat) = (0 : Nat) ∧ (0 : Nat) = (0 : Nat) ∧ s_1.fst.length = s'.fst.length ∧ s_1.snd.snd.fst = s'.snd.snd.fst) ∧ True) ∧ ((false = false ∧ (0 : Nat) = (0 : Nat) ∧ (0 : Nat) = (0 : Nat) ∧ xs.length = xs.length ∧ xs.length = xs.length) ∧ True) ∧ (↑s_1.snd.snd.snd.snd : Int) = s'.snd.snd.snd.fst ∧ (↑s_1.snd.snd.snd.snd : Int) + (1 : Int) = (↑s'.snd.snd.snd.snd : Int) ∧ True) ∧ (z = z ∧ base = base ∧ tot = tot ∧ List.take xs.length xs = xs) ∧ (false = false ∧ (0 : Nat) = (0 : Nat) ∧ xs.length = xs.length ∧ List.take s'.snd.fst.length s_1.snd.fst = s'.snd.fst) ∧ (decide (s_1.fst.length = (0 : Nat)) = decide (s'.fst.length = (0 : Nat)) ∧ (0 : Nat) = (0 : Nat) ∧ s_1.snd.snd.fst = s'.snd.snd.fst ∧ List.take s'.fst.length s_1.fst = s'.fst) ∧ True) ∧ (GvI xs s'.fst s'.snd.fst vs t ∧ s'.fst.length ≤ s'.snd.snd.fst ∧ (s'.fst.length = (0 : Nat) → s'.snd.snd.fst = (0 : Nat)) ∧ (↑s'.fst.length : Int) < vs ∧ s'.snd.snd.snd.snd ≤ xs.length ∧ BstI xs s'.snd.fst t s'.snd.snd.snd.fst s'.snd.snd.snd.snd) ∧ s.fst.length = s'.fst.length) ∧ xs.length - s'.snd.snd.snd.snd < xs.length - s_1.snd.snd.snd.snd) ∧ (decide (s_1.snd.snd.snd.fst < (0 : Int)) = false → decide (s_1.snd.snd.snd.fst < (0 : Int)) = false ∧ ((0 : Int) ≤ s_1.snd.snd.snd.fst ∧ s_1.snd.snd.snd.fst < (↑xs.length : Int)) ∧ (base = base ∧ s_1.snd.snd.snd.fst.toNat < xs.length) ∧ ((0 : Int) ≤ (↑s_1.snd.snd.snd.snd : Int) ∧ (↑s_1.snd.snd.snd.snd : Int) < (↑xs.length : Int)) ∧ (base = base ∧ (↑s_1.snd.snd.snd.snd : Int).toNat < xs.length) ∧ ((!ltV (getR xs s_1.snd.snd.snd.fst.toNat) (getR xs (↑s_1.snd.snd.snd.snd : Int).toNat)) = true → inR IntKind.i64 ((↑s_1.snd.snd.snd.snd : Int) + (1 : Int)) ∧ ∃ (s' : List RV × List (Row shB) × Nat × Int × Nat), (((((z = z ∧ base = base ∧ (0 : Nat) = (0 : Nat) ∧ xs.length = xs.length ∧ c = c) ∧ True) ∧ vs = vs ∧ t = t ∧ ((decide (s_1.fst.length = (0 : Nat)) = decide (s'.fst.length = (0 : Nat)) ∧ (0 : Nat) = (0 : Nat) ∧ (0 : Nat) = (0 : Nat) ∧ s_1.fst.length = s'.fst.length ∧ s_1.snd.snd.fst = s'.snd.snd.fst) ∧ True) ∧ ((false = false ∧ (0 : Nat) = (0 : Nat) ∧ (0 : Nat) = (0 : Nat) ∧ xs.length = xs.length ∧ xs.length = xs.length) ∧ True) ∧ (↑s_1.snd.snd.snd.snd : Int) = s'.snd.snd.snd.fst ∧ (↑s_1.snd.snd.snd.snd : Int) + (1 : Int) = (↑s'.snd.snd.snd.snd : Int) ∧ True) ∧ (z = z ∧ base = base ∧ tot = tot ∧ List.take xs.length xs = xs) ∧ (false = false ∧ (0 : Nat) = (0 : Nat) ∧ xs.length = xs.length ∧ List.take s'.snd.fst.length s_1.snd.fst = s'.snd.fst) ∧ (decide (s_1.fst.length = (0 : Nat)) = decide (s'.fst.length = (0 : Nat)) ∧ (0 : Nat) = (0 : Nat) ∧ s_1.snd.snd.fst = s'.snd.snd.fst ∧ List.take s'.fst.length s_1.fst = s'.fst) ∧ True) ∧ (GvI xs s'.fst s'.snd.fst vs t ∧ s'.fst.length ≤ s'.snd.snd.fst ∧ (s'.fst.length = (0 : Nat) → s'.snd.snd.fst = (0 : Nat)) ∧ (↑s'.fst.length : Int) < vs ∧ s'.snd.snd.snd.snd ≤ xs.length ∧ BstI xs s'.snd.fst t s'.snd.snd.snd.fst s'.snd.snd.snd.snd) ∧ s.fst.length = s'.fst.length) ∧ xs.length - s'.snd.snd.snd.snd < xs.length - s_1.snd.snd.snd.snd) ∧ ((!ltV (getR xs s_1.snd.snd.snd.fst.toNat) (getR xs (↑s_1.snd.snd.snd.snd : Int).toNat)) = false → inR IntKind.i64 ((↑s_1.snd.snd.snd.snd : Int) + (1 : Int)) ∧ ∃ (s' : List RV × List (Row shB) × Nat × Int × Nat), (((((z = z ∧ base = base ∧ (0 : Nat) = (0 : Nat) ∧ xs.length = xs.length ∧ c = c) ∧ True) ∧ vs = vs ∧ t = t ∧ ((decide (s_1.fst.length = (0 : Nat)) = decide (s'.fst.length = (0 : Nat)) ∧ (0 : Nat) = (0 : Nat) ∧ (0 : Nat) = (0 : Nat) ∧ s_1.fst.length = s'.fst.length ∧ s_1.snd.snd.fst = s'.snd.snd.fst) ∧ True) ∧ ((false = false ∧ (0 : Nat) = (0 : Nat) ∧ (0 : Nat) = (0 : Nat) ∧ xs.length = xs.length ∧ xs.length = xs.length) ∧ True) ∧ s_1.snd.snd.snd.fst = s'.snd.snd.snd.fst ∧ (↑s_1.snd.snd.snd.snd : Int) + (1 : Int) = (↑s'.snd.snd.snd.snd : Int) ∧ True) ∧ (z = z ∧ base = base ∧ tot = tot ∧ List.take xs.length xs = xs) ∧ (false = false ∧ (0 : Nat) = (0 : Nat) ∧ xs.length = xs.length ∧ List.take s'.snd.fst.length s_1.snd.fst = s'.snd.fst) ∧ (decide (s_1.fst.length = (0 : Nat)) = decide (s'.fst.length = (0 : Nat)) ∧ (0 : Nat) = (0 : Nat) ∧ s_1.snd.snd.fst = s'.snd.snd.fst ∧ List.take s'.fst.length s_1.fst = s'.fst) ∧ True) ∧ (GvI xs s'.fst s'.snd.fst vs t ∧ s'.fst.length ≤ s'.snd.snd.fst ∧ (s'.fst.length = (0 : Nat) → s'.snd.snd.fst = (0 : Nat)) ∧ (↑s'.fst.length : Int) < vs ∧ s'.snd.snd.snd.snd ≤ xs.length ∧ BstI xs s'.snd.fst t s'.snd.snd.snd.fst s'.snd.snd.snd.snd) ∧ s.fst.length = s'.fst.length) ∧ xs.length - s'.snd.snd.snd.snd < xs.length - s_1.snd.snd.snd.snd)))) ∧ ((getR s_1.snd.fst (↑s_1.snd.snd.snd.snd : Int).toNat).fst = true → inR IntKind.i64 ((↑s_1.snd.snd.snd.snd : Int) + (1 : Int)) ∧ ∃ (s' : List RV × List (Row shB) × Nat × Int × Nat), (((((z = z ∧ base = base ∧ (0 : Nat) = (0 : Nat) ∧ xs.length = xs.length ∧ c = c) ∧ True) ∧ vs = vs ∧ t = t ∧ ((decide (s_1.fst.length = (0 : Nat)) = decide (s'.fst.length = (0 : Nat)) ∧ (0 : Nat) = (0 : Nat) ∧ (0 : Nat) = (0 : Nat) ∧ s_1.fst.length = s'.fst.length ∧ s_1.snd.snd.fst = s'.snd.snd.fst) ∧ True) ∧ ((false = false ∧ (0 : Nat) = (0 : Nat) ∧ (0 : Nat) = (0 : Nat) ∧ xs.length = xs.length ∧ xs.length = xs.length) ∧ True) ∧ s_1.snd.snd.snd.fst = s'.snd.snd.snd.fst ∧ (↑s_1.snd.snd.snd.snd : Int) + (1 : Int) = (↑s'.snd.snd.snd.snd : Int) ∧ True) ∧ (z = z ∧ base = base ∧ tot = tot ∧ List.take xs.length xs = xs) ∧ (false = false ∧ (0 : Nat) = (0 : Nat) ∧ xs.length = xs.length ∧ List.take s'.snd.fst.length s_1.snd.fst = s'.snd.fst) ∧ (decide (s_1.fst.length = (0 : Nat)) = decide (s'.fst.length = (0 : Nat)) ∧ (0 : Nat) = (0 : Nat) ∧ s_1.snd.snd.fst = s'.snd.snd.fst ∧ List.take s'.fst.length s_1.fst = s'.fst) ∧ True) ∧ (GvI xs s'.fst s'.snd.fst vs t ∧ s'.fst.length ≤ s'.snd.snd.fst ∧ (s'.fst.length = (0 : Nat) → s'.snd.snd.fst = (0 : Nat)) ∧ (↑s'.fst.length : Int) < vs ∧ s'.snd.snd.snd.snd ≤ xs.length ∧ BstI xs s'.snd.fst t s'.snd.snd.snd.fst s'.snd.snd.snd.snd) ∧ s.fst.length = s'.fst.length) ∧ xs.length - s'.snd.snd.snd.snd < xs.length - s_1.snd.snd.snd.snd)) ∧ (decide ((↑s_1.snd.snd.snd.snd : Int) < (↑xs.length : Int)) = false → (decide (s_1.snd.snd.snd.fst < (0 : Int)) = true → ∃ (e : Nat × Bool), ((ldF xs vs t).length ≤ e.fst ∧ (e.snd = true → e.fst = (0 : Nat))) ∧ (((decide (s_1.fst.length = (0 : Nat)) = e.snd ∧ (0 : Nat) = (0 : Nat) ∧ (0 : Nat) = (0 : Nat) ∧ s_1.fst.length = (ldF xs vs t).length ∧ s_1.snd.snd.fst = e.fst) ∧ True) ∧ True) ∧ (decide (s_1.fst.length = (0 : Nat)) = e.snd ∧ (0 : Nat) = (0 : Nat) ∧ s_1.snd.snd.fst = e.fst ∧ List.take (ldF xs vs t).length s_1.fst = ldF xs vs t) ∧ True) ∧ (decide (s_1.snd.snd.snd.fst < (0 : Int)) = false → ((0 : Int) ≤ s_1.snd.snd.snd.fst ∧ s_1.snd.snd.snd.fst < (↑xs.length : Int)) ∧ s_1.snd.snd.snd.fst.toNat < s_1.snd.fst.length ∧ ((0 : Int) ≤ s_1.snd.snd.snd.fst ∧ s_1.snd.snd.snd.fst < (↑xs.length : Int)) ∧ (base = base ∧ s_1.snd.snd.snd.fst.toNat < xs.length) ∧ (s_1.fst.length = s_1.fst.length ∧ s_1.snd.snd.fst = s_1.snd.snd.fst ∧ decide (s_1.fst.length = (0 : Nat)) = decide (s_1.fst.length = (0 : Nat)) ∧ (decide (s_1.fst.length = (0 : Nat)) = true → s_1.snd.snd.fst = (0 : Nat)) ∧ (s_1.fst.length + (1 : Nat)) * (96 : Nat) ≤ (140737488355328 : Nat)) ∧ ∀ (c' : Nat), s_1.fst.length + (1 : Nat) ≤ c' → ((1 : Nat) = (0 : Nat) → c' = s_1.snd.snd.fst) → ∃ (s' : List RV × List (Row shB) × Nat), (((((z = z ∧ base = base ∧ (0 : Nat) = (0 : Nat) ∧ xs.length = xs.length ∧ c = c) ∧ True) ∧ vs = vs ∧ t = t ∧ (((false && decide (s_1.fst.length = (0 : Nat))) = decide (s'.fst.length = (0 : Nat)) ∧ (0 : Nat) = (0 : Nat) ∧ (0 : Nat) = (0 : Nat) ∧ s_1.fst.length + (1 : Nat) = s'.fst.length ∧ c' = s'.snd.snd) ∧ True) ∧ ((false = false ∧ (0 : Nat) = (0 : Nat) ∧ (0 : Nat) = (0 : Nat) ∧ xs.length = xs.length ∧ xs.length = xs.length) ∧ True) ∧ True) ∧ (z = z ∧ base = base ∧ tot = tot ∧ List.take xs.length xs = xs) ∧ (false = false ∧ (0 : Nat) = (0 : Nat) ∧ xs.length = xs.length ∧ List.take s'.snd.fst.length (s_1.snd.fst.set s_1.snd.snd.snd.fst.toNat (true, ())) = s'.snd.fst) ∧ ((false && decide (s_1.fst.length = (0 : Nat))) = decide (s'.fst.length = (0 : Nat)) ∧ (0 : Nat) = (0 : Nat) ∧ c' = s'.snd.snd ∧ List.take s'.fst.length (s_1.fst.append [(getR xs s_1.snd.snd.snd.fst.toNat)]) = s'.fst) ∧ True) ∧ GvI xs s'.fst s'.snd.fst vs t ∧ s'.fst.length ≤ s'.snd.snd ∧ (s'.fst.length = (0 : Nat) → s'.snd.snd = (0 : Nat))) ∧ vs.toNat - s'.fst.length < vs.toNat - s.fst.length))) ∧ (decide ((↑s.fst.length : Int) < vs) = false → ∃ (e : Nat × Bool), ((ldF xs vs t).length ≤ e.fst ∧ (e.snd = true → e.fst = (0 : Nat))) ∧ (((decide (s.fst.length = (0 : Nat)) = e.snd ∧ (0 : Nat) = (0 : Nat) ∧ (0 : Nat) = (0 : Nat) ∧ s.fst.length = (ldF xs vs t).length ∧ s.snd.snd = e.fst) ∧ True) ∧ True) ∧ (decide (s.fst.length = (0 : Nat)) = e.snd ∧ (0 : Nat) = (0 : Nat) ∧ s.snd.snd = e.fst ∧ List.take (ldF xs vs t).length s.fst = ldF xs vs t) ∧ True)) := by kernel_rfl
theorem s_rGives : MSound Try.prog 23 c_rGives := by
  refine rsoundM (Ctx.ok_of2 (M := Mx) (N := []) mixedA ok_rgives okD_mAt okB0) Try.func23 (by kernel_rfl) (by kernel_rfl) (fun us m K h => ?_)
  unfold c_rGives at h
  split at h
  · rename_i s j0 vs j1 t
    split at h
    · rename_i q x z base n c tot xs hrd
      obtain ⟨hq, h⟩ := h
      obtain ⟨hp, h⟩ := h
      refine ⟨Nat × Bool, fun e => List.length (ldF xs vs t) ≤ e.1 ∧ (e.2 = true → e.1 = 0), shV, q, x, z, base, n, c, tot, xs, 50, s, [], [], [.v (.one (.int .i64 j0 vs)), .v (.one (.int .i64 j1 t))], [.v (.one (.int .i64 false vs)), .v (.one (.int .i64 false t))], (fun bk => match bk with | 0 => some { S := List RV × List (Row shB) × Nat, st := fun s => ⟨[.v (.one (.rs z 0 0 base 12 0 (List.length xs) c)), .v (.one (.int .i64 false (vs))), .v (.one (.int .i64 false (t))), .junk, .junk, .junk, .junk, .v (.one (.rs (decide (List.length s.1 = 0)) 0 2 0 12 0 (List.length s.1) s.2.2)), .v (.one (.rs false 0 1 0 1 0 (List.length xs) (List.length xs))), .junk, .junk, .junk, .junk, .junk, .junk, .junk, .junk, .junk, .junk, .junk, .junk, .junk, .junk, .junk, .junk, .junk, .junk, .junk, .junk, .junk, .junk, .junk, .junk, .junk, .junk, .junk, .junk, .junk, .junk, .junk, .junk, .junk, .junk, .junk, .junk, .junk, .junk, .junk, .junk, .junk, .junk, .junk, .junk, .junk, .junk, .junk, .junk, .junk, .junk, .junk, .junk, .junk, .junk, .junk, .junk, .junk, .junk], [some (.rows true z shV xs base tot 50), some (.rows false false shB s.2.1 0 (List.length xs) 4), some (.rows false (decide (List.length s.1 = 0)) shV s.1 0 s.2.2 50)]⟩, ok := fun s => GvI xs s.1 s.2.1 vs t ∧ List.length s.1 ≤ s.2.2 ∧ (List.length s.1 = 0 → s.2.2 = 0), mu := fun s => vs.toNat - List.length s.1, init := ([], [], 0), ex := true } | 2 => some { S := List RV × List (Row shB) × Nat × Int × Nat, st := fun s => ⟨[.v (.one (.rs z 0 0 base 12 0 (List.length xs) c)), .v (.one (.int .i64 false (vs))), .v (.one (.int .i64 false (t))), .junk, .junk, .junk, .junk, .v (.one (.rs (decide (List.length s.1 = 0)) 0 2 0 12 0 (List.length s.1) s.2.2.1)), .v (.one (.rs false 0 1 0 1 0 (List.length xs) (List.length xs))), .v (.one (.int .i64 false (s.2.2.2.1))), .v (.one (.int .i64 false ((s.2.2.2.2 : Int)))), .junk, .junk, .junk, .junk, .junk, .junk, .junk, .junk, .junk, .junk, .junk, .junk, .junk, .junk, .junk, .junk, .junk, .junk, .junk, .junk, .junk, .junk, .junk, .junk, .junk, .junk, .junk, .junk, .junk, .junk, .junk, .junk, .junk, .junk, .junk, .junk, .junk, .junk, .junk, .junk, .junk, .junk, .junk, .junk, .junk, .junk, .junk, .junk, .junk, .junk, .junk, .junk, .junk, .junk, .junk, .junk], [some (.rows true z shV xs base tot 50), some (.rows false false shB s.2.1 0 (List.length xs) 4), some (.rows false (decide (List.length s.1 = 0)) shV s.1 0 s.2.2.1 50)]⟩, ok := fun s => GvI xs s.1 s.2.1 vs t ∧ List.length s.1 ≤ s.2.2.1 ∧ (List.length s.1 = 0 → s.2.2.1 = 0) ∧ (List.length s.1 : Int) < vs ∧ s.2.2.2.2 ≤ xs.length ∧ BstI xs s.2.1 t s.2.2.2.1 s.2.2.2.2, mu := fun s => xs.length - s.2.2.2.2, init := ([], [], 0, 0, 0), ex := true, tie := some (fun σ s => match (σ.tm[7]? : Option SV) with | some (.v (.one (.rs _ _ _ _ _ _ n _))) => n = List.length s.1 | _ => False) } | _ => none), 400, fun e => .v (.one (.rs e.2 0 1 0 12 0 (List.length (ldF xs vs t)) e.1)), fun e => [some (.rows false e.2 shV (ldF xs vs t) 0 e.1 50)], (fun r m' => ∃ e : Nat × Bool, (List.length (ldF xs vs t) ≤ e.1 ∧ (e.2 = true → e.1 = 0)) ∧ stLe 1 ⟨[r], m'⟩ ⟨[.v (.one (.rs e.2 0 1 0 12 0 (List.length (ldF xs vs t)) e.1))], none :: [some (.rows false e.2 shV (ldF xs vs t) 0 e.1 50)]⟩), rfl, hrd, hq, ⟨by simp [tmLe, svLe, vLe, lfLe, lfsLe, ifB, nmIs, idR], rfl⟩, ⟨by simp [tmLe, svLe, vLe, lfLe, lfsLe, ifB, nmIs, idR], rfl⟩, fun _ => rfl, fun hn hzl => ?_, fun r m' hr => hr, fun e he => h e he⟩
      subst hn
      refine by_nf (nf_rGives z base c tot xs vs t) ?_
      clear h hrd hq
      simp only [eq_self_iff_true, true_and, and_true, Int.toNat_natCast, implies_true, decide_eq_true_eq, decide_eq_false_iff_not, bne_iff_ne, bne_eq_false_iff_eq, ne_eq, Decidable.not_not, inR, klo, khi, Bool.not_eq_true', Bool.not_eq_false', beq_iff_eq, beq_eq_false_iff_ne, List.take_length, List.append_eq]
      have tl : ∀ {sh : List Kd} (L : List (Row sh)), List.take L.length L = L := fun L => List.take_length
      refine ⟨by omega, ⟨([], List.replicate xs.length (false, ()), 0), ⟨⟨rfl, rfl, rfl⟩, take_self rfl, rfl, rfl⟩, gv_zero xs vs t, Nat.le_refl _, fun _ => rfl⟩, ?_⟩
      rintro ⟨out, tk, cp⟩ ⟨gv, c1, c2⟩
      dsimp only at *
      have ol := gv_len gv
      have tl1 := gv.1
      refine ⟨fun hv => ⟨⟨(out, tk, cp, -1, 0), ⟨⟨⟨rfl, rfl, rfl⟩, rfl, rfl⟩, tl _, rfl, rfl, tl _⟩, ⟨gv, c1, c2, hv, Nat.zero_le _, bst_zero⟩, rfl⟩, ?_⟩, fun hv => ⟨(cp, decide (out.length = 0)), ⟨by rw [← gv_full gv hv]; exact c1, fun h => c2 (of_decide_eq_true h)⟩, ⟨rfl, by rw [← gv_full gv hv], rfl⟩, rfl, rfl, take_self (gv_full gv hv)⟩⟩
      rintro ⟨out', tk', cp', b, i⟩ ⟨⟨gv', c1', c2', hv', hi, bs⟩, to⟩
      dsimp only at *
      clear gv c1 c2 ol tl1
      have ol := gv_len gv'
      have tl1 := gv'.1
      refine ⟨fun hlt => ⟨by omega, by omega, fun ht => ⟨by omega, by omega, fun hs => ?_, fun hs => ?_⟩, fun ht => ?_⟩, fun hlt => ?_⟩
      · have ha : av xs tk' t i = false := by unfold av; rw [hs, Bool.and_false]
        exact ⟨by omega, (out', tk', cp', b, i + 1), ⟨⟨⟨⟨rfl, rfl, rfl⟩, rfl, by dsimp only; omega⟩, tl _, rfl, rfl, tl _⟩, ⟨gv', c1', c2', hv', by dsimp only; omega, bst_skip bs ha⟩, to⟩, by dsimp only; omega⟩
      · have ha : av xs tk' t i = true := by unfold av; rw [hs, ht]; rfl
        refine ⟨fun hb => ⟨hb, ?_⟩, fun hb => ?_⟩
        · exact ⟨by omega, (out', tk', cp', (i : Int), i + 1), ⟨⟨⟨⟨rfl, rfl, rfl⟩, rfl, by dsimp only; omega⟩, tl _, rfl, rfl, tl _⟩, ⟨gv', c1', c2', hv', by dsimp only; omega, bst_take bs ha (.inl hb)⟩, to⟩, by dsimp only; omega⟩
        · have hn : ∃ n : Nat, b = (n : Int) ∧ n < i := by
            rcases bs with ⟨h, _⟩ | ⟨n, h1, h2, _⟩
            · omega
            · exact ⟨n, h1, h2⟩
          obtain ⟨n, rfl, hn⟩ := hn
          simp only [Int.toNat_natCast]
          refine ⟨hb, by omega, by omega, by omega, by omega, fun hl => ?_, fun hl => ?_⟩
          · exact ⟨by omega, (out', tk', cp', (i : Int), i + 1), ⟨⟨⟨⟨rfl, rfl, rfl⟩, rfl, by dsimp only; omega⟩, tl _, rfl, rfl, tl _⟩, ⟨gv', c1', c2', hv', by dsimp only; omega, bst_take bs ha (.inr (by rw [Int.toNat_natCast]; exact hl))⟩, to⟩, by dsimp only; omega⟩
          · exact ⟨by omega, (out', tk', cp', (n : Int), i + 1), ⟨⟨⟨⟨rfl, rfl, rfl⟩, rfl, by dsimp only; omega⟩, tl _, rfl, rfl, tl _⟩, ⟨gv', c1', c2', hv', by dsimp only; omega, bst_keep bs hl⟩, to⟩, by dsimp only; omega⟩
      · have ha : av xs tk' t i = false := by unfold av; rw [ht]; rfl
        exact ⟨by omega, (out', tk', cp', b, i + 1), ⟨⟨⟨⟨rfl, rfl, rfl⟩, rfl, by dsimp only; omega⟩, tl _, rfl, rfl, tl _⟩, ⟨gv', c1', c2', hv', by dsimp only; omega, bst_skip bs ha⟩, to⟩, by dsimp only; omega⟩
      · obtain rfl : i = xs.length := by omega
        refine ⟨fun hb => ?_, fun hb => ?_⟩
        · have hm : b = -1 := by
            rcases bs with ⟨h, _⟩ | ⟨n, h1, h2, _⟩
            · exact h
            · omega
          rw [hm] at bs
          have e := gv_none gv' bs
          exact ⟨(cp', decide (out'.length = 0)), ⟨by rw [← e]; exact c1', fun h => c2' (of_decide_eq_true h)⟩, ⟨rfl, by rw [← e], rfl⟩, rfl, rfl, take_self e⟩
        · have hn : ∃ n : Nat, b = (n : Int) ∧ n < xs.length := by
            rcases bs with ⟨h, _⟩ | ⟨n, h1, h2, _⟩
            · omega
            · exact ⟨n, h1, h2⟩
          obtain ⟨n, rfl, hn⟩ := hn
          have g2 := gv_step gv' bs hv'
          have l2 : (out' ++ [getR xs n]).length = out'.length + 1 := by rw [List.length_append]; rfl
          simp only [Int.toNat_natCast]
          refine ⟨by omega, by omega, by omega, by omega, ⟨c2', by omega⟩, fun c' hc' _ => ⟨(out' ++ [getR xs n], tk'.set n (true, ()), c'), ⟨⟨⟨?_, l2.symm, rfl⟩, tl _, ?_, rfl, tl _⟩, g2, by rw [l2]; exact hc', fun h => by dsimp only at h; omega⟩, by dsimp only; omega⟩⟩
          · dsimp only; rw [l2]; rfl
          · dsimp only; rw [l2]; rfl
    · exact h.elim
  · exact h.elim
noncomputable def Δ_rGives : List (FuncId × MC) := (23, c_rGives) :: Δ_mAt
theorem okD_rGives : ΔOk Try.prog Δ_rGives := ΔOk.cons s_rGives okD_mAt

noncomputable def c_rAt : MC := fun us m K => match us with
  | [s, .v (.one (.int .i64 _ vs)), .v (.one (.int .i64 _ t))] => match rdS shV m s with
    | some (q, x, z, base, n, c, tot, xs) => q ∧ (xs.length ≤ 64) ∧ (∀ e : Unit, (True) → K (.v (.agg [.int .i64 false (wi (sumL (ldF xs vs t) t (ldF xs vs t).length) (-32768) 32767), .int .i64 false (wi (sumR (ldF xs vs t) t (ldF xs vs t).length) (-32768) 32767)])) (m ++ []))
    | none => False
  | _ => False
theorem nf_rAt (z : Bool) (base : Nat) (c : Nat) (tot : Nat) (xs : List (Row shV)) (vs : Int) (t : Int) : goal ⟨Mx, Try.prog, Γ_rgives, Δ_rGives, B0, none, false, [], none⟩ (fun bk => match bk with | 0 => some { S := Nat × Nat × Bool, st := fun s => ⟨[.v (.one (.rs z 0 0 base 12 0 (List.length xs) c)), .v (.one (.int .i64 false (vs))), .v (.one (.int .i64 false (t))), .junk, .junk, .junk, .v (.one (.ptr 1 0)), .v (.one (.rs s.2.2 0 2 0 12 0 (List.length (ldF xs vs t)) s.2.1)), .v (.one (.int .i64 false (sumL (ldF xs vs t) t s.1))), .v (.one (.int .i64 false (sumR (ldF xs vs t) t s.1))), .v (.one (.int .i64 false ((s.1 : Int)))), .junk, .junk, .junk, .junk, .junk, .junk, .junk, .junk, .junk, .junk, .junk, .junk, .junk, .junk, .junk, .junk, .junk, .junk, .junk, .junk, .junk, .junk, .junk, .junk, .junk, .junk, .junk, .junk, .junk, .junk, .junk, .junk], [some (.rows true z shV xs base tot 50), some (.cells [.int .i64 true 0, .int .i64 true 0] 24), some (.rows false s.2.2 shV (ldF xs vs t) 0 s.2.1 50)]⟩, ok := fun s => s.1 ≤ List.length (ldF xs vs t), mu := fun s => List.length (ldF xs vs t) - s.1, init := (0, 0, false), ex := true } | _ => none) 400 Try.f10 [.v (.one (.rs z 0 0 base (List.length shV) 0 (List.length xs) c)), .v (.one (.int .i64 false vs)), .v (.one (.int .i64 false t))] [some (.rows true z shV xs base tot 50)] (fun r m' => stLe 1 ⟨[r], m'⟩ ⟨[.v (.agg [.int .i64 false (wi (sumL (ldF xs vs t) t (ldF xs vs t).length) (-32768) 32767), .int .i64 false (wi (sumR (ldF xs vs t) t (ldF xs vs t).length) (-32768) 32767)])], none :: []⟩) = ((xs.length = xs.length ∧ z = z ∧ base = base) ∧ xs.length ≤ (64 : Nat) ∧ ∀ (e : Nat × Bool), (ldF xs vs t).length ≤ e.fst ∧ (e.snd = true → e.fst = (0 : Nat)) → (∃ (s : Nat × Nat × Bool), ((((z = z ∧ base = base ∧ (0 : Nat) = (0 : Nat) ∧ xs.length = xs.length ∧ c = c) ∧ True) ∧ vs = vs ∧ t = t ∧ True ∧ ((e.snd = s.snd.snd ∧ (0 : Nat) = (0 : Nat) ∧ (0 : Nat) = (0 : Nat) ∧ (ldF xs vs t).length = (ldF xs vs t).length ∧ e.fst = s.snd.fst) ∧ True) ∧ (0 : Int) = sumL (ldF xs vs t) t s.fst ∧ (0 : Int) = sumR (ldF xs vs t) t s.fst ∧ (0 : Int) = (↑s.fst : Int) ∧ True) ∧ (z = z ∧ base = base ∧ tot = tot ∧ List.take xs.length xs = xs) ∧ ((0 : Int) = (0 : Int) ∧ (0 : Int) = (0 : Int)) ∧ (e.snd = s.snd.snd ∧ (0 : Nat) = (0 : Nat) ∧ e.fst = s.snd.fst ∧ List.take (ldF xs vs t).length (ldF xs vs t) = ldF xs vs t) ∧ True) ∧ s.fst ≤ (ldF xs vs t).length) ∧ ∀ (s : Nat × Nat × Bool), s.fst ≤ (ldF xs vs t).length → (decide ((↑s.fst : Int) < (↑(ldF xs vs t).length : Int)) = true → ((0 : Int) ≤ (↑s.fst : Int) ∧ (↑s.fst : Int) < (↑(ldF xs vs t).length : Int)) ∧ (↑s.fst : Int).toNat < (ldF xs vs t).length ∧ inR IntKind.i64 (sumL (ldF xs vs t) t s.fst + gvL t (getR (ldF xs vs t) (↑s.fst : Int).toNat)) ∧ inR IntKind.i64 (sumR (ldF xs vs t) t s.fst + gvR t (getR (ldF xs vs t) (↑s.fst : Int).toNat)) ∧ inR IntKind.i64 ((↑s.fst : Int) + (1 : Int)) ∧ ∃ (s' : Nat × Nat × Bool), (((((z = z ∧ base = base ∧ (0 : Nat) = (0 : Nat) ∧ xs.length = xs.length ∧ c = c) ∧ True) ∧ vs = vs ∧ t = t ∧ True ∧ ((s.snd.snd = s'.snd.snd ∧ (0 : Nat) = (0 : Nat) ∧ (0 : Nat) = (0 : Nat) ∧ (ldF xs vs t).length = (ldF xs vs t).length ∧ s.snd.fst = s'.snd.fst) ∧ True) ∧ sumL (ldF xs vs t) t s.fst + gvL t (getR (ldF xs vs t) (↑s.fst : Int).toNat) = sumL (ldF xs vs t) t s'.fst ∧ sumR (ldF xs vs t) t s.fst + gvR t (getR (ldF xs vs t) (↑s.fst : Int).toNat) = sumR (ldF xs vs t) t s'.fst ∧ (↑s.fst : Int) + (1 : Int) = (↑s'.fst : Int) ∧ True) ∧ (z = z ∧ base = base ∧ tot = tot ∧ List.take xs.length xs = xs) ∧ ((0 : Int) = (0 : Int) ∧ (0 : Int) = (0 : Int)) ∧ (s.snd.snd = s'.snd.snd ∧ (0 : Nat) = (0 : Nat) ∧ s.snd.fst = s'.snd.fst ∧ List.take (ldF xs vs t).length (ldF xs vs t) = ldF xs vs t) ∧ True) ∧ s'.fst ≤ (ldF xs vs t).length) ∧ (ldF xs vs t).length - s'.fst < (ldF xs vs t).length - s.fst) ∧ (decide ((↑s.fst : Int) < (↑(ldF xs vs t).length : Int)) = false → (-32768 : Int) ≤ (32767 : Int) ∧ (-32768 : Int) ≤ (32767 : Int) ∧ ((wi (sumL (ldF xs vs t) t s.fst) (-32768 : Int) (32767 : Int) = wi (sumL (ldF xs vs t) t (ldF xs vs t).length) (-32768 : Int) (32767 : Int) ∧ wi (sumR (ldF xs vs t) t s.fst) (-32768 : Int) (32767 : Int) = wi (sumR (ldF xs vs t) t (ldF xs vs t).length) (-32768 : Int) (32767 : Int)) ∧ True) ∧ True)) := by kernel_rfl
theorem s_rAt : MSound Try.prog 10 c_rAt := by
  refine rsoundM (Ctx.ok_of2 (M := Mx) (N := []) mixedA ok_rgives okD_rGives okB0) Try.func10 (by kernel_rfl) (by kernel_rfl) (fun us m K h => ?_)
  unfold c_rAt at h
  split at h
  · rename_i s j0 vs j1 t
    split at h
    · rename_i q x z base n c tot xs hrd
      obtain ⟨hq, h⟩ := h
      obtain ⟨hp, h⟩ := h
      refine ⟨Unit, fun _ => True, shV, q, x, z, base, n, c, tot, xs, 50, s, [], [], [.v (.one (.int .i64 j0 vs)), .v (.one (.int .i64 j1 t))], [.v (.one (.int .i64 false vs)), .v (.one (.int .i64 false t))], (fun bk => match bk with | 0 => some { S := Nat × Nat × Bool, st := fun s => ⟨[.v (.one (.rs z 0 0 base 12 0 (List.length xs) c)), .v (.one (.int .i64 false (vs))), .v (.one (.int .i64 false (t))), .junk, .junk, .junk, .v (.one (.ptr 1 0)), .v (.one (.rs s.2.2 0 2 0 12 0 (List.length (ldF xs vs t)) s.2.1)), .v (.one (.int .i64 false (sumL (ldF xs vs t) t s.1))), .v (.one (.int .i64 false (sumR (ldF xs vs t) t s.1))), .v (.one (.int .i64 false ((s.1 : Int)))), .junk, .junk, .junk, .junk, .junk, .junk, .junk, .junk, .junk, .junk, .junk, .junk, .junk, .junk, .junk, .junk, .junk, .junk, .junk, .junk, .junk, .junk, .junk, .junk, .junk, .junk, .junk, .junk, .junk, .junk, .junk, .junk], [some (.rows true z shV xs base tot 50), some (.cells [.int .i64 true 0, .int .i64 true 0] 24), some (.rows false s.2.2 shV (ldF xs vs t) 0 s.2.1 50)]⟩, ok := fun s => s.1 ≤ List.length (ldF xs vs t), mu := fun s => List.length (ldF xs vs t) - s.1, init := (0, 0, false), ex := true } | _ => none), 400, fun _ => .v (.agg [.int .i64 false (wi (sumL (ldF xs vs t) t (ldF xs vs t).length) (-32768) 32767), .int .i64 false (wi (sumR (ldF xs vs t) t (ldF xs vs t).length) (-32768) 32767)]), fun _ => [], (fun r m' => stLe 1 ⟨[r], m'⟩ ⟨[.v (.agg [.int .i64 false (wi (sumL (ldF xs vs t) t (ldF xs vs t).length) (-32768) 32767), .int .i64 false (wi (sumR (ldF xs vs t) t (ldF xs vs t).length) (-32768) 32767)])], none :: []⟩), rfl, hrd, hq, ⟨by simp [tmLe, svLe, vLe, lfLe, lfsLe, ifB, nmIs, idR], rfl⟩, ⟨by simp [tmLe, svLe, vLe, lfLe, lfsLe, ifB, nmIs, idR], rfl⟩, fun _ => rfl, fun hn hzl => ?_, fun r m' hr => ⟨(), trivial, hr⟩, fun e he => h e he⟩
      subst hn
      refine by_nf (nf_rAt z base c tot xs vs t) ?_
      clear h hrd hq
      simp only [eq_self_iff_true, true_and, and_true, Int.toNat_natCast, implies_true, decide_eq_true_eq, decide_eq_false_iff_not, bne_iff_ne, bne_eq_false_iff_eq, ne_eq, Decidable.not_not, inR, klo, khi, Bool.not_eq_true', Bool.not_eq_false', beq_iff_eq, beq_eq_false_iff_ne, List.take_length, List.append_eq]
      refine ⟨hp, fun e he => ⟨⟨(0, e.1, e.2), ⟨⟨⟨rfl, rfl⟩, rfl, rfl, rfl⟩, rfl, rfl⟩, Nat.zero_le _⟩, ?_⟩⟩
      rintro ⟨s, c2, z2⟩ hs
      dsimp only at *
      have ll := ldF_le xs vs t
      refine ⟨fun h => ?_, fun h => ?_⟩
      · have b1 := sum_bd (ldF xs vs t) t (s + 1)
        have e1 : sumL (ldF xs vs t) t (s + 1) = sumL (ldF xs vs t) t s + gvL t (getR (ldF xs vs t) s) := rfl
        have e2 : sumR (ldF xs vs t) t (s + 1) = sumR (ldF xs vs t) t s + gvR t (getR (ldF xs vs t) s) := rfl
        rw [← e1, ← e2]
        exact ⟨by omega, by omega, by omega, by omega, by omega, (s + 1, c2, z2), ⟨⟨⟨⟨rfl, rfl⟩, rfl, rfl, by dsimp only; omega⟩, rfl, rfl⟩, by dsimp only; omega⟩, by dsimp only; omega⟩
      · obtain rfl : s = (ldF xs vs t).length := by omega
        exact ⟨by decide, by decide, rfl, rfl⟩
    · exact h.elim
  · exact h.elim
noncomputable def Δ_rAt : List (FuncId × MC) := (10, c_rAt) :: Δ_rGives
theorem okD_rAt : ΔOk Try.prog Δ_rAt := ΔOk.cons s_rAt okD_rGives

end Go.Proofs.Ytljnddhldjaglaa
