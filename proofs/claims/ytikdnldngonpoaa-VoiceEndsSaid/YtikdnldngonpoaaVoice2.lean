/- WHEN A VOICE IS OVER: what voice.Ends, Over, Sounds compute. Conditions: none but the arguments' kinds. Own work. -/
import Derived.Test.YtikdnldngonpoaaVoice
import Derived.Deep.RegionHeld3
namespace Go.Proofs.Ytikdnldngonpoaa
open Go.RowKit
set_option linter.unusedVariables false
set_option linter.unusedSimpArgs false
set_option maxRecDepth 100000

theorem within_iff {n l m : Int} : withinB n l m = true ↔ l ≤ n ∧ n ≤ m := by unfold withinB; rw [Bool.and_eq_true, decide_eq_true_eq, decide_eq_true_eq]
theorem right_facts {at_ gn pn ln bo lt cu : Int} (h : rightB at_ gn pn ln bo lt cu = true) : (1 ≤ at_ ∧ at_ ≤ 9) ∧ (0 ≤ ln ∧ ln ≤ 600) ∧ (0 ≤ bo ∧ bo ≤ 1099511627776) ∧ (0 ≤ lt ∧ lt ≤ 1099511627776) ∧ (cu = -1 ∨ bo ≤ cu ∧ cu ≤ 1099511627776) := by
  unfold rightB at h
  simp only [Bool.and_eq_true, Bool.or_eq_true, within_iff, beq_iff_eq] at h
  exact ⟨h.1, h.2.2.2.1, h.2.2.2.2.1, h.2.2.2.2.2.1, h.2.2.2.2.2.2⟩

/-- a voice's length, if nothing cuts it -/
def lenF (at_ ln : Int) : Int := if 0 < ln then ln * 32 else 48 * at_
/-- the first sample at which a right voice is over -/
def endF (at_ ln bo lt cu : Int) : Int := if cu = -1 then bo + max (lenF at_ ln - lt) 0 else min (bo + max (lenF at_ ln - lt) 0) (cu + 64)
theorem lenF_bd {at_ ln : Int} (h : 1 ≤ at_ ∧ at_ ≤ 9) (k : 0 ≤ ln ∧ ln ≤ 600) : 1 ≤ lenF at_ ln ∧ lenF at_ ln ≤ 19200 := by unfold lenF; split <;> omega
def atB (at_ gn pn ln bo lt cu t : Int) : Bool := rightB at_ gn pn ln bo lt cu && withinB t 0 2199023255552
def overB (at_ gn pn ln bo lt cu t : Int) : Bool := atB at_ gn pn ln bo lt cu t && (decide (bo ≤ t) && decide (endF at_ ln bo lt cu ≤ t))
def soundsB (at_ gn pn ln bo lt cu t : Int) : Bool := atB at_ gn pn ln bo lt cu t && (decide (bo ≤ t) && decide (t < endF at_ ln bo lt cu))

theorem vlen_any (fr em ki od at_ gn pn pr ln : Int) (w : World) (h1 : withinB at_ 1 9 = true) (h2 : 0 ≤ ln ∧ ln ≤ 600) : Calls Try.prog 55 #[.agg #[.int .i64 fr, .int .i64 em, .int .i64 ki, .int .i64 od, .int .i64 at_, .int .i64 gn, .int .i64 pn, .int .i64 pr, .int .i64 ln]] w fun e w' => e = .returned (.int .i64 (lenF at_ ln)) ∧ Ext w w' := by
  by_cases c : 0 < ln
  · have k : lenF at_ ln = ln * 32 := if_pos c
    rw [k]; clear k
    go_enter Try.func55, Try.ntmps55
    go_wp2_with (go_at_call 24; refine (blen_yes _ _ h1).mono ?_; rintro e wx ⟨rfl, rfl⟩)
    go_ret
    exact ⟨rfl, by (repeat' (first | (with_reducible assumption) | (with_reducible exact Ext.refl _) | (with_reducible refine Ext.grow ?_ _) | (with_reducible refine Ext.drew ?_) | (with_reducible refine Ext.set ?_ ?_ _) | omega | (simp; done) | (simp; omega) | (refine Ext.trans ?_ (by assumption))))⟩
  · have k : lenF at_ ln = 48 * at_ := if_neg c
    rw [k]; clear k
    go_enter Try.func55, Try.ntmps55
    go_wp2_with (go_at_call 24; refine (blen_yes _ _ h1).mono ?_; rintro e wx ⟨rfl, rfl⟩)
    go_ret
    exact ⟨rfl, by (repeat' (first | (with_reducible assumption) | (with_reducible exact Ext.refl _) | (with_reducible refine Ext.grow ?_ _) | (with_reducible refine Ext.drew ?_) | (with_reducible refine Ext.set ?_ ?_ _) | omega | (simp; done) | (simp; omega) | (refine Ext.trans ?_ (by assumption))))⟩

theorem vends_no (fr em ki od at_ gn pn pr ln bo lt cu : Int) (w : World) (h : rightB at_ gn pn ln bo lt cu = false) : Calls Try.prog 15 #[.agg #[.int .i64 fr, .int .i64 em, .int .i64 ki, .int .i64 od, .int .i64 at_, .int .i64 gn, .int .i64 pn, .int .i64 pr, .int .i64 ln, .int .i64 bo, .int .i64 lt, .int .i64 cu]] w fun e w' => e = .returned (.int .i64 0) ∧ Ext w w' := by
  go_enter Try.func15, Try.ntmps15
  go_wp2_with fail
  refine (vright_any _ _ _ _ _ _ _ _ _ _ _ _ _).mono ?_
  rintro e wx ⟨rfl, hx⟩
  have hx9 := Ext.trans (show Ext w _ by (repeat' (first | (with_reducible assumption) | (with_reducible exact Ext.refl _) | (with_reducible refine Ext.grow ?_ _) | (with_reducible refine Ext.drew ?_) | (with_reducible refine Ext.set ?_ ?_ _) | omega | (simp; done) | (simp; omega) | (refine Ext.trans ?_ (by assumption))))) hx
  clear hx
  rw [h]
  go_wp2_with fail
  go_ret
  exact ⟨rfl, hx9⟩

set_option maxHeartbeats 4000000 in
theorem vends_yes (fr em ki od at_ gn pn pr ln bo lt cu : Int) (w : World) (h : rightB at_ gn pn ln bo lt cu = true) : Calls Try.prog 15 #[.agg #[.int .i64 fr, .int .i64 em, .int .i64 ki, .int .i64 od, .int .i64 at_, .int .i64 gn, .int .i64 pn, .int .i64 pr, .int .i64 ln, .int .i64 bo, .int .i64 lt, .int .i64 cu]] w fun e w' => e = .returned (.int .i64 (endF at_ ln bo lt cu)) ∧ Ext w w' := by
  obtain ⟨f1, f2, f3, f4, f5⟩ := right_facts h
  have f6 := lenF_bd f1 f2
  have f7 := Lib.hid (within_iff.2 f1)
  have f8 : IntKind.i64.wrap (lenF at_ ln - lt) = lenF at_ ln - lt := IntWalk.i64_in _ (by omega)
  have f9 : IntKind.i64.wrap (bo + max (lenF at_ ln - lt) 0) = bo + max (lenF at_ ln - lt) 0 := IntWalk.i64_in _ (by omega)
  have f0 : IntKind.i64.wrap (cu + 64) = cu + 64 := IntWalk.i64_in _ (by omega)
  have g1 : IntKind.i64.wrap bo = bo := IntWalk.i64_in _ (by omega)
  have hh := Lib.hid h
  clear h
  cases c : (cu == -1)
  · have k : endF at_ ln bo lt cu = min (bo + max (lenF at_ ln - lt) 0) (cu + 64) := if_neg (by simpa using c)
    rw [k]; clear k
    have c2 : (cu != -1) = true := by rw [bne, c]; rfl
    go_enter Try.func15, Try.ntmps15
    go_wp2_with fail
    refine calls_abs (fun W => Ext w W ∧ w.heap.size + 1 ≤ W.heap.size ∧ W.cell? ⟨w.heap.size, 0, none⟩ = some (.int .i64 fr) ∧ W.cell? ⟨w.heap.size, 1, none⟩ = some (.int .i64 em) ∧ W.cell? ⟨w.heap.size, 2, none⟩ = some (.int .i64 ki) ∧ W.cell? ⟨w.heap.size, 3, none⟩ = some (.int .i64 od) ∧ W.cell? ⟨w.heap.size, 4, none⟩ = some (.int .i64 at_) ∧ W.cell? ⟨w.heap.size, 5, none⟩ = some (.int .i64 gn) ∧ W.cell? ⟨w.heap.size, 6, none⟩ = some (.int .i64 pn) ∧ W.cell? ⟨w.heap.size, 7, none⟩ = some (.int .i64 pr) ∧ W.cell? ⟨w.heap.size, 8, none⟩ = some (.int .i64 ln) ∧ W.cell? ⟨w.heap.size, 9, none⟩ = some (.int .i64 bo) ∧ W.cell? ⟨w.heap.size, 10, none⟩ = some (.int .i64 lt) ∧ W.cell? ⟨w.heap.size, 11, none⟩ = some (.int .i64 cu)) (by refine ⟨by (repeat' (first | (with_reducible assumption) | (with_reducible exact Ext.refl _) | (with_reducible refine Ext.grow ?_ _) | (with_reducible refine Ext.drew ?_) | (with_reducible refine Ext.set ?_ ?_ _) | omega | (simp; done) | (simp; omega) | (refine Ext.trans ?_ (by assumption)))), by first | (with_reducible assumption) | (simp; done) | (simp; omega), ?_, ?_, ?_, ?_, ?_, ?_, ?_, ?_, ?_, ?_, ?_, ?_⟩ <;> first | (with_reducible assumption) | (go_simp; done) | (simp; omega)) ?_
    (try clear hx0)
    (try clear hsz)
    (try clear c0)
    (try clear c1)
    (try clear c2)
    (try clear c3)
    (try clear c4)
    (try clear c5)
    (try clear c6)
    (try clear c7)
    (try clear c8)
    (try clear c9)
    (try clear c10)
    (try clear c11)
    rintro W ⟨hx0, hsz, c0, c1, c2, c3, c4, c5, c6, c7, c8, c9, c10, c11⟩
    refine (vright_any _ _ _ _ _ _ _ _ _ _ _ _ _).mono ?_
    rintro e wx ⟨rfl, hx⟩
    have hsz1 := Ext.size hx
    replace c0 := (Ext.cell hx (by dsimp only; omega)).trans c0
    replace c1 := (Ext.cell hx (by dsimp only; omega)).trans c1
    replace c2 := (Ext.cell hx (by dsimp only; omega)).trans c2
    replace c3 := (Ext.cell hx (by dsimp only; omega)).trans c3
    replace c4 := (Ext.cell hx (by dsimp only; omega)).trans c4
    replace c5 := (Ext.cell hx (by dsimp only; omega)).trans c5
    replace c6 := (Ext.cell hx (by dsimp only; omega)).trans c6
    replace c7 := (Ext.cell hx (by dsimp only; omega)).trans c7
    replace c8 := (Ext.cell hx (by dsimp only; omega)).trans c8
    replace c9 := (Ext.cell hx (by dsimp only; omega)).trans c9
    replace c10 := (Ext.cell hx (by dsimp only; omega)).trans c10
    replace c11 := (Ext.cell hx (by dsimp only; omega)).trans c11
    replace hx0 := Ext.trans hx0 hx
    replace hsz := Nat.le_trans hsz hsz1
    clear hx hsz1
    have hl0 : w.heap.size < wx.heap.size := by omega
    rw [hh.out]
    go_wp2_with fail
    refine wp_region_held_drew (S := (fun w' => w'.cell? ⟨w.heap.size, 0, none⟩ = some (.int .i64 fr) ∧ w'.cell? ⟨w.heap.size, 1, none⟩ = some (.int .i64 em) ∧ w'.cell? ⟨w.heap.size, 2, none⟩ = some (.int .i64 ki) ∧ w'.cell? ⟨w.heap.size, 3, none⟩ = some (.int .i64 od) ∧ w'.cell? ⟨w.heap.size, 4, none⟩ = some (.int .i64 at_) ∧ w'.cell? ⟨w.heap.size, 5, none⟩ = some (.int .i64 gn) ∧ w'.cell? ⟨w.heap.size, 6, none⟩ = some (.int .i64 pn) ∧ w'.cell? ⟨w.heap.size, 7, none⟩ = some (.int .i64 pr) ∧ w'.cell? ⟨w.heap.size, 8, none⟩ = some (.int .i64 ln) ∧ w'.cell? ⟨w.heap.size, 9, none⟩ = some (.int .i64 bo) ∧ w'.cell? ⟨w.heap.size, 10, none⟩ = some (.int .i64 lt) ∧ w'.cell? ⟨w.heap.size, 11, none⟩ = some (.int .i64 cu) ∧ Ext w w')) (by kernel_rfl) ?_ (fun hHeld => ?_)
    · (((try dsimp only); (try go_split_ands); (repeat' (with_reducible apply And.intro)) <;> first | (with_reducible assumption) | ((with_reducible refine Ext.trans ?_ hx0); (with_reducible assumption)) | ((with_reducible refine (Ext.cell hx0 ?_).trans ?_) <;> first | (with_reducible assumption) | (simp; done) | (simp; omega)) | ((with_reducible refine (Ext.frozen hx0 ?_).trans ?_) <;> first | (with_reducible assumption) | (simp; done) | (simp; omega)) | ((with_reducible refine Ext.held hx0 ?_ ?_) <;> first | (with_reducible assumption) | (simp; done) | (simp; omega)) | ((with_reducible refine Nat.le_trans ?_ (Ext.size hx0)); (with_reducible assumption)) | ((with_reducible refine Nat.lt_of_lt_of_le ?_ (Ext.size hx0)); (with_reducible assumption)) | ((with_reducible refine Ext.drew ?_); (repeat' (first | (with_reducible assumption) | (with_reducible exact Ext.refl _) | (with_reducible refine Ext.grow ?_ _) | (with_reducible refine Ext.drew ?_) | (with_reducible refine Ext.set ?_ ?_ _) | omega | (simp; done) | (simp; omega) | (refine Ext.trans ?_ (by assumption)))); done) | ((repeat' (with_reducible refine Ext.set ?_ ?_ _)) <;> first | (with_reducible assumption) | omega | (simp; done) | (simp; omega)) | ((with_reducible refine Ext.grow ?_ _); (repeat' (first | (with_reducible assumption) | (with_reducible exact Ext.refl _) | (with_reducible refine Ext.grow ?_ _) | (with_reducible refine Ext.drew ?_) | (with_reducible refine Ext.set ?_ ?_ _) | omega | (simp; done) | (simp; omega) | (refine Ext.trans ?_ (by assumption)))); done) | ((with_reducible refine heldAt_some ?_); (go_simp; done)) | (go_simp; done) | (simp; omega)))
    refine wpAnyH_take (i := 0) (v := ?_) rfl (by kernel_rfl) (by kernel_rfl) (by kernel_rfl) (fun _ _ _ h => h) (Or.inl ⟨by kernel_rfl, ?_⟩) (by assumption) ?_
    rotate_left
    · (intro w hSw; (try dsimp only at hSw); go_simp; (try (with_reducible rfl)))
    (try simp only [Act.put, List.getElem_toArray, List.getElem_cons_succ, List.getElem_cons_zero, List.setIfInBounds_toArray, List.set_cons_zero, List.set_cons_succ])
    refine wpAnyH_take (i := 1) (v := ?_) rfl (by kernel_rfl) (by kernel_rfl) (by kernel_rfl) (fun _ _ _ h => h) (Or.inl ⟨by kernel_rfl, ?_⟩) (by assumption) ?_
    rotate_left
    · (intro w hSw; (try dsimp only at hSw); go_simp; (try (with_reducible rfl)))
    (try simp only [Act.put, List.getElem_toArray, List.getElem_cons_succ, List.getElem_cons_zero, List.setIfInBounds_toArray, List.set_cons_zero, List.set_cons_succ])
    refine wpAnyH_take (i := 2) (v := ?_) rfl (by kernel_rfl) (by kernel_rfl) (by kernel_rfl) (fun _ _ _ h => h) (Or.inl ⟨by kernel_rfl, ?_⟩) (by assumption) ?_
    rotate_left
    · (intro w hSw; (try dsimp only at hSw); go_simp; (try (with_reducible rfl)))
    (try simp only [Act.put, List.getElem_toArray, List.getElem_cons_succ, List.getElem_cons_zero, List.setIfInBounds_toArray, List.set_cons_zero, List.set_cons_succ])
    refine wpAnyH_take (i := 3) (v := ?_) rfl (by kernel_rfl) (by kernel_rfl) (by kernel_rfl) (fun _ _ _ h => h) (Or.inl ⟨by kernel_rfl, ?_⟩) (by assumption) ?_
    rotate_left
    · (intro w hSw; (try dsimp only at hSw); go_simp; (try (with_reducible rfl)))
    (try simp only [Act.put, List.getElem_toArray, List.getElem_cons_succ, List.getElem_cons_zero, List.setIfInBounds_toArray, List.set_cons_zero, List.set_cons_succ])
    refine wpAnyH_take (i := 5) (v := ?_) rfl (by kernel_rfl) (by kernel_rfl) (by kernel_rfl) (fun _ _ _ h => h) (Or.inl ⟨by kernel_rfl, ?_⟩) (by assumption) ?_
    rotate_left
    · (intro w hSw; (try dsimp only at hSw); go_simp; (try (with_reducible rfl)))
    (try simp only [Act.put, List.getElem_toArray, List.getElem_cons_succ, List.getElem_cons_zero, List.setIfInBounds_toArray, List.set_cons_zero, List.set_cons_succ])
    refine wpAnyH_take (i := 6) (v := ?_) rfl (by kernel_rfl) (by kernel_rfl) (by kernel_rfl) (fun _ _ _ h => h) (Or.inl ⟨by kernel_rfl, ?_⟩) (by assumption) ?_
    rotate_left
    · (intro w hSw; (try dsimp only at hSw); go_simp; (try (with_reducible rfl)))
    (try simp only [Act.put, List.getElem_toArray, List.getElem_cons_succ, List.getElem_cons_zero, List.setIfInBounds_toArray, List.set_cons_zero, List.set_cons_succ])
    refine wpAnyH_ready (rs := [4]) (by kernel_rfl) (by simp) ?_
    refine AllReadyH.cons rfl (fun K hK => ?_) AllReadyH.nil
    go_simp
    (go_at_call 55; refine (vlen_any _ _ _ _ _ _ _ _ _ _ f7.out f2).mono ?_; rintro e wx ⟨rfl, hx⟩)
    refine hK.out _ _ ?_ (fun hHeld1 => ?_)
    · (((try dsimp only); (try go_split_ands); (repeat' (with_reducible apply And.intro)) <;> first | (with_reducible assumption) | ((with_reducible refine Ext.trans ?_ hx); (with_reducible assumption)) | ((with_reducible refine (Ext.cell hx ?_).trans ?_) <;> first | (with_reducible assumption) | (simp; done) | (simp; omega)) | ((with_reducible refine (Ext.frozen hx ?_).trans ?_) <;> first | (with_reducible assumption) | (simp; done) | (simp; omega)) | ((with_reducible refine Ext.held hx ?_ ?_) <;> first | (with_reducible assumption) | (simp; done) | (simp; omega)) | ((with_reducible refine Nat.le_trans ?_ (Ext.size hx)); (with_reducible assumption)) | ((with_reducible refine Nat.lt_of_lt_of_le ?_ (Ext.size hx)); (with_reducible assumption)) | ((with_reducible refine Ext.drew ?_); (repeat' (first | (with_reducible assumption) | (with_reducible exact Ext.refl _) | (with_reducible refine Ext.grow ?_ _) | (with_reducible refine Ext.drew ?_) | (with_reducible refine Ext.set ?_ ?_ _) | omega | (simp; done) | (simp; omega) | (refine Ext.trans ?_ (by assumption)))); done) | ((repeat' (with_reducible refine Ext.set ?_ ?_ _)) <;> first | (with_reducible assumption) | omega | (simp; done) | (simp; omega)) | ((with_reducible refine Ext.grow ?_ _); (repeat' (first | (with_reducible assumption) | (with_reducible exact Ext.refl _) | (with_reducible refine Ext.grow ?_ _) | (with_reducible refine Ext.drew ?_) | (with_reducible refine Ext.set ?_ ?_ _) | omega | (simp; done) | (simp; omega) | (refine Ext.trans ?_ (by assumption)))); done) | ((with_reducible refine heldAt_some ?_); (go_simp; done)) | (go_simp; done) | (simp; omega)))
    replace hHeld := hHeld1
    clear hHeld1 hK K
    (try simp only [Act.put, List.getElem_toArray, List.getElem_cons_succ, List.getElem_cons_zero, List.setIfInBounds_toArray, List.set_cons_zero, List.set_cons_succ])
    refine wpAnyH_take (i := 7) (v := ?_) rfl (by kernel_rfl) (by kernel_rfl) (by kernel_rfl) (fun _ _ _ h => h) (Or.inl ⟨by kernel_rfl, ?_⟩) (by assumption) ?_
    rotate_left
    · (intro w hSw; (try dsimp only at hSw); go_simp; (try (with_reducible rfl)))
    (try simp only [Act.put, List.getElem_toArray, List.getElem_cons_succ, List.getElem_cons_zero, List.setIfInBounds_toArray, List.set_cons_zero, List.set_cons_succ])
    refine wpAnyH_take (i := 8) (v := ?_) rfl (by kernel_rfl) (by kernel_rfl) (by kernel_rfl) (fun _ _ _ h => h) (Or.inl ⟨by kernel_rfl, ?_⟩) (by assumption) ?_
    rotate_left
    · (intro w hSw; (try dsimp only at hSw); go_simp; (try (with_reducible rfl)))
    (try simp only [Act.put, List.getElem_toArray, List.getElem_cons_succ, List.getElem_cons_zero, List.setIfInBounds_toArray, List.set_cons_zero, List.set_cons_succ])
    refine wpAnyH_take (i := 9) (v := ?_) rfl (by kernel_rfl) (by kernel_rfl) (by kernel_rfl) (fun _ _ _ h => h) (Or.inl ⟨by kernel_rfl, ?_⟩) (by assumption) ?_
    rotate_left
    · (intro w hSw; (try dsimp only at hSw); go_simp; (try (with_reducible rfl)))
    (try simp only [Act.put, List.getElem_toArray, List.getElem_cons_succ, List.getElem_cons_zero, List.setIfInBounds_toArray, List.set_cons_zero, List.set_cons_succ])
    refine wpAnyH_take (i := 10) (v := ?_) rfl (by kernel_rfl) (by kernel_rfl) (by kernel_rfl) (fun _ _ _ h => h) (Or.inl ⟨by kernel_rfl, ?_⟩) (by assumption) ?_
    rotate_left
    · (intro w hSw; (try dsimp only at hSw); go_simp; (try (with_reducible rfl)))
    (try simp only [Act.put, List.getElem_toArray, List.getElem_cons_succ, List.getElem_cons_zero, List.setIfInBounds_toArray, List.set_cons_zero, List.set_cons_succ])
    refine wpAnyH_done (by kernel_rfl) ?_ _
    go_split_ands
    go_wp2_with fail
    all_goals (go_ret; refine ⟨ret_int ?_, by (repeat' (first | (with_reducible assumption) | (with_reducible exact Ext.refl _) | (with_reducible refine Ext.grow ?_ _) | (with_reducible refine Ext.drew ?_) | (with_reducible refine Ext.set ?_ ?_ _) | omega | (simp; done) | (simp; omega) | (refine Ext.trans ?_ (by assumption))))⟩; first | omega | (rw [IntWalk.i64_in (bo + (lenF at_ ln - lt)) (by omega)]; omega))
  · have k : endF at_ ln bo lt cu = bo + max (lenF at_ ln - lt) 0 := if_pos (by simpa using c)
    rw [k]; clear k
    have c2 : (cu != -1) = false := by rw [bne, c]; rfl
    go_enter Try.func15, Try.ntmps15
    go_wp2_with fail
    refine calls_abs (fun W => Ext w W ∧ w.heap.size + 1 ≤ W.heap.size ∧ W.cell? ⟨w.heap.size, 0, none⟩ = some (.int .i64 fr) ∧ W.cell? ⟨w.heap.size, 1, none⟩ = some (.int .i64 em) ∧ W.cell? ⟨w.heap.size, 2, none⟩ = some (.int .i64 ki) ∧ W.cell? ⟨w.heap.size, 3, none⟩ = some (.int .i64 od) ∧ W.cell? ⟨w.heap.size, 4, none⟩ = some (.int .i64 at_) ∧ W.cell? ⟨w.heap.size, 5, none⟩ = some (.int .i64 gn) ∧ W.cell? ⟨w.heap.size, 6, none⟩ = some (.int .i64 pn) ∧ W.cell? ⟨w.heap.size, 7, none⟩ = some (.int .i64 pr) ∧ W.cell? ⟨w.heap.size, 8, none⟩ = some (.int .i64 ln) ∧ W.cell? ⟨w.heap.size, 9, none⟩ = some (.int .i64 bo) ∧ W.cell? ⟨w.heap.size, 10, none⟩ = some (.int .i64 lt) ∧ W.cell? ⟨w.heap.size, 11, none⟩ = some (.int .i64 cu)) (by refine ⟨by (repeat' (first | (with_reducible assumption) | (with_reducible exact Ext.refl _) | (with_reducible refine Ext.grow ?_ _) | (with_reducible refine Ext.drew ?_) | (with_reducible refine Ext.set ?_ ?_ _) | omega | (simp; done) | (simp; omega) | (refine Ext.trans ?_ (by assumption)))), by first | (with_reducible assumption) | (simp; done) | (simp; omega), ?_, ?_, ?_, ?_, ?_, ?_, ?_, ?_, ?_, ?_, ?_, ?_⟩ <;> first | (with_reducible assumption) | (go_simp; done) | (simp; omega)) ?_
    (try clear hx0)
    (try clear hsz)
    (try clear c0)
    (try clear c1)
    (try clear c2)
    (try clear c3)
    (try clear c4)
    (try clear c5)
    (try clear c6)
    (try clear c7)
    (try clear c8)
    (try clear c9)
    (try clear c10)
    (try clear c11)
    rintro W ⟨hx0, hsz, c0, c1, c2, c3, c4, c5, c6, c7, c8, c9, c10, c11⟩
    refine (vright_any _ _ _ _ _ _ _ _ _ _ _ _ _).mono ?_
    rintro e wx ⟨rfl, hx⟩
    have hsz1 := Ext.size hx
    replace c0 := (Ext.cell hx (by dsimp only; omega)).trans c0
    replace c1 := (Ext.cell hx (by dsimp only; omega)).trans c1
    replace c2 := (Ext.cell hx (by dsimp only; omega)).trans c2
    replace c3 := (Ext.cell hx (by dsimp only; omega)).trans c3
    replace c4 := (Ext.cell hx (by dsimp only; omega)).trans c4
    replace c5 := (Ext.cell hx (by dsimp only; omega)).trans c5
    replace c6 := (Ext.cell hx (by dsimp only; omega)).trans c6
    replace c7 := (Ext.cell hx (by dsimp only; omega)).trans c7
    replace c8 := (Ext.cell hx (by dsimp only; omega)).trans c8
    replace c9 := (Ext.cell hx (by dsimp only; omega)).trans c9
    replace c10 := (Ext.cell hx (by dsimp only; omega)).trans c10
    replace c11 := (Ext.cell hx (by dsimp only; omega)).trans c11
    replace hx0 := Ext.trans hx0 hx
    replace hsz := Nat.le_trans hsz hsz1
    clear hx hsz1
    have hl0 : w.heap.size < wx.heap.size := by omega
    rw [hh.out]
    go_wp2_with fail
    refine wp_region_held_drew (S := (fun w' => w'.cell? ⟨w.heap.size, 0, none⟩ = some (.int .i64 fr) ∧ w'.cell? ⟨w.heap.size, 1, none⟩ = some (.int .i64 em) ∧ w'.cell? ⟨w.heap.size, 2, none⟩ = some (.int .i64 ki) ∧ w'.cell? ⟨w.heap.size, 3, none⟩ = some (.int .i64 od) ∧ w'.cell? ⟨w.heap.size, 4, none⟩ = some (.int .i64 at_) ∧ w'.cell? ⟨w.heap.size, 5, none⟩ = some (.int .i64 gn) ∧ w'.cell? ⟨w.heap.size, 6, none⟩ = some (.int .i64 pn) ∧ w'.cell? ⟨w.heap.size, 7, none⟩ = some (.int .i64 pr) ∧ w'.cell? ⟨w.heap.size, 8, none⟩ = some (.int .i64 ln) ∧ w'.cell? ⟨w.heap.size, 9, none⟩ = some (.int .i64 bo) ∧ w'.cell? ⟨w.heap.size, 10, none⟩ = some (.int .i64 lt) ∧ w'.cell? ⟨w.heap.size, 11, none⟩ = some (.int .i64 cu) ∧ Ext w w')) (by kernel_rfl) ?_ (fun hHeld => ?_)
    · (((try dsimp only); (try go_split_ands); (repeat' (with_reducible apply And.intro)) <;> first | (with_reducible assumption) | ((with_reducible refine Ext.trans ?_ hx0); (with_reducible assumption)) | ((with_reducible refine (Ext.cell hx0 ?_).trans ?_) <;> first | (with_reducible assumption) | (simp; done) | (simp; omega)) | ((with_reducible refine (Ext.frozen hx0 ?_).trans ?_) <;> first | (with_reducible assumption) | (simp; done) | (simp; omega)) | ((with_reducible refine Ext.held hx0 ?_ ?_) <;> first | (with_reducible assumption) | (simp; done) | (simp; omega)) | ((with_reducible refine Nat.le_trans ?_ (Ext.size hx0)); (with_reducible assumption)) | ((with_reducible refine Nat.lt_of_lt_of_le ?_ (Ext.size hx0)); (with_reducible assumption)) | ((with_reducible refine Ext.drew ?_); (repeat' (first | (with_reducible assumption) | (with_reducible exact Ext.refl _) | (with_reducible refine Ext.grow ?_ _) | (with_reducible refine Ext.drew ?_) | (with_reducible refine Ext.set ?_ ?_ _) | omega | (simp; done) | (simp; omega) | (refine Ext.trans ?_ (by assumption)))); done) | ((repeat' (with_reducible refine Ext.set ?_ ?_ _)) <;> first | (with_reducible assumption) | omega | (simp; done) | (simp; omega)) | ((with_reducible refine Ext.grow ?_ _); (repeat' (first | (with_reducible assumption) | (with_reducible exact Ext.refl _) | (with_reducible refine Ext.grow ?_ _) | (with_reducible refine Ext.drew ?_) | (with_reducible refine Ext.set ?_ ?_ _) | omega | (simp; done) | (simp; omega) | (refine Ext.trans ?_ (by assumption)))); done) | ((with_reducible refine heldAt_some ?_); (go_simp; done)) | (go_simp; done) | (simp; omega)))
    refine wpAnyH_take (i := 0) (v := ?_) rfl (by kernel_rfl) (by kernel_rfl) (by kernel_rfl) (fun _ _ _ h => h) (Or.inl ⟨by kernel_rfl, ?_⟩) (by assumption) ?_
    rotate_left
    · (intro w hSw; (try dsimp only at hSw); go_simp; (try (with_reducible rfl)))
    (try simp only [Act.put, List.getElem_toArray, List.getElem_cons_succ, List.getElem_cons_zero, List.setIfInBounds_toArray, List.set_cons_zero, List.set_cons_succ])
    refine wpAnyH_take (i := 1) (v := ?_) rfl (by kernel_rfl) (by kernel_rfl) (by kernel_rfl) (fun _ _ _ h => h) (Or.inl ⟨by kernel_rfl, ?_⟩) (by assumption) ?_
    rotate_left
    · (intro w hSw; (try dsimp only at hSw); go_simp; (try (with_reducible rfl)))
    (try simp only [Act.put, List.getElem_toArray, List.getElem_cons_succ, List.getElem_cons_zero, List.setIfInBounds_toArray, List.set_cons_zero, List.set_cons_succ])
    refine wpAnyH_take (i := 2) (v := ?_) rfl (by kernel_rfl) (by kernel_rfl) (by kernel_rfl) (fun _ _ _ h => h) (Or.inl ⟨by kernel_rfl, ?_⟩) (by assumption) ?_
    rotate_left
    · (intro w hSw; (try dsimp only at hSw); go_simp; (try (with_reducible rfl)))
    (try simp only [Act.put, List.getElem_toArray, List.getElem_cons_succ, List.getElem_cons_zero, List.setIfInBounds_toArray, List.set_cons_zero, List.set_cons_succ])
    refine wpAnyH_take (i := 3) (v := ?_) rfl (by kernel_rfl) (by kernel_rfl) (by kernel_rfl) (fun _ _ _ h => h) (Or.inl ⟨by kernel_rfl, ?_⟩) (by assumption) ?_
    rotate_left
    · (intro w hSw; (try dsimp only at hSw); go_simp; (try (with_reducible rfl)))
    (try simp only [Act.put, List.getElem_toArray, List.getElem_cons_succ, List.getElem_cons_zero, List.setIfInBounds_toArray, List.set_cons_zero, List.set_cons_succ])
    refine wpAnyH_take (i := 5) (v := ?_) rfl (by kernel_rfl) (by kernel_rfl) (by kernel_rfl) (fun _ _ _ h => h) (Or.inl ⟨by kernel_rfl, ?_⟩) (by assumption) ?_
    rotate_left
    · (intro w hSw; (try dsimp only at hSw); go_simp; (try (with_reducible rfl)))
    (try simp only [Act.put, List.getElem_toArray, List.getElem_cons_succ, List.getElem_cons_zero, List.setIfInBounds_toArray, List.set_cons_zero, List.set_cons_succ])
    refine wpAnyH_take (i := 6) (v := ?_) rfl (by kernel_rfl) (by kernel_rfl) (by kernel_rfl) (fun _ _ _ h => h) (Or.inl ⟨by kernel_rfl, ?_⟩) (by assumption) ?_
    rotate_left
    · (intro w hSw; (try dsimp only at hSw); go_simp; (try (with_reducible rfl)))
    (try simp only [Act.put, List.getElem_toArray, List.getElem_cons_succ, List.getElem_cons_zero, List.setIfInBounds_toArray, List.set_cons_zero, List.set_cons_succ])
    refine wpAnyH_ready (rs := [4]) (by kernel_rfl) (by simp) ?_
    refine AllReadyH.cons rfl (fun K hK => ?_) AllReadyH.nil
    go_simp
    (go_at_call 55; refine (vlen_any _ _ _ _ _ _ _ _ _ _ f7.out f2).mono ?_; rintro e wx ⟨rfl, hx⟩)
    refine hK.out _ _ ?_ (fun hHeld1 => ?_)
    · (((try dsimp only); (try go_split_ands); (repeat' (with_reducible apply And.intro)) <;> first | (with_reducible assumption) | ((with_reducible refine Ext.trans ?_ hx); (with_reducible assumption)) | ((with_reducible refine (Ext.cell hx ?_).trans ?_) <;> first | (with_reducible assumption) | (simp; done) | (simp; omega)) | ((with_reducible refine (Ext.frozen hx ?_).trans ?_) <;> first | (with_reducible assumption) | (simp; done) | (simp; omega)) | ((with_reducible refine Ext.held hx ?_ ?_) <;> first | (with_reducible assumption) | (simp; done) | (simp; omega)) | ((with_reducible refine Nat.le_trans ?_ (Ext.size hx)); (with_reducible assumption)) | ((with_reducible refine Nat.lt_of_lt_of_le ?_ (Ext.size hx)); (with_reducible assumption)) | ((with_reducible refine Ext.drew ?_); (repeat' (first | (with_reducible assumption) | (with_reducible exact Ext.refl _) | (with_reducible refine Ext.grow ?_ _) | (with_reducible refine Ext.drew ?_) | (with_reducible refine Ext.set ?_ ?_ _) | omega | (simp; done) | (simp; omega) | (refine Ext.trans ?_ (by assumption)))); done) | ((repeat' (with_reducible refine Ext.set ?_ ?_ _)) <;> first | (with_reducible assumption) | omega | (simp; done) | (simp; omega)) | ((with_reducible refine Ext.grow ?_ _); (repeat' (first | (with_reducible assumption) | (with_reducible exact Ext.refl _) | (with_reducible refine Ext.grow ?_ _) | (with_reducible refine Ext.drew ?_) | (with_reducible refine Ext.set ?_ ?_ _) | omega | (simp; done) | (simp; omega) | (refine Ext.trans ?_ (by assumption)))); done) | ((with_reducible refine heldAt_some ?_); (go_simp; done)) | (go_simp; done) | (simp; omega)))
    replace hHeld := hHeld1
    clear hHeld1 hK K
    (try simp only [Act.put, List.getElem_toArray, List.getElem_cons_succ, List.getElem_cons_zero, List.setIfInBounds_toArray, List.set_cons_zero, List.set_cons_succ])
    refine wpAnyH_take (i := 7) (v := ?_) rfl (by kernel_rfl) (by kernel_rfl) (by kernel_rfl) (fun _ _ _ h => h) (Or.inl ⟨by kernel_rfl, ?_⟩) (by assumption) ?_
    rotate_left
    · (intro w hSw; (try dsimp only at hSw); go_simp; (try (with_reducible rfl)))
    (try simp only [Act.put, List.getElem_toArray, List.getElem_cons_succ, List.getElem_cons_zero, List.setIfInBounds_toArray, List.set_cons_zero, List.set_cons_succ])
    refine wpAnyH_take (i := 8) (v := ?_) rfl (by kernel_rfl) (by kernel_rfl) (by kernel_rfl) (fun _ _ _ h => h) (Or.inl ⟨by kernel_rfl, ?_⟩) (by assumption) ?_
    rotate_left
    · (intro w hSw; (try dsimp only at hSw); go_simp; (try (with_reducible rfl)))
    (try simp only [Act.put, List.getElem_toArray, List.getElem_cons_succ, List.getElem_cons_zero, List.setIfInBounds_toArray, List.set_cons_zero, List.set_cons_succ])
    refine wpAnyH_take (i := 9) (v := ?_) rfl (by kernel_rfl) (by kernel_rfl) (by kernel_rfl) (fun _ _ _ h => h) (Or.inl ⟨by kernel_rfl, ?_⟩) (by assumption) ?_
    rotate_left
    · (intro w hSw; (try dsimp only at hSw); go_simp; (try (with_reducible rfl)))
    (try simp only [Act.put, List.getElem_toArray, List.getElem_cons_succ, List.getElem_cons_zero, List.setIfInBounds_toArray, List.set_cons_zero, List.set_cons_succ])
    refine wpAnyH_take (i := 10) (v := ?_) rfl (by kernel_rfl) (by kernel_rfl) (by kernel_rfl) (fun _ _ _ h => h) (Or.inl ⟨by kernel_rfl, ?_⟩) (by assumption) ?_
    rotate_left
    · (intro w hSw; (try dsimp only at hSw); go_simp; (try (with_reducible rfl)))
    (try simp only [Act.put, List.getElem_toArray, List.getElem_cons_succ, List.getElem_cons_zero, List.setIfInBounds_toArray, List.set_cons_zero, List.set_cons_succ])
    refine wpAnyH_done (by kernel_rfl) ?_ _
    go_split_ands
    go_wp2_with fail
    all_goals (go_ret; refine ⟨ret_int ?_, by (repeat' (first | (with_reducible assumption) | (with_reducible exact Ext.refl _) | (with_reducible refine Ext.grow ?_ _) | (with_reducible refine Ext.drew ?_) | (with_reducible refine Ext.set ?_ ?_ _) | omega | (simp; done) | (simp; omega) | (refine Ext.trans ?_ (by assumption))))⟩; first | omega | (rw [IntWalk.i64_in (bo + (lenF at_ ln - lt)) (by omega)]; omega))

end Go.Proofs.Ytikdnldngonpoaa
