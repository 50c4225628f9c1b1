/- 'TweenEnds'. Conditions: the contracts' own. Own work; the normal forms were printed by a program of mine (wip/rex). -/
import Derived.Test.YtlmhklaobfmhbaaRT4
namespace Go.Proofs.Ytlmhklaobfmhbaa
open Go.RowKit Rex
set_option linter.unusedVariables false
set_option linter.unusedSimpArgs false
set_option maxRecDepth 100000


theorem lerp_0 {a b o : Int} (ha : -2147483648 ≤ a ∧ a ≤ 2147483647) : lerpF a b 0 o = a := by
  unfold lerpF; rw [Int.mul_zero, Int.zero_ediv, Int.add_zero, sat_in a ha]
theorem lerp_o {a b o : Int} (ho : 1 ≤ o) (hb : -2147483648 ≤ b ∧ b ≤ 2147483647) : lerpF a b o o = b := by
  unfold lerpF; rw [Int.mul_ediv_cancel _ (by omega), show a + (b - a) = b by omega, sat_in b hb]
theorem ang_0 {f t o : Int} (hf : 0 ≤ f ∧ f ≤ 65535) : angF f t 0 o = f := by
  unfold angF; rw [lerp_0 (by omega)]; omega
theorem ang_o {f t o : Int} (ho : 1 ≤ o) (ht : 0 ≤ t ∧ t ≤ 65535) : angF f t o o = t := by
  unfold angF
  rw [lerp_o ho (by unfold byF; omega)]
  unfold byF; omega
theorem mixX_0 {c : Bool} {a b o : Int} (ho : 1 ≤ o) (ha : -2147483648 ≤ a ∧ a ≤ 2147483647) : mixX c a b 0 o = a := by
  unfold mixX; split
  · exact lerp_0 ha
  · rw [if_neg (by omega)]
theorem mixX_o {c : Bool} {a b o : Int} (ho : 1 ≤ o) (hb : -2147483648 ≤ b ∧ b ≤ 2147483647) : mixX c a b o o = b := by
  unfold mixX; split
  · exact lerp_o ho hb
  · rw [if_pos rfl]
theorem mixF_0 {c : Bool} {f t o : Int} (ho : 1 ≤ o) (hf : 0 ≤ f ∧ f ≤ 65535) : mixF c f t 0 o = f := by
  unfold mixF; split
  · exact ang_0 hf
  · rw [if_neg (by omega)]
theorem mixF_o {c : Bool} {f t o : Int} (ho : 1 ≤ o) (ht : 0 ≤ t ∧ t ≤ 65535) : mixF c f t o o = t := by
  unfold mixF; split
  · exact ang_o ho ht
  · rw [if_pos rfl]
theorem mixO_0 {c : Bool} {a b o : Int} (ho : 1 ≤ o) : mixO c a b 0 o = a := by
  unfold mixO; split
  · rfl
  · rw [if_neg (by omega)]
theorem mixO_o {a b la lb o : Int} : mixO (sB a b la lb) a b o o = b := by
  unfold mixO; split
  · rename_i h
    unfold sB at h
    simp only [Bool.and_eq_true, beq_iff_eq] at h
    exact h.2.1
  · rw [if_pos rfl]
theorem mixU_0 {da db x y z u o : Int} (ho : 1 ≤ o) (ha : 0 ≤ da) : (cB da db x y z u || (if (0 : Int) = o then db == 0 else da == 0)) = (da == 0) := by
  rw [if_neg (by omega)]
  cases h : cB da db x y z u
  · rfl
  · unfold cB at h
    simp only [Bool.and_eq_true, decide_eq_true_eq] at h
    obtain rfl : da = 0 := by omega
    rfl
theorem mixU_o {da db x y z u o : Int} (hb : 0 ≤ db) : (cB da db x y z u || (if o = o then db == 0 else da == 0)) = (db == 0) := by
  rw [if_pos rfl]
  cases h : cB da db x y z u
  · rfl
  · unfold cB at h
    simp only [Bool.and_eq_true, decide_eq_true_eq] at h
    obtain rfl : db = 0 := by omega
    rfl
theorem mixU_p {da db x y z u : Int} (hb : 0 ≤ db) : (cB da db x y z u || db == 0) = (db == 0) := by
  have := @mixU_o da db x y z u 0 hb
  rwa [if_pos rfl] at this
theorem player_facts {x y f h c w d s : Int} (k : playerB x y f h c w d s = true) : (0 ≤ f ∧ f ≤ 65535) ∧ 0 ≤ d ∧ d ≤ 30 := by
  unfold playerB at k
  simp only [Bool.and_eq_true, decide_eq_true_eq] at k
  omega


noncomputable def c_TweenEnds : FC := fun us => gA us fun ls0_0 us0 => gI .i64 ls0_0 fun fra ls0_1 => gI .u32 ls0_1 fun dca ls0_2 => gI .i64 ls0_2 fun rda ls0_3 => gI .i64 ls0_3 fun lfa ls0_4 => gI .i32 ls0_4 fun px0a ls0_5 => gI .i32 ls0_5 fun py0a ls0_6 => gI .i32 ls0_6 fun pu0a ls0_7 => gI .i32 ls0_7 fun pv0a ls0_8 => gI .i64 ls0_8 fun pf0a ls0_9 => gI .i64 ls0_9 fun ph0a ls0_10 => gI .i64 ls0_10 fun pc0a ls0_11 => gI .i64 ls0_11 fun pw0a ls0_12 => gI .i64 ls0_12 fun pd0a ls0_13 => gI .i64 ls0_13 fun ps0a ls0_14 => gI .i32 ls0_14 fun px1a ls0_15 => gI .i32 ls0_15 fun py1a ls0_16 => gI .i32 ls0_16 fun pu1a ls0_17 => gI .i32 ls0_17 fun pv1a ls0_18 => gI .i64 ls0_18 fun pf1a ls0_19 => gI .i64 ls0_19 fun ph1a ls0_20 => gI .i64 ls0_20 fun pc1a ls0_21 => gI .i64 ls0_21 fun pw1a ls0_22 => gI .i64 ls0_22 fun pd1a ls0_23 => gI .i64 ls0_23 fun ps1a ls0_24 => gI .i32 ls0_24 fun sx0a ls0_25 => gI .i32 ls0_25 fun sy0a ls0_26 => gI .i32 ls0_26 fun su0a ls0_27 => gI .i32 ls0_27 fun sv0a ls0_28 => gI .i64 ls0_28 fun so0a ls0_29 => gI .i64 ls0_29 fun sl0a ls0_30 => gI .i32 ls0_30 fun sx1a ls0_31 => gI .i32 ls0_31 fun sy1a ls0_32 => gI .i32 ls0_32 fun su1a ls0_33 => gI .i32 ls0_33 fun sv1a ls0_34 => gI .i64 ls0_34 fun so1a ls0_35 => gI .i64 ls0_35 fun sl1a ls0_36 => gI .i32 ls0_36 fun sx2a ls0_37 => gI .i32 ls0_37 fun sy2a ls0_38 => gI .i32 ls0_38 fun su2a ls0_39 => gI .i32 ls0_39 fun sv2a ls0_40 => gI .i64 ls0_40 fun so2a ls0_41 => gI .i64 ls0_41 fun sl2a ls0_42 => gI .i32 ls0_42 fun sx3a ls0_43 => gI .i32 ls0_43 fun sy3a ls0_44 => gI .i32 ls0_44 fun su3a ls0_45 => gI .i32 ls0_45 fun sv3a ls0_46 => gI .i64 ls0_46 fun so3a ls0_47 => gI .i64 ls0_47 fun sl3a ls0_48 => gI .i32 ls0_48 fun sx4a ls0_49 => gI .i32 ls0_49 fun sy4a ls0_50 => gI .i32 ls0_50 fun su4a ls0_51 => gI .i32 ls0_51 fun sv4a ls0_52 => gI .i64 ls0_52 fun so4a ls0_53 => gI .i64 ls0_53 fun sl4a ls0_54 => gI .i32 ls0_54 fun sx5a ls0_55 => gI .i32 ls0_55 fun sy5a ls0_56 => gI .i32 ls0_56 fun su5a ls0_57 => gI .i32 ls0_57 fun sv5a ls0_58 => gI .i64 ls0_58 fun so5a ls0_59 => gI .i64 ls0_59 fun sl5a ls0_60 => gN ls0_60 <| gA us0 fun ls1_0 us1 => gI .i64 ls1_0 fun frb ls1_1 => gI .u32 ls1_1 fun dcb ls1_2 => gI .i64 ls1_2 fun rdb ls1_3 => gI .i64 ls1_3 fun lfb ls1_4 => gI .i32 ls1_4 fun px0b ls1_5 => gI .i32 ls1_5 fun py0b ls1_6 => gI .i32 ls1_6 fun pu0b ls1_7 => gI .i32 ls1_7 fun pv0b ls1_8 => gI .i64 ls1_8 fun pf0b ls1_9 => gI .i64 ls1_9 fun ph0b ls1_10 => gI .i64 ls1_10 fun pc0b ls1_11 => gI .i64 ls1_11 fun pw0b ls1_12 => gI .i64 ls1_12 fun pd0b ls1_13 => gI .i64 ls1_13 fun ps0b ls1_14 => gI .i32 ls1_14 fun px1b ls1_15 => gI .i32 ls1_15 fun py1b ls1_16 => gI .i32 ls1_16 fun pu1b ls1_17 => gI .i32 ls1_17 fun pv1b ls1_18 => gI .i64 ls1_18 fun pf1b ls1_19 => gI .i64 ls1_19 fun ph1b ls1_20 => gI .i64 ls1_20 fun pc1b ls1_21 => gI .i64 ls1_21 fun pw1b ls1_22 => gI .i64 ls1_22 fun pd1b ls1_23 => gI .i64 ls1_23 fun ps1b ls1_24 => gI .i32 ls1_24 fun sx0b ls1_25 => gI .i32 ls1_25 fun sy0b ls1_26 => gI .i32 ls1_26 fun su0b ls1_27 => gI .i32 ls1_27 fun sv0b ls1_28 => gI .i64 ls1_28 fun so0b ls1_29 => gI .i64 ls1_29 fun sl0b ls1_30 => gI .i32 ls1_30 fun sx1b ls1_31 => gI .i32 ls1_31 fun sy1b ls1_32 => gI .i32 ls1_32 fun su1b ls1_33 => gI .i32 ls1_33 fun sv1b ls1_34 => gI .i64 ls1_34 fun so1b ls1_35 => gI .i64 ls1_35 fun sl1b ls1_36 => gI .i32 ls1_36 fun sx2b ls1_37 => gI .i32 ls1_37 fun sy2b ls1_38 => gI .i32 ls1_38 fun su2b ls1_39 => gI .i32 ls1_39 fun sv2b ls1_40 => gI .i64 ls1_40 fun so2b ls1_41 => gI .i64 ls1_41 fun sl2b ls1_42 => gI .i32 ls1_42 fun sx3b ls1_43 => gI .i32 ls1_43 fun sy3b ls1_44 => gI .i32 ls1_44 fun su3b ls1_45 => gI .i32 ls1_45 fun sv3b ls1_46 => gI .i64 ls1_46 fun so3b ls1_47 => gI .i64 ls1_47 fun sl3b ls1_48 => gI .i32 ls1_48 fun sx4b ls1_49 => gI .i32 ls1_49 fun sy4b ls1_50 => gI .i32 ls1_50 fun su4b ls1_51 => gI .i32 ls1_51 fun sv4b ls1_52 => gI .i64 ls1_52 fun so4b ls1_53 => gI .i64 ls1_53 fun sl4b ls1_54 => gI .i32 ls1_54 fun sx5b ls1_55 => gI .i32 ls1_55 fun sy5b ls1_56 => gI .i32 ls1_56 fun su5b ls1_57 => gI .i32 ls1_57 fun sv5b ls1_58 => gI .i64 ls1_58 fun so5b ls1_59 => gI .i64 ls1_59 fun sl5b ls1_60 => gN ls1_60 <| gO us1 fun ls2_0 us2 => gI .i64 ls2_0 fun o ls2_1 => gE us2 <| some (some ((-2147483648 ≤ px0a ∧ px0a ≤ 2147483647) ∧ (-2147483648 ≤ py0a ∧ py0a ≤ 2147483647) ∧ (-2147483648 ≤ px1a ∧ px1a ≤ 2147483647) ∧ (-2147483648 ≤ py1a ∧ py1a ≤ 2147483647) ∧ (-2147483648 ≤ sx0a ∧ sx0a ≤ 2147483647) ∧ (-2147483648 ≤ sy0a ∧ sy0a ≤ 2147483647) ∧ (-2147483648 ≤ sx1a ∧ sx1a ≤ 2147483647) ∧ (-2147483648 ≤ sy1a ∧ sy1a ≤ 2147483647) ∧ (-2147483648 ≤ sx2a ∧ sx2a ≤ 2147483647) ∧ (-2147483648 ≤ sy2a ∧ sy2a ≤ 2147483647) ∧ (-2147483648 ≤ sx3a ∧ sx3a ≤ 2147483647) ∧ (-2147483648 ≤ sy3a ∧ sy3a ≤ 2147483647) ∧ (-2147483648 ≤ sx4a ∧ sx4a ≤ 2147483647) ∧ (-2147483648 ≤ sy4a ∧ sy4a ≤ 2147483647) ∧ (-2147483648 ≤ sx5a ∧ sx5a ≤ 2147483647) ∧ (-2147483648 ≤ sy5a ∧ sy5a ≤ 2147483647) ∧ (-2147483648 ≤ px0b ∧ px0b ≤ 2147483647) ∧ (-2147483648 ≤ py0b ∧ py0b ≤ 2147483647) ∧ (-2147483648 ≤ px1b ∧ px1b ≤ 2147483647) ∧ (-2147483648 ≤ py1b ∧ py1b ≤ 2147483647) ∧ (-2147483648 ≤ sx0b ∧ sx0b ≤ 2147483647) ∧ (-2147483648 ≤ sy0b ∧ sy0b ≤ 2147483647) ∧ (-2147483648 ≤ sx1b ∧ sx1b ≤ 2147483647) ∧ (-2147483648 ≤ sy1b ∧ sy1b ≤ 2147483647) ∧ (-2147483648 ≤ sx2b ∧ sx2b ≤ 2147483647) ∧ (-2147483648 ≤ sy2b ∧ sy2b ≤ 2147483647) ∧ (-2147483648 ≤ sx3b ∧ sx3b ≤ 2147483647) ∧ (-2147483648 ≤ sy3b ∧ sy3b ≤ 2147483647) ∧ (-2147483648 ≤ sx4b ∧ sx4b ≤ 2147483647) ∧ (-2147483648 ≤ sy4b ∧ sy4b ≤ 2147483647) ∧ (-2147483648 ≤ sx5b ∧ sx5b ≤ 2147483647) ∧ (-2147483648 ≤ sy5b ∧ sy5b ≤ 2147483647)), .v (.one (.bool true (true))))
theorem nf_TweenEnds (fra : Int) (dca : Int) (rda : Int) (lfa : Int) (px0a : Int) (py0a : Int) (pu0a : Int) (pv0a : Int) (pf0a : Int) (ph0a : Int) (pc0a : Int) (pw0a : Int) (pd0a : Int) (ps0a : Int) (px1a : Int) (py1a : Int) (pu1a : Int) (pv1a : Int) (pf1a : Int) (ph1a : Int) (pc1a : Int) (pw1a : Int) (pd1a : Int) (ps1a : Int) (sx0a : Int) (sy0a : Int) (su0a : Int) (sv0a : Int) (so0a : Int) (sl0a : Int) (sx1a : Int) (sy1a : Int) (su1a : Int) (sv1a : Int) (so1a : Int) (sl1a : Int) (sx2a : Int) (sy2a : Int) (su2a : Int) (sv2a : Int) (so2a : Int) (sl2a : Int) (sx3a : Int) (sy3a : Int) (su3a : Int) (sv3a : Int) (so3a : Int) (sl3a : Int) (sx4a : Int) (sy4a : Int) (su4a : Int) (sv4a : Int) (so4a : Int) (sl4a : Int) (sx5a : Int) (sy5a : Int) (su5a : Int) (sv5a : Int) (so5a : Int) (sl5a : Int) (frb : Int) (dcb : Int) (rdb : Int) (lfb : Int) (px0b : Int) (py0b : Int) (pu0b : Int) (pv0b : Int) (pf0b : Int) (ph0b : Int) (pc0b : Int) (pw0b : Int) (pd0b : Int) (ps0b : Int) (px1b : Int) (py1b : Int) (pu1b : Int) (pv1b : Int) (pf1b : Int) (ph1b : Int) (pc1b : Int) (pw1b : Int) (pd1b : Int) (ps1b : Int) (sx0b : Int) (sy0b : Int) (su0b : Int) (sv0b : Int) (so0b : Int) (sl0b : Int) (sx1b : Int) (sy1b : Int) (su1b : Int) (sv1b : Int) (so1b : Int) (sl1b : Int) (sx2b : Int) (sy2b : Int) (su2b : Int) (sv2b : Int) (so2b : Int) (sl2b : Int) (sx3b : Int) (sy3b : Int) (su3b : Int) (sv3b : Int) (so3b : Int) (sl3b : Int) (sx4b : Int) (sy4b : Int) (su4b : Int) (sv4b : Int) (so4b : Int) (sl4b : Int) (sx5b : Int) (sy5b : Int) (su5b : Int) (sv5b : Int) (so5b : Int) (sl5b : Int) (o : Int) : goal ⟨Mx, Try.prog, Γ_sright, Δ0, B0⟩ noL 2000 Try.f6 [.v (.agg [.int .i64 false fra, .int .u32 false dca, .int .i64 false rda, .int .i64 false lfa, .int .i32 false px0a, .int .i32 false py0a, .int .i32 false pu0a, .int .i32 false pv0a, .int .i64 false pf0a, .int .i64 false ph0a, .int .i64 false pc0a, .int .i64 false pw0a, .int .i64 false pd0a, .int .i64 false ps0a, .int .i32 false px1a, .int .i32 false py1a, .int .i32 false pu1a, .int .i32 false pv1a, .int .i64 false pf1a, .int .i64 false ph1a, .int .i64 false pc1a, .int .i64 false pw1a, .int .i64 false pd1a, .int .i64 false ps1a, .int .i32 false sx0a, .int .i32 false sy0a, .int .i32 false su0a, .int .i32 false sv0a, .int .i64 false so0a, .int .i64 false sl0a, .int .i32 false sx1a, .int .i32 false sy1a, .int .i32 false su1a, .int .i32 false sv1a, .int .i64 false so1a, .int .i64 false sl1a, .int .i32 false sx2a, .int .i32 false sy2a, .int .i32 false su2a, .int .i32 false sv2a, .int .i64 false so2a, .int .i64 false sl2a, .int .i32 false sx3a, .int .i32 false sy3a, .int .i32 false su3a, .int .i32 false sv3a, .int .i64 false so3a, .int .i64 false sl3a, .int .i32 false sx4a, .int .i32 false sy4a, .int .i32 false su4a, .int .i32 false sv4a, .int .i64 false so4a, .int .i64 false sl4a, .int .i32 false sx5a, .int .i32 false sy5a, .int .i32 false su5a, .int .i32 false sv5a, .int .i64 false so5a, .int .i64 false sl5a]), .v (.agg [.int .i64 false frb, .int .u32 false dcb, .int .i64 false rdb, .int .i64 false lfb, .int .i32 false px0b, .int .i32 false py0b, .int .i32 false pu0b, .int .i32 false pv0b, .int .i64 false pf0b, .int .i64 false ph0b, .int .i64 false pc0b, .int .i64 false pw0b, .int .i64 false pd0b, .int .i64 false ps0b, .int .i32 false px1b, .int .i32 false py1b, .int .i32 false pu1b, .int .i32 false pv1b, .int .i64 false pf1b, .int .i64 false ph1b, .int .i64 false pc1b, .int .i64 false pw1b, .int .i64 false pd1b, .int .i64 false ps1b, .int .i32 false sx0b, .int .i32 false sy0b, .int .i32 false su0b, .int .i32 false sv0b, .int .i64 false so0b, .int .i64 false sl0b, .int .i32 false sx1b, .int .i32 false sy1b, .int .i32 false su1b, .int .i32 false sv1b, .int .i64 false so1b, .int .i64 false sl1b, .int .i32 false sx2b, .int .i32 false sy2b, .int .i32 false su2b, .int .i32 false sv2b, .int .i64 false so2b, .int .i64 false sl2b, .int .i32 false sx3b, .int .i32 false sy3b, .int .i32 false su3b, .int .i32 false sv3b, .int .i64 false so3b, .int .i64 false sl3b, .int .i32 false sx4b, .int .i32 false sy4b, .int .i32 false su4b, .int .i32 false sv4b, .int .i64 false so4b, .int .i64 false sl4b, .int .i32 false sx5b, .int .i32 false sy5b, .int .i32 false su5b, .int .i32 false sv5b, .int .i64 false so5b, .int .i64 false sl5b]), .v (.one (.int .i64 false o))] [] (fun r _ => svLe idR r (.v (.one (.bool true (true))))) = ((decide (o < (1 : Int)) = false → (decide ((65536 : Int) < o) = false → ((!(playerB px0a py0a pf0a ph0a pc0a pw0a pd0a ps0a && (playerB px1a py1a pf1a ph1a pc1a pw1a pd1a ps1a && (shotB sx0a sy0a su0a sv0a so0a sl0a && (shotB sx1a sy1a su1a sv1a so1a sl1a && (shotB sx2a sy2a su2a sv2a so2a sl2a && (shotB sx3a sy3a su3a sv3a so3a sl3a && (shotB sx4a sy4a su4a sv4a so4a sl4a && (shotB sx5a sy5a su5a sv5a so5a sl5a && decide ((0 : Int) ≤ fra ∧ fra ≤ (1073741824 : Int) ∧ (0 : Int) ≤ rda ∧ rda ≤ (1073741824 : Int) ∧ (1 : Int) ≤ lfa ∧ lfa ≤ (600 : Int))))))))))) = false → ((!(playerB px0b py0b pf0b ph0b pc0b pw0b pd0b ps0b && (playerB px1b py1b pf1b ph1b pc1b pw1b pd1b ps1b && (shotB sx0b sy0b su0b sv0b so0b sl0b && (shotB sx1b sy1b su1b sv1b so1b sl1b && (shotB sx2b sy2b su2b sv2b so2b sl2b && (shotB sx3b sy3b su3b sv3b so3b sl3b && (shotB sx4b sy4b su4b sv4b so4b sl4b && (shotB sx5b sy5b su5b sv5b so5b sl5b && decide ((0 : Int) ≤ frb ∧ frb ≤ (1073741824 : Int) ∧ (0 : Int) ≤ rdb ∧ rdb ≤ (1073741824 : Int) ∧ (1 : Int) ≤ lfb ∧ lfb ≤ (600 : Int))))))))))) = true → true = true) ∧ ((!(playerB px0b py0b pf0b ph0b pc0b pw0b pd0b ps0b && (playerB px1b py1b pf1b ph1b pc1b pw1b pd1b ps1b && (shotB sx0b sy0b su0b sv0b so0b sl0b && (shotB sx1b sy1b su1b sv1b so1b sl1b && (shotB sx2b sy2b su2b sv2b so2b sl2b && (shotB sx3b sy3b su3b sv3b so3b sl3b && (shotB sx4b sy4b su4b sv4b so4b sl4b && (shotB sx5b sy5b su5b sv5b so5b sl5b && decide ((0 : Int) ≤ frb ∧ frb ≤ (1073741824 : Int) ∧ (0 : Int) ≤ rdb ∧ rdb ≤ (1073741824 : Int) ∧ (1 : Int) ≤ lfb ∧ lfb ≤ (600 : Int))))))))))) = false → (((-2147483648 : Int) ≤ px0a ∧ px0a ≤ (2147483647 : Int)) ∧ ((-2147483648 : Int) ≤ py0a ∧ py0a ≤ (2147483647 : Int)) ∧ ((-2147483648 : Int) ≤ px1a ∧ px1a ≤ (2147483647 : Int)) ∧ ((-2147483648 : Int) ≤ py1a ∧ py1a ≤ (2147483647 : Int)) ∧ ((-2147483648 : Int) ≤ sx0a ∧ sx0a ≤ (2147483647 : Int)) ∧ ((-2147483648 : Int) ≤ sy0a ∧ sy0a ≤ (2147483647 : Int)) ∧ ((-2147483648 : Int) ≤ sx1a ∧ sx1a ≤ (2147483647 : Int)) ∧ ((-2147483648 : Int) ≤ sy1a ∧ sy1a ≤ (2147483647 : Int)) ∧ ((-2147483648 : Int) ≤ sx2a ∧ sx2a ≤ (2147483647 : Int)) ∧ ((-2147483648 : Int) ≤ sy2a ∧ sy2a ≤ (2147483647 : Int)) ∧ ((-2147483648 : Int) ≤ sx3a ∧ sx3a ≤ (2147483647 : Int)) ∧ ((-2147483648 : Int) ≤ sy3a ∧ sy3a ≤ (2147483647 : Int)) ∧ ((-2147483648 : Int) ≤ sx4a ∧ sx4a ≤ (2147483647 : Int)) ∧ ((-2147483648 : Int) ≤ sy4a ∧ sy4a ≤ (2147483647 : Int)) ∧ ((-2147483648 : Int) ≤ sx5a ∧ sx5a ≤ (2147483647 : Int)) ∧ ((-2147483648 : Int) ≤ sy5a ∧ sy5a ≤ (2147483647 : Int)) ∧ ((-2147483648 : Int) ≤ px0b ∧ px0b ≤ (2147483647 : Int)) ∧ ((-2147483648 : Int) ≤ py0b ∧ py0b ≤ (2147483647 : Int)) ∧ ((-2147483648 : Int) ≤ px1b ∧ px1b ≤ (2147483647 : Int)) ∧ ((-2147483648 : Int) ≤ py1b ∧ py1b ≤ (2147483647 : Int)) ∧ ((-2147483648 : Int) ≤ sx0b ∧ sx0b ≤ (2147483647 : Int)) ∧ ((-2147483648 : Int) ≤ sy0b ∧ sy0b ≤ (2147483647 : Int)) ∧ ((-2147483648 : Int) ≤ sx1b ∧ sx1b ≤ (2147483647 : Int)) ∧ ((-2147483648 : Int) ≤ sy1b ∧ sy1b ≤ (2147483647 : Int)) ∧ ((-2147483648 : Int) ≤ sx2b ∧ sx2b ≤ (2147483647 : Int)) ∧ ((-2147483648 : Int) ≤ sy2b ∧ sy2b ≤ (2147483647 : Int)) ∧ ((-2147483648 : Int) ≤ sx3b ∧ sx3b ≤ (2147483647 : Int)) ∧ ((-2147483648 : Int) ≤ sy3b ∧ sy3b ≤ (2147483647 : Int)) ∧ ((-2147483648 : Int) ≤ sx4b ∧ sx4b ≤ (2147483647 : Int)) ∧ ((-2147483648 : Int) ≤ sy4b ∧ sy4b ≤ (2147483647 : Int)) ∧ ((-2147483648 : Int) ≤ sx5b ∧ sx5b ≤ (2147483647 : Int)) ∧ (-2147483648 : Int) ≤ sy5b ∧ sy5b ≤ (2147483647 : Int)) ∧ (((-2147483648 : Int) ≤ px0a ∧ px0a ≤ (2147483647 : Int)) ∧ ((-2147483648 : Int) ≤ py0a ∧ py0a ≤ (2147483647 : Int)) ∧ ((-2147483648 : Int) ≤ px1a ∧ px1a ≤ (2147483647 : Int)) ∧ ((-2147483648 : Int) ≤ py1a ∧ py1a ≤ (2147483647 : Int)) ∧ ((-2147483648 : Int) ≤ sx0a ∧ sx0a ≤ (2147483647 : Int)) ∧ ((-2147483648 : Int) ≤ sy0a ∧ sy0a ≤ (2147483647 : Int)) ∧ ((-2147483648 : Int) ≤ sx1a ∧ sx1a ≤ (2147483647 : Int)) ∧ ((-2147483648 : Int) ≤ sy1a ∧ sy1a ≤ (2147483647 : Int)) ∧ ((-2147483648 : Int) ≤ sx2a ∧ sx2a ≤ (2147483647 : Int)) ∧ ((-2147483648 : Int) ≤ sy2a ∧ sy2a ≤ (2147483647 : Int)) ∧ ((-2147483648 : Int) ≤ sx3a ∧ sx3a ≤ (2147483647 : Int)) ∧ ((-2147483648 : Int) ≤ sy3a ∧ sy3a ≤ (2147483647 : Int)) ∧ ((-2147483648 : Int) ≤ sx4a ∧ sx4a ≤ (2147483647 : Int)) ∧ ((-2147483648 : Int) ≤ sy4a ∧ sy4a ≤ (2147483647 : Int)) ∧ ((-2147483648 : Int) ≤ sx5a ∧ sx5a ≤ (2147483647 : Int)) ∧ ((-2147483648 : Int) ≤ sy5a ∧ sy5a ≤ (2147483647 : Int)) ∧ ((-2147483648 : Int) ≤ px0b ∧ px0b ≤ (2147483647 : Int)) ∧ ((-2147483648 : Int) ≤ py0b ∧ py0b ≤ (2147483647 : Int)) ∧ ((-2147483648 : Int) ≤ px1b ∧ px1b ≤ (2147483647 : Int)) ∧ ((-2147483648 : Int) ≤ py1b ∧ py1b ≤ (2147483647 : Int)) ∧ ((-2147483648 : Int) ≤ sx0b ∧ sx0b ≤ (2147483647 : Int)) ∧ ((-2147483648 : Int) ≤ sy0b ∧ sy0b ≤ (2147483647 : Int)) ∧ ((-2147483648 : Int) ≤ sx1b ∧ sx1b ≤ (2147483647 : Int)) ∧ ((-2147483648 : Int) ≤ sy1b ∧ sy1b ≤ (2147483647 : Int)) ∧ ((-2147483648 : Int) ≤ sx2b ∧ sx2b ≤ (2147483647 : Int)) ∧ ((-2147483648 : Int) ≤ sy2b ∧ sy2b ≤ (2147483647 : Int)) ∧ ((-2147483648 : Int) ≤ sx3b ∧ sx3b ≤ (2147483647 : Int)) ∧ ((-2147483648 : Int) ≤ sy3b ∧ sy3b ≤ (2147483647 : Int)) ∧ ((-2147483648 : Int) ≤ sx4b ∧ sx4b ≤ (2147483647 : Int)) ∧ ((-2147483648 : Int) ≤ sy4b ∧ sy4b ≤ (2147483647 : Int)) ∧ ((-2147483648 : Int) ≤ sx5b ∧ sx5b ≤ (2147483647 : Int)) ∧ (-2147483648 : Int) ≤ sy5b ∧ sy5b ≤ (2147483647 : Int)) ∧ (((if wayB (0 : Int) o = true then (0 : Int) else (1 : Int)) == (0 : Int)) = true → (((if wayB o o = true then (0 : Int) else (1 : Int)) == (0 : Int)) = true → (((if wayB (0 : Int) o = true then mixX (cB pd0a pd0b px0a py0a px0b py0b) px0a px0b (0 : Int) o else (0 : Int)) == px0a && ((if wayB (0 : Int) o = true then mixX (cB pd0a pd0b px0a py0a px0b py0b) py0a py0b (0 : Int) o else (0 : Int)) == py0a && true) && ((if wayB (0 : Int) o = true then mixF (cB pd0a pd0b px0a py0a px0b py0b) pf0a pf0b (0 : Int) o else (0 : Int)) == pf0a && ((wayB (0 : Int) o && (cB pd0a pd0b px0a py0a px0b py0b || if (0 : Int) = o then pd0b == (0 : Int) else pd0a == (0 : Int))) == (pd0a == (0 : Int)) && true)) && ((if wayB (0 : Int) o = true then mixX (cB pd1a pd1b px1a py1a px1b py1b) px1a px1b (0 : Int) o else (0 : Int)) == px1a && ((if wayB (0 : Int) o = true then mixX (cB pd1a pd1b px1a py1a px1b py1b) py1a py1b (0 : Int) o else (0 : Int)) == py1a && true) && ((if wayB (0 : Int) o = true then mixF (cB pd1a pd1b px1a py1a px1b py1b) pf1a pf1b (0 : Int) o else (0 : Int)) == pf1a && ((wayB (0 : Int) o && (cB pd1a pd1b px1a py1a px1b py1b || if (0 : Int) = o then pd1b == (0 : Int) else pd1a == (0 : Int))) == (pd1a == (0 : Int)) && true)) && true) && ((if wayB (0 : Int) o = true then mixX (sB so0a so0b sl0a sl0b) sx0a sx0b (0 : Int) o else (0 : Int)) == sx0a && ((if wayB (0 : Int) o = true then mixX (sB so0a so0b sl0a sl0b) sy0a sy0b (0 : Int) o else (0 : Int)) == sy0a && true) && ((if wayB (0 : Int) o = true then mixO (sB so0a so0b sl0a sl0b) so0a so0b (0 : Int) o else (0 : Int)) == so0a && true) && ((if wayB (0 : Int) o = true then mixX (sB so1a so1b sl1a sl1b) sx1a sx1b (0 : Int) o else (0 : Int)) == sx1a && ((if wayB (0 : Int) o = true then mixX (sB so1a so1b sl1a sl1b) sy1a sy1b (0 : Int) o else (0 : Int)) == sy1a && true) && ((if wayB (0 : Int) o = true then mixO (sB so1a so1b sl1a sl1b) so1a so1b (0 : Int) o else (0 : Int)) == so1a && true) && ((if wayB (0 : Int) o = true then mixX (sB so2a so2b sl2a sl2b) sx2a sx2b (0 : Int) o else (0 : Int)) == sx2a && ((if wayB (0 : Int) o = true then mixX (sB so2a so2b sl2a sl2b) sy2a sy2b (0 : Int) o else (0 : Int)) == sy2a && true) && ((if wayB (0 : Int) o = true then mixO (sB so2a so2b sl2a sl2b) so2a so2b (0 : Int) o else (0 : Int)) == so2a && true) && ((if wayB (0 : Int) o = true then mixX (sB so3a so3b sl3a sl3b) sx3a sx3b (0 : Int) o else (0 : Int)) == sx3a && ((if wayB (0 : Int) o = true then mixX (sB so3a so3b sl3a sl3b) sy3a sy3b (0 : Int) o else (0 : Int)) == sy3a && true) && ((if wayB (0 : Int) o = true then mixO (sB so3a so3b sl3a sl3b) so3a so3b (0 : Int) o else (0 : Int)) == so3a && true) && ((if wayB (0 : Int) o = true then mixX (sB so4a so4b sl4a sl4b) sx4a sx4b (0 : Int) o else (0 : Int)) == sx4a && ((if wayB (0 : Int) o = true then mixX (sB so4a so4b sl4a sl4b) sy4a sy4b (0 : Int) o else (0 : Int)) == sy4a && true) && ((if wayB (0 : Int) o = true then mixO (sB so4a so4b sl4a sl4b) so4a so4b (0 : Int) o else (0 : Int)) == so4a && true) && ((if wayB (0 : Int) o = true then mixX (sB so5a so5b sl5a sl5b) sx5a sx5b (0 : Int) o else (0 : Int)) == sx5a && ((if wayB (0 : Int) o = true then mixX (sB so5a so5b sl5a sl5b) sy5a sy5b (0 : Int) o else (0 : Int)) == sy5a && true) && ((if wayB (0 : Int) o = true then mixO (sB so5a so5b sl5a sl5b) so5a so5b (0 : Int) o else (0 : Int)) == so5a && true) && true))))) && true)) = true → ((if wayB (0 : Int) o = true then (0 : Int) else (1 : Int)) == (0 : Int)) = true ∧ ((if wayB o o = true then (0 : Int) else (1 : Int)) == (0 : Int)) = true ∧ ((if wayB (0 : Int) o = true then mixX (cB pd0a pd0b px0a py0a px0b py0b) px0a px0b (0 : Int) o else (0 : Int)) == px0a && ((if wayB (0 : Int) o = true then mixX (cB pd0a pd0b px0a py0a px0b py0b) py0a py0b (0 : Int) o else (0 : Int)) == py0a && true) && ((if wayB (0 : Int) o = true then mixF (cB pd0a pd0b px0a py0a px0b py0b) pf0a pf0b (0 : Int) o else (0 : Int)) == pf0a && ((wayB (0 : Int) o && (cB pd0a pd0b px0a py0a px0b py0b || if (0 : Int) = o then pd0b == (0 : Int) else pd0a == (0 : Int))) == (pd0a == (0 : Int)) && true)) && ((if wayB (0 : Int) o = true then mixX (cB pd1a pd1b px1a py1a px1b py1b) px1a px1b (0 : Int) o else (0 : Int)) == px1a && ((if wayB (0 : Int) o = true then mixX (cB pd1a pd1b px1a py1a px1b py1b) py1a py1b (0 : Int) o else (0 : Int)) == py1a && true) && ((if wayB (0 : Int) o = true then mixF (cB pd1a pd1b px1a py1a px1b py1b) pf1a pf1b (0 : Int) o else (0 : Int)) == pf1a && ((wayB (0 : Int) o && (cB pd1a pd1b px1a py1a px1b py1b || if (0 : Int) = o then pd1b == (0 : Int) else pd1a == (0 : Int))) == (pd1a == (0 : Int)) && true)) && true) && ((if wayB (0 : Int) o = true then mixX (sB so0a so0b sl0a sl0b) sx0a sx0b (0 : Int) o else (0 : Int)) == sx0a && ((if wayB (0 : Int) o = true then mixX (sB so0a so0b sl0a sl0b) sy0a sy0b (0 : Int) o else (0 : Int)) == sy0a && true) && ((if wayB (0 : Int) o = true then mixO (sB so0a so0b sl0a sl0b) so0a so0b (0 : Int) o else (0 : Int)) == so0a && true) && ((if wayB (0 : Int) o = true then mixX (sB so1a so1b sl1a sl1b) sx1a sx1b (0 : Int) o else (0 : Int)) == sx1a && ((if wayB (0 : Int) o = true then mixX (sB so1a so1b sl1a sl1b) sy1a sy1b (0 : Int) o else (0 : Int)) == sy1a && true) && ((if wayB (0 : Int) o = true then mixO (sB so1a so1b sl1a sl1b) so1a so1b (0 : Int) o else (0 : Int)) == so1a && true) && ((if wayB (0 : Int) o = true then mixX (sB so2a so2b sl2a sl2b) sx2a sx2b (0 : Int) o else (0 : Int)) == sx2a && ((if wayB (0 : Int) o = true then mixX (sB so2a so2b sl2a sl2b) sy2a sy2b (0 : Int) o else (0 : Int)) == sy2a && true) && ((if wayB (0 : Int) o = true then mixO (sB so2a so2b sl2a sl2b) so2a so2b (0 : Int) o else (0 : Int)) == so2a && true) && ((if wayB (0 : Int) o = true then mixX (sB so3a so3b sl3a sl3b) sx3a sx3b (0 : Int) o else (0 : Int)) == sx3a && ((if wayB (0 : Int) o = true then mixX (sB so3a so3b sl3a sl3b) sy3a sy3b (0 : Int) o else (0 : Int)) == sy3a && true) && ((if wayB (0 : Int) o = true then mixO (sB so3a so3b sl3a sl3b) so3a so3b (0 : Int) o else (0 : Int)) == so3a && true) && ((if wayB (0 : Int) o = true then mixX (sB so4a so4b sl4a sl4b) sx4a sx4b (0 : Int) o else (0 : Int)) == sx4a && ((if wayB (0 : Int) o = true then mixX (sB so4a so4b sl4a sl4b) sy4a sy4b (0 : Int) o else (0 : Int)) == sy4a && true) && ((if wayB (0 : Int) o = true then mixO (sB so4a so4b sl4a sl4b) so4a so4b (0 : Int) o else (0 : Int)) == so4a && true) && ((if wayB (0 : Int) o = true then mixX (sB so5a so5b sl5a sl5b) sx5a sx5b (0 : Int) o else (0 : Int)) == sx5a && ((if wayB (0 : Int) o = true then mixX (sB so5a so5b sl5a sl5b) sy5a sy5b (0 : Int) o else (0 : Int)) == sy5a && true) && ((if wayB (0 : Int) o = true then mixO (sB so5a so5b sl5a sl5b) so5a so5b (0 : Int) o else (0 : Int)) == so5a && true) && true))))) && true)) = true ∧ ((if wayB o o = true then mixX (cB pd0a pd0b px0a py0a px0b py0b) px0a px0b o o else (0 : Int)) == px0b && ((if wayB o o = true then mixX (cB pd0a pd0b px0a py0a px0b py0b) py0a py0b o o else (0 : Int)) == py0b && true) && ((if wayB o o = true then mixF (cB pd0a pd0b px0a py0a px0b py0b) pf0a pf0b o o else (0 : Int)) == pf0b && ((wayB o o && (cB pd0a pd0b px0a py0a px0b py0b || if o = o then pd0b == (0 : Int) else pd0a == (0 : Int))) == (pd0b == (0 : Int)) && true)) && ((if wayB o o = true then mixX (cB pd1a pd1b px1a py1a px1b py1b) px1a px1b o o else (0 : Int)) == px1b && ((if wayB o o = true then mixX (cB pd1a pd1b px1a py1a px1b py1b) py1a py1b o o else (0 : Int)) == py1b && true) && ((if wayB o o = true then mixF (cB pd1a pd1b px1a py1a px1b py1b) pf1a pf1b o o else (0 : Int)) == pf1b && ((wayB o o && (cB pd1a pd1b px1a py1a px1b py1b || if o = o then pd1b == (0 : Int) else pd1a == (0 : Int))) == (pd1b == (0 : Int)) && true)) && true) && ((if wayB o o = true then mixX (sB so0a so0b sl0a sl0b) sx0a sx0b o o else (0 : Int)) == sx0b && ((if wayB o o = true then mixX (sB so0a so0b sl0a sl0b) sy0a sy0b o o else (0 : Int)) == sy0b && true) && ((if wayB o o = true then mixO (sB so0a so0b sl0a sl0b) so0a so0b o o else (0 : Int)) == so0b && true) && ((if wayB o o = true then mixX (sB so1a so1b sl1a sl1b) sx1a sx1b o o else (0 : Int)) == sx1b && ((if wayB o o = true then mixX (sB so1a so1b sl1a sl1b) sy1a sy1b o o else (0 : Int)) == sy1b && true) && ((if wayB o o = true then mixO (sB so1a so1b sl1a sl1b) so1a so1b o o else (0 : Int)) == so1b && true) && ((if wayB o o = true then mixX (sB so2a so2b sl2a sl2b) sx2a sx2b o o else (0 : Int)) == sx2b && ((if wayB o o = true then mixX (sB so2a so2b sl2a sl2b) sy2a sy2b o o else (0 : Int)) == sy2b && true) && ((if wayB o o = true then mixO (sB so2a so2b sl2a sl2b) so2a so2b o o else (0 : Int)) == so2b && true) && ((if wayB o o = true then mixX (sB so3a so3b sl3a sl3b) sx3a sx3b o o else (0 : Int)) == sx3b && ((if wayB o o = true then mixX (sB so3a so3b sl3a sl3b) sy3a sy3b o o else (0 : Int)) == sy3b && true) && ((if wayB o o = true then mixO (sB so3a so3b sl3a sl3b) so3a so3b o o else (0 : Int)) == so3b && true) && ((if wayB o o = true then mixX (sB so4a so4b sl4a sl4b) sx4a sx4b o o else (0 : Int)) == sx4b && ((if wayB o o = true then mixX (sB so4a so4b sl4a sl4b) sy4a sy4b o o else (0 : Int)) == sy4b && true) && ((if wayB o o = true then mixO (sB so4a so4b sl4a sl4b) so4a so4b o o else (0 : Int)) == so4b && true) && ((if wayB o o = true then mixX (sB so5a so5b sl5a sl5b) sx5a sx5b o o else (0 : Int)) == sx5b && ((if wayB o o = true then mixX (sB so5a so5b sl5a sl5b) sy5a sy5b o o else (0 : Int)) == sy5b && true) && ((if wayB o o = true then mixO (sB so5a so5b sl5a sl5b) so5a so5b o o else (0 : Int)) == so5b && true) && true))))) && true)) = true) ∧ (((if wayB (0 : Int) o = true then mixX (cB pd0a pd0b px0a py0a px0b py0b) px0a px0b (0 : Int) o else (0 : Int)) == px0a && ((if wayB (0 : Int) o = true then mixX (cB pd0a pd0b px0a py0a px0b py0b) py0a py0b (0 : Int) o else (0 : Int)) == py0a && true) && ((if wayB (0 : Int) o = true then mixF (cB pd0a pd0b px0a py0a px0b py0b) pf0a pf0b (0 : Int) o else (0 : Int)) == pf0a && ((wayB (0 : Int) o && (cB pd0a pd0b px0a py0a px0b py0b || if (0 : Int) = o then pd0b == (0 : Int) else pd0a == (0 : Int))) == (pd0a == (0 : Int)) && true)) && ((if wayB (0 : Int) o = true then mixX (cB pd1a pd1b px1a py1a px1b py1b) px1a px1b (0 : Int) o else (0 : Int)) == px1a && ((if wayB (0 : Int) o = true then mixX (cB pd1a pd1b px1a py1a px1b py1b) py1a py1b (0 : Int) o else (0 : Int)) == py1a && true) && ((if wayB (0 : Int) o = true then mixF (cB pd1a pd1b px1a py1a px1b py1b) pf1a pf1b (0 : Int) o else (0 : Int)) == pf1a && ((wayB (0 : Int) o && (cB pd1a pd1b px1a py1a px1b py1b || if (0 : Int) = o then pd1b == (0 : Int) else pd1a == (0 : Int))) == (pd1a == (0 : Int)) && true)) && true) && ((if wayB (0 : Int) o = true then mixX (sB so0a so0b sl0a sl0b) sx0a sx0b (0 : Int) o else (0 : Int)) == sx0a && ((if wayB (0 : Int) o = true then mixX (sB so0a so0b sl0a sl0b) sy0a sy0b (0 : Int) o else (0 : Int)) == sy0a && true) && ((if wayB (0 : Int) o = true then mixO (sB so0a so0b sl0a sl0b) so0a so0b (0 : Int) o else (0 : Int)) == so0a && true) && ((if wayB (0 : Int) o = true then mixX (sB so1a so1b sl1a sl1b) sx1a sx1b (0 : Int) o else (0 : Int)) == sx1a && ((if wayB (0 : Int) o = true then mixX (sB so1a so1b sl1a sl1b) sy1a sy1b (0 : Int) o else (0 : Int)) == sy1a && true) && ((if wayB (0 : Int) o = true then mixO (sB so1a so1b sl1a sl1b) so1a so1b (0 : Int) o else (0 : Int)) == so1a && true) && ((if wayB (0 : Int) o = true then mixX (sB so2a so2b sl2a sl2b) sx2a sx2b (0 : Int) o else (0 : Int)) == sx2a && ((if wayB (0 : Int) o = true then mixX (sB so2a so2b sl2a sl2b) sy2a sy2b (0 : Int) o else (0 : Int)) == sy2a && true) && ((if wayB (0 : Int) o = true then mixO (sB so2a so2b sl2a sl2b) so2a so2b (0 : Int) o else (0 : Int)) == so2a && true) && ((if wayB (0 : Int) o = true then mixX (sB so3a so3b sl3a sl3b) sx3a sx3b (0 : Int) o else (0 : Int)) == sx3a && ((if wayB (0 : Int) o = true then mixX (sB so3a so3b sl3a sl3b) sy3a sy3b (0 : Int) o else (0 : Int)) == sy3a && true) && ((if wayB (0 : Int) o = true then mixO (sB so3a so3b sl3a sl3b) so3a so3b (0 : Int) o else (0 : Int)) == so3a && true) && ((if wayB (0 : Int) o = true then mixX (sB so4a so4b sl4a sl4b) sx4a sx4b (0 : Int) o else (0 : Int)) == sx4a && ((if wayB (0 : Int) o = true then mixX (sB so4a so4b sl4a sl4b) sy4a sy4b (0 : Int) o else (0 : Int)) == sy4a && true) && ((if wayB (0 : Int) o = true then mixO (sB so4a so4b sl4a sl4b) so4a so4b (0 : Int) o else (0 : Int)) == so4a && true) && ((if wayB (0 : Int) o = true then mixX (sB so5a so5b sl5a sl5b) sx5a sx5b (0 : Int) o else (0 : Int)) == sx5a && ((if wayB (0 : Int) o = true then mixX (sB so5a so5b sl5a sl5b) sy5a sy5b (0 : Int) o else (0 : Int)) == sy5a && true) && ((if wayB (0 : Int) o = true then mixO (sB so5a so5b sl5a sl5b) so5a so5b (0 : Int) o else (0 : Int)) == so5a && true) && true))))) && true)) = false → ((if wayB (0 : Int) o = true then (0 : Int) else (1 : Int)) == (0 : Int)) = true ∧ ((if wayB o o = true then (0 : Int) else (1 : Int)) == (0 : Int)) = true ∧ ((if wayB (0 : Int) o = true then mixX (cB pd0a pd0b px0a py0a px0b py0b) px0a px0b (0 : Int) o else (0 : Int)) == px0a && ((if wayB (0 : Int) o = true then mixX (cB pd0a pd0b px0a py0a px0b py0b) py0a py0b (0 : Int) o else (0 : Int)) == py0a && true) && ((if wayB (0 : Int) o = true then mixF (cB pd0a pd0b px0a py0a px0b py0b) pf0a pf0b (0 : Int) o else (0 : Int)) == pf0a && ((wayB (0 : Int) o && (cB pd0a pd0b px0a py0a px0b py0b || if (0 : Int) = o then pd0b == (0 : Int) else pd0a == (0 : Int))) == (pd0a == (0 : Int)) && true)) && ((if wayB (0 : Int) o = true then mixX (cB pd1a pd1b px1a py1a px1b py1b) px1a px1b (0 : Int) o else (0 : Int)) == px1a && ((if wayB (0 : Int) o = true then mixX (cB pd1a pd1b px1a py1a px1b py1b) py1a py1b (0 : Int) o else (0 : Int)) == py1a && true) && ((if wayB (0 : Int) o = true then mixF (cB pd1a pd1b px1a py1a px1b py1b) pf1a pf1b (0 : Int) o else (0 : Int)) == pf1a && ((wayB (0 : Int) o && (cB pd1a pd1b px1a py1a px1b py1b || if (0 : Int) = o then pd1b == (0 : Int) else pd1a == (0 : Int))) == (pd1a == (0 : Int)) && true)) && true) && ((if wayB (0 : Int) o = true then mixX (sB so0a so0b sl0a sl0b) sx0a sx0b (0 : Int) o else (0 : Int)) == sx0a && ((if wayB (0 : Int) o = true then mixX (sB so0a so0b sl0a sl0b) sy0a sy0b (0 : Int) o else (0 : Int)) == sy0a && true) && ((if wayB (0 : Int) o = true then mixO (sB so0a so0b sl0a sl0b) so0a so0b (0 : Int) o else (0 : Int)) == so0a && true) && ((if wayB (0 : Int) o = true then mixX (sB so1a so1b sl1a sl1b) sx1a sx1b (0 : Int) o else (0 : Int)) == sx1a && ((if wayB (0 : Int) o = true then mixX (sB so1a so1b sl1a sl1b) sy1a sy1b (0 : Int) o else (0 : Int)) == sy1a && true) && ((if wayB (0 : Int) o = true then mixO (sB so1a so1b sl1a sl1b) so1a so1b (0 : Int) o else (0 : Int)) == so1a && true) && ((if wayB (0 : Int) o = true then mixX (sB so2a so2b sl2a sl2b) sx2a sx2b (0 : Int) o else (0 : Int)) == sx2a && ((if wayB (0 : Int) o = true then mixX (sB so2a so2b sl2a sl2b) sy2a sy2b (0 : Int) o else (0 : Int)) == sy2a && true) && ((if wayB (0 : Int) o = true then mixO (sB so2a so2b sl2a sl2b) so2a so2b (0 : Int) o else (0 : Int)) == so2a && true) && ((if wayB (0 : Int) o = true then mixX (sB so3a so3b sl3a sl3b) sx3a sx3b (0 : Int) o else (0 : Int)) == sx3a && ((if wayB (0 : Int) o = true then mixX (sB so3a so3b sl3a sl3b) sy3a sy3b (0 : Int) o else (0 : Int)) == sy3a && true) && ((if wayB (0 : Int) o = true then mixO (sB so3a so3b sl3a sl3b) so3a so3b (0 : Int) o else (0 : Int)) == so3a && true) && ((if wayB (0 : Int) o = true then mixX (sB so4a so4b sl4a sl4b) sx4a sx4b (0 : Int) o else (0 : Int)) == sx4a && ((if wayB (0 : Int) o = true then mixX (sB so4a so4b sl4a sl4b) sy4a sy4b (0 : Int) o else (0 : Int)) == sy4a && true) && ((if wayB (0 : Int) o = true then mixO (sB so4a so4b sl4a sl4b) so4a so4b (0 : Int) o else (0 : Int)) == so4a && true) && ((if wayB (0 : Int) o = true then mixX (sB so5a so5b sl5a sl5b) sx5a sx5b (0 : Int) o else (0 : Int)) == sx5a && ((if wayB (0 : Int) o = true then mixX (sB so5a so5b sl5a sl5b) sy5a sy5b (0 : Int) o else (0 : Int)) == sy5a && true) && ((if wayB (0 : Int) o = true then mixO (sB so5a so5b sl5a sl5b) so5a so5b (0 : Int) o else (0 : Int)) == so5a && true) && true))))) && true)) = false ∧ false = true)) ∧ (((if wayB o o = true then (0 : Int) else (1 : Int)) == (0 : Int)) = false → ((if wayB (0 : Int) o = true then (0 : Int) else (1 : Int)) == (0 : Int)) = true ∧ ((if wayB o o = true then (0 : Int) else (1 : Int)) == (0 : Int)) = false ∧ false = true)) ∧ (((if wayB (0 : Int) o = true then (0 : Int) else (1 : Int)) == (0 : Int)) = false → ((if wayB (0 : Int) o = true then (0 : Int) else (1 : Int)) == (0 : Int)) = false ∧ false = true))) ∧ ((!(playerB px0a py0a pf0a ph0a pc0a pw0a pd0a ps0a && (playerB px1a py1a pf1a ph1a pc1a pw1a pd1a ps1a && (shotB sx0a sy0a su0a sv0a so0a sl0a && (shotB sx1a sy1a su1a sv1a so1a sl1a && (shotB sx2a sy2a su2a sv2a so2a sl2a && (shotB sx3a sy3a su3a sv3a so3a sl3a && (shotB sx4a sy4a su4a sv4a so4a sl4a && (shotB sx5a sy5a su5a sv5a so5a sl5a && decide ((0 : Int) ≤ fra ∧ fra ≤ (1073741824 : Int) ∧ (0 : Int) ≤ rda ∧ rda ≤ (1073741824 : Int) ∧ (1 : Int) ≤ lfa ∧ lfa ≤ (600 : Int))))))))))) = true → true = true)) ∧ (decide ((65536 : Int) < o) = true → true = true)) ∧ (decide (o < (1 : Int)) = true → true = true)) := by kernel_rfl
set_option maxHeartbeats 4000000 in
theorem s_TweenEnds : FSound Try.prog 6 c_TweenEnds := by
  refine fsound_of (Ctx.ok_of2 (M := Mx) mixedA ok_sright okD0 okB0) Try.func6 (by kernel_rfl) (by kernel_rfl) ?_
  intro us p v h hp
  unfold c_TweenEnds at h
  have _d := True.intro
  · skip
    replace h := gA_some h
    obtain ⟨ls0_0, us0, rfl, h⟩ := h
    replace h := gI_some h
    obtain ⟨k0, fra, ls0_1, rfl, h⟩ := h
    replace h := gI_some h
    obtain ⟨k1, dca, ls0_2, rfl, h⟩ := h
    replace h := gI_some h
    obtain ⟨k2, rda, ls0_3, rfl, h⟩ := h
    replace h := gI_some h
    obtain ⟨k3, lfa, ls0_4, rfl, h⟩ := h
    replace h := gI_some h
    obtain ⟨k4, px0a, ls0_5, rfl, h⟩ := h
    replace h := gI_some h
    obtain ⟨k5, py0a, ls0_6, rfl, h⟩ := h
    replace h := gI_some h
    obtain ⟨k6, pu0a, ls0_7, rfl, h⟩ := h
    replace h := gI_some h
    obtain ⟨k7, pv0a, ls0_8, rfl, h⟩ := h
    replace h := gI_some h
    obtain ⟨k8, pf0a, ls0_9, rfl, h⟩ := h
    replace h := gI_some h
    obtain ⟨k9, ph0a, ls0_10, rfl, h⟩ := h
    replace h := gI_some h
    obtain ⟨k10, pc0a, ls0_11, rfl, h⟩ := h
    replace h := gI_some h
    obtain ⟨k11, pw0a, ls0_12, rfl, h⟩ := h
    replace h := gI_some h
    obtain ⟨k12, pd0a, ls0_13, rfl, h⟩ := h
    replace h := gI_some h
    obtain ⟨k13, ps0a, ls0_14, rfl, h⟩ := h
    replace h := gI_some h
    obtain ⟨k14, px1a, ls0_15, rfl, h⟩ := h
    replace h := gI_some h
    obtain ⟨k15, py1a, ls0_16, rfl, h⟩ := h
    replace h := gI_some h
    obtain ⟨k16, pu1a, ls0_17, rfl, h⟩ := h
    replace h := gI_some h
    obtain ⟨k17, pv1a, ls0_18, rfl, h⟩ := h
    replace h := gI_some h
    obtain ⟨k18, pf1a, ls0_19, rfl, h⟩ := h
    replace h := gI_some h
    obtain ⟨k19, ph1a, ls0_20, rfl, h⟩ := h
    replace h := gI_some h
    obtain ⟨k20, pc1a, ls0_21, rfl, h⟩ := h
    replace h := gI_some h
    obtain ⟨k21, pw1a, ls0_22, rfl, h⟩ := h
    replace h := gI_some h
    obtain ⟨k22, pd1a, ls0_23, rfl, h⟩ := h
    replace h := gI_some h
    obtain ⟨k23, ps1a, ls0_24, rfl, h⟩ := h
    replace h := gI_some h
    obtain ⟨k24, sx0a, ls0_25, rfl, h⟩ := h
    replace h := gI_some h
    obtain ⟨k25, sy0a, ls0_26, rfl, h⟩ := h
    replace h := gI_some h
    obtain ⟨k26, su0a, ls0_27, rfl, h⟩ := h
    replace h := gI_some h
    obtain ⟨k27, sv0a, ls0_28, rfl, h⟩ := h
    replace h := gI_some h
    obtain ⟨k28, so0a, ls0_29, rfl, h⟩ := h
    replace h := gI_some h
    obtain ⟨k29, sl0a, ls0_30, rfl, h⟩ := h
    replace h := gI_some h
    obtain ⟨k30, sx1a, ls0_31, rfl, h⟩ := h
    replace h := gI_some h
    obtain ⟨k31, sy1a, ls0_32, rfl, h⟩ := h
    replace h := gI_some h
    obtain ⟨k32, su1a, ls0_33, rfl, h⟩ := h
    replace h := gI_some h
    obtain ⟨k33, sv1a, ls0_34, rfl, h⟩ := h
    replace h := gI_some h
    obtain ⟨k34, so1a, ls0_35, rfl, h⟩ := h
    replace h := gI_some h
    obtain ⟨k35, sl1a, ls0_36, rfl, h⟩ := h
    replace h := gI_some h
    obtain ⟨k36, sx2a, ls0_37, rfl, h⟩ := h
    replace h := gI_some h
    obtain ⟨k37, sy2a, ls0_38, rfl, h⟩ := h
    replace h := gI_some h
    obtain ⟨k38, su2a, ls0_39, rfl, h⟩ := h
    replace h := gI_some h
    obtain ⟨k39, sv2a, ls0_40, rfl, h⟩ := h
    replace h := gI_some h
    obtain ⟨k40, so2a, ls0_41, rfl, h⟩ := h
    replace h := gI_some h
    obtain ⟨k41, sl2a, ls0_42, rfl, h⟩ := h
    replace h := gI_some h
    obtain ⟨k42, sx3a, ls0_43, rfl, h⟩ := h
    replace h := gI_some h
    obtain ⟨k43, sy3a, ls0_44, rfl, h⟩ := h
    replace h := gI_some h
    obtain ⟨k44, su3a, ls0_45, rfl, h⟩ := h
    replace h := gI_some h
    obtain ⟨k45, sv3a, ls0_46, rfl, h⟩ := h
    replace h := gI_some h
    obtain ⟨k46, so3a, ls0_47, rfl, h⟩ := h
    replace h := gI_some h
    obtain ⟨k47, sl3a, ls0_48, rfl, h⟩ := h
    replace h := gI_some h
    obtain ⟨k48, sx4a, ls0_49, rfl, h⟩ := h
    replace h := gI_some h
    obtain ⟨k49, sy4a, ls0_50, rfl, h⟩ := h
    replace h := gI_some h
    obtain ⟨k50, su4a, ls0_51, rfl, h⟩ := h
    replace h := gI_some h
    obtain ⟨k51, sv4a, ls0_52, rfl, h⟩ := h
    replace h := gI_some h
    obtain ⟨k52, so4a, ls0_53, rfl, h⟩ := h
    replace h := gI_some h
    obtain ⟨k53, sl4a, ls0_54, rfl, h⟩ := h
    replace h := gI_some h
    obtain ⟨k54, sx5a, ls0_55, rfl, h⟩ := h
    replace h := gI_some h
    obtain ⟨k55, sy5a, ls0_56, rfl, h⟩ := h
    replace h := gI_some h
    obtain ⟨k56, su5a, ls0_57, rfl, h⟩ := h
    replace h := gI_some h
    obtain ⟨k57, sv5a, ls0_58, rfl, h⟩ := h
    replace h := gI_some h
    obtain ⟨k58, so5a, ls0_59, rfl, h⟩ := h
    replace h := gI_some h
    obtain ⟨k59, sl5a, ls0_60, rfl, h⟩ := h
    replace h := gN_some h
    obtain ⟨rfl, h⟩ := h
    replace h := gA_some h
    obtain ⟨ls1_0, us1, rfl, h⟩ := h
    replace h := gI_some h
    obtain ⟨k60, frb, ls1_1, rfl, h⟩ := h
    replace h := gI_some h
    obtain ⟨k61, dcb, ls1_2, rfl, h⟩ := h
    replace h := gI_some h
    obtain ⟨k62, rdb, ls1_3, rfl, h⟩ := h
    replace h := gI_some h
    obtain ⟨k63, lfb, ls1_4, rfl, h⟩ := h
    replace h := gI_some h
    obtain ⟨k64, px0b, ls1_5, rfl, h⟩ := h
    replace h := gI_some h
    obtain ⟨k65, py0b, ls1_6, rfl, h⟩ := h
    replace h := gI_some h
    obtain ⟨k66, pu0b, ls1_7, rfl, h⟩ := h
    replace h := gI_some h
    obtain ⟨k67, pv0b, ls1_8, rfl, h⟩ := h
    replace h := gI_some h
    obtain ⟨k68, pf0b, ls1_9, rfl, h⟩ := h
    replace h := gI_some h
    obtain ⟨k69, ph0b, ls1_10, rfl, h⟩ := h
    replace h := gI_some h
    obtain ⟨k70, pc0b, ls1_11, rfl, h⟩ := h
    replace h := gI_some h
    obtain ⟨k71, pw0b, ls1_12, rfl, h⟩ := h
    replace h := gI_some h
    obtain ⟨k72, pd0b, ls1_13, rfl, h⟩ := h
    replace h := gI_some h
    obtain ⟨k73, ps0b, ls1_14, rfl, h⟩ := h
    replace h := gI_some h
    obtain ⟨k74, px1b, ls1_15, rfl, h⟩ := h
    replace h := gI_some h
    obtain ⟨k75, py1b, ls1_16, rfl, h⟩ := h
    replace h := gI_some h
    obtain ⟨k76, pu1b, ls1_17, rfl, h⟩ := h
    replace h := gI_some h
    obtain ⟨k77, pv1b, ls1_18, rfl, h⟩ := h
    replace h := gI_some h
    obtain ⟨k78, pf1b, ls1_19, rfl, h⟩ := h
    replace h := gI_some h
    obtain ⟨k79, ph1b, ls1_20, rfl, h⟩ := h
    replace h := gI_some h
    obtain ⟨k80, pc1b, ls1_21, rfl, h⟩ := h
    replace h := gI_some h
    obtain ⟨k81, pw1b, ls1_22, rfl, h⟩ := h
    replace h := gI_some h
    obtain ⟨k82, pd1b, ls1_23, rfl, h⟩ := h
    replace h := gI_some h
    obtain ⟨k83, ps1b, ls1_24, rfl, h⟩ := h
    replace h := gI_some h
    obtain ⟨k84, sx0b, ls1_25, rfl, h⟩ := h
    replace h := gI_some h
    obtain ⟨k85, sy0b, ls1_26, rfl, h⟩ := h
    replace h := gI_some h
    obtain ⟨k86, su0b, ls1_27, rfl, h⟩ := h
    replace h := gI_some h
    obtain ⟨k87, sv0b, ls1_28, rfl, h⟩ := h
    replace h := gI_some h
    obtain ⟨k88, so0b, ls1_29, rfl, h⟩ := h
    replace h := gI_some h
    obtain ⟨k89, sl0b, ls1_30, rfl, h⟩ := h
    replace h := gI_some h
    obtain ⟨k90, sx1b, ls1_31, rfl, h⟩ := h
    replace h := gI_some h
    obtain ⟨k91, sy1b, ls1_32, rfl, h⟩ := h
    replace h := gI_some h
    obtain ⟨k92, su1b, ls1_33, rfl, h⟩ := h
    replace h := gI_some h
    obtain ⟨k93, sv1b, ls1_34, rfl, h⟩ := h
    replace h := gI_some h
    obtain ⟨k94, so1b, ls1_35, rfl, h⟩ := h
    replace h := gI_some h
    obtain ⟨k95, sl1b, ls1_36, rfl, h⟩ := h
    replace h := gI_some h
    obtain ⟨k96, sx2b, ls1_37, rfl, h⟩ := h
    replace h := gI_some h
    obtain ⟨k97, sy2b, ls1_38, rfl, h⟩ := h
    replace h := gI_some h
    obtain ⟨k98, su2b, ls1_39, rfl, h⟩ := h
    replace h := gI_some h
    obtain ⟨k99, sv2b, ls1_40, rfl, h⟩ := h
    replace h := gI_some h
    obtain ⟨k100, so2b, ls1_41, rfl, h⟩ := h
    replace h := gI_some h
    obtain ⟨k101, sl2b, ls1_42, rfl, h⟩ := h
    replace h := gI_some h
    obtain ⟨k102, sx3b, ls1_43, rfl, h⟩ := h
    replace h := gI_some h
    obtain ⟨k103, sy3b, ls1_44, rfl, h⟩ := h
    replace h := gI_some h
    obtain ⟨k104, su3b, ls1_45, rfl, h⟩ := h
    replace h := gI_some h
    obtain ⟨k105, sv3b, ls1_46, rfl, h⟩ := h
    replace h := gI_some h
    obtain ⟨k106, so3b, ls1_47, rfl, h⟩ := h
    replace h := gI_some h
    obtain ⟨k107, sl3b, ls1_48, rfl, h⟩ := h
    replace h := gI_some h
    obtain ⟨k108, sx4b, ls1_49, rfl, h⟩ := h
    replace h := gI_some h
    obtain ⟨k109, sy4b, ls1_50, rfl, h⟩ := h
    replace h := gI_some h
    obtain ⟨k110, su4b, ls1_51, rfl, h⟩ := h
    replace h := gI_some h
    obtain ⟨k111, sv4b, ls1_52, rfl, h⟩ := h
    replace h := gI_some h
    obtain ⟨k112, so4b, ls1_53, rfl, h⟩ := h
    replace h := gI_some h
    obtain ⟨k113, sl4b, ls1_54, rfl, h⟩ := h
    replace h := gI_some h
    obtain ⟨k114, sx5b, ls1_55, rfl, h⟩ := h
    replace h := gI_some h
    obtain ⟨k115, sy5b, ls1_56, rfl, h⟩ := h
    replace h := gI_some h
    obtain ⟨k116, su5b, ls1_57, rfl, h⟩ := h
    replace h := gI_some h
    obtain ⟨k117, sv5b, ls1_58, rfl, h⟩ := h
    replace h := gI_some h
    obtain ⟨k118, so5b, ls1_59, rfl, h⟩ := h
    replace h := gI_some h
    obtain ⟨k119, sl5b, ls1_60, rfl, h⟩ := h
    replace h := gN_some h
    obtain ⟨rfl, h⟩ := h
    replace h := gO_some h
    obtain ⟨ls2_0, us2, rfl, h⟩ := h
    replace h := gI_some h
    obtain ⟨k120, o, _, e, h⟩ := h
    obtain ⟨rfl, rfl⟩ := List.cons.inj e
    replace h := gE_some h
    obtain ⟨rfl, h⟩ := h
    cases h
    have hp : (-2147483648 ≤ px0a ∧ px0a ≤ 2147483647) ∧ (-2147483648 ≤ py0a ∧ py0a ≤ 2147483647) ∧ (-2147483648 ≤ px1a ∧ px1a ≤ 2147483647) ∧ (-2147483648 ≤ py1a ∧ py1a ≤ 2147483647) ∧ (-2147483648 ≤ sx0a ∧ sx0a ≤ 2147483647) ∧ (-2147483648 ≤ sy0a ∧ sy0a ≤ 2147483647) ∧ (-2147483648 ≤ sx1a ∧ sx1a ≤ 2147483647) ∧ (-2147483648 ≤ sy1a ∧ sy1a ≤ 2147483647) ∧ (-2147483648 ≤ sx2a ∧ sx2a ≤ 2147483647) ∧ (-2147483648 ≤ sy2a ∧ sy2a ≤ 2147483647) ∧ (-2147483648 ≤ sx3a ∧ sx3a ≤ 2147483647) ∧ (-2147483648 ≤ sy3a ∧ sy3a ≤ 2147483647) ∧ (-2147483648 ≤ sx4a ∧ sx4a ≤ 2147483647) ∧ (-2147483648 ≤ sy4a ∧ sy4a ≤ 2147483647) ∧ (-2147483648 ≤ sx5a ∧ sx5a ≤ 2147483647) ∧ (-2147483648 ≤ sy5a ∧ sy5a ≤ 2147483647) ∧ (-2147483648 ≤ px0b ∧ px0b ≤ 2147483647) ∧ (-2147483648 ≤ py0b ∧ py0b ≤ 2147483647) ∧ (-2147483648 ≤ px1b ∧ px1b ≤ 2147483647) ∧ (-2147483648 ≤ py1b ∧ py1b ≤ 2147483647) ∧ (-2147483648 ≤ sx0b ∧ sx0b ≤ 2147483647) ∧ (-2147483648 ≤ sy0b ∧ sy0b ≤ 2147483647) ∧ (-2147483648 ≤ sx1b ∧ sx1b ≤ 2147483647) ∧ (-2147483648 ≤ sy1b ∧ sy1b ≤ 2147483647) ∧ (-2147483648 ≤ sx2b ∧ sx2b ≤ 2147483647) ∧ (-2147483648 ≤ sy2b ∧ sy2b ≤ 2147483647) ∧ (-2147483648 ≤ sx3b ∧ sx3b ≤ 2147483647) ∧ (-2147483648 ≤ sy3b ∧ sy3b ≤ 2147483647) ∧ (-2147483648 ≤ sx4b ∧ sx4b ≤ 2147483647) ∧ (-2147483648 ≤ sy4b ∧ sy4b ≤ 2147483647) ∧ (-2147483648 ≤ sx5b ∧ sx5b ≤ 2147483647) ∧ (-2147483648 ≤ sy5b ∧ sy5b ≤ 2147483647) := hp
    refine ⟨rfl, noL, 2000, [.v (.agg [.int .i64 false fra, .int .u32 false dca, .int .i64 false rda, .int .i64 false lfa, .int .i32 false px0a, .int .i32 false py0a, .int .i32 false pu0a, .int .i32 false pv0a, .int .i64 false pf0a, .int .i64 false ph0a, .int .i64 false pc0a, .int .i64 false pw0a, .int .i64 false pd0a, .int .i64 false ps0a, .int .i32 false px1a, .int .i32 false py1a, .int .i32 false pu1a, .int .i32 false pv1a, .int .i64 false pf1a, .int .i64 false ph1a, .int .i64 false pc1a, .int .i64 false pw1a, .int .i64 false pd1a, .int .i64 false ps1a, .int .i32 false sx0a, .int .i32 false sy0a, .int .i32 false su0a, .int .i32 false sv0a, .int .i64 false so0a, .int .i64 false sl0a, .int .i32 false sx1a, .int .i32 false sy1a, .int .i32 false su1a, .int .i32 false sv1a, .int .i64 false so1a, .int .i64 false sl1a, .int .i32 false sx2a, .int .i32 false sy2a, .int .i32 false su2a, .int .i32 false sv2a, .int .i64 false so2a, .int .i64 false sl2a, .int .i32 false sx3a, .int .i32 false sy3a, .int .i32 false su3a, .int .i32 false sv3a, .int .i64 false so3a, .int .i64 false sl3a, .int .i32 false sx4a, .int .i32 false sy4a, .int .i32 false su4a, .int .i32 false sv4a, .int .i64 false so4a, .int .i64 false sl4a, .int .i32 false sx5a, .int .i32 false sy5a, .int .i32 false su5a, .int .i32 false sv5a, .int .i64 false so5a, .int .i64 false sl5a]), .v (.agg [.int .i64 false frb, .int .u32 false dcb, .int .i64 false rdb, .int .i64 false lfb, .int .i32 false px0b, .int .i32 false py0b, .int .i32 false pu0b, .int .i32 false pv0b, .int .i64 false pf0b, .int .i64 false ph0b, .int .i64 false pc0b, .int .i64 false pw0b, .int .i64 false pd0b, .int .i64 false ps0b, .int .i32 false px1b, .int .i32 false py1b, .int .i32 false pu1b, .int .i32 false pv1b, .int .i64 false pf1b, .int .i64 false ph1b, .int .i64 false pc1b, .int .i64 false pw1b, .int .i64 false pd1b, .int .i64 false ps1b, .int .i32 false sx0b, .int .i32 false sy0b, .int .i32 false su0b, .int .i32 false sv0b, .int .i64 false so0b, .int .i64 false sl0b, .int .i32 false sx1b, .int .i32 false sy1b, .int .i32 false su1b, .int .i32 false sv1b, .int .i64 false so1b, .int .i64 false sl1b, .int .i32 false sx2b, .int .i32 false sy2b, .int .i32 false su2b, .int .i32 false sv2b, .int .i64 false so2b, .int .i64 false sl2b, .int .i32 false sx3b, .int .i32 false sy3b, .int .i32 false su3b, .int .i32 false sv3b, .int .i64 false so3b, .int .i64 false sl3b, .int .i32 false sx4b, .int .i32 false sy4b, .int .i32 false su4b, .int .i32 false sv4b, .int .i64 false so4b, .int .i64 false sl4b, .int .i32 false sx5b, .int .i32 false sy5b, .int .i32 false su5b, .int .i32 false sv5b, .int .i64 false so5b, .int .i64 false sl5b]), .v (.one (.int .i64 false o))], by simp [tmLe, svLe, vLe, lfLe, lfsLe, ifB, nmIs, idR], rfl, ?_⟩
    rw [nf_TweenEnds]
    cases ho1 : decide (o < 1)
    rotate_left
    · simp only [beq_self_eq_true, Bool.and_self, Bool.and_true, Bool.true_and, Bool.and_false, Bool.false_and, Bool.not_true, Bool.not_false, Bool.true_eq_false, Bool.false_eq_true, false_implies, true_implies, implies_true, true_and, and_true, if_true, if_false, reduceIte, and_self]
    cases ho2 : decide (65536 < o)
    rotate_left
    · simp only [beq_self_eq_true, Bool.and_self, Bool.and_true, Bool.true_and, Bool.and_false, Bool.false_and, Bool.not_true, Bool.not_false, Bool.true_eq_false, Bool.false_eq_true, false_implies, true_implies, implies_true, true_and, and_true, if_true, if_false, reduceIte, and_self]
    have ho : 1 ≤ o := by have := of_decide_eq_false ho1; omega
    have hq : o ≤ 65536 := by have := of_decide_eq_false ho2; omega
    have hw0 : wayB 0 o = true := way_iff.2 (by omega)
    have hwo : wayB o o = true := way_iff.2 (by omega)
    cases hRa : (playerB px0a py0a pf0a ph0a pc0a pw0a pd0a ps0a && (playerB px1a py1a pf1a ph1a pc1a pw1a pd1a ps1a && (shotB sx0a sy0a su0a sv0a so0a sl0a && (shotB sx1a sy1a su1a sv1a so1a sl1a && (shotB sx2a sy2a su2a sv2a so2a sl2a && (shotB sx3a sy3a su3a sv3a so3a sl3a && (shotB sx4a sy4a su4a sv4a so4a sl4a && (shotB sx5a sy5a su5a sv5a so5a sl5a && (decide (0 ≤ fra ∧ fra ≤ 1073741824 ∧ 0 ≤ rda ∧ rda ≤ 1073741824 ∧ 1 ≤ lfa ∧ lfa ≤ 600))))))))))
    · simp only [beq_self_eq_true, Bool.and_self, Bool.and_true, Bool.true_and, Bool.and_false, Bool.false_and, Bool.not_true, Bool.not_false, Bool.true_eq_false, Bool.false_eq_true, false_implies, true_implies, implies_true, true_and, and_true, if_true, if_false, reduceIte, and_self]
    cases hRb : (playerB px0b py0b pf0b ph0b pc0b pw0b pd0b ps0b && (playerB px1b py1b pf1b ph1b pc1b pw1b pd1b ps1b && (shotB sx0b sy0b su0b sv0b so0b sl0b && (shotB sx1b sy1b su1b sv1b so1b sl1b && (shotB sx2b sy2b su2b sv2b so2b sl2b && (shotB sx3b sy3b su3b sv3b so3b sl3b && (shotB sx4b sy4b su4b sv4b so4b sl4b && (shotB sx5b sy5b su5b sv5b so5b sl5b && (decide (0 ≤ frb ∧ frb ≤ 1073741824 ∧ 0 ≤ rdb ∧ rdb ≤ 1073741824 ∧ 1 ≤ lfb ∧ lfb ≤ 600))))))))))
    · simp only [beq_self_eq_true, Bool.and_self, Bool.and_true, Bool.true_and, Bool.and_false, Bool.false_and, Bool.not_true, Bool.not_false, Bool.true_eq_false, Bool.false_eq_true, false_implies, true_implies, implies_true, true_and, and_true, if_true, if_false, reduceIte, and_self]
    clear ho1 ho2
    simp only [Bool.and_eq_true] at hRa
    have P0a := player_facts hRa.1
    have P1a := player_facts hRa.2.1
    clear hRa
    simp only [Bool.and_eq_true] at hRb
    have P0b := player_facts hRb.1
    have P1b := player_facts hRb.2.1
    clear hRb
    have B_px0a : -2147483648 ≤ px0a ∧ px0a ≤ 2147483647 := by omega
    have B_py0a : -2147483648 ≤ py0a ∧ py0a ≤ 2147483647 := by omega
    have B_px1a : -2147483648 ≤ px1a ∧ px1a ≤ 2147483647 := by omega
    have B_py1a : -2147483648 ≤ py1a ∧ py1a ≤ 2147483647 := by omega
    have B_sx0a : -2147483648 ≤ sx0a ∧ sx0a ≤ 2147483647 := by omega
    have B_sy0a : -2147483648 ≤ sy0a ∧ sy0a ≤ 2147483647 := by omega
    have B_sx1a : -2147483648 ≤ sx1a ∧ sx1a ≤ 2147483647 := by omega
    have B_sy1a : -2147483648 ≤ sy1a ∧ sy1a ≤ 2147483647 := by omega
    have B_sx2a : -2147483648 ≤ sx2a ∧ sx2a ≤ 2147483647 := by omega
    have B_sy2a : -2147483648 ≤ sy2a ∧ sy2a ≤ 2147483647 := by omega
    have B_sx3a : -2147483648 ≤ sx3a ∧ sx3a ≤ 2147483647 := by omega
    have B_sy3a : -2147483648 ≤ sy3a ∧ sy3a ≤ 2147483647 := by omega
    have B_sx4a : -2147483648 ≤ sx4a ∧ sx4a ≤ 2147483647 := by omega
    have B_sy4a : -2147483648 ≤ sy4a ∧ sy4a ≤ 2147483647 := by omega
    have B_sx5a : -2147483648 ≤ sx5a ∧ sx5a ≤ 2147483647 := by omega
    have B_sy5a : -2147483648 ≤ sy5a ∧ sy5a ≤ 2147483647 := by omega
    have d0a : 0 ≤ pd0a := P0a.2.1
    have f0a := P0a.1
    have d1a : 0 ≤ pd1a := P1a.2.1
    have f1a := P1a.1
    have B_px0b : -2147483648 ≤ px0b ∧ px0b ≤ 2147483647 := by omega
    have B_py0b : -2147483648 ≤ py0b ∧ py0b ≤ 2147483647 := by omega
    have B_px1b : -2147483648 ≤ px1b ∧ px1b ≤ 2147483647 := by omega
    have B_py1b : -2147483648 ≤ py1b ∧ py1b ≤ 2147483647 := by omega
    have B_sx0b : -2147483648 ≤ sx0b ∧ sx0b ≤ 2147483647 := by omega
    have B_sy0b : -2147483648 ≤ sy0b ∧ sy0b ≤ 2147483647 := by omega
    have B_sx1b : -2147483648 ≤ sx1b ∧ sx1b ≤ 2147483647 := by omega
    have B_sy1b : -2147483648 ≤ sy1b ∧ sy1b ≤ 2147483647 := by omega
    have B_sx2b : -2147483648 ≤ sx2b ∧ sx2b ≤ 2147483647 := by omega
    have B_sy2b : -2147483648 ≤ sy2b ∧ sy2b ≤ 2147483647 := by omega
    have B_sx3b : -2147483648 ≤ sx3b ∧ sx3b ≤ 2147483647 := by omega
    have B_sy3b : -2147483648 ≤ sy3b ∧ sy3b ≤ 2147483647 := by omega
    have B_sx4b : -2147483648 ≤ sx4b ∧ sx4b ≤ 2147483647 := by omega
    have B_sy4b : -2147483648 ≤ sy4b ∧ sy4b ≤ 2147483647 := by omega
    have B_sx5b : -2147483648 ≤ sx5b ∧ sx5b ≤ 2147483647 := by omega
    have B_sy5b : -2147483648 ≤ sy5b ∧ sy5b ≤ 2147483647 := by omega
    have d0b : 0 ≤ pd0b := P0b.2.1
    have f0b := P0b.1
    have d1b : 0 ≤ pd1b := P1b.2.1
    have f1b := P1b.1
    simp only [hw0, hwo, beq_self_eq_true, Bool.and_self, Bool.and_true, Bool.true_and, Bool.and_false, Bool.false_and, Bool.not_true, Bool.not_false, Bool.true_eq_false, Bool.false_eq_true, false_implies, true_implies, implies_true, true_and, and_true, if_true, if_false, reduceIte, and_self]
    simp only [mixX_0 ho B_px0a, mixX_0 ho B_py0a, mixX_0 ho B_px1a, mixX_0 ho B_py1a, mixX_0 ho B_sx0a, mixX_0 ho B_sy0a, mixX_0 ho B_sx1a, mixX_0 ho B_sy1a, mixX_0 ho B_sx2a, mixX_0 ho B_sy2a, mixX_0 ho B_sx3a, mixX_0 ho B_sy3a, mixX_0 ho B_sx4a, mixX_0 ho B_sy4a, mixX_0 ho B_sx5a, mixX_0 ho B_sy5a, mixF_0 ho f0a, mixU_0 ho d0a, mixF_0 ho f1a, mixU_0 ho d1a, mixX_o ho B_px0b, mixX_o ho B_py0b, mixX_o ho B_px1b, mixX_o ho B_py1b, mixX_o ho B_sx0b, mixX_o ho B_sy0b, mixX_o ho B_sx1b, mixX_o ho B_sy1b, mixX_o ho B_sx2b, mixX_o ho B_sy2b, mixX_o ho B_sx3b, mixX_o ho B_sy3b, mixX_o ho B_sx4b, mixX_o ho B_sy4b, mixX_o ho B_sx5b, mixX_o ho B_sy5b, mixF_o ho f0b, mixU_o (o := o) d0b, mixU_p d0b, mixF_o ho f1b, mixU_o (o := o) d1b, mixU_p d1b, mixO_0 ho, mixO_o, B_px0a, B_py0a, B_px1a, B_py1a, B_sx0a, B_sy0a, B_sx1a, B_sy1a, B_sx2a, B_sy2a, B_sx3a, B_sy3a, B_sx4a, B_sy4a, B_sx5a, B_sy5a, B_px0b, B_py0b, B_px1b, B_py1b, B_sx0b, B_sy0b, B_sx1b, B_sy1b, B_sx2b, B_sy2b, B_sx3b, B_sy3b, B_sx4b, B_sy4b, B_sx5b, B_sy5b, beq_self_eq_true, Bool.and_self, Bool.and_true, Bool.true_and, Bool.and_false, Bool.false_and, Bool.not_true, Bool.not_false, Bool.true_eq_false, Bool.false_eq_true, false_implies, true_implies, implies_true, true_and, and_true, if_true, if_false, reduceIte, and_self]
noncomputable def Γ_TweenEnds : List (FuncId × FC) := (6, c_TweenEnds) :: Γ_sright
theorem ok_TweenEnds : ΓOk Try.prog Γ_TweenEnds := ΓOk.cons s_TweenEnds ok_sright

theorem TweenEnds_walk (fra : Int) (dca : Int) (rda : Int) (lfa : Int) (px0a : Int) (py0a : Int) (pu0a : Int) (pv0a : Int) (pf0a : Int) (ph0a : Int) (pc0a : Int) (pw0a : Int) (pd0a : Int) (ps0a : Int) (px1a : Int) (py1a : Int) (pu1a : Int) (pv1a : Int) (pf1a : Int) (ph1a : Int) (pc1a : Int) (pw1a : Int) (pd1a : Int) (ps1a : Int) (sx0a : Int) (sy0a : Int) (su0a : Int) (sv0a : Int) (so0a : Int) (sl0a : Int) (sx1a : Int) (sy1a : Int) (su1a : Int) (sv1a : Int) (so1a : Int) (sl1a : Int) (sx2a : Int) (sy2a : Int) (su2a : Int) (sv2a : Int) (so2a : Int) (sl2a : Int) (sx3a : Int) (sy3a : Int) (su3a : Int) (sv3a : Int) (so3a : Int) (sl3a : Int) (sx4a : Int) (sy4a : Int) (su4a : Int) (sv4a : Int) (so4a : Int) (sl4a : Int) (sx5a : Int) (sy5a : Int) (su5a : Int) (sv5a : Int) (so5a : Int) (sl5a : Int) (frb : Int) (dcb : Int) (rdb : Int) (lfb : Int) (px0b : Int) (py0b : Int) (pu0b : Int) (pv0b : Int) (pf0b : Int) (ph0b : Int) (pc0b : Int) (pw0b : Int) (pd0b : Int) (ps0b : Int) (px1b : Int) (py1b : Int) (pu1b : Int) (pv1b : Int) (pf1b : Int) (ph1b : Int) (pc1b : Int) (pw1b : Int) (pd1b : Int) (ps1b : Int) (sx0b : Int) (sy0b : Int) (su0b : Int) (sv0b : Int) (so0b : Int) (sl0b : Int) (sx1b : Int) (sy1b : Int) (su1b : Int) (sv1b : Int) (so1b : Int) (sl1b : Int) (sx2b : Int) (sy2b : Int) (su2b : Int) (sv2b : Int) (so2b : Int) (sl2b : Int) (sx3b : Int) (sy3b : Int) (su3b : Int) (sv3b : Int) (so3b : Int) (sl3b : Int) (sx4b : Int) (sy4b : Int) (su4b : Int) (sv4b : Int) (so4b : Int) (sl4b : Int) (sx5b : Int) (sy5b : Int) (su5b : Int) (sv5b : Int) (so5b : Int) (sl5b : Int) (o : Int) (w_fra : (Lit.int .i64 fra).wf = true) (w_dca : (Lit.int .u32 dca).wf = true) (w_rda : (Lit.int .i64 rda).wf = true) (w_lfa : (Lit.int .i64 lfa).wf = true) (w_px0a : (Lit.int .i32 px0a).wf = true) (w_py0a : (Lit.int .i32 py0a).wf = true) (w_pu0a : (Lit.int .i32 pu0a).wf = true) (w_pv0a : (Lit.int .i32 pv0a).wf = true) (w_pf0a : (Lit.int .i64 pf0a).wf = true) (w_ph0a : (Lit.int .i64 ph0a).wf = true) (w_pc0a : (Lit.int .i64 pc0a).wf = true) (w_pw0a : (Lit.int .i64 pw0a).wf = true) (w_pd0a : (Lit.int .i64 pd0a).wf = true) (w_ps0a : (Lit.int .i64 ps0a).wf = true) (w_px1a : (Lit.int .i32 px1a).wf = true) (w_py1a : (Lit.int .i32 py1a).wf = true) (w_pu1a : (Lit.int .i32 pu1a).wf = true) (w_pv1a : (Lit.int .i32 pv1a).wf = true) (w_pf1a : (Lit.int .i64 pf1a).wf = true) (w_ph1a : (Lit.int .i64 ph1a).wf = true) (w_pc1a : (Lit.int .i64 pc1a).wf = true) (w_pw1a : (Lit.int .i64 pw1a).wf = true) (w_pd1a : (Lit.int .i64 pd1a).wf = true) (w_ps1a : (Lit.int .i64 ps1a).wf = true) (w_sx0a : (Lit.int .i32 sx0a).wf = true) (w_sy0a : (Lit.int .i32 sy0a).wf = true) (w_su0a : (Lit.int .i32 su0a).wf = true) (w_sv0a : (Lit.int .i32 sv0a).wf = true) (w_so0a : (Lit.int .i64 so0a).wf = true) (w_sl0a : (Lit.int .i64 sl0a).wf = true) (w_sx1a : (Lit.int .i32 sx1a).wf = true) (w_sy1a : (Lit.int .i32 sy1a).wf = true) (w_su1a : (Lit.int .i32 su1a).wf = true) (w_sv1a : (Lit.int .i32 sv1a).wf = true) (w_so1a : (Lit.int .i64 so1a).wf = true) (w_sl1a : (Lit.int .i64 sl1a).wf = true) (w_sx2a : (Lit.int .i32 sx2a).wf = true) (w_sy2a : (Lit.int .i32 sy2a).wf = true) (w_su2a : (Lit.int .i32 su2a).wf = true) (w_sv2a : (Lit.int .i32 sv2a).wf = true) (w_so2a : (Lit.int .i64 so2a).wf = true) (w_sl2a : (Lit.int .i64 sl2a).wf = true) (w_sx3a : (Lit.int .i32 sx3a).wf = true) (w_sy3a : (Lit.int .i32 sy3a).wf = true) (w_su3a : (Lit.int .i32 su3a).wf = true) (w_sv3a : (Lit.int .i32 sv3a).wf = true) (w_so3a : (Lit.int .i64 so3a).wf = true) (w_sl3a : (Lit.int .i64 sl3a).wf = true) (w_sx4a : (Lit.int .i32 sx4a).wf = true) (w_sy4a : (Lit.int .i32 sy4a).wf = true) (w_su4a : (Lit.int .i32 su4a).wf = true) (w_sv4a : (Lit.int .i32 sv4a).wf = true) (w_so4a : (Lit.int .i64 so4a).wf = true) (w_sl4a : (Lit.int .i64 sl4a).wf = true) (w_sx5a : (Lit.int .i32 sx5a).wf = true) (w_sy5a : (Lit.int .i32 sy5a).wf = true) (w_su5a : (Lit.int .i32 su5a).wf = true) (w_sv5a : (Lit.int .i32 sv5a).wf = true) (w_so5a : (Lit.int .i64 so5a).wf = true) (w_sl5a : (Lit.int .i64 sl5a).wf = true) (w_frb : (Lit.int .i64 frb).wf = true) (w_dcb : (Lit.int .u32 dcb).wf = true) (w_rdb : (Lit.int .i64 rdb).wf = true) (w_lfb : (Lit.int .i64 lfb).wf = true) (w_px0b : (Lit.int .i32 px0b).wf = true) (w_py0b : (Lit.int .i32 py0b).wf = true) (w_pu0b : (Lit.int .i32 pu0b).wf = true) (w_pv0b : (Lit.int .i32 pv0b).wf = true) (w_pf0b : (Lit.int .i64 pf0b).wf = true) (w_ph0b : (Lit.int .i64 ph0b).wf = true) (w_pc0b : (Lit.int .i64 pc0b).wf = true) (w_pw0b : (Lit.int .i64 pw0b).wf = true) (w_pd0b : (Lit.int .i64 pd0b).wf = true) (w_ps0b : (Lit.int .i64 ps0b).wf = true) (w_px1b : (Lit.int .i32 px1b).wf = true) (w_py1b : (Lit.int .i32 py1b).wf = true) (w_pu1b : (Lit.int .i32 pu1b).wf = true) (w_pv1b : (Lit.int .i32 pv1b).wf = true) (w_pf1b : (Lit.int .i64 pf1b).wf = true) (w_ph1b : (Lit.int .i64 ph1b).wf = true) (w_pc1b : (Lit.int .i64 pc1b).wf = true) (w_pw1b : (Lit.int .i64 pw1b).wf = true) (w_pd1b : (Lit.int .i64 pd1b).wf = true) (w_ps1b : (Lit.int .i64 ps1b).wf = true) (w_sx0b : (Lit.int .i32 sx0b).wf = true) (w_sy0b : (Lit.int .i32 sy0b).wf = true) (w_su0b : (Lit.int .i32 su0b).wf = true) (w_sv0b : (Lit.int .i32 sv0b).wf = true) (w_so0b : (Lit.int .i64 so0b).wf = true) (w_sl0b : (Lit.int .i64 sl0b).wf = true) (w_sx1b : (Lit.int .i32 sx1b).wf = true) (w_sy1b : (Lit.int .i32 sy1b).wf = true) (w_su1b : (Lit.int .i32 su1b).wf = true) (w_sv1b : (Lit.int .i32 sv1b).wf = true) (w_so1b : (Lit.int .i64 so1b).wf = true) (w_sl1b : (Lit.int .i64 sl1b).wf = true) (w_sx2b : (Lit.int .i32 sx2b).wf = true) (w_sy2b : (Lit.int .i32 sy2b).wf = true) (w_su2b : (Lit.int .i32 su2b).wf = true) (w_sv2b : (Lit.int .i32 sv2b).wf = true) (w_so2b : (Lit.int .i64 so2b).wf = true) (w_sl2b : (Lit.int .i64 sl2b).wf = true) (w_sx3b : (Lit.int .i32 sx3b).wf = true) (w_sy3b : (Lit.int .i32 sy3b).wf = true) (w_su3b : (Lit.int .i32 su3b).wf = true) (w_sv3b : (Lit.int .i32 sv3b).wf = true) (w_so3b : (Lit.int .i64 so3b).wf = true) (w_sl3b : (Lit.int .i64 sl3b).wf = true) (w_sx4b : (Lit.int .i32 sx4b).wf = true) (w_sy4b : (Lit.int .i32 sy4b).wf = true) (w_su4b : (Lit.int .i32 su4b).wf = true) (w_sv4b : (Lit.int .i32 sv4b).wf = true) (w_so4b : (Lit.int .i64 so4b).wf = true) (w_sl4b : (Lit.int .i64 sl4b).wf = true) (w_sx5b : (Lit.int .i32 sx5b).wf = true) (w_sy5b : (Lit.int .i32 sy5b).wf = true) (w_su5b : (Lit.int .i32 su5b).wf = true) (w_sv5b : (Lit.int .i32 sv5b).wf = true) (w_so5b : (Lit.int .i64 so5b).wf = true) (w_sl5b : (Lit.int .i64 sl5b).wf = true) (w_o : (Lit.int .i64 o).wf = true) (w : World) : Calls Try.prog 6 #[.agg #[.int .i64 fra, .int .u32 dca, .int .i64 rda, .int .i64 lfa, .int .i32 px0a, .int .i32 py0a, .int .i32 pu0a, .int .i32 pv0a, .int .i64 pf0a, .int .i64 ph0a, .int .i64 pc0a, .int .i64 pw0a, .int .i64 pd0a, .int .i64 ps0a, .int .i32 px1a, .int .i32 py1a, .int .i32 pu1a, .int .i32 pv1a, .int .i64 pf1a, .int .i64 ph1a, .int .i64 pc1a, .int .i64 pw1a, .int .i64 pd1a, .int .i64 ps1a, .int .i32 sx0a, .int .i32 sy0a, .int .i32 su0a, .int .i32 sv0a, .int .i64 so0a, .int .i64 sl0a, .int .i32 sx1a, .int .i32 sy1a, .int .i32 su1a, .int .i32 sv1a, .int .i64 so1a, .int .i64 sl1a, .int .i32 sx2a, .int .i32 sy2a, .int .i32 su2a, .int .i32 sv2a, .int .i64 so2a, .int .i64 sl2a, .int .i32 sx3a, .int .i32 sy3a, .int .i32 su3a, .int .i32 sv3a, .int .i64 so3a, .int .i64 sl3a, .int .i32 sx4a, .int .i32 sy4a, .int .i32 su4a, .int .i32 sv4a, .int .i64 so4a, .int .i64 sl4a, .int .i32 sx5a, .int .i32 sy5a, .int .i32 su5a, .int .i32 sv5a, .int .i64 so5a, .int .i64 sl5a], .agg #[.int .i64 frb, .int .u32 dcb, .int .i64 rdb, .int .i64 lfb, .int .i32 px0b, .int .i32 py0b, .int .i32 pu0b, .int .i32 pv0b, .int .i64 pf0b, .int .i64 ph0b, .int .i64 pc0b, .int .i64 pw0b, .int .i64 pd0b, .int .i64 ps0b, .int .i32 px1b, .int .i32 py1b, .int .i32 pu1b, .int .i32 pv1b, .int .i64 pf1b, .int .i64 ph1b, .int .i64 pc1b, .int .i64 pw1b, .int .i64 pd1b, .int .i64 ps1b, .int .i32 sx0b, .int .i32 sy0b, .int .i32 su0b, .int .i32 sv0b, .int .i64 so0b, .int .i64 sl0b, .int .i32 sx1b, .int .i32 sy1b, .int .i32 su1b, .int .i32 sv1b, .int .i64 so1b, .int .i64 sl1b, .int .i32 sx2b, .int .i32 sy2b, .int .i32 su2b, .int .i32 sv2b, .int .i64 so2b, .int .i64 sl2b, .int .i32 sx3b, .int .i32 sy3b, .int .i32 su3b, .int .i32 sv3b, .int .i64 so3b, .int .i64 sl3b, .int .i32 sx4b, .int .i32 sy4b, .int .i32 su4b, .int .i32 sv4b, .int .i64 so4b, .int .i64 sl4b, .int .i32 sx5b, .int .i32 sy5b, .int .i32 su5b, .int .i32 sv5b, .int .i64 so5b, .int .i64 sl5b], .int .i64 o] w fun e w' => e = .returned (.bool true) ∧ Ext w w' :=
  calls_of_fsound s_TweenEnds (us := [.v (.agg [.int .i64 false fra, .int .u32 false dca, .int .i64 false rda, .int .i64 false lfa, .int .i32 false px0a, .int .i32 false py0a, .int .i32 false pu0a, .int .i32 false pv0a, .int .i64 false pf0a, .int .i64 false ph0a, .int .i64 false pc0a, .int .i64 false pw0a, .int .i64 false pd0a, .int .i64 false ps0a, .int .i32 false px1a, .int .i32 false py1a, .int .i32 false pu1a, .int .i32 false pv1a, .int .i64 false pf1a, .int .i64 false ph1a, .int .i64 false pc1a, .int .i64 false pw1a, .int .i64 false pd1a, .int .i64 false ps1a, .int .i32 false sx0a, .int .i32 false sy0a, .int .i32 false su0a, .int .i32 false sv0a, .int .i64 false so0a, .int .i64 false sl0a, .int .i32 false sx1a, .int .i32 false sy1a, .int .i32 false su1a, .int .i32 false sv1a, .int .i64 false so1a, .int .i64 false sl1a, .int .i32 false sx2a, .int .i32 false sy2a, .int .i32 false su2a, .int .i32 false sv2a, .int .i64 false so2a, .int .i64 false sl2a, .int .i32 false sx3a, .int .i32 false sy3a, .int .i32 false su3a, .int .i32 false sv3a, .int .i64 false so3a, .int .i64 false sl3a, .int .i32 false sx4a, .int .i32 false sy4a, .int .i32 false su4a, .int .i32 false sv4a, .int .i64 false so4a, .int .i64 false sl4a, .int .i32 false sx5a, .int .i32 false sy5a, .int .i32 false su5a, .int .i32 false sv5a, .int .i64 false so5a, .int .i64 false sl5a]), .v (.agg [.int .i64 false frb, .int .u32 false dcb, .int .i64 false rdb, .int .i64 false lfb, .int .i32 false px0b, .int .i32 false py0b, .int .i32 false pu0b, .int .i32 false pv0b, .int .i64 false pf0b, .int .i64 false ph0b, .int .i64 false pc0b, .int .i64 false pw0b, .int .i64 false pd0b, .int .i64 false ps0b, .int .i32 false px1b, .int .i32 false py1b, .int .i32 false pu1b, .int .i32 false pv1b, .int .i64 false pf1b, .int .i64 false ph1b, .int .i64 false pc1b, .int .i64 false pw1b, .int .i64 false pd1b, .int .i64 false ps1b, .int .i32 false sx0b, .int .i32 false sy0b, .int .i32 false su0b, .int .i32 false sv0b, .int .i64 false so0b, .int .i64 false sl0b, .int .i32 false sx1b, .int .i32 false sy1b, .int .i32 false su1b, .int .i32 false sv1b, .int .i64 false so1b, .int .i64 false sl1b, .int .i32 false sx2b, .int .i32 false sy2b, .int .i32 false su2b, .int .i32 false sv2b, .int .i64 false so2b, .int .i64 false sl2b, .int .i32 false sx3b, .int .i32 false sy3b, .int .i32 false su3b, .int .i32 false sv3b, .int .i64 false so3b, .int .i64 false sl3b, .int .i32 false sx4b, .int .i32 false sy4b, .int .i32 false su4b, .int .i32 false sv4b, .int .i64 false so4b, .int .i64 false sl4b, .int .i32 false sx5b, .int .i32 false sy5b, .int .i32 false su5b, .int .i32 false sv5b, .int .i64 false so5b, .int .i64 false sl5b]), .v (.one (.int .i64 false o))]) (p := some ((-2147483648 ≤ px0a ∧ px0a ≤ 2147483647) ∧ (-2147483648 ≤ py0a ∧ py0a ≤ 2147483647) ∧ (-2147483648 ≤ px1a ∧ px1a ≤ 2147483647) ∧ (-2147483648 ≤ py1a ∧ py1a ≤ 2147483647) ∧ (-2147483648 ≤ sx0a ∧ sx0a ≤ 2147483647) ∧ (-2147483648 ≤ sy0a ∧ sy0a ≤ 2147483647) ∧ (-2147483648 ≤ sx1a ∧ sx1a ≤ 2147483647) ∧ (-2147483648 ≤ sy1a ∧ sy1a ≤ 2147483647) ∧ (-2147483648 ≤ sx2a ∧ sx2a ≤ 2147483647) ∧ (-2147483648 ≤ sy2a ∧ sy2a ≤ 2147483647) ∧ (-2147483648 ≤ sx3a ∧ sx3a ≤ 2147483647) ∧ (-2147483648 ≤ sy3a ∧ sy3a ≤ 2147483647) ∧ (-2147483648 ≤ sx4a ∧ sx4a ≤ 2147483647) ∧ (-2147483648 ≤ sy4a ∧ sy4a ≤ 2147483647) ∧ (-2147483648 ≤ sx5a ∧ sx5a ≤ 2147483647) ∧ (-2147483648 ≤ sy5a ∧ sy5a ≤ 2147483647) ∧ (-2147483648 ≤ px0b ∧ px0b ≤ 2147483647) ∧ (-2147483648 ≤ py0b ∧ py0b ≤ 2147483647) ∧ (-2147483648 ≤ px1b ∧ px1b ≤ 2147483647) ∧ (-2147483648 ≤ py1b ∧ py1b ≤ 2147483647) ∧ (-2147483648 ≤ sx0b ∧ sx0b ≤ 2147483647) ∧ (-2147483648 ≤ sy0b ∧ sy0b ≤ 2147483647) ∧ (-2147483648 ≤ sx1b ∧ sx1b ≤ 2147483647) ∧ (-2147483648 ≤ sy1b ∧ sy1b ≤ 2147483647) ∧ (-2147483648 ≤ sx2b ∧ sx2b ≤ 2147483647) ∧ (-2147483648 ≤ sy2b ∧ sy2b ≤ 2147483647) ∧ (-2147483648 ≤ sx3b ∧ sx3b ≤ 2147483647) ∧ (-2147483648 ≤ sy3b ∧ sy3b ≤ 2147483647) ∧ (-2147483648 ≤ sx4b ∧ sx4b ≤ 2147483647) ∧ (-2147483648 ≤ sy4b ∧ sy4b ≤ 2147483647) ∧ (-2147483648 ≤ sx5b ∧ sx5b ≤ 2147483647) ∧ (-2147483648 ≤ sy5b ∧ sy5b ≤ 2147483647))) rfl (⟨bounds_i32 w_px0a, bounds_i32 w_py0a, bounds_i32 w_px1a, bounds_i32 w_py1a, bounds_i32 w_sx0a, bounds_i32 w_sy0a, bounds_i32 w_sx1a, bounds_i32 w_sy1a, bounds_i32 w_sx2a, bounds_i32 w_sy2a, bounds_i32 w_sx3a, bounds_i32 w_sy3a, bounds_i32 w_sx4a, bounds_i32 w_sy4a, bounds_i32 w_sx5a, bounds_i32 w_sy5a, bounds_i32 w_px0b, bounds_i32 w_py0b, bounds_i32 w_px1b, bounds_i32 w_py1b, bounds_i32 w_sx0b, bounds_i32 w_sy0b, bounds_i32 w_sx1b, bounds_i32 w_sy1b, bounds_i32 w_sx2b, bounds_i32 w_sy2b, bounds_i32 w_sx3b, bounds_i32 w_sy3b, bounds_i32 w_sx4b, bounds_i32 w_sy4b, bounds_i32 w_sx5b, bounds_i32 w_sy5b⟩) rfl rfl w

end Go.Proofs.Ytlmhklaobfmhbaa
