/- 'TweenSteps'. Conditions: the contracts' own. Own work; the normal forms were printed by a program of mine (wip/rex). -/
import Derived.Test.YtceffompldihjaaRT9c
namespace Go.Proofs.Ytceffompldihjaa
open Go.RowKit Rex
set_option linter.unusedVariables false
set_option linter.unusedSimpArgs false
set_option maxRecDepth 100000


def btB (a b v : Int) : Bool := decide (min a b ≤ v) && decide (v ≤ max a b)
theorem part_btw {d n : Int} (hn : 0 ≤ n ∧ n ≤ 255) : (0 ≤ d → 0 ≤ d * n / 256 ∧ d * n / 256 ≤ d) ∧ (d ≤ 0 → d ≤ d * n / 256 ∧ d * n / 256 ≤ 0) := by
  refine ⟨fun h => ?_, fun h => ?_⟩
  · have h1 : 0 ≤ d * n := Int.mul_nonneg h hn.1
    have h2 : d * n ≤ d * 256 := Int.mul_le_mul_of_nonneg_left (by omega) h
    generalize d * n = x at *
    omega
  · have h1 : 0 ≤ (-d) * n := Int.mul_nonneg (by omega) hn.1
    have h2 : (-d) * n ≤ (-d) * 256 := Int.mul_le_mul_of_nonneg_left (by omega) (by omega)
    rw [Int.neg_mul] at h1 h2
    generalize d * n = x at *
    omega
theorem mix_btw {a b n : Int} (c : Bool) (ha : -2147483648 ≤ a ∧ a ≤ 2147483647) (hb : -2147483648 ≤ b ∧ b ≤ 2147483647) (hn : 0 ≤ n ∧ n ≤ 255) : btB a b (mixX c a b n 256) = true := by
  have h := @part_btw (b - a) n hn
  unfold btB mixX lerpF
  simp only [Bool.and_eq_true, decide_eq_true_eq]
  generalize (b - a) * n / 256 = x at *
  have hs : a + x = a ∨ (a ≤ a + x ∧ a + x ≤ b) ∨ (b ≤ a + x ∧ a + x ≤ a) := by omega
  rw [sat_in (a + x) (by omega)]
  split
  · omega
  · rw [if_neg (by omega)]; omega
theorem mixF_bd {f t n : Int} (c : Bool) (hf : 0 ≤ f ∧ f ≤ 65535) (hn : 0 ≤ n ∧ n ≤ 255) : 0 ≤ mixF c f t n 256 ∧ mixF c f t n 256 ≤ 65535 := by
  unfold mixF angF
  split
  · omega
  · rw [if_neg (by omega)]; exact hf
theorem mixF_lo {f t n : Int} (c : Bool) (hf : 0 ≤ f ∧ f ≤ 65535) (hn : 0 ≤ n ∧ n ≤ 255) : decide (mixF c f t n 256 < 0) = false := decide_eq_false (by have := @mixF_bd f t n c hf hn; omega)
theorem mixF_hi {f t n : Int} (c : Bool) (hf : 0 ≤ f ∧ f ≤ 65535) (hn : 0 ≤ n ∧ n ≤ 255) : decide (65535 < mixF c f t n 256) = false := decide_eq_false (by have := @mixF_bd f t n c hf hn; omega)
theorem facing_facts {x y f h c w d s : Int} (k : playerB x y f h c w d s = true) : 0 ≤ f ∧ f ≤ 65535 := by
  unfold playerB at k
  simp only [Bool.and_eq_true, decide_eq_true_eq] at k
  omega
theorem u8_bd (x : Int) : 0 ≤ IntKind.u8.wrap x ∧ IntKind.u8.wrap x ≤ 255 := by
  have h : IntKind.u8.wrap x = x % 256 := rfl
  omega


noncomputable def c_sbetween : FC := fun us => match us with
  | [.v (.agg [.int .i32 _ ax, .int .i32 _ ay]), .v (.agg [.int .i32 _ bx, .int .i32 _ by_]), .v (.agg [.int .i32 _ vx, .int .i32 _ vy])] => some (none, .v (.one (.bool false (btB ax bx vx && btB ay by_ vy))))
  | _ => none
theorem nf_sbetween (ax : Int) (ay : Int) (bx : Int) (by_ : Int) (vx : Int) (vy : Int) : goal ⟨Mx, Try.prog, Γ_rfresh, Δ_rstep, B0, none, false, [], none⟩ noL 400 Try.f10 [.v (.agg [.int .i32 false ax, .int .i32 false ay]), .v (.agg [.int .i32 false bx, .int .i32 false by_]), .v (.agg [.int .i32 false vx, .int .i32 false vy])] [] (fun r _ => svLe idR r (.v (.one (.bool false (btB ax bx vx && btB ay by_ vy))))) = ((decide ((if bx < ax then bx else ax) ≤ vx) = true → (decide (vx ≤ if ax < bx then bx else ax) = true → (decide ((if by_ < ay then by_ else ay) ≤ vy) = true → decide (vy ≤ if ay < by_ then by_ else ay) = (btB ax bx vx && btB ay by_ vy)) ∧ (decide ((if by_ < ay then by_ else ay) ≤ vy) = false → false = (btB ax bx vx && btB ay by_ vy))) ∧ (decide (vx ≤ if ax < bx then bx else ax) = false → false = (btB ax bx vx && btB ay by_ vy))) ∧ (decide ((if bx < ax then bx else ax) ≤ vx) = false → false = (btB ax bx vx && btB ay by_ vy))) := by kernel_rfl
theorem s_sbetween : FSound Try.prog 10 c_sbetween := by
  refine fsound_of (Ctx.ok_of2 (M := Mx) (N := []) mixedA ok_rfresh okD_rstep okB0) Try.func10 (by kernel_rfl) (by kernel_rfl) ?_
  intro us p v h hp
  unfold c_sbetween at h
  split at h
  · rename_i k0 ax k1 ay k2 bx k3 by_ k4 vx k5 vy
    cases h
    refine ⟨rfl, noL, 400, [.v (.agg [.int .i32 false ax, .int .i32 false ay]), .v (.agg [.int .i32 false bx, .int .i32 false by_]), .v (.agg [.int .i32 false vx, .int .i32 false vy])], by simp [tmLe, svLe, vLe, lfLe, lfsLe, ifB, nmIs, idR], rfl, ?_⟩
    rw [nf_sbetween]
    clear hp
    have h1 : ∀ a b : Int, (if b < a then b else a) = min a b := fun a b => by omega
    have h2 : ∀ a b : Int, (if a < b then b else a) = max a b := fun a b => by omega
    simp only [h1, h2]
    unfold btB
    cases decide (min ax bx ≤ vx) <;> cases decide (vx ≤ max ax bx) <;> cases decide (min ay by_ ≤ vy) <;> cases decide (vy ≤ max ay by_) <;> decide
  · cases h
noncomputable def Γ_sbetween : List (FuncId × FX) := (10, c_sbetween) :: Γ_rfresh
theorem ok_sbetween : ΓOk Try.prog Γ_sbetween := ΓOk.cons (c := .pure c_sbetween) s_sbetween ok_rfresh

noncomputable def c_TweenSteps : FC := fun us => gA us fun ls0_0 us0 => gI .i64 ls0_0 fun fr ls0_1 => gI .u32 ls0_1 fun dc ls0_2 => gI .i64 ls0_2 fun rd ls0_3 => gI .i64 ls0_3 fun lf ls0_4 => gI .i32 ls0_4 fun px0 ls0_5 => gI .i32 ls0_5 fun py0 ls0_6 => gI .i32 ls0_6 fun pu0 ls0_7 => gI .i32 ls0_7 fun pv0 ls0_8 => gI .i64 ls0_8 fun pf0 ls0_9 => gI .i64 ls0_9 fun ph0 ls0_10 => gI .i64 ls0_10 fun pc0 ls0_11 => gI .i64 ls0_11 fun pw0 ls0_12 => gI .i64 ls0_12 fun pd0 ls0_13 => gI .i64 ls0_13 fun ps0 ls0_14 => gI .i32 ls0_14 fun px1 ls0_15 => gI .i32 ls0_15 fun py1 ls0_16 => gI .i32 ls0_16 fun pu1 ls0_17 => gI .i32 ls0_17 fun pv1 ls0_18 => gI .i64 ls0_18 fun pf1 ls0_19 => gI .i64 ls0_19 fun ph1 ls0_20 => gI .i64 ls0_20 fun pc1 ls0_21 => gI .i64 ls0_21 fun pw1 ls0_22 => gI .i64 ls0_22 fun pd1 ls0_23 => gI .i64 ls0_23 fun ps1 ls0_24 => gI .i32 ls0_24 fun sx0 ls0_25 => gI .i32 ls0_25 fun sy0 ls0_26 => gI .i32 ls0_26 fun su0 ls0_27 => gI .i32 ls0_27 fun sv0 ls0_28 => gI .i64 ls0_28 fun so0 ls0_29 => gI .i64 ls0_29 fun sl0 ls0_30 => gI .i32 ls0_30 fun sx1 ls0_31 => gI .i32 ls0_31 fun sy1 ls0_32 => gI .i32 ls0_32 fun su1 ls0_33 => gI .i32 ls0_33 fun sv1 ls0_34 => gI .i64 ls0_34 fun so1 ls0_35 => gI .i64 ls0_35 fun sl1 ls0_36 => gI .i32 ls0_36 fun sx2 ls0_37 => gI .i32 ls0_37 fun sy2 ls0_38 => gI .i32 ls0_38 fun su2 ls0_39 => gI .i32 ls0_39 fun sv2 ls0_40 => gI .i64 ls0_40 fun so2 ls0_41 => gI .i64 ls0_41 fun sl2 ls0_42 => gI .i32 ls0_42 fun sx3 ls0_43 => gI .i32 ls0_43 fun sy3 ls0_44 => gI .i32 ls0_44 fun su3 ls0_45 => gI .i32 ls0_45 fun sv3 ls0_46 => gI .i64 ls0_46 fun so3 ls0_47 => gI .i64 ls0_47 fun sl3 ls0_48 => gI .i32 ls0_48 fun sx4 ls0_49 => gI .i32 ls0_49 fun sy4 ls0_50 => gI .i32 ls0_50 fun su4 ls0_51 => gI .i32 ls0_51 fun sv4 ls0_52 => gI .i64 ls0_52 fun so4 ls0_53 => gI .i64 ls0_53 fun sl4 ls0_54 => gI .i32 ls0_54 fun sx5 ls0_55 => gI .i32 ls0_55 fun sy5 ls0_56 => gI .i32 ls0_56 fun su5 ls0_57 => gI .i32 ls0_57 fun sv5 ls0_58 => gI .i64 ls0_58 fun so5 ls0_59 => gI .i64 ls0_59 fun sl5 ls0_60 => gN ls0_60 <| gA us0 fun ls1_0 us1 => gI .u8 ls1_0 fun i0 ls1_1 => gI .u8 ls1_1 fun i1 ls1_2 => gN ls1_2 <| gO us1 fun ls2_0 us2 => gI .u8 ls2_0 fun n ls2_1 => gE us2 <| some (some ((0 ≤ dc ∧ dc ≤ 4294967295) ∧ (-2147483648 ≤ px0 ∧ px0 ≤ 2147483647) ∧ (-2147483648 ≤ py0 ∧ py0 ≤ 2147483647) ∧ (-2147483648 ≤ pu0 ∧ pu0 ≤ 2147483647) ∧ (-2147483648 ≤ pv0 ∧ pv0 ≤ 2147483647) ∧ (-2147483648 ≤ px1 ∧ px1 ≤ 2147483647) ∧ (-2147483648 ≤ py1 ∧ py1 ≤ 2147483647) ∧ (-2147483648 ≤ pu1 ∧ pu1 ≤ 2147483647) ∧ (-2147483648 ≤ pv1 ∧ pv1 ≤ 2147483647) ∧ (-2147483648 ≤ sx0 ∧ sx0 ≤ 2147483647) ∧ (-2147483648 ≤ sy0 ∧ sy0 ≤ 2147483647) ∧ (-2147483648 ≤ su0 ∧ su0 ≤ 2147483647) ∧ (-2147483648 ≤ sv0 ∧ sv0 ≤ 2147483647) ∧ (-2147483648 ≤ sx1 ∧ sx1 ≤ 2147483647) ∧ (-2147483648 ≤ sy1 ∧ sy1 ≤ 2147483647) ∧ (-2147483648 ≤ su1 ∧ su1 ≤ 2147483647) ∧ (-2147483648 ≤ sv1 ∧ sv1 ≤ 2147483647) ∧ (-2147483648 ≤ sx2 ∧ sx2 ≤ 2147483647) ∧ (-2147483648 ≤ sy2 ∧ sy2 ≤ 2147483647) ∧ (-2147483648 ≤ su2 ∧ su2 ≤ 2147483647) ∧ (-2147483648 ≤ sv2 ∧ sv2 ≤ 2147483647) ∧ (-2147483648 ≤ sx3 ∧ sx3 ≤ 2147483647) ∧ (-2147483648 ≤ sy3 ∧ sy3 ≤ 2147483647) ∧ (-2147483648 ≤ su3 ∧ su3 ≤ 2147483647) ∧ (-2147483648 ≤ sv3 ∧ sv3 ≤ 2147483647) ∧ (-2147483648 ≤ sx4 ∧ sx4 ≤ 2147483647) ∧ (-2147483648 ≤ sy4 ∧ sy4 ≤ 2147483647) ∧ (-2147483648 ≤ su4 ∧ su4 ≤ 2147483647) ∧ (-2147483648 ≤ sv4 ∧ sv4 ≤ 2147483647) ∧ (-2147483648 ≤ sx5 ∧ sx5 ≤ 2147483647) ∧ (-2147483648 ≤ sy5 ∧ sy5 ≤ 2147483647) ∧ (-2147483648 ≤ su5 ∧ su5 ≤ 2147483647) ∧ (-2147483648 ≤ sv5 ∧ sv5 ≤ 2147483647) ∧ (0 ≤ i0 ∧ i0 ≤ 255) ∧ (0 ≤ i1 ∧ i1 ≤ 255) ∧ (0 ≤ n ∧ n ≤ 255)), .v (.one (.bool true (true))))
theorem nf_TweenSteps (fr : Int) (dc : Int) (rd : Int) (lf : Int) (px0 : Int) (py0 : Int) (pu0 : Int) (pv0 : Int) (pf0 : Int) (ph0 : Int) (pc0 : Int) (pw0 : Int) (pd0 : Int) (ps0 : Int) (px1 : Int) (py1 : Int) (pu1 : Int) (pv1 : Int) (pf1 : Int) (ph1 : Int) (pc1 : Int) (pw1 : Int) (pd1 : Int) (ps1 : Int) (sx0 : Int) (sy0 : Int) (su0 : Int) (sv0 : Int) (so0 : Int) (sl0 : Int) (sx1 : Int) (sy1 : Int) (su1 : Int) (sv1 : Int) (so1 : Int) (sl1 : Int) (sx2 : Int) (sy2 : Int) (su2 : Int) (sv2 : Int) (so2 : Int) (sl2 : Int) (sx3 : Int) (sy3 : Int) (su3 : Int) (sv3 : Int) (so3 : Int) (sl3 : Int) (sx4 : Int) (sy4 : Int) (su4 : Int) (sv4 : Int) (so4 : Int) (sl4 : Int) (sx5 : Int) (sy5 : Int) (su5 : Int) (sv5 : Int) (so5 : Int) (sl5 : Int) (i0 : Int) (i1 : Int) (n : Int) : goal ⟨Mw, Try.prog, Γ_sbetween, Δ_rstep, B0, none, false, [], none⟩ noL 2000 Try.f4 [.v (.agg [.int .i64 false fr, .int .u32 false dc, .int .i64 false rd, .int .i64 false lf, .int .i32 false px0, .int .i32 false py0, .int .i32 false pu0, .int .i32 false pv0, .int .i64 false pf0, .int .i64 false ph0, .int .i64 false pc0, .int .i64 false pw0, .int .i64 false pd0, .int .i64 false ps0, .int .i32 false px1, .int .i32 false py1, .int .i32 false pu1, .int .i32 false pv1, .int .i64 false pf1, .int .i64 false ph1, .int .i64 false pc1, .int .i64 false pw1, .int .i64 false pd1, .int .i64 false ps1, .int .i32 false sx0, .int .i32 false sy0, .int .i32 false su0, .int .i32 false sv0, .int .i64 false so0, .int .i64 false sl0, .int .i32 false sx1, .int .i32 false sy1, .int .i32 false su1, .int .i32 false sv1, .int .i64 false so1, .int .i64 false sl1, .int .i32 false sx2, .int .i32 false sy2, .int .i32 false su2, .int .i32 false sv2, .int .i64 false so2, .int .i64 false sl2, .int .i32 false sx3, .int .i32 false sy3, .int .i32 false su3, .int .i32 false sv3, .int .i64 false so3, .int .i64 false sl3, .int .i32 false sx4, .int .i32 false sy4, .int .i32 false su4, .int .i32 false sv4, .int .i64 false so4, .int .i64 false sl4, .int .i32 false sx5, .int .i32 false sy5, .int .i32 false su5, .int .i32 false sv5, .int .i64 false so5, .int .i64 false sl5]), .v (.agg [.int .u8 false i0, .int .u8 false i1]), .v (.one (.int .u8 false n))] [] (fun r _ => svLe idR r (.v (.one (.bool true (true))))) = (((!(playerB px0 py0 pf0 ph0 pc0 pw0 pd0 ps0 && (playerB px1 py1 pf1 ph1 pc1 pw1 pd1 ps1 && (shotB sx0 sy0 su0 sv0 so0 sl0 && (shotB sx1 sy1 su1 sv1 so1 sl1 && (shotB sx2 sy2 su2 sv2 so2 sl2 && (shotB sx3 sy3 su3 sv3 so3 sl3 && (shotB sx4 sy4 su4 sv4 so4 sl4 && (shotB sx5 sy5 su5 sv5 so5 sl5 && decide ((0 : Int) ≤ fr ∧ fr ≤ (1073741824 : Int) ∧ (0 : Int) ≤ rd ∧ rd ≤ (1073741824 : Int) ∧ (1 : Int) ≤ lf ∧ lf ≤ (600 : Int))))))))))) = false → (decide ((1000000 : Int) < fr) = true → true = true) ∧ (decide ((1000000 : Int) < fr) = false → ((W (tl (lk [(0, fr), (1, dc), (2, rd), (3, lf), (4, px0), (5, py0), (6, pu0), (7, pv0), (8, pf0), (9, ph0), (10, pc0), (11, pw0), (12, pd0), (13, ps0), (14, px1), (15, py1), (16, pu1), (17, pv1), (18, pf1), (19, ph1), (20, pc1), (21, pw1), (22, pd1), (23, ps1), (24, sx0), (25, sy0), (26, su0), (27, sv0), (28, so0), (29, sl0), (30, sx1), (31, sy1), (32, su1), (33, sv1), (34, so1), (35, sl1), (36, sx2), (37, sy2), (38, su2), (39, sv2), (40, so2), (41, sl2), (42, sx3), (43, sy3), (44, su3), (45, sv3), (46, so3), (47, sl3), (48, sx4), (49, sy4), (50, su4), (51, sv4), (52, so4), (53, sl4), (54, sx5), (55, sy5), (56, su5), (57, sv5), (58, so5), (59, sl5)] (fun _ => 0)))) ∧ ((0 : Int) ≤ IntKind.u8.wrap (↑(BitVec.ofInt (8 : Nat) i0 &&& BitVec.ofInt (8 : Nat) (63 : Int)).toNat : Int) ∧ IntKind.u8.wrap (↑(BitVec.ofInt (8 : Nat) i0 &&& BitVec.ofInt (8 : Nat) (63 : Int)).toNat : Int) ≤ (255 : Int)) ∧ (0 : Int) ≤ IntKind.u8.wrap (↑(BitVec.ofInt (8 : Nat) i1 &&& BitVec.ofInt (8 : Nat) (63 : Int)).toNat : Int) ∧ IntKind.u8.wrap (↑(BitVec.ofInt (8 : Nat) i1 &&& BitVec.ofInt (8 : Nat) (63 : Int)).toNat : Int) ≤ (255 : Int)) ∧ ∀ (e : (Nat → Int) × QE shE), W e.fst ∧ (e.snd.fst = true → e.snd.snd.fst = (0 : Nat)) ∧ e.snd.snd.snd.length ≤ (64 : Nat) → (((-2147483648 : Int) ≤ px0 ∧ px0 ≤ (2147483647 : Int)) ∧ ((-2147483648 : Int) ≤ py0 ∧ py0 ≤ (2147483647 : Int)) ∧ ((-2147483648 : Int) ≤ px1 ∧ px1 ≤ (2147483647 : Int)) ∧ ((-2147483648 : Int) ≤ py1 ∧ py1 ≤ (2147483647 : Int)) ∧ ((-2147483648 : Int) ≤ sx0 ∧ sx0 ≤ (2147483647 : Int)) ∧ ((-2147483648 : Int) ≤ sy0 ∧ sy0 ≤ (2147483647 : Int)) ∧ ((-2147483648 : Int) ≤ sx1 ∧ sx1 ≤ (2147483647 : Int)) ∧ ((-2147483648 : Int) ≤ sy1 ∧ sy1 ≤ (2147483647 : Int)) ∧ ((-2147483648 : Int) ≤ sx2 ∧ sx2 ≤ (2147483647 : Int)) ∧ ((-2147483648 : Int) ≤ sy2 ∧ sy2 ≤ (2147483647 : Int)) ∧ ((-2147483648 : Int) ≤ sx3 ∧ sx3 ≤ (2147483647 : Int)) ∧ ((-2147483648 : Int) ≤ sy3 ∧ sy3 ≤ (2147483647 : Int)) ∧ ((-2147483648 : Int) ≤ sx4 ∧ sx4 ≤ (2147483647 : Int)) ∧ ((-2147483648 : Int) ≤ sy4 ∧ sy4 ≤ (2147483647 : Int)) ∧ ((-2147483648 : Int) ≤ sx5 ∧ sx5 ≤ (2147483647 : Int)) ∧ ((-2147483648 : Int) ≤ sy5 ∧ sy5 ≤ (2147483647 : Int)) ∧ ((-2147483648 : Int) ≤ e.fst (4 : Nat) ∧ e.fst (4 : Nat) ≤ (2147483647 : Int)) ∧ ((-2147483648 : Int) ≤ e.fst (5 : Nat) ∧ e.fst (5 : Nat) ≤ (2147483647 : Int)) ∧ ((-2147483648 : Int) ≤ e.fst (14 : Nat) ∧ e.fst (14 : Nat) ≤ (2147483647 : Int)) ∧ ((-2147483648 : Int) ≤ e.fst (15 : Nat) ∧ e.fst (15 : Nat) ≤ (2147483647 : Int)) ∧ ((-2147483648 : Int) ≤ e.fst (24 : Nat) ∧ e.fst (24 : Nat) ≤ (2147483647 : Int)) ∧ ((-2147483648 : Int) ≤ e.fst (25 : Nat) ∧ e.fst (25 : Nat) ≤ (2147483647 : Int)) ∧ ((-2147483648 : Int) ≤ e.fst (30 : Nat) ∧ e.fst (30 : Nat) ≤ (2147483647 : Int)) ∧ ((-2147483648 : Int) ≤ e.fst (31 : Nat) ∧ e.fst (31 : Nat) ≤ (2147483647 : Int)) ∧ ((-2147483648 : Int) ≤ e.fst (36 : Nat) ∧ e.fst (36 : Nat) ≤ (2147483647 : Int)) ∧ ((-2147483648 : Int) ≤ e.fst (37 : Nat) ∧ e.fst (37 : Nat) ≤ (2147483647 : Int)) ∧ ((-2147483648 : Int) ≤ e.fst (42 : Nat) ∧ e.fst (42 : Nat) ≤ (2147483647 : Int)) ∧ ((-2147483648 : Int) ≤ e.fst (43 : Nat) ∧ e.fst (43 : Nat) ≤ (2147483647 : Int)) ∧ ((-2147483648 : Int) ≤ e.fst (48 : Nat) ∧ e.fst (48 : Nat) ≤ (2147483647 : Int)) ∧ ((-2147483648 : Int) ≤ e.fst (49 : Nat) ∧ e.fst (49 : Nat) ≤ (2147483647 : Int)) ∧ ((-2147483648 : Int) ≤ e.fst (54 : Nat) ∧ e.fst (54 : Nat) ≤ (2147483647 : Int)) ∧ (-2147483648 : Int) ≤ e.fst (55 : Nat) ∧ e.fst (55 : Nat) ≤ (2147483647 : Int)) ∧ (((if wayB (IntKind.i64.wrap n) (256 : Int) = true then (0 : Int) else (1 : Int)) != (0 : Int)) = true → false = true) ∧ (((if wayB (IntKind.i64.wrap n) (256 : Int) = true then (0 : Int) else (1 : Int)) != (0 : Int)) = false → ((!(btB px0 (e.fst (4 : Nat)) (if wayB (IntKind.i64.wrap n) (256 : Int) = true then mixX (cB pd0 (e.fst (12 : Nat)) px0 py0 (e.fst (4 : Nat)) (e.fst (5 : Nat))) px0 (e.fst (4 : Nat)) (IntKind.i64.wrap n) (256 : Int) else (0 : Int)) && btB py0 (e.fst (5 : Nat)) (if wayB (IntKind.i64.wrap n) (256 : Int) = true then mixX (cB pd0 (e.fst (12 : Nat)) px0 py0 (e.fst (4 : Nat)) (e.fst (5 : Nat))) py0 (e.fst (5 : Nat)) (IntKind.i64.wrap n) (256 : Int) else (0 : Int)))) = true → (!(btB px0 (e.fst (4 : Nat)) (if wayB (IntKind.i64.wrap n) (256 : Int) = true then mixX (cB pd0 (e.fst (12 : Nat)) px0 py0 (e.fst (4 : Nat)) (e.fst (5 : Nat))) px0 (e.fst (4 : Nat)) (IntKind.i64.wrap n) (256 : Int) else (0 : Int)) && btB py0 (e.fst (5 : Nat)) (if wayB (IntKind.i64.wrap n) (256 : Int) = true then mixX (cB pd0 (e.fst (12 : Nat)) px0 py0 (e.fst (4 : Nat)) (e.fst (5 : Nat))) py0 (e.fst (5 : Nat)) (IntKind.i64.wrap n) (256 : Int) else (0 : Int)))) = true ∧ false = true) ∧ ((!(btB px0 (e.fst (4 : Nat)) (if wayB (IntKind.i64.wrap n) (256 : Int) = true then mixX (cB pd0 (e.fst (12 : Nat)) px0 py0 (e.fst (4 : Nat)) (e.fst (5 : Nat))) px0 (e.fst (4 : Nat)) (IntKind.i64.wrap n) (256 : Int) else (0 : Int)) && btB py0 (e.fst (5 : Nat)) (if wayB (IntKind.i64.wrap n) (256 : Int) = true then mixX (cB pd0 (e.fst (12 : Nat)) px0 py0 (e.fst (4 : Nat)) (e.fst (5 : Nat))) py0 (e.fst (5 : Nat)) (IntKind.i64.wrap n) (256 : Int) else (0 : Int)))) = false → (decide ((if wayB (IntKind.i64.wrap n) (256 : Int) = true then mixF (cB pd0 (e.fst (12 : Nat)) px0 py0 (e.fst (4 : Nat)) (e.fst (5 : Nat))) pf0 (e.fst (8 : Nat)) (IntKind.i64.wrap n) (256 : Int) else (0 : Int)) < (0 : Int)) = true → (!(btB px0 (e.fst (4 : Nat)) (if wayB (IntKind.i64.wrap n) (256 : Int) = true then mixX (cB pd0 (e.fst (12 : Nat)) px0 py0 (e.fst (4 : Nat)) (e.fst (5 : Nat))) px0 (e.fst (4 : Nat)) (IntKind.i64.wrap n) (256 : Int) else (0 : Int)) && btB py0 (e.fst (5 : Nat)) (if wayB (IntKind.i64.wrap n) (256 : Int) = true then mixX (cB pd0 (e.fst (12 : Nat)) px0 py0 (e.fst (4 : Nat)) (e.fst (5 : Nat))) py0 (e.fst (5 : Nat)) (IntKind.i64.wrap n) (256 : Int) else (0 : Int)))) = false ∧ decide ((if wayB (IntKind.i64.wrap n) (256 : Int) = true then mixF (cB pd0 (e.fst (12 : Nat)) px0 py0 (e.fst (4 : Nat)) (e.fst (5 : Nat))) pf0 (e.fst (8 : Nat)) (IntKind.i64.wrap n) (256 : Int) else (0 : Int)) < (0 : Int)) = true ∧ false = true) ∧ (decide ((if wayB (IntKind.i64.wrap n) (256 : Int) = true then mixF (cB pd0 (e.fst (12 : Nat)) px0 py0 (e.fst (4 : Nat)) (e.fst (5 : Nat))) pf0 (e.fst (8 : Nat)) (IntKind.i64.wrap n) (256 : Int) else (0 : Int)) < (0 : Int)) = false → (!(btB px0 (e.fst (4 : Nat)) (if wayB (IntKind.i64.wrap n) (256 : Int) = true then mixX (cB pd0 (e.fst (12 : Nat)) px0 py0 (e.fst (4 : Nat)) (e.fst (5 : Nat))) px0 (e.fst (4 : Nat)) (IntKind.i64.wrap n) (256 : Int) else (0 : Int)) && btB py0 (e.fst (5 : Nat)) (if wayB (IntKind.i64.wrap n) (256 : Int) = true then mixX (cB pd0 (e.fst (12 : Nat)) px0 py0 (e.fst (4 : Nat)) (e.fst (5 : Nat))) py0 (e.fst (5 : Nat)) (IntKind.i64.wrap n) (256 : Int) else (0 : Int)))) = false ∧ decide ((if wayB (IntKind.i64.wrap n) (256 : Int) = true then mixF (cB pd0 (e.fst (12 : Nat)) px0 py0 (e.fst (4 : Nat)) (e.fst (5 : Nat))) pf0 (e.fst (8 : Nat)) (IntKind.i64.wrap n) (256 : Int) else (0 : Int)) < (0 : Int)) = false ∧ (decide ((65535 : Int) < if wayB (IntKind.i64.wrap n) (256 : Int) = true then mixF (cB pd0 (e.fst (12 : Nat)) px0 py0 (e.fst (4 : Nat)) (e.fst (5 : Nat))) pf0 (e.fst (8 : Nat)) (IntKind.i64.wrap n) (256 : Int) else (0 : Int)) = true → false = true) ∧ (decide ((65535 : Int) < if wayB (IntKind.i64.wrap n) (256 : Int) = true then mixF (cB pd0 (e.fst (12 : Nat)) px0 py0 (e.fst (4 : Nat)) (e.fst (5 : Nat))) pf0 (e.fst (8 : Nat)) (IntKind.i64.wrap n) (256 : Int) else (0 : Int)) = false → ((!(btB px1 (e.fst (14 : Nat)) (if wayB (IntKind.i64.wrap n) (256 : Int) = true then mixX (cB pd1 (e.fst (22 : Nat)) px1 py1 (e.fst (14 : Nat)) (e.fst (15 : Nat))) px1 (e.fst (14 : Nat)) (IntKind.i64.wrap n) (256 : Int) else (0 : Int)) && btB py1 (e.fst (15 : Nat)) (if wayB (IntKind.i64.wrap n) (256 : Int) = true then mixX (cB pd1 (e.fst (22 : Nat)) px1 py1 (e.fst (14 : Nat)) (e.fst (15 : Nat))) py1 (e.fst (15 : Nat)) (IntKind.i64.wrap n) (256 : Int) else (0 : Int)))) = true → (!(btB px1 (e.fst (14 : Nat)) (if wayB (IntKind.i64.wrap n) (256 : Int) = true then mixX (cB pd1 (e.fst (22 : Nat)) px1 py1 (e.fst (14 : Nat)) (e.fst (15 : Nat))) px1 (e.fst (14 : Nat)) (IntKind.i64.wrap n) (256 : Int) else (0 : Int)) && btB py1 (e.fst (15 : Nat)) (if wayB (IntKind.i64.wrap n) (256 : Int) = true then mixX (cB pd1 (e.fst (22 : Nat)) px1 py1 (e.fst (14 : Nat)) (e.fst (15 : Nat))) py1 (e.fst (15 : Nat)) (IntKind.i64.wrap n) (256 : Int) else (0 : Int)))) = true ∧ false = true) ∧ ((!(btB px1 (e.fst (14 : Nat)) (if wayB (IntKind.i64.wrap n) (256 : Int) = true then mixX (cB pd1 (e.fst (22 : Nat)) px1 py1 (e.fst (14 : Nat)) (e.fst (15 : Nat))) px1 (e.fst (14 : Nat)) (IntKind.i64.wrap n) (256 : Int) else (0 : Int)) && btB py1 (e.fst (15 : Nat)) (if wayB (IntKind.i64.wrap n) (256 : Int) = true then mixX (cB pd1 (e.fst (22 : Nat)) px1 py1 (e.fst (14 : Nat)) (e.fst (15 : Nat))) py1 (e.fst (15 : Nat)) (IntKind.i64.wrap n) (256 : Int) else (0 : Int)))) = false → (decide ((if wayB (IntKind.i64.wrap n) (256 : Int) = true then mixF (cB pd1 (e.fst (22 : Nat)) px1 py1 (e.fst (14 : Nat)) (e.fst (15 : Nat))) pf1 (e.fst (18 : Nat)) (IntKind.i64.wrap n) (256 : Int) else (0 : Int)) < (0 : Int)) = true → (!(btB px1 (e.fst (14 : Nat)) (if wayB (IntKind.i64.wrap n) (256 : Int) = true then mixX (cB pd1 (e.fst (22 : Nat)) px1 py1 (e.fst (14 : Nat)) (e.fst (15 : Nat))) px1 (e.fst (14 : Nat)) (IntKind.i64.wrap n) (256 : Int) else (0 : Int)) && btB py1 (e.fst (15 : Nat)) (if wayB (IntKind.i64.wrap n) (256 : Int) = true then mixX (cB pd1 (e.fst (22 : Nat)) px1 py1 (e.fst (14 : Nat)) (e.fst (15 : Nat))) py1 (e.fst (15 : Nat)) (IntKind.i64.wrap n) (256 : Int) else (0 : Int)))) = false ∧ decide ((if wayB (IntKind.i64.wrap n) (256 : Int) = true then mixF (cB pd1 (e.fst (22 : Nat)) px1 py1 (e.fst (14 : Nat)) (e.fst (15 : Nat))) pf1 (e.fst (18 : Nat)) (IntKind.i64.wrap n) (256 : Int) else (0 : Int)) < (0 : Int)) = true ∧ false = true) ∧ (decide ((if wayB (IntKind.i64.wrap n) (256 : Int) = true then mixF (cB pd1 (e.fst (22 : Nat)) px1 py1 (e.fst (14 : Nat)) (e.fst (15 : Nat))) pf1 (e.fst (18 : Nat)) (IntKind.i64.wrap n) (256 : Int) else (0 : Int)) < (0 : Int)) = false → (!(btB px1 (e.fst (14 : Nat)) (if wayB (IntKind.i64.wrap n) (256 : Int) = true then mixX (cB pd1 (e.fst (22 : Nat)) px1 py1 (e.fst (14 : Nat)) (e.fst (15 : Nat))) px1 (e.fst (14 : Nat)) (IntKind.i64.wrap n) (256 : Int) else (0 : Int)) && btB py1 (e.fst (15 : Nat)) (if wayB (IntKind.i64.wrap n) (256 : Int) = true then mixX (cB pd1 (e.fst (22 : Nat)) px1 py1 (e.fst (14 : Nat)) (e.fst (15 : Nat))) py1 (e.fst (15 : Nat)) (IntKind.i64.wrap n) (256 : Int) else (0 : Int)))) = false ∧ decide ((if wayB (IntKind.i64.wrap n) (256 : Int) = true then mixF (cB pd1 (e.fst (22 : Nat)) px1 py1 (e.fst (14 : Nat)) (e.fst (15 : Nat))) pf1 (e.fst (18 : Nat)) (IntKind.i64.wrap n) (256 : Int) else (0 : Int)) < (0 : Int)) = false ∧ (decide ((65535 : Int) < if wayB (IntKind.i64.wrap n) (256 : Int) = true then mixF (cB pd1 (e.fst (22 : Nat)) px1 py1 (e.fst (14 : Nat)) (e.fst (15 : Nat))) pf1 (e.fst (18 : Nat)) (IntKind.i64.wrap n) (256 : Int) else (0 : Int)) = true → false = true) ∧ (decide ((65535 : Int) < if wayB (IntKind.i64.wrap n) (256 : Int) = true then mixF (cB pd1 (e.fst (22 : Nat)) px1 py1 (e.fst (14 : Nat)) (e.fst (15 : Nat))) pf1 (e.fst (18 : Nat)) (IntKind.i64.wrap n) (256 : Int) else (0 : Int)) = false → ((!(btB sx0 (e.fst (24 : Nat)) (if wayB (IntKind.i64.wrap n) (256 : Int) = true then mixX (sB so0 (e.fst (28 : Nat)) sl0 (e.fst (29 : Nat))) sx0 (e.fst (24 : Nat)) (IntKind.i64.wrap n) (256 : Int) else (0 : Int)) && btB sy0 (e.fst (25 : Nat)) (if wayB (IntKind.i64.wrap n) (256 : Int) = true then mixX (sB so0 (e.fst (28 : Nat)) sl0 (e.fst (29 : Nat))) sy0 (e.fst (25 : Nat)) (IntKind.i64.wrap n) (256 : Int) else (0 : Int)))) = true → false = true) ∧ ((!(btB sx0 (e.fst (24 : Nat)) (if wayB (IntKind.i64.wrap n) (256 : Int) = true then mixX (sB so0 (e.fst (28 : Nat)) sl0 (e.fst (29 : Nat))) sx0 (e.fst (24 : Nat)) (IntKind.i64.wrap n) (256 : Int) else (0 : Int)) && btB sy0 (e.fst (25 : Nat)) (if wayB (IntKind.i64.wrap n) (256 : Int) = true then mixX (sB so0 (e.fst (28 : Nat)) sl0 (e.fst (29 : Nat))) sy0 (e.fst (25 : Nat)) (IntKind.i64.wrap n) (256 : Int) else (0 : Int)))) = false → ((!(btB sx1 (e.fst (30 : Nat)) (if wayB (IntKind.i64.wrap n) (256 : Int) = true then mixX (sB so1 (e.fst (34 : Nat)) sl1 (e.fst (35 : Nat))) sx1 (e.fst (30 : Nat)) (IntKind.i64.wrap n) (256 : Int) else (0 : Int)) && btB sy1 (e.fst (31 : Nat)) (if wayB (IntKind.i64.wrap n) (256 : Int) = true then mixX (sB so1 (e.fst (34 : Nat)) sl1 (e.fst (35 : Nat))) sy1 (e.fst (31 : Nat)) (IntKind.i64.wrap n) (256 : Int) else (0 : Int)))) = true → false = true) ∧ ((!(btB sx1 (e.fst (30 : Nat)) (if wayB (IntKind.i64.wrap n) (256 : Int) = true then mixX (sB so1 (e.fst (34 : Nat)) sl1 (e.fst (35 : Nat))) sx1 (e.fst (30 : Nat)) (IntKind.i64.wrap n) (256 : Int) else (0 : Int)) && btB sy1 (e.fst (31 : Nat)) (if wayB (IntKind.i64.wrap n) (256 : Int) = true then mixX (sB so1 (e.fst (34 : Nat)) sl1 (e.fst (35 : Nat))) sy1 (e.fst (31 : Nat)) (IntKind.i64.wrap n) (256 : Int) else (0 : Int)))) = false → ((!(btB sx2 (e.fst (36 : Nat)) (if wayB (IntKind.i64.wrap n) (256 : Int) = true then mixX (sB so2 (e.fst (40 : Nat)) sl2 (e.fst (41 : Nat))) sx2 (e.fst (36 : Nat)) (IntKind.i64.wrap n) (256 : Int) else (0 : Int)) && btB sy2 (e.fst (37 : Nat)) (if wayB (IntKind.i64.wrap n) (256 : Int) = true then mixX (sB so2 (e.fst (40 : Nat)) sl2 (e.fst (41 : Nat))) sy2 (e.fst (37 : Nat)) (IntKind.i64.wrap n) (256 : Int) else (0 : Int)))) = true → false = true) ∧ ((!(btB sx2 (e.fst (36 : Nat)) (if wayB (IntKind.i64.wrap n) (256 : Int) = true then mixX (sB so2 (e.fst (40 : Nat)) sl2 (e.fst (41 : Nat))) sx2 (e.fst (36 : Nat)) (IntKind.i64.wrap n) (256 : Int) else (0 : Int)) && btB sy2 (e.fst (37 : Nat)) (if wayB (IntKind.i64.wrap n) (256 : Int) = true then mixX (sB so2 (e.fst (40 : Nat)) sl2 (e.fst (41 : Nat))) sy2 (e.fst (37 : Nat)) (IntKind.i64.wrap n) (256 : Int) else (0 : Int)))) = false → ((!(btB sx3 (e.fst (42 : Nat)) (if wayB (IntKind.i64.wrap n) (256 : Int) = true then mixX (sB so3 (e.fst (46 : Nat)) sl3 (e.fst (47 : Nat))) sx3 (e.fst (42 : Nat)) (IntKind.i64.wrap n) (256 : Int) else (0 : Int)) && btB sy3 (e.fst (43 : Nat)) (if wayB (IntKind.i64.wrap n) (256 : Int) = true then mixX (sB so3 (e.fst (46 : Nat)) sl3 (e.fst (47 : Nat))) sy3 (e.fst (43 : Nat)) (IntKind.i64.wrap n) (256 : Int) else (0 : Int)))) = true → false = true) ∧ ((!(btB sx3 (e.fst (42 : Nat)) (if wayB (IntKind.i64.wrap n) (256 : Int) = true then mixX (sB so3 (e.fst (46 : Nat)) sl3 (e.fst (47 : Nat))) sx3 (e.fst (42 : Nat)) (IntKind.i64.wrap n) (256 : Int) else (0 : Int)) && btB sy3 (e.fst (43 : Nat)) (if wayB (IntKind.i64.wrap n) (256 : Int) = true then mixX (sB so3 (e.fst (46 : Nat)) sl3 (e.fst (47 : Nat))) sy3 (e.fst (43 : Nat)) (IntKind.i64.wrap n) (256 : Int) else (0 : Int)))) = false → ((!(btB sx4 (e.fst (48 : Nat)) (if wayB (IntKind.i64.wrap n) (256 : Int) = true then mixX (sB so4 (e.fst (52 : Nat)) sl4 (e.fst (53 : Nat))) sx4 (e.fst (48 : Nat)) (IntKind.i64.wrap n) (256 : Int) else (0 : Int)) && btB sy4 (e.fst (49 : Nat)) (if wayB (IntKind.i64.wrap n) (256 : Int) = true then mixX (sB so4 (e.fst (52 : Nat)) sl4 (e.fst (53 : Nat))) sy4 (e.fst (49 : Nat)) (IntKind.i64.wrap n) (256 : Int) else (0 : Int)))) = true → false = true) ∧ ((!(btB sx4 (e.fst (48 : Nat)) (if wayB (IntKind.i64.wrap n) (256 : Int) = true then mixX (sB so4 (e.fst (52 : Nat)) sl4 (e.fst (53 : Nat))) sx4 (e.fst (48 : Nat)) (IntKind.i64.wrap n) (256 : Int) else (0 : Int)) && btB sy4 (e.fst (49 : Nat)) (if wayB (IntKind.i64.wrap n) (256 : Int) = true then mixX (sB so4 (e.fst (52 : Nat)) sl4 (e.fst (53 : Nat))) sy4 (e.fst (49 : Nat)) (IntKind.i64.wrap n) (256 : Int) else (0 : Int)))) = false → ((!(btB sx5 (e.fst (54 : Nat)) (if wayB (IntKind.i64.wrap n) (256 : Int) = true then mixX (sB so5 (e.fst (58 : Nat)) sl5 (e.fst (59 : Nat))) sx5 (e.fst (54 : Nat)) (IntKind.i64.wrap n) (256 : Int) else (0 : Int)) && btB sy5 (e.fst (55 : Nat)) (if wayB (IntKind.i64.wrap n) (256 : Int) = true then mixX (sB so5 (e.fst (58 : Nat)) sl5 (e.fst (59 : Nat))) sy5 (e.fst (55 : Nat)) (IntKind.i64.wrap n) (256 : Int) else (0 : Int)))) = true → false = true) ∧ ((!(btB sx5 (e.fst (54 : Nat)) (if wayB (IntKind.i64.wrap n) (256 : Int) = true then mixX (sB so5 (e.fst (58 : Nat)) sl5 (e.fst (59 : Nat))) sx5 (e.fst (54 : Nat)) (IntKind.i64.wrap n) (256 : Int) else (0 : Int)) && btB sy5 (e.fst (55 : Nat)) (if wayB (IntKind.i64.wrap n) (256 : Int) = true then mixX (sB so5 (e.fst (58 : Nat)) sl5 (e.fst (59 : Nat))) sy5 (e.fst (55 : Nat)) (IntKind.i64.wrap n) (256 : Int) else (0 : Int)))) = false → true = true))))))))))))))) ∧ ((!(playerB px0 py0 pf0 ph0 pc0 pw0 pd0 ps0 && (playerB px1 py1 pf1 ph1 pc1 pw1 pd1 ps1 && (shotB sx0 sy0 su0 sv0 so0 sl0 && (shotB sx1 sy1 su1 sv1 so1 sl1 && (shotB sx2 sy2 su2 sv2 so2 sl2 && (shotB sx3 sy3 su3 sv3 so3 sl3 && (shotB sx4 sy4 su4 sv4 so4 sl4 && (shotB sx5 sy5 su5 sv5 so5 sl5 && decide ((0 : Int) ≤ fr ∧ fr ≤ (1073741824 : Int) ∧ (0 : Int) ≤ rd ∧ rd ≤ (1073741824 : Int) ∧ (1 : Int) ≤ lf ∧ lf ≤ (600 : Int))))))))))) = true → true = true)) := by kernel_rfl
set_option maxHeartbeats 4000000 in
theorem s_TweenSteps : FSound Try.prog 4 c_TweenSteps := by
  refine fsound_of (Ctx.ok_of2 (M := Mw) (N := []) mixedA ok_sbetween okD_rstep okB0) Try.func4 (by kernel_rfl) (by kernel_rfl) ?_
  intro us p v h hp
  unfold c_TweenSteps at h
  have _d := True.intro
  · skip
    replace h := gA_some h
    obtain ⟨ls0_0, us0, rfl, h⟩ := h
    replace h := gI_some h
    obtain ⟨k0, fr, ls0_1, rfl, h⟩ := h
    replace h := gI_some h
    obtain ⟨k1, dc, ls0_2, rfl, h⟩ := h
    replace h := gI_some h
    obtain ⟨k2, rd, ls0_3, rfl, h⟩ := h
    replace h := gI_some h
    obtain ⟨k3, lf, ls0_4, rfl, h⟩ := h
    replace h := gI_some h
    obtain ⟨k4, px0, ls0_5, rfl, h⟩ := h
    replace h := gI_some h
    obtain ⟨k5, py0, ls0_6, rfl, h⟩ := h
    replace h := gI_some h
    obtain ⟨k6, pu0, ls0_7, rfl, h⟩ := h
    replace h := gI_some h
    obtain ⟨k7, pv0, ls0_8, rfl, h⟩ := h
    replace h := gI_some h
    obtain ⟨k8, pf0, ls0_9, rfl, h⟩ := h
    replace h := gI_some h
    obtain ⟨k9, ph0, ls0_10, rfl, h⟩ := h
    replace h := gI_some h
    obtain ⟨k10, pc0, ls0_11, rfl, h⟩ := h
    replace h := gI_some h
    obtain ⟨k11, pw0, ls0_12, rfl, h⟩ := h
    replace h := gI_some h
    obtain ⟨k12, pd0, ls0_13, rfl, h⟩ := h
    replace h := gI_some h
    obtain ⟨k13, ps0, ls0_14, rfl, h⟩ := h
    replace h := gI_some h
    obtain ⟨k14, px1, ls0_15, rfl, h⟩ := h
    replace h := gI_some h
    obtain ⟨k15, py1, ls0_16, rfl, h⟩ := h
    replace h := gI_some h
    obtain ⟨k16, pu1, ls0_17, rfl, h⟩ := h
    replace h := gI_some h
    obtain ⟨k17, pv1, ls0_18, rfl, h⟩ := h
    replace h := gI_some h
    obtain ⟨k18, pf1, ls0_19, rfl, h⟩ := h
    replace h := gI_some h
    obtain ⟨k19, ph1, ls0_20, rfl, h⟩ := h
    replace h := gI_some h
    obtain ⟨k20, pc1, ls0_21, rfl, h⟩ := h
    replace h := gI_some h
    obtain ⟨k21, pw1, ls0_22, rfl, h⟩ := h
    replace h := gI_some h
    obtain ⟨k22, pd1, ls0_23, rfl, h⟩ := h
    replace h := gI_some h
    obtain ⟨k23, ps1, ls0_24, rfl, h⟩ := h
    replace h := gI_some h
    obtain ⟨k24, sx0, ls0_25, rfl, h⟩ := h
    replace h := gI_some h
    obtain ⟨k25, sy0, ls0_26, rfl, h⟩ := h
    replace h := gI_some h
    obtain ⟨k26, su0, ls0_27, rfl, h⟩ := h
    replace h := gI_some h
    obtain ⟨k27, sv0, ls0_28, rfl, h⟩ := h
    replace h := gI_some h
    obtain ⟨k28, so0, ls0_29, rfl, h⟩ := h
    replace h := gI_some h
    obtain ⟨k29, sl0, ls0_30, rfl, h⟩ := h
    replace h := gI_some h
    obtain ⟨k30, sx1, ls0_31, rfl, h⟩ := h
    replace h := gI_some h
    obtain ⟨k31, sy1, ls0_32, rfl, h⟩ := h
    replace h := gI_some h
    obtain ⟨k32, su1, ls0_33, rfl, h⟩ := h
    replace h := gI_some h
    obtain ⟨k33, sv1, ls0_34, rfl, h⟩ := h
    replace h := gI_some h
    obtain ⟨k34, so1, ls0_35, rfl, h⟩ := h
    replace h := gI_some h
    obtain ⟨k35, sl1, ls0_36, rfl, h⟩ := h
    replace h := gI_some h
    obtain ⟨k36, sx2, ls0_37, rfl, h⟩ := h
    replace h := gI_some h
    obtain ⟨k37, sy2, ls0_38, rfl, h⟩ := h
    replace h := gI_some h
    obtain ⟨k38, su2, ls0_39, rfl, h⟩ := h
    replace h := gI_some h
    obtain ⟨k39, sv2, ls0_40, rfl, h⟩ := h
    replace h := gI_some h
    obtain ⟨k40, so2, ls0_41, rfl, h⟩ := h
    replace h := gI_some h
    obtain ⟨k41, sl2, ls0_42, rfl, h⟩ := h
    replace h := gI_some h
    obtain ⟨k42, sx3, ls0_43, rfl, h⟩ := h
    replace h := gI_some h
    obtain ⟨k43, sy3, ls0_44, rfl, h⟩ := h
    replace h := gI_some h
    obtain ⟨k44, su3, ls0_45, rfl, h⟩ := h
    replace h := gI_some h
    obtain ⟨k45, sv3, ls0_46, rfl, h⟩ := h
    replace h := gI_some h
    obtain ⟨k46, so3, ls0_47, rfl, h⟩ := h
    replace h := gI_some h
    obtain ⟨k47, sl3, ls0_48, rfl, h⟩ := h
    replace h := gI_some h
    obtain ⟨k48, sx4, ls0_49, rfl, h⟩ := h
    replace h := gI_some h
    obtain ⟨k49, sy4, ls0_50, rfl, h⟩ := h
    replace h := gI_some h
    obtain ⟨k50, su4, ls0_51, rfl, h⟩ := h
    replace h := gI_some h
    obtain ⟨k51, sv4, ls0_52, rfl, h⟩ := h
    replace h := gI_some h
    obtain ⟨k52, so4, ls0_53, rfl, h⟩ := h
    replace h := gI_some h
    obtain ⟨k53, sl4, ls0_54, rfl, h⟩ := h
    replace h := gI_some h
    obtain ⟨k54, sx5, ls0_55, rfl, h⟩ := h
    replace h := gI_some h
    obtain ⟨k55, sy5, ls0_56, rfl, h⟩ := h
    replace h := gI_some h
    obtain ⟨k56, su5, ls0_57, rfl, h⟩ := h
    replace h := gI_some h
    obtain ⟨k57, sv5, ls0_58, rfl, h⟩ := h
    replace h := gI_some h
    obtain ⟨k58, so5, ls0_59, rfl, h⟩ := h
    replace h := gI_some h
    obtain ⟨k59, sl5, ls0_60, rfl, h⟩ := h
    replace h := gN_some h
    obtain ⟨rfl, h⟩ := h
    replace h := gA_some h
    obtain ⟨ls1_0, us1, rfl, h⟩ := h
    replace h := gI_some h
    obtain ⟨k60, i0, ls1_1, rfl, h⟩ := h
    replace h := gI_some h
    obtain ⟨k61, i1, ls1_2, rfl, h⟩ := h
    replace h := gN_some h
    obtain ⟨rfl, h⟩ := h
    replace h := gO_some h
    obtain ⟨ls2_0, us2, rfl, h⟩ := h
    replace h := gI_some h
    obtain ⟨k62, n, _, e, h⟩ := h
    obtain ⟨rfl, rfl⟩ := List.cons.inj e
    replace h := gE_some h
    obtain ⟨rfl, h⟩ := h
    cases h
    have hp : (0 ≤ dc ∧ dc ≤ 4294967295) ∧ (-2147483648 ≤ px0 ∧ px0 ≤ 2147483647) ∧ (-2147483648 ≤ py0 ∧ py0 ≤ 2147483647) ∧ (-2147483648 ≤ pu0 ∧ pu0 ≤ 2147483647) ∧ (-2147483648 ≤ pv0 ∧ pv0 ≤ 2147483647) ∧ (-2147483648 ≤ px1 ∧ px1 ≤ 2147483647) ∧ (-2147483648 ≤ py1 ∧ py1 ≤ 2147483647) ∧ (-2147483648 ≤ pu1 ∧ pu1 ≤ 2147483647) ∧ (-2147483648 ≤ pv1 ∧ pv1 ≤ 2147483647) ∧ (-2147483648 ≤ sx0 ∧ sx0 ≤ 2147483647) ∧ (-2147483648 ≤ sy0 ∧ sy0 ≤ 2147483647) ∧ (-2147483648 ≤ su0 ∧ su0 ≤ 2147483647) ∧ (-2147483648 ≤ sv0 ∧ sv0 ≤ 2147483647) ∧ (-2147483648 ≤ sx1 ∧ sx1 ≤ 2147483647) ∧ (-2147483648 ≤ sy1 ∧ sy1 ≤ 2147483647) ∧ (-2147483648 ≤ su1 ∧ su1 ≤ 2147483647) ∧ (-2147483648 ≤ sv1 ∧ sv1 ≤ 2147483647) ∧ (-2147483648 ≤ sx2 ∧ sx2 ≤ 2147483647) ∧ (-2147483648 ≤ sy2 ∧ sy2 ≤ 2147483647) ∧ (-2147483648 ≤ su2 ∧ su2 ≤ 2147483647) ∧ (-2147483648 ≤ sv2 ∧ sv2 ≤ 2147483647) ∧ (-2147483648 ≤ sx3 ∧ sx3 ≤ 2147483647) ∧ (-2147483648 ≤ sy3 ∧ sy3 ≤ 2147483647) ∧ (-2147483648 ≤ su3 ∧ su3 ≤ 2147483647) ∧ (-2147483648 ≤ sv3 ∧ sv3 ≤ 2147483647) ∧ (-2147483648 ≤ sx4 ∧ sx4 ≤ 2147483647) ∧ (-2147483648 ≤ sy4 ∧ sy4 ≤ 2147483647) ∧ (-2147483648 ≤ su4 ∧ su4 ≤ 2147483647) ∧ (-2147483648 ≤ sv4 ∧ sv4 ≤ 2147483647) ∧ (-2147483648 ≤ sx5 ∧ sx5 ≤ 2147483647) ∧ (-2147483648 ≤ sy5 ∧ sy5 ≤ 2147483647) ∧ (-2147483648 ≤ su5 ∧ su5 ≤ 2147483647) ∧ (-2147483648 ≤ sv5 ∧ sv5 ≤ 2147483647) ∧ (0 ≤ i0 ∧ i0 ≤ 255) ∧ (0 ≤ i1 ∧ i1 ≤ 255) ∧ (0 ≤ n ∧ n ≤ 255) := hp
    refine ⟨rfl, noL, 2000, [.v (.agg [.int .i64 false fr, .int .u32 false dc, .int .i64 false rd, .int .i64 false lf, .int .i32 false px0, .int .i32 false py0, .int .i32 false pu0, .int .i32 false pv0, .int .i64 false pf0, .int .i64 false ph0, .int .i64 false pc0, .int .i64 false pw0, .int .i64 false pd0, .int .i64 false ps0, .int .i32 false px1, .int .i32 false py1, .int .i32 false pu1, .int .i32 false pv1, .int .i64 false pf1, .int .i64 false ph1, .int .i64 false pc1, .int .i64 false pw1, .int .i64 false pd1, .int .i64 false ps1, .int .i32 false sx0, .int .i32 false sy0, .int .i32 false su0, .int .i32 false sv0, .int .i64 false so0, .int .i64 false sl0, .int .i32 false sx1, .int .i32 false sy1, .int .i32 false su1, .int .i32 false sv1, .int .i64 false so1, .int .i64 false sl1, .int .i32 false sx2, .int .i32 false sy2, .int .i32 false su2, .int .i32 false sv2, .int .i64 false so2, .int .i64 false sl2, .int .i32 false sx3, .int .i32 false sy3, .int .i32 false su3, .int .i32 false sv3, .int .i64 false so3, .int .i64 false sl3, .int .i32 false sx4, .int .i32 false sy4, .int .i32 false su4, .int .i32 false sv4, .int .i64 false so4, .int .i64 false sl4, .int .i32 false sx5, .int .i32 false sy5, .int .i32 false su5, .int .i32 false sv5, .int .i64 false so5, .int .i64 false sl5]), .v (.agg [.int .u8 false i0, .int .u8 false i1]), .v (.one (.int .u8 false n))], by simp [tmLe, svLe, vLe, lfLe, lfsLe, ifB, nmIs, idR], rfl, ?_⟩
    rw [nf_TweenSteps]
    obtain ⟨hdc, B_px0, B_py0, B_pu0, B_pv0, B_px1, B_py1, B_pu1, B_pv1, B_sx0, B_sy0, B_su0, B_sv0, B_sx1, B_sy1, B_su1, B_sv1, B_sx2, B_sy2, B_su2, B_sv2, B_sx3, B_sy3, B_su3, B_sv3, B_sx4, B_sy4, B_su4, B_sv4, B_sx5, B_sy5, B_su5, B_sv5, hi0, hi1, hn⟩ := hp
    refine ⟨fun hR => ⟨fun _ => rfl, fun _ => ⟨⟨?_, u8_bd _, u8_bd _⟩, fun e he => ?_⟩⟩, fun _ => rfl⟩
    · unfold W
      exact ⟨hdc, B_px0, B_py0, B_pu0, B_pv0, B_px1, B_py1, B_pu1, B_pv1, B_sx0, B_sy0, B_su0, B_sv0, B_sx1, B_sy1, B_su1, B_sv1, B_sx2, B_sy2, B_su2, B_sv2, B_sx3, B_sy3, B_su3, B_sv3, B_sx4, B_sy4, B_su4, B_sv4, B_sx5, B_sy5, B_su5, B_sv5⟩
    · have he := he.1
      simp only [Bool.not_eq_false', Bool.and_eq_true] at hR
      have f0 := facing_facts hR.1
      have f1 := facing_facts hR.2.1
      clear hR
      rw [wrap_in (show inR .i64 n by simp only [inR, klo, khi]; omega)]
      have hw : wayB n 256 = true := way_iff.2 (by omega)
      have e4 : -2147483648 ≤ e.fst 4 ∧ e.fst 4 ≤ 2147483647 := (W_at he 4).2 rfl
      have k4 : ∀ c, btB px0 (e.fst 4) (mixX c px0 (e.fst 4) n 256) = true := fun c => mix_btw c B_px0 e4 hn
      have e5 : -2147483648 ≤ e.fst 5 ∧ e.fst 5 ≤ 2147483647 := (W_at he 5).2 rfl
      have k5 : ∀ c, btB py0 (e.fst 5) (mixX c py0 (e.fst 5) n 256) = true := fun c => mix_btw c B_py0 e5 hn
      have e14 : -2147483648 ≤ e.fst 14 ∧ e.fst 14 ≤ 2147483647 := (W_at he 14).2 rfl
      have k14 : ∀ c, btB px1 (e.fst 14) (mixX c px1 (e.fst 14) n 256) = true := fun c => mix_btw c B_px1 e14 hn
      have e15 : -2147483648 ≤ e.fst 15 ∧ e.fst 15 ≤ 2147483647 := (W_at he 15).2 rfl
      have k15 : ∀ c, btB py1 (e.fst 15) (mixX c py1 (e.fst 15) n 256) = true := fun c => mix_btw c B_py1 e15 hn
      have e24 : -2147483648 ≤ e.fst 24 ∧ e.fst 24 ≤ 2147483647 := (W_at he 24).2 rfl
      have k24 : ∀ c, btB sx0 (e.fst 24) (mixX c sx0 (e.fst 24) n 256) = true := fun c => mix_btw c B_sx0 e24 hn
      have e25 : -2147483648 ≤ e.fst 25 ∧ e.fst 25 ≤ 2147483647 := (W_at he 25).2 rfl
      have k25 : ∀ c, btB sy0 (e.fst 25) (mixX c sy0 (e.fst 25) n 256) = true := fun c => mix_btw c B_sy0 e25 hn
      have e30 : -2147483648 ≤ e.fst 30 ∧ e.fst 30 ≤ 2147483647 := (W_at he 30).2 rfl
      have k30 : ∀ c, btB sx1 (e.fst 30) (mixX c sx1 (e.fst 30) n 256) = true := fun c => mix_btw c B_sx1 e30 hn
      have e31 : -2147483648 ≤ e.fst 31 ∧ e.fst 31 ≤ 2147483647 := (W_at he 31).2 rfl
      have k31 : ∀ c, btB sy1 (e.fst 31) (mixX c sy1 (e.fst 31) n 256) = true := fun c => mix_btw c B_sy1 e31 hn
      have e36 : -2147483648 ≤ e.fst 36 ∧ e.fst 36 ≤ 2147483647 := (W_at he 36).2 rfl
      have k36 : ∀ c, btB sx2 (e.fst 36) (mixX c sx2 (e.fst 36) n 256) = true := fun c => mix_btw c B_sx2 e36 hn
      have e37 : -2147483648 ≤ e.fst 37 ∧ e.fst 37 ≤ 2147483647 := (W_at he 37).2 rfl
      have k37 : ∀ c, btB sy2 (e.fst 37) (mixX c sy2 (e.fst 37) n 256) = true := fun c => mix_btw c B_sy2 e37 hn
      have e42 : -2147483648 ≤ e.fst 42 ∧ e.fst 42 ≤ 2147483647 := (W_at he 42).2 rfl
      have k42 : ∀ c, btB sx3 (e.fst 42) (mixX c sx3 (e.fst 42) n 256) = true := fun c => mix_btw c B_sx3 e42 hn
      have e43 : -2147483648 ≤ e.fst 43 ∧ e.fst 43 ≤ 2147483647 := (W_at he 43).2 rfl
      have k43 : ∀ c, btB sy3 (e.fst 43) (mixX c sy3 (e.fst 43) n 256) = true := fun c => mix_btw c B_sy3 e43 hn
      have e48 : -2147483648 ≤ e.fst 48 ∧ e.fst 48 ≤ 2147483647 := (W_at he 48).2 rfl
      have k48 : ∀ c, btB sx4 (e.fst 48) (mixX c sx4 (e.fst 48) n 256) = true := fun c => mix_btw c B_sx4 e48 hn
      have e49 : -2147483648 ≤ e.fst 49 ∧ e.fst 49 ≤ 2147483647 := (W_at he 49).2 rfl
      have k49 : ∀ c, btB sy4 (e.fst 49) (mixX c sy4 (e.fst 49) n 256) = true := fun c => mix_btw c B_sy4 e49 hn
      have e54 : -2147483648 ≤ e.fst 54 ∧ e.fst 54 ≤ 2147483647 := (W_at he 54).2 rfl
      have k54 : ∀ c, btB sx5 (e.fst 54) (mixX c sx5 (e.fst 54) n 256) = true := fun c => mix_btw c B_sx5 e54 hn
      have e55 : -2147483648 ≤ e.fst 55 ∧ e.fst 55 ≤ 2147483647 := (W_at he 55).2 rfl
      have k55 : ∀ c, btB sy5 (e.fst 55) (mixX c sy5 (e.fst 55) n 256) = true := fun c => mix_btw c B_sy5 e55 hn
      have l0 : ∀ c t, decide (mixF c pf0 t n 256 < 0) = false := fun c t => mixF_lo c f0 hn
      have m0 : ∀ c t, decide (65535 < mixF c pf0 t n 256) = false := fun c t => mixF_hi c f0 hn
      have l1 : ∀ c t, decide (mixF c pf1 t n 256 < 0) = false := fun c t => mixF_lo c f1 hn
      have m1 : ∀ c t, decide (65535 < mixF c pf1 t n 256) = false := fun c t => mixF_hi c f1 hn
      refine ⟨⟨B_px0, B_py0, B_px1, B_py1, B_sx0, B_sy0, B_sx1, B_sy1, B_sx2, B_sy2, B_sx3, B_sy3, B_sx4, B_sy4, B_sx5, B_sy5, e4, e5, e14, e15, e24, e25, e30, e31, e36, e37, e42, e43, e48, e49, e54, e55⟩, ?_, ?_⟩
      · rw [if_pos hw]
        intro h
        exact absurd h (by decide)
      · simp only [hw, if_true, reduceIte, k4, k5, k14, k15, k24, k25, k30, k31, k36, k37, k42, k43, k48, k49, k54, k55, l0, l1, m0, m1, Bool.and_self, Bool.and_true, Bool.not_true, Bool.false_eq_true, Bool.true_eq_false, false_implies, true_implies, implies_true, true_and, and_true, and_self]
noncomputable def Γ_TweenSteps : List (FuncId × FX) := (4, c_TweenSteps) :: Γ_sbetween
theorem ok_TweenSteps : ΓOk Try.prog Γ_TweenSteps := ΓOk.cons (c := .pure c_TweenSteps) s_TweenSteps ok_sbetween

theorem TweenSteps_walk (fr : Int) (dc : Int) (rd : Int) (lf : Int) (px0 : Int) (py0 : Int) (pu0 : Int) (pv0 : Int) (pf0 : Int) (ph0 : Int) (pc0 : Int) (pw0 : Int) (pd0 : Int) (ps0 : Int) (px1 : Int) (py1 : Int) (pu1 : Int) (pv1 : Int) (pf1 : Int) (ph1 : Int) (pc1 : Int) (pw1 : Int) (pd1 : Int) (ps1 : Int) (sx0 : Int) (sy0 : Int) (su0 : Int) (sv0 : Int) (so0 : Int) (sl0 : Int) (sx1 : Int) (sy1 : Int) (su1 : Int) (sv1 : Int) (so1 : Int) (sl1 : Int) (sx2 : Int) (sy2 : Int) (su2 : Int) (sv2 : Int) (so2 : Int) (sl2 : Int) (sx3 : Int) (sy3 : Int) (su3 : Int) (sv3 : Int) (so3 : Int) (sl3 : Int) (sx4 : Int) (sy4 : Int) (su4 : Int) (sv4 : Int) (so4 : Int) (sl4 : Int) (sx5 : Int) (sy5 : Int) (su5 : Int) (sv5 : Int) (so5 : Int) (sl5 : Int) (i0 : Int) (i1 : Int) (n : Int) (w_fr : (Lit.int .i64 fr).wf = true) (w_dc : (Lit.int .u32 dc).wf = true) (w_rd : (Lit.int .i64 rd).wf = true) (w_lf : (Lit.int .i64 lf).wf = true) (w_px0 : (Lit.int .i32 px0).wf = true) (w_py0 : (Lit.int .i32 py0).wf = true) (w_pu0 : (Lit.int .i32 pu0).wf = true) (w_pv0 : (Lit.int .i32 pv0).wf = true) (w_pf0 : (Lit.int .i64 pf0).wf = true) (w_ph0 : (Lit.int .i64 ph0).wf = true) (w_pc0 : (Lit.int .i64 pc0).wf = true) (w_pw0 : (Lit.int .i64 pw0).wf = true) (w_pd0 : (Lit.int .i64 pd0).wf = true) (w_ps0 : (Lit.int .i64 ps0).wf = true) (w_px1 : (Lit.int .i32 px1).wf = true) (w_py1 : (Lit.int .i32 py1).wf = true) (w_pu1 : (Lit.int .i32 pu1).wf = true) (w_pv1 : (Lit.int .i32 pv1).wf = true) (w_pf1 : (Lit.int .i64 pf1).wf = true) (w_ph1 : (Lit.int .i64 ph1).wf = true) (w_pc1 : (Lit.int .i64 pc1).wf = true) (w_pw1 : (Lit.int .i64 pw1).wf = true) (w_pd1 : (Lit.int .i64 pd1).wf = true) (w_ps1 : (Lit.int .i64 ps1).wf = true) (w_sx0 : (Lit.int .i32 sx0).wf = true) (w_sy0 : (Lit.int .i32 sy0).wf = true) (w_su0 : (Lit.int .i32 su0).wf = true) (w_sv0 : (Lit.int .i32 sv0).wf = true) (w_so0 : (Lit.int .i64 so0).wf = true) (w_sl0 : (Lit.int .i64 sl0).wf = true) (w_sx1 : (Lit.int .i32 sx1).wf = true) (w_sy1 : (Lit.int .i32 sy1).wf = true) (w_su1 : (Lit.int .i32 su1).wf = true) (w_sv1 : (Lit.int .i32 sv1).wf = true) (w_so1 : (Lit.int .i64 so1).wf = true) (w_sl1 : (Lit.int .i64 sl1).wf = true) (w_sx2 : (Lit.int .i32 sx2).wf = true) (w_sy2 : (Lit.int .i32 sy2).wf = true) (w_su2 : (Lit.int .i32 su2).wf = true) (w_sv2 : (Lit.int .i32 sv2).wf = true) (w_so2 : (Lit.int .i64 so2).wf = true) (w_sl2 : (Lit.int .i64 sl2).wf = true) (w_sx3 : (Lit.int .i32 sx3).wf = true) (w_sy3 : (Lit.int .i32 sy3).wf = true) (w_su3 : (Lit.int .i32 su3).wf = true) (w_sv3 : (Lit.int .i32 sv3).wf = true) (w_so3 : (Lit.int .i64 so3).wf = true) (w_sl3 : (Lit.int .i64 sl3).wf = true) (w_sx4 : (Lit.int .i32 sx4).wf = true) (w_sy4 : (Lit.int .i32 sy4).wf = true) (w_su4 : (Lit.int .i32 su4).wf = true) (w_sv4 : (Lit.int .i32 sv4).wf = true) (w_so4 : (Lit.int .i64 so4).wf = true) (w_sl4 : (Lit.int .i64 sl4).wf = true) (w_sx5 : (Lit.int .i32 sx5).wf = true) (w_sy5 : (Lit.int .i32 sy5).wf = true) (w_su5 : (Lit.int .i32 su5).wf = true) (w_sv5 : (Lit.int .i32 sv5).wf = true) (w_so5 : (Lit.int .i64 so5).wf = true) (w_sl5 : (Lit.int .i64 sl5).wf = true) (w_i0 : (Lit.int .u8 i0).wf = true) (w_i1 : (Lit.int .u8 i1).wf = true) (w_n : (Lit.int .u8 n).wf = true) (w : World) : Calls Try.prog 4 #[.agg #[.int .i64 fr, .int .u32 dc, .int .i64 rd, .int .i64 lf, .int .i32 px0, .int .i32 py0, .int .i32 pu0, .int .i32 pv0, .int .i64 pf0, .int .i64 ph0, .int .i64 pc0, .int .i64 pw0, .int .i64 pd0, .int .i64 ps0, .int .i32 px1, .int .i32 py1, .int .i32 pu1, .int .i32 pv1, .int .i64 pf1, .int .i64 ph1, .int .i64 pc1, .int .i64 pw1, .int .i64 pd1, .int .i64 ps1, .int .i32 sx0, .int .i32 sy0, .int .i32 su0, .int .i32 sv0, .int .i64 so0, .int .i64 sl0, .int .i32 sx1, .int .i32 sy1, .int .i32 su1, .int .i32 sv1, .int .i64 so1, .int .i64 sl1, .int .i32 sx2, .int .i32 sy2, .int .i32 su2, .int .i32 sv2, .int .i64 so2, .int .i64 sl2, .int .i32 sx3, .int .i32 sy3, .int .i32 su3, .int .i32 sv3, .int .i64 so3, .int .i64 sl3, .int .i32 sx4, .int .i32 sy4, .int .i32 su4, .int .i32 sv4, .int .i64 so4, .int .i64 sl4, .int .i32 sx5, .int .i32 sy5, .int .i32 su5, .int .i32 sv5, .int .i64 so5, .int .i64 sl5], .agg #[.int .u8 i0, .int .u8 i1], .int .u8 n] w fun e w' => e = .returned (.bool true) ∧ Ext w w' :=
  calls_of_fsound s_TweenSteps (us := [.v (.agg [.int .i64 false fr, .int .u32 false dc, .int .i64 false rd, .int .i64 false lf, .int .i32 false px0, .int .i32 false py0, .int .i32 false pu0, .int .i32 false pv0, .int .i64 false pf0, .int .i64 false ph0, .int .i64 false pc0, .int .i64 false pw0, .int .i64 false pd0, .int .i64 false ps0, .int .i32 false px1, .int .i32 false py1, .int .i32 false pu1, .int .i32 false pv1, .int .i64 false pf1, .int .i64 false ph1, .int .i64 false pc1, .int .i64 false pw1, .int .i64 false pd1, .int .i64 false ps1, .int .i32 false sx0, .int .i32 false sy0, .int .i32 false su0, .int .i32 false sv0, .int .i64 false so0, .int .i64 false sl0, .int .i32 false sx1, .int .i32 false sy1, .int .i32 false su1, .int .i32 false sv1, .int .i64 false so1, .int .i64 false sl1, .int .i32 false sx2, .int .i32 false sy2, .int .i32 false su2, .int .i32 false sv2, .int .i64 false so2, .int .i64 false sl2, .int .i32 false sx3, .int .i32 false sy3, .int .i32 false su3, .int .i32 false sv3, .int .i64 false so3, .int .i64 false sl3, .int .i32 false sx4, .int .i32 false sy4, .int .i32 false su4, .int .i32 false sv4, .int .i64 false so4, .int .i64 false sl4, .int .i32 false sx5, .int .i32 false sy5, .int .i32 false su5, .int .i32 false sv5, .int .i64 false so5, .int .i64 false sl5]), .v (.agg [.int .u8 false i0, .int .u8 false i1]), .v (.one (.int .u8 false n))]) (p := some ((0 ≤ dc ∧ dc ≤ 4294967295) ∧ (-2147483648 ≤ px0 ∧ px0 ≤ 2147483647) ∧ (-2147483648 ≤ py0 ∧ py0 ≤ 2147483647) ∧ (-2147483648 ≤ pu0 ∧ pu0 ≤ 2147483647) ∧ (-2147483648 ≤ pv0 ∧ pv0 ≤ 2147483647) ∧ (-2147483648 ≤ px1 ∧ px1 ≤ 2147483647) ∧ (-2147483648 ≤ py1 ∧ py1 ≤ 2147483647) ∧ (-2147483648 ≤ pu1 ∧ pu1 ≤ 2147483647) ∧ (-2147483648 ≤ pv1 ∧ pv1 ≤ 2147483647) ∧ (-2147483648 ≤ sx0 ∧ sx0 ≤ 2147483647) ∧ (-2147483648 ≤ sy0 ∧ sy0 ≤ 2147483647) ∧ (-2147483648 ≤ su0 ∧ su0 ≤ 2147483647) ∧ (-2147483648 ≤ sv0 ∧ sv0 ≤ 2147483647) ∧ (-2147483648 ≤ sx1 ∧ sx1 ≤ 2147483647) ∧ (-2147483648 ≤ sy1 ∧ sy1 ≤ 2147483647) ∧ (-2147483648 ≤ su1 ∧ su1 ≤ 2147483647) ∧ (-2147483648 ≤ sv1 ∧ sv1 ≤ 2147483647) ∧ (-2147483648 ≤ sx2 ∧ sx2 ≤ 2147483647) ∧ (-2147483648 ≤ sy2 ∧ sy2 ≤ 2147483647) ∧ (-2147483648 ≤ su2 ∧ su2 ≤ 2147483647) ∧ (-2147483648 ≤ sv2 ∧ sv2 ≤ 2147483647) ∧ (-2147483648 ≤ sx3 ∧ sx3 ≤ 2147483647) ∧ (-2147483648 ≤ sy3 ∧ sy3 ≤ 2147483647) ∧ (-2147483648 ≤ su3 ∧ su3 ≤ 2147483647) ∧ (-2147483648 ≤ sv3 ∧ sv3 ≤ 2147483647) ∧ (-2147483648 ≤ sx4 ∧ sx4 ≤ 2147483647) ∧ (-2147483648 ≤ sy4 ∧ sy4 ≤ 2147483647) ∧ (-2147483648 ≤ su4 ∧ su4 ≤ 2147483647) ∧ (-2147483648 ≤ sv4 ∧ sv4 ≤ 2147483647) ∧ (-2147483648 ≤ sx5 ∧ sx5 ≤ 2147483647) ∧ (-2147483648 ≤ sy5 ∧ sy5 ≤ 2147483647) ∧ (-2147483648 ≤ su5 ∧ su5 ≤ 2147483647) ∧ (-2147483648 ≤ sv5 ∧ sv5 ≤ 2147483647) ∧ (0 ≤ i0 ∧ i0 ≤ 255) ∧ (0 ≤ i1 ∧ i1 ≤ 255) ∧ (0 ≤ n ∧ n ≤ 255))) rfl (⟨bounds_u32 w_dc, bounds_i32 w_px0, bounds_i32 w_py0, bounds_i32 w_pu0, bounds_i32 w_pv0, bounds_i32 w_px1, bounds_i32 w_py1, bounds_i32 w_pu1, bounds_i32 w_pv1, bounds_i32 w_sx0, bounds_i32 w_sy0, bounds_i32 w_su0, bounds_i32 w_sv0, bounds_i32 w_sx1, bounds_i32 w_sy1, bounds_i32 w_su1, bounds_i32 w_sv1, bounds_i32 w_sx2, bounds_i32 w_sy2, bounds_i32 w_su2, bounds_i32 w_sv2, bounds_i32 w_sx3, bounds_i32 w_sy3, bounds_i32 w_su3, bounds_i32 w_sv3, bounds_i32 w_sx4, bounds_i32 w_sy4, bounds_i32 w_su4, bounds_i32 w_sv4, bounds_i32 w_sx5, bounds_i32 w_sy5, bounds_i32 w_su5, bounds_i32 w_sv5, bounds_u8 w_i0, bounds_u8 w_i1, bounds_u8 w_n⟩) rfl rfl w (fun _ hp => absurd hp (by simp [GG]))

end Go.Proofs.Ytceffompldihjaa
