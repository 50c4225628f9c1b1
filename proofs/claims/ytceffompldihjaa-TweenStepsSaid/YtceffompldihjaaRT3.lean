/- TWEEN: STATES. Conditions: the contracts' own. Own work; the normal forms were printed by a program of mine (wip/rex). -/
import Derived.Test.YtceffompldihjaaRT1b
namespace Go.Proofs.Ytceffompldihjaa
open Go.RowKit Rex
set_option linter.unusedVariables false
set_option linter.unusedSimpArgs false
set_option maxRecDepth 100000


def cB (da db ax ay bx by_ : Int) : Bool := decide (da ≤ 0) && (decide (db ≤ 0) && touchB ax ay 524288 bx by_ 0)
def sB (oa ob la lb : Int) : Bool := !(oa == 0) && (oa == ob && decide (lb < la))
def mixX (c : Bool) (a b n o : Int) : Int := if c = true then lerpF a b n o else if n = o then b else a
def mixF (c : Bool) (f t n o : Int) : Int := if c = true then angF f t n o else if n = o then t else f
def mixO (c : Bool) (a b n o : Int) : Int := if c = true then a else if n = o then b else a
def insB (l x y : Int) : Bool := decide (-l ≤ x ∧ x ≤ l ∧ -l ≤ y ∧ y ≤ l)
def playerB (x y f h c w d s : Int) : Bool := decide (0 ≤ f ∧ f ≤ 65535 ∧ 0 ≤ h ∧ h ≤ 3 ∧ 0 ≤ c ∧ c ≤ 8 ∧ 0 ≤ w ∧ w ≤ 20 ∧ 0 ≤ d ∧ d ≤ 30 ∧ 0 ≤ s ∧ s ≤ 2) && (insB 3932160 x y && decide (0 < h ∧ d = 0 ∨ h ≤ 0 ∧ d ≠ 0))
def zeroB (x y u v o l : Int) : Bool := decide (x = 0 ∧ y = 0 ∧ u = 0 ∧ v = 0 ∧ o = 0 ∧ l = 0)
def shotB (x y u v o l : Int) : Bool := zeroB x y u v o l || (decide (1 ≤ o ∧ o ≤ 2 ∧ 1 ≤ l ∧ l ≤ 40) && insB 4194304 x y)


noncomputable def c_touch : FC := fun us => match us with
  | [.v (.agg [.int .i32 _ px, .int .i32 _ py]), .v (.one (.int .i32 _ r)), .v (.agg [.int .i32 _ qx, .int .i32 _ qy]), .v (.one (.int .i32 _ s))] => some (some ((-2147483648 ≤ px ∧ px ≤ 2147483647) ∧ (-2147483648 ≤ py ∧ py ≤ 2147483647) ∧ (-2147483648 ≤ r ∧ r ≤ 2147483647) ∧ (-2147483648 ≤ qx ∧ qx ≤ 2147483647) ∧ (-2147483648 ≤ qy ∧ qy ≤ 2147483647) ∧ (-2147483648 ≤ s ∧ s ≤ 2147483647)), .v (.one (.bool false (touchB px py r qx qy s))))
  | _ => none
theorem s_touch : FSound Try.prog 26 c_touch := by
  refine fsound_calls Try.func26 (by kernel_rfl) (by kernel_rfl) ?_
  intro us p v h hp
  unfold c_touch at h
  split at h
  · rename_i k0 px k1 py k2 r k3 qx k4 qy k5 s
    cases h
    have hp : (-2147483648 ≤ px ∧ px ≤ 2147483647) ∧ (-2147483648 ≤ py ∧ py ≤ 2147483647) ∧ (-2147483648 ≤ r ∧ r ≤ 2147483647) ∧ (-2147483648 ≤ qx ∧ qx ≤ 2147483647) ∧ (-2147483648 ≤ qy ∧ qy ≤ 2147483647) ∧ (-2147483648 ≤ s ∧ s ≤ 2147483647) := hp
    exact ⟨[.agg #[.int .i32 px, .int .i32 py], .int .i32 r, .agg #[.int .i32 qx, .int .i32 qy], .int .i32 s], .bool (touchB px py r qx qy s), rfl, rfl, fun w => touch_any px py r qx qy s w hp.1 hp.2.1 hp.2.2.1 hp.2.2.2.1 hp.2.2.2.2.1 hp.2.2.2.2.2⟩
  · cases h
noncomputable def Γ_touch : List (FuncId × FX) := (26, c_touch) :: Γ_awake22
theorem ok_touch : ΓOk Try.prog Γ_touch := ΓOk.cons (c := .pure c_touch) s_touch ok_awake22

noncomputable def c_rinside : FC := fun us => match us with
  | [.v (.agg [.int .i32 _ lx, .int .i32 _ ly, .int .i32 _ hx, .int .i32 _ hy]), .v (.agg [.int .i32 _ x, .int .i32 _ y])] => some (none, .v (.one (.bool false (decide (lx ≤ x ∧ x ≤ hx ∧ ly ≤ y ∧ y ≤ hy)))))
  | _ => none
theorem s_rinside : FSound Try.prog 12 c_rinside := by
  refine fsound_calls Try.func12 (by kernel_rfl) (by kernel_rfl) ?_
  intro us p v h hp
  unfold c_rinside at h
  split at h
  · rename_i k0 lx k1 ly k2 hx k3 hy k4 x k5 y
    cases h
    exact ⟨[.agg #[.int .i32 lx, .int .i32 ly, .int .i32 hx, .int .i32 hy], .agg #[.int .i32 x, .int .i32 y]], .bool (decide (lx ≤ x ∧ x ≤ hx ∧ ly ≤ y ∧ y ≤ hy)), rfl, rfl, fun w => rinside_any lx ly hx hy x y w⟩
  · cases h
noncomputable def Γ_rinside : List (FuncId × FX) := (12, c_rinside) :: Γ_touch
theorem ok_rinside : ΓOk Try.prog Γ_rinside := ΓOk.cons (c := .pure c_rinside) s_rinside ok_touch

noncomputable def c_eitherB : FC := fun us => match us with
  | [.v (.agg [.int .i64 _ n, .int .i64 _ o]), .v (.agg [.int .i32 _ xa, .int .i32 _ ya, .int .i64 _ fa, .bool _ ua]), .v (.agg [.int .i32 _ xb, .int .i32 _ yb, .int .i64 _ fb, .bool _ ub])] => some (none, .v (.agg [.int .i32 false (if n = o then xb else xa), .int .i32 false (if n = o then yb else ya), .int .i64 false (if n = o then fb else fa), .bool false (if n = o then ub else ua)]))
  | _ => none
theorem nf_eitherB (n : Int) (o : Int) (xa : Int) (ya : Int) (fa : Int) (ua : Bool) (xb : Int) (yb : Int) (fb : Int) (ub : Bool) : goal ⟨Mx, Try.prog, Γ_rinside, Δ0, B0, none, false, [], none⟩ noL 400 Try.f27 [.v (.agg [.int .i64 false n, .int .i64 false o]), .v (.agg [.int .i32 false xa, .int .i32 false ya, .int .i64 false fa, .bool false ua]), .v (.agg [.int .i32 false xb, .int .i32 false yb, .int .i64 false fb, .bool false ub])] [] (fun r _ => svLe idR r (.v (.agg [.int .i32 false (if n = o then xb else xa), .int .i32 false (if n = o then yb else ya), .int .i64 false (if n = o then fb else fa), .bool false (if n = o then ub else ua)]))) = (((n == o) = true → (xb = if n = o then xb else xa) ∧ (yb = if n = o then yb else ya) ∧ (fb = if n = o then fb else fa) ∧ ub = if n = o then ub else ua) ∧ ((n == o) = false → (xa = if n = o then xb else xa) ∧ (ya = if n = o then yb else ya) ∧ (fa = if n = o then fb else fa) ∧ ua = if n = o then ub else ua)) := by kernel_rfl
theorem s_eitherB : FSound Try.prog 27 c_eitherB := by
  refine fsound_of (Ctx.ok_of2 (M := Mx) (N := []) mixedA ok_rinside okD0 okB0) Try.func27 (by kernel_rfl) (by kernel_rfl) ?_
  intro us p v h hp
  unfold c_eitherB at h
  split at h
  · rename_i k0 n k1 o k2 xa k3 ya k4 fa k5 ua k6 xb k7 yb k8 fb k9 ub
    cases h
    refine ⟨rfl, noL, 400, [.v (.agg [.int .i64 false n, .int .i64 false o]), .v (.agg [.int .i32 false xa, .int .i32 false ya, .int .i64 false fa, .bool false ua]), .v (.agg [.int .i32 false xb, .int .i32 false yb, .int .i64 false fb, .bool false ub])], by simp [tmLe, svLe, vLe, lfLe, lfsLe, ifB, nmIs, idR], rfl, ?_⟩
    rw [nf_eitherB]
    clear hp
    by_cases h : n = o <;> simp [h]
  · cases h
noncomputable def Γ_eitherB : List (FuncId × FX) := (27, c_eitherB) :: Γ_rinside
theorem ok_eitherB : ΓOk Try.prog Γ_eitherB := ΓOk.cons (c := .pure c_eitherB) s_eitherB ok_rinside

noncomputable def c_eitherS : FC := fun us => match us with
  | [.v (.agg [.int .i64 _ n, .int .i64 _ o]), .v (.agg [.int .i32 _ xa, .int .i32 _ ya, .int .i64 _ oa]), .v (.agg [.int .i32 _ xb, .int .i32 _ yb, .int .i64 _ ob])] => some (none, .v (.agg [.int .i32 false (if n = o then xb else xa), .int .i32 false (if n = o then yb else ya), .int .i64 false (if n = o then ob else oa)]))
  | _ => none
theorem nf_eitherS (n : Int) (o : Int) (xa : Int) (ya : Int) (oa : Int) (xb : Int) (yb : Int) (ob : Int) : goal ⟨Mx, Try.prog, Γ_eitherB, Δ0, B0, none, false, [], none⟩ noL 400 Try.f29 [.v (.agg [.int .i64 false n, .int .i64 false o]), .v (.agg [.int .i32 false xa, .int .i32 false ya, .int .i64 false oa]), .v (.agg [.int .i32 false xb, .int .i32 false yb, .int .i64 false ob])] [] (fun r _ => svLe idR r (.v (.agg [.int .i32 false (if n = o then xb else xa), .int .i32 false (if n = o then yb else ya), .int .i64 false (if n = o then ob else oa)]))) = (((n == o) = true → (xb = if n = o then xb else xa) ∧ (yb = if n = o then yb else ya) ∧ ob = if n = o then ob else oa) ∧ ((n == o) = false → (xa = if n = o then xb else xa) ∧ (ya = if n = o then yb else ya) ∧ oa = if n = o then ob else oa)) := by kernel_rfl
theorem s_eitherS : FSound Try.prog 29 c_eitherS := by
  refine fsound_of (Ctx.ok_of2 (M := Mx) (N := []) mixedA ok_eitherB okD0 okB0) Try.func29 (by kernel_rfl) (by kernel_rfl) ?_
  intro us p v h hp
  unfold c_eitherS at h
  split at h
  · rename_i k0 n k1 o k2 xa k3 ya k4 oa k5 xb k6 yb k7 ob
    cases h
    refine ⟨rfl, noL, 400, [.v (.agg [.int .i64 false n, .int .i64 false o]), .v (.agg [.int .i32 false xa, .int .i32 false ya, .int .i64 false oa]), .v (.agg [.int .i32 false xb, .int .i32 false yb, .int .i64 false ob])], by simp [tmLe, svLe, vLe, lfLe, lfsLe, ifB, nmIs, idR], rfl, ?_⟩
    rw [nf_eitherS]
    clear hp
    by_cases h : n = o <;> simp [h]
  · cases h
noncomputable def Γ_eitherS : List (FuncId × FX) := (29, c_eitherS) :: Γ_eitherB
theorem ok_eitherS : ΓOk Try.prog Γ_eitherS := ΓOk.cons (c := .pure c_eitherS) s_eitherS ok_eitherB

noncomputable def c_tbody : FC := fun us => match us with
  | [.v (.agg [.int .i32 _ px, .int .i32 _ py, .int .i32 _ pu, .int .i32 _ pv, .int .i64 _ pf, .int .i64 _ ph, .int .i64 _ pc, .int .i64 _ pw, .int .i64 _ pd, .int .i64 _ ps])] => some (none, .v (.agg [.int .i32 false (px), .int .i32 false (py), .int .i64 false (pf), .bool false (pd == 0)]))
  | _ => none
theorem nf_tbody (px : Int) (py : Int) (pu : Int) (pv : Int) (pf : Int) (ph : Int) (pc : Int) (pw : Int) (pd : Int) (ps : Int) : goal ⟨Mx, Try.prog, Γ_eitherS, Δ0, B0, none, false, [], none⟩ noL 400 Try.f17 [.v (.agg [.int .i32 false px, .int .i32 false py, .int .i32 false pu, .int .i32 false pv, .int .i64 false pf, .int .i64 false ph, .int .i64 false pc, .int .i64 false pw, .int .i64 false pd, .int .i64 false ps])] [] (fun r _ => svLe idR r (.v (.agg [.int .i32 false (px), .int .i32 false (py), .int .i64 false (pf), .bool false (pd == 0)]))) = (px = px ∧ py = py ∧ pf = pf ∧ (pd == (0 : Int)) = (pd == (0 : Int))) := by kernel_rfl
theorem s_tbody : FSound Try.prog 17 c_tbody := by
  refine fsound_of (Ctx.ok_of2 (M := Mx) (N := []) mixedA ok_eitherS okD0 okB0) Try.func17 (by kernel_rfl) (by kernel_rfl) ?_
  intro us p v h hp
  unfold c_tbody at h
  split at h
  · rename_i k0 px k1 py k2 pu k3 pv k4 pf k5 ph k6 pc k7 pw k8 pd k9 ps
    cases h
    refine ⟨rfl, noL, 400, [.v (.agg [.int .i32 false px, .int .i32 false py, .int .i32 false pu, .int .i32 false pv, .int .i64 false pf, .int .i64 false ph, .int .i64 false pc, .int .i64 false pw, .int .i64 false pd, .int .i64 false ps])], by simp [tmLe, svLe, vLe, lfLe, lfsLe, ifB, nmIs, idR], rfl, ?_⟩
    rw [nf_tbody]
    clear hp
    simp
  · cases h
noncomputable def Γ_tbody : List (FuncId × FX) := (17, c_tbody) :: Γ_eitherS
theorem ok_tbody : ΓOk Try.prog Γ_tbody := ΓOk.cons (c := .pure c_tbody) s_tbody ok_eitherS

noncomputable def c_tspot : FC := fun us => match us with
  | [.v (.agg [.int .i32 _ sx, .int .i32 _ sy, .int .i32 _ su, .int .i32 _ sv, .int .i64 _ so, .int .i64 _ sl])] => some (none, .v (.agg [.int .i32 false (sx), .int .i32 false (sy), .int .i64 false (so)]))
  | _ => none
theorem nf_tspot (sx : Int) (sy : Int) (su : Int) (sv : Int) (so : Int) (sl : Int) : goal ⟨Mx, Try.prog, Γ_tbody, Δ0, B0, none, false, [], none⟩ noL 400 Try.f18 [.v (.agg [.int .i32 false sx, .int .i32 false sy, .int .i32 false su, .int .i32 false sv, .int .i64 false so, .int .i64 false sl])] [] (fun r _ => svLe idR r (.v (.agg [.int .i32 false (sx), .int .i32 false (sy), .int .i64 false (so)]))) = (sx = sx ∧ sy = sy ∧ so = so) := by kernel_rfl
theorem s_tspot : FSound Try.prog 18 c_tspot := by
  refine fsound_of (Ctx.ok_of2 (M := Mx) (N := []) mixedA ok_tbody okD0 okB0) Try.func18 (by kernel_rfl) (by kernel_rfl) ?_
  intro us p v h hp
  unfold c_tspot at h
  split at h
  · rename_i k0 sx k1 sy k2 su k3 sv k4 so k5 sl
    cases h
    refine ⟨rfl, noL, 400, [.v (.agg [.int .i32 false sx, .int .i32 false sy, .int .i32 false su, .int .i32 false sv, .int .i64 false so, .int .i64 false sl])], by simp [tmLe, svLe, vLe, lfLe, lfsLe, ifB, nmIs, idR], rfl, ?_⟩
    rw [nf_tspot]
    clear hp
    simp
  · cases h
noncomputable def Γ_tspot : List (FuncId × FX) := (18, c_tspot) :: Γ_tbody
theorem ok_tspot : ΓOk Try.prog Γ_tspot := ΓOk.cons (c := .pure c_tspot) s_tspot ok_tbody

noncomputable def c_wplace : FC := fun us => match us with
  | [.v (.agg [.int .i64 _ n, .int .i64 _ o]), .v (.agg [.int .i32 _ xa, .int .i32 _ ya]), .v (.agg [.int .i32 _ xb, .int .i32 _ yb])] => some (some ((-2147483648 ≤ xa ∧ xa ≤ 2147483647) ∧ (-2147483648 ≤ ya ∧ ya ≤ 2147483647) ∧ (-2147483648 ≤ xb ∧ xb ≤ 2147483647) ∧ (-2147483648 ≤ yb ∧ yb ≤ 2147483647) ∧ (1 ≤ o ∧ o ≤ 65536) ∧ (0 ≤ n ∧ n ≤ o)), .v (.agg [.int .i32 false (lerpF xa xb n o), .int .i32 false (lerpF ya yb n o)]))
  | _ => none
theorem nf_wplace (n : Int) (o : Int) (xa : Int) (ya : Int) (xb : Int) (yb : Int) : goal ⟨Mx, Try.prog, Γ_tspot, Δ0, B0, none, false, [], none⟩ noL 400 Try.f28 [.v (.agg [.int .i64 false n, .int .i64 false o]), .v (.agg [.int .i32 false xa, .int .i32 false ya]), .v (.agg [.int .i32 false xb, .int .i32 false yb])] [] (fun r _ => svLe idR r (.v (.agg [.int .i32 false (lerpF xa xb n o), .int .i32 false (lerpF ya yb n o)]))) = ((((-2147483648 : Int) ≤ xa ∧ xa ≤ (2147483647 : Int)) ∧ ((-2147483648 : Int) ≤ xb ∧ xb ≤ (2147483647 : Int)) ∧ ((1 : Int) ≤ o ∧ o ≤ (65536 : Int)) ∧ (0 : Int) ≤ n ∧ n ≤ o) ∧ (((-2147483648 : Int) ≤ ya ∧ ya ≤ (2147483647 : Int)) ∧ ((-2147483648 : Int) ≤ yb ∧ yb ≤ (2147483647 : Int)) ∧ ((1 : Int) ≤ o ∧ o ≤ (65536 : Int)) ∧ (0 : Int) ≤ n ∧ n ≤ o) ∧ lerpF xa xb n o = lerpF xa xb n o ∧ lerpF ya yb n o = lerpF ya yb n o) := by kernel_rfl
theorem s_wplace : FSound Try.prog 28 c_wplace := by
  refine fsound_of (Ctx.ok_of2 (M := Mx) (N := []) mixedA ok_tspot okD0 okB0) Try.func28 (by kernel_rfl) (by kernel_rfl) ?_
  intro us p v h hp
  unfold c_wplace at h
  split at h
  · rename_i k0 n k1 o k2 xa k3 ya k4 xb k5 yb
    cases h
    have hp : (-2147483648 ≤ xa ∧ xa ≤ 2147483647) ∧ (-2147483648 ≤ ya ∧ ya ≤ 2147483647) ∧ (-2147483648 ≤ xb ∧ xb ≤ 2147483647) ∧ (-2147483648 ≤ yb ∧ yb ≤ 2147483647) ∧ (1 ≤ o ∧ o ≤ 65536) ∧ (0 ≤ n ∧ n ≤ o) := hp
    refine ⟨rfl, noL, 400, [.v (.agg [.int .i64 false n, .int .i64 false o]), .v (.agg [.int .i32 false xa, .int .i32 false ya]), .v (.agg [.int .i32 false xb, .int .i32 false yb])], by simp [tmLe, svLe, vLe, lfLe, lfsLe, ifB, nmIs, idR], rfl, ?_⟩
    rw [nf_wplace]
    refine ⟨?_, ?_, rfl, rfl⟩ <;> omega
  · cases h
noncomputable def Γ_wplace : List (FuncId × FX) := (28, c_wplace) :: Γ_tspot
theorem ok_wplace : ΓOk Try.prog Γ_wplace := ΓOk.cons (c := .pure c_wplace) s_wplace ok_tspot

noncomputable def c_wbody : FC := fun us => gA us fun ls0_0 us0 => gI .i64 ls0_0 fun n ls0_1 => gI .i64 ls0_1 fun o ls0_2 => gN ls0_2 <| gA us0 fun ls1_0 us1 => gI .i32 ls1_0 fun pxa ls1_1 => gI .i32 ls1_1 fun pya ls1_2 => gI .i32 ls1_2 fun pua ls1_3 => gI .i32 ls1_3 fun pva ls1_4 => gI .i64 ls1_4 fun pfa ls1_5 => gI .i64 ls1_5 fun pha ls1_6 => gI .i64 ls1_6 fun pca ls1_7 => gI .i64 ls1_7 fun pwa ls1_8 => gI .i64 ls1_8 fun pda ls1_9 => gI .i64 ls1_9 fun psa ls1_10 => gN ls1_10 <| gA us1 fun ls2_0 us2 => gI .i32 ls2_0 fun pxb ls2_1 => gI .i32 ls2_1 fun pyb ls2_2 => gI .i32 ls2_2 fun pub ls2_3 => gI .i32 ls2_3 fun pvb ls2_4 => gI .i64 ls2_4 fun pfb ls2_5 => gI .i64 ls2_5 fun phb ls2_6 => gI .i64 ls2_6 fun pcb ls2_7 => gI .i64 ls2_7 fun pwb ls2_8 => gI .i64 ls2_8 fun pdb ls2_9 => gI .i64 ls2_9 fun psb ls2_10 => gN ls2_10 <| gE us2 <| some (some ((-2147483648 ≤ pxa ∧ pxa ≤ 2147483647) ∧ (-2147483648 ≤ pya ∧ pya ≤ 2147483647) ∧ (-2147483648 ≤ pxb ∧ pxb ≤ 2147483647) ∧ (-2147483648 ≤ pyb ∧ pyb ≤ 2147483647) ∧ (1 ≤ o ∧ o ≤ 65536) ∧ (0 ≤ n ∧ n ≤ o)), .v (.agg [.int .i32 false (mixX (cB pda pdb pxa pya pxb pyb) pxa pxb n o), .int .i32 false (mixX (cB pda pdb pxa pya pxb pyb) pya pyb n o), .int .i64 false (mixF (cB pda pdb pxa pya pxb pyb) pfa pfb n o), .bool false ((cB pda pdb pxa pya pxb pyb) || (if n = o then pdb == 0 else pda == 0))]))
theorem nf_wbody (n : Int) (o : Int) (pxa : Int) (pya : Int) (pua : Int) (pva : Int) (pfa : Int) (pha : Int) (pca : Int) (pwa : Int) (pda : Int) (psa : Int) (pxb : Int) (pyb : Int) (pub : Int) (pvb : Int) (pfb : Int) (phb : Int) (pcb : Int) (pwb : Int) (pdb : Int) (psb : Int) : goal ⟨Mx, Try.prog, Γ_wplace, Δ0, B0, none, false, [], none⟩ noL 400 Try.f15 [.v (.agg [.int .i64 false n, .int .i64 false o]), .v (.agg [.int .i32 false pxa, .int .i32 false pya, .int .i32 false pua, .int .i32 false pva, .int .i64 false pfa, .int .i64 false pha, .int .i64 false pca, .int .i64 false pwa, .int .i64 false pda, .int .i64 false psa]), .v (.agg [.int .i32 false pxb, .int .i32 false pyb, .int .i32 false pub, .int .i32 false pvb, .int .i64 false pfb, .int .i64 false phb, .int .i64 false pcb, .int .i64 false pwb, .int .i64 false pdb, .int .i64 false psb])] [] (fun r _ => svLe idR r (.v (.agg [.int .i32 false (mixX (cB pda pdb pxa pya pxb pyb) pxa pxb n o), .int .i32 false (mixX (cB pda pdb pxa pya pxb pyb) pya pyb n o), .int .i64 false (mixF (cB pda pdb pxa pya pxb pyb) pfa pfb n o), .bool false ((cB pda pdb pxa pya pxb pyb) || (if n = o then pdb == 0 else pda == 0))]))) = ((decide ((0 : Int) < pda) = false → (decide ((0 : Int) < pdb) = false → (((-2147483648 : Int) ≤ pxa ∧ pxa ≤ (2147483647 : Int)) ∧ ((-2147483648 : Int) ≤ pya ∧ pya ≤ (2147483647 : Int)) ∧ ((-2147483648 : Int) ≤ (524288 : Int) ∧ (524288 : Int) ≤ (2147483647 : Int)) ∧ ((-2147483648 : Int) ≤ pxb ∧ pxb ≤ (2147483647 : Int)) ∧ ((-2147483648 : Int) ≤ pyb ∧ pyb ≤ (2147483647 : Int)) ∧ (-2147483648 : Int) ≤ (0 : Int) ∧ (0 : Int) ≤ (2147483647 : Int)) ∧ ((!touchB pxa pya (524288 : Int) pxb pyb (0 : Int)) = true → (if n = o then pxb else pxa) = mixX (cB pda pdb pxa pya pxb pyb) pxa pxb n o ∧ (if n = o then pyb else pya) = mixX (cB pda pdb pxa pya pxb pyb) pya pyb n o ∧ (if n = o then pfb else pfa) = mixF (cB pda pdb pxa pya pxb pyb) pfa pfb n o ∧ (if n = o then pdb == (0 : Int) else pda == (0 : Int)) = (cB pda pdb pxa pya pxb pyb || if n = o then pdb == (0 : Int) else pda == (0 : Int))) ∧ ((!touchB pxa pya (524288 : Int) pxb pyb (0 : Int)) = false → (((-2147483648 : Int) ≤ pxa ∧ pxa ≤ (2147483647 : Int)) ∧ ((-2147483648 : Int) ≤ pya ∧ pya ≤ (2147483647 : Int)) ∧ ((-2147483648 : Int) ≤ pxb ∧ pxb ≤ (2147483647 : Int)) ∧ ((-2147483648 : Int) ≤ pyb ∧ pyb ≤ (2147483647 : Int)) ∧ ((1 : Int) ≤ o ∧ o ≤ (65536 : Int)) ∧ (0 : Int) ≤ n ∧ n ≤ o) ∧ (((1 : Int) ≤ o ∧ o ≤ (65536 : Int)) ∧ (0 : Int) ≤ n ∧ n ≤ o) ∧ lerpF pxa pxb n o = mixX (cB pda pdb pxa pya pxb pyb) pxa pxb n o ∧ lerpF pya pyb n o = mixX (cB pda pdb pxa pya pxb pyb) pya pyb n o ∧ angF pfa pfb n o = mixF (cB pda pdb pxa pya pxb pyb) pfa pfb n o ∧ true = (cB pda pdb pxa pya pxb pyb || if n = o then pdb == (0 : Int) else pda == (0 : Int)))) ∧ (decide ((0 : Int) < pdb) = true → (if n = o then pxb else pxa) = mixX (cB pda pdb pxa pya pxb pyb) pxa pxb n o ∧ (if n = o then pyb else pya) = mixX (cB pda pdb pxa pya pxb pyb) pya pyb n o ∧ (if n = o then pfb else pfa) = mixF (cB pda pdb pxa pya pxb pyb) pfa pfb n o ∧ (if n = o then pdb == (0 : Int) else pda == (0 : Int)) = (cB pda pdb pxa pya pxb pyb || if n = o then pdb == (0 : Int) else pda == (0 : Int)))) ∧ (decide ((0 : Int) < pda) = true → (if n = o then pxb else pxa) = mixX (cB pda pdb pxa pya pxb pyb) pxa pxb n o ∧ (if n = o then pyb else pya) = mixX (cB pda pdb pxa pya pxb pyb) pya pyb n o ∧ (if n = o then pfb else pfa) = mixF (cB pda pdb pxa pya pxb pyb) pfa pfb n o ∧ (if n = o then pdb == (0 : Int) else pda == (0 : Int)) = (cB pda pdb pxa pya pxb pyb || if n = o then pdb == (0 : Int) else pda == (0 : Int)))) := by kernel_rfl
theorem s_wbody : FSound Try.prog 15 c_wbody := by
  refine fsound_of (Ctx.ok_of2 (M := Mx) (N := []) mixedA ok_wplace okD0 okB0) Try.func15 (by kernel_rfl) (by kernel_rfl) ?_
  intro us p v h hp
  unfold c_wbody at h
  have _d := True.intro
  · skip
    replace h := gA_some h
    obtain ⟨ls0_0, us0, rfl, h⟩ := h
    replace h := gI_some h
    obtain ⟨k0, n, ls0_1, rfl, h⟩ := h
    replace h := gI_some h
    obtain ⟨k1, o, ls0_2, rfl, h⟩ := h
    replace h := gN_some h
    obtain ⟨rfl, h⟩ := h
    replace h := gA_some h
    obtain ⟨ls1_0, us1, rfl, h⟩ := h
    replace h := gI_some h
    obtain ⟨k2, pxa, ls1_1, rfl, h⟩ := h
    replace h := gI_some h
    obtain ⟨k3, pya, ls1_2, rfl, h⟩ := h
    replace h := gI_some h
    obtain ⟨k4, pua, ls1_3, rfl, h⟩ := h
    replace h := gI_some h
    obtain ⟨k5, pva, ls1_4, rfl, h⟩ := h
    replace h := gI_some h
    obtain ⟨k6, pfa, ls1_5, rfl, h⟩ := h
    replace h := gI_some h
    obtain ⟨k7, pha, ls1_6, rfl, h⟩ := h
    replace h := gI_some h
    obtain ⟨k8, pca, ls1_7, rfl, h⟩ := h
    replace h := gI_some h
    obtain ⟨k9, pwa, ls1_8, rfl, h⟩ := h
    replace h := gI_some h
    obtain ⟨k10, pda, ls1_9, rfl, h⟩ := h
    replace h := gI_some h
    obtain ⟨k11, psa, ls1_10, rfl, h⟩ := h
    replace h := gN_some h
    obtain ⟨rfl, h⟩ := h
    replace h := gA_some h
    obtain ⟨ls2_0, us2, rfl, h⟩ := h
    replace h := gI_some h
    obtain ⟨k12, pxb, ls2_1, rfl, h⟩ := h
    replace h := gI_some h
    obtain ⟨k13, pyb, ls2_2, rfl, h⟩ := h
    replace h := gI_some h
    obtain ⟨k14, pub, ls2_3, rfl, h⟩ := h
    replace h := gI_some h
    obtain ⟨k15, pvb, ls2_4, rfl, h⟩ := h
    replace h := gI_some h
    obtain ⟨k16, pfb, ls2_5, rfl, h⟩ := h
    replace h := gI_some h
    obtain ⟨k17, phb, ls2_6, rfl, h⟩ := h
    replace h := gI_some h
    obtain ⟨k18, pcb, ls2_7, rfl, h⟩ := h
    replace h := gI_some h
    obtain ⟨k19, pwb, ls2_8, rfl, h⟩ := h
    replace h := gI_some h
    obtain ⟨k20, pdb, ls2_9, rfl, h⟩ := h
    replace h := gI_some h
    obtain ⟨k21, psb, ls2_10, rfl, h⟩ := h
    replace h := gN_some h
    obtain ⟨rfl, h⟩ := h
    replace h := gE_some h
    obtain ⟨rfl, h⟩ := h
    cases h
    have hp : (-2147483648 ≤ pxa ∧ pxa ≤ 2147483647) ∧ (-2147483648 ≤ pya ∧ pya ≤ 2147483647) ∧ (-2147483648 ≤ pxb ∧ pxb ≤ 2147483647) ∧ (-2147483648 ≤ pyb ∧ pyb ≤ 2147483647) ∧ (1 ≤ o ∧ o ≤ 65536) ∧ (0 ≤ n ∧ n ≤ o) := hp
    refine ⟨rfl, noL, 400, [.v (.agg [.int .i64 false n, .int .i64 false o]), .v (.agg [.int .i32 false pxa, .int .i32 false pya, .int .i32 false pua, .int .i32 false pva, .int .i64 false pfa, .int .i64 false pha, .int .i64 false pca, .int .i64 false pwa, .int .i64 false pda, .int .i64 false psa]), .v (.agg [.int .i32 false pxb, .int .i32 false pyb, .int .i32 false pub, .int .i32 false pvb, .int .i64 false pfb, .int .i64 false phb, .int .i64 false pcb, .int .i64 false pwb, .int .i64 false pdb, .int .i64 false psb])], by simp [tmLe, svLe, vLe, lfLe, lfsLe, ifB, nmIs, idR], rfl, ?_⟩
    rw [nf_wbody]
    unfold cB mixX mixF
    cases ht : touchB pxa pya 524288 pxb pyb 0 <;> by_cases h1 : 0 < pda <;> by_cases h2 : 0 < pdb <;> by_cases h3 : n = o <;> simp [h1, h2, h3, show (pda ≤ 0) = ¬ (0 < pda) by simp, show (pdb ≤ 0) = ¬ (0 < pdb) by simp] <;> omega
noncomputable def Γ_wbody : List (FuncId × FX) := (15, c_wbody) :: Γ_wplace
theorem ok_wbody : ΓOk Try.prog Γ_wbody := ΓOk.cons (c := .pure c_wbody) s_wbody ok_wplace

noncomputable def c_wspot : FC := fun us => match us with
  | [.v (.agg [.int .i64 _ n, .int .i64 _ o]), .v (.agg [.int .i32 _ sxa, .int .i32 _ sya, .int .i32 _ sua, .int .i32 _ sva, .int .i64 _ soa, .int .i64 _ sla]), .v (.agg [.int .i32 _ sxb, .int .i32 _ syb, .int .i32 _ sub, .int .i32 _ svb, .int .i64 _ sob, .int .i64 _ slb])] => some (some ((-2147483648 ≤ sxa ∧ sxa ≤ 2147483647) ∧ (-2147483648 ≤ sya ∧ sya ≤ 2147483647) ∧ (-2147483648 ≤ sxb ∧ sxb ≤ 2147483647) ∧ (-2147483648 ≤ syb ∧ syb ≤ 2147483647) ∧ (1 ≤ o ∧ o ≤ 65536) ∧ (0 ≤ n ∧ n ≤ o)), .v (.agg [.int .i32 false (mixX (sB soa sob sla slb) sxa sxb n o), .int .i32 false (mixX (sB soa sob sla slb) sya syb n o), .int .i64 false (mixO (sB soa sob sla slb) soa sob n o)]))
  | _ => none
theorem nf_wspot (n : Int) (o : Int) (sxa : Int) (sya : Int) (sua : Int) (sva : Int) (soa : Int) (sla : Int) (sxb : Int) (syb : Int) (sub : Int) (svb : Int) (sob : Int) (slb : Int) : goal ⟨Mx, Try.prog, Γ_wbody, Δ0, B0, none, false, [], none⟩ noL 400 Try.f16 [.v (.agg [.int .i64 false n, .int .i64 false o]), .v (.agg [.int .i32 false sxa, .int .i32 false sya, .int .i32 false sua, .int .i32 false sva, .int .i64 false soa, .int .i64 false sla]), .v (.agg [.int .i32 false sxb, .int .i32 false syb, .int .i32 false sub, .int .i32 false svb, .int .i64 false sob, .int .i64 false slb])] [] (fun r _ => svLe idR r (.v (.agg [.int .i32 false (mixX (sB soa sob sla slb) sxa sxb n o), .int .i32 false (mixX (sB soa sob sla slb) sya syb n o), .int .i64 false (mixO (sB soa sob sla slb) soa sob n o)]))) = (((soa == (0 : Int)) = false → ((soa != sob) = false → (decide (sla ≤ slb) = true → (if n = o then sxb else sxa) = mixX (sB soa sob sla slb) sxa sxb n o ∧ (if n = o then syb else sya) = mixX (sB soa sob sla slb) sya syb n o ∧ (if n = o then sob else soa) = mixO (sB soa sob sla slb) soa sob n o) ∧ (decide (sla ≤ slb) = false → (((-2147483648 : Int) ≤ sxa ∧ sxa ≤ (2147483647 : Int)) ∧ ((-2147483648 : Int) ≤ sya ∧ sya ≤ (2147483647 : Int)) ∧ ((-2147483648 : Int) ≤ sxb ∧ sxb ≤ (2147483647 : Int)) ∧ ((-2147483648 : Int) ≤ syb ∧ syb ≤ (2147483647 : Int)) ∧ ((1 : Int) ≤ o ∧ o ≤ (65536 : Int)) ∧ (0 : Int) ≤ n ∧ n ≤ o) ∧ lerpF sxa sxb n o = mixX (sB soa sob sla slb) sxa sxb n o ∧ lerpF sya syb n o = mixX (sB soa sob sla slb) sya syb n o ∧ soa = mixO (sB soa sob sla slb) soa sob n o)) ∧ ((soa != sob) = true → (if n = o then sxb else sxa) = mixX (sB soa sob sla slb) sxa sxb n o ∧ (if n = o then syb else sya) = mixX (sB soa sob sla slb) sya syb n o ∧ (if n = o then sob else soa) = mixO (sB soa sob sla slb) soa sob n o)) ∧ ((soa == (0 : Int)) = true → (if n = o then sxb else sxa) = mixX (sB soa sob sla slb) sxa sxb n o ∧ (if n = o then syb else sya) = mixX (sB soa sob sla slb) sya syb n o ∧ (if n = o then sob else soa) = mixO (sB soa sob sla slb) soa sob n o)) := by kernel_rfl
theorem s_wspot : FSound Try.prog 16 c_wspot := by
  refine fsound_of (Ctx.ok_of2 (M := Mx) (N := []) mixedA ok_wbody okD0 okB0) Try.func16 (by kernel_rfl) (by kernel_rfl) ?_
  intro us p v h hp
  unfold c_wspot at h
  split at h
  · rename_i k0 n k1 o k2 sxa k3 sya k4 sua k5 sva k6 soa k7 sla k8 sxb k9 syb k10 sub k11 svb k12 sob k13 slb
    cases h
    have hp : (-2147483648 ≤ sxa ∧ sxa ≤ 2147483647) ∧ (-2147483648 ≤ sya ∧ sya ≤ 2147483647) ∧ (-2147483648 ≤ sxb ∧ sxb ≤ 2147483647) ∧ (-2147483648 ≤ syb ∧ syb ≤ 2147483647) ∧ (1 ≤ o ∧ o ≤ 65536) ∧ (0 ≤ n ∧ n ≤ o) := hp
    refine ⟨rfl, noL, 400, [.v (.agg [.int .i64 false n, .int .i64 false o]), .v (.agg [.int .i32 false sxa, .int .i32 false sya, .int .i32 false sua, .int .i32 false sva, .int .i64 false soa, .int .i64 false sla]), .v (.agg [.int .i32 false sxb, .int .i32 false syb, .int .i32 false sub, .int .i32 false svb, .int .i64 false sob, .int .i64 false slb])], by simp [tmLe, svLe, vLe, lfLe, lfsLe, ifB, nmIs, idR], rfl, ?_⟩
    rw [nf_wspot]
    unfold sB mixX mixO
    by_cases h1 : soa = 0 <;> by_cases h2 : soa = sob <;> by_cases h3 : sla ≤ slb <;> by_cases h4 : n = o <;> simp [h1, h2, h3, h4, show (slb < sla) = ¬ (sla ≤ slb) from propext ⟨fun _ => by omega, fun _ => by omega⟩] <;> omega
  · cases h
noncomputable def Γ_wspot : List (FuncId × FX) := (16, c_wspot) :: Γ_wbody
theorem ok_wspot : ΓOk Try.prog Γ_wspot := ΓOk.cons (c := .pure c_wspot) s_wspot ok_wbody

noncomputable def c_rvec : FC := fun us => match us with
  | [.v (.one (.int .i64 _ x)), .v (.one (.int .i64 _ y))] => some (some ((-32768 ≤ x ∧ x ≤ 32767) ∧ (-32768 ≤ y ∧ y ≤ 32767)), .v (.agg [.int .i32 false (x * 65536), .int .i32 false (y * 65536)]))
  | _ => none
theorem nf_rvec (x : Int) (y : Int) : goal ⟨Mx, Try.prog, Γ_wspot, Δ0, B0, none, false, [], none⟩ noL 400 Try.f25 [.v (.one (.int .i64 false x)), .v (.one (.int .i64 false y))] [] (fun r _ => svLe idR r (.v (.agg [.int .i32 false (x * 65536), .int .i32 false (y * 65536)]))) = (inR IntKind.i64 (x * (65536 : Int)) ∧ inR IntKind.i32 (x * (65536 : Int)) ∧ inR IntKind.i64 (y * (65536 : Int)) ∧ inR IntKind.i32 (y * (65536 : Int)) ∧ x * (65536 : Int) = x * (65536 : Int) ∧ y * (65536 : Int) = y * (65536 : Int)) := by kernel_rfl
theorem s_rvec : FSound Try.prog 25 c_rvec := by
  refine fsound_of (Ctx.ok_of2 (M := Mx) (N := []) mixedA ok_wspot okD0 okB0) Try.func25 (by kernel_rfl) (by kernel_rfl) ?_
  intro us p v h hp
  unfold c_rvec at h
  split at h
  · rename_i k0 x k1 y
    cases h
    have hp : (-32768 ≤ x ∧ x ≤ 32767) ∧ (-32768 ≤ y ∧ y ≤ 32767) := hp
    refine ⟨rfl, noL, 400, [.v (.one (.int .i64 false x)), .v (.one (.int .i64 false y))], by simp [tmLe, svLe, vLe, lfLe, lfsLe, ifB, nmIs, idR], rfl, ?_⟩
    rw [nf_rvec]
    (repeat' (first | (refine And.intro ?_ ?_) | intro _))
    all_goals first | rfl | omega | (simp only [inR, klo, khi]; omega)
  · cases h
noncomputable def Γ_rvec : List (FuncId × FX) := (25, c_rvec) :: Γ_wspot
theorem ok_rvec : ΓOk Try.prog Γ_rvec := ΓOk.cons (c := .pure c_rvec) s_rvec ok_wspot

noncomputable def c_rbox : FC := fun us => match us with
  | [.v (.one (.int .i64 _ n))] => some (some (0 ≤ n ∧ n ≤ 32767), .v (.agg [.int .i32 false (-n * 65536), .int .i32 false (-n * 65536), .int .i32 false (n * 65536), .int .i32 false (n * 65536)]))
  | _ => none
theorem nf_rbox (n : Int) : goal ⟨Mx, Try.prog, Γ_rvec, Δ0, B0, none, false, [], none⟩ noL 400 Try.f13 [.v (.one (.int .i64 false n))] [] (fun r _ => svLe idR r (.v (.agg [.int .i32 false (-n * 65536), .int .i32 false (-n * 65536), .int .i32 false (n * 65536), .int .i32 false (n * 65536)]))) = (inR IntKind.i64 (-n) ∧ inR IntKind.i64 (-n) ∧ (((-32768 : Int) ≤ -n ∧ -n ≤ (32767 : Int)) ∧ (-32768 : Int) ≤ -n ∧ -n ≤ (32767 : Int)) ∧ (((-32768 : Int) ≤ n ∧ n ≤ (32767 : Int)) ∧ (-32768 : Int) ≤ n ∧ n ≤ (32767 : Int)) ∧ -n * (65536 : Int) = -n * (65536 : Int) ∧ -n * (65536 : Int) = -n * (65536 : Int) ∧ n * (65536 : Int) = n * (65536 : Int) ∧ n * (65536 : Int) = n * (65536 : Int)) := by kernel_rfl
theorem s_rbox : FSound Try.prog 13 c_rbox := by
  refine fsound_of (Ctx.ok_of2 (M := Mx) (N := []) mixedA ok_rvec okD0 okB0) Try.func13 (by kernel_rfl) (by kernel_rfl) ?_
  intro us p v h hp
  unfold c_rbox at h
  split at h
  · rename_i k0 n
    cases h
    have hp : 0 ≤ n ∧ n ≤ 32767 := hp
    refine ⟨rfl, noL, 400, [.v (.one (.int .i64 false n))], by simp [tmLe, svLe, vLe, lfLe, lfsLe, ifB, nmIs, idR], rfl, ?_⟩
    rw [nf_rbox]
    (repeat' (first | (refine And.intro ?_ ?_) | intro _))
    all_goals first | rfl | omega | (simp only [inR, klo, khi]; omega)
  · cases h
noncomputable def Γ_rbox : List (FuncId × FX) := (13, c_rbox) :: Γ_rvec
theorem ok_rbox : ΓOk Try.prog Γ_rbox := ΓOk.cons (c := .pure c_rbox) s_rbox ok_rvec

end Go.Proofs.Ytceffompldihjaa
