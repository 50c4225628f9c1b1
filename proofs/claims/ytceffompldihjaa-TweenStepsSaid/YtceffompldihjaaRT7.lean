/- THE DOCUMENT'S GAME: WHAT A STEP IS MADE OF. Conditions: the contracts' own. Own work; the normal forms were printed by a program of mine (wip/rex). -/
import Derived.Test.YtceffompldihjaaRT4
import Derived.Test.YtceffompldihjaaShape5
import Derived.Test.YtceffompldihjaaDice
namespace Go.Proofs.Ytceffompldihjaa
open Go.RowKit Rex
set_option linter.unusedVariables false
set_option linter.unusedSimpArgs false
set_option maxRecDepth 100000


theorem bounds4 {a b c d : Prop} (h : a ∧ b ∧ c ∧ d) : a ∧ b ∧ c ∧ d := h
def wb (n l m : Int) : Bool := decide (l ≤ n) && decide (n ≤ m)
def rightE (fr em ki od ass gn pn pr ln : Int) : Bool := (wb fr 0 1073741824 && wb em 0 2 && wb ki 1 9 && wb od 0 15) && wb ass 0 31 && wb gn 0 32768 && wb pn (-32768) 32768 && wb pr 0 15 && wb ln 0 600
def cmpI (x y : Int) : Int := if x < y then -1 else if y < x then 1 else 0
def keyC (a1 a2 a3 a4 b1 b2 b3 b4 : Int) : Int := if cmpI a1 b1 = 0 then (if cmpI a2 b2 = 0 then (if cmpI a3 b3 = 0 then cmpI a4 b4 else cmpI a3 b3) else cmpI a2 b2) else cmpI a1 b1
@[reducible] def shE : List Kd := [.int .i64, .int .i64, .int .i64, .int .i64, .int .i64, .int .i64, .int .i64, .int .i64, .int .i64]


noncomputable def c_rkey : FC := fun us => match us with
  | [.v (.agg [.int .i64 _ fr, .int .i64 _ em, .int .i64 _ ki, .int .i64 _ od])] => some (none, .v (.one (.bool false (wb fr 0 1073741824 && wb em 0 2 && wb ki 1 9 && wb od 0 15))))
  | _ => none
theorem nf_rkey (fr : Int) (em : Int) (ki : Int) (od : Int) : goal ⟨Mx, Try.prog, Γ_sright, Δ0, B0, none, false, [], none⟩ noL 400 Try.f63 [.v (.agg [.int .i64 false fr, .int .i64 false em, .int .i64 false ki, .int .i64 false od])] [] (fun r _ => svLe idR r (.v (.one (.bool false (wb fr 0 1073741824 && wb em 0 2 && wb ki 1 9 && wb od 0 15))))) = ((decide ((0 : Int) ≤ fr) = true → (decide (fr ≤ (1073741824 : Int)) = true → (decide ((0 : Int) ≤ em) = true → (decide (em ≤ (2 : Int)) = true → (decide ((1 : Int) ≤ ki) = true → (decide (ki ≤ (9 : Int)) = true → (decide ((0 : Int) ≤ od) = true → decide (od ≤ (15 : Int)) = (wb fr (0 : Int) (1073741824 : Int) && wb em (0 : Int) (2 : Int) && wb ki (1 : Int) (9 : Int) && wb od (0 : Int) (15 : Int))) ∧ (decide ((0 : Int) ≤ od) = false → false = (wb fr (0 : Int) (1073741824 : Int) && wb em (0 : Int) (2 : Int) && wb ki (1 : Int) (9 : Int) && wb od (0 : Int) (15 : Int)))) ∧ (decide (ki ≤ (9 : Int)) = false → false = (wb fr (0 : Int) (1073741824 : Int) && wb em (0 : Int) (2 : Int) && wb ki (1 : Int) (9 : Int) && wb od (0 : Int) (15 : Int)))) ∧ (decide ((1 : Int) ≤ ki) = false → false = (wb fr (0 : Int) (1073741824 : Int) && wb em (0 : Int) (2 : Int) && wb ki (1 : Int) (9 : Int) && wb od (0 : Int) (15 : Int)))) ∧ (decide (em ≤ (2 : Int)) = false → false = (wb fr (0 : Int) (1073741824 : Int) && wb em (0 : Int) (2 : Int) && wb ki (1 : Int) (9 : Int) && wb od (0 : Int) (15 : Int)))) ∧ (decide ((0 : Int) ≤ em) = false → false = (wb fr (0 : Int) (1073741824 : Int) && wb em (0 : Int) (2 : Int) && wb ki (1 : Int) (9 : Int) && wb od (0 : Int) (15 : Int)))) ∧ (decide (fr ≤ (1073741824 : Int)) = false → false = (wb fr (0 : Int) (1073741824 : Int) && wb em (0 : Int) (2 : Int) && wb ki (1 : Int) (9 : Int) && wb od (0 : Int) (15 : Int)))) ∧ (decide ((0 : Int) ≤ fr) = false → false = (wb fr (0 : Int) (1073741824 : Int) && wb em (0 : Int) (2 : Int) && wb ki (1 : Int) (9 : Int) && wb od (0 : Int) (15 : Int)))) := by kernel_rfl
theorem s_rkey : FSound Try.prog 63 c_rkey := by
  refine fsound_of (Ctx.ok_of2 (M := Mx) (N := []) mixedA ok_sright okD0 okB0) Try.func63 (by kernel_rfl) (by kernel_rfl) ?_
  intro us p v h hp
  unfold c_rkey at h
  split at h
  · rename_i k0 fr k1 em k2 ki k3 od
    cases h
    refine ⟨rfl, noL, 400, [.v (.agg [.int .i64 false fr, .int .i64 false em, .int .i64 false ki, .int .i64 false od])], by simp [tmLe, svLe, vLe, lfLe, lfsLe, ifB, nmIs, idR], rfl, ?_⟩
    rw [nf_rkey]
    clear hp
    (repeat' (first | (refine And.intro ?_ ?_) | intro _))
    all_goals (unfold wb; simp [*])
  · cases h
noncomputable def Γ_rkey : List (FuncId × FX) := (63, c_rkey) :: Γ_sright
theorem ok_rkey : ΓOk Try.prog Γ_rkey := ΓOk.cons (c := .pure c_rkey) s_rkey ok_sright

noncomputable def c_rright : FC := fun us => match us with
  | [.v (.agg [.int .i64 _ fr, .int .i64 _ em, .int .i64 _ ki, .int .i64 _ od, .int .i64 _ ass, .int .i64 _ gn, .int .i64 _ pn, .int .i64 _ pr, .int .i64 _ ln])] => some (none, .v (.one (.bool false (rightE fr em ki od ass gn pn pr ln))))
  | _ => none
theorem nf_rright (fr : Int) (em : Int) (ki : Int) (od : Int) (ass : Int) (gn : Int) (pn : Int) (pr : Int) (ln : Int) : goal ⟨Mx, Try.prog, Γ_rkey, Δ0, B0, none, false, [], none⟩ noL 400 Try.f54 [.v (.agg [.int .i64 false fr, .int .i64 false em, .int .i64 false ki, .int .i64 false od, .int .i64 false ass, .int .i64 false gn, .int .i64 false pn, .int .i64 false pr, .int .i64 false ln])] [] (fun r _ => svLe idR r (.v (.one (.bool false (rightE fr em ki od ass gn pn pr ln))))) = (((wb fr (0 : Int) (1073741824 : Int) && wb em (0 : Int) (2 : Int) && wb ki (1 : Int) (9 : Int) && wb od (0 : Int) (15 : Int)) = true → (decide ((0 : Int) ≤ ass) = true → (decide (ass ≤ (31 : Int)) = true → (decide ((0 : Int) ≤ gn) = true → (decide (gn ≤ (32768 : Int)) = true → (decide ((-32768 : Int) ≤ pn) = true → (decide (pn ≤ (32768 : Int)) = true → (decide ((0 : Int) ≤ pr) = true → (decide (pr ≤ (15 : Int)) = true → (decide ((0 : Int) ≤ ln) = true → decide (ln ≤ (600 : Int)) = rightE fr em ki od ass gn pn pr ln) ∧ (decide ((0 : Int) ≤ ln) = false → false = rightE fr em ki od ass gn pn pr ln)) ∧ (decide (pr ≤ (15 : Int)) = false → false = rightE fr em ki od ass gn pn pr ln)) ∧ (decide ((0 : Int) ≤ pr) = false → false = rightE fr em ki od ass gn pn pr ln)) ∧ (decide (pn ≤ (32768 : Int)) = false → false = rightE fr em ki od ass gn pn pr ln)) ∧ (decide ((-32768 : Int) ≤ pn) = false → false = rightE fr em ki od ass gn pn pr ln)) ∧ (decide (gn ≤ (32768 : Int)) = false → false = rightE fr em ki od ass gn pn pr ln)) ∧ (decide ((0 : Int) ≤ gn) = false → false = rightE fr em ki od ass gn pn pr ln)) ∧ (decide (ass ≤ (31 : Int)) = false → false = rightE fr em ki od ass gn pn pr ln)) ∧ (decide ((0 : Int) ≤ ass) = false → false = rightE fr em ki od ass gn pn pr ln)) ∧ ((wb fr (0 : Int) (1073741824 : Int) && wb em (0 : Int) (2 : Int) && wb ki (1 : Int) (9 : Int) && wb od (0 : Int) (15 : Int)) = false → false = rightE fr em ki od ass gn pn pr ln)) := by kernel_rfl
theorem s_rright : FSound Try.prog 54 c_rright := by
  refine fsound_of (Ctx.ok_of2 (M := Mx) (N := []) mixedA ok_rkey okD0 okB0) Try.func54 (by kernel_rfl) (by kernel_rfl) ?_
  intro us p v h hp
  unfold c_rright at h
  split at h
  · rename_i k0 fr k1 em k2 ki k3 od k4 ass k5 gn k6 pn k7 pr k8 ln
    cases h
    refine ⟨rfl, noL, 400, [.v (.agg [.int .i64 false fr, .int .i64 false em, .int .i64 false ki, .int .i64 false od, .int .i64 false ass, .int .i64 false gn, .int .i64 false pn, .int .i64 false pr, .int .i64 false ln])], by simp [tmLe, svLe, vLe, lfLe, lfsLe, ifB, nmIs, idR], rfl, ?_⟩
    rw [nf_rright]
    clear hp
    (repeat' (first | (refine And.intro ?_ ?_) | intro _))
    all_goals (unfold rightE; unfold wb at *; simp [*])
  · cases h
noncomputable def Γ_rright : List (FuncId × FX) := (54, c_rright) :: Γ_rkey
theorem ok_rright : ΓOk Try.prog Γ_rright := ΓOk.cons (c := .pure c_rright) s_rright ok_rkey

noncomputable def c_rcompare : FC := fun us => match us with
  | [.v (.agg [.int .i64 _ a1, .int .i64 _ a2, .int .i64 _ a3, .int .i64 _ a4]), .v (.agg [.int .i64 _ b1, .int .i64 _ b2, .int .i64 _ b3, .int .i64 _ b4])] => some (none, .v (.one (.int .i64 false (keyC a1 a2 a3 a4 b1 b2 b3 b4))))
  | _ => none
theorem nf_rcompare (a1 : Int) (a2 : Int) (a3 : Int) (a4 : Int) (b1 : Int) (b2 : Int) (b3 : Int) (b4 : Int) : goal ⟨Mx, Try.prog, Γ_rright, Δ0, B0, none, false, [], none⟩ noL 400 Try.f64 [.v (.agg [.int .i64 false a1, .int .i64 false a2, .int .i64 false a3, .int .i64 false a4]), .v (.agg [.int .i64 false b1, .int .i64 false b2, .int .i64 false b3, .int .i64 false b4])] [] (fun r _ => svLe idR r (.v (.one (.int .i64 false (keyC a1 a2 a3 a4 b1 b2 b3 b4))))) = ((decide (a1 < b1) = true → (-1 : Int) = keyC a1 a2 a3 a4 b1 b2 b3 b4) ∧ (decide (a1 < b1) = false → (decide (b1 < a1) = true → (1 : Int) = keyC a1 a2 a3 a4 b1 b2 b3 b4) ∧ (decide (b1 < a1) = false → (decide (a2 < b2) = true → (-1 : Int) = keyC a1 a2 a3 a4 b1 b2 b3 b4) ∧ (decide (a2 < b2) = false → (decide (b2 < a2) = true → (1 : Int) = keyC a1 a2 a3 a4 b1 b2 b3 b4) ∧ (decide (b2 < a2) = false → (decide (a3 < b3) = true → (-1 : Int) = keyC a1 a2 a3 a4 b1 b2 b3 b4) ∧ (decide (a3 < b3) = false → (decide (b3 < a3) = true → (1 : Int) = keyC a1 a2 a3 a4 b1 b2 b3 b4) ∧ (decide (b3 < a3) = false → (decide (a4 < b4) = true → (-1 : Int) = keyC a1 a2 a3 a4 b1 b2 b3 b4) ∧ (decide (a4 < b4) = false → (decide (b4 < a4) = true → (1 : Int) = keyC a1 a2 a3 a4 b1 b2 b3 b4) ∧ (decide (b4 < a4) = false → (0 : Int) = keyC a1 a2 a3 a4 b1 b2 b3 b4))))))))) := by kernel_rfl
theorem s_rcompare : FSound Try.prog 64 c_rcompare := by
  refine fsound_of (Ctx.ok_of2 (M := Mx) (N := []) mixedA ok_rright okD0 okB0) Try.func64 (by kernel_rfl) (by kernel_rfl) ?_
  intro us p v h hp
  unfold c_rcompare at h
  split at h
  · rename_i k0 a1 k1 a2 k2 a3 k3 a4 k4 b1 k5 b2 k6 b3 k7 b4
    cases h
    refine ⟨rfl, noL, 400, [.v (.agg [.int .i64 false a1, .int .i64 false a2, .int .i64 false a3, .int .i64 false a4]), .v (.agg [.int .i64 false b1, .int .i64 false b2, .int .i64 false b3, .int .i64 false b4])], by simp [tmLe, svLe, vLe, lfLe, lfsLe, ifB, nmIs, idR], rfl, ?_⟩
    rw [nf_rcompare]
    clear hp
    (repeat' (first | (refine And.intro ?_ ?_) | intro _))
    all_goals (try (refine Bool.eq_iff_iff.2 ?_))
    all_goals (try simp only [decide_eq_true_eq, decide_eq_false_iff_not, beq_iff_eq, beq_eq_false_iff_ne, bne_iff_ne, bne_eq_false_iff_eq, ne_eq, Bool.not_eq_true', Bool.not_eq_false', ← Bool.not_eq_true, Bool.true_eq_false, Bool.false_eq_true, Bool.and_eq_true, Bool.or_eq_true, false_iff, iff_false, true_iff, iff_true, not_true_eq_false, not_false_eq_true, and_true, true_and, inR, klo, khi] at *)
    all_goals (try unfold keyC cmpI)
    all_goals (repeat' split)
    all_goals omega
  · cases h
noncomputable def Γ_rcompare : List (FuncId × FX) := (64, c_rcompare) :: Γ_rright
theorem ok_rcompare : ΓOk Try.prog Γ_rcompare := ΓOk.cons (c := .pure c_rcompare) s_rcompare ok_rright

noncomputable def c_rsin : FC := fun us => match us with
  | [.v (.one (.int .i64 _ a))] => some (none, .v (.one (.int .i32 false (sinF a))))
  | _ => none
theorem s_rsin : FSound Try.prog 48 c_rsin := by
  refine fsound_calls Try.func48 (by kernel_rfl) (by kernel_rfl) ?_
  intro us p v h hp
  unfold c_rsin at h
  split at h
  · rename_i k0 a
    cases h
    exact ⟨[.int .i64 a], .int .i32 (sinF a), rfl, rfl, fun w => same_ext (rsin_any a w)⟩
  · cases h
noncomputable def Γ_rsin : List (FuncId × FX) := (48, c_rsin) :: Γ_rcompare
theorem ok_rsin : ΓOk Try.prog Γ_rsin := ΓOk.cons (c := .pure c_rsin) s_rsin ok_rcompare

noncomputable def c_rfloor : FC := fun us => match us with
  | [.v (.one (.int .i64 _ a)), .v (.one (.int .i64 _ b))] => some (some (0 < b ∧ b ≤ 1099511627776 ∧ -4611686018427387904 ≤ a ∧ a ≤ 4611686018427387904), .v (.one (.int .i64 false (a / b))))
  | _ => none
theorem s_rfloor : FSound Try.prog 40 c_rfloor := by
  refine fsound_calls Try.func40 (by kernel_rfl) (by kernel_rfl) ?_
  intro us p v h hp
  unfold c_rfloor at h
  split at h
  · rename_i k0 a k1 b
    cases h
    have hp : 0 < b ∧ b ≤ 1099511627776 ∧ -4611686018427387904 ≤ a ∧ a ≤ 4611686018427387904 := hp
    exact ⟨[.int .i64 a, .int .i64 b], .int .i64 (a / b), rfl, rfl, fun w => by have h := rfloor_any a b w hp.1 hp.2.1 hp.2.2; rw [Int.fdiv_eq_ediv_of_nonneg _ (by omega)] at h; exact same_ext h⟩
  · cases h
noncomputable def Γ_rfloor : List (FuncId × FX) := (40, c_rfloor) :: Γ_rsin
theorem ok_rfloor : ΓOk Try.prog Γ_rfloor := ΓOk.cons (c := .pure c_rfloor) s_rfloor ok_rsin

noncomputable def c_rbetween : FC := fun us => match us with
  | [.v (.one (.int .i64 _ n)), .v (.one (.int .i64 _ l)), .v (.one (.int .i64 _ m))] => some (some (l ≤ m), .v (.one (.int .i64 false (wi n l m))))
  | _ => none
theorem s_rbetween : FSound Try.prog 39 c_rbetween := by
  refine fsound_calls Try.func39 (by kernel_rfl) (by kernel_rfl) ?_
  intro us p v h hp
  unfold c_rbetween at h
  split at h
  · rename_i k0 n k1 l k2 m
    cases h
    have hp : l ≤ m := hp
    exact ⟨[.int .i64 n, .int .i64 l, .int .i64 m], .int .i64 (wi n l m), rfl, rfl, fun w => same_ext (between_any n l m w hp)⟩
  · cases h
noncomputable def Γ_rbetween : List (FuncId × FX) := (39, c_rbetween) :: Γ_rfloor
theorem ok_rbetween : ΓOk Try.prog Γ_rbetween := ΓOk.cons (c := .pure c_rbetween) s_rbetween ok_rfloor

noncomputable def c_rthrow : FC := fun us => match us with
  | [.v (.one (.int .u32 _ a)), .v (.one (.int .i64 _ n))] => some (some ((0 ≤ a ∧ a ≤ 4294967295) ∧ (1 ≤ n ∧ n ≤ 65536)), .tup [.one (.int .u32 false (nx a)), .one (.int .i64 false (th a n))])
  | _ => none
theorem s_rthrow : FSound Try.prog 30 c_rthrow := by
  refine fsound_calls Try.func30 (by kernel_rfl) (by kernel_rfl) ?_
  intro us p v h hp
  unfold c_rthrow at h
  split at h
  · rename_i k0 a k1 n
    cases h
    have hp : (0 ≤ a ∧ a ≤ 4294967295) ∧ (1 ≤ n ∧ n ≤ 65536) := hp
    exact ⟨[.int .u32 a, .int .i64 n], .tuple #[.int .u32 (nx a), .int .i64 (th a n)], rfl, rfl, fun w => rthrow_any a n w hp.1.1 hp.1.2 hp.2.1 hp.2.2⟩
  · cases h
noncomputable def Γ_rthrow : List (FuncId × FX) := (30, c_rthrow) :: Γ_rbetween
theorem ok_rthrow : ΓOk Try.prog Γ_rthrow := ΓOk.cons (c := .pure c_rthrow) s_rthrow ok_rbetween

noncomputable def c_rscaleV : FC := fun us => match us with
  | [.v (.agg [.int .i32 _ a, .int .i32 _ b]), .v (.one (.int .i32 _ c))] => some (some ((-2147483648 ≤ a ∧ a ≤ 2147483647) ∧ (-2147483648 ≤ b ∧ b ≤ 2147483647) ∧ (-2147483648 ≤ c ∧ c ≤ 2147483647)), .v (.agg [.int .i32 false (mulF a c), .int .i32 false (mulF b c)]))
  | _ => none
theorem s_rscaleV : FSound Try.prog 31 c_rscaleV := by
  refine fsound_calls Try.func31 (by kernel_rfl) (by kernel_rfl) ?_
  intro us p v h hp
  unfold c_rscaleV at h
  split at h
  · rename_i k0 a k1 b k2 c
    cases h
    have hp : (-2147483648 ≤ a ∧ a ≤ 2147483647) ∧ (-2147483648 ≤ b ∧ b ≤ 2147483647) ∧ (-2147483648 ≤ c ∧ c ≤ 2147483647) := hp
    exact ⟨[.agg #[.int .i32 a, .int .i32 b], .int .i32 c], .agg #[.int .i32 (mulF a c), .int .i32 (mulF b c)], rfl, rfl, fun w => rscaleV_any a b c w hp.1 hp.2.1 hp.2.2⟩
  · cases h
noncomputable def Γ_rscaleV : List (FuncId × FX) := (31, c_rscaleV) :: Γ_rthrow
theorem ok_rscaleV : ΓOk Try.prog Γ_rscaleV := ΓOk.cons (c := .pure c_rscaleV) s_rscaleV ok_rthrow

noncomputable def c_rplus : FC := fun us => match us with
  | [.v (.agg [.int .i32 _ a, .int .i32 _ b]), .v (.agg [.int .i32 _ c, .int .i32 _ d])] => some (some ((-2147483648 ≤ a ∧ a ≤ 2147483647) ∧ (-2147483648 ≤ b ∧ b ≤ 2147483647) ∧ (-2147483648 ≤ c ∧ c ≤ 2147483647) ∧ (-2147483648 ≤ d ∧ d ≤ 2147483647)), .v (.agg [.int .i32 false (sat (a + c)), .int .i32 false (sat (b + d))]))
  | _ => none
theorem s_rplus : FSound Try.prog 32 c_rplus := by
  refine fsound_calls Try.func32 (by kernel_rfl) (by kernel_rfl) ?_
  intro us p v h hp
  unfold c_rplus at h
  split at h
  · rename_i k0 a k1 b k2 c k3 d
    cases h
    have hp : (-2147483648 ≤ a ∧ a ≤ 2147483647) ∧ (-2147483648 ≤ b ∧ b ≤ 2147483647) ∧ (-2147483648 ≤ c ∧ c ≤ 2147483647) ∧ (-2147483648 ≤ d ∧ d ≤ 2147483647) := hp
    exact ⟨[.agg #[.int .i32 a, .int .i32 b], .agg #[.int .i32 c, .int .i32 d]], .agg #[.int .i32 (sat (a + c)), .int .i32 (sat (b + d))], rfl, rfl, fun w => rplus_any a b c d w hp.1 hp.2.1 hp.2.2.1 hp.2.2.2⟩
  · cases h
noncomputable def Γ_rplus : List (FuncId × FX) := (32, c_rplus) :: Γ_rscaleV
theorem ok_rplus : ΓOk Try.prog Γ_rplus := ΓOk.cons (c := .pure c_rplus) s_rplus ok_rscaleV

noncomputable def c_rslow : FC := fun us => match us with
  | [.v (.agg [.int .i32 _ x, .int .i32 _ y]), .v (.one (.int .i32 _ k)), .v (.one (.int .i32 _ m))] => some (some ((-2147483648 ≤ x ∧ x ≤ 2147483647) ∧ (-2147483648 ≤ y ∧ y ≤ 2147483647) ∧ (-2147483648 ≤ k ∧ k ≤ 2147483647) ∧ (-2147483648 ≤ m ∧ m ≤ 2147483647)), .v (.agg [.int .i32 false (slowF x y x k m), .int .i32 false (slowF x y y k m)]))
  | _ => none
theorem s_rslow : FSound Try.prog 34 c_rslow := by
  refine fsound_calls Try.func34 (by kernel_rfl) (by kernel_rfl) ?_
  intro us p v h hp
  unfold c_rslow at h
  split at h
  · rename_i k0 x k1 y k2 k k3 m
    cases h
    have hp : (-2147483648 ≤ x ∧ x ≤ 2147483647) ∧ (-2147483648 ≤ y ∧ y ≤ 2147483647) ∧ (-2147483648 ≤ k ∧ k ≤ 2147483647) ∧ (-2147483648 ≤ m ∧ m ≤ 2147483647) := hp
    exact ⟨[.agg #[.int .i32 x, .int .i32 y], .int .i32 k, .int .i32 m], .agg #[.int .i32 (slowF x y x k m), .int .i32 (slowF x y y k m)], rfl, rfl, fun w => rslow_any x y k m w hp.1 hp.2.1 hp.2.2.1 hp.2.2.2⟩
  · cases h
noncomputable def Γ_rslow : List (FuncId × FX) := (34, c_rslow) :: Γ_rplus
theorem ok_rslow : ΓOk Try.prog Γ_rslow := ΓOk.cons (c := .pure c_rslow) s_rslow ok_rplus

noncomputable def c_rmove : FC := fun us => match us with
  | [.v (.agg [.int .i32 _ px, .int .i32 _ py]), .v (.agg [.int .i32 _ vx, .int .i32 _ vy]), .v (.agg [.int .i32 _ lx, .int .i32 _ ly, .int .i32 _ ux, .int .i32 _ uy])] => some (some ((-2147483648 ≤ px ∧ px ≤ 2147483647) ∧ (-2147483648 ≤ py ∧ py ≤ 2147483647) ∧ (-2147483648 ≤ vx ∧ vx ≤ 2147483647) ∧ (-2147483648 ≤ vy ∧ vy ≤ 2147483647) ∧ (-2147483648 ≤ lx ∧ lx ≤ 2147483647) ∧ (-2147483648 ≤ ly ∧ ly ≤ 2147483647) ∧ (-2147483648 ≤ ux ∧ ux ≤ 2147483647) ∧ (-2147483648 ≤ uy ∧ uy ≤ 2147483647) ∧ lx ≤ ux ∧ ly ≤ uy), .tup [.agg [.int .i32 false (wq px vx lx ux), .int .i32 false (wq py vy ly uy)], .agg [.int .i32 false (wv px vx lx ux), .int .i32 false (wv py vy ly uy)], .one (.int .i64 false (wk px vx lx ux 1 2 + wk py vy ly uy 4 8))])
  | _ => none
theorem s_rmove : FSound Try.prog 35 c_rmove := by
  refine fsound_calls Try.func35 (by kernel_rfl) (by kernel_rfl) ?_
  intro us p v h hp
  unfold c_rmove at h
  split at h
  · rename_i k0 px k1 py k2 vx k3 vy k4 lx k5 ly k6 ux k7 uy
    cases h
    have hp : (-2147483648 ≤ px ∧ px ≤ 2147483647) ∧ (-2147483648 ≤ py ∧ py ≤ 2147483647) ∧ (-2147483648 ≤ vx ∧ vx ≤ 2147483647) ∧ (-2147483648 ≤ vy ∧ vy ≤ 2147483647) ∧ (-2147483648 ≤ lx ∧ lx ≤ 2147483647) ∧ (-2147483648 ≤ ly ∧ ly ≤ 2147483647) ∧ (-2147483648 ≤ ux ∧ ux ≤ 2147483647) ∧ (-2147483648 ≤ uy ∧ uy ≤ 2147483647) ∧ lx ≤ ux ∧ ly ≤ uy := hp
    exact ⟨[.agg #[.int .i32 px, .int .i32 py], .agg #[.int .i32 vx, .int .i32 vy], .agg #[.int .i32 lx, .int .i32 ly, .int .i32 ux, .int .i32 uy]], .tuple #[.agg #[.int .i32 (wq px vx lx ux), .int .i32 (wq py vy ly uy)], .agg #[.int .i32 (wv px vx lx ux), .int .i32 (wv py vy ly uy)], .int .i64 (wk px vx lx ux 1 2 + wk py vy ly uy 4 8)], rfl, rfl, fun w => rmove_any px py vx vy lx ly ux uy w hp.1 hp.2.1 hp.2.2.1 hp.2.2.2.1 hp.2.2.2.2.1 hp.2.2.2.2.2.1 hp.2.2.2.2.2.2.1 hp.2.2.2.2.2.2.2.1 hp.2.2.2.2.2.2.2.2.1 hp.2.2.2.2.2.2.2.2.2⟩
  · cases h
noncomputable def Γ_rmove : List (FuncId × FX) := (35, c_rmove) :: Γ_rslow
theorem ok_rmove : ΓOk Try.prog Γ_rmove := ΓOk.cons (c := .pure c_rmove) s_rmove ok_rslow

noncomputable def c_rtouch : FC := fun us => match us with
  | [.v (.agg [.int .i32 _ px, .int .i32 _ py]), .v (.one (.int .i32 _ r)), .v (.agg [.int .i32 _ qx, .int .i32 _ qy]), .v (.one (.int .i32 _ s))] => some (some ((-2147483648 ≤ px ∧ px ≤ 2147483647) ∧ (-2147483648 ≤ py ∧ py ≤ 2147483647) ∧ (-2147483648 ≤ r ∧ r ≤ 2147483647) ∧ (-2147483648 ≤ qx ∧ qx ≤ 2147483647) ∧ (-2147483648 ≤ qy ∧ qy ≤ 2147483647) ∧ (-2147483648 ≤ s ∧ s ≤ 2147483647)), .v (.one (.bool false (touchB px py r qx qy s))))
  | _ => none
theorem s_rtouch : FSound Try.prog 20 c_rtouch := by
  refine fsound_calls Try.func20 (by kernel_rfl) (by kernel_rfl) ?_
  intro us p v h hp
  unfold c_rtouch at h
  split at h
  · rename_i k0 px k1 py k2 r k3 qx k4 qy k5 s
    cases h
    have hp : (-2147483648 ≤ px ∧ px ≤ 2147483647) ∧ (-2147483648 ≤ py ∧ py ≤ 2147483647) ∧ (-2147483648 ≤ r ∧ r ≤ 2147483647) ∧ (-2147483648 ≤ qx ∧ qx ≤ 2147483647) ∧ (-2147483648 ≤ qy ∧ qy ≤ 2147483647) ∧ (-2147483648 ≤ s ∧ s ≤ 2147483647) := hp
    exact ⟨[.agg #[.int .i32 px, .int .i32 py], .int .i32 r, .agg #[.int .i32 qx, .int .i32 qy], .int .i32 s], .bool (touchB px py r qx qy s), rfl, rfl, fun w => rtouch_any px py r qx qy s w hp.1 hp.2.1 hp.2.2.1 hp.2.2.2.1 hp.2.2.2.2.1 hp.2.2.2.2.2⟩
  · cases h
noncomputable def Γ_rtouch : List (FuncId × FX) := (20, c_rtouch) :: Γ_rmove
theorem ok_rtouch : ΓOk Try.prog Γ_rtouch := ΓOk.cons (c := .pure c_rtouch) s_rtouch ok_rmove

noncomputable def c_rway : FC := fun us => match us with
  | [.v (.one (.int .i64 _ f)), .v (.one (.int .i64 _ n))] => some (some (0 ≤ n ∧ n ≤ 1048576), .v (.agg [.int .i32 false (mulF (sinF (IntKind.i64.wrap (f + 16384))) n), .int .i32 false (mulF (sinF f) n)]))
  | _ => none
theorem nf_rway (f : Int) (n : Int) : goal ⟨Mw, Try.prog, Γ_rtouch, Δ0, B0, none, false, [], none⟩ noL 400 Try.f33 [.v (.one (.int .i64 false f)), .v (.one (.int .i64 false n))] [] (fun r _ => svLe idR r (.v (.agg [.int .i32 false (mulF (sinF (IntKind.i64.wrap (f + 16384))) n), .int .i32 false (mulF (sinF f) n)]))) = ((((-2147483648 : Int) ≤ sinF (IntKind.i64.wrap (f + (16384 : Int))) ∧ sinF (IntKind.i64.wrap (f + (16384 : Int))) ≤ (2147483647 : Int)) ∧ ((-2147483648 : Int) ≤ sinF f ∧ sinF f ≤ (2147483647 : Int)) ∧ (-2147483648 : Int) ≤ IntKind.i32.wrap n ∧ IntKind.i32.wrap n ≤ (2147483647 : Int)) ∧ mulF (sinF (IntKind.i64.wrap (f + (16384 : Int)))) (IntKind.i32.wrap n) = mulF (sinF (IntKind.i64.wrap (f + (16384 : Int)))) n ∧ mulF (sinF f) (IntKind.i32.wrap n) = mulF (sinF f) n) := by kernel_rfl
theorem s_rway : FSound Try.prog 33 c_rway := by
  refine fsound_of (Ctx.ok_of2 (M := Mw) (N := []) mixedA ok_rtouch okD0 okB0) Try.func33 (by kernel_rfl) (by kernel_rfl) ?_
  intro us p v h hp
  unfold c_rway at h
  split at h
  · rename_i k0 f k1 n
    cases h
    have hp : 0 ≤ n ∧ n ≤ 1048576 := hp
    refine ⟨rfl, noL, 400, [.v (.one (.int .i64 false f)), .v (.one (.int .i64 false n))], by simp [tmLe, svLe, vLe, lfLe, lfsLe, ifB, nmIs, idR], rfl, ?_⟩
    rw [nf_rway]
    have a1 := sinF_bd (IntKind.i64.wrap (f + 16384))
    have a2 := sinF_bd f
    have a3 : IntKind.i32.wrap n = n := wrap_in (by simp only [inR, klo, khi]; omega)
    rw [a3]
    refine ⟨⟨by omega, by omega, by omega⟩, rfl, rfl⟩
  · cases h
noncomputable def Γ_rway : List (FuncId × FX) := (33, c_rway) :: Γ_rtouch
theorem ok_rway : ΓOk Try.prog Γ_rway := ΓOk.cons (c := .pure c_rway) s_rway ok_rtouch

noncomputable def c_rfresh : FC := fun us => match us with
  | [.v (.one (.int .i64 _ i))] => some (none, .v (.agg [.int .i32 false ((if i = 0 then -2097152 else 2097152)), .int .i32 false (0), .int .i32 false (0), .int .i32 false (0), .int .i64 false ((if i = 0 then 0 else 32768)), .int .i64 false (3), .int .i64 false (0), .int .i64 false (0), .int .i64 false (0), .int .i64 false (0)]))
  | _ => none
theorem nf_rfresh (i : Int) : goal ⟨Mx, Try.prog, Γ_rway, Δ0, B0, none, false, [], none⟩ noL 400 Try.f23 [.v (.one (.int .i64 false i))] [] (fun r _ => svLe idR r (.v (.agg [.int .i32 false ((if i = 0 then -2097152 else 2097152)), .int .i32 false (0), .int .i32 false (0), .int .i32 false (0), .int .i64 false ((if i = 0 then 0 else 32768)), .int .i64 false (3), .int .i64 false (0), .int .i64 false (0), .int .i64 false (0), .int .i64 false (0)]))) = (((i == (0 : Int)) = true → (((-32768 : Int) ≤ (-32 : Int) ∧ (-32 : Int) ≤ (32767 : Int)) ∧ (-32768 : Int) ≤ (0 : Int) ∧ (0 : Int) ≤ (32767 : Int)) ∧ ((-2097152 : Int) = if i = (0 : Int) then (-2097152 : Int) else (2097152 : Int)) ∧ (0 : Int) = (0 : Int) ∧ (0 : Int) = (0 : Int) ∧ (0 : Int) = (0 : Int) ∧ ((0 : Int) = if i = (0 : Int) then (0 : Int) else (32768 : Int)) ∧ (3 : Int) = (3 : Int) ∧ (0 : Int) = (0 : Int) ∧ (0 : Int) = (0 : Int) ∧ (0 : Int) = (0 : Int) ∧ (0 : Int) = (0 : Int)) ∧ ((i == (0 : Int)) = false → (((-32768 : Int) ≤ (32 : Int) ∧ (32 : Int) ≤ (32767 : Int)) ∧ (-32768 : Int) ≤ (0 : Int) ∧ (0 : Int) ≤ (32767 : Int)) ∧ ((2097152 : Int) = if i = (0 : Int) then (-2097152 : Int) else (2097152 : Int)) ∧ (0 : Int) = (0 : Int) ∧ (0 : Int) = (0 : Int) ∧ (0 : Int) = (0 : Int) ∧ ((32768 : Int) = if i = (0 : Int) then (0 : Int) else (32768 : Int)) ∧ (3 : Int) = (3 : Int) ∧ (0 : Int) = (0 : Int) ∧ (0 : Int) = (0 : Int) ∧ (0 : Int) = (0 : Int) ∧ (0 : Int) = (0 : Int))) := by kernel_rfl
theorem s_rfresh : FSound Try.prog 23 c_rfresh := by
  refine fsound_of (Ctx.ok_of2 (M := Mx) (N := []) mixedA ok_rway okD0 okB0) Try.func23 (by kernel_rfl) (by kernel_rfl) ?_
  intro us p v h hp
  unfold c_rfresh at h
  split at h
  · rename_i k0 i
    cases h
    refine ⟨rfl, noL, 400, [.v (.one (.int .i64 false i))], by simp [tmLe, svLe, vLe, lfLe, lfsLe, ifB, nmIs, idR], rfl, ?_⟩
    rw [nf_rfresh]
    clear hp
    refine ⟨fun h => ?_, fun h => ?_⟩
    · have h := eq_of_beq h
      simp [h]
    · have h : ¬ i = 0 := by simpa using h
      simp [h]
  · cases h
noncomputable def Γ_rfresh : List (FuncId × FX) := (23, c_rfresh) :: Γ_rway
theorem ok_rfresh : ΓOk Try.prog Γ_rfresh := ΓOk.cons (c := .pure c_rfresh) s_rfresh ok_rway

end Go.Proofs.Ytceffompldihjaa
