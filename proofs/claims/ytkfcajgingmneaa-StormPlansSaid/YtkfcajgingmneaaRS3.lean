/- CHANCE: A THROW, WHAT BECOMES OF A DATAGRAM. Conditions: the contracts' own. Own work; the normal forms were printed by a program of mine (wip/rex). -/
import Derived.Test.YtkfcajgingmneaaRS2
import Derived.Test.YtkfcajgingmneaaDice
namespace Go.Proofs.Ytkfcajgingmneaa
open Go.RowKit Rex
set_option linter.unusedVariables false
set_option linter.unusedSimpArgs false
set_option maxRecDepth 100000


def spoilB (s l d p : Int) : Bool := !(decide (th s 100 < l)) && (!(decide (th s 100 < l + d)) && decide (th s 100 < l + d + p))
/-- chance, ahead of the last throw -/
def dgS (s l d p : Int) : Int := if spoilB s l d p = true then nx (nx (nx s)) else nx s
def dgK (s l d p : Int) : Int := if th s 100 < l then 4 else if th s 100 < l + d then 3 else if th s 100 < l + d + p then 5 else 2
def dgI (s l d p m : Int) : Int := th (dgS s l d p) (m + 1)
def dgA (s l d p : Int) : Int := if spoilB s l d p = true then th (nx s) 200 else 0
def dgB (s l d p : Int) : Int := if spoilB s l d p = true then th (nx (nx s)) 255 + 1 else 0


noncomputable def c_throw : FC := fun us => match us with
  | [.v (.one (.int .u32 _ a)), .v (.one (.int .i64 _ n))] => some (some (1 ≤ n ∧ n ≤ 65536), .tup [.one (.int .u32 false (nx a)), .one (.int .i64 false (th a n)), .one (.int .i64 false (0))])
  | _ => none
theorem s_throw : FSound Try.prog 29 c_throw := by
  refine fsound_calls Try.func29 (by kernel_rfl) (by kernel_rfl) ?_
  intro us p v h hp
  unfold c_throw at h
  split at h
  · rename_i k0 a k1 n
    cases h
    have hp : 1 ≤ n ∧ n ≤ 65536 := hp
    exact ⟨[.int .u32 a, .int .i64 n], .tuple #[.int .u32 (nx a), .int .i64 (th a n), .int .i64 (0)], rfl, rfl, fun w => throw_any a n w hp.1 hp.2⟩
  · cases h
noncomputable def Γ_throw : List (FuncId × FX) := (29, c_throw) :: Γ_tally
theorem ok_throw : ΓOk Try.prog Γ_throw := ΓOk.cons (c := .pure c_throw) s_throw ok_tally

noncomputable def c_rthrow : FC := fun us => match us with
  | [.v (.one (.int .u32 _ a)), .v (.one (.int .i64 _ n))] => some (some ((0 ≤ a ∧ a ≤ 4294967295) ∧ (1 ≤ n ∧ n ≤ 65536)), .tup [.one (.int .u32 false (nx a)), .one (.int .i64 false (th a n))])
  | _ => none
theorem s_rthrow : FSound Try.prog 22 c_rthrow := by
  refine fsound_calls Try.func22 (by kernel_rfl) (by kernel_rfl) ?_
  intro us p v h hp
  unfold c_rthrow at h
  split at h
  · rename_i k0 a k1 n
    cases h
    have hp : (0 ≤ a ∧ a ≤ 4294967295) ∧ (1 ≤ n ∧ n ≤ 65536) := hp
    exact ⟨[.int .u32 a, .int .i64 n], .tuple #[.int .u32 (nx a), .int .i64 (th a n)], rfl, rfl, fun w => rthrow_any a n w hp.1.1 hp.1.2 hp.2.1 hp.2.2⟩
  · cases h
noncomputable def Γ_rthrow : List (FuncId × FX) := (22, c_rthrow) :: Γ_throw
theorem ok_rthrow : ΓOk Try.prog Γ_rthrow := ΓOk.cons (c := .pure c_rthrow) s_rthrow ok_throw

noncomputable def c_cthrow : BC := fun us ls t => match us, ls with
  | [.v (.one (.int .i64 _ n))], [.int .u32 _ s] => match Nat.beq t 53 with
    | true => some (some (1 ≤ n ∧ n ≤ 65536), .v (.one (.int .i64 false (th s n))), [.int .u32 false (nx s)])
    | false => none
  | _, _ => none
theorem nf_cthrow (n : Int) (s : Int) : goal ⟨Mx, Try.prog, Γ_rthrow, Δ_fair, B0, none, false, [], none⟩ noL 400 Try.f28 [.v (.one (.ptr 0 0)), .v (.one (.int .i64 false n))] [some (.cells [.int .u32 false s] 53)] (fun r m' => stLe 1 ⟨[r], m'⟩ ⟨[.v (.one (.int .i64 false (th s n)))], [some (.cells [.int .u32 false (nx s)] 53)]⟩) = (((1 : Int) ≤ n ∧ n ≤ (65536 : Int)) ∧ (th s n = th s n ∧ True) ∧ nx s = nx s ∧ True) := by kernel_rfl
theorem s_cthrow : BSound Try.prog 28 c_cthrow := by
  refine bsound_of (Ctx.ok_of2 (M := Mx) (N := []) mixedA ok_rthrow okD_fair okB0) Try.func28 (by kernel_rfl) (by kernel_rfl) ?_
  intro us ls t p s new h hp
  unfold c_cthrow at h
  split at h
  · rename_i j0 n j1 s
    split at h
    · rename_i ht
      have ht := Nat.eq_of_beq_eq_true ht
      subst ht
      cases h
      have hp : 1 ≤ n ∧ n ≤ 65536 := hp
      refine ⟨⟨rfl, rfl⟩, noL, 400, [.v (.one (.int .i64 false n))], [.int .u32 false s], by simp [tmLe, svLe, vLe, lfLe, lfsLe, ifB, nmIs, idR], by simp [lfLe, lfsLe, ifB, nmIs, idR], rfl, rfl, ?_⟩
      rw [nf_cthrow]
      simp [hp]
    · cases h
  · cases h
noncomputable def B_cthrow : List (FuncId × BC) := (28, c_cthrow) :: B0
theorem okB_cthrow : BOk Try.prog B_cthrow := BOk.cons s_cthrow okB0

noncomputable def c_dgram : BC := fun us ls t => match us, ls with
  | [.v (.agg [.int .i64 _ l, .int .i64 _ d, .int .i64 _ p, .int .i64 _ m]), .v (.one (.int .i64 _ to))], [.int .u32 _ s] => match Nat.beq t 53 with
    | true => some (some ((0 ≤ l ∧ l ≤ 100) ∧ (0 ≤ d ∧ d ≤ 100) ∧ (0 ≤ p ∧ p ≤ 100) ∧ (0 ≤ m ∧ m ≤ 8)), .v (.agg [.int .i64 false (dgK s l d p), .int .i64 false (to), .int .i64 false (dgI s l d p m), .int .i64 false (dgA s l d p), .int .u8 false (dgB s l d p), .int .u8 false (0)]), [.int .u32 false (nx (dgS s l d p))])
    | false => none
  | _, _ => none
theorem nf_dgram (l : Int) (d : Int) (p : Int) (m : Int) (to : Int) (s : Int) : goal ⟨Mx, Try.prog, Γ_rthrow, Δ_fair, B_cthrow, none, false, [], none⟩ noL 400 Try.f26 [.v (.one (.ptr 0 0)), .v (.agg [.int .i64 false l, .int .i64 false d, .int .i64 false p, .int .i64 false m]), .v (.one (.int .i64 false to))] [some (.cells [.int .u32 false s] 53)] (fun r m' => stLe 1 ⟨[r], m'⟩ ⟨[.v (.agg [.int .i64 false (dgK s l d p), .int .i64 false (to), .int .i64 false (dgI s l d p m), .int .i64 false (dgA s l d p), .int .u8 false (dgB s l d p), .int .u8 false (0)])], [some (.cells [.int .u32 false (nx (dgS s l d p))] 53)]⟩) = (((1 : Int) ≤ (100 : Int) ∧ (100 : Int) ≤ (65536 : Int)) ∧ (decide (th s (100 : Int) < l) = true → inR IntKind.i64 (m + (1 : Int)) ∧ ((1 : Int) ≤ m + (1 : Int) ∧ m + (1 : Int) ≤ (65536 : Int)) ∧ (((4 : Int) = dgK s l d p ∧ to = to ∧ th (nx s) (m + (1 : Int)) = dgI s l d p m ∧ (0 : Int) = dgA s l d p ∧ (0 : Int) = dgB s l d p ∧ (0 : Int) = (0 : Int)) ∧ True) ∧ nx (nx s) = nx (dgS s l d p) ∧ True) ∧ (decide (th s (100 : Int) < l) = false → inR IntKind.i64 (l + d) ∧ (decide (th s (100 : Int) < l + d) = true → inR IntKind.i64 (m + (1 : Int)) ∧ ((1 : Int) ≤ m + (1 : Int) ∧ m + (1 : Int) ≤ (65536 : Int)) ∧ (((3 : Int) = dgK s l d p ∧ to = to ∧ th (nx s) (m + (1 : Int)) = dgI s l d p m ∧ (0 : Int) = dgA s l d p ∧ (0 : Int) = dgB s l d p ∧ (0 : Int) = (0 : Int)) ∧ True) ∧ nx (nx s) = nx (dgS s l d p) ∧ True) ∧ (decide (th s (100 : Int) < l + d) = false → inR IntKind.i64 (l + d) ∧ inR IntKind.i64 (l + d + p) ∧ (decide (th s (100 : Int) < l + d + p) = true → ((1 : Int) ≤ (200 : Int) ∧ (200 : Int) ≤ (65536 : Int)) ∧ ((1 : Int) ≤ (255 : Int) ∧ (255 : Int) ≤ (65536 : Int)) ∧ inR IntKind.i64 (th (nx (nx s)) (255 : Int) + (1 : Int)) ∧ inR IntKind.u8 (th (nx (nx s)) (255 : Int) + (1 : Int)) ∧ inR IntKind.i64 (m + (1 : Int)) ∧ ((1 : Int) ≤ m + (1 : Int) ∧ m + (1 : Int) ≤ (65536 : Int)) ∧ (((5 : Int) = dgK s l d p ∧ to = to ∧ th (nx (nx (nx s))) (m + (1 : Int)) = dgI s l d p m ∧ th (nx s) (200 : Int) = dgA s l d p ∧ th (nx (nx s)) (255 : Int) + (1 : Int) = dgB s l d p ∧ (0 : Int) = (0 : Int)) ∧ True) ∧ nx (nx (nx (nx s))) = nx (dgS s l d p) ∧ True) ∧ (decide (th s (100 : Int) < l + d + p) = false → inR IntKind.i64 (m + (1 : Int)) ∧ ((1 : Int) ≤ m + (1 : Int) ∧ m + (1 : Int) ≤ (65536 : Int)) ∧ (((2 : Int) = dgK s l d p ∧ to = to ∧ th (nx s) (m + (1 : Int)) = dgI s l d p m ∧ (0 : Int) = dgA s l d p ∧ (0 : Int) = dgB s l d p ∧ (0 : Int) = (0 : Int)) ∧ True) ∧ nx (nx s) = nx (dgS s l d p) ∧ True)))) := by kernel_rfl
set_option maxHeartbeats 1000000 in
theorem s_dgram : BSound Try.prog 26 c_dgram := by
  refine bsound_of (Ctx.ok_of2 (M := Mx) (N := []) mixedA ok_rthrow okD_fair okB_cthrow) Try.func26 (by kernel_rfl) (by kernel_rfl) ?_
  intro us ls t p s new h hp
  unfold c_dgram at h
  split at h
  · rename_i j0 l j1 d j2 p j3 m j4 to j5 s
    split at h
    · rename_i ht
      have ht := Nat.eq_of_beq_eq_true ht
      subst ht
      cases h
      have hp : (0 ≤ l ∧ l ≤ 100) ∧ (0 ≤ d ∧ d ≤ 100) ∧ (0 ≤ p ∧ p ≤ 100) ∧ (0 ≤ m ∧ m ≤ 8) := hp
      refine ⟨⟨rfl, rfl⟩, noL, 400, [.v (.agg [.int .i64 false l, .int .i64 false d, .int .i64 false p, .int .i64 false m]), .v (.one (.int .i64 false to))], [.int .u32 false s], by simp [tmLe, svLe, vLe, lfLe, lfsLe, ifB, nmIs, idR], by simp [lfLe, lfsLe, ifB, nmIs, idR], rfl, rfl, ?_⟩
      rw [nf_dgram]
      obtain ⟨hl, hd, hpp, hm⟩ := hp
      have t2 := th_bd (nx (nx s)) 255 (by omega) (by omega)
      have hsp : spoilB s l d p = (!(decide (th s 100 < l)) && (!(decide (th s 100 < l + d)) && decide (th s 100 < l + d + p))) := rfl
      unfold dgK dgI dgA dgB dgS
      simp only [true_and, and_true, inR, klo, khi, decide_eq_true_eq, decide_eq_false_iff_not]
      refine ⟨by omega, fun h1 => ?_, fun h1 => ⟨by omega, fun h2 => ?_, fun h2 => ⟨by omega, by omega, fun h3 => ?_, fun h3 => ?_⟩⟩⟩ <;> simp [hsp, *] <;> omega
    · cases h
  · cases h
noncomputable def B_dgram : List (FuncId × BC) := (26, c_dgram) :: B_cthrow
theorem okB_dgram : BOk Try.prog B_dgram := BOk.cons s_dgram okB_cthrow

end Go.Proofs.Ytkfcajgingmneaa
