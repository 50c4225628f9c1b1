/- WHAT dice.Skip COMPUTES: so many steps on. Conditions: arguments within their kinds. Own work. -/
import Derived.Test.YtljnddhldjaglaaSkip
import Derived.OwnWalk
import Derived.OpenShut
namespace Go.Proofs.Ytljnddhldjaglaa
open Go.RowKit
set_option linter.unusedVariables false
set_option maxRecDepth 100000

theorem u64_odd (m : Nat) (h : (m : Int) ≤ 18446744073709551615) : bits .and .u64 (m : Int) 1 = ((m % 2 : Nat) : Int) := by
  have := u64_and_nat m 1 (by omega) (by omega)
  simp only [Nat.and_one_is_mod] at this
  exact this

theorem half_odd (j d m N : Nat) (h : j + m * d = N) (h1 : m % 2 = 1) : j + d + m / 2 * (d + d) = N := by
  have e : m = 2 * (m / 2) + 1 := by omega
  rw [← h]
  generalize m / 2 = k at *
  subst e
  rw [Nat.add_mul, Nat.mul_add, Nat.mul_comm 2 k, Nat.mul_assoc, Nat.two_mul, Nat.mul_add]
  omega
theorem half_even (j d m N : Nat) (h : j + m * d = N) (h1 : m % 2 = 0) : j + m / 2 * (d + d) = N := by
  have e : m = 2 * (m / 2) := by omega
  rw [← h]
  generalize m / 2 = k at *
  subst e
  rw [Nat.mul_add, Nat.mul_comm 2 k, Nat.mul_assoc, Nat.two_mul, Nat.mul_add]

theorem skip_any (a : Int) (N : Nat) (w : World) (hN : (N : Int) ≤ 18446744073709551615) :
    Calls Try.prog 93 #[.int .u32 a, .int .u64 N] w fun e w' => e = .returned (.int .u32 (stp N a)) ∧ Ext w w' := by
  go_enter Try.func93, Try.ntmps93
  go_wp2
  go_loopw [1] (fun n wr => ∃ j d m : Nat, n = .int .u64 m ∧ j + m * d = N ∧ m ≤ N ∧ Ext w wr ∧ w.heap.size + 2 ≤ wr.heap.size ∧
      wr.cell? ⟨w.heap.size, 0, none⟩ = some (.int .u32 (lnT j)) ∧ wr.cell? ⟨w.heap.size, 1, none⟩ = some (.int .u32 (lnP j)) ∧
      wr.cell? ⟨w.heap.size + 1, 0, none⟩ = some (.int .u32 (lnT d)) ∧ wr.cell? ⟨w.heap.size + 1, 1, none⟩ = some (.int .u32 (lnP d)) ∧
      wr.frozen? ⟨w.heap.size, 0, none⟩ = false ∧ wr.frozen? ⟨w.heap.size, 1, none⟩ = false ∧ wr.frozen? ⟨w.heap.size + 1, 0, none⟩ = false ∧ wr.frozen? ⟨w.heap.size + 1, 1, none⟩ = false)
    (fun n _ => (intOf n).toNat)
  case atStart =>
    refine ⟨0, 1, N, rfl, by omega, by omega, ?_, ?_, ?_, ?_, ?_, ?_, ?_, ?_, ?_, ?_⟩
    · (repeat' (first | (with_reducible assumption) | (with_reducible exact Ext.refl _) | (with_reducible refine Ext.grow ?_ _) | (with_reducible refine Ext.drew ?_) | (with_reducible refine Ext.set ?_ ?_ _) | omega | (simp; done) | (simp; omega) | (refine Ext.trans ?_ (by assumption))))
    all_goals (simp [go_sem, lnT, lnP]; done)
  case round =>
    obtain ⟨j, d, m, rfl, hj, hm, hx0, hsz, c0, c1, c2, c3, f0, f1, f2, f3⟩ := hrel
    by_cases h0 : m = 0
    · subst h0
      obtain rfl : j = N := by omega
      go_wp2_with (go_at_call 99; refine (lineOf_any _ _ _ _).mono ?_; rintro e wx ⟨rfl, hx⟩)
      go_ret
      exact ⟨rfl, by (repeat' (first | (with_reducible assumption) | (with_reducible exact Ext.refl _) | (with_reducible refine Ext.grow ?_ _) | (with_reducible refine Ext.drew ?_) | (with_reducible refine Ext.set ?_ ?_ _) | omega | (simp; done) | (simp; omega) | (refine Ext.trans ?_ (by assumption))))⟩
    · have hm0 : 0 < m := by omega
      have hand := u64_odd m (by omega)
      by_cases h1 : m % 2 = 1
      · have hb : (bits .and .u64 (m : Int) 1 == 1) = true := by rw [hand, h1]; rfl
        have hh := Lib.hid h1
        clear h1 hand h0
        go_wp2_with fail
        refine (lineThen_any _ _ _ _ _).mono ?_
        rintro e w1 ⟨rfl, x1⟩
        have hx1 := hx0.trans x1
        have hs1 := x1.size
        replace c0 := (Ext.cell x1 (by dsimp only; omega)).trans c0
        replace c1 := (Ext.cell x1 (by dsimp only; omega)).trans c1
        replace c2 := (Ext.cell x1 (by dsimp only; omega)).trans c2
        replace c3 := (Ext.cell x1 (by dsimp only; omega)).trans c3
        replace f0 := (Ext.frozen x1 (by dsimp only; omega)).trans f0
        replace f1 := (Ext.frozen x1 (by dsimp only; omega)).trans f1
        replace f2 := (Ext.frozen x1 (by dsimp only; omega)).trans f2
        replace f3 := (Ext.frozen x1 (by dsimp only; omega)).trans f3
        go_wp2_with fail
        refine calls_abs (fun W => Ext w W ∧ w.heap.size + 2 ≤ W.heap.size ∧
          W.cell? ⟨w.heap.size, 0, none⟩ = some (.int .u32 (lnT (j + d))) ∧ W.cell? ⟨w.heap.size, 1, none⟩ = some (.int .u32 (lnP (j + d))) ∧
          W.cell? ⟨w.heap.size + 1, 0, none⟩ = some (.int .u32 (lnT d)) ∧ W.cell? ⟨w.heap.size + 1, 1, none⟩ = some (.int .u32 (lnP d)) ∧
          W.frozen? ⟨w.heap.size, 0, none⟩ = false ∧ W.frozen? ⟨w.heap.size, 1, none⟩ = false ∧ W.frozen? ⟨w.heap.size + 1, 0, none⟩ = false ∧ W.frozen? ⟨w.heap.size + 1, 1, none⟩ = false) ?_ ?_
        · rw [lnT_add, lnP_add]
          refine ⟨by (repeat' (first | (with_reducible assumption) | (with_reducible exact Ext.refl _) | (with_reducible refine Ext.grow ?_ _) | (with_reducible refine Ext.drew ?_) | (with_reducible refine Ext.set ?_ ?_ _) | omega | (simp; done) | (simp; omega) | (refine Ext.trans ?_ (by assumption)))), by simp; omega, ?_, ?_, ?_, ?_, ?_, ?_, ?_, ?_⟩ <;> (go_simp; done)
        clear c0 c1 c2 c3 f0 f1 f2 f3 x1 hx0 hx1 hs1
        rintro W ⟨hx0, hsz', c0, c1, c2, c3, f0, f1, f2, f3⟩
        refine (lineThen_any _ _ _ _ _).mono ?_
        rintro e w2 ⟨rfl, x2⟩
        have hx2 := hx0.trans x2
        have hs2 := x2.size
        replace c0 := (Ext.cell x2 (by dsimp only; omega)).trans c0
        replace c1 := (Ext.cell x2 (by dsimp only; omega)).trans c1
        replace c2 := (Ext.cell x2 (by dsimp only; omega)).trans c2
        replace c3 := (Ext.cell x2 (by dsimp only; omega)).trans c3
        replace f0 := (Ext.frozen x2 (by dsimp only; omega)).trans f0
        replace f1 := (Ext.frozen x2 (by dsimp only; omega)).trans f1
        replace f2 := (Ext.frozen x2 (by dsimp only; omega)).trans f2
        replace f3 := (Ext.frozen x2 (by dsimp only; omega)).trans f3
        have hdd := half_odd j d m N hj hh.out
        go_wp2
        go_roundw
        case rel =>
          refine ⟨j + d, d + d, m / 2, by go_num, hdd, by omega, by (repeat' (first | (with_reducible assumption) | (with_reducible exact Ext.refl _) | (with_reducible refine Ext.grow ?_ _) | (with_reducible refine Ext.drew ?_) | (with_reducible refine Ext.set ?_ ?_ _) | omega | (simp; done) | (simp; omega) | (refine Ext.trans ?_ (by assumption)))), by simp; omega, ?_, ?_, ?_, ?_, ?_, ?_, ?_, ?_⟩ <;> first | (go_simp; done) | (rw [lnT_add, lnP_add]; go_simp; done) | (rw [lnT_add]; go_simp; done) | (rw [lnP_add]; go_simp; done)
        case measure => simp [intOf]; omega
      · have hb : (bits .and .u64 (m : Int) 1 == 1) = false := by rw [hand, show m % 2 = 0 by omega]; rfl
        have hh := Lib.hid (show m % 2 = 0 by omega)
        clear h1 hand h0
        go_wp2_with fail
        refine (lineThen_any _ _ _ _ _).mono ?_
        rintro e w2 ⟨rfl, x2⟩
        have hx2 := hx0.trans x2
        have hs2 := x2.size
        replace c0 := (Ext.cell x2 (by dsimp only; omega)).trans c0
        replace c1 := (Ext.cell x2 (by dsimp only; omega)).trans c1
        replace c2 := (Ext.cell x2 (by dsimp only; omega)).trans c2
        replace c3 := (Ext.cell x2 (by dsimp only; omega)).trans c3
        replace f0 := (Ext.frozen x2 (by dsimp only; omega)).trans f0
        replace f1 := (Ext.frozen x2 (by dsimp only; omega)).trans f1
        replace f2 := (Ext.frozen x2 (by dsimp only; omega)).trans f2
        replace f3 := (Ext.frozen x2 (by dsimp only; omega)).trans f3
        have hdd := half_even j d m N hj hh.out
        go_wp2
        go_roundw
        case rel =>
          refine ⟨j, d + d, m / 2, by go_num, hdd, by omega, by (repeat' (first | (with_reducible assumption) | (with_reducible exact Ext.refl _) | (with_reducible refine Ext.grow ?_ _) | (with_reducible refine Ext.drew ?_) | (with_reducible refine Ext.set ?_ ?_ _) | omega | (simp; done) | (simp; omega) | (refine Ext.trans ?_ (by assumption)))), by simp; omega, ?_, ?_, ?_, ?_, ?_, ?_, ?_, ?_⟩ <;> first | (go_simp; done) | (rw [lnT_add]; go_simp; done) | (rw [lnP_add]; go_simp; done)
        case measure => simp [intOf]; omega

end Go.Proofs.Ytljnddhldjaglaa
