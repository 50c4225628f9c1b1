/- THE WALK OF 'DiceSkips': its Go text returns true, and leaves memory as it was but for new blocks. Conditions: none but the arguments' kinds. Own work. -/
import Derived.Test.YtnpeldipajgbjaaSkipLoop
import Derived.Test.YtnpeldipajgbjaaDiceNextWalk
namespace Go.Proofs.Ytnpeldipajgbjaa
open Go.RowKit
set_option linter.unusedVariables false
set_option maxRecDepth 100000

/-- the line that is 2^k steps, by doubling -/
def dbl : Nat → Int × Int
  | 0 => (1664525, 1013904223)
  | k + 1 => ((dbl k).1 * (dbl k).1 % 4294967296, ((dbl k).2 * (dbl k).1 + (dbl k).2) % 4294967296)
theorem dbl_eq (k : Nat) : dbl k = (lnT (2 ^ k), lnP (2 ^ k)) := by
  induction k with
  | zero => rfl
  | succ k ih => rw [dbl, ih, Nat.pow_succ, Nat.mul_two, lnT_add, lnP_add]
theorem round_T : lnT 4294967296 = 1 := by
  have h := congrArg Prod.fst (dbl_eq 32)
  rw [show dbl 32 = (1, 0) by decide +kernel] at h
  exact h.symm
theorem round_P : lnP 4294967296 = 0 := by
  have h := congrArg Prod.snd (dbl_eq 32)
  rw [show dbl 32 = (1, 0) by decide +kernel] at h
  exact h.symm
theorem stp_round (k : Nat) (s : Int) : stp (k + 4294967296) s = stp k s := by
  unfold stp
  rw [lnT_add, lnP_add, round_T, round_P]
  have h : 0 ≤ lnT k ∧ lnT k ≤ 4294967295 := by cases k <;> simp [lnT] <;> omega
  have g : 0 ≤ lnP k ∧ lnP k ≤ 4294967295 := by cases k <;> simp [lnP] <;> omega
  rw [show lnT k * 1 % 4294967296 = lnT k by omega, show (lnP k * 1 + 0) % 4294967296 = lnP k by omega]
theorem stp_rounds (q k : Nat) (s : Int) : stp (k + q * 4294967296) s = stp k s := by
  induction q with
  | zero => simp
  | succ q ih => rw [Nat.succ_mul, ← Nat.add_assoc, stp_round, ih]
theorem stp_wrap (n : Nat) (s : Int) : stp (n % 18446744073709551616) s = stp n s := by
  have e : n = n % 18446744073709551616 + (n / 18446744073709551616 * 4294967296) * 4294967296 := by omega
  conv => rhs; rw [e]
  rw [stp_rounds]

theorem DiceSkips_walk (a n m f : Int) (wa : (Lit.int .u32 a).wf = true) (wn : (Lit.int .u64 n).wf = true) (wm : (Lit.int .u64 m).wf = true) (wf : (Lit.int .u8 f).wf = true) (w : World) :
    Calls Try.prog 5 #[.int .u32 a, .int .u64 n, .int .u64 m, .int .u8 f] w fun e w' => e = .returned (.bool true) ∧ Ext w w' := by
  have ha := bounds_u32 wa
  have hn := bounds_u64 wn
  have hm := bounds_u64 wm
  have hf := bounds_u8 wf
  clear wa wn wm wf
  obtain ⟨n, rfl⟩ := Int.eq_ofNat_of_zero_le hn.1
  obtain ⟨m, rfl⟩ := Int.eq_ofNat_of_zero_le hm.1
  obtain ⟨f, rfl⟩ := Int.eq_ofNat_of_zero_le hf.1
  have hf2 : (f : Int) ≤ 255 := hf.2
  go_enter Try.func5, Try.ntmps5
  go_wp2_with (go_at_call 15; refine (awake09 _).mono ?_; rintro e w0 ⟨rfl, hx0⟩)
  go_loopw [9, 10] (fun x i wr => ∃ k : Nat, k ≤ f ∧ i = .int .i64 k ∧ x = .int .u32 (stp k a) ∧ Ext w wr) (fun _ i _ => f - (intOf i).toNat)
  case atStart => exact ⟨0, by omega, rfl, by rw [stp_zero a ha.1 ha.2], hx0⟩
  case round =>
    obtain ⟨k, hk, rfl, rfl, hxr⟩ := hrel
    have hb := stp_bd k a
    have hs := Lib.hid (stp_succ k a)
    by_cases hlt : k < f
    · go_wp2_with (go_at_call 17; refine (rnext_any _ _ (by omega) (by omega)).mono ?_; rintro e wx ⟨rfl, hx⟩)
      go_roundw
      case rel => exact ⟨k + 1, by omega, by go_num, by rw [hs.out], hxr.trans hx⟩
      case measure => simp [intOf]; omega
    · obtain rfl : k = f := by omega
      clear hs
      have h1 : stp m (stp n a) = stp (n + m) a := stp_add n m a
      have h2 := stp_wrap (n + m) a
      have h3 : stp 4294967296 a = a := by have := stp_round 0 a; rw [Nat.zero_add] at this; rw [this, stp_zero a ha.1 ha.2]
      have t1 := Lib.hid h1
      have t2 := Lib.hid h2
      have t3 := Lib.hid h3
      clear h1 h2 h3
      go_wp2_with fail
      refine (skip_any _ _ _ (by omega)).mono ?_
      rintro e w1 ⟨rfl, x1⟩
      go_wp2_with fail
      refine (skip_any _ _ _ (by omega)).mono ?_
      rintro e w2 ⟨rfl, x2⟩
      go_wp2_with fail
      refine (skip_any _ _ _ (by omega)).mono ?_
      rintro e w3 ⟨rfl, x3⟩
      go_wp2_with fail
      rw [show (IntKind.u64.wrap ((n : Int) + m)) = (((n + m) % 18446744073709551616 : Nat) : Int) by rw [IntKind.wrap_u64]; omega]
      refine (skip_any _ _ _ (by omega)).mono ?_
      rintro e w4 ⟨rfl, x4⟩
      rw [t1.out, t2.out]
      go_wp2_with fail
      refine (skip_any a 4294967296 _ (by omega)).mono ?_
      rintro e w5 ⟨rfl, x5⟩
      rw [t3.out]
      go_wp2
      go_ret
      exact ⟨rfl, by (repeat' (first | (with_reducible assumption) | (with_reducible exact Ext.refl _) | (with_reducible refine Ext.grow ?_ _) | (with_reducible refine Ext.drew ?_) | (with_reducible refine Ext.set ?_ ?_ _) | omega | (simp; done) | (simp; omega) | (refine Ext.trans ?_ (by assumption))))⟩

end Go.Proofs.Ytnpeldipajgbjaa
