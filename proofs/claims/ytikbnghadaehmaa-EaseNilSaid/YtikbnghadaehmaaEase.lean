/- WHAT ease.Less, ease.Ticks AND THE REFERENCE's Less COMPUTE; THE WALK OF 'EaseLess'. Conditions: none but the arguments' kinds. Own work. -/
import Derived.Test.YtikbnghadaehmaaEaseNum
import Derived.Test.YtikbnghadaehmaaFixed2
import Derived.OwnWalk
namespace Go.Proofs.Ytikbnghadaehmaa
open Go.RowKit
set_option linter.unusedVariables false
set_option maxRecDepth 100000

theorem less_any (n : Int) (w : World) (hn : -2147483648 ≤ n ∧ n ≤ 2147483647) :
    Calls Try.prog 15 #[.int .i32 n] w fun e w' => e = .returned (.int .i32 (lessF n)) ∧ w = w' := by
  by_cases c1 : 0 < n
  · go_enter Try.func15, Try.ntmps15
    go_wp2_with (first | (go_at_call 56; refine (sat_any _ _).mono ?_; rintro e wx ⟨rfl, rfl⟩))
    all_goals (go_ret; exact ⟨ret_int (less_pos _ _ c1 (by omega)), rfl⟩)
  · by_cases c2 : n < 0
    · have d : -n / 8 ≤ 268435456 := by omega
      go_enter Try.func15, Try.ntmps15
      go_wp2_with (first | (go_at_call 56; refine (sat_any _ _).mono ?_; rintro e wx ⟨rfl, rfl⟩))
      all_goals (go_ret; exact ⟨ret_int (less_neg _ _ c2 (by unfold sat; omega)), rfl⟩)
    · go_enter Try.func15, Try.ntmps15
      go_wp2_with (first | (go_at_call 56; refine (sat_any _ _).mono ?_; rintro e wx ⟨rfl, rfl⟩))
      go_ret
      exact ⟨ret_int (less_nil _ (by omega) (by omega)), rfl⟩

theorem rless_any (n : Int) (w : World) (hn : -2147483648 ≤ n ∧ n ≤ 2147483647) :
    Calls Try.prog 16 #[.int .i32 n] w fun e w' => e = .returned (.int .i32 (lessF n)) ∧ w = w' := by
  by_cases c1 : n < 0
  · have q : n.tdiv 8 = -(-n / 8) := by rw [← Int.tdiv_eq_ediv_of_nonneg (by omega), Int.neg_tdiv]; omega
    have d : -n / 8 ≤ 268435456 := by omega
    by_cases c2 : -n / 8 = 0
    · have c3 : (-n / 8 == 0) = true := beq_iff_eq.2 c2
      have c4 := Lib.hid c2
      clear c2
      go_enter Try.func16, Try.ntmps16
      go_wp2
      go_ret
      exact ⟨ret_int (less_neg _ _ c1 (by have := c4.out; omega)), rfl⟩
    · have c3 : (-n / 8 == 0) = false := beq_eq_false_iff_ne.2 c2
      go_enter Try.func16, Try.ntmps16
      go_wp2
      go_ret
      exact ⟨ret_int (less_neg _ _ c1 (by omega)), rfl⟩
  · by_cases c0 : n = 0
    · subst c0
      go_enter Try.func16, Try.ntmps16
      go_wp2
      go_ret
      exact ⟨ret_int (less_nil _ (by omega) (by omega)), rfl⟩
    · have c0' : 0 < n := by omega
      by_cases c2 : n / 8 = 0
      · have c3 : (n / 8 == 0) = true := beq_iff_eq.2 c2
        have c4 := Lib.hid c2
        clear c2
        go_enter Try.func16, Try.ntmps16
        go_wp2
        go_ret
        exact ⟨ret_int (less_pos _ _ c0' (by have := c4.out; omega)), rfl⟩
      · have c3 : (n / 8 == 0) = false := beq_eq_false_iff_ne.2 c2
        go_enter Try.func16, Try.ntmps16
        go_wp2
        go_ret
        exact ⟨ret_int (less_pos _ _ c0' (by omega)), rfl⟩

theorem ticks_any (n : Int) (w : World) (hn : -2147483648 ≤ n ∧ n ≤ 2147483647) :
    Calls Try.prog 17 #[.int .i32 n] w fun e w' => e = .returned (.int .i64 (tk n)) ∧ w = w' := by
  have hl := tk_le n hn
  go_enter Try.func17, Try.ntmps17
  go_wp2
  go_loop [3, 0] (fun t x => ∃ (k : Nat) (m : Int), t = .int .i64 k ∧ x = .int .i32 m ∧ (-2147483648 ≤ m ∧ m ≤ 2147483647) ∧ k + tk m = tk n) (fun _ x => tk (intOf x))
  case atStart => exact ⟨0, n, rfl, rfl, hn, by omega⟩
  case round =>
    obtain ⟨k, m, rfl, rfl, hm, hk⟩ := hrel
    by_cases c : m = 0
    · have c1 : (m != 0) = false := by rw [c]; rfl
      have hk2 := Lib.hid (show k = tk n by rw [c, tk_zero] at hk; exact hk)
      clear c hk
      go_wp2
      go_ret
      exact ⟨ret_int (by rw [hk2.out]), rfl⟩
    · have c1 : (m != 0) = true := bne_iff_ne.2 c
      have hs := tk_step m c
      have hb := less_bd m hm
      have hk2 : k ≤ 200 := by omega
      have h3 := Lib.hid (show k + 1 + tk (lessF m) = tk n by omega)
      have h4 : tk (lessF m) < tk m := by omega
      clear hs hk c
      go_wp2_with (first | (go_at_call 15; refine (less_any _ _ (by omega)).mono ?_; rintro e wx ⟨rfl, rfl⟩))
      go_round
      case rel => exact ⟨k + 1, lessF m, by go_num, rfl, hb, h3.out⟩
      case measure => simp [intOf]; omega

theorem awake23 (w : World) : Calls Try.prog 14 #[] w fun e w' => e = .returned (.bool true) ∧ w = w' := by
  have h1 : (lessF 80 == 70) = true := by decide
  have h2 : (lessF 3 == 2) = true := by decide
  go_enter Try.func14, Try.ntmps14
  go_wp2_with (first | (go_at_call 15; refine (less_any _ _ (by omega)).mono ?_; rintro e wx ⟨rfl, rfl⟩))
  go_ret
  exact ⟨rfl, rfl⟩

set_option maxHeartbeats 1000000 in
theorem EaseLess_core (n : Int) (w : World) (hn : -2147483648 ≤ n ∧ n ≤ 2147483647) (c : (0 < n ∧ 0 ≤ lessF n ∧ lessF n < n) ∨ (n < 0 ∧ lessF n ≤ 0 ∧ n < lessF n) ∨ (n = 0 ∧ lessF n = 0)) :
    Calls Try.prog 3 #[.int .i32 n] w fun e w' => e = .returned (.bool true) ∧ Ext w w' := by
  have hl := tk_le n hn
  rcases c with ⟨c1, c2, c3⟩ | ⟨c1, c2, c3⟩ | ⟨c1, c2⟩
  rotate_left 2
  · subst c1
    clear c2
    have c2 : (lessF 0 != 0) = false := rfl
    clear hl
    have hl : tk 0 = 0 := rfl
    replace hl := Lib.hid hl
    go_enter Try.func3, Try.ntmps3
    go_wp2_with (first | (go_at_call 14; refine (awake23 _).mono ?_; rintro e wx ⟨rfl, rfl⟩) | (go_at_call 15; refine (less_any _ _ (by omega)).mono ?_; rintro e wx ⟨rfl, rfl⟩) | (go_at_call 16; refine (rless_any _ _ (by omega)).mono ?_; rintro e wx ⟨rfl, rfl⟩))
    refine wp_loop_rounds 1 ?_
    rw [rounds_succ]
    go_wp2_with fail
    refine (ticks_any _ _ (by omega)).mono ?_
    rintro e wx ⟨rfl, rfl⟩
    rw [hl.out]
    go_wp2
    go_ret
    exact ⟨rfl, Ext.refl _⟩
  all_goals
    go_enter Try.func3, Try.ntmps3
    go_wp2_with (first | (go_at_call 14; refine (awake23 _).mono ?_; rintro e wx ⟨rfl, rfl⟩) | (go_at_call 15; refine (less_any _ _ (by omega)).mono ?_; rintro e wx ⟨rfl, rfl⟩) | (go_at_call 16; refine (rless_any _ _ (by omega)).mono ?_; rintro e wx ⟨rfl, rfl⟩))
    go_loop [4, 5] (fun t x => ∃ (k : Nat) (m : Int), t = .int .i64 k ∧ x = .int .i32 m ∧ (-2147483648 ≤ m ∧ m ≤ 2147483647) ∧ k + tk m = tk n) (fun _ x => tk (intOf x))
    case atStart => exact ⟨0, n, rfl, rfl, hn, by omega⟩
    case round =>
      obtain ⟨k, m, rfl, rfl, hm, hk⟩ := hrel
      by_cases c : m = 0
      · have c1 : (m != 0) = false := by rw [c]; rfl
        have hk2 := Lib.hid (show tk n = k by rw [c, tk_zero] at hk; exact hk.symm)
        clear c hk
        go_wp2_with fail
        refine (ticks_any _ _ (by omega)).mono ?_
        rintro e wx ⟨rfl, rfl⟩
        rw [hk2.out]
        go_wp2
        go_ret
        exact ⟨rfl, Ext.refl _⟩
      · have c1 : (m != 0) = true := bne_iff_ne.2 c
        have hs := tk_step m c
        have hb := less_bd m hm
        have hk2 : k ≤ 200 := by omega
        have h3 := Lib.hid (show k + 1 + tk (lessF m) = tk n by omega)
        have h4 : tk (lessF m) < tk m := by omega
        clear hs hk c
        go_wp2_with (first | (go_at_call 16; refine (rless_any _ _ (by omega)).mono ?_; rintro e wx ⟨rfl, rfl⟩))
        go_round
        case rel => exact ⟨k + 1, lessF m, by go_num, rfl, hb, h3.out⟩
        case measure => simp [intOf]; omega

theorem EaseLess_walk (n : Int) (wn : (Lit.int .i32 n).wf = true) (w : World) :
    Calls Try.prog 3 #[.int .i32 n] w fun e w' => e = .returned (.bool true) ∧ Ext w w' := by
  have hn := bounds_i32 wn
  refine EaseLess_core n w hn ?_
  unfold lessF
  by_cases c1 : 0 < n
  · rw [if_pos c1]; omega
  · by_cases c2 : n < 0
    · rw [if_neg c1, if_pos c2]; omega
    · rw [if_neg c1, if_neg c2]; omega

end Go.Proofs.Ytikbnghadaehmaa
