/- WHAT ease.Less, ease.Ticks AND THE REFERENCE's Less COMPUTE; THE WALK OF 'EaseLess'. Conditions: none but the arguments' kinds. Own work. -/
import Derived.Test.YtlmhklaobfmhbaaEaseNum
import Derived.Test.YtlmhklaobfmhbaaFixed2
import Derived.OwnWalk
namespace Go.Proofs.Ytlmhklaobfmhbaa
open Go.RowKit
set_option linter.unusedVariables false
set_option maxRecDepth 100000

theorem less_any (n : Int) (w : World) (hn : -2147483648 ≤ n ∧ n ≤ 2147483647) :
    Calls Try.prog 58 #[.int .i32 n] w fun e w' => e = .returned (.int .i32 (lessF n)) ∧ w = w' := by
  by_cases c1 : 0 < n
  · go_enter Try.func58, Try.ntmps58
    go_wp2_with (first | (go_at_call 64; refine (sat_any _ _).mono ?_; rintro e wx ⟨rfl, rfl⟩))
    all_goals (go_ret; exact ⟨ret_int (less_pos _ _ c1 (by omega)), rfl⟩)
  · by_cases c2 : n < 0
    · have d : -n / 8 ≤ 268435456 := by omega
      go_enter Try.func58, Try.ntmps58
      go_wp2_with (first | (go_at_call 64; refine (sat_any _ _).mono ?_; rintro e wx ⟨rfl, rfl⟩))
      all_goals (go_ret; exact ⟨ret_int (less_neg _ _ c2 (by unfold sat; omega)), rfl⟩)
    · go_enter Try.func58, Try.ntmps58
      go_wp2_with (first | (go_at_call 64; refine (sat_any _ _).mono ?_; rintro e wx ⟨rfl, rfl⟩))
      go_ret
      exact ⟨ret_int (less_nil _ (by omega) (by omega)), rfl⟩

theorem rlessE_any (n : Int) (w : World) (hn : -2147483648 ≤ n ∧ n ≤ 2147483647) :
    Calls Try.prog 63 #[.int .i32 n] w fun e w' => e = .returned (.int .i32 (lessF n)) ∧ w = w' := by
  by_cases c1 : n < 0
  · have q : n.tdiv 8 = -(-n / 8) := by rw [← Int.tdiv_eq_ediv_of_nonneg (by omega), Int.neg_tdiv]; omega
    have d : -n / 8 ≤ 268435456 := by omega
    by_cases c2 : -n / 8 = 0
    · have c3 : (-n / 8 == 0) = true := beq_iff_eq.2 c2
      have c4 := Lib.hid c2
      clear c2
      go_enter Try.func63, Try.ntmps63
      go_wp2
      go_ret
      exact ⟨ret_int (less_neg _ _ c1 (by have := c4.out; omega)), rfl⟩
    · have c3 : (-n / 8 == 0) = false := beq_eq_false_iff_ne.2 c2
      go_enter Try.func63, Try.ntmps63
      go_wp2
      go_ret
      exact ⟨ret_int (less_neg _ _ c1 (by omega)), rfl⟩
  · by_cases c0 : n = 0
    · subst c0
      go_enter Try.func63, Try.ntmps63
      go_wp2
      go_ret
      exact ⟨ret_int (less_nil _ (by omega) (by omega)), rfl⟩
    · have c0' : 0 < n := by omega
      by_cases c2 : n / 8 = 0
      · have c3 : (n / 8 == 0) = true := beq_iff_eq.2 c2
        have c4 := Lib.hid c2
        clear c2
        go_enter Try.func63, Try.ntmps63
        go_wp2
        go_ret
        exact ⟨ret_int (less_pos _ _ c0' (by have := c4.out; omega)), rfl⟩
      · have c3 : (n / 8 == 0) = false := beq_eq_false_iff_ne.2 c2
        go_enter Try.func63, Try.ntmps63
        go_wp2
        go_ret
        exact ⟨ret_int (less_pos _ _ c0' (by omega)), rfl⟩

theorem ticks_any (n : Int) (w : World) (hn : -2147483648 ≤ n ∧ n ≤ 2147483647) :
    Calls Try.prog 35 #[.int .i32 n] w fun e w' => e = .returned (.int .i64 (tk n)) ∧ w = w' := by
  have hl := tk_le n hn
  go_enter Try.func35, Try.ntmps35
  go_wp2
  go_loop [3, 0] (fun t x => ∃ (k : Nat) (m : Int), t = .int .i64 k ∧ x = .int .i32 m ∧ (-2147483648 ≤ m ∧ m ≤ 2147483647) ∧ k + tk m = tk n) (fun _ x => tk (intOf x))
  case atStart => exact ⟨0, n, rfl, rfl, hn, by omega⟩
  case round =>
    obtain ⟨k, m, rfl, rfl, hm, hk⟩ := hrel
    by_cases c : m = 0
    · have c1 : (m != 0) = false := by rw [c]; rfl
      have hk2 := Lib.hid (show k = tk n by rw [c, tk_zero] at hk; exact hk)
      clear c hk
      go_wp2
      go_ret
      exact ⟨ret_int (by rw [hk2.out]), rfl⟩
    · have c1 : (m != 0) = true := bne_iff_ne.2 c
      have hs := tk_step m c
      have hb := less_bd m hm
      have hk2 : k ≤ 200 := by omega
      have h3 := Lib.hid (show k + 1 + tk (lessF m) = tk n by omega)
      have h4 : tk (lessF m) < tk m := by omega
      clear hs hk c
      go_wp2_with (first | (go_at_call 58; refine (less_any _ _ (by omega)).mono ?_; rintro e wx ⟨rfl, rfl⟩))
      go_round
      case rel => exact ⟨k + 1, lessF m, by go_num, rfl, hb, h3.out⟩
      case measure => simp [intOf]; omega

theorem awake23 (w : World) : Calls Try.prog 27 #[] w fun e w' => e = .returned (.bool true) ∧ w = w' := by
  have h1 : (lessF 80 == 70) = true := by decide
  have h2 : (lessF 3 == 2) = true := by decide
  go_enter Try.func27, Try.ntmps27
  go_wp2_with (first | (go_at_call 58; refine (less_any _ _ (by omega)).mono ?_; rintro e wx ⟨rfl, rfl⟩))
  go_ret
  exact ⟨rfl, rfl⟩

end Go.Proofs.Ytlmhklaobfmhbaa
