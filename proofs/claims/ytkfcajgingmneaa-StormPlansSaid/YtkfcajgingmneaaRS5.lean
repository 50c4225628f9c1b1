/- PLANS; WITHIN HOW MANY MOVES ARE FAIR, WINDOW BY WINDOW; THE SAME MOVES. Conditions: the contracts' own. Own work; the normal forms were printed by a program of mine (wip/rex). -/
import Derived.Test.YtkfcajgingmneaaRS4
namespace Go.Proofs.Ytkfcajgingmneaa
open Go.RowKit Rex
set_option linter.unusedVariables false
set_option linter.unusedSimpArgs false
set_option maxRecDepth 100000


def rightB (l d p m : Int) : Bool := decide ((0 ≤ l ∧ l ≤ 100) ∧ (0 ≤ d ∧ d ≤ 100) ∧ (0 ≤ p ∧ p ≤ 100) ∧ l + d + p ≤ 100 ∧ 0 ≤ m ∧ m ≤ 8)
theorem rightB_iff (l d p m : Int) : rightB l d p m = true ↔ (0 ≤ l ∧ l ≤ 100) ∧ (0 ≤ d ∧ d ≤ 100) ∧ (0 ≤ p ∧ p ≤ 100) ∧ l + d + p ≤ 100 ∧ 0 ≤ m ∧ m ≤ 8 := by unfold rightB; simp only [decide_eq_true_eq]
/-- the first place, of the first n, that holds no input; -1: none -/
def firstN (xs : List (Row sh8)) : Nat → Int
  | 0 => -1
  | n + 1 => if 0 ≤ firstN xs n then firstN xs n else if 63 < (getR xs n).1 then (n : Int) else -1
theorem firstN_stay (xs : List (Row sh8)) {n : Nat} (h : 0 ≤ firstN xs n) : ∀ m, firstN xs (n + m) = firstN xs n
  | 0 => rfl
  | m + 1 => by
    have ih := firstN_stay xs h m
    show (if 0 ≤ firstN xs (n + m) then firstN xs (n + m) else _) = _
    rw [ih, if_pos h]
theorem firstN_neg (xs : List (Row sh8)) : ∀ n, firstN xs n = -1 ∨ 0 ≤ firstN xs n
  | 0 => .inl rfl
  | n + 1 => by
    rcases firstN_neg xs n with h | h
    · simp only [firstN, h]
      split
      · omega
      · split <;> omega
    · simp only [firstN, if_pos h]
      omega
theorem rowM_eq (a b : Row shM) : decide (a = b) = (a.1 == b.1 && (a.2.1 == b.2.1 && (a.2.2.1 == b.2.2.1 && (a.2.2.2.1 == b.2.2.2.1 && (a.2.2.2.2.1 == b.2.2.2.2.1 && (a.2.2.2.2.2.1 == b.2.2.2.2.2.1 && true)))))) := by
  obtain ⟨a1, a2, a3, a4, a5, a6, _⟩ := a
  obtain ⟨b1, b2, b3, b4, b5, b6, _⟩ := b
  rw [Bool.eq_iff_iff]
  simp [Prod.ext_iff]
def planB (l d p m : Int) (xa xb : List (Row sh8)) : Bool := rightB l d p m && (decide (firstN xa xa.length < 0) && decide (firstN xb xb.length < 0))
def planL (l d p m : Int) (xa xb : List (Row sh8)) : Nat := if planB l d p m xa xb = true then 4 * max xa.length xb.length else 0
def planX (s l d p m : Int) (xa xb : List (Row sh8)) : List (Row shM) := if planB l d p m xa xb = true then planN s l d p m xa xb (max xa.length xb.length) else []
/-- in the midst of a round -/
def planH (s l d p m : Int) (xa xb : List (Row sh8)) (n t : Nat) : List (Row shM) := planN s l d p m xa xb n ++ ([tickR 0 (inputF xa (n : Int)), tickR 1 (inputF xb (n : Int))] ++ ([takeR (chN s l d p n) l d p m 0, takeR (nx (dgS (chN s l d p n) l d p)) l d p m 1] : List (Row shM)).take t)
def chH (s l d p : Int) (n : Nat) : Nat → Int
  | 0 => chN s l d p n
  | 1 => nx (dgS (chN s l d p n) l d p)
  | _ => chN s l d p (n + 1)
theorem planH_length (s l d p m : Int) (xa xb : List (Row sh8)) (n t : Nat) (ht : t ≤ 2) : (planH s l d p m xa xb n t).length = 4 * n + 2 + t := by
  have := planN_length s l d p m xa xb n
  simp only [planH, List.length_append, List.length_cons, List.length_nil, List.length_take]
  omega
/-- does one of the n moves from f on meet need j? -/
def hasN (xs : List (Row shM)) (j : Int) (f : Nat) : Nat → Bool
  | 0 => false
  | n + 1 => hasN xs j f n || decide (needR xs (f + n) = j)
def winB (xs : List (Row shM)) (f k : Nat) : Bool := hasN xs 0 f k && (hasN xs 1 f k && (hasN xs 2 f k && hasN xs 3 f k))
def allW (xs : List (Row shM)) (k : Nat) : Nat → Bool
  | 0 => true
  | n + 1 => allW xs k n && winB xs n k
def numW (xs : List (Row shM)) (k : Int) : Nat := ((xs.length : Int) + 1 - k).toNat
def fairR (xs : List (Row shM)) (k : Int) : Bool := decide (1 ≤ k) && allW xs k.toNat (numW xs k)
/-- are the first n alike? -/
def sameN (xs ys : List (Row shM)) : Nat → Bool
  | 0 => true
  | n + 1 => sameN xs ys n && decide (getR xs n = getR ys n)


noncomputable def c_right : FC := fun us => match us with
  | [.v (.agg [.int .i64 _ l, .int .i64 _ d, .int .i64 _ p, .int .i64 _ m])] => some (none, .v (.one (.bool false (rightB l d p m))))
  | _ => none
theorem nf_right (l : Int) (d : Int) (p : Int) (m : Int) : goal ⟨Mx, Try.prog, Γ_rthrow, Δ_calm, B_dgram, none, false, [], none⟩ noL 400 Try.f13 [.v (.agg [.int .i64 false l, .int .i64 false d, .int .i64 false p, .int .i64 false m])] [] (fun r _ => svLe idR r (.v (.one (.bool false (rightB l d p m))))) = ((decide ((0 : Int) ≤ if m < if p < if d < l then d else l then p else if d < l then d else l then m else if p < if d < l then d else l then p else if d < l then d else l) = true → (decide ((if (if l < d then d else l) < p then p else if l < d then d else l) ≤ (100 : Int)) = true → inR IntKind.i64 (l + d) ∧ inR IntKind.i64 (l + d + p) ∧ (decide (l + d + p ≤ (100 : Int)) = true → decide (m ≤ (8 : Int)) = rightB l d p m) ∧ (decide (l + d + p ≤ (100 : Int)) = false → false = rightB l d p m)) ∧ (decide ((if (if l < d then d else l) < p then p else if l < d then d else l) ≤ (100 : Int)) = false → false = rightB l d p m)) ∧ (decide ((0 : Int) ≤ if m < if p < if d < l then d else l then p else if d < l then d else l then m else if p < if d < l then d else l then p else if d < l then d else l) = false → false = rightB l d p m)) := by kernel_rfl
theorem s_right : FSound Try.prog 13 c_right := by
  refine fsound_of (Ctx.ok_of2 (M := Mx) (N := []) mixedA ok_rthrow okD_calm okB_dgram) Try.func13 (by kernel_rfl) (by kernel_rfl) ?_
  intro us p v h hp
  unfold c_right at h
  split at h
  · rename_i k0 l k1 d k2 p k3 m
    cases h
    refine ⟨rfl, noL, 400, [.v (.agg [.int .i64 false l, .int .i64 false d, .int .i64 false p, .int .i64 false m])], by simp [tmLe, svLe, vLe, lfLe, lfsLe, ifB, nmIs, idR], rfl, ?_⟩
    rw [nf_right]
    clear hp
    have e := rightB_iff l d p m
    (repeat' (first | (refine And.intro ?_ ?_) | intro _))
    all_goals simp only [decide_eq_true_eq, decide_eq_false_iff_not] at *
    all_goals first
      | (simp only [inR, klo, khi]; (repeat' split at *) <;> omega)
      | (refine Bool.eq_iff_iff.2 ?_; rw [e]; simp only [decide_eq_true_eq, Bool.false_eq_true, false_iff]; (repeat' split at *) <;> omega)
  · cases h
noncomputable def Γ_right : List (FuncId × FX) := (13, c_right) :: Γ_rthrow
theorem ok_right : ΓOk Try.prog Γ_right := ΓOk.cons (c := .pure c_right) s_right ok_rthrow

noncomputable def c_rright : FC := fun us => match us with
  | [.v (.agg [.int .i64 _ l, .int .i64 _ d, .int .i64 _ p, .int .i64 _ m])] => some (none, .v (.one (.bool false (rightB l d p m))))
  | _ => none
theorem nf_rright (l : Int) (d : Int) (p : Int) (m : Int) : goal ⟨Mx, Try.prog, Γ_right, Δ_calm, B_dgram, none, false, [], none⟩ noL 400 Try.f12 [.v (.agg [.int .i64 false l, .int .i64 false d, .int .i64 false p, .int .i64 false m])] [] (fun r _ => svLe idR r (.v (.one (.bool false (rightB l d p m))))) = ((decide (l < (0 : Int)) = false → (decide (d < (0 : Int)) = false → (decide (p < (0 : Int)) = false → (decide ((100 : Int) < l) = false → (decide ((100 : Int) < d) = false → (decide ((100 : Int) < p) = true → false = rightB l d p m) ∧ (decide ((100 : Int) < p) = false → inR IntKind.i64 (l + d) ∧ inR IntKind.i64 (l + d + p) ∧ (decide (l + d + p ≤ (100 : Int)) = true → (decide ((0 : Int) ≤ m) = true → decide (m ≤ (8 : Int)) = rightB l d p m) ∧ (decide ((0 : Int) ≤ m) = false → false = rightB l d p m)) ∧ (decide (l + d + p ≤ (100 : Int)) = false → false = rightB l d p m))) ∧ (decide ((100 : Int) < d) = true → false = rightB l d p m)) ∧ (decide ((100 : Int) < l) = true → false = rightB l d p m)) ∧ (decide (p < (0 : Int)) = true → false = rightB l d p m)) ∧ (decide (d < (0 : Int)) = true → false = rightB l d p m)) ∧ (decide (l < (0 : Int)) = true → false = rightB l d p m)) := by kernel_rfl
theorem s_rright : FSound Try.prog 12 c_rright := by
  refine fsound_of (Ctx.ok_of2 (M := Mx) (N := []) mixedA ok_right okD_calm okB_dgram) Try.func12 (by kernel_rfl) (by kernel_rfl) ?_
  intro us p v h hp
  unfold c_rright at h
  split at h
  · rename_i k0 l k1 d k2 p k3 m
    cases h
    refine ⟨rfl, noL, 400, [.v (.agg [.int .i64 false l, .int .i64 false d, .int .i64 false p, .int .i64 false m])], by simp [tmLe, svLe, vLe, lfLe, lfsLe, ifB, nmIs, idR], rfl, ?_⟩
    rw [nf_rright]
    clear hp
    have e := rightB_iff l d p m
    (repeat' (first | (refine And.intro ?_ ?_) | intro _))
    all_goals simp only [decide_eq_true_eq, decide_eq_false_iff_not] at *
    all_goals first
      | (simp only [inR, klo, khi]; (repeat' split at *) <;> omega)
      | (refine Bool.eq_iff_iff.2 ?_; rw [e]; simp only [decide_eq_true_eq, Bool.false_eq_true, false_iff]; (repeat' split at *) <;> omega)
  · cases h
noncomputable def Γ_rright : List (FuncId × FX) := (12, c_rright) :: Γ_right
theorem ok_rright : ΓOk Try.prog Γ_rright := ΓOk.cons (c := .pure c_rright) s_rright ok_right

noncomputable def c_high : FC := fun us => match us with
  | [.v (.one (.int .u8 _ a))] => some (none, .v (.one (.bool false (decide (63 < a)))))
  | _ => none
theorem nf_high (a : Int) : goal ⟨Mx, Try.prog, Γ_rright, Δ_calm, B_dgram, none, false, [], none⟩ noL 400 Try.f18 [.v (.one (.int .u8 false a))] [] (fun r _ => svLe idR r (.v (.one (.bool false (decide (63 < a)))))) = (decide ((63 : Int) < a) = decide ((63 : Int) < a)) := by kernel_rfl
theorem s_high : FSound Try.prog 18 c_high := by
  refine fsound_of (Ctx.ok_of2 (M := Mx) (N := []) mixedA ok_rright okD_calm okB_dgram) Try.func18 (by kernel_rfl) (by kernel_rfl) ?_
  intro us p v h hp
  unfold c_high at h
  split at h
  · rename_i k0 a
    cases h
    refine ⟨rfl, noL, 400, [.v (.one (.int .u8 false a))], by simp [tmLe, svLe, vLe, lfLe, lfsLe, ifB, nmIs, idR], rfl, ?_⟩
    rw [nf_high]
    skip
  · cases h
noncomputable def Γ_high : List (FuncId × FX) := (18, c_high) :: Γ_rright
theorem ok_high : ΓOk Try.prog Γ_high := ΓOk.cons (c := .pure c_high) s_high ok_rright

noncomputable def c_idxF : MC := fun us m K => match us with
  | [s, .clo 18 []] => match rdS sh8 m s with
    | some (q, x, z, base, n, c, tot, xs) => q ∧ (xs.length ≤ 1000000) ∧ K (.v (.one (.int .i64 false (firstN xs xs.length)))) m
    | none => False
  | _ => False
theorem nf_idxF (z : Bool) (base : Nat) (c : Nat) (tot : Nat) (xs : List (Row sh8)) : goal ⟨Mx, Try.prog, Γ_high, Δ_calm, B_dgram, none, false, [], none⟩ (fun bk => match bk with | 0 => some { S := Nat, st := fun s => ⟨[.v (.one (.rs z 0 0 base 1 0 (List.length xs) c)), .clo 18 [], .junk, .junk, .junk, .junk, .junk, .v (.one (.int .i64 false ((xs.length : Int)))), .v (.one (.int .i64 false ((s : Int)))), .junk, .junk, .junk, .junk, .junk, .junk, .junk, .junk, .junk, .junk], [some (.rows true z sh8 xs base tot 5)]⟩, ok := fun s => s ≤ xs.length ∧ firstN xs s = -1, mu := fun s => xs.length - s, init := 0 } | _ => none) 400 Try.f23 [.v (.one (.rs z 0 0 base (List.length sh8) 0 (List.length xs) c)), .clo 18 []] [some (.rows true z sh8 xs base tot 5)] (fun r m' => stLe 1 ⟨[r], m'⟩ ⟨[.v (.one (.int .i64 false (firstN xs xs.length)))], [none]⟩) = ((((((z = z ∧ base = base ∧ (0 : Nat) = (0 : Nat) ∧ xs.length = xs.length ∧ c = c) ∧ True) ∧ True ∧ (↑xs.length : Int) = (↑xs.length : Int) ∧ (0 : Int) = (↑(0 : Nat) : Int) ∧ True) ∧ (z = z ∧ base = base ∧ tot = tot ∧ List.take xs.length xs = xs) ∧ True) ∧ (0 : Nat) ≤ xs.length ∧ firstN xs (0 : Nat) = (-1 : Int)) ∧ ∀ (s : Nat), s ≤ xs.length ∧ firstN xs s = (-1 : Int) → (decide ((↑s : Int) < (↑xs.length : Int)) = true → ((0 : Int) ≤ (↑s : Int) ∧ (↑s : Int) < (↑xs.length : Int)) ∧ (base = base ∧ (↑s : Int).toNat < xs.length) ∧ (decide ((63 : Int) < (getR xs (↑s : Int).toNat).fst) = true → ((↑s : Int) = firstN xs xs.length ∧ True) ∧ True) ∧ (decide ((63 : Int) < (getR xs (↑s : Int).toNat).fst) = false → inR IntKind.i64 ((↑s : Int) + (1 : Int)) ∧ ∃ (s' : Nat), (((((z = z ∧ base = base ∧ (0 : Nat) = (0 : Nat) ∧ xs.length = xs.length ∧ c = c) ∧ True) ∧ True ∧ (↑xs.length : Int) = (↑xs.length : Int) ∧ (↑s : Int) + (1 : Int) = (↑s' : Int) ∧ True) ∧ (z = z ∧ base = base ∧ tot = tot ∧ List.take xs.length xs = xs) ∧ True) ∧ s' ≤ xs.length ∧ firstN xs s' = (-1 : Int)) ∧ xs.length - s' < xs.length - s)) ∧ (decide ((↑s : Int) < (↑xs.length : Int)) = false → ((-1 : Int) = firstN xs xs.length ∧ True) ∧ True)) := by kernel_rfl
theorem s_idxF : MSound Try.prog 23 c_idxF := by
  refine rsound1 (Ctx.ok_of2 (M := Mx) (N := []) mixedA ok_high okD_calm okB_dgram) Try.func23 (by kernel_rfl) (by kernel_rfl) (fun us m K h => ?_)
  unfold c_idxF at h
  split at h
  · rename_i s
    split at h
    · rename_i q x z base n c tot xs hrd
      obtain ⟨hq, h⟩ := h
      obtain ⟨hp, h⟩ := h
      refine ⟨sh8, q, x, z, base, n, c, tot, xs, 5, s, .v (.one (.int .i64 false (firstN xs xs.length))), [], [], [.clo 18 []], [.clo 18 []], (fun bk => match bk with | 0 => some { S := Nat, st := fun s => ⟨[.v (.one (.rs z 0 0 base 1 0 (List.length xs) c)), .clo 18 [], .junk, .junk, .junk, .junk, .junk, .v (.one (.int .i64 false ((xs.length : Int)))), .v (.one (.int .i64 false ((s : Int)))), .junk, .junk, .junk, .junk, .junk, .junk, .junk, .junk, .junk, .junk], [some (.rows true z sh8 xs base tot 5)]⟩, ok := fun s => s ≤ xs.length ∧ firstN xs s = -1, mu := fun s => xs.length - s, init := 0 } | _ => none), 400, rfl, hrd, hq, ⟨by simp [tmLe, svLe, vLe, lfLe, lfsLe, ifB, nmIs, idR], rfl⟩, ⟨by simp [tmLe, svLe, vLe, lfLe, lfsLe, ifB, nmIs, idR], rfl⟩, fun hn => ?_, h⟩
      subst hn
      refine by_nf (nf_idxF z base c tot xs) ?_
      clear h hrd hq
      refine ⟨⟨⟨⟨⟨rfl, rfl, rfl, rfl, rfl⟩, trivial⟩, trivial, rfl, rfl, trivial⟩, ⟨rfl, rfl, rfl, List.take_length⟩, trivial⟩ |> fun h => ⟨h, by omega, rfl⟩, fun s hs => ⟨fun hc => ?_, fun hc => ?_⟩⟩
      · simp only [decide_eq_true_eq] at hc
        obtain ⟨h1, h2⟩ := hs
        have e0 : (s : Int).toNat = s := by omega
        have st : firstN xs (s + 1) = if 0 ≤ firstN xs s then firstN xs s else if 63 < (getR xs s).1 then (s : Int) else -1 := rfl
        rw [h2, if_neg (by omega)] at st
        simp only [e0]
        refine ⟨by omega, by ((repeat' (refine And.intro ?_ ?_)) <;> first | exact True.intro | rfl | exact List.take_length | omega | assumption), fun h => ?_, fun h => ?_⟩
        · simp only [decide_eq_true_eq] at h
          rw [if_pos h] at st
          have := firstN_stay xs (n := s + 1) (by omega) (xs.length - (s + 1))
          rw [show s + 1 + (xs.length - (s + 1)) = xs.length by omega] at this
          ((repeat' (refine And.intro ?_ ?_)) <;> first | exact True.intro | rfl | exact List.take_length | omega | assumption)
        · simp only [decide_eq_false_iff_not] at h
          rw [if_neg h] at st
          refine ⟨by simp only [inR, klo, khi]; omega, s + 1, ?_⟩
          ((repeat' (refine And.intro ?_ ?_)) <;> first | exact True.intro | rfl | exact List.take_length | omega | assumption)
      · simp only [decide_eq_false_iff_not] at hc
        have e : s = xs.length := by omega
        rw [← e]
        exact ⟨⟨hs.2.symm, trivial⟩, trivial⟩
    · exact h.elim
  · exact h.elim
noncomputable def Δ_idxF : List (FuncId × MC) := (23, c_idxF) :: Δ_calm
theorem okD_idxF : ΔOk Try.prog Δ_idxF := ΔOk.cons s_idxF okD_calm

noncomputable def c_hasF : MC := fun us m K => match us with
  | [s, .clo 18 []] => match rdS sh8 m s with
    | some (q, x, z, base, n, c, tot, xs) => q ∧ (xs.length ≤ 1000000) ∧ K (.v (.one (.bool false (decide (0 ≤ firstN xs xs.length))))) m
    | none => False
  | _ => False
theorem nf_hasF (z : Bool) (base : Nat) (c : Nat) (tot : Nat) (xs : List (Row sh8)) : goal ⟨Mx, Try.prog, Γ_high, Δ_idxF, B_dgram, none, false, [], none⟩ noL 400 Try.f19 [.v (.one (.rs z 0 0 base (List.length sh8) 0 (List.length xs) c)), .clo 18 []] [some (.rows true z sh8 xs base tot 5)] (fun r m' => stLe 1 ⟨[r], m'⟩ ⟨[.v (.one (.bool false (decide (0 ≤ firstN xs xs.length))))], [none]⟩) = ((xs.length = xs.length ∧ z = z ∧ base = base) ∧ xs.length ≤ (1000000 : Nat) ∧ (decide ((0 : Int) ≤ firstN xs xs.length) = decide ((0 : Int) ≤ firstN xs xs.length) ∧ True) ∧ True) := by kernel_rfl
theorem s_hasF : MSound Try.prog 19 c_hasF := by
  refine rsound1 (Ctx.ok_of2 (M := Mx) (N := []) mixedA ok_high okD_idxF okB_dgram) Try.func19 (by kernel_rfl) (by kernel_rfl) (fun us m K h => ?_)
  unfold c_hasF at h
  split at h
  · rename_i s
    split at h
    · rename_i q x z base n c tot xs hrd
      obtain ⟨hq, h⟩ := h
      obtain ⟨hp, h⟩ := h
      refine ⟨sh8, q, x, z, base, n, c, tot, xs, 5, s, .v (.one (.bool false (decide (0 ≤ firstN xs xs.length)))), [], [], [.clo 18 []], [.clo 18 []], noL, 400, rfl, hrd, hq, ⟨by simp [tmLe, svLe, vLe, lfLe, lfsLe, ifB, nmIs, idR], rfl⟩, ⟨by simp [tmLe, svLe, vLe, lfLe, lfsLe, ifB, nmIs, idR], rfl⟩, fun hn => ?_, h⟩
      subst hn
      refine by_nf (nf_hasF z base c tot xs) ?_
      clear h hrd hq
      exact ⟨⟨rfl, rfl, rfl⟩, hp, ⟨rfl, trivial⟩, trivial⟩
    · exact h.elim
  · exact h.elim
noncomputable def Δ_hasF : List (FuncId × MC) := (19, c_hasF) :: Δ_idxF
theorem okD_hasF : ΔOk Try.prog Δ_hasF := ΔOk.cons s_hasF okD_idxF

noncomputable def c_plan : MC := fun us m K => match us with
  | [.v (.one (.int .u32 _ sd)), .v (.agg [.int .i64 _ l, .int .i64 _ d, .int .i64 _ p, .int .i64 _ m_]), sa, sb] => match rdS sh8 m sa, rdS sh8 m sb with
    | some (qa, x, za, basea, na, ca, tota, xa), some (qb, y, zb, baseb, nb, cb, totb, xb) => qa ∧ qb ∧ (xa.length ≤ 2000 ∧ xb.length ≤ 2000) ∧ (∀ e : Nat, (planL l d p m_ xa xb ≤ e ∧ (planL l d p m_ xa xb = 0 → e = 0)) → K (.tup [.one (.rs (decide (planL l d p m_ xa xb = 0)) 0 (m.length + 0) 0 6 0 (planL l d p m_ xa xb) e), .one (.int .i64 false (if planB l d p m_ xa xb = true then 0 else 1))]) (m ++ [some (.rows false (decide (planL l d p m_ xa xb = 0)) shM (planX sd l d p m_ xa xb) 0 e 28)]))
    | _, _ => False
  | _ => False
theorem nf_plan (za : Bool) (basea : Nat) (ca : Nat) (tota : Nat) (xa : List (Row sh8)) (zb : Bool) (baseb : Nat) (cb : Nat) (totb : Nat) (xb : List (Row sh8)) (sd : Int) (l : Int) (d : Int) (p : Int) (m_ : Int) : goal ⟨Mx, Try.prog, Γ_high, Δ_hasF, B_dgram, none, false, [21, 20], none⟩ (fun bk => match bk with | 21001000 => some { S := Nat × Nat, st := fun s => ⟨[.junk, .v (.one (.ptr 6 0)), .v (.one (.ptr 4 0)), .v (.one (.ptr 5 0)), .junk, .junk, .junk, .junk, .junk, .junk, .junk, .junk, .junk, .junk, .junk, .v (.one (.int .i64 false (((max xa.length xb.length : Nat) : Int)))), .v (.one (.int .i64 false ((s.1 : Int)))), .junk, .junk, .junk, .junk, .junk, .junk, .junk, .junk, .junk, .junk, .junk, .junk, .junk, .junk, .junk, .junk, .junk, .junk, .junk, .junk, .junk, .junk, .junk, .junk, .junk, .junk, .junk, .junk], [some (.rows true za sh8 xa basea tota 5), some (.rows true zb sh8 xb baseb totb 5), some (.cells [.int .i64 false l, .int .i64 false d, .int .i64 false p, .int .i64 false m_] 32), some (.cells [.int .u32 false (chN sd l d p s.1)] 53), some (.cells [.ptr 3 0] 51), some (.cells [.int .i64 false l, .int .i64 false d, .int .i64 false p, .int .i64 false m_] 32), some (.cells [.rs za 0 0 basea 1 0 xa.length ca, .rs zb 0 1 baseb 1 0 xb.length cb] 54), some (.cells [.rs (decide (s.1 = 0)) 0 9 0 6 0 (4 * s.1) s.2] 22), none, some (.rows false (decide (s.1 = 0)) shM (planN sd l d p m_ xa xb s.1) 0 s.2 28)]⟩, ok := fun s => s.1 ≤ max xa.length xb.length ∧ 4 * s.1 ≤ s.2 ∧ (s.1 = 0 → s.2 = 0), mu := fun s => max xa.length xb.length - s.1, init := (0, 0) } | _ => none) 400 Try.f11 [.v (.one (.int .u32 false sd)), .v (.agg [.int .i64 false l, .int .i64 false d, .int .i64 false p, .int .i64 false m_]), .v (.one (.rs za 0 0 basea (List.length sh8) 0 (List.length xa) ca)), .v (.one (.rs zb 0 1 baseb (List.length sh8) 0 (List.length xb) cb))] [some (.rows true za sh8 xa basea tota 5), some (.rows true zb sh8 xb baseb totb 5)] (fun r m' => ∃ e : Nat, (planL l d p m_ xa xb ≤ e ∧ (planL l d p m_ xa xb = 0 → e = 0)) ∧ stLe 2 ⟨[r], m'⟩ ⟨[.tup [.one (.rs (decide (planL l d p m_ xa xb = 0)) 0 2 0 6 0 (planL l d p m_ xa xb) e), .one (.int .i64 false (if planB l d p m_ xa xb = true then 0 else 1))]], none :: none :: [some (.rows false (decide (planL l d p m_ xa xb = 0)) shM (planX sd l d p m_ xa xb) 0 e 28)]⟩) = (((!rightB l d p m_) = false → (xa.length = xa.length ∧ za = za ∧ basea = basea) ∧ xa.length ≤ (1000000 : Nat) ∧ (decide ((0 : Int) ≤ firstN xa xa.length) = false → (xb.length = xb.length ∧ zb = zb ∧ baseb = baseb) ∧ xb.length ≤ (1000000 : Nat) ∧ (decide ((0 : Int) ≤ firstN xb xb.length) = true → ∃ (e : Nat), (planL l d p m_ xa xb ≤ e ∧ (planL l d p m_ xa xb = (0 : Nat) → e = (0 : Nat))) ∧ (((decide (planL l d p m_ xa xb = (0 : Nat)) = true ∧ (0 : Nat) = (0 : Nat) ∧ planL l d p m_ xa xb = (0 : Nat) ∧ e = (0 : Nat)) ∧ (1 : Int) = if planB l d p m_ xa xb = true then (0 : Int) else (1 : Int)) ∧ True) ∧ (decide (planL l d p m_ xa xb = (0 : Nat)) = true ∧ planX sd l d p m_ xa xb = []) ∧ True) ∧ (decide ((0 : Int) ≤ firstN xb xb.length) = false → (decide ((2000 : Int) < if (↑xa.length : Int) < (↑xb.length : Int) then (↑xb.length : Int) else (↑xa.length : Int)) = true → ∃ (e : Nat), (planL l d p m_ xa xb ≤ e ∧ (planL l d p m_ xa xb = (0 : Nat) → e = (0 : Nat))) ∧ (((decide (planL l d p m_ xa xb = (0 : Nat)) = true ∧ (0 : Nat) = (0 : Nat) ∧ planL l d p m_ xa xb = (0 : Nat) ∧ e = (0 : Nat)) ∧ (5 : Int) = if planB l d p m_ xa xb = true then (0 : Int) else (1 : Int)) ∧ True) ∧ (decide (planL l d p m_ xa xb = (0 : Nat)) = true ∧ planX sd l d p m_ xa xb = []) ∧ True) ∧ (decide ((2000 : Int) < if (↑xa.length : Int) < (↑xb.length : Int) then (↑xb.length : Int) else (↑xa.length : Int)) = false → ∀ (l_1 : Nat) (r : Loop), (((Value.func (Fn.yield l_1) { toList := [] } { toList := [] } = Value.func (Fn.yield l_1) { toList := [] } { toList := [] } ∧ True ∧ True ∧ True ∧ (if (↑xa.length : Int) < (↑xb.length : Int) then (↑xb.length : Int) else (↑xa.length : Int)) = (↑(max xa.length xb.length) : Int) ∧ (0 : Int) = (↑(0 : Nat) : Int) ∧ True) ∧ (za = za ∧ basea = basea ∧ tota = tota ∧ List.take xa.length xa = xa) ∧ (zb = zb ∧ baseb = baseb ∧ totb = totb ∧ List.take xb.length xb = xb) ∧ (l = l ∧ d = d ∧ p = p ∧ m_ = m_) ∧ sd = chN sd l d p (0 : Nat) ∧ True ∧ (l = l ∧ d = d ∧ p = p ∧ m_ = m_) ∧ (((za = za ∧ basea = basea ∧ (0 : Nat) = (0 : Nat) ∧ xa.length = xa.length ∧ ca = ca) ∧ True) ∧ (zb = zb ∧ baseb = baseb ∧ (0 : Nat) = (0 : Nat) ∧ xb.length = xb.length ∧ cb = cb) ∧ True) ∧ (decide ((0 : Nat) = (0 : Nat)) = true ∧ (0 : Nat) = (0 : Nat) ∧ (4 : Nat) * (0 : Nat) = (0 : Nat) ∧ (0 : Nat) = (0 : Nat)) ∧ (r = r ∧ (0 : Nat) = (0 : Nat)) ∧ (decide ((0 : Nat) = (0 : Nat)) = true ∧ planN sd l d p m_ xa xb (0 : Nat) = []) ∧ True) ∧ (0 : Nat) ≤ max xa.length xb.length ∧ (4 : Nat) * (0 : Nat) ≤ (0 : Nat) ∧ ((0 : Nat) = (0 : Nat) → (0 : Nat) = (0 : Nat))) ∧ ∀ (s : Nat × Nat), s.fst ≤ max xa.length xb.length ∧ (4 : Nat) * s.fst ≤ s.snd ∧ (s.fst = (0 : Nat) → s.snd = (0 : Nat)) → (decide ((↑s.fst : Int) < (↑(max xa.length xb.length) : Int)) = true → (xa.length = xa.length ∧ za = za ∧ basea = basea) ∧ (0 : Int) ≤ (↑s.fst : Int) ∧ l_1 = l_1 ∧ r = r ∧ r = r ∧ ((4 : Nat) * s.fst = (planN sd l d p m_ xa xb s.fst).length ∧ s.snd = s.snd ∧ decide (s.fst = (0 : Nat)) = decide (s.fst = (0 : Nat)) ∧ (decide (s.fst = (0 : Nat)) = true → s.snd = (0 : Nat)) ∧ ((4 : Nat) * s.fst + (1 : Nat)) * (40 : Nat) ≤ (140737488355328 : Nat)) ∧ ∀ (c' : Nat), (4 : Nat) * s.fst + (1 : Nat) ≤ c' → r = r ∧ (xb.length = xb.length ∧ zb = zb ∧ baseb = baseb) ∧ (0 : Int) ≤ (↑s.fst : Int) ∧ l_1 = l_1 ∧ r = r ∧ r = r ∧ ((4 : Nat) * s.fst + (1 : Nat) = ((planN sd l d p m_ xa xb s.fst).append [((1 : Int), (0 : Int), (0 : Int), (0 : Int), (0 : Int), inputF xa (↑s.fst : Int), PUnit.unit)]).length ∧ c' = c' ∧ (false && decide (s.fst = (0 : Nat))) = (false && decide (s.fst = (0 : Nat))) ∧ ((false && decide (s.fst = (0 : Nat))) = true → c' = (0 : Nat)) ∧ ((4 : Nat) * s.fst + (1 : Nat) + (1 : Nat)) * (40 : Nat) ≤ (140737488355328 : Nat)) ∧ ∀ (c' : Nat), (4 : Nat) * s.fst + (1 : Nat) + (1 : Nat) ≤ c' → r = r ∧ (((0 : Int) ≤ l ∧ l ≤ (100 : Int)) ∧ ((0 : Int) ≤ d ∧ d ≤ (100 : Int)) ∧ ((0 : Int) ≤ p ∧ p ≤ (100 : Int)) ∧ (0 : Int) ≤ m_ ∧ m_ ≤ (8 : Int)) ∧ l_1 = l_1 ∧ r = r ∧ r = r ∧ ((4 : Nat) * s.fst + (1 : Nat) + (1 : Nat) = (((planN sd l d p m_ xa xb s.fst).append [((1 : Int), (0 : Int), (0 : Int), (0 : Int), (0 : Int), inputF xa (↑s.fst : Int), PUnit.unit)]).append [((1 : Int), (1 : Int), (0 : Int), (0 : Int), (0 : Int), inputF xb (↑s.fst : Int), PUnit.unit)]).length ∧ c' = c' ∧ (false && (false && decide (s.fst = (0 : Nat)))) = (false && (false && decide (s.fst = (0 : Nat)))) ∧ ((false && (false && decide (s.fst = (0 : Nat)))) = true → c' = (0 : Nat)) ∧ ((4 : Nat) * s.fst + (1 : Nat) + (1 : Nat) + (1 : Nat)) * (40 : Nat) ≤ (140737488355328 : Nat)) ∧ ∀ (c' : Nat), (4 : Nat) * s.fst + (1 : Nat) + (1 : Nat) + (1 : Nat) ≤ c' → r = r ∧ (((0 : Int) ≤ l ∧ l ≤ (100 : Int)) ∧ ((0 : Int) ≤ d ∧ d ≤ (100 : Int)) ∧ ((0 : Int) ≤ p ∧ p ≤ (100 : Int)) ∧ (0 : Int) ≤ m_ ∧ m_ ≤ (8 : Int)) ∧ l_1 = l_1 ∧ r = r ∧ r = r ∧ ((4 : Nat) * s.fst + (1 : Nat) + (1 : Nat) + (1 : Nat) = ((((planN sd l d p m_ xa xb s.fst).append [((1 : Int), (0 : Int), (0 : Int), (0 : Int), (0 : Int), inputF xa (↑s.fst : Int), PUnit.unit)]).append [((1 : Int), (1 : Int), (0 : Int), (0 : Int), (0 : Int), inputF xb (↑s.fst : Int), PUnit.unit)]).append [(dgK (chN sd l d p s.fst) l d p, (0 : Int), dgI (chN sd l d p s.fst) l d p m_, dgA (chN sd l d p s.fst) l d p, dgB (chN sd l d p s.fst) l d p, (0 : Int), PUnit.unit)]).length ∧ c' = c' ∧ (false && (false && (false && decide (s.fst = (0 : Nat))))) = (false && (false && (false && decide (s.fst = (0 : Nat))))) ∧ ((false && (false && (false && decide (s.fst = (0 : Nat))))) = true → c' = (0 : Nat)) ∧ ((4 : Nat) * s.fst + (1 : Nat) + (1 : Nat) + (1 : Nat) + (1 : Nat)) * (40 : Nat) ≤ (140737488355328 : Nat)) ∧ ∀ (c' : Nat), (4 : Nat) * s.fst + (1 : Nat) + (1 : Nat) + (1 : Nat) + (1 : Nat) ≤ c' → r = r ∧ inR IntKind.i64 ((↑s.fst : Int) + (1 : Int)) ∧ ∃ (s' : Nat × Nat), (((Value.func (Fn.yield l_1) { toList := [] } { toList := [] } = Value.func (Fn.yield l_1) { toList := [] } { toList := [] } ∧ True ∧ True ∧ True ∧ (↑(max xa.length xb.length) : Int) = (↑(max xa.length xb.length) : Int) ∧ (↑s.fst : Int) + (1 : Int) = (↑s'.fst : Int) ∧ True) ∧ (za = za ∧ basea = basea ∧ tota = tota ∧ List.take xa.length xa = xa) ∧ (zb = zb ∧ baseb = baseb ∧ totb = totb ∧ List.take xb.length xb = xb) ∧ (l = l ∧ d = d ∧ p = p ∧ m_ = m_) ∧ nx (dgS (nx (dgS (chN sd l d p s.fst) l d p)) l d p) = chN sd l d p s'.fst ∧ True ∧ (l = l ∧ d = d ∧ p = p ∧ m_ = m_) ∧ (((za = za ∧ basea = basea ∧ (0 : Nat) = (0 : Nat) ∧ xa.length = xa.length ∧ ca = ca) ∧ True) ∧ (zb = zb ∧ baseb = baseb ∧ (0 : Nat) = (0 : Nat) ∧ xb.length = xb.length ∧ cb = cb) ∧ True) ∧ (((false && (false && (false && (false && decide (s.fst = (0 : Nat)))))) = decide (s'.fst = (0 : Nat)) ∧ (0 : Nat) = (0 : Nat) ∧ (0 : Nat) = (0 : Nat) ∧ (4 : Nat) * s.fst + (1 : Nat) + (1 : Nat) + (1 : Nat) + (1 : Nat) = (4 : Nat) * s'.fst ∧ c' = s'.snd) ∧ True) ∧ (r = r ∧ (0 : Nat) = (0 : Nat)) ∧ ((false && (false && (false && (false && decide (s.fst = (0 : Nat)))))) = decide (s'.fst = (0 : Nat)) ∧ (0 : Nat) = (0 : Nat) ∧ c' = s'.snd ∧ List.take (planN sd l d p m_ xa xb s'.fst).length (((((planN sd l d p m_ xa xb s.fst).append [((1 : Int), (0 : Int), (0 : Int), (0 : Int), (0 : Int), inputF xa (↑s.fst : Int), PUnit.unit)]).append [((1 : Int), (1 : Int), (0 : Int), (0 : Int), (0 : Int), inputF xb (↑s.fst : Int), PUnit.unit)]).append [(dgK (chN sd l d p s.fst) l d p, (0 : Int), dgI (chN sd l d p s.fst) l d p m_, dgA (chN sd l d p s.fst) l d p, dgB (chN sd l d p s.fst) l d p, (0 : Int), PUnit.unit)]).append [(dgK (nx (dgS (chN sd l d p s.fst) l d p)) l d p, (1 : Int), dgI (nx (dgS (chN sd l d p s.fst) l d p)) l d p m_, dgA (nx (dgS (chN sd l d p s.fst) l d p)) l d p, dgB (nx (dgS (chN sd l d p s.fst) l d p)) l d p, (0 : Int), PUnit.unit)]) = planN sd l d p m_ xa xb s'.fst) ∧ True) ∧ s'.fst ≤ max xa.length xb.length ∧ (4 : Nat) * s'.fst ≤ s'.snd ∧ (s'.fst = (0 : Nat) → s'.snd = (0 : Nat))) ∧ max xa.length xb.length - s'.fst < max xa.length xb.length - s.fst) ∧ (decide ((↑s.fst : Int) < (↑(max xa.length xb.length) : Int)) = false → ∃ (e : Nat), (planL l d p m_ xa xb ≤ e ∧ (planL l d p m_ xa xb = (0 : Nat) → e = (0 : Nat))) ∧ ((((decide (s.fst = (0 : Nat)) = decide (planL l d p m_ xa xb = (0 : Nat)) ∧ (0 : Nat) = (0 : Nat) ∧ (0 : Nat) = (0 : Nat) ∧ (4 : Nat) * s.fst = planL l d p m_ xa xb ∧ s.snd = e) ∧ True) ∧ (0 : Int) = if planB l d p m_ xa xb = true then (0 : Int) else (1 : Int)) ∧ True) ∧ (decide (s.fst = (0 : Nat)) = decide (planL l d p m_ xa xb = (0 : Nat)) ∧ (0 : Nat) = (0 : Nat) ∧ s.snd = e ∧ List.take (planX sd l d p m_ xa xb).length (planN sd l d p m_ xa xb s.fst) = planX sd l d p m_ xa xb) ∧ True)))) ∧ (decide ((0 : Int) ≤ firstN xa xa.length) = true → ∃ (e : Nat), (planL l d p m_ xa xb ≤ e ∧ (planL l d p m_ xa xb = (0 : Nat) → e = (0 : Nat))) ∧ (((decide (planL l d p m_ xa xb = (0 : Nat)) = true ∧ (0 : Nat) = (0 : Nat) ∧ planL l d p m_ xa xb = (0 : Nat) ∧ e = (0 : Nat)) ∧ (1 : Int) = if planB l d p m_ xa xb = true then (0 : Int) else (1 : Int)) ∧ True) ∧ (decide (planL l d p m_ xa xb = (0 : Nat)) = true ∧ planX sd l d p m_ xa xb = []) ∧ True)) ∧ ((!rightB l d p m_) = true → ∃ (e : Nat), (planL l d p m_ xa xb ≤ e ∧ (planL l d p m_ xa xb = (0 : Nat) → e = (0 : Nat))) ∧ (((decide (planL l d p m_ xa xb = (0 : Nat)) = true ∧ (0 : Nat) = (0 : Nat) ∧ planL l d p m_ xa xb = (0 : Nat) ∧ e = (0 : Nat)) ∧ (1 : Int) = if planB l d p m_ xa xb = true then (0 : Int) else (1 : Int)) ∧ True) ∧ (decide (planL l d p m_ xa xb = (0 : Nat)) = true ∧ planX sd l d p m_ xa xb = []) ∧ True)) := by kernel_rfl
set_option maxHeartbeats 4000000 in
theorem s_plan : MSound Try.prog 11 c_plan := by
  refine rsound2 (Ctx.ok_of2 (M := Mx) (N := [21, 20]) mixedA ok_high okD_hasF okB_dgram) Try.func11 (by kernel_rfl) (by kernel_rfl) (fun us m K h => ?_)
  unfold c_plan at h
  split at h
  · rename_i k0 sd k1_0 l k1_1 d k1_2 p k1_3 m_ sa sb
    split at h
    · rename_i qa x za basea na ca tota xa qb y zb baseb nb cb totb xb hrd hrd'
      obtain ⟨hq, hq', h⟩ := h
      obtain ⟨hp, h⟩ := h
      refine ⟨Nat, fun e => planL l d p m_ xa xb ≤ e ∧ (planL l d p m_ xa xb = 0 → e = 0), sh8, sh8, qa, x, za, basea, na, ca, tota, xa, 5, qb, y, zb, baseb, nb, cb, totb, xb, 5, sa, sb, [.v (.one (.int .u32 k0 sd)), .v (.agg [.int .i64 k1_0 l, .int .i64 k1_1 d, .int .i64 k1_2 p, .int .i64 k1_3 m_])], [.v (.one (.int .u32 false sd)), .v (.agg [.int .i64 false l, .int .i64 false d, .int .i64 false p, .int .i64 false m_])], [], [], (fun bk => match bk with | 21001000 => some { S := Nat × Nat, st := fun s => ⟨[.junk, .v (.one (.ptr 6 0)), .v (.one (.ptr 4 0)), .v (.one (.ptr 5 0)), .junk, .junk, .junk, .junk, .junk, .junk, .junk, .junk, .junk, .junk, .junk, .v (.one (.int .i64 false (((max xa.length xb.length : Nat) : Int)))), .v (.one (.int .i64 false ((s.1 : Int)))), .junk, .junk, .junk, .junk, .junk, .junk, .junk, .junk, .junk, .junk, .junk, .junk, .junk, .junk, .junk, .junk, .junk, .junk, .junk, .junk, .junk, .junk, .junk, .junk, .junk, .junk, .junk, .junk], [some (.rows true za sh8 xa basea tota 5), some (.rows true zb sh8 xb baseb totb 5), some (.cells [.int .i64 false l, .int .i64 false d, .int .i64 false p, .int .i64 false m_] 32), some (.cells [.int .u32 false (chN sd l d p s.1)] 53), some (.cells [.ptr 3 0] 51), some (.cells [.int .i64 false l, .int .i64 false d, .int .i64 false p, .int .i64 false m_] 32), some (.cells [.rs za 0 0 basea 1 0 xa.length ca, .rs zb 0 1 baseb 1 0 xb.length cb] 54), some (.cells [.rs (decide (s.1 = 0)) 0 9 0 6 0 (4 * s.1) s.2] 22), none, some (.rows false (decide (s.1 = 0)) shM (planN sd l d p m_ xa xb s.1) 0 s.2 28)]⟩, ok := fun s => s.1 ≤ max xa.length xb.length ∧ 4 * s.1 ≤ s.2 ∧ (s.1 = 0 → s.2 = 0), mu := fun s => max xa.length xb.length - s.1, init := (0, 0) } | _ => none), 400, fun e => .tup [.one (.rs (decide (planL l d p m_ xa xb = 0)) 0 2 0 6 0 (planL l d p m_ xa xb) e), .one (.int .i64 false (if planB l d p m_ xa xb = true then 0 else 1))], fun e => [some (.rows false (decide (planL l d p m_ xa xb = 0)) shM (planX sd l d p m_ xa xb) 0 e 28)], (fun r m' => ∃ e : Nat, (planL l d p m_ xa xb ≤ e ∧ (planL l d p m_ xa xb = 0 → e = 0)) ∧ stLe 2 ⟨[r], m'⟩ ⟨[.tup [.one (.rs (decide (planL l d p m_ xa xb = 0)) 0 2 0 6 0 (planL l d p m_ xa xb) e), .one (.int .i64 false (if planB l d p m_ xa xb = true then 0 else 1))]], none :: none :: [some (.rows false (decide (planL l d p m_ xa xb = 0)) shM (planX sd l d p m_ xa xb) 0 e 28)]⟩), rfl, hrd, hq, hrd', hq', ⟨by simp [tmLe, svLe, vLe, lfLe, lfsLe, ifB, nmIs, idR], rfl⟩, ⟨by simp [tmLe, svLe, vLe, lfLe, lfsLe, ifB, nmIs, idR], rfl⟩, fun _ => rfl, fun hn hn' => ?_, fun r m' hr => hr, fun e he => h e he⟩
      subst hn hn'
      refine by_nf (nf_plan za basea ca tota xa zb baseb cb totb xb sd l d p m_) ?_
      clear h hrd hrd' hq hq'
      obtain ⟨ha, hb⟩ := hp
      have hR := rightB_iff l d p m_
      have bad : planB l d p m_ xa xb = false → ∃ (e : Nat), (planL l d p m_ xa xb ≤ e ∧ (planL l d p m_ xa xb = (0 : Nat) → e = (0 : Nat))) ∧ (((decide (planL l d p m_ xa xb = (0 : Nat)) = true ∧ (0 : Nat) = (0 : Nat) ∧ planL l d p m_ xa xb = (0 : Nat) ∧ e = (0 : Nat)) ∧ (1 : Int) = if planB l d p m_ xa xb = true then (0 : Int) else (1 : Int)) ∧ True) ∧ (decide (planL l d p m_ xa xb = (0 : Nat)) = true ∧ planX sd l d p m_ xa xb = []) ∧ True :=
        fun h => ⟨0, by simp [planL, planX, h]⟩
      refine ⟨fun h1 => ⟨⟨rfl, rfl, rfl⟩, by omega, fun h2 => ⟨⟨rfl, rfl, rfl⟩, by omega, fun h3 => ?_, fun h3 => ⟨fun h4 => ?_, fun h4 l1 r => ⟨?_, fun s hs => ⟨fun hc => ?_, fun hc => ?_⟩⟩⟩⟩, fun h2 => ?_⟩, fun h1 => ?_⟩
      · simp only [decide_eq_true_eq] at h3
        exact bad (by unfold planB; rw [decide_eq_false (p := firstN xb xb.length < 0) (by omega)]; simp)
      · exfalso
        simp only [decide_eq_true_eq] at h4
        split at h4 <;> omega
      · refine ⟨⟨⟨rfl, trivial, trivial, trivial, by split <;> omega, rfl, trivial⟩, ⟨rfl, rfl, rfl, List.take_length⟩, ⟨rfl, rfl, rfl, List.take_length⟩, ⟨rfl, rfl, rfl, rfl⟩, rfl, trivial, ⟨rfl, rfl, rfl, rfl⟩, ⟨⟨⟨rfl, rfl, rfl, rfl, rfl⟩, trivial⟩, ⟨rfl, rfl, rfl, rfl, rfl⟩, trivial⟩, ⟨rfl, rfl, rfl, rfl⟩, ⟨rfl, rfl⟩, ⟨rfl, rfl⟩, trivial⟩, by omega, by omega, fun _ => rfl⟩
      · simp only [decide_eq_true_eq, Bool.not_eq_false'] at hc h1
        rw [hR] at h1
        obtain ⟨k2, k3, k4⟩ := hs
        have hp := planN_length sd l d p m_ xa xb s.1
        simp only [List.append_eq, List.length_append, List.length_cons, List.length_nil, true_and, and_true, Bool.false_and, Bool.false_eq_true, false_implies, implies_true, decide_eq_true_eq, inR, klo, khi]
        (repeat' (first | (refine And.intro ?_ ?_) | intro _))
        all_goals (try first | exact True.intro | rfl | omega)
        rename_i c1 k1 c2 k2 c3 k3 c4 k4
        refine ⟨(s.1 + 1, c4), ?_⟩
        have e1 : decide (s.1 + 1 = 0) = false := decide_eq_false (by omega)
        have e2 : 4 * s.1 + 1 + 1 + 1 + 1 = 4 * (s.1 + 1) := by omega
        have e3 : (s.1 : Int) + 1 = ((s.1 + 1 : Nat) : Int) := by omega
        simp only [e1, e2, e3, true_and, and_true]
        refine ⟨⟨⟨List.take_length, List.take_length, rfl, ?_⟩, by omega, by omega, by omega⟩, by omega⟩
        have hp1 := planN_length sd l d p m_ xa xb (s.1 + 1)
        rw [List.take_of_length_le (by simp only [List.length_append, List.length_cons, List.length_nil]; omega)]
        simp only [List.append_assoc]
        rfl
      · simp only [decide_eq_false_iff_not, Bool.not_eq_false'] at hc h1 h2 h3
        obtain ⟨k2, k3, k4⟩ := hs
        have hB : planB l d p m_ xa xb = true := by unfold planB; rw [h1, decide_eq_true (p := firstN xa xa.length < 0) (by omega), decide_eq_true (p := firstN xb xb.length < 0) (by omega)]; rfl
        have hn : planL l d p m_ xa xb = 4 * max xa.length xb.length := by simp [planL, hB]
        have hx : planX sd l d p m_ xa xb = planN sd l d p m_ xa xb (max xa.length xb.length) := by simp [planX, hB]
        have e1 : s.1 = max xa.length xb.length := by omega
        have e2 : decide (s.1 = 0) = decide (planL l d p m_ xa xb = 0) := by rw [hn]; exact decide_eq_decide.2 (by omega)
        refine ⟨s.2, ⟨by omega, by omega⟩, ?_⟩
        rw [e2, hx, hn, hB, e1]
        exact ⟨⟨⟨⟨⟨rfl, rfl, rfl, rfl, rfl⟩, trivial⟩, by simp⟩, trivial⟩, ⟨rfl, rfl, rfl, List.take_length⟩, trivial⟩
      · simp only [decide_eq_true_eq] at h2
        exact bad (by unfold planB; rw [decide_eq_false (p := firstN xa xa.length < 0) (by omega)]; simp)
      · simp only [Bool.not_eq_true'] at h1
        exact bad (by unfold planB; rw [h1]; rfl)
    · exact h.elim
  · exact h.elim
noncomputable def Δ_plan : List (FuncId × MC) := (11, c_plan) :: Δ_hasF
theorem okD_plan : ΔOk Try.prog Δ_plan := ΔOk.cons s_plan okD_hasF

noncomputable def c_same : MC := fun us m K => match us with
  | [sa, sb] => match rdS shM m sa, rdS shM m sb with
    | some (qa, x, za, basea, na, ca, tota, xa), some (qb, y, zb, baseb, nb, cb, totb, xb) => qa ∧ qb ∧ (xa.length ≤ 1000000 ∧ xb.length ≤ 1000000) ∧ (∀ e : Unit, (True) → K (.v (.one (.bool false (decide (xa.length = xb.length) && sameN xa xb xa.length)))) (m ++ []))
    | _, _ => False
  | _ => False
theorem nf_same (za : Bool) (basea : Nat) (ca : Nat) (tota : Nat) (xa : List (Row shM)) (zb : Bool) (baseb : Nat) (cb : Nat) (totb : Nat) (xb : List (Row shM)) : goal ⟨Mx, Try.prog, Γ_high, Δ_plan, B_dgram, none, false, [], none⟩ (fun bk => match bk with | 0 => some { S := Nat, st := fun s => ⟨[.v (.one (.rs za 0 0 basea 6 0 xa.length ca)), .v (.one (.rs zb 0 1 baseb 6 0 xb.length cb)), .junk, .junk, .junk, .v (.one (.int .i64 false ((s : Int)))), .junk, .junk, .junk, .junk, .junk, .junk, .junk, .junk, .junk, .junk, .junk, .junk, .junk, .junk, .junk, .junk, .junk, .junk, .junk, .junk], [some (.rows true za shM xa basea tota 28), some (.rows true zb shM xb baseb totb 28)]⟩, ok := fun s => s ≤ xa.length ∧ sameN xa xb s = true, mu := fun s => xa.length - s, init := 0 } | _ => none) 400 Try.f14 [.v (.one (.rs za 0 0 basea (List.length shM) 0 (List.length xa) ca)), .v (.one (.rs zb 0 1 baseb (List.length shM) 0 (List.length xb) cb))] [some (.rows true za shM xa basea tota 28), some (.rows true zb shM xb baseb totb 28)] (fun r m' => stLe 2 ⟨[r], m'⟩ ⟨[.v (.one (.bool false (decide (xa.length = xb.length) && sameN xa xb xa.length)))], none :: none :: []⟩) = ((((↑xa.length : Int) != (↑xb.length : Int)) = true → (false = (decide (xa.length = xb.length) && sameN xa xb xa.length) ∧ True) ∧ True) ∧ (((↑xa.length : Int) != (↑xb.length : Int)) = false → (((((za = za ∧ basea = basea ∧ (0 : Nat) = (0 : Nat) ∧ xa.length = xa.length ∧ ca = ca) ∧ True) ∧ ((zb = zb ∧ baseb = baseb ∧ (0 : Nat) = (0 : Nat) ∧ xb.length = xb.length ∧ cb = cb) ∧ True) ∧ (0 : Int) = (↑(0 : Nat) : Int) ∧ True) ∧ (za = za ∧ basea = basea ∧ tota = tota ∧ List.take xa.length xa = xa) ∧ (zb = zb ∧ baseb = baseb ∧ totb = totb ∧ List.take xb.length xb = xb) ∧ True) ∧ (0 : Nat) ≤ xa.length ∧ sameN xa xb (0 : Nat) = true) ∧ ∀ (s : Nat), s ≤ xa.length ∧ sameN xa xb s = true → (decide ((↑s : Int) < (↑xa.length : Int)) = true → ((0 : Int) ≤ (↑s : Int) ∧ (↑s : Int) < (↑xa.length : Int)) ∧ (basea = basea ∧ (↑s : Int).toNat < xa.length) ∧ ((0 : Int) ≤ (↑s : Int) ∧ (↑s : Int) < (↑xb.length : Int)) ∧ (baseb = baseb ∧ (↑s : Int).toNat < xb.length) ∧ ((!((getR xa (↑s : Int).toNat).fst == (getR xb (↑s : Int).toNat).fst && ((getR xa (↑s : Int).toNat).snd.fst == (getR xb (↑s : Int).toNat).snd.fst && ((getR xa (↑s : Int).toNat).snd.snd.fst == (getR xb (↑s : Int).toNat).snd.snd.fst && ((getR xa (↑s : Int).toNat).snd.snd.snd.fst == (getR xb (↑s : Int).toNat).snd.snd.snd.fst && ((getR xa (↑s : Int).toNat).snd.snd.snd.snd.fst == (getR xb (↑s : Int).toNat).snd.snd.snd.snd.fst && ((getR xa (↑s : Int).toNat).snd.snd.snd.snd.snd.fst == (getR xb (↑s : Int).toNat).snd.snd.snd.snd.snd.fst && true))))))) = true → (false = (decide (xa.length = xb.length) && sameN xa xb xa.length) ∧ True) ∧ True) ∧ ((!((getR xa (↑s : Int).toNat).fst == (getR xb (↑s : Int).toNat).fst && ((getR xa (↑s : Int).toNat).snd.fst == (getR xb (↑s : Int).toNat).snd.fst && ((getR xa (↑s : Int).toNat).snd.snd.fst == (getR xb (↑s : Int).toNat).snd.snd.fst && ((getR xa (↑s : Int).toNat).snd.snd.snd.fst == (getR xb (↑s : Int).toNat).snd.snd.snd.fst && ((getR xa (↑s : Int).toNat).snd.snd.snd.snd.fst == (getR xb (↑s : Int).toNat).snd.snd.snd.snd.fst && ((getR xa (↑s : Int).toNat).snd.snd.snd.snd.snd.fst == (getR xb (↑s : Int).toNat).snd.snd.snd.snd.snd.fst && true))))))) = false → inR IntKind.i64 ((↑s : Int) + (1 : Int)) ∧ ∃ (s' : Nat), (((((za = za ∧ basea = basea ∧ (0 : Nat) = (0 : Nat) ∧ xa.length = xa.length ∧ ca = ca) ∧ True) ∧ ((zb = zb ∧ baseb = baseb ∧ (0 : Nat) = (0 : Nat) ∧ xb.length = xb.length ∧ cb = cb) ∧ True) ∧ (↑s : Int) + (1 : Int) = (↑s' : Int) ∧ True) ∧ (za = za ∧ basea = basea ∧ tota = tota ∧ List.take xa.length xa = xa) ∧ (zb = zb ∧ baseb = baseb ∧ totb = totb ∧ List.take xb.length xb = xb) ∧ True) ∧ s' ≤ xa.length ∧ sameN xa xb s' = true) ∧ xa.length - s' < xa.length - s)) ∧ (decide ((↑s : Int) < (↑xa.length : Int)) = false → (true = (decide (xa.length = xb.length) && sameN xa xb xa.length) ∧ True) ∧ True))) := by kernel_rfl
theorem s_same : MSound Try.prog 14 c_same := by
  refine rsound2 (Ctx.ok_of2 (M := Mx) (N := []) mixedA ok_high okD_plan okB_dgram) Try.func14 (by kernel_rfl) (by kernel_rfl) (fun us m K h => ?_)
  unfold c_same at h
  split at h
  · rename_i sa sb
    split at h
    · rename_i qa x za basea na ca tota xa qb y zb baseb nb cb totb xb hrd hrd'
      obtain ⟨hq, hq', h⟩ := h
      obtain ⟨hp, h⟩ := h
      refine ⟨Unit, fun _ => True, shM, shM, qa, x, za, basea, na, ca, tota, xa, 28, qb, y, zb, baseb, nb, cb, totb, xb, 28, sa, sb, [], [], [], [], (fun bk => match bk with | 0 => some { S := Nat, st := fun s => ⟨[.v (.one (.rs za 0 0 basea 6 0 xa.length ca)), .v (.one (.rs zb 0 1 baseb 6 0 xb.length cb)), .junk, .junk, .junk, .v (.one (.int .i64 false ((s : Int)))), .junk, .junk, .junk, .junk, .junk, .junk, .junk, .junk, .junk, .junk, .junk, .junk, .junk, .junk, .junk, .junk, .junk, .junk, .junk, .junk], [some (.rows true za shM xa basea tota 28), some (.rows true zb shM xb baseb totb 28)]⟩, ok := fun s => s ≤ xa.length ∧ sameN xa xb s = true, mu := fun s => xa.length - s, init := 0 } | _ => none), 400, fun _ => .v (.one (.bool false (decide (xa.length = xb.length) && sameN xa xb xa.length))), fun _ => [], (fun r m' => stLe 2 ⟨[r], m'⟩ ⟨[.v (.one (.bool false (decide (xa.length = xb.length) && sameN xa xb xa.length)))], none :: none :: []⟩), rfl, hrd, hq, hrd', hq', ⟨by simp [tmLe, svLe, vLe, lfLe, lfsLe, ifB, nmIs, idR], rfl⟩, ⟨by simp [tmLe, svLe, vLe, lfLe, lfsLe, ifB, nmIs, idR], rfl⟩, fun _ => rfl, fun hn hn' => ?_, fun r m' hr => ⟨(), trivial, hr⟩, fun e he => h e he⟩
      subst hn hn'
      refine by_nf (nf_same za basea ca tota xa zb baseb cb totb xb) ?_
      clear h hrd hrd' hq hq'
      refine ⟨fun h => ?_, fun h => ⟨⟨⟨⟨⟨⟨rfl, rfl, rfl, rfl, rfl⟩, trivial⟩, ⟨⟨rfl, rfl, rfl, rfl, rfl⟩, trivial⟩, rfl, trivial⟩, ⟨rfl, rfl, rfl, List.take_length⟩, ⟨rfl, rfl, rfl, List.take_length⟩, trivial⟩, by omega, rfl⟩, fun s hs => ⟨fun hc => ?_, fun hc => ?_⟩⟩⟩
      · have : decide (xa.length = xb.length) = false := decide_eq_false (by simp only [bne_iff_ne, ne_eq] at h; omega)
        rw [this]
        exact ⟨⟨rfl, trivial⟩, trivial⟩
      · simp only [decide_eq_true_eq] at hc
        simp only [bne_eq_false_iff_eq] at h
        obtain ⟨h1, h2⟩ := hs
        have e0 : (s : Int).toNat = s := by omega
        simp only [e0]
        have er := rowM_eq (getR xa s) (getR xb s)
        have st : sameN xa xb (s + 1) = (sameN xa xb s && decide (getR xa s = getR xb s)) := rfl
        rw [← er]
        refine ⟨by omega, by ((repeat' (refine And.intro ?_ ?_)) <;> first | exact True.intro | rfl | exact List.take_length | omega | assumption), by omega, by ((repeat' (refine And.intro ?_ ?_)) <;> first | exact True.intro | rfl | exact List.take_length | omega | assumption), fun k => ?_, fun k => ?_⟩
        · simp only [Bool.not_eq_true'] at k
          have bad : sameN xa xb xa.length = false := by
            have : ∀ n, sameN xa xb (s + 1 + n) = false := by
              intro n
              induction n with
              | zero => rw [Nat.add_zero, st, k, Bool.and_false]
              | succ n ih => show (sameN xa xb (s + 1 + n) && _) = false; rw [ih]; rfl
            have := this (xa.length - (s + 1))
            rwa [show s + 1 + (xa.length - (s + 1)) = xa.length by omega] at this
          rw [bad, Bool.and_false]
          ((repeat' (refine And.intro ?_ ?_)) <;> first | exact True.intro | rfl | exact List.take_length | omega | assumption)
        · simp only [Bool.not_eq_false'] at k
          have st2 : sameN xa xb (s + 1) = true := by rw [st, h2, k]; rfl
          refine ⟨by simp only [inR, klo, khi]; omega, s + 1, ?_⟩
          ((repeat' (refine And.intro ?_ ?_)) <;> first | exact True.intro | rfl | exact List.take_length | omega | assumption)
      · simp only [decide_eq_false_iff_not] at hc
        simp only [bne_eq_false_iff_eq] at h
        obtain ⟨h1, h2⟩ := hs
        have e : s = xa.length := by omega
        rw [← e, h2, decide_eq_true (by omega : s = xb.length)]
        exact ⟨⟨rfl, trivial⟩, trivial⟩
    · exact h.elim
  · exact h.elim
noncomputable def Δ_same : List (FuncId × MC) := (14, c_same) :: Δ_plan
theorem okD_same : ΔOk Try.prog Δ_same := ΔOk.cons s_same okD_plan

end Go.Proofs.Ytkfcajgingmneaa
