/- THE STABLE SORT OF VOICES, IN PLAIN LEAN: which list it is, and what keeps it. Conditions: none. Own work. -/
import Derived.Test.YtljnddhldjaglaaRM2
import Derived.Test.YtljnddhldjaglaaRexO
namespace Go.Proofs.Ytljnddhldjaglaa
open Go.RowKit Rex
set_option linter.unusedVariables false
set_option linter.unusedSimpArgs false

@[reducible] def shV : List Kd := [.int .i64, .int .i64, .int .i64, .int .i64, .int .i64, .int .i64, .int .i64, .int .i64, .int .i64, .int .i64, .int .i64, .int .i64]
abbrev RV := Row shV
/-- the order in which voices go: -1: the first ahead, 1: the second, 0: alike -/
def rkF (a0 a1 a2 a3 a4 b0 b1 b2 b3 b4 : Int) : Int := if loudB a0 a1 a2 a3 a4 b0 b1 b2 b3 b4 = true then -1 else if loudB b0 b1 b2 b3 b4 a0 a1 a2 a3 a4 = true then 1 else 0
theorem rkF_neg {a0 a1 a2 a3 a4 b0 b1 b2 b3 b4 : Int} : rkF a0 a1 a2 a3 a4 b0 b1 b2 b3 b4 < 0 ↔ loudB a0 a1 a2 a3 a4 b0 b1 b2 b3 b4 = true := by
  unfold rkF
  constructor
  · intro h
    split at h
    · assumption
    · split at h <;> omega
  · intro h
    rw [if_pos h]
    omega
/-- does the first go ahead of the second? -/
def ltV (p q : RV) : Bool := loudB p.2.2.2.2.2.2.2.1 p.1 p.2.1 p.2.2.1 p.2.2.2.1 q.2.2.2.2.2.2.2.1 q.1 q.2.1 q.2.2.1 q.2.2.2.1
def kV (p : RV) : Int × Int × Int × Int × Int := (p.2.2.2.2.2.2.2.1, p.1, p.2.1, p.2.2.1, p.2.2.2.1)
theorem ltV_irrefl (p : RV) : ltV p p = false := by
  cases h : ltV p p with
  | false => rfl
  | true => have := loud_asymm h; unfold ltV at h; rw [h] at this; cases this
theorem ltV_asymm {p q : RV} (h : ltV p q = true) : ltV q p = false := loud_asymm h
theorem leV_trans {p q r : RV} (h : ltV q p = false) (k : ltV r q = false) : ltV r p = false := by
  unfold ltV at *
  rw [Bool.eq_false_iff, ne_eq, loud_lex] at *
  omega
theorem ltV_leV {p q r : RV} (h : ltV p q = true) (k : ltV r q = false) : ltV p r = true := by
  unfold ltV at *
  rw [Bool.eq_false_iff, ne_eq, loud_lex] at k
  rw [loud_lex] at *
  omega
theorem leV_ltV {p q r : RV} (h : ltV q p = false) (k : ltV q r = true) : ltV p r = true := by
  unfold ltV at *
  rw [Bool.eq_false_iff, ne_eq, loud_lex] at h
  rw [loud_lex] at *
  omega
theorem ltV_key {p q : RV} (h : ltV p q = true) : kV p ≠ kV q := by
  intro e
  unfold kV at e
  simp only [Prod.mk.injEq] at e
  unfold ltV at h
  rw [loud_lex] at h
  omega
theorem ltV_key' {p q : RV} (h : ltV p q = true) : kV q ≠ kV p := fun e => ltV_key h e.symm
theorem key_of {p q : RV} (h : ltV p q = false) (k : ltV q p = false) : kV p = kV q := by
  have := loud_total h k
  unfold kV
  simp only [Prod.mk.injEq]
  exact this

/-! ### places of a list -/
section
variable {sh : List Kd}
theorem gR_lt {xs : List (Row sh)} {i : Nat} (h : i < xs.length) : getR xs i = xs[i] := by unfold getR; rw [List.getD_eq_getElem?_getD, List.getElem?_eq_getElem h]; rfl
theorem gR_some {xs : List (Row sh)} {i : Nat} (h : i < xs.length) : xs[i]? = some (getR xs i) := by rw [gR_lt h]; exact List.getElem?_eq_getElem h
theorem gR_ext {xs ys : List (Row sh)} (h : xs.length = ys.length) (k : ∀ i, i < xs.length → getR xs i = getR ys i) : xs = ys := by
  refine List.ext_getElem h fun i h1 h2 => ?_
  rw [← gR_lt h1, ← gR_lt h2]
  exact k i h1
theorem gR_set {xs : List (Row sh)} {i : Nat} (r : Row sh) (h : i < xs.length) (n : Nat) : getR (xs.set i r) n = if n = i then r else getR xs n := by
  unfold getR
  rw [List.getD_eq_getElem?_getD, List.getD_eq_getElem?_getD, List.getElem?_set]
  by_cases e : i = n
  · subst e; rw [if_pos rfl, if_pos h, if_pos rfl]; rfl
  · rw [if_neg e, if_neg (fun h => e h.symm)]
theorem gR_app (xs ys : List (Row sh)) (n : Nat) : getR (xs ++ ys) n = if n < xs.length then getR xs n else getR ys (n - xs.length) := by
  unfold getR
  rw [List.getD_eq_getElem?_getD, List.getD_eq_getElem?_getD, List.getD_eq_getElem?_getD, List.getElem?_append]
  split <;> rfl
theorem gR_take (xs : List (Row sh)) {m n : Nat} (h : n < m) : getR (xs.take m) n = getR xs n := by
  unfold getR
  rw [List.getD_eq_getElem?_getD, List.getD_eq_getElem?_getD, List.getElem?_take, if_pos h]
theorem gR_drop (xs : List (Row sh)) (m n : Nat) : getR (xs.drop m) n = getR xs (m + n) := by
  unfold getR
  rw [List.getD_eq_getElem?_getD, List.getD_eq_getElem?_getD, List.getElem?_drop]
theorem gR_mem {xs : List (Row sh)} {i : Nat} (h : i < xs.length) : getR xs i ∈ xs := by rw [gR_lt h]; exact List.getElem_mem h
theorem take_self {α : Type} {l m : List α} (h : l = m) : List.take m.length l = m := by rw [h]; exact List.take_length
end

/-- two rows change places -/
def sw (xs : List RV) (i j : Nat) : List RV := (xs.set i (getR xs j)).set j (getR xs i)
theorem sw_len (xs : List RV) (i j : Nat) : (sw xs i j).length = xs.length := by simp [sw]
theorem gR_sw {xs : List RV} {i j : Nat} (hi : i < xs.length) (hj : j < xs.length) (n : Nat) : getR (sw xs i j) n = if n = j then getR xs i else if n = i then getR xs j else getR xs n := by
  unfold sw
  rw [gR_set _ (by simpa using hj), gR_set _ hi]
theorem sw_comm {xs : List RV} {i j : Nat} (hi : i < xs.length) (hj : j < xs.length) : sw xs i j = sw xs j i := by
  refine gR_ext (by rw [sw_len, sw_len]) fun n _ => ?_
  rw [gR_sw hi hj, gR_sw hj hi]
  (repeat' split) <;> simp_all

def cls (k : Int × Int × Int × Int × Int) (l : List RV) : List RV := l.filter fun p => decide (kV p = k)
theorem cls_app (k) (l m : List RV) : cls k (l ++ m) = cls k l ++ cls k m := List.filter_append ..
theorem cls_nil {k} {l : List RV} (h : ∀ p ∈ l, kV p ≠ k) : cls k l = [] := by
  unfold cls
  rw [List.filter_eq_nil_iff]
  intro p hp
  simpa using h p hp
/-- the same rows, and those that are alike in the same order -/
def Alike (xs e : List RV) : Prop := e.length = xs.length ∧ ∀ k, cls k e = cls k xs
theorem Alike.rfl' (xs : List RV) : Alike xs xs := ⟨rfl, fun _ => rfl⟩
theorem Alike.trans {xs ys zs : List RV} (h : Alike xs ys) (k : Alike ys zs) : Alike xs zs := ⟨k.1.trans h.1, fun c => (k.2 c).trans (h.2 c)⟩
theorem Alike.symm {xs ys : List RV} (h : Alike xs ys) : Alike ys xs := ⟨h.1.symm, fun c => (h.2 c).symm⟩
/-- in order, from a place to another one -/
def SoR (xs : List RV) (a b : Nat) : Prop := ∀ i j, a ≤ i → i < j → j < b → ltV (getR xs j) (getR xs i) = false
theorem SoR.sub {xs : List RV} {a b a' b' : Nat} (h : SoR xs a b) (h1 : a ≤ a') (h2 : b' ≤ b) : SoR xs a' b' := fun i j k1 k2 k3 => h i j (by omega) k2 (by omega)
theorem SoR.one {xs : List RV} {a b : Nat} (h : b ≤ a + 1) : SoR xs a b := fun i j k1 k2 k3 => by omega
theorem SoR.le {xs : List RV} {a b i j : Nat} (h : SoR xs a b) (h1 : a ≤ i) (h2 : i ≤ j) (h3 : j < b) : ltV (getR xs j) (getR xs i) = false := by
  by_cases e : i = j
  · subst e; exact ltV_irrefl _
  · exact h i j h1 (by omega) h3
theorem SoR.congr {xs ys : List RV} {a b : Nat} (h : SoR xs a b) (k : ∀ i, a ≤ i → i < b → getR ys i = getR xs i) : SoR ys a b := fun i j k1 k2 k3 => by
  rw [k i k1 (by omega), k j (by omega) k3]; exact h i j k1 k2 k3
/-- only the rows from a place to another one change places among each other -/
def Mix (xs e : List RV) (a b : Nat) : Prop := ∀ i, ((i < a ∨ b ≤ i) → getR e i = getR xs i) ∧ (a ≤ i → i < b → ∃ j, a ≤ j ∧ j < b ∧ getR e i = getR xs j)
theorem Mix.rfl' (xs : List RV) (a b : Nat) : Mix xs xs a b := fun i => ⟨fun _ => rfl, fun h1 h2 => ⟨i, h1, h2, rfl⟩⟩
theorem Mix.trans {xs ys zs : List RV} {a b a' b' : Nat} (h : Mix xs ys a b) (k : Mix ys zs a' b') (h1 : a ≤ a') (h2 : b' ≤ b) : Mix xs zs a b := by
  intro i
  refine ⟨fun hi => ?_, fun i1 i2 => ?_⟩
  · rw [(k i).1 (by omega), (h i).1 hi]
  · by_cases e : a' ≤ i ∧ i < b'
    · obtain ⟨j, j1, j2, e1⟩ := (k i).2 e.1 e.2
      obtain ⟨l, l1, l2, e2⟩ := (h j).2 (by omega) (by omega)
      exact ⟨l, l1, l2, by rw [e1, e2]⟩
    · obtain ⟨l, l1, l2, e2⟩ := (h i).2 i1 i2
      exact ⟨l, l1, l2, by rw [(k i).1 (by omega), e2]⟩
theorem Mix.sw {xs : List RV} {a b i j : Nat} (hb : b ≤ xs.length) (hi : a ≤ i ∧ i < b) (hj : a ≤ j ∧ j < b) : Mix xs (sw xs i j) a b := by
  intro n
  rw [gR_sw (by omega) (by omega)]
  refine ⟨fun h => ?_, fun h1 h2 => ?_⟩
  · rw [if_neg (by omega), if_neg (by omega)]
  · split
    · exact ⟨i, hi.1, hi.2, rfl⟩
    · split
      · exact ⟨j, hj.1, hj.2, rfl⟩
      · exact ⟨n, h1, h2, rfl⟩

/-! ### the list that is meant -/
theorem sorted_unique : ∀ {l m : List RV}, Alike l m → SoR l 0 l.length → SoR m 0 m.length → l = m
  | [], m, h, _, _ => by
    have := h.1
    cases m with
    | nil => rfl
    | cons _ _ => simp at this
  | x :: l, [], h, _, _ => by have := h.1; simp at this
  | x :: l, y :: m, h, hl, hm => by
    have least : ∀ {z : RV} {t : List RV}, SoR (z :: t) 0 (z :: t).length → ∀ p ∈ z :: t, ltV p z = false := by
      intro z t hs p hp
      obtain ⟨i, hi, rfl⟩ := List.mem_iff_getElem.1 hp
      have := hs.le (i := 0) (j := i) (Nat.le_refl _) (Nat.zero_le _) hi
      rw [gR_lt hi] at this
      exact this
    have mem : ∀ {u v : List RV}, Alike u v → ∀ p ∈ u, ∃ q ∈ v, kV q = kV p := by
      intro u v huv p hp
      have h1 : p ∈ cls (kV p) u := by unfold cls; rw [List.mem_filter]; exact ⟨hp, by simp⟩
      rw [← huv.2] at h1
      exact ⟨p, (List.mem_filter.1 h1).1, rfl⟩
    have kk : ∀ {p q r : RV}, kV q = kV p → ltV q r = ltV p r := by
      intro p q r e
      unfold kV at e
      simp only [Prod.mk.injEq] at e
      unfold ltV
      rw [e.1, e.2.1, e.2.2.1, e.2.2.2.1, e.2.2.2.2]
    have e : kV x = kV y := by
      obtain ⟨q, hq, hqk⟩ := mem h x (List.mem_cons_self ..)
      obtain ⟨r, hr, hrk⟩ := mem h.symm y (List.mem_cons_self ..)
      have a1 := least hm q hq
      have a2 := least hl r hr
      rw [kk hqk] at a1
      rw [kk hrk] at a2
      exact key_of a1 a2
    have hx := h.2 (kV x)
    have exy : x = y := by
      unfold cls at hx
      rw [List.filter_cons_of_pos (by simpa using e.symm), List.filter_cons_of_pos (by simp)] at hx
      exact (List.cons.inj hx).1.symm
    subst exy
    have ht : Alike l m := by
      refine ⟨by have := h.1; simpa using this, fun k => ?_⟩
      have := h.2 k
      unfold cls at *
      by_cases hk : kV x = k
      · rw [List.filter_cons_of_pos (by simp [hk]), List.filter_cons_of_pos (by simp [hk])] at this
        exact (List.cons.inj this).2
      · rw [List.filter_cons_of_neg (by simp [hk]), List.filter_cons_of_neg (by simp [hk])] at this
        exact this
    have tl : ∀ {z : RV} {t : List RV}, SoR (z :: t) 0 (z :: t).length → SoR t 0 t.length := fun hs i j h1 h2 h3 => hs (i + 1) (j + 1) (by omega) (by omega) (by simp; omega)
    rw [sorted_unique ht (tl hl) (tl hm)]
def insF (x : RV) : List RV → List RV
  | [] => [x]
  | y :: l => if ltV y x = true then y :: insF x l else x :: y :: l
/-- sorted, those that are alike in their order -/
def sortF : List RV → List RV
  | [] => []
  | x :: l => insF x (sortF l)
theorem insF_alike (x : RV) : ∀ l, Alike (x :: l) (insF x l)
  | [] => Alike.rfl' _
  | y :: l => by
    unfold insF
    split
    · rename_i h
      have ih := insF_alike x l
      refine ⟨by simp [ih.1], fun k => ?_⟩
      have ih2 := ih.2 k
      have hk := ltV_key h
      unfold cls at *
      by_cases h1 : kV y = k
      · have h2 : ¬ kV x = k := fun h2 => hk (h1.trans h2.symm)
        rw [List.filter_cons_of_neg (by simp [h2])] at ih2
        rw [List.filter_cons_of_pos (by simp [h1]), List.filter_cons_of_neg (by simp [h2]), List.filter_cons_of_pos (by simp [h1]), ih2]
      · rw [List.filter_cons_of_neg (by simp [h1]), ih2]
        by_cases h2 : kV x = k
        · rw [List.filter_cons_of_pos (by simp [h2]), List.filter_cons_of_pos (by simp [h2]), List.filter_cons_of_neg (by simp [h1])]
        · rw [List.filter_cons_of_neg (by simp [h2]), List.filter_cons_of_neg (by simp [h2]), List.filter_cons_of_neg (by simp [h1])]
    · exact Alike.rfl' _
theorem sor_cons {x : RV} {l : List RV} : SoR (x :: l) 0 (x :: l).length ↔ (∀ p ∈ l, ltV p x = false) ∧ SoR l 0 l.length := by
  constructor
  · intro h
    refine ⟨fun p hp => ?_, fun i j h1 h2 h3 => h (i + 1) (j + 1) (by omega) (by omega) (by simp; omega)⟩
    obtain ⟨i, hi, rfl⟩ := List.mem_iff_getElem.1 hp
    have := h 0 (i + 1) (by omega) (by omega) (by simp; omega)
    rw [← gR_lt hi]
    exact this
  · rintro ⟨h, k⟩ i j h1 h2 h3
    cases i with
    | zero =>
      cases j with
      | zero => omega
      | succ j => exact h _ (gR_mem (xs := l) (i := j) (by simp at h3; omega))
    | succ i =>
      cases j with
      | zero => omega
      | succ j => exact k i j (by omega) (by omega) (by simp at h3; omega)
theorem insF_mem {x p : RV} : ∀ {l}, p ∈ insF x l → p = x ∨ p ∈ l
  | [], h => by simpa [insF] using h
  | y :: l, h => by
    unfold insF at h
    split at h
    · rcases List.mem_cons.1 h with h | h
      · exact .inr (by simp [h])
      · rcases insF_mem h with h | h
        · exact .inl h
        · exact .inr (List.mem_cons_of_mem _ h)
    · rcases List.mem_cons.1 h with h | h
      · exact .inl h
      · exact .inr h
theorem insF_sor {x : RV} : ∀ {l : List RV}, SoR l 0 l.length → SoR (insF x l) 0 (insF x l).length
  | [], _ => SoR.one (by simp [insF])
  | y :: l, h => by
    unfold insF
    obtain ⟨h1, h2⟩ := sor_cons.1 h
    split
    · rename_i hlt
      refine sor_cons.2 ⟨fun p hp => ?_, insF_sor h2⟩
      rcases insF_mem hp with rfl | hp
      · exact ltV_asymm hlt
      · exact h1 p hp
    · rename_i hlt
      have hlt : ltV y x = false := by simpa using hlt
      refine sor_cons.2 ⟨fun p hp => ?_, h⟩
      rcases List.mem_cons.1 hp with rfl | hp
      · exact hlt
      · exact leV_trans hlt (h1 p hp)
theorem sortF_sor : ∀ l, SoR (sortF l) 0 (sortF l).length
  | [] => SoR.one (by simp [sortF])
  | x :: l => insF_sor (sortF_sor l)
theorem cls_cons_congr {k} {x : RV} {l m : List RV} (h : cls k l = cls k m) : cls k (x :: l) = cls k (x :: m) := by
  unfold cls at *
  by_cases e : kV x = k
  · rw [List.filter_cons_of_pos (by simp [e]), List.filter_cons_of_pos (by simp [e]), h]
  · rw [List.filter_cons_of_neg (by simp [e]), List.filter_cons_of_neg (by simp [e]), h]
theorem sortF_alike : ∀ l, Alike l (sortF l)
  | [] => Alike.rfl' _
  | x :: l => by
    have ih := sortF_alike l
    refine Alike.trans ⟨by simp [ih.1], fun k => ?_⟩ (insF_alike x (sortF l))
    exact cls_cons_congr (ih.2 k)
theorem sortF_eq {xs e : List RV} (h : Alike xs e) (k : SoR e 0 e.length) : e = sortF xs := sorted_unique (h.symm.trans (sortF_alike xs)) k (sortF_sor xs)
theorem sortF_len (l : List RV) : (sortF l).length = l.length := (sortF_alike l).1

/-! ### what the sort does -/
theorem list3 (xs : List RV) {i : Nat} (h : i + 1 < xs.length) : xs = xs.take i ++ getR xs i :: getR xs (i + 1) :: xs.drop (i + 2) := by
  conv => lhs; rw [← List.take_append_drop i xs, List.drop_eq_getElem_cons (by omega : i < xs.length), List.drop_eq_getElem_cons h]
  rw [gR_lt h, gR_lt (by omega : i < xs.length)]
theorem alike_adj {xs : List RV} {i : Nat} (h : i + 1 < xs.length) (hk : kV (getR xs i) ≠ kV (getR xs (i + 1))) : Alike xs (sw xs i (i + 1)) := by
  have e : sw xs i (i + 1) = xs.take i ++ getR xs (i + 1) :: getR xs i :: xs.drop (i + 2) := by
    refine gR_ext (by rw [sw_len]; simp; omega) fun n hn => ?_
    rw [gR_sw (by omega) h, gR_app]
    have l : (xs.take i).length = i := by simp; omega
    rw [l]
    by_cases e1 : n = i + 1
    · rw [if_pos e1, if_neg (by omega), show n - i = 1 by omega]; rfl
    · by_cases e2 : n = i
      · rw [if_neg e1, if_pos e2, if_neg (by omega), show n - i = 0 by omega]; rfl
      · rw [if_neg e1, if_neg e2]
        split
        · rw [gR_take xs (by omega)]
        · rw [show n - i = (n - (i + 2)) + 2 by omega]
          show getR xs n = getR (xs.drop (i + 2)) (n - (i + 2))
          rw [gR_drop, show i + 2 + (n - (i + 2)) = n by omega]
  refine ⟨sw_len .., fun k => ?_⟩
  rw [e]
  conv => rhs; rw [list3 xs h]
  rw [cls_app, cls_app]
  congr 1
  unfold cls
  by_cases h1 : kV (getR xs i) = k
  · have h2 : ¬ kV (getR xs (i + 1)) = k := fun h2 => hk (h1.trans h2.symm)
    simp [List.filter_cons, h1, h2]
  · by_cases h2 : kV (getR xs (i + 1)) = k
    · simp [List.filter_cons, h1, h2]
    · simp [List.filter_cons, h1, h2]
/-- two neighbouring ranges change places -/
def rotL (xs : List RV) (a m b : Nat) : List RV := (List.range xs.length).map fun n => if n < a ∨ b ≤ n then getR xs n else if n < a + (b - m) then getR xs (n + (m - a)) else getR xs (n - (b - m))
theorem rotL_len (xs : List RV) (a m b : Nat) : (rotL xs a m b).length = xs.length := by simp [rotL]
theorem gR_rot {xs : List RV} {a m b n : Nat} (h : n < xs.length) : getR (rotL xs a m b) n = if n < a ∨ b ≤ n then getR xs n else if n < a + (b - m) then getR xs (n + (m - a)) else getR xs (n - (b - m)) := by
  rw [gR_lt (by rw [rotL_len]; exact h)]
  simp [rotL]
theorem rot_none {xs : List RV} {a m b : Nat} (h : m = a ∨ m = b) (h1 : a ≤ m) (h2 : m ≤ b) : rotL xs a m b = xs := by
  refine gR_ext (rotL_len ..) fun n hn => ?_
  rw [rotL_len] at hn
  rw [gR_rot hn]
  (repeat' split) <;> first | rfl | (congr 1; omega)
theorem rot_app {xs : List RV} {a m b : Nat} (h1 : a ≤ m) (h2 : m ≤ b) (h3 : b ≤ xs.length) :
    rotL xs a m b = xs.take a ++ ((xs.drop m).take (b - m) ++ ((xs.drop a).take (m - a) ++ xs.drop b)) := by
  refine gR_ext (by rw [rotL_len]; simp; omega) fun n hn => ?_
  rw [rotL_len] at hn
  rw [gR_rot hn, gR_app, gR_app, gR_app]
  have l1 : (xs.take a).length = a := by simp; omega
  have l2 : ((xs.drop m).take (b - m)).length = b - m := by simp; omega
  have l3 : ((xs.drop a).take (m - a)).length = m - a := by simp; omega
  rw [l1, l2, l3]
  by_cases c1 : n < a
  · rw [if_pos (by omega), if_pos c1, gR_take xs c1]
  · rw [if_neg c1]
    by_cases c2 : n - a < b - m
    · rw [if_neg (by omega), if_pos (by omega), if_pos c2, gR_take _ c2, gR_drop]; congr 1; omega
    · rw [if_neg c2]
      by_cases c3 : n - a - (b - m) < m - a
      · rw [if_neg (by omega), if_neg (by omega), if_pos c3, gR_take _ c3, gR_drop]; congr 1; omega
      · rw [if_neg c3, if_pos (by omega), gR_drop]; congr 1; omega
theorem cut4 (xs : List RV) {a m b : Nat} (h1 : a ≤ m) (h2 : m ≤ b) (h3 : b ≤ xs.length) : xs = xs.take a ++ ((xs.drop a).take (m - a) ++ ((xs.drop m).take (b - m) ++ xs.drop b)) := by
  refine gR_ext (by simp; omega) fun n hn => ?_
  rw [gR_app, gR_app, gR_app]
  have l1 : (xs.take a).length = a := by simp; omega
  have l2 : ((xs.drop m).take (b - m)).length = b - m := by simp; omega
  have l3 : ((xs.drop a).take (m - a)).length = m - a := by simp; omega
  rw [l1, l2, l3]
  by_cases c1 : n < a
  · rw [if_pos c1, gR_take xs c1]
  · rw [if_neg c1]
    by_cases c2 : n - a < m - a
    · rw [if_pos c2, gR_take _ c2, gR_drop]; congr 1; omega
    · rw [if_neg c2]
      by_cases c3 : n - a - (m - a) < b - m
      · rw [if_pos c3, gR_take _ c3, gR_drop]; congr 1; omega
      · rw [if_neg c3, gR_drop]; congr 1; omega
theorem mem_part {xs : List RV} {a n : Nat} {p : RV} (h : p ∈ (xs.drop a).take n) : ∃ i, a ≤ i ∧ i < a + n ∧ p = getR xs i := by
  obtain ⟨i, hi, rfl⟩ := List.mem_iff_getElem.1 h
  have hi' : i < n := by simp at hi; omega
  refine ⟨a + i, by omega, by omega, ?_⟩
  rw [← gR_lt hi, gR_take _ hi', gR_drop]
theorem alike_rot {xs : List RV} {a m b : Nat} (h1 : a ≤ m) (h2 : m ≤ b) (h3 : b ≤ xs.length) (hk : ∀ p q, a ≤ p → p < m → m ≤ q → q < b → kV (getR xs p) ≠ kV (getR xs q)) : Alike xs (rotL xs a m b) := by
  refine ⟨rotL_len .., fun k => ?_⟩
  rw [rot_app h1 h2 h3]
  conv => rhs; rw [cut4 xs h1 h2 h3]
  rw [cls_app, cls_app, cls_app, cls_app, cls_app, cls_app]
  congr 1
  rw [← List.append_assoc, ← List.append_assoc]
  congr 1
  by_cases e : ∃ p, a ≤ p ∧ p < m ∧ kV (getR xs p) = k
  · obtain ⟨p, p1, p2, p3⟩ := e
    have : cls k ((xs.drop m).take (b - m)) = [] := cls_nil fun r hr => by
      obtain ⟨q, q1, q2, rfl⟩ := mem_part hr
      intro e
      exact hk p q p1 p2 q1 (by omega) (p3.trans e.symm)
    rw [this, List.nil_append, List.append_nil]
  · have : cls k ((xs.drop a).take (m - a)) = [] := cls_nil fun r hr => by
      obtain ⟨q, q1, q2, rfl⟩ := mem_part hr
      intro e2
      exact e ⟨q, q1, by omega, e2⟩
    rw [this, List.nil_append, List.append_nil]
theorem mx_rot {xs : List RV} {a m b : Nat} (h1 : a ≤ m) (h2 : m ≤ b) (h3 : b ≤ xs.length) : Mix xs (rotL xs a m b) a b := by
  intro i
  refine ⟨fun h => ?_, fun i1 i2 => ?_⟩
  · by_cases e : i < xs.length
    · rw [gR_rot e, if_pos h]
    · unfold getR
      rw [List.getD_eq_getElem?_getD, List.getD_eq_getElem?_getD, List.getElem?_eq_none (by rw [rotL_len]; omega), List.getElem?_eq_none (by omega)]
  · rw [gR_rot (by omega), if_neg (by omega)]
    split
    · exact ⟨_, by omega, by omega, rfl⟩
    · exact ⟨_, by omega, by omega, rfl⟩
/-- two ranges of rows change places, place by place -/
def swapN (xs : List RV) (a b : Nat) : Nat → List RV
  | 0 => xs
  | n + 1 => sw (swapN xs a b n) (a + n) (b + n)
theorem swapN_len (xs : List RV) (a b n : Nat) : (swapN xs a b n).length = xs.length := by
  induction n with
  | zero => rfl
  | succ n ih => rw [swapN, sw_len, ih]
theorem gR_swapN {xs : List RV} {a b : Nat} : ∀ {n : Nat}, a + n ≤ b → b + n ≤ xs.length → ∀ i, getR (swapN xs a b n) i = if a ≤ i ∧ i < a + n then getR xs (i + (b - a)) else if b ≤ i ∧ i < b + n then getR xs (i - (b - a)) else getR xs i
  | 0, h1, h2, i => by rw [if_neg (by omega), if_neg (by omega)]; rfl
  | n + 1, h1, h2, i => by
    have ih := gR_swapN (xs := xs) (a := a) (b := b) (n := n) (by omega) (by omega)
    rw [swapN, gR_sw (by rw [swapN_len]; omega) (by rw [swapN_len]; omega), ih, ih, ih]
    by_cases c1 : i = b + n
    · subst c1
      rw [if_pos rfl, if_neg (by omega), if_neg (by omega), if_neg (by omega), if_pos (by omega)]; congr 1; omega
    · rw [if_neg c1]
      by_cases c2 : i = a + n
      · subst c2
        rw [if_pos rfl, if_neg (by omega), if_neg (by omega), if_pos (by omega)]; congr 1; omega
      · rw [if_neg c2]
        by_cases c3 : a ≤ i ∧ i < a + n
        · rw [if_pos c3, if_pos (by omega)]
        · rw [if_neg c3, if_neg (show ¬ (a ≤ i ∧ i < a + (n + 1)) by omega)]
          by_cases c4 : b ≤ i ∧ i < b + n
          · rw [if_pos c4, if_pos (by omega)]
          · rw [if_neg c4, if_neg (by omega)]
/-- the rotation's rounds -/
theorem rot_end {xs : List RV} {m i : Nat} (h : i ≤ m) (h2 : m + i ≤ xs.length) : swapN xs (m - i) m i = rotL xs (m - i) m (m + i) := by
  refine gR_ext (by rw [swapN_len, rotL_len]) fun n hn => ?_
  rw [swapN_len] at hn
  rw [gR_swapN (by omega) (by omega), gR_rot hn]
  (repeat' split) <;> first | rfl | omega | (congr 1; omega)
theorem rot_left {xs : List RV} {m i j : Nat} (h : i ≤ m) (hj : j < i) (h2 : m + j ≤ xs.length) : rotL (swapN xs (m - i) m j) (m - (i - j)) m (m + j) = rotL xs (m - i) m (m + j) := by
  refine gR_ext (by rw [rotL_len, rotL_len, swapN_len]) fun n hn => ?_
  rw [rotL_len, swapN_len] at hn
  rw [gR_rot (by rw [swapN_len]; exact hn), gR_rot hn]
  simp only [gR_swapN (show m - i + j ≤ m by omega) (show m + j ≤ xs.length by omega)]
  (repeat' split) <;> first | rfl | omega | (congr 1; omega)
theorem rot_right {xs : List RV} {m i j : Nat} (h : i ≤ m) (hj : i < j) (h2 : m + j ≤ xs.length) : rotL (swapN xs (m - i) (m + j - i) i) (m - i) m (m + (j - i)) = rotL xs (m - i) m (m + j) := by
  refine gR_ext (by rw [rotL_len, rotL_len, swapN_len]) fun n hn => ?_
  rw [rotL_len, swapN_len] at hn
  rw [gR_rot (by rw [swapN_len]; exact hn), gR_rot hn]
  simp only [gR_swapN (show m - i + i ≤ m + j - i by omega) (show m + j - i + i ≤ xs.length by omega)]
  (repeat' split) <;> first | rfl | omega | (congr 1; omega)
/-- one row goes up by one -/
theorem rot_up {xs : List RV} {a k : Nat} (h : a ≤ k) (h2 : k + 1 < xs.length) : sw (rotL xs a (a + 1) (k + 1)) k (k + 1) = rotL xs a (a + 1) (k + 2) := by
  refine gR_ext (by rw [sw_len, rotL_len, rotL_len]) fun n hn => ?_
  rw [sw_len, rotL_len] at hn
  rw [gR_sw (by rw [rotL_len]; omega) (by rw [rotL_len]; omega), gR_rot (by omega), gR_rot (by omega), gR_rot hn, gR_rot hn]
  (repeat' split) <;> first | rfl | omega | (congr 1; omega)
/-- one row goes down by one -/
theorem rot_down {xs : List RV} {k m : Nat} (h : 0 < k) (h1 : k ≤ m) (h2 : m < xs.length) : sw (rotL xs k m (m + 1)) k (k - 1) = rotL xs (k - 1) m (m + 1) := by
  refine gR_ext (by rw [sw_len, rotL_len, rotL_len]) fun n hn => ?_
  rw [sw_len, rotL_len] at hn
  rw [gR_sw (by rw [rotL_len]; omega) (by rw [rotL_len]; omega), gR_rot (by omega), gR_rot (by omega), gR_rot hn, gR_rot hn]
  (repeat' split) <;> first | rfl | omega | (congr 1; omega)
end Go.Proofs.Ytljnddhldjaglaa
