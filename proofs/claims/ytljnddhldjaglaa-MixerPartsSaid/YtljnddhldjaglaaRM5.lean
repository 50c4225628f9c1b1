/- THE STABLE SORT. Conditions: the contracts' own. Own work; the normal forms were printed by a program of mine (wip/rex). -/
import Derived.Test.YtljnddhldjaglaaRM4
namespace Go.Proofs.Ytljnddhldjaglaa
open Go.RowKit Rex
set_option linter.unusedVariables false
set_option linter.unusedSimpArgs false
set_option maxRecDepth 100000


/-- blocks of 20 are in order, ahead of a place -/
def BlA (xs ys : List RV) (a : Nat) : Prop := ((a = 0 ∨ a = 20 ∨ a = 40 ∨ a = 60) ∧ a ≤ xs.length) ∧ Alike xs ys ∧ (20 ≤ a → SoR ys 0 20) ∧ (40 ≤ a → SoR ys 20 40) ∧ (60 ≤ a → SoR ys 40 60)
def BlS (xs ys : List RV) (s : Nat) : Prop := Alike xs ys ∧ ((s = 20 ∧ SoR ys 0 (min 20 xs.length) ∧ SoR ys 20 (min 40 xs.length) ∧ SoR ys 40 (min 60 xs.length) ∧ SoR ys 60 xs.length) ∨ (s = 40 ∧ SoR ys 0 (min 40 xs.length) ∧ SoR ys 40 xs.length) ∨ (s = 80 ∧ SoR ys 0 xs.length))
def BlI (xs ys : List RV) (s a : Nat) : Prop := s < xs.length ∧ Alike xs ys ∧ ((s = 20 ∧ a = 0 ∧ SoR ys 0 20 ∧ SoR ys 20 (min 40 xs.length) ∧ SoR ys 40 (min 60 xs.length) ∧ SoR ys 60 xs.length) ∨ (s = 20 ∧ a = 40 ∧ 40 ≤ xs.length ∧ SoR ys 0 40 ∧ SoR ys 40 (min 60 xs.length) ∧ SoR ys 60 xs.length) ∨ (s = 40 ∧ a = 0 ∧ SoR ys 0 40 ∧ SoR ys 40 xs.length))
theorem mix_l {xs e : List RV} {a b c d : Nat} (m : Mix xs e a b) (h : SoR xs c d) (k : d ≤ a ∨ b ≤ c) : SoR e c d := h.congr fun i h1 h2 => (m i).1 (by omega)
theorem bla_step {xs ys e : List RV} {a : Nat} (h : BlA xs ys a) (h64 : xs.length ≤ 64) (hb : a + 20 ≤ xs.length) (al : Alike ys e) (mx : Mix ys e a (a + 20)) (so : SoR e a (a + 20)) : BlA xs e (a + 20) := by
  obtain ⟨⟨h1, h2⟩, h3, h4, h5, h6⟩ := h
  refine ⟨⟨by omega, hb⟩, h3.trans al, fun k => ?_, fun k => ?_, fun k => ?_⟩
  · by_cases c : a = 0
    · subst c; exact so
    · exact mix_l mx (h4 (by omega)) (by omega)
  · by_cases c : a = 20
    · subst c; exact so
    · exact mix_l mx (h5 (by omega)) (by omega)
  · by_cases c : a = 40
    · subst c; exact so
    · exact mix_l mx (h6 (by omega)) (by omega)
theorem bla_end {xs ys e : List RV} {a : Nat} (h : BlA xs ys a) (h64 : xs.length ≤ 64) (hb : ¬ a + 20 ≤ xs.length) (al : Alike ys e) (mx : Mix ys e a xs.length) (so : SoR e a xs.length) : BlS xs e 20 := by
  obtain ⟨⟨h1, h2⟩, h3, h4, h5, h6⟩ := h
  refine ⟨h3.trans al, .inl ⟨rfl, ?_, ?_, ?_, ?_⟩⟩
  · by_cases c : 20 ≤ a
    · exact (mix_l mx (h4 c) (by omega)).sub (Nat.le_refl _) (by omega)
    · exact so.sub (by omega) (by omega)
  · by_cases c : 40 ≤ a
    · exact (mix_l mx (h5 c) (by omega)).sub (Nat.le_refl _) (by omega)
    · by_cases c2 : a ≤ 20
      · exact so.sub (by omega) (by omega)
      · omega
  · by_cases c : 60 ≤ a
    · exact (mix_l mx (h6 c) (by omega)).sub (Nat.le_refl _) (by omega)
    · exact so.sub (by omega) (by omega)
  · exact so.sub (by omega) (Nat.le_refl _)
theorem bls_in {xs ys : List RV} {s : Nat} (h : BlS xs ys s) (hs : s < xs.length) (h64 : xs.length ≤ 64) : BlI xs ys s 0 := by
  obtain ⟨h1, h2 | h2 | h2⟩ := h
  · obtain ⟨rfl, k1, k2, k3, k4⟩ := h2
    exact ⟨hs, h1, .inl ⟨rfl, rfl, k1.sub (Nat.le_refl _) (by omega), k2, k3, k4⟩⟩
  · obtain ⟨rfl, k1, k2⟩ := h2
    exact ⟨hs, h1, .inr (.inr ⟨rfl, rfl, k1.sub (Nat.le_refl _) (by omega), k2⟩)⟩
  · omega
theorem bls_end {xs ys : List RV} {s : Nat} (h : BlS xs ys s) (hs : ¬ s < xs.length) (h64 : xs.length ≤ 64) : ys = sortF xs := by
  obtain ⟨h1, h2⟩ := h
  have l := h1.1
  refine sortF_eq h1 ?_
  rw [l]
  rcases h2 with ⟨rfl, k1, _⟩ | ⟨rfl, k1, _⟩ | ⟨rfl, k1⟩
  · exact k1.sub (Nat.le_refl _) (by omega)
  · exact k1.sub (Nat.le_refl _) (by omega)
  · exact k1
/-- a round of the inner loop -/
theorem bli_pre {xs ys : List RV} {s a : Nat} (h : BlI xs ys s a) (h64 : xs.length ≤ 64) (hb : a + 2 * s ≤ xs.length) : s = 20 ∧ a = 0 ∧ SoR ys 0 20 ∧ SoR ys 20 40 := by
  obtain ⟨h0, h1, h2⟩ := h
  rcases h2 with ⟨rfl, rfl, k1, k2, _⟩ | ⟨rfl, rfl, k0, k1, _⟩ | ⟨rfl, rfl, _⟩
  · exact ⟨rfl, rfl, k1, k2.sub (Nat.le_refl _) (by omega)⟩
  · omega
  · omega
theorem bli_step {xs ys e : List RV} (h : BlI xs ys 20 0) (h64 : xs.length ≤ 64) (hb : 40 ≤ xs.length) (al : Alike ys e) (mx : Mix ys e 0 40) (so : SoR e 0 40) : BlI xs e 20 40 := by
  obtain ⟨h0, h1, h2⟩ := h
  rcases h2 with ⟨_, _, k1, k2, k3, k4⟩ | ⟨_, h, _⟩ | ⟨h, _⟩
  · exact ⟨h0, h1.trans al, .inr (.inl ⟨rfl, rfl, hb, so, mix_l mx k3 (by omega), mix_l mx k4 (by omega)⟩)⟩
  · omega
  · omega
theorem bli_last {xs ys : List RV} {s a : Nat} (h : BlI xs ys s a) (h64 : xs.length ≤ 64) (hb : ¬ a + 2 * s ≤ xs.length) (hm : a + s < xs.length) : SoR ys a (a + s) ∧ SoR ys (a + s) xs.length ∧ (s = 20 ∨ s = 40) ∧ a ≤ 40 := by
  obtain ⟨h0, h1, h2⟩ := h
  rcases h2 with ⟨rfl, rfl, k1, k2, k3, k4⟩ | ⟨rfl, rfl, k0, k1, k2, k3⟩ | ⟨rfl, rfl, k1, k2⟩
  · exact ⟨k1, k2.sub (Nat.le_refl _) (by omega), by omega, by omega⟩
  · exact ⟨k2.sub (Nat.le_refl _) (by omega), k3, by omega, by omega⟩
  · exact ⟨k1, k2, by omega, by omega⟩
theorem bli_call {xs ys e : List RV} {s a : Nat} (h : BlI xs ys s a) (h64 : xs.length ≤ 64) (hb : ¬ a + 2 * s ≤ xs.length) (hm : a + s < xs.length) (al : Alike ys e) (mx : Mix ys e a xs.length) (so : SoR e a xs.length) : BlS xs e (s * 2) := by
  obtain ⟨h0, h1, h2⟩ := h
  rcases h2 with ⟨rfl, rfl, k1, k2, k3, k4⟩ | ⟨rfl, rfl, k0, k1, k2, k3⟩ | ⟨rfl, rfl, k1, k2⟩
  · exact ⟨h1.trans al, .inr (.inl ⟨rfl, so.sub (Nat.le_refl _) (by omega), SoR.one (by omega)⟩)⟩
  · exact ⟨h1.trans al, .inr (.inl ⟨rfl, (mix_l mx k1 (by omega)).sub (Nat.le_refl _) (by omega), so⟩)⟩
  · exact ⟨h1.trans al, .inr (.inr ⟨rfl, so⟩)⟩
theorem bli_skip {xs ys : List RV} {s a : Nat} (h : BlI xs ys s a) (h64 : xs.length ≤ 64) (hb : ¬ a + 2 * s ≤ xs.length) (hm : ¬ a + s < xs.length) : BlS xs ys (s * 2) := by
  obtain ⟨h0, h1, h2⟩ := h
  rcases h2 with ⟨rfl, rfl, k1, k2, k3, k4⟩ | ⟨rfl, rfl, k0, k1, k2, k3⟩ | ⟨rfl, rfl, k1, k2⟩
  · omega
  · exact ⟨h1, .inr (.inl ⟨rfl, k1.sub (Nat.le_refl _) (by omega), k2.sub (Nat.le_refl _) (by omega)⟩)⟩
  · omega
theorem bli_bd {xs ys : List RV} {s a : Nat} (h : BlI xs ys s a) : (s = 20 ∨ s = 40) ∧ (a = 0 ∨ a = 40) ∧ s < xs.length := by
  obtain ⟨h0, h1, h2⟩ := h
  rcases h2 with ⟨rfl, rfl, _⟩ | ⟨rfl, rfl, _⟩ | ⟨rfl, rfl, _⟩ <;> omega


noncomputable def c_stable : MC := fun us m K => match us with
  | [s, .v (.one (.int .i64 _ nn)), .clo 47 []] => match owS shV 50 m s with
    | some (q, x, z, n, c, xs) => q ∧ (xs.length ≤ 64 ∧ nn = (xs.length : Int)) ∧ (∀ e : Unit, (True) → K ((SV.tup []).ren (back [x] m.length)) (backM [x] [] m [some (.rows false z shV (sortF xs) 0 c 50)]))
    | none => False
  | _ => False
theorem nf_stable (z : Bool) (c : Nat) (xs : List (Row shV)) (nn : Int) : goal ⟨Mx, Try.prog, Γ_rank, Δ_symMerge, B0, none, false, [], none⟩ (fun bk => match bk with | 0 => some { S := List RV × Nat, st := fun s => ⟨[.v (.one (.rs z 0 0 0 12 0 (List.length xs) c)), .v (.one (.int .i64 false (nn))), .clo 47 [], .junk, .junk, .junk, .v (.one (.int .i64 true 20)), .v (.one (.int .i64 false ((s.2 : Int)))), .v (.one (.int .i64 false (((s.2 + 20 : Nat) : Int)))), .junk, .junk, .junk, .junk, .junk, .junk, .junk, .junk, .junk, .junk, .junk, .junk, .junk, .junk, .junk, .junk, .junk, .junk, .junk, .junk, .junk, .junk, .junk, .junk, .junk, .junk, .junk, .junk, .junk, .junk, .junk, .junk, .junk, .junk, .junk, .junk, .junk, .junk, .junk, .junk, .junk, .junk, .junk, .junk, .junk, .junk, .junk, .junk, .junk, .junk, .junk, .junk, .junk, .junk], [some (.rows false z shV (s.1) 0 c 50)]⟩, ok := fun s => BlA xs s.1 s.2, mu := fun s => 80 - s.2, init := ([], 0), ex := true } | 2 => some { S := List RV × Nat, st := fun s => ⟨[.v (.one (.rs z 0 0 0 12 0 (List.length xs) c)), .v (.one (.int .i64 false (nn))), .clo 47 [], .junk, .junk, .junk, .v (.one (.int .i64 false ((s.2 : Int)))), .junk, .junk, .junk, .junk, .junk, .junk, .junk, .junk, .junk, .junk, .junk, .junk, .junk, .junk, .junk, .junk, .junk, .junk, .junk, .junk, .junk, .junk, .junk, .junk, .junk, .junk, .junk, .junk, .junk, .junk, .junk, .junk, .junk, .junk, .junk, .junk, .junk, .junk, .junk, .junk, .junk, .junk, .junk, .junk, .junk, .junk, .junk, .junk, .junk, .junk, .junk, .junk, .junk, .junk, .junk, .junk], [some (.rows false z shV (s.1) 0 c 50)]⟩, ok := fun s => BlS xs s.1 s.2, mu := fun s => 160 - s.2, init := ([], 0), ex := true } | 4 => some { S := List RV × Nat × Nat, st := fun s => ⟨[.v (.one (.rs z 0 0 0 12 0 (List.length xs) c)), .v (.one (.int .i64 false (nn))), .clo 47 [], .junk, .junk, .junk, .v (.one (.int .i64 false ((s.2.1 : Int)))), .v (.one (.int .i64 false ((s.2.2 : Int)))), .v (.one (.int .i64 false (((s.2.2 + 2 * s.2.1 : Nat) : Int)))), .junk, .junk, .junk, .junk, .junk, .junk, .junk, .junk, .junk, .junk, .junk, .junk, .junk, .junk, .junk, .junk, .junk, .junk, .junk, .junk, .junk, .junk, .junk, .junk, .junk, .junk, .junk, .junk, .junk, .junk, .junk, .junk, .junk, .junk, .junk, .junk, .junk, .junk, .junk, .junk, .junk, .junk, .junk, .junk, .junk, .junk, .junk, .junk, .junk, .junk, .junk, .junk, .junk, .junk], [some (.rows false z shV (s.1) 0 c 50)]⟩, ok := fun s => BlI xs s.1 s.2.1 s.2.2, mu := fun s => 80 - s.2.2, init := ([], 0, 0), ex := true, tie := some (fun σ s => match (σ.tm[6]? : Option SV) with | some (.v (.one (.int _ _ n))) => n = (s.2.1 : Int) | _ => False) } | _ => none) 400 Try.f71 [.v (.one (.rs z 0 0 0 (List.length shV) 0 (List.length xs) c)), .v (.one (.int .i64 false nn)), .clo 47 []] [some (.rows false z shV xs 0 c 50)] (fun r m' => stLe 1 ⟨[r], m'⟩ ⟨[SV.tup []], [some (.rows false z shV (sortF xs) 0 c 50)]⟩) = ((∃ (s : List RV × Nat), ((((z = z ∧ (0 : Nat) = (0 : Nat) ∧ (0 : Nat) = (0 : Nat) ∧ xs.length = xs.length ∧ c = c) ∧ True) ∧ nn = nn ∧ True ∧ (20 : Int) = (20 : Int) ∧ (0 : Int) = (↑s.snd : Int) ∧ (20 : Int) = (↑(s.snd + (20 : Nat)) : Int) ∧ True) ∧ (z = z ∧ (0 : Nat) = (0 : Nat) ∧ c = c ∧ List.take s.fst.length xs = s.fst) ∧ True) ∧ BlA xs s.fst s.snd) ∧ ∀ (s : List RV × Nat), BlA xs s.fst s.snd → (decide ((↑(s.snd + (20 : Nat)) : Int) ≤ nn) = true → (xs.length = s.fst.length ∧ z = z ∧ c = c ∧ (z = true → c = (0 : Nat))) ∧ (s.fst.length ≤ (64 : Nat) ∧ (0 : Int) ≤ (↑s.snd : Int) ∧ (↑s.snd : Int) ≤ (↑(s.snd + (20 : Nat)) : Int) ∧ (↑(s.snd + (20 : Nat)) : Int) ≤ (↑s.fst.length : Int)) ∧ ∀ (e : List RV), Alike s.fst e ∧ Mix s.fst e (↑s.snd : Int).toNat (↑(s.snd + (20 : Nat)) : Int).toNat ∧ SoR e (↑s.snd : Int).toNat (↑(s.snd + (20 : Nat)) : Int).toNat → inR IntKind.i64 ((↑(s.snd + (20 : Nat)) : Int) + (20 : Int)) ∧ ∃ (s' : List RV × Nat), (((((z = z ∧ (0 : Nat) = (0 : Nat) ∧ (0 : Nat) = (0 : Nat) ∧ xs.length = xs.length ∧ c = c) ∧ True) ∧ nn = nn ∧ True ∧ (20 : Int) = (20 : Int) ∧ (↑(s.snd + (20 : Nat)) : Int) = (↑s'.snd : Int) ∧ (↑(s.snd + (20 : Nat)) : Int) + (20 : Int) = (↑(s'.snd + (20 : Nat)) : Int) ∧ True) ∧ (z = z ∧ (0 : Nat) = (0 : Nat) ∧ c = c ∧ List.take s'.fst.length e = s'.fst) ∧ True) ∧ BlA xs s'.fst s'.snd) ∧ (80 : Nat) - s'.snd < (80 : Nat) - s.snd) ∧ (decide ((↑(s.snd + (20 : Nat)) : Int) ≤ nn) = false → (xs.length = s.fst.length ∧ z = z ∧ c = c ∧ (z = true → c = (0 : Nat))) ∧ (s.fst.length ≤ (64 : Nat) ∧ (0 : Int) ≤ (↑s.snd : Int) ∧ (↑s.snd : Int) ≤ nn ∧ nn ≤ (↑s.fst.length : Int)) ∧ ∀ (e : List RV), Alike s.fst e ∧ Mix s.fst e (↑s.snd : Int).toNat nn.toNat ∧ SoR e (↑s.snd : Int).toNat nn.toNat → (∃ (s : List RV × Nat), ((((z = z ∧ (0 : Nat) = (0 : Nat) ∧ (0 : Nat) = (0 : Nat) ∧ xs.length = xs.length ∧ c = c) ∧ True) ∧ nn = nn ∧ True ∧ (20 : Int) = (↑s.snd : Int) ∧ True) ∧ (z = z ∧ (0 : Nat) = (0 : Nat) ∧ c = c ∧ List.take s.fst.length e = s.fst) ∧ True) ∧ BlS xs s.fst s.snd) ∧ ∀ (s : List RV × Nat), BlS xs s.fst s.snd → (decide ((↑s.snd : Int) < nn) = true → inR IntKind.i64 ((2 : Int) * (↑s.snd : Int)) ∧ (∃ (s_1 : List RV × Nat × Nat), ((((z = z ∧ (0 : Nat) = (0 : Nat) ∧ (0 : Nat) = (0 : Nat) ∧ xs.length = xs.length ∧ c = c) ∧ True) ∧ nn = nn ∧ True ∧ (↑s.snd : Int) = (↑s_1.snd.fst : Int) ∧ (0 : Int) = (↑s_1.snd.snd : Int) ∧ (2 : Int) * (↑s.snd : Int) = (↑(s_1.snd.snd + (2 : Nat) * s_1.snd.fst) : Int) ∧ True) ∧ (z = z ∧ (0 : Nat) = (0 : Nat) ∧ c = c ∧ List.take s_1.fst.length s.fst = s_1.fst) ∧ True) ∧ BlI xs s_1.fst s_1.snd.fst s_1.snd.snd ∧ (↑s.snd : Int) = (↑s_1.snd.fst : Int)) ∧ ∀ (s_1 : List RV × Nat × Nat), BlI xs s_1.fst s_1.snd.fst s_1.snd.snd ∧ (↑s.snd : Int) = (↑s_1.snd.fst : Int) → (decide ((↑(s_1.snd.snd + (2 : Nat) * s_1.snd.fst) : Int) ≤ nn) = true → inR IntKind.i64 ((↑s_1.snd.snd : Int) + (↑s_1.snd.fst : Int)) ∧ (xs.length = s_1.fst.length ∧ z = z ∧ c = c ∧ (z = true → c = (0 : Nat))) ∧ ((s_1.fst.length ≤ (64 : Nat) ∧ (0 : Int) ≤ (↑s_1.snd.snd : Int) ∧ (↑s_1.snd.snd : Int) < (↑s_1.snd.snd : Int) + (↑s_1.snd.fst : Int) ∧ (↑s_1.snd.snd : Int) + (↑s_1.snd.fst : Int) < (↑(s_1.snd.snd + (2 : Nat) * s_1.snd.fst) : Int) ∧ (↑(s_1.snd.snd + (2 : Nat) * s_1.snd.fst) : Int) ≤ (↑s_1.fst.length : Int) ∧ (↑(s_1.snd.snd + (2 : Nat) * s_1.snd.fst) : Int) - (↑s_1.snd.snd : Int) ≤ (64 : Int)) ∧ SoR s_1.fst (↑s_1.snd.snd : Int).toNat ((↑s_1.snd.snd : Int) + (↑s_1.snd.fst : Int)).toNat ∧ SoR s_1.fst ((↑s_1.snd.snd : Int) + (↑s_1.snd.fst : Int)).toNat (↑(s_1.snd.snd + (2 : Nat) * s_1.snd.fst) : Int).toNat) ∧ ∀ (e : List RV), Alike s_1.fst e ∧ Mix s_1.fst e (↑s_1.snd.snd : Int).toNat (↑(s_1.snd.snd + (2 : Nat) * s_1.snd.fst) : Int).toNat ∧ SoR e (↑s_1.snd.snd : Int).toNat (↑(s_1.snd.snd + (2 : Nat) * s_1.snd.fst) : Int).toNat → inR IntKind.i64 ((2 : Int) * (↑s_1.snd.fst : Int)) ∧ inR IntKind.i64 ((↑(s_1.snd.snd + (2 : Nat) * s_1.snd.fst) : Int) + (2 : Int) * (↑s_1.snd.fst : Int)) ∧ ∃ (s' : List RV × Nat × Nat), (((((z = z ∧ (0 : Nat) = (0 : Nat) ∧ (0 : Nat) = (0 : Nat) ∧ xs.length = xs.length ∧ c = c) ∧ True) ∧ nn = nn ∧ True ∧ (↑s_1.snd.fst : Int) = (↑s'.snd.fst : Int) ∧ (↑(s_1.snd.snd + (2 : Nat) * s_1.snd.fst) : Int) = (↑s'.snd.snd : Int) ∧ (↑(s_1.snd.snd + (2 : Nat) * s_1.snd.fst) : Int) + (2 : Int) * (↑s_1.snd.fst : Int) = (↑(s'.snd.snd + (2 : Nat) * s'.snd.fst) : Int) ∧ True) ∧ (z = z ∧ (0 : Nat) = (0 : Nat) ∧ c = c ∧ List.take s'.fst.length e = s'.fst) ∧ True) ∧ BlI xs s'.fst s'.snd.fst s'.snd.snd ∧ (↑s.snd : Int) = (↑s'.snd.fst : Int)) ∧ (80 : Nat) - s'.snd.snd < (80 : Nat) - s_1.snd.snd) ∧ (decide ((↑(s_1.snd.snd + (2 : Nat) * s_1.snd.fst) : Int) ≤ nn) = false → inR IntKind.i64 ((↑s_1.snd.snd : Int) + (↑s_1.snd.fst : Int)) ∧ (decide ((↑s_1.snd.snd : Int) + (↑s_1.snd.fst : Int) < nn) = true → (xs.length = s_1.fst.length ∧ z = z ∧ c = c ∧ (z = true → c = (0 : Nat))) ∧ ((s_1.fst.length ≤ (64 : Nat) ∧ (0 : Int) ≤ (↑s_1.snd.snd : Int) ∧ (↑s_1.snd.snd : Int) < (↑s_1.snd.snd : Int) + (↑s_1.snd.fst : Int) ∧ (↑s_1.snd.snd : Int) + (↑s_1.snd.fst : Int) < nn ∧ nn ≤ (↑s_1.fst.length : Int) ∧ nn - (↑s_1.snd.snd : Int) ≤ (64 : Int)) ∧ SoR s_1.fst (↑s_1.snd.snd : Int).toNat ((↑s_1.snd.snd : Int) + (↑s_1.snd.fst : Int)).toNat ∧ SoR s_1.fst ((↑s_1.snd.snd : Int) + (↑s_1.snd.fst : Int)).toNat nn.toNat) ∧ ∀ (e : List RV), Alike s_1.fst e ∧ Mix s_1.fst e (↑s_1.snd.snd : Int).toNat nn.toNat ∧ SoR e (↑s_1.snd.snd : Int).toNat nn.toNat → inR IntKind.i64 ((↑s_1.snd.fst : Int) * (2 : Int)) ∧ ∃ (s' : List RV × Nat), (((((z = z ∧ (0 : Nat) = (0 : Nat) ∧ (0 : Nat) = (0 : Nat) ∧ xs.length = xs.length ∧ c = c) ∧ True) ∧ nn = nn ∧ True ∧ (↑s_1.snd.fst : Int) * (2 : Int) = (↑s'.snd : Int) ∧ True) ∧ (z = z ∧ (0 : Nat) = (0 : Nat) ∧ c = c ∧ List.take s'.fst.length e = s'.fst) ∧ True) ∧ BlS xs s'.fst s'.snd) ∧ (160 : Nat) - s'.snd < (160 : Nat) - s.snd) ∧ (decide ((↑s_1.snd.snd : Int) + (↑s_1.snd.fst : Int) < nn) = false → inR IntKind.i64 ((↑s_1.snd.fst : Int) * (2 : Int)) ∧ ∃ (s' : List RV × Nat), (((((z = z ∧ (0 : Nat) = (0 : Nat) ∧ (0 : Nat) = (0 : Nat) ∧ xs.length = xs.length ∧ c = c) ∧ True) ∧ nn = nn ∧ True ∧ (↑s_1.snd.fst : Int) * (2 : Int) = (↑s'.snd : Int) ∧ True) ∧ (z = z ∧ (0 : Nat) = (0 : Nat) ∧ c = c ∧ List.take s'.fst.length s_1.fst = s'.fst) ∧ True) ∧ BlS xs s'.fst s'.snd) ∧ (160 : Nat) - s'.snd < (160 : Nat) - s.snd))) ∧ (decide ((↑s.snd : Int) < nn) = false → (True ∧ True) ∧ (z = z ∧ (0 : Nat) = (0 : Nat) ∧ c = c ∧ List.take (sortF xs).length s.fst = sortF xs) ∧ True))) := by kernel_rfl
theorem s_stable : MSound Try.prog 71 c_stable := by
  refine wsound (Ctx.ok_of2 (M := Mx) (N := []) mixedA ok_rank okD_symMerge okB0) Try.func71 (by kernel_rfl) (by kernel_rfl) (fun us m K h => ?_)
  unfold c_stable at h
  split at h
  · rename_i s j0 nn
    split at h
    · rename_i q x z n c xs hob
      obtain ⟨hq, h⟩ := h
      obtain ⟨hp, h⟩ := h
      refine ⟨Unit, fun e => True, shV, 50, q, x, z, n, c, xs, s, [], [], [.v (.one (.int .i64 j0 nn)), .clo 47 []], [.v (.one (.int .i64 false nn)), .clo 47 []], (fun bk => match bk with | 0 => some { S := List RV × Nat, st := fun s => ⟨[.v (.one (.rs z 0 0 0 12 0 (List.length xs) c)), .v (.one (.int .i64 false (nn))), .clo 47 [], .junk, .junk, .junk, .v (.one (.int .i64 true 20)), .v (.one (.int .i64 false ((s.2 : Int)))), .v (.one (.int .i64 false (((s.2 + 20 : Nat) : Int)))), .junk, .junk, .junk, .junk, .junk, .junk, .junk, .junk, .junk, .junk, .junk, .junk, .junk, .junk, .junk, .junk, .junk, .junk, .junk, .junk, .junk, .junk, .junk, .junk, .junk, .junk, .junk, .junk, .junk, .junk, .junk, .junk, .junk, .junk, .junk, .junk, .junk, .junk, .junk, .junk, .junk, .junk, .junk, .junk, .junk, .junk, .junk, .junk, .junk, .junk, .junk, .junk, .junk, .junk], [some (.rows false z shV (s.1) 0 c 50)]⟩, ok := fun s => BlA xs s.1 s.2, mu := fun s => 80 - s.2, init := ([], 0), ex := true } | 2 => some { S := List RV × Nat, st := fun s => ⟨[.v (.one (.rs z 0 0 0 12 0 (List.length xs) c)), .v (.one (.int .i64 false (nn))), .clo 47 [], .junk, .junk, .junk, .v (.one (.int .i64 false ((s.2 : Int)))), .junk, .junk, .junk, .junk, .junk, .junk, .junk, .junk, .junk, .junk, .junk, .junk, .junk, .junk, .junk, .junk, .junk, .junk, .junk, .junk, .junk, .junk, .junk, .junk, .junk, .junk, .junk, .junk, .junk, .junk, .junk, .junk, .junk, .junk, .junk, .junk, .junk, .junk, .junk, .junk, .junk, .junk, .junk, .junk, .junk, .junk, .junk, .junk, .junk, .junk, .junk, .junk, .junk, .junk, .junk, .junk], [some (.rows false z shV (s.1) 0 c 50)]⟩, ok := fun s => BlS xs s.1 s.2, mu := fun s => 160 - s.2, init := ([], 0), ex := true } | 4 => some { S := List RV × Nat × Nat, st := fun s => ⟨[.v (.one (.rs z 0 0 0 12 0 (List.length xs) c)), .v (.one (.int .i64 false (nn))), .clo 47 [], .junk, .junk, .junk, .v (.one (.int .i64 false ((s.2.1 : Int)))), .v (.one (.int .i64 false ((s.2.2 : Int)))), .v (.one (.int .i64 false (((s.2.2 + 2 * s.2.1 : Nat) : Int)))), .junk, .junk, .junk, .junk, .junk, .junk, .junk, .junk, .junk, .junk, .junk, .junk, .junk, .junk, .junk, .junk, .junk, .junk, .junk, .junk, .junk, .junk, .junk, .junk, .junk, .junk, .junk, .junk, .junk, .junk, .junk, .junk, .junk, .junk, .junk, .junk, .junk, .junk, .junk, .junk, .junk, .junk, .junk, .junk, .junk, .junk, .junk, .junk, .junk, .junk, .junk, .junk, .junk, .junk], [some (.rows false z shV (s.1) 0 c 50)]⟩, ok := fun s => BlI xs s.1 s.2.1 s.2.2, mu := fun s => 80 - s.2.2, init := ([], 0, 0), ex := true, tie := some (fun σ s => match (σ.tm[6]? : Option SV) with | some (.v (.one (.int _ _ n))) => n = (s.2.1 : Int) | _ => False) } | _ => none), 400, fun e => SV.tup [], fun e => [some (.rows false z shV (sortF xs) 0 c 50)], (fun r m' => stLe 1 ⟨[r], m'⟩ ⟨[SV.tup []], [some (.rows false z shV (sortF xs) 0 c 50)]⟩), rfl, hob, hq, ⟨by simp [tmLe, svLe, vLe, lfLe, lfsLe, ifB, nmIs, idR], rfl⟩, ⟨by simp [tmLe, svLe, vLe, lfLe, lfsLe, ifB, nmIs, idR], rfl⟩, fun _ => rfl, fun hn hz hlc hzl => ?_, fun r m' hr => ⟨(), trivial, hr⟩, fun e he => h e he⟩
      subst hn
      refine by_nfG (nf_stable z c xs nn) ?_
      clear h hob hq
      obtain ⟨h64, rfl⟩ := hp
      simp only [eq_self_iff_true, true_and, and_true, Int.toNat_natCast, implies_true, decide_eq_true_eq, decide_eq_false_iff_not, bne_iff_ne, bne_eq_false_iff_eq, ne_eq, Decidable.not_not, inR, klo, khi, Bool.not_eq_true', Bool.not_eq_false', beq_iff_eq, beq_eq_false_iff_ne, List.take_length]
      have tl : ∀ L : List RV, List.take L.length L = L := fun L => List.take_length
      refine ⟨⟨(xs, 0), ⟨⟨rfl, rfl⟩, tl _⟩, ⟨⟨.inl rfl, Nat.zero_le _⟩, Alike.rfl' _, fun h => absurd h (show ¬ 20 ≤ 0 by decide), fun h => absurd h (show ¬ 40 ≤ 0 by decide), fun h => absurd h (show ¬ 60 ≤ 0 by decide)⟩⟩, ?_⟩
      rintro ⟨ys, a⟩ ba
      dsimp only at *
      have g := ba.1
      have al := ba.2.1.1
      refine ⟨fun h20 => ⟨⟨by omega, hz⟩, by omega, fun e he => ⟨by omega, (e, a + 20), ⟨⟨⟨rfl, by dsimp only; omega⟩, tl _⟩, bla_step ba h64 (by omega) he.1 he.2.1 he.2.2⟩, by dsimp only; omega⟩⟩, fun h20 => ⟨⟨by omega, hz⟩, by omega, fun e he => ⟨⟨(e, 20), ⟨rfl, tl _⟩, bla_end ba h64 (by omega) he.1 he.2.1 he.2.2⟩, ?_⟩⟩⟩
      clear he e ba g al h20
      rintro ⟨zs, s⟩ bs
      dsimp only at *
      have l2 := bs.1.1
      refine ⟨fun hs => ⟨by omega, ⟨(zs, s, 0), ⟨⟨rfl, rfl, by dsimp only; omega⟩, tl _⟩, bls_in bs (show s < xs.length by omega) h64, rfl⟩, ?_⟩, fun hs => take_self (bls_end bs (by omega) h64)⟩
      clear bs l2
      rintro ⟨ws, s', b⟩ ⟨bi, ts⟩
      dsimp only at *
      obtain rfl : s = s' := by omega
      have g := bli_bd bi
      have l2 := bi.2.1.1
      have e1 : ((b : Int) + (s : Int)).toNat = b + s := by omega
      simp only [e1]
      refine ⟨fun hb => ?_, fun hb => ⟨by omega, fun hm => ?_, fun hm => ⟨by omega, (ws, s * 2), ⟨⟨by dsimp only; omega, tl _⟩, bli_skip bi h64 (by omega) (by omega)⟩, by dsimp only; omega⟩⟩⟩
      · obtain ⟨rfl, rfl, k1, k2⟩ := bli_pre bi h64 (by omega)
        exact ⟨by omega, ⟨by omega, hz⟩, ⟨by omega, k1, k2⟩, fun e he => ⟨by omega, by omega, (e, 20, 40), ⟨⟨⟨rfl, rfl, rfl⟩, tl _⟩, bli_step bi h64 (by omega) he.1 he.2.1 he.2.2, rfl⟩, show 80 - 40 < 80 - 0 by decide⟩⟩
      · obtain ⟨k1, k2, k3, k4⟩ := bli_last bi h64 (by omega) (by omega)
        exact ⟨⟨by omega, hz⟩, ⟨by omega, k1, k2⟩, fun e he => ⟨by omega, (e, s * 2), ⟨⟨by dsimp only; omega, tl _⟩, bli_call bi h64 (by omega) (by omega) he.1 he.2.1 he.2.2⟩, by dsimp only; omega⟩⟩
    · exact h.elim
  · exact h.elim
noncomputable def Δ_stable : List (FuncId × MC) := (71, c_stable) :: Δ_symMerge
theorem okD_stable : ΔOk Try.prog Δ_stable := ΔOk.cons s_stable okD_symMerge

noncomputable def c_sortStable : MC := fun us m K => match us with
  | [s, .clo 47 []] => match owS shV 50 m s with
    | some (q, x, z, n, c, xs) => q ∧ (xs.length ≤ 64) ∧ (∀ e : Unit, (True) → K ((SV.tup []).ren (back [x] m.length)) (backM [x] [] m [some (.rows false z shV (sortF xs) 0 c 50)]))
    | none => False
  | _ => False
theorem nf_sortStable (z : Bool) (c : Nat) (xs : List (Row shV)) : goal ⟨Mx, Try.prog, Γ_rank, Δ_stable, B0, none, false, [], none⟩ noL 400 Try.f46 [.v (.one (.rs z 0 0 0 (List.length shV) 0 (List.length xs) c)), .clo 47 []] [some (.rows false z shV xs 0 c 50)] (fun r m' => stLe 1 ⟨[r], m'⟩ ⟨[SV.tup []], [some (.rows false z shV (sortF xs) 0 c 50)]⟩) = ((xs.length = xs.length ∧ z = z ∧ c = c ∧ (z = true → c = (0 : Nat))) ∧ (xs.length ≤ (64 : Nat) ∧ (↑xs.length : Int) = (↑xs.length : Int)) ∧ ∀ (e : Unit), True → (True ∧ True) ∧ (z = z ∧ (0 : Nat) = (0 : Nat) ∧ c = c ∧ List.take (sortF xs).length (sortF xs) = sortF xs) ∧ True) := by kernel_rfl
theorem s_sortStable : MSound Try.prog 46 c_sortStable := by
  refine wsound (Ctx.ok_of2 (M := Mx) (N := []) mixedA ok_rank okD_stable okB0) Try.func46 (by kernel_rfl) (by kernel_rfl) (fun us m K h => ?_)
  unfold c_sortStable at h
  split at h
  · rename_i s
    split at h
    · rename_i q x z n c xs hob
      obtain ⟨hq, h⟩ := h
      obtain ⟨hp, h⟩ := h
      refine ⟨Unit, fun e => True, shV, 50, q, x, z, n, c, xs, s, [], [], [.clo 47 []], [.clo 47 []], noL, 400, fun e => SV.tup [], fun e => [some (.rows false z shV (sortF xs) 0 c 50)], (fun r m' => stLe 1 ⟨[r], m'⟩ ⟨[SV.tup []], [some (.rows false z shV (sortF xs) 0 c 50)]⟩), rfl, hob, hq, ⟨by simp [tmLe, svLe, vLe, lfLe, lfsLe, ifB, nmIs, idR], rfl⟩, ⟨by simp [tmLe, svLe, vLe, lfLe, lfsLe, ifB, nmIs, idR], rfl⟩, fun _ => rfl, fun hn hz hlc hzl => ?_, fun r m' hr => ⟨(), trivial, hr⟩, fun e he => h e he⟩
      subst hn
      refine by_nfG (nf_sortStable z c xs) ?_
      clear h hob hq
      simp only [eq_self_iff_true, true_and, and_true, Int.toNat_natCast, implies_true, decide_eq_true_eq, decide_eq_false_iff_not, bne_iff_ne, bne_eq_false_iff_eq, ne_eq, Decidable.not_not, inR, klo, khi, Bool.not_eq_true', Bool.not_eq_false', beq_iff_eq, beq_eq_false_iff_ne, List.take_length]
      (repeat' (first | (refine And.intro ?_ ?_) | intro _)) <;> first | exact True.intro | rfl | omega | assumption | exact List.take_length | (apply hz; assumption)
    · exact h.elim
  · exact h.elim
noncomputable def Δ_sortStable : List (FuncId × MC) := (46, c_sortStable) :: Δ_stable
theorem okD_sortStable : ΔOk Try.prog Δ_sortStable := ΔOk.cons s_sortStable okD_stable

end Go.Proofs.Ytljnddhldjaglaa
