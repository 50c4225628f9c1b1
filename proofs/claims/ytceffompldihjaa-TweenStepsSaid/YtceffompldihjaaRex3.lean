/- A WALK BY COMPUTATION, part 3: operators, as the model runs them. Conditions: none. Own work. -/
import Derived.Test.YtceffompldihjaaRex2
namespace Go.Proofs.Ytceffompldihjaa.Rex
open Go.RowKit
set_option linter.unusedVariables false
set_option linter.unusedSimpArgs false

section
variable {P : Program} {w : World} {β : Nm}

theorem num_pair {c : Bool} {k : IntKind} {kn : Bool} {n : Int} {p : Option Prop} {s : SV} (h : some (num c k kn n) = some (p, s)) (hp : ob p) : Has β s (.int k (k.wrap n)) :=
  num_has (by simpa using h) hp

theorem binOp_same {op : BinOp} {t : TypeId} {k : IntKind} {a b : Int} (h1 : op ≠ .shl) (h2 : op ≠ .shr) : binOp op t (.int k a) (.int k b) = (match op with
    | .add | .sub | .mul => Op.intArith op k a b
    | .quo | .rem => Op.intDiv op k a b
    | .and | .or | .xor | .andNot => Op.intBits op k a b
    | _ => Op.intCmp op a b) := by
  cases op <;> first | (exact absurd rfl h1) | (exact absurd rfl h2) | simp only [binOp, ne_eq, not_true_eq_false, if_false]

theorem intQ_run {M : Md} {op : BinOp} {k : IntKind} {ka : Bool} {a : Int} {kb : Bool} {b : Int} {p : Option Prop} {s : SV} (t : TypeId) (h : intQ M op k ka a kb b = some (p, s)) (hp : ob p) :
    ∃ r, (binOp op t (.int k a) (.int k b)).run P w = .ok r w ∧ Has β s r := by
  unfold intQ at h
  split at h
  case h_1 => rw [binOp_same (by simp) (by simp)]; exact ⟨_, rfl, num_pair h hp⟩
  case h_2 => rw [binOp_same (by simp) (by simp)]; exact ⟨_, rfl, num_pair h hp⟩
  case h_3 => rw [binOp_same (by simp) (by simp)]; exact ⟨_, rfl, num_pair h hp⟩
  case h_4 =>
    rw [binOp_same (by simp) (by simp)]
    split at h
    · split at h
      · cases h
      · rename_i hb
        have hb' := of_decide_eq_false hb
        exact ⟨.int k (k.wrap (a.tdiv b)), by simp [Op.intDiv, hb'], num_pair h hp⟩
    · cases h
      obtain ⟨hb, hp⟩ := ob_andO hp
      exact ⟨.int k (k.wrap (a.tdiv b)), by simp [Op.intDiv, hb], num_has (c := M.ar k) (kn := false) (p := (num (M.ar k) k false (a.tdiv b)).1) rfl hp⟩
  case h_5 =>
    rw [binOp_same (by simp) (by simp)]
    split at h
    · split at h
      · cases h
      · rename_i hb
        have hb' := of_decide_eq_false hb
        cases h
        exact ⟨.int k (a.tmod b), by simp [Op.intDiv, hb'], .v (.one .int)⟩
    · cases h
      exact ⟨.int k (a.tmod b), by have hp' : b ≠ 0 := hp; simp [Op.intDiv, hp'], .v (.one .int)⟩
  case h_16 => cases h
  all_goals
    rw [binOp_same (by simp) (by simp)]
    cases h
    exact ⟨_, rfl, by first | exact .v (.one .int) | exact .v (.one .bool)⟩

theorem shQ_run {M : Md} {op : BinOp} {k : IntKind} {ka : Bool} {a : Int} {b : Int} {p : Option Prop} {s : SV} (yk : IntKind) (h : shQ M op k ka a b = some (p, s)) (hp : ob p) :
    ∃ r, (Op.shift op k a yk b).run P w = .ok r w ∧ Has β s r := by
  unfold shQ at h
  split at h
  · cases h
  · rename_i hb
    have hb' := of_decide_eq_false hb
    split at h
    · exact ⟨.int k (k.wrap (a * 2 ^ min b.toNat k.bits)), by simp [Op.shift, hb'], num_pair h hp⟩
    · cases h
      refine ⟨.int k (a.fdiv (2 ^ min b.toNat k.bits)), by simp [Op.shift, hb'], ?_⟩
      rw [Int.fdiv_eq_ediv_of_nonneg _ (Int.pow_nonneg (by decide))]
      exact .v (.one .int)
    · cases h

theorem neg?_spec {op : BinOp} {r q : Bool} (h : neg? op r = some q) : (op = .eql ∧ q = r) ∨ (op = .neq ∧ q = !r) := by
  unfold neg? at h
  split at h
  · cases h; exact .inl ⟨rfl, rfl⟩
  · cases h; exact .inr ⟨rfl, rfl⟩
  · cases h

/-- '==' and '!=' of what is no number -/
theorem eqlike_run {op : BinOp} {t : TypeId} {u v : Value} {r q : Bool} (h : neg? op r = some q) (hq : (Op.equal t u v).run P w = .ok r w)
    (hu : ∀ k n, u ≠ .int k n) (hs : ∀ s, u ≠ .string s) (hf : ∀ k n, u ≠ .float k n) (hc : ∀ k n m, u ≠ .complex k n m) : (binOp op t u v).run P w = .ok (.bool q) w := by
  rcases neg?_spec h with ⟨rfl, rfl⟩ | ⟨rfl, rfl⟩
  · cases u <;> first | (exact absurd rfl (hu _ _)) | (exact absurd rfl (hs _)) | (exact absurd rfl (hf _ _)) | (exact absurd rfl (hc _ _ _)) | (cases v <;> simp [binOp, hq])
  · cases u <;> first | (exact absurd rfl (hu _ _)) | (exact absurd rfl (hs _)) | (exact absurd rfl (hf _ _)) | (exact absurd rfl (hc _ _ _)) | (cases v <;> simp [binOp, hq])

theorem guard_plain {op : BinOp} {t : TypeId} {X Y : Operand} {u v : Value} (h : ∀ cs, u ≠ .agg cs) (h' : u ≠ .nilIface) : (eqGuard op t X Y u v).run P w = .ok () w := by
  unfold eqGuard
  cases op <;> simp <;> (cases u <;> first | (exact absurd rfl (h _)) | (exact absurd rfl h') | rfl)

theorem guard_agg {op : BinOp} {t : TypeId} {X Y : Operand} {xs ys : Array Value} (h : P.eqGuardType P.depth t = false) : (eqGuard op t X Y (.agg xs) (.agg ys)).run P w = .ok () w := by
  unfold eqGuard
  cases op <;> simp [h]

theorem eqq {t : TypeId} {u v : Value} {r : Bool} (h : ∀ d, (Op.equalIn (d + 1) t u v).run P w = .ok r w) : (Op.equal t u v).run P w = .ok r w := h 9999

theorem nilQ_run {op : BinOp} {t : TypeId} {x y : Lf} {u v : Value} {p : Option Prop} {s : SV} (h : nilQ P op t x y = some (p, s)) (hx : HasL β x u) (hy : HasL β y v) (X Y : Operand) :
    ∃ r, (do eqGuard op t X Y u v; binOp op t u v : Sem Value).run P w = .ok r w ∧ Has β s r := by
  have fin : ∀ {r q : Bool}, neg? op r = some q → (Op.equal t u v).run P w = .ok r w → (∀ k n, u ≠ .int k n) → (∀ s, u ≠ .string s) → (∀ k n, u ≠ .float k n) → (∀ k n m, u ≠ .complex k n m) → (∀ cs, u ≠ .agg cs) → u ≠ .nilIface → some (none, lb true q) = some (p, s) →
      ∃ r, (do eqGuard op t X Y u v; binOp op t u v : Sem Value).run P w = .ok r w ∧ Has β s r := by
    intro r q hq he a1 a2 a3 a4 a5 a6 e
    cases e
    exact ⟨.bool q, by rw [Sem.run_bind, guard_plain a5 a6]; exact eqlike_run hq he a1 a2 a3 a4, .v (.one .bool)⟩
  unfold nilQ at h
  split at h
  · rename_i e ht
    split at h
    all_goals first | (cases h; done) | (split at h <;> first | (cases h; done) | skip)
    all_goals
      rename_i q hq
      cases hx; cases hy
      refine fin hq (eqq fun d => by simp [Op.equalIn, run_underlying ht]) ?_ ?_ ?_ ?_ ?_ ?_ h <;> (intros; simp)
  · rename_i e ht
    split at h
    all_goals first | (cases h; done) | (split at h <;> first | (cases h; done) | skip)
    all_goals
      rename_i q hq
      cases hx; cases hy
      refine fin hq (eqq fun d => by simp [Op.equalIn, run_underlying ht]) ?_ ?_ ?_ ?_ ?_ ?_ h <;> (intros; simp)
  · cases h

theorem binQ_run {M : Md} {op : BinOp} {t : TypeId} {x y : SV} {u v : Value} {p : Option Prop} {s : SV} (h : binQ M P op t x y = some (p, s)) (hp : ob p) (hx : Has β x u) (hy : Has β y v) (X Y : Operand) :
    ∃ r, (do eqGuard op t X Y u v; binOp op t u v : Sem Value).run P w = .ok r w ∧ Has β s r := by
  unfold binQ at h
  split at h
  · cases hx with
    | v hx => cases hx with
      | one hx => cases hx with
        | int => cases hy with
          | v hy => cases hy with
            | one hy => cases hy with
              | int =>
                rw [Sem.run_bind, guard_plain (by intros; simp) (by simp), Result.andThen_ok]
                split at h
                · split at h
                  · simp only [binOp]; exact shQ_run _ h hp
                  · cases h
                · split at h
                  · simp only [binOp]; exact shQ_run _ h hp
                  · cases h
                · split at h
                  · rename_i hk
                    have := of_decide_eq_true hk
                    subst this
                    exact intQ_run t h hp
                  · cases h
  · cases hx with
    | v hx => cases hx with
      | one hx => cases hx with
        | bool => cases hy with
          | v hy => cases hy with
            | one hy => cases hy with
              | bool =>
                split at h
                · rename_i ht
                  split at h
                  · rename_i q hq
                    cases h
                    refine ⟨.bool q, ?_, .v (.one .bool)⟩
                    rw [Sem.run_bind, guard_plain (by intros; simp) (by simp), Result.andThen_ok]
                    exact eqlike_run hq (eqq fun d => by simp [Op.equalIn, run_underlying ht]) (by intros; simp) (by intros; simp) (by intros; simp) (by intros; simp)
                  · cases h
                · cases h
  · cases hx with
    | v hx => cases hx with
      | agg hx => cases hy with
        | v hy => cases hy with
          | agg hy =>
            unfold eqQ at h
            split at h
            · cases h
            · rename_i hg
              split at h
              · rename_i r hr
                split at h
                · rename_i q hq
                  cases h
                  refine ⟨.bool q, ?_, .v (.one .bool)⟩
                  rw [Sem.run_bind, guard_agg hg, Result.andThen_ok]
                  exact eqlike_run hq (eqT_run 40 10000 (by omega) t _ _ r _ _ hr (.agg hx) (.agg hy)) (by intros; simp) (by intros; simp) (by intros; simp) (by intros; simp)
                · cases h
              · cases h
  · cases hx with
    | v hx => cases hx with
      | one hx => cases hy with
        | v hy => cases hy with
          | one hy => exact nilQ_run h hx hy X Y
  · cases h

theorem unQ_run {M : Md} {op : UnOp} {x : SV} {u : Value} {p : Option Prop} {s : SV} (h : unQ M op x = some (p, s)) (hp : ob p) (hx : Has β x u) :
    ∃ r, (Op.unary op u).run P w = .ok r w ∧ Has β s r := by
  unfold unQ at h
  split at h
  · cases hx with
    | v hx => cases hx with
      | one hx => cases hx with
        | int => exact ⟨.int _ (IntKind.wrap _ (-_)), by simp [Op.unary, Op.intArith], num_pair h hp⟩
  · cases hx with
    | v hx => cases hx with
      | one hx => cases hx with
        | bool => cases h; exact ⟨_, rfl, .v (.one .bool)⟩
  · cases h

theorem convQ_run {M : Md} {src dst : TypeId} {x : SV} {u : Value} {p : Option Prop} {s : SV} (h : convQ M P src dst x = some (p, s)) (hp : ob p) (hx : Has β x u) :
    ∃ r, (convert src dst u).run P w = .ok r w ∧ Has β s r := by
  unfold convQ at h
  split at h
  · rename_i d k j ka a hs hd
    cases hx with
    | v hx => cases hx with
      | one hx => cases hx with
        | int => exact ⟨.int k (k.wrap a), by simp [convert, run_underlying hs, run_underlying hd, Conv.intToInt], num_pair h hp⟩
  · cases h

end
end Go.Proofs.Ytceffompldihjaa.Rex
