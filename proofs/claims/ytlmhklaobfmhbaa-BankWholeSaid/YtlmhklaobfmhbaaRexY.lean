/- A WALK BY COMPUTATION, loops over functions: yield, and what lies behind such a loop. Conditions: none. Own work. -/
import Derived.Test.YtlmhklaobfmhbaaRex12
import Derived.RangeFuncRecord
namespace Go.Proofs.Ytlmhklaobfmhbaa.Rex
open Go.RowKit
set_option linter.unusedVariables false
set_option linter.unusedSimpArgs false

section
variable {F : Fence} {n : Nat} {P : Program} {b : Frame} {a : Act} {k : List Item} {cs : List Frame} {w : World} {Q : Exit → Act → World → Prop}
theorem stepR_scope' {c : Code} : step P (lone (b.atR a (.code (.scope c) :: k)) cs w) = .next (lone (b.atR a (.code c :: .inScope c :: k)) cs w) :=
  step_lone_go (by simp [stepG, stepG.exec, Frame.atR])
theorem stepR_inScope' {c : Code} : step P (lone (b.atR a (.inScope c :: k)) cs w) = .next (lone (b.atR a k) cs w) :=
  step_lone_go (by simp [stepG, stepG.exec, Frame.atR])
theorem wpIn_scope_straight {c : Code} (h : c.wpIn F n P (Exit.noGoto Q) a w) : (Code.scope c).wpIn F n P Q a w := by
  intro b k cs hro hb hr
  have h0 : (lone (b.atR a (.code (.scope c) :: k)) cs w).fenced P F := fenced_calm hb hr rfl
  obtain ⟨e, a₁, w₁, hq, harr⟩ := h b (.inScope c :: k) cs hro hb hr
  cases e with
  | normal => exact ⟨.normal, a₁, w₁, hq, .head h0 stepR_scope' (StepsIn.trans harr (.one (fenced_calm hb hr rfl) stepR_inScope'))⟩
  | exit id =>
    have hx : exitTo id (.inScope c :: k) = exitTo id k := by simp [exitTo]
    exact ⟨.exit id, a₁, w₁, hq, fun k' hk => .head h0 stepR_scope' (harr.1 k' (by rw [hx]; exact hk)),
      fun hr' hk => let ⟨k₁, h1, h2⟩ := harr.2 hr' (by rw [hx]; exact hk); ⟨k₁, h1, .head h0 stepR_scope' h2⟩⟩
  | goto l => exact hq.elim
  | ret => exact ⟨_, a₁, w₁, hq, .of_steps (.one h0 stepR_scope') harr⟩
  | panic ch => exact ⟨_, a₁, w₁, hq, .of_steps (.one h0 stepR_scope') harr⟩
  | outgrown => exact ⟨_, a₁, w₁, hq, .of_steps (.one h0 stepR_scope') harr⟩
end

theorem turn_put (w : World) (l : Nat) (o : Obj) : Turn1 w l (w.putObj l o) := ⟨fun k _ hk => World.putObj_heap_other hk, by simp, rfl, rfl, rfl⟩
theorem put_here {w : World} {l : Nat} {o o' : Obj} (h : w.heap[l]? = some o') : (w.putObj l o).heap[l]? = some o := World.putObj_heap_same (Array.getElem?_eq_some_iff.1 h).1

/-- a block that turns and is forgotten -/
theorem Sat.drop {β : Nm} {m : Mem} {w w' : World} (h : Sat β m w) {x b : Nat} {b0 : Blk} (hx : m[x]? = some (some b0)) (hrw : b0.rw) (hb : β x = some b) (hp : Turn1 w b w') : Sat β (m.set x none) w' := by
  have kx : kw m x := ⟨b0, hx, hrw⟩
  have cut : ∀ (y : Nat) (c : Blk), (m.set x none)[y]? = some (some c) → y ≠ x ∧ m[y]? = some (some c) := by
    intro y c hc
    by_cases e : x = y
    · subst e
      rw [List.getElem?_set] at hc
      simp at hc
    · rw [List.getElem?_set_ne e] at hc
      exact ⟨fun e' => e e'.symm, hc⟩
  refine ⟨fun y c hc => ?_, ?_, fun y a hy => by simpa using h.dom y a hy⟩
  · obtain ⟨hne, hy⟩ := cut y c hc
    refine h.blk_keep (Nm.le_refl β) hy fun a hk ha => hp.else_ a (h.lt hk ha) fun e => hne ?_
    exact (h.inj x y a kx hk (by rw [e]; exact hb) ha).symm
  · rintro y z a ⟨c, hc, hcr⟩ ⟨d, hd, hdd⟩ hy hz
    exact h.inj y z a ⟨c, (cut y c hc).2, hcr⟩ ⟨d, (cut z d hd).2, hdd⟩ hy hz
theorem since_drop {β : Nm} {m : Mem} {w w' : World} {x b : Nat} {b0 : Blk} (hx : m[x]? = some (some b0)) (hrw : b0.rw) (hb : β x = some b) (hp : Turn1 w b w') : Since m β w (m.set x none) β w' := by
  have kx : kw m x := ⟨b0, hx, hrw⟩
  have cut : ∀ (y : Nat) (c : Blk), (m.set x none)[y]? = some (some c) → y ≠ x ∧ m[y]? = some (some c) := by
    intro y c hc
    by_cases e : x = y
    · subst e
      rw [List.getElem?_set] at hc
      simp at hc
    · rw [List.getElem?_set_ne e] at hc
      exact ⟨fun e' => e e'.symm, hc⟩
  refine ⟨Nm.le_refl β, fun _ _ => rfl, by simp, ?_, ?_, hp.os, hp.tape, hp.output, hp.size, ?_⟩
  · intro q y hy hk
    have := kq_lt hk
    simp at this
    omega
  · rintro q y hy ⟨c, hc, hcr⟩
    exact ⟨c, (cut y c hc).2, hcr⟩
  · intro k hk hf
    exact hp.else_ k hk fun e => hf x kx (by rw [hb, e])

/-! ### a function's return, past the marks -/
/-- some blocks of deferred calls have been shut, all laid since the heap had bs blocks -/
structure Shut (bs : Nat) (w w' : World) : Prop where
  below : ∀ k : Nat, k < bs → w'.heap[k]? = w.heap[k]?
  keep : ∀ (k : Nat) (o : Obj), w.heap[k]? = some o → (∀ x, o ≠ .deferred x) → w'.heap[k]? = some o
  size : w'.heap.size = w.heap.size
  os : w'.os = w.os
  tape : w'.tape = w.tape
  output : w'.output = w.output
theorem Shut.refl (bs : Nat) (w : World) : Shut bs w w := ⟨fun _ _ => rfl, fun _ _ h _ => h, rfl, rfl, rfl, rfl⟩
theorem Shut.trans {bs : Nat} {x y z : World} (h : Shut bs x y) (k : Shut bs y z) : Shut bs x z :=
  ⟨fun i hi => (k.below i hi).trans (h.below i hi), fun i o hi ho => k.keep i o (h.keep i o hi ho) ho, k.size.trans h.size, k.os.trans h.os, k.tape.trans h.tape, k.output.trans h.output⟩
theorem shut_put {bs : Nat} {w : World} {D : Nat} {x y : Option (List Deferred)} (hb : bs ≤ D) (hD : w.heap[D]? = some (.deferred x)) : Shut bs w (w.putObj D (.deferred y)) := by
  refine ⟨fun k hk => World.putObj_heap_other (by omega), fun k o hk ho => ?_, by simp, rfl, rfl, rfl⟩
  rw [World.putObj_heap_other]
  · exact hk
  · rintro rfl
    rw [hD] at hk; cases hk
    exact ho _ rfl
theorem Shut.hasB {bs : Nat} {w w' : World} (h : Shut bs w w') {β : Nm} {b : Blk} {a : Nat} (k : HasB β b w.heap[a]?) : HasB β b w'.heap[a]? := by
  cases b with
  | cells l t =>
    obtain ⟨vs, e, hv⟩ := k
    exact ⟨vs, h.keep a _ e (fun x e => by cases e), hv⟩
  | rows =>
    obtain ⟨e0, vs, fz, t', e, h1, h2⟩ := k
    exact ⟨e0, vs, fz, t', h.keep a _ e (fun x e => by cases e), h1, h2⟩
  | loop => exact h.keep a _ k (fun x e => by cases e)
theorem Shut.sat {bs : Nat} {w w' : World} (h : Shut bs w w') {β : Nm} {m : Mem} (hs : Sat β m w) : Sat β m w' :=
  ⟨fun x b hb => (hs.blk x b hb).imp id fun ⟨a, ha, hB⟩ => ⟨a, ha, h.hasB hB⟩, hs.inj, hs.dom⟩
theorem Shut.since {bs : Nat} {w w' : World} (h : Shut bs w w') {m0 m : Mem} {β0 β : Nm} {w0 : World} (hb : w0.heap.size ≤ bs) (hs : Since m0 β0 w0 m β w) : Since m0 β0 w0 m β w' :=
  ⟨hs.ext, hs.same, hs.len, hs.new, hs.sub, h.os.trans hs.os, h.tape.trans hs.tape, h.output.trans hs.output, by rw [h.size]; exact hs.size, fun k hk hf => by rw [h.below k (by omega)]; exact hs.frame k hk hf⟩

theorem Marks.put {bs : Nat} {w : World} {D : Nat} {o : Obj} : ∀ {ds : List Deferred}, (∀ d' ∈ ds, d' ≠ { target := .collected D, args := #[] }) → Marks bs w ds → Marks bs (w.putObj D o) ds
  | [], _, _ => trivial
  | d :: ds, hne, ⟨⟨D', h1, h2, h3, h4⟩, k⟩ => by
    refine ⟨⟨D', h1, h2, ?_, h4⟩, Marks.put (fun d' hd' => hne d' (List.mem_cons_of_mem _ hd')) k⟩
    rw [World.putObj_heap_other]
    · exact h3
    · rintro rfl
      exact hne d (by simp) h1

theorem leaves_marks {F : Fence} {n : Nat} {P : Program} {fn : Func} {tmps : Array Value} {R : Ending → World → Prop} {bs : Nat} : ∀ {ds : List Deferred} {w : World}, Marks bs w ds →
    (∀ w', Shut bs w w' → ∃ v, (results fn tmps).run P w' = .ok v w' ∧ R (.returned v) w') → LeavesInM F n P fn tmps R ds .returning w
  | [], w, _, h => h w (Shut.refl bs w)
  | d :: ds, w, ⟨⟨D, h1, h2, h3, h4⟩, k⟩, h => by
    subst h1
    refine ⟨by simp, .inl ⟨D, w.putObj D (.deferred none), rfl, run_takeDeferred h3, leaves_marks (Marks.put h4 k) fun w' hs => h w' ((shut_put h2 h3).trans hs)⟩⟩

/-! ### yield -/
/-- the parameters of a round -/
def setPs (tm : List SV) : List Tmp → List SV → Option (List SV)
  | [], [] => some tm
  | p :: ps, s :: ss => setPs (tm.set p s) ps ss
  | _, _ => none
theorem setPs_has {γ : Nm} : ∀ {ps : List Tmp} {ss : List SV} {tm tm' : List SV} {l vs : List Value}, setPs tm ps ss = some tm' → All₂ (Has γ) tm l → All₂ (Has γ) ss vs →
    vs.length = ps.length ∧ All₂ (Has γ) tm' ((ps.zip vs).foldl (fun t (x : Tmp × Value) => t.set x.1 x.2) l)
  | [], [], tm, tm', l, vs, h, ht, hv => by
    cases h
    rw [hv.nil_inv]
    exact ⟨rfl, ht⟩
  | p :: ps, s :: ss, tm, tm', l, vs, h, ht, hv => by
    obtain ⟨v, vs, rfl, h1, h2⟩ := hv.cons_inv
    obtain ⟨e1, e2⟩ := setPs_has (ps := ps) h (ht.set h1 p) h2
    exact ⟨by simp [e1], e2⟩
  | [], _ :: _, _, _, _, _, h, _, _ => by cases h
  | _ :: _, [], _, _, _, _, h, _, _ => by cases h
theorem fold_set : ∀ (l : List (Tmp × Value)) (t : Array Value), (l.foldl (fun tmps (x : Tmp × Value) => tmps.setIfInBounds x.1 x.2) t).toList = l.foldl (fun t (x : Tmp × Value) => t.set x.1 x.2) t.toList
  | [], t => rfl
  | x :: l, t => by rw [List.foldl_cons, List.foldl_cons, fold_set l, Array.toList_setIfInBounds]

/-- a round's body, walked by X -/
def yB (G : Nat) (r : Loop) (X : St → (XE → St → Prop) → Prop) (k : SV → Mem → Prop) (e : XE) (σ1 : St) : Prop := match e with
  | .normal => match σ1.m[G]? with
    | some (some (.loop r1 0)) => r1 = r ∧ X ⟨σ1.tm, σ1.m.set G (some (.loop r 1))⟩ fun e σ' => match σ'.m[G]? with
      | some (some (.loop r'' 1)) => r'' = r ∧ match e with
        | .normal => k (lb true true) (σ'.m.set G (some (.loop r 0)))
        | .ret => k (lb true false) (σ'.m.set G (some (.loop r 2)))
        | .exit id => k (lb true false) (σ'.m.set G (some (.loop r (id + 3))))
      | _ => False
    | _ => False
  | _ => False
/-- what a call of yield leaves to be shown: the round, its assignments walked by Xa, its body by X -/
def yH (tm0 : List SV) (ps : List Tmp) (G l : Nat) (r : Loop) (Xa X : St → (XE → St → Prop) → Prop) (v : Value) (us : List SV) (m : Mem) (k : SV → Mem → Prop) : Prop :=
  match v with
  | .func (.yield l') ⟨[]⟩ ⟨[]⟩ => l' = l ∧ match m[G]? with
    | some (some (.loop r' 0)) => r' = r ∧ match setPs tm0 ps us with
      | some tm' => Xa ⟨tm', m⟩ (yB G r X k)
      | none => False
    | _ => False
  | _ => False

def toX : XE → Exit
  | .normal => .normal
  | .exit id => .exit id
  | .ret => .ret

/-- X walks c -/
def Walks (C : Ctx) (γ : Nm) (c : Code) (X : St → (XE → St → Prop) → Prop) : Prop := ∀ (σ' : St) (K' : XE → St → Prop) (β : Nm) (a : Act) (w : World) (F : Fence) (d bs : Nat), Wd F → F.round.isSome = true → γ.le β → bs ≤ w.heap.size → X σ' K' → Fit bs σ' β a w →
  ∀ Q : Exit → Act → World → Prop, (∀ e a' w', Ends bs C σ'.m β w (K' e) a' w' → Q (toX e) a' w') → c.wpIn F d C.P Q a w

theorem yH_sound {C : Ctx} {γ : Nm} {tm0 : List SV} {ps : List Tmp} {G l : Nat} {r : Loop} {Xa X : St → (XE → St → Prop) → Prop} (hG : γ G = some l) (htm : All₂ (Has γ) tm0 r.tmps.toList) (hps : r.params = ⟨ps⟩)
    (hXa : Walks C γ r.assign Xa) (hX : Walks C γ r.body X) : YSound C (yH tm0 ps G l r Xa X) γ := by
  intro v us m K vals w hy hs hus
  unfold yH at hy
  split at hy
  case h_2 => exact hy.elim
  rename_i l'
  obtain ⟨hl, hy⟩ := hy
  subst l'
  split at hy
  · rename_i r' hmG
    obtain ⟨rfl, hy⟩ := hy
    split at hy
    · rename_i tm' htm'
      obtain ⟨a, ha, hB⟩ := hs.live hmG id
      rw [hG] at ha; cases ha
      have hheap : w.heap[l]? = some (.loop (loopAt r' 0)) := hB
      obtain ⟨hlen, hset⟩ := setPs_has htm' htm hus
      refine ⟨l, r'.fn, _, r'.assign, r'.body, rfl, run_yield (r := loopAt r' 0) hheap (by show vals.length = r'.params.size; rw [hps, hlen]; rfl), ?_⟩
      intro F n hF
      refine roundIn_of_wpIn (hF.fn _) (hXa _ _ γ _ _ (F.inRound l) n w.heap.size (hF.inRound l) rfl (Nm.le_refl γ) (Nat.le_refl _) hy ⟨?_, hs, ?_⟩ _ ?_)
      · have e1 : ((loopAt r' 0).params.zip (⟨vals⟩ : Array Value)) = ⟨ps.zip vals⟩ := by
          show r'.params.zip _ = _
          rw [hps]; simp
        show All₂ (Has γ) tm' _
        rw [e1]
        have e2 : ∀ (L : List (Tmp × Value)) (t : Array Value), ((⟨L⟩ : Array (Tmp × Value)).foldl (fun tmps x => match x with | (t, a) => tmps.setIfInBounds t a) t) = L.foldl (fun tmps (x : Tmp × Value) => tmps.setIfInBounds x.1 x.2) t := by
          intro L t
          rw [List.foldl_toArray]
        simp only [e2, fold_set]
        exact hset
      · exact trivial
      · rintro e a1 w1 ⟨σ1, β1, hf1, hsi0, hk1⟩
        cases e with
        | exit id => exact hk1.elim
        | ret => exact hk1.elim
        | normal =>
          unfold yB at hk1
          simp only at hk1
          split at hk1
          · rename_i r1 hmb
            obtain ⟨rfl, hk1⟩ := hk1
            have hG1 := hsi0.ext _ _ hG
            obtain ⟨a2, ha2, hB2⟩ := hf1.sat.live hmb id
            rw [hG1] at ha2; cases ha2
            have hheap1 : w1.heap[l]? = some (.loop (loopAt r1 0)) := hB2
            have hturn := turn_put w1 l (.loop (loopAt r1 1))
            have hs1 : Sat β1 (σ1.m.set G (some (.loop r1 1))) (w1.putObj l (.loop (loopAt r1 1))) := hf1.sat.turn hmb trivial hG1 hturn (put_here hheap1)
            have hi1 : Since m γ w (σ1.m.set G (some (.loop r1 1))) β1 (w1.putObj l (.loop (loopAt r1 1))) := Since.trans hs hsi0 (since_turn hmb trivial hG1 hturn)
            have hsz : (w1.putObj l (.loop (loopAt r1 1))).heap.size = w1.heap.size := by simp
            refine ⟨w1.putObj l (.loop (loopAt r1 1)), run_beginRound (r := loopAt r1 0) hheap1 rfl, hX _ _ β1 _ _ (F.inRound l) n w.heap.size (hF.inRound l) rfl hsi0.ext (by rw [hsz]; exact hsi0.size) hk1 ⟨hf1.tm, hs1, hf1.df.mono fun D hD => ?_⟩ _ ?_⟩
            · rw [hturn.else_ D (Array.getElem?_eq_some_iff.1 hD).1]
              · exact hD
              · rintro rfl
                rw [hheap1] at hD; cases hD
            rintro e a' w' ⟨σ', β', hf', hsi, hk⟩
            split at hk
            · rename_i r'' hmG'
              obtain ⟨rfl, hk⟩ := hk
              have hG' := hsi.ext _ _ hG1
              obtain ⟨a2, ha2, hB2⟩ := hf'.sat.live hmG' id
              rw [hG'] at ha2; cases ha2
              have hheap' : w'.heap[l]? = some (.loop (loopAt r'' 1)) := hB2
              have fin : ∀ (jump : Option Code) (j : Nat), loopAt r'' j = { loopAt r'' 1 with state := if jump.isNone then .ready else .done, pending := jump } → K (lb true jump.isNone) (σ'.m.set G (some (.loop r'' j))) →
                  ∃ v w'', (Instr.endRound l jump).run C.P w' = .ok v w'' ∧ ∃ γ' s m' r0, Ending.returned v = .returned r0 ∧ Sat γ' m' w'' ∧ Since m γ w m' γ' w'' ∧ Has γ' s r0 ∧ K s m' := by
                intro jump j hj hK
                have ht := turn_put w' l (.loop (loopAt r'' j))
                refine ⟨_, _, run_endRound jump hheap', β', lb true jump.isNone, _, _, rfl, ?_, ?_, .v (.one .bool), hK⟩
                · rw [← hj]
                  exact hf'.sat.turn hmG' trivial hG' ht (put_here hheap')
                · rw [← hj]
                  exact Since.trans hs (Since.trans hs hi1 hsi) (since_turn hmG' trivial hG' ht)
              cases e with
              | normal => exact fin none 0 rfl hk
              | ret => exact fin (some .ret) 2 rfl hk
              | exit id => exact fin (some (.exit id)) (id + 3) rfl hk
            · exact hk.elim
          · exact hk1.elim
    · exact hy.elim
  · exact hy.elim

end Go.Proofs.Ytlmhklaobfmhbaa.Rex
