/- A WALK BY COMPUTATION, loops over functions: yield, and what lies behind such a loop. Conditions: none. Own work. -/
import Derived.Test.YtceffompldihjaaRex12
import Derived.Test.YtceffompldihjaaRexE
import Derived.RangeFuncRecord
namespace Go.Proofs.Ytceffompldihjaa.Rex
open Go.RowKit
set_option linter.unusedVariables false
set_option linter.unusedSimpArgs false

section
variable {F : Fence} {n : Nat} {P : Program} {b : Frame} {a : Act} {k : List Item} {cs : List Frame} {w : World} {Q : Exit → Act → World → Prop}
theorem stepR_scope' {c : Code} : step P (lone (b.atR a (.code (.scope c) :: k)) cs w) = .next (lone (b.atR a (.code c :: .inScope c :: k)) cs w) :=
  step_lone_go (by simp [stepG, stepG.exec, Frame.atR])
theorem stepR_inScope' {c : Code} : step P (lone (b.atR a (.inScope c :: k)) cs w) = .next (lone (b.atR a k) cs w) :=
  step_lone_go (by simp [stepG, stepG.exec, Frame.atR])
theorem wpIn_scope_straight {c : Code} (h : c.wpIn F n P (Exit.noGoto Q) a w) : (Code.scope c).wpIn F n P Q a w := by
  intro b k cs hro hb hr
  have h0 : (lone (b.atR a (.code (.scope c) :: k)) cs w).fenced P F := fenced_calm hb hr rfl
  obtain ⟨e, a₁, w₁, hq, harr⟩ := h b (.inScope c :: k) cs hro hb hr
  cases e with
  | normal => exact ⟨.normal, a₁, w₁, hq, .head h0 stepR_scope' (StepsIn.trans harr (.one (fenced_calm hb hr rfl) stepR_inScope'))⟩
  | exit id =>
    have hx : exitTo id (.inScope c :: k) = exitTo id k := by simp [exitTo]
    exact ⟨.exit id, a₁, w₁, hq, fun k' hk => .head h0 stepR_scope' (harr.1 k' (by rw [hx]; exact hk)),
      fun hr' hk => let ⟨k₁, h1, h2⟩ := harr.2 hr' (by rw [hx]; exact hk); ⟨k₁, h1, .head h0 stepR_scope' h2⟩⟩
  | goto l => exact hq.elim
  | ret => exact ⟨_, a₁, w₁, hq, .of_steps (.one h0 stepR_scope') harr⟩
  | panic ch => exact ⟨_, a₁, w₁, hq, .of_steps (.one h0 stepR_scope') harr⟩
  | outgrown => exact ⟨_, a₁, w₁, hq, .of_steps (.one h0 stepR_scope') harr⟩
end

theorem turn_put (w : World) (l : Nat) (o : Obj) : Turn1 w l (w.putObj l o) := ⟨fun k _ hk => World.putObj_heap_other hk, by simp, rfl, rfl, rfl⟩
theorem put_here {w : World} {l : Nat} {o o' : Obj} (h : w.heap[l]? = some o') : (w.putObj l o).heap[l]? = some o := World.putObj_heap_same (Array.getElem?_eq_some_iff.1 h).1

/-- a block that turns and is forgotten -/
theorem Sat.drop {β : Nm} {m : Mem} {w w' : World} (h : Sat β m w) {x b : Nat} {b0 : Blk} (hx : m[x]? = some (some b0)) (hrw : b0.rw) (hb : β x = some b) (hp : Turn1 w b w') : Sat β (m.set x none) w' := by
  have kx : kw m x := ⟨b0, hx, hrw⟩
  have cut : ∀ (y : Nat) (c : Blk), (m.set x none)[y]? = some (some c) → y ≠ x ∧ m[y]? = some (some c) := by
    intro y c hc
    by_cases e : x = y
    · subst e
      rw [List.getElem?_set] at hc
      simp at hc
    · rw [List.getElem?_set_ne e] at hc
      exact ⟨fun e' => e e'.symm, hc⟩
  refine ⟨fun y c hc => ?_, ?_, fun y a hy => by simpa using h.dom y a hy, h.gl.keep fun p hp' hl => hp.else_ p.1 hl fun e => h.ng x b kx hb p hp' e, fun y a ⟨c, hc, hcr⟩ hy => h.ng y a ⟨c, (cut y c hc).2, hcr⟩ hy⟩
  · obtain ⟨hne, hy⟩ := cut y c hc
    refine h.blk_keep (Nm.le_refl β) hy fun a hk ha => hp.else_ a (h.lt hk ha) fun e => hne ?_
    exact (h.inj x y a kx hk (by rw [e]; exact hb) ha).symm
  · rintro y z a ⟨c, hc, hcr⟩ ⟨d, hd, hdd⟩ hy hz
    exact h.inj y z a ⟨c, (cut y c hc).2, hcr⟩ ⟨d, (cut z d hd).2, hdd⟩ hy hz
theorem since_drop {β : Nm} {m : Mem} {w w' : World} {x b : Nat} {b0 : Blk} (hx : m[x]? = some (some b0)) (hrw : b0.rw) (hb : β x = some b) (hp : Turn1 w b w') : Since m β w (m.set x none) β w' := by
  have kx : kw m x := ⟨b0, hx, hrw⟩
  have cut : ∀ (y : Nat) (c : Blk), (m.set x none)[y]? = some (some c) → y ≠ x ∧ m[y]? = some (some c) := by
    intro y c hc
    by_cases e : x = y
    · subst e
      rw [List.getElem?_set] at hc
      simp at hc
    · rw [List.getElem?_set_ne e] at hc
      exact ⟨fun e' => e e'.symm, hc⟩
  refine ⟨Nm.le_refl β, fun _ _ => rfl, by simp, ?_, ?_, hp.os, hp.tape, hp.output, hp.size, ?_⟩
  · intro q y hy hk
    have := kq_lt hk
    simp at this
    omega
  · rintro q y hy ⟨c, hc, hcr⟩
    exact ⟨c, (cut y c hc).2, hcr⟩
  · intro k hk hf
    exact hp.else_ k hk fun e => hf x kx (by rw [hb, e])

/-! ### a function's return, past the marks -/
/-- some blocks of deferred calls have been shut, all laid since the heap had bs blocks -/
structure Shut (bs : Nat) (w w' : World) : Prop where
  below : ∀ k : Nat, k < bs → w'.heap[k]? = w.heap[k]?
  keep : ∀ (k : Nat) (o : Obj), w.heap[k]? = some o → (∀ x, o ≠ .deferred x) → w'.heap[k]? = some o
  size : w'.heap.size = w.heap.size
  os : w'.os = w.os
  tape : w'.tape = w.tape
  output : w'.output = w.output
theorem Shut.refl (bs : Nat) (w : World) : Shut bs w w := ⟨fun _ _ => rfl, fun _ _ h _ => h, rfl, rfl, rfl, rfl⟩
theorem Shut.trans {bs : Nat} {x y z : World} (h : Shut bs x y) (k : Shut bs y z) : Shut bs x z :=
  ⟨fun i hi => (k.below i hi).trans (h.below i hi), fun i o hi ho => k.keep i o (h.keep i o hi ho) ho, k.size.trans h.size, k.os.trans h.os, k.tape.trans h.tape, k.output.trans h.output⟩
theorem shut_put {bs : Nat} {w : World} {D : Nat} {x y : Option (List Deferred)} (hb : bs ≤ D) (hD : w.heap[D]? = some (.deferred x)) : Shut bs w (w.putObj D (.deferred y)) := by
  refine ⟨fun k hk => World.putObj_heap_other (by omega), fun k o hk ho => ?_, by simp, rfl, rfl, rfl⟩
  rw [World.putObj_heap_other]
  · exact hk
  · rintro rfl
    rw [hD] at hk; cases hk
    exact ho _ rfl
theorem Shut.hasB {bs : Nat} {w w' : World} (h : Shut bs w w') {β : Nm} {b : Blk} {a : Nat} (k : HasB β b w.heap[a]?) : HasB β b w'.heap[a]? := by
  cases b with
  | cells l t =>
    obtain ⟨vs, e, hv⟩ := k
    exact ⟨vs, h.keep a _ e (fun x e => by cases e), hv⟩
  | rows =>
    obtain ⟨e0, vs, fz, t', e, h1, h2⟩ := k
    exact ⟨e0, vs, fz, t', h.keep a _ e (fun x e => by cases e), h1, h2⟩
  | loop => exact h.keep a _ k (fun x e => by cases e)
theorem Shut.sat {bs : Nat} {w w' : World} (h : Shut bs w w') {β : Nm} {m : Mem} (hs : Sat β m w) : Sat β m w' :=
  ⟨fun x b hb => (hs.blk x b hb).imp id fun ⟨a, ha, hB⟩ => ⟨a, ha, h.hasB hB⟩, hs.inj, hs.dom, fun p hp => by obtain ⟨t, fz, hh⟩ := hs.gl p hp; exact ⟨t, fz, h.keep _ _ hh fun x e => by cases e⟩, hs.ng⟩
theorem Shut.since {bs : Nat} {w w' : World} (h : Shut bs w w') {m0 m : Mem} {β0 β : Nm} {w0 : World} (hb : w0.heap.size ≤ bs) (hs : Since m0 β0 w0 m β w) : Since m0 β0 w0 m β w' :=
  ⟨hs.ext, hs.same, hs.len, hs.new, hs.sub, h.os.trans hs.os, h.tape.trans hs.tape, h.output.trans hs.output, by rw [h.size]; exact hs.size, fun k hk hf => by rw [h.below k (by omega)]; exact hs.frame k hk hf⟩

theorem Marks.put {bs : Nat} {w : World} {D : Nat} {o : Obj} : ∀ {ds : List Deferred}, (∀ d' ∈ ds, d' ≠ { target := .collected D, args := #[] }) → Marks bs w ds → Marks bs (w.putObj D o) ds
  | [], _, _ => trivial
  | d :: ds, hne, ⟨⟨D', h1, h2, h3, h4⟩, k⟩ => by
    refine ⟨⟨D', h1, h2, ?_, h4⟩, Marks.put (fun d' hd' => hne d' (List.mem_cons_of_mem _ hd')) k⟩
    rw [World.putObj_heap_other]
    · exact h3
    · rintro rfl
      exact hne d (by simp) h1

theorem leaves_marks {F : Fence} {n : Nat} {P : Program} {fn : Func} {tmps : Array Value} {R : Ending → World → Prop} {bs : Nat} : ∀ {ds : List Deferred} {w : World}, Marks bs w ds →
    (∀ w', Shut bs w w' → ∃ v, (results fn tmps).run P w' = .ok v w' ∧ R (.returned v) w') → LeavesInM F n P fn tmps R ds .returning w
  | [], w, _, h => h w (Shut.refl bs w)
  | d :: ds, w, ⟨⟨D, h1, h2, h3, h4⟩, k⟩, h => by
    subst h1
    refine ⟨by simp, .inl ⟨D, w.putObj D (.deferred none), rfl, run_takeDeferred h3, leaves_marks (Marks.put h4 k) fun w' hs => h w' ((shut_put h2 h3).trans hs)⟩⟩

/-! ### yield -/
/-- the parameters of a round -/
def setPs (tm : List SV) : List Tmp → List SV → Option (List SV)
  | [], [] => some tm
  | p :: ps, s :: ss => setPs (tm.set p s) ps ss
  | _, _ => none
theorem setPs_has {γ : Nm} : ∀ {ps : List Tmp} {ss : List SV} {tm tm' : List SV} {l vs : List Value}, setPs tm ps ss = some tm' → All₂ (Has γ) tm l → All₂ (Has γ) ss vs →
    vs.length = ps.length ∧ All₂ (Has γ) tm' ((ps.zip vs).foldl (fun t (x : Tmp × Value) => t.set x.1 x.2) l)
  | [], [], tm, tm', l, vs, h, ht, hv => by
    cases h
    rw [hv.nil_inv]
    exact ⟨rfl, ht⟩
  | p :: ps, s :: ss, tm, tm', l, vs, h, ht, hv => by
    obtain ⟨v, vs, rfl, h1, h2⟩ := hv.cons_inv
    obtain ⟨e1, e2⟩ := setPs_has (ps := ps) h (ht.set h1 p) h2
    exact ⟨by simp [e1], e2⟩
  | [], _ :: _, _, _, _, _, h, _, _ => by cases h
  | _ :: _, [], _, _, _, _, h, _, _ => by cases h
theorem fold_set : ∀ (l : List (Tmp × Value)) (t : Array Value), (l.foldl (fun tmps (x : Tmp × Value) => tmps.setIfInBounds x.1 x.2) t).toList = l.foldl (fun t (x : Tmp × Value) => t.set x.1 x.2) t.toList
  | [], t => rfl
  | x :: l, t => by rw [List.foldl_cons, List.foldl_cons, fold_set l, Array.toList_setIfInBounds]

/-- a round's body, walked by X -/
def yB (G : Nat) (r : Loop) (X : St → (XE → St → Prop) → Prop) (k : SV → Mem → Prop) (e : XE) (σ1 : St) : Prop := match e with
  | .normal => match σ1.m[G]? with
    | some (some (.loop r1 0)) => r1 = r ∧ X ⟨σ1.tm, σ1.m.set G (some (.loop r 1))⟩ fun e σ' => match σ'.m[G]? with
      | some (some (.loop r'' 1)) => r'' = r ∧ match e with
        | .normal => k (lb true true) (σ'.m.set G (some (.loop r 0)))
        | .ret => k (lb true false) (σ'.m.set G (some (.loop r 2)))
        | .exit id => k (lb true false) (σ'.m.set G (some (.loop r (id + 3))))
      | _ => False
    | _ => False
  | _ => False
/-- what a call of yield leaves to be shown: the round, its assignments walked by Xa, its body by X -/
def yH (tm0 : List SV) (ps : List Tmp) (G l : Nat) (r : Loop) (Xa X : St → (XE → St → Prop) → Prop) (v : Value) (us : List SV) (m : Mem) (k : SV → Mem → Prop) : Prop :=
  match v with
  | .func (.yield l') ⟨[]⟩ ⟨[]⟩ => l' = l ∧ match m[G]? with
    | some (some (.loop r' 0)) => r' = r ∧ match setPs tm0 ps us with
      | some tm' => Xa ⟨tm', m⟩ (yB G r X k)
      | none => False
    | _ => False
  | _ => False

def toX : XE → Exit
  | .normal => .normal
  | .exit id => .exit id
  | .ret => .ret

/-- X walks c -/
def Walks (C : Ctx) (γ : Nm) (c : Code) (X : St → (XE → St → Prop) → Prop) : Prop := ∀ (σ' : St) (K' : XE → St → Prop) (β : Nm) (a : Act) (w : World) (F : Fence) (d bs : Nat), Wd F → F.round.isSome = true → γ.le β → bs ≤ w.heap.size → X σ' K' → Fit bs σ' β a w →
  ∀ Q : Exit → Act → World → Prop, (∀ e a' w', Ends bs C σ'.m β w (K' e) a' w' → Q (toX e) a' w') → c.wpIn F d C.P Q a w

theorem yH_sound {C : Ctx} {γ : Nm} {tm0 : List SV} {ps : List Tmp} {G l : Nat} {r : Loop} {Xa X : St → (XE → St → Prop) → Prop} (hG : γ G = some l) (htm : All₂ (Has γ) tm0 r.tmps.toList) (hps : r.params = ⟨ps⟩)
    (hXa : Walks C γ r.assign Xa) (hX : Walks C γ r.body X) : YSound C (yH tm0 ps G l r Xa X) γ := by
  intro v us m K vals w hy hs hus
  unfold yH at hy
  split at hy
  case h_2 => exact hy.elim
  rename_i l'
  obtain ⟨hl, hy⟩ := hy
  subst l'
  split at hy
  · rename_i r' hmG
    obtain ⟨rfl, hy⟩ := hy
    split at hy
    · rename_i tm' htm'
      obtain ⟨a, ha, hB⟩ := hs.live hmG id
      rw [hG] at ha; cases ha
      have hheap : w.heap[l]? = some (.loop (loopAt r' 0)) := hB
      obtain ⟨hlen, hset⟩ := setPs_has htm' htm hus
      refine ⟨l, r'.fn, _, r'.assign, r'.body, rfl, run_yield (r := loopAt r' 0) hheap (by show vals.length = r'.params.size; rw [hps, hlen]; rfl), ?_⟩
      intro F n hF
      refine roundIn_of_wpIn (hF.fn _) (hXa _ _ γ _ _ (F.inRound l) n w.heap.size (hF.inRound l) rfl (Nm.le_refl γ) (Nat.le_refl _) hy ⟨?_, hs, ?_⟩ _ ?_)
      · have e1 : ((loopAt r' 0).params.zip (⟨vals⟩ : Array Value)) = ⟨ps.zip vals⟩ := by
          show r'.params.zip _ = _
          rw [hps]; simp
        show All₂ (Has γ) tm' _
        rw [e1]
        have e2 : ∀ (L : List (Tmp × Value)) (t : Array Value), ((⟨L⟩ : Array (Tmp × Value)).foldl (fun tmps x => match x with | (t, a) => tmps.setIfInBounds t a) t) = L.foldl (fun tmps (x : Tmp × Value) => tmps.setIfInBounds x.1 x.2) t := by
          intro L t
          rw [List.foldl_toArray]
        simp only [e2, fold_set]
        exact hset
      · exact trivial
      · rintro e a1 w1 ⟨σ1, β1, hf1, hsi0, hk1⟩
        cases e with
        | exit id => exact hk1.elim
        | ret => exact hk1.elim
        | normal =>
          unfold yB at hk1
          simp only at hk1
          split at hk1
          · rename_i r1 hmb
            obtain ⟨rfl, hk1⟩ := hk1
            have hG1 := hsi0.ext _ _ hG
            obtain ⟨a2, ha2, hB2⟩ := hf1.sat.live hmb id
            rw [hG1] at ha2; cases ha2
            have hheap1 : w1.heap[l]? = some (.loop (loopAt r1 0)) := hB2
            have hturn := turn_put w1 l (.loop (loopAt r1 1))
            have hs1 : Sat β1 (σ1.m.set G (some (.loop r1 1))) (w1.putObj l (.loop (loopAt r1 1))) := hf1.sat.turn hmb trivial hG1 hturn (put_here hheap1)
            have hi1 : Since m γ w (σ1.m.set G (some (.loop r1 1))) β1 (w1.putObj l (.loop (loopAt r1 1))) := Since.trans hs hsi0 (since_turn hmb trivial hG1 hturn)
            have hsz : (w1.putObj l (.loop (loopAt r1 1))).heap.size = w1.heap.size := by simp
            refine ⟨w1.putObj l (.loop (loopAt r1 1)), run_beginRound (r := loopAt r1 0) hheap1 rfl, hX _ _ β1 _ _ (F.inRound l) n w.heap.size (hF.inRound l) rfl hsi0.ext (by rw [hsz]; exact hsi0.size) hk1 ⟨hf1.tm, hs1, hf1.df.mono fun D hD => ?_⟩ _ ?_⟩
            · rw [hturn.else_ D (Array.getElem?_eq_some_iff.1 hD).1]
              · exact hD
              · rintro rfl
                rw [hheap1] at hD; cases hD
            rintro e a' w' ⟨σ', β', hf', hsi, hk⟩
            split at hk
            · rename_i r'' hmG'
              obtain ⟨rfl, hk⟩ := hk
              have hG' := hsi.ext _ _ hG1
              obtain ⟨a2, ha2, hB2⟩ := hf'.sat.live hmG' id
              rw [hG'] at ha2; cases ha2
              have hheap' : w'.heap[l]? = some (.loop (loopAt r'' 1)) := hB2
              have fin : ∀ (jump : Option Code) (j : Nat), loopAt r'' j = { loopAt r'' 1 with state := if jump.isNone then .ready else .done, pending := jump } → K (lb true jump.isNone) (σ'.m.set G (some (.loop r'' j))) →
                  ∃ v w'', (Instr.endRound l jump).run C.P w' = .ok v w'' ∧ ∃ γ' s m' r0, Ending.returned v = .returned r0 ∧ Sat γ' m' w'' ∧ Since m γ w m' γ' w'' ∧ Has γ' s r0 ∧ K s m' := by
                intro jump j hj hK
                have ht := turn_put w' l (.loop (loopAt r'' j))
                refine ⟨_, _, run_endRound jump hheap', β', lb true jump.isNone, _, _, rfl, ?_, ?_, .v (.one .bool), hK⟩
                · rw [← hj]
                  exact hf'.sat.turn hmG' trivial hG' ht (put_here hheap')
                · rw [← hj]
                  exact Since.trans hs (Since.trans hs hi1 hsi) (since_turn hmG' trivial hG' ht)
              cases e with
              | normal => exact fin none 0 rfl hk
              | ret => exact fin (some .ret) 2 rfl hk
              | exit id => exact fin (some (.exit id)) (id + 3) rfl hk
            · exact hk.elim
          · exact hk1.elim
    · exact hy.elim
  · exact hy.elim

/-! ### functions -/
def res1 (P : Program) (σ : St) : ResultVar → Option SV
  | .tmp t => ev σ.tm (.tmp t)
  | .cell a t => match ev σ.tm (.tmp a) with
    | some (.v (.one (.ptr x off))) => match mmOf σ.m x with
      | some (.cells l _) => match partL P t l off with
        | some v => some (.v v)
        | none => none
      | _ => none
    | _ => none
def resQ (P : Program) (σ : St) : List ResultVar → Option SV
  | [r] => res1 P σ r
  | rs => match omap (fun r => (res1 P σ r).bind asV) rs with
    | some l => some (.tup l)
    | none => none

section
variable {bs : Nat} {C : Ctx} {σ : St} {β : Nm} {a : Act} {w : World}

theorem loadVar_has {P : Program} {m : Mem} {t : TypeId} {x off k : Nat} {l : List Lf} {e : TypeId} {v : Vv} (hs : Sat β m w) (hm : mmOf m x = some (.cells l e)) (hk : β x = some k) (hp : partL P t l off = some v) :
    ∃ r, (loadVar t ⟨k, off, none⟩).run P w = .ok r w ∧ HasV β v r := by
  have hmb : m[x]? = some (some (.cells l e)) := by
    unfold mmOf at hm
    split at hm
    · cases hm; assumption
    · cases hm
  obtain ⟨k', hk', vs, hob, hvs⟩ := hs.cells hmb
  rw [hk] at hk'; cases hk'
  have hcell : ∀ i : Nat, w.cell? ⟨k, i, none⟩ = vs[i]? := fun i => by simp [World.cell?, hob]
  unfold partL at hp
  split at hp
  · rename_i ha
    split at hp
    · rename_i n hn
      split at hp
      · rename_i hd
        cases hp
        have hlen := of_decide_eq_true hd
        have hl2 := hvs.length
        have hload : (loadCells ⟨k, off, none⟩ n).run P w = .ok ((vs.drop off).take n).toArray w := by
          have hln : ((vs.drop off).take n).length = n := by simp; omega
          have := run_loadCells_list (P := P) w ⟨k, off, none⟩ ((vs.drop off).take n) (fun j v hj => by
            rw [addr_add, hcell]
            rw [List.getElem?_take] at hj
            split at hj
            · rw [List.getElem?_drop] at hj; exact hj
            · cases hj)
          rw [hln] at this
          exact this
        exact ⟨.agg ((vs.drop off).take n).toArray, by simp [loadVar, run_isAgg ha, run_sizeOf' hn, hload], .agg ((hvs.drop _).take _)⟩
      · cases hp
    · cases hp
  · rename_i ha
    split at hp
    · rename_i y hy
      cases hp
      obtain ⟨u, hu, hyu⟩ := hvs.get hy
      exact ⟨u, by simp [loadVar, run_isAgg ha, hcell, hu], .one hyu⟩
    · cases hp
  · cases hp

/-- one of the results, as the model takes it -/
def resM (tmps : Array Value) : ResultVar → Sem Value
  | .tmp t => pure (tmps.getD t undef)
  | .cell a t => do loadVar t (← Go.asAddr (tmps.getD a undef))

theorem res1_run {P : Program} (hf : Fit bs σ β a w) {r : ResultVar} {s : SV} (h : res1 P σ r = some s) : ∃ v, (resM a.tmps r).run P w = .ok v w ∧ Has β s v := by
  unfold res1 at h
  unfold resM
  split at h
  · rename_i t
    exact ⟨a.eval (.tmp t), rfl, ev_has hf.tm h⟩
  · rename_i p t
    split at h
    · rename_i x off hx
      have hv := ev_has hf.tm hx
      split at h
      · rename_i l e hm
        split at h
        · rename_i v hp
          cases h
          cases hv with
          | v hv => cases hv with
            | one hv =>
              generalize hq : a.eval (.tmp p) = q at hv
              cases hv with
              | ptr hb =>
                rename_i k
                obtain ⟨r, hr, hh⟩ := loadVar_has (P := P) hf.sat hm hb hp
                refine ⟨r, ?_, .v hh⟩
                have hq' : a.tmps.getD p undef = .pointer (some ⟨k, off, none⟩) := hq
                simp only [hq', Go.asAddr, Sem.run_bind, Sem.run_pure, Result.andThen_ok]
                exact hr
        · cases h
      · cases h
    · cases h

theorem resL_run {P : Program} (hf : Fit bs σ β a w) : ∀ {rs : List ResultVar} {l : List Vv}, omap (fun r => (res1 P σ r).bind asV) rs = some l → ∃ vs, (rs.mapM (resM a.tmps)).run P w = .ok vs w ∧ All₂ (HasV β) l vs
  | [], l, h => by cases h; exact ⟨[], rfl, .nil⟩
  | r :: rs, l, h => by
    unfold omap at h
    split at h
    · cases h
    · rename_i b hb
      split at h
      · cases h
      · rename_i bs hbs
        cases h
        obtain ⟨s, hs, hsb⟩ := Option.bind_eq_some_iff.1 hb
        obtain ⟨v, hv, hh⟩ := res1_run (P := P) hf hs
        obtain ⟨vs, hvs, hhs⟩ := resL_run hf hbs
        refine ⟨v :: vs, ?_, .cons ?_ hhs⟩
        · rw [List.mapM_cons]
          simp only [Sem.run_bind, hv, Result.andThen_ok, hvs, Sem.run_pure]
        · cases s with
          | v x => cases hsb; cases hh with
            | v hh => exact hh
          | _ => cases hsb

theorem resQ_run {P : Program} (hf : Fit bs σ β a w) {fn : Func} {s : SV} (h : resQ P σ fn.results.toList = some s) : ∃ v, (results fn a.tmps).run P w = .ok v w ∧ Has β s v := by
  have hdef : results fn a.tmps = (do
    let vs ← fn.results.mapM (resM a.tmps)
    pure (if h : vs.size = 1 then vs[0] else .tuple vs)) := by
    unfold results resM
    congr 1
  rw [hdef, Array.mapM_eq_mapM_toList]
  unfold resQ at h
  split at h
  · rename_i r hr
    obtain ⟨v, hv, hh⟩ := res1_run (P := P) hf h
    refine ⟨v, ?_, hh⟩
    rw [hr]
    simp only [List.mapM_cons, List.mapM_nil, Sem.run_bind, Sem.run_map, hv, Result.andThen_ok, Sem.run_pure]
    rfl
  · rename_i hne
    split at h
    · rename_i l hl
      cases h
      obtain ⟨vs, hvs, hhs⟩ := resL_run (P := P) hf hl
      refine ⟨.tuple ⟨vs⟩, ?_, .tup hhs⟩
      simp only [Sem.run_bind, Sem.run_map, hvs, Result.andThen_ok, Sem.run_pure]
      have : vs.length ≠ 1 := by
        have e1 := hhs.length
        have e2 : ∀ {rs : List ResultVar} {l : List Vv}, omap (fun r => (res1 P σ r).bind asV) rs = some l → l.length = rs.length := by
          intro rs l h
          have := (omap_all (g := id) (R := fun _ _ => True) (fun _ _ _ => trivial) h).length
          simpa using this.symm
        have e3 := e2 hl
        intro h1
        have h4 : fn.results.toList.length = 1 := by omega
        obtain ⟨r, hr⟩ := List.length_eq_one_iff.1 h4
        exact hne r hr
      rw [dif_neg (by simpa using this)]
    · cases h


/-- behind a function's body: what its results leave to be shown -/
def fnK (P : Program) (rs : List ResultVar) (K : SV → Mem → Prop) (e : XE) (σ : St) : Prop := match e with
  | .exit _ => False
  | _ => match resQ P σ rs with
    | some v => K v σ.m
    | none => False
theorem calls_of_walk {f : FuncId} {fn : Func} {c : Code} (hfn : C.P.funcs[f]? = some fn) (hb : fn.body = some c) {args : List SV} {vals : List Value} {m : Mem} {K : SV → Mem → Prop} (hargs : All₂ (Has β) args vals) (hs : Sat β m w)
    (hw : ∀ a : Act, Fit w.heap.size ⟨args ++ List.replicate (fn.ntmps - args.length) (.tup []), m⟩ β a w → ∀ Q : Exit → Act → World → Prop, (∀ e a' w', Ends w.heap.size C m β w (fnK C.P fn.results.toList K e) a' w' → Q (toX e) a' w') → c.wpIn Fence.wide 0 C.P Q a w) :
    Calls C.P f ⟨vals⟩ w fun e w' => ∃ β' v m' r, Sat β' m' w' ∧ Since m β w m' β' w' ∧ e = .returned r ∧ Has β' v r ∧ K v m' := by
  have hrep : ∀ n, All₂ (Has β) (List.replicate n (SV.tup [])) (List.replicate n undef) := by
    intro n
    induction n with
    | zero => exact .nil
    | succ n ih => exact .cons (.tup .nil) ih
  refine wd_wide.of_calls (n := 0) (callsIn_of_wp_marks hfn hb trivial ?_)
  refine hw _ ⟨?_, hs, ?_⟩ _ ?_
  rotate_left
  · exact trivial
  rotate_left
  · show All₂ (Has β) _ (({ toList := vals } : Array Value) ++ Array.replicate (fn.ntmps - vals.length) undef).toList
    have e : (({ toList := vals } : Array Value) ++ Array.replicate (fn.ntmps - vals.length) undef).toList = vals ++ List.replicate (fn.ntmps - args.length) undef := by
      rw [hargs.length]; simp
    rw [e]
    exact hargs.append (hrep _)
  · rintro e a' w' ⟨σ', β', hf', hsin, hk⟩
    have fin : ∀ {s : SV}, resQ C.P σ' fn.results.toList = some s → K s σ'.m → LeavesInM Fence.wide 0 C.P fn a'.tmps (fun e w' => ∃ β' v' m' r, Sat β' m' w' ∧ Since m β w m' β' w' ∧ e = .returned r ∧ Has β' v' r ∧ K v' m') a'.defers .returning w' := by
      intro s hr hk
      refine leaves_marks hf'.df fun w3 hsh => ?_
      have hf3 : Fit 0 σ' β' ⟨a'.tmps, []⟩ w3 := ⟨hf'.tm, hsh.sat hf'.sat, trivial⟩
      obtain ⟨v, hv, hh⟩ := resQ_run (P := C.P) (fn := fn) hf3 hr
      exact ⟨v, hv, β', s, σ'.m, v, hf3.sat, hsh.since (Nat.le_refl _) hsin, rfl, hh, hk⟩
    cases e with
    | exit id => exact hk.elim
    | normal =>
      unfold fnK at hk
      simp only at hk
      split at hk
      · rename_i v hr; exact fin hr hk
      · exact hk.elim
    | ret =>
      unfold fnK at hk
      simp only at hk
      split at hk
      · rename_i v hr; exact fin hr hk
      · exact hk.elim
end

end Go.Proofs.Ytceffompldihjaa.Rex
