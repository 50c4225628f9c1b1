/- 'WholeDesync' IS TRUE AT EVERY INPUT: the given statement, out of the walk of its Go text. Conditions: none. The frame is the guide's own template (proof-skeleton), turned to 'Below'. -/
import Derived.Test.YtfdmjoddhjmokaaGreatDoorP11
import Derived.Test.YtfdmjoddhjmokaaGreatDoorRows
import Derived.WalkKit
import Derived.ProofKit
import Derived.OpenShut
import Derived.Test.YtfdmjoddhjmokaaGreatDoorCards
import Derived.Test.YtfdmjoddhjmokaaGreatDoorTie
import Derived.LaidMore
import Derived.Stop.Joined
import Derived.SevenTiedAt
namespace Go.Proofs.YtfdmjoddhjmokaaGreatDoor.wholeDesync
open Go.ChangeShapes Go.WideShapes Go.ChangeAt Go.RowKit
set_option linter.unusedVariables false
theorem own:ownKnob Tryz.prog.godebug=none:=by kernel_rfl
theorem laidOut:laidOutB Tryz.prog=true:=by kernel_rfl
theorem lv0:leaves Tryz.prog 9 26=some [some .u32,some .i64,some .i64,some .i64,some .u32,some .i64,some .i64,some .i64]:=by kernel_rfl
theorem sh0:(match Tryz.prog.underlying 26 with|some (.struct _)|some (.array _ _)=>true|_=>false)=true:=by kernel_rfl
abbrev laid:List (String×DataW Unit):= [("promptbook/feel.kinds",Rows.laid_promptbook_feel_kinds)]
theorem gV:Tryz.prog.globalNamed "promptbook/feel.kinds" =some 0:=by kernel_rfl
theorem tV:(Tryz.prog.globals[0]?).map (·.type)=some 410:=by kernel_rfl
theorem door_met(os:Os)(args:Array Value):laidMetH Tryz.prog laid ((World.doorLaid Tryz.prog 400 os).forCall (fun _ _=>0) ⟨#[],args,[]⟩).memory:=
 laidMetH_of_parts3 (fuel:=8) (laidMet_of_run' 8 (by kernel_rfl) (by kernel_rfl)) (by kernel_rfl) (by kernel_rfl)
theorem of_laid {W:World}(h:laidMetH Tryz.prog laid W):Rex.tC W:=by
 obtain ⟨t',fz,hh⟩:=aaq (us:=Rex.ggV) rfl gV tV (ks:=Rex.ggK) (by kernel_rfl) (by kernel_rfl) h
 intro p hp;have e:p=(0,Rex.ggV):=by simpa [Rex.GG] using hp
 subst e;exact ⟨t',fz,hh⟩
set_option maxRecDepth 100000 in
theorem lifted(os:Os)(started:os.Started)(H:Type)(enc:TypeId×Value→H):
  ReturnsInHanded {} Tryz.checked os 4 .any (fun w args=>(Rows.wholeDesyncSpec.pre enc Tryz.prog Tryz.f4 [] false w args∧laidMetH Tryz.prog laid w)∧sizedMet enc Tryz.prog Tryz.f4 (OpenSpec.ofChange Rows.wholeDesyncSpec) false w args) (Rows.wholeDesyncSpec.post enc Tryz.prog Tryz.f4 false true false false):=by
 refine returnsInHanded_of_change_and (C:=Tryz.checked) (X:=fun w _=>laidMetH Tryz.prog laid w) (fun _ _ _ hh h=>h.of_heap hh) own started (by kernel_rfl) Tryz.func4
  (ChangeSpec.witness_shaped (enc:=enc) (C:=Tryz.checked) (os:=os) (X:=fun w _=>laidMetH Tryz.prog laid w) false (World.doorLaid Tryz.prog 400 os) #[.agg #[.int .u32 0,.int .i64 0,.int .i64 0,.int .i64 0,.int .u32 0,.int .i64 0,.int .i64 0,.int .i64 0],.int .u8 0] 8 rfl (World.shaped_of_RefB (by kernel_rfl) (by kernel_rfl)) (by kernel_rfl) (by kernel_rfl) (by kernel_rfl) (door_met os _)) ?_
 intro W base args ds gs before hval0 hW _ _ hL _;have hG:=of_laid hL;have hval: ∀ (j:Nat) t v,Tryz.f4.params[j]? =some t→args[j]? =some v→Value.okWide Tryz.prog W .any base t v:=hval0;have hW':=hW;obtain ⟨p,q,hA0,hV,rfl,hfz,hnd⟩:=hW;have hA:DataW.TrodAll enc Tryz.prog W 0 (fun _=>true) true Tryz.f4.params.toList args.toList ds p:=hA0;rw [Tryz.params4] at hA hval;obtain ⟨v0,vs0,d0,ds0,p0,q0,hargs,rfl,rfl,h0,r0⟩:=trodAll_cons hA;obtain ⟨v1,vs1,d1,ds1,p1,q1,rfl,rfl,rfl,h1,r1⟩:=trodAll_cons r0;obtain ⟨rfl,rfl,rfl⟩:=trodAll_nil r1;obtain rfl:args= #[v0,v1]:=by cases args;simp_all
 obtain ⟨rfl,rfl⟩:=trodVars_none hV;have k0:=h0;have lt0: ∀x∈p0,x.block<W.heap.size:=by obtain ⟨m,hm⟩:=k0;exact DataW.trod_lt m _ _ _ hm
 obtain ⟨cs0,rfl,al0⟩:=a8Q lv0 sh0 (hval 0 26 v0 rfl rfl) h0;obtain ⟨_,_,rfl,⟨a0_0,rfl,w0_0⟩,al0_0⟩:=a05.cons_inv al0;obtain ⟨_,_,rfl,⟨a0_1,rfl,w0_1⟩,al0_1⟩:=a05.cons_inv al0_0;obtain ⟨_,_,rfl,⟨a0_2,rfl,w0_2⟩,al0_2⟩:=a05.cons_inv al0_1;obtain ⟨_,_,rfl,⟨a0_3,rfl,w0_3⟩,al0_3⟩:=a05.cons_inv al0_2;obtain ⟨_,_,rfl,⟨a0_4,rfl,w0_4⟩,al0_4⟩:=a05.cons_inv al0_3;obtain ⟨_,_,rfl,⟨a0_5,rfl,w0_5⟩,al0_5⟩:=a05.cons_inv al0_4;obtain ⟨_,_,rfl,⟨a0_6,rfl,w0_6⟩,al0_6⟩:=a05.cons_inv al0_5;obtain ⟨_,_,rfl,⟨a0_7,rfl,w0_7⟩,al0_7⟩:=a05.cons_inv al0_6;obtain rfl:=a05.aI al0_7;obtain ⟨a1,rfl,rfl,rfl,w1⟩:=open_int Tryz.underlying5 (hval 1 5 v1 rfl rfl) h1;clear hA0 hval0;refine (Pc a0_0 a0_1 a0_2 a0_3 a0_4 a0_5 a0_6 a0_7 a1 w0_0 w0_1 w0_2 w0_3 w0_4 w0_5 w0_6 w0_7 w1 W hG).mono fun e W' ⟨he,hx⟩=>?_;have bel:Below W.heap.size W W':=hx;subst he;exact ⟨_,rfl,_,_,_,[],_,[],hW',trodAll_mk1 (shut_bool Tryz.underlying4 _),(trodAll_cons_mk (Below.trod laidOut (by kernel_rfl) (of_decide_eq_true (by kernel_rfl)) k0 bel lt0) (trodAll_cons_mk (shut_int Tryz.underlying5 w1) trodAll_mk0)),rfl,bel.frame _,fun h=>by cases h⟩
theorem band {a b:Bool}(h:a=true)(k:b=true):(a&&b)=true:=by rw [h,k];rfl
theorem j1:(laidOutB Tryz.prog)=true:=by kernel_rfl
theorem j2:(mapsRowed Tryz.prog)=true:=by kernel_rfl
theorem j9:((Rows.wholeDesyncRow.inPlace==Tryz.prog.inPlace 4))=true:=by kernel_rfl
theorem j10:((Rows.wholeDesyncRow.unfollowed==Tryz.prog.unfollowed 4))=true:=by kernel_rfl
theorem j11:((Rows.wholeDesyncRow.recurses==Tryz.prog.recurses 4))=true:=by kernel_rfl
theorem j12:((Rows.wholeDesyncRow.named==Tryz.prog.varsNamed 4))=true:=by kernel_rfl
theorem closed:joinedFacts Tryz.prog 4 Tryz.f4 Rows.wholeDesyncSpec Rows.wholeDesyncRow=true:=by
 unfold joinedFacts;exact (band (band (band (band (band (band (band (band (band (band (band (band (band (band (band (band (band (band (band (band (band (band (band (band (band (band (band (band (band (band (band (by kernel_rfl) j1) j2) (by kernel_rfl)) (by kernel_rfl)) (by kernel_rfl)) (by kernel_rfl)) (by kernel_rfl)) (by kernel_rfl)) j9) j10) j11) j12) (by kernel_rfl)) (by kernel_rfl)) (by kernel_rfl)) (by kernel_rfl)) (by kernel_rfl)) (by kernel_rfl)) (by kernel_rfl)) (by kernel_rfl)) (by kernel_rfl)) (by kernel_rfl)) (by kernel_rfl)) (by kernel_rfl)) (by kernel_rfl)) (by kernel_rfl)) (by kernel_rfl)) (by kernel_rfl)) (by kernel_rfl)) (by kernel_rfl)) (by kernel_rfl))
theorem closed2:joinedFacts Tryz.pinned.checked.prog 4 Tryz.f4 Rows.wholeDesyncSpec Rows.wholeDesyncRow=true:=by
 rw [show Tryz.pinned.checked.prog=Tryz.prog by kernel_rfl]
 exact closed
theorem hw:Rows.wholeDesyncRow.wfByText (OpenSpec.ofChange Rows.wholeDesyncSpec)=true:=by kernel_rfl
theorem hm:Tryz.prog.mainIs=some (true,"b5862e8692bfb83a5f7a9557f363c98c97824aed3f3565c659d284f4c031449f".toList):=by kernel_rfl
theorem hlk:false=Tryz.prog.looks []:=by kernel_rfl
theorem hgo:false=Rows.wholeDesyncRow.goesBy Tryz.prog:=by kernel_rfl
theorem over:Rows.wholeDesyncRow.holds Tryz.pinned (OpenSpec.ofChange Rows.wholeDesyncSpec):=
 OpenClaim.holds_of_wide 4 Tryz.f4 rfl rfl rfl rfl rfl rfl rfl ⟨rfl,rfl,rfl,rfl,rfl⟩ rfl rfl rfl rfl rfl (by kernel_rfl) Tryz.func4 closed2
  (of_decide_eq_true (by kernel_rfl)) (by unfold Func.isWrapper;rw [if_neg (by decide+kernel)];exact ⟨rfl,rfl⟩)
  (fun os started H enc _=>lifted os started H enc)
theorem proved:Rows.WholeDesyncCardSaid:=
 Claim7.holds_tied_plain_at .later [] [.data] true (true,"b5862e8692bfb83a5f7a9557f363c98c97824aed3f3565c659d284f4c031449f") false
  over (fun _ h=>by cases h) hw (fun _ h=>by cases h) wholeDesync_row_tie rfl ⟨rfl,rfl⟩ hm rfl
  (fun f fn hf hfn=>by
   obtain rfl:f=4:=Option.some.inj ((show Tryz.prog.funcNamed "promptbook/promptbooktop.WholeDesync" =some 4 by kernel_rfl).symm.trans hf) |>.symm
   obtain rfl:fn=Tryz.f4:=(Option.some.inj (Tryz.func4.symm.trans hfn)).symm;exact ⟨hlk,fun j t ht=>by
    rw [Tryz.params4] at ht;have hm:t∈ [26,5]:=by simpa using Array.mem_of_getElem? ht
    have hall:([26,5].all fun u=> !Tryz.prog.wantsStandIn u)=true:=by kernel_rfl
    exact (show Tryz.prog.wantsStandIn t=false by simpa using List.all_eq_true.1 hall t hm)⟩)
  hgo
#print axioms proved
end Go.Proofs.YtfdmjoddhjmokaaGreatDoor.wholeDesync
