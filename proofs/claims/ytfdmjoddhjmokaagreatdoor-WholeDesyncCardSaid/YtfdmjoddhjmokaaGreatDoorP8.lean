/- Part of the proof of WholeDesync (see the last text). Conditions: none. Own work; printed by programs of mine. -/
import Derived.Test.YtfdmjoddhjmokaaGreatDoorP7
set_option maxHeartbeats 4000000
namespace Go.Proofs.YtfdmjoddhjmokaaGreatDoor
open Go.RowKit Rex
set_option linter.unusedVariables false
set_option linter.unusedSimpArgs false
set_option maxRecDepth 100000
def PA.hold(a:PA):PA:=if a.ow=true then {a with hl:=a.df,rs:=if a.df=true then 13 else a.rs} else {a with wt:=true}
theorem LA.FR(k:LA)(m:AM)(h:(k.aw m).2.1≠3):(k.aw m).2.2.2.1=0:=by
 revert h;unfold LA.aw;(repeat' split)<;>first|(intro _;rfl)|(intro h;exact absurd rfl h)
theorem LA.M0(k:LA)(m:AM)(h:k.st≠2):(k.aw m).1.st≠2:=by
 unfold LA.aw LA.yD LA.dI;(repeat' split)<;>first|exact h|(show (1:Int)≠2;decide)
theorem LA.a22(k:LA)(m:AM)(h:(k.aw m).2.1=4):m.1=4∧(k.aw m).2.2.2.2.1=m.2.2.1∧(k.aw m).2.2.2.2.2.1=m.2.2.2.2.2.1:=by
 revert h;unfold LA.aw;(repeat' split)<;>first|(intro h;simp at h;done)|(intro _;refine ⟨?_,rfl,rfl⟩;assumption)
theorem JI(n i:Nat):(al (fV n) i).1=0:=by
 unfold al fV;rw [List.getD_eq_getElem?_getD,List.getElem?_replicate];split<;>rfl
theorem PA.a3Y(a:PA)(m:AM)(h:a.hl=false):(a.aw m).k=(a.k.aw m).1:=by
 unfold PA.aw;rw [if_neg (by rw [h];decide)]
 (repeat' split)<;>rfl
theorem a7E {c:Sp.T aR}(h:gT c):0≤cF c∧cF c≤cN c 0∧cN c 0≤1000000∧cF c≤cN c 1∧cN c 1≤1000000:=by
 obtain ⟨-,-,⟨⟨⟨w1,w2,w3,w4⟩,-,-⟩,-,-,b4,b5⟩,⟨-,-,-,d4,d5⟩,-,e⟩:=h;rw [e] at d4;exact ⟨w3,b4,b5,d4,d5⟩
def zD(x:(aQ×aA×Unit))(y:((Int×Unit)×(Int×Unit)×Unit)):Prop:= ∃a,au 0 x.1 a∧a.hl=false∧a.wt=false∧y.1.1=16∧y.2.1.1=a.ot∧(a.ow=false→a.cm≤14)∧ -1≤a.cm∧a.cm≤1000
def iR(x:(aQ×aA×Unit))(y:((Int×Unit)×(Int×Unit)×Unit))(x':(aQ×aA×Unit))(z:(Unit)):Prop:=(∀a,au 0 x.1 a→a.hl=false→a.wt=false→y.2.1.1=a.ot→au 0 x'.1 a.hold)∧x'.2.1.2.2.1=x.2.1.2.2.1
noncomputable def Jg:MC:=qC [true,true,false,false] [an,dp] [(false,[.int .i64]),(false,[.int .u32])] [] zD iR
def Qem(a:jq)(b:Int):Bool:=decide ((QH a.1.2.2.1.2.2.2.1)<b)
def Qel(a:jq)(b:CN):Prop:=QR (aX a.1) (iR a b (a.1,MA a) ())
def Qek(a:jq)(b:CN)(c:wS)(d e f g:Prop):Prop:=p9 (PO a.1).1 b.1.1=some c→Q0 (c.1 !=b.2.1.1) (QK (QcN a).1 d True e (Q6m (lZ (a.1.2.2.1,()) ()) f)) g
def Cs(x:(bD×aA×Unit))(y:((Int×Unit)×(Int×Unit)×Unit)):Prop:= ∃a,au 1 x.1 a∧a.hl=false∧a.wt=false∧y.1.1=16∧y.2.1.1=a.ot∧(a.ow=false→a.cm≤14)∧ -1≤a.cm∧a.cm≤1000
def iD(x:(bD×aA×Unit))(y:((Int×Unit)×(Int×Unit)×Unit))(x':(bD×aA×Unit))(z:(Unit)):Prop:=(∀a,au 1 x.1 a→a.hl=false→a.wt=false→y.2.1.1=a.ot→au 1 x'.1 a.hold)∧x'.2.1.2.2.1=x.2.1.2.2.1
noncomputable def Hv:MC:=qC [true,true,false,false] [aS,dp] [(false,[.int .i64]),(false,[.int .u32])] [] Cs iD
def Qen(a:jq)(b:CN):Prop:=QR (b7 a.1) (iD a b (a.1,MA a) ())
theorem Hn:ab Tryz.prog 45 Jg∧ab Tryz.prog 45 Hv:=by
 refine ⟨?a,?b⟩
 case' a=>
  refine ah (cx Mx [55,79] oZ E6) Tryz.func45 (by kernel_rfl) (by kernel_rfl) fun (x:(aQ×aA×Unit)) h (y:((Int×Unit)×(Int×Unit)×Unit)) k hf hg hp=>⟨bK,400,af (q:=(∀ (va:wS),Qek x y va (aX x.1) (iR x y (x.1,MA x) ()) (∀ (vb:gy) (vc:lC) (vd:qh) (ve:re),Qd8 (x.1.2.2.1,()) () vb vd (QR (aX x.1) (iR x y ((x.1.1,x.1.2.1,Qda vb x (PO x.1).1 (PO x.1) (QcX x)),MA x) ()))) (Qel x y))∧Qde (PO x.1).1 y.1.1 (∀ (va:wS),Qdf (QcX x) y.1.1 va x (Qem x y.1.1) (Qel x y)) (QcX x) x (Qem x y.1.1) (aX x.1) (iR x y ((x.1.1,x.1.2.1,J2 x (PO x.1).1 (PO x.1) (QcX x) y.1.1 (y.2.1.1,())),MA x) ()) (Qel x y)) (by kernel_rfl) ?_⟩
  delta Q7 Q6 QC Qn Yy Q6r Qs Q3 ya Qk Q4 Q6q JY Q0 uI Qj QcM QH PO QcY QK Qi xz QcN Mz dD Q3j QE W4 Q2l Q6n QcX QR H9 Qd8 Q6m QcT MA yn Q3G Qde Qdf Qem Qda J2 Qel Qek aX;obtain ⟨⟨⟨(o0:Int),(s0:Int),(p1:Int),⟨⟩,⟨⟨(t0:Int),f0,⟨⟩⟩,⟨(g0:Int),h0,⟨⟩⟩,(u0:Int),⟨⟩,⟨⟩⟩,⟨⟨(i0:Int),j0,⟨⟩⟩,⟨(k1:Int),m1,⟨⟩⟩,(v0:Int),⟨⟩,⟨⟩⟩,⟨(n1:Int),o1,⟨⟩⟩,(w0:Int),⟨⟩⟩,⟨(y1:Int),(b1:Int),(c0:Int),⟨⟩,(d1:Int),(w1:Int),⟨a1,(z1:Int),(b0:Int),⟨⟩⟩,(y0:Int),(x1:Int),⟨a0,(z0:Int),(r0:Int),⟨⟩⟩,(v1:Int),(u1:Int),(c1:Int),⟨⟩⟩,⟨(r1:Int),q1,⟨s1,t1⟩,(n0:Int),q0,⟨⟩⟩,⟨(e1:Int),⟨⟩,⟨⟩,⟨⟩⟩,⟨⟨⟩,⟨⟩⟩,⟨⟨⟩,⟨⟩,⟨⟩,⟨⟩,⟨⟩⟩,⟨l0,f1⟩,⟨m0,d0⟩,(x0:Int),p0,(g1:Int),⟨⟩,⟨⟩⟩,⟨⟨⟩,⟨⟩,e0,⟨⟩⟩,⟨⟩⟩:=x;obtain ⟨⟨⟨⟨⟩,⟨⟩,⟨⟩,⟨⟩,⟨⟨⟨⟩,⟨⟩,⟨⟩⟩,⟨⟨⟩,⟨⟩,⟨⟩⟩,⟨⟩,⟨⟩,⟨⟩⟩,⟨⟨⟨⟩,⟨⟩,⟨⟩⟩,⟨⟨⟩,⟨⟩,⟨⟩⟩,⟨⟩,⟨⟩,⟨⟩⟩,⟨⟨⟩,⟨⟩,⟨⟩⟩,⟨⟩,⟨⟩⟩,⟨⟨⟩,⟨⟩,⟨⟩,⟨⟩,⟨⟩,⟨⟩,⟨⟨⟩,⟨⟩,⟨⟩,⟨⟩⟩,⟨⟩,⟨⟩,⟨⟨⟩,⟨⟩,⟨⟩,⟨⟩⟩,⟨⟩,⟨⟩,⟨⟩,⟨⟩⟩,⟨⟨⟩,⟨⟩,⟨⟩,⟨⟩,⟨⟩,⟨⟩⟩,⟨⟨⟩,⟨⟩,⟨⟩,⟨⟩⟩,⟨⟨⟩,⟨⟩⟩,⟨⟨⟩,⟨⟩,⟨⟩,⟨⟩,⟨⟩⟩,⟨⟩,⟨⟩,⟨⟩,⟨⟩,⟨⟩,⟨⟩,⟨⟩⟩,⟨⟨⟩,⟨⟩,⟨⟩,⟨⟩⟩,⟨⟩⟩:=h;obtain ⟨⟨(fr:Int),⟨⟩⟩,⟨(k0:Int),⟨⟩⟩,⟨⟩⟩:=y;obtain ⟨⟨⟨⟩,⟨⟩⟩,⟨⟨⟩,⟨⟩⟩,⟨⟩⟩:=k
  try dsimp only
 case' b=>
  refine ah (cx Mx [55,79] az Eb) Tryz.func45 (by kernel_rfl) (by kernel_rfl) fun (x:(bD×aA×Unit)) h (y:((Int×Unit)×(Int×Unit)×Unit)) k hf hg hp=>⟨bK,400,af (q:=(∀ (va:wS),Qek x y va (b7 x.1) (iD x y (x.1,MA x) ()) (∀ (vb:gy) (vc:lC) (vd:qh) (ve:re),Qd8 (x.1.2.2.1,()) () vb vd (QR (b7 x.1) (iD x y ((x.1.1,x.1.2.1,Qda vb x (PO x.1).1 (PO x.1) (QcX x)),MA x) ()))) (Qen x y))∧Qde (PO x.1).1 y.1.1 (∀ (va:wS),Qdf (QcX x) y.1.1 va x (Qem x y.1.1) (Qen x y)) (QcX x) x (Qem x y.1.1) (b7 x.1) (iD x y ((x.1.1,x.1.2.1,J2 x (PO x.1).1 (PO x.1) (QcX x) y.1.1 (y.2.1.1,())),MA x) ()) (Qen x y)) (by kernel_rfl) ?_⟩
  delta Q7 Q6 QC Qn Yy Q6r Qs Q3 ya Qk Q4 Q6q JY Q0 uI Qj QcM QH PO QcY QK Qi xz QcN Mz dD Q3j QE W4 Q2l Q6n QcX QR H9 Qd8 Q6m QcT MA yn Q3G Qde Qdf Qem Qda J2 Qen Qek b7;obtain ⟨⟨⟨(o0:Int),(s0:Int),(p1:Int),⟨⟩,⟨⟨(t0:Int),f0,⟨⟩⟩,⟨(g0:Int),h0,⟨⟩⟩,(v0:Int),⟨⟩,⟨⟩⟩,⟨⟨(i0:Int),j0,⟨⟩⟩,⟨(k1:Int),m1,⟨⟩⟩,(u0:Int),⟨⟩,⟨⟩⟩,⟨(n1:Int),o1,⟨⟩⟩,(w0:Int),⟨⟩⟩,⟨(y1:Int),(b1:Int),(c0:Int),⟨⟩,(d1:Int),(w1:Int),⟨a1,(z1:Int),(b0:Int),⟨⟩⟩,(y0:Int),(x1:Int),⟨a0,(z0:Int),(r0:Int),⟨⟩⟩,(v1:Int),(u1:Int),(c1:Int),⟨⟩⟩,⟨(r1:Int),q1,⟨s1,t1⟩,(n0:Int),q0,⟨⟩⟩,⟨(e1:Int),⟨⟩,⟨⟩,⟨⟩⟩,⟨⟨⟩,⟨⟩⟩,⟨⟨⟩,⟨⟩,⟨⟩,⟨⟩,⟨⟩⟩,⟨l0,f1⟩,⟨m0,d0⟩,(x0:Int),p0,(g1:Int),⟨⟩,⟨⟩⟩,⟨⟨⟩,⟨⟩,e0,⟨⟩⟩,⟨⟩⟩:=x;obtain ⟨⟨⟨⟨⟩,⟨⟩,⟨⟩,⟨⟩,⟨⟨⟨⟩,⟨⟩,⟨⟩⟩,⟨⟨⟩,⟨⟩,⟨⟩⟩,⟨⟩,⟨⟩,⟨⟩⟩,⟨⟨⟨⟩,⟨⟩,⟨⟩⟩,⟨⟨⟩,⟨⟩,⟨⟩⟩,⟨⟩,⟨⟩,⟨⟩⟩,⟨⟨⟩,⟨⟩,⟨⟩⟩,⟨⟩,⟨⟩⟩,⟨⟨⟩,⟨⟩,⟨⟩,⟨⟩,⟨⟩,⟨⟩,⟨⟨⟩,⟨⟩,⟨⟩,⟨⟩⟩,⟨⟩,⟨⟩,⟨⟨⟩,⟨⟩,⟨⟩,⟨⟩⟩,⟨⟩,⟨⟩,⟨⟩,⟨⟩⟩,⟨⟨⟩,⟨⟩,⟨⟩,⟨⟩,⟨⟩,⟨⟩⟩,⟨⟨⟩,⟨⟩,⟨⟩,⟨⟩⟩,⟨⟨⟩,⟨⟩⟩,⟨⟨⟩,⟨⟩,⟨⟩,⟨⟩,⟨⟩⟩,⟨⟩,⟨⟩,⟨⟩,⟨⟩,⟨⟩,⟨⟩,⟨⟩⟩,⟨⟨⟩,⟨⟩,⟨⟩,⟨⟩⟩,⟨⟩⟩:=h;obtain ⟨⟨(fr:Int),⟨⟩⟩,⟨(k0:Int),⟨⟩⟩,⟨⟩⟩:=y;obtain ⟨⟨⟨⟩,⟨⟩⟩,⟨⟨⟩,⟨⟩⟩,⟨⟩⟩:=k
  try dsimp only
 all_goals
  obtain ⟨a,hR,hl,hw,h16,hsum,hcm,hc1,hc2⟩:=hp;have hR':=hR;obtain ⟨⟨hc,sd1,sd2⟩,⟨hk,hka⟩,⟨lt,lc,lh⟩,⟨mo,mw⟩,⟨ff,fh,frs⟩,⟨cd,cmn,cth,cn,cf⟩,sm,df,sr⟩:=hR';have sd1:0≤o0:=sd1;have sd2:o0≤4294967295:=sd2;have lc:n0=a.cm:=lc;have mo:mE l0=(if a.ow=true then [(16,a.sm)] else []):=mo;have mw:mE m0=(if a.wt=true then [(16,a.ot)] else []):=mw;have lh:q0=a.hl:=lh;have ff:x0=a.far:=ff;have fh:p0=a.hl:=fh;have cd:s0=a.d:=cd;have cmn:u0=a.mn:=cmn;have cth:v0=a.th:=cth;have cn:w0=a.now:=cn;have cf:t0=a.F:=cf;have hks:c0=a.k.st:=by rw [←hka];rfl
  have hkak:y0=a.k.ak:=by rw [←hka];rfl
  have hkon:b0=a.k.on:=by rw [←hka];rfl
  have hkn:r0=(a.k.q.length:Int):=by
   rw [←hka];show _=((List.map mA (rQ a0 z0 r0)).length:Int);rw [List.length_map];exact jg hk.2.1.1
  have h16:fr=16:=h16;have hsum:k0=a.ot:=hsum;have hc1: -1≤n0:=by rw [lc];exact hc1
  have hc2:n0≤1000:=by rw [lc];exact hc2
  subst h16;have hph:p0=false:=fh.trans hl;rw [hw] at mw;have hwt:=lT mw;simp only [cl];refine ⟨fun r hr=>⟨fun hne=>⟨fun h=>?_,fun _=>⟨(show q0=false by rw [lh,hl]),fun l q hl'=>⟨fun a2 hR2 hh hww hs2=>?_,rfl⟩⟩⟩,fun heq=>⟨fun a2 hR2 hh hww hs2=>?_,rfl⟩⟩,fun hn=>⟨fun r hr=>?_,fun hn2=>⟨trivial,by simp only [aL,aT,aU];omega,fun h15=>⟨fun h8=>⟨fun a2 hR2 hh hww hs2=>?_,rfl⟩,fun h8=>?_⟩,fun h15=>?_⟩⟩⟩
  ·rw [hph] at h;cases h
  ·obtain ⟨⟨hc2,sd12,sd22⟩,⟨hk2,hka2⟩,⟨lt2,lc2,lh2⟩,⟨mo2,mw2⟩,⟨ff2,fh2,frs2⟩,⟨cd2,cmn2,cth2,cn2,cf2⟩,sm2,df2,sr2⟩:=hR2;have mw2:mE m0=(if a2.wt=true then [(16,a2.ot)] else []):=mw2;have mo2:mE l0=(if a2.ow=true then [(16,a2.sm)] else []):=mo2;cases how:a2.ow with
   |false=>
    rw [how] at mo2;rw [lT mo2] at hr;cases hr
   |true=>
    rw [how] at mo2;obtain ⟨c,ho⟩:=sA mo2;rw [ho] at hr;cases hr;obtain ⟨l1,l2⟩:=(show l.1.2.2.2.1=n0∧l.1.2.2.2.2.1=true from hl');have hd:a2.df=true:=df2.2 (fun k=>hne (show a2.sm=k0 from k.trans (show k0=a2.ot from hs2).symm));rw [show a2.hold= {a2 with hl:=true,rs:=13} from by unfold PA.hold;rw [if_pos how,hd];rfl]
    exact ⟨⟨hc2,sd12,sd22⟩,⟨hk2,hka2⟩,⟨fun h=>(by cases h),l1.trans lc2,l2⟩,⟨by show mE l0=if a2.ow=true then _ else _;rw [how];exact mo2,mw2⟩,⟨ff2,rfl,rfl⟩,⟨cd2,cmn2,cth2,cn2,cf2⟩,sm2,df2,sr2⟩
  ·have hR3:=hR2;obtain ⟨⟨hc2,sd12,sd22⟩,⟨hk2,hka2⟩,⟨lt2,lc2,lh2⟩,⟨mo2,mw2⟩,⟨ff2,fh2,frs2⟩,⟨cd2,cmn2,cth2,cn2,cf2⟩,sm2,df2,sr2⟩:=hR2;have mw2:mE m0=(if a2.wt=true then [(16,a2.ot)] else []):=mw2;have mo2:mE l0=(if a2.ow=true then [(16,a2.sm)] else []):=mo2;cases how:a2.ow with
   |false=>
    rw [how] at mo2;rw [lT mo2] at hr;cases hr
   |true=>
    rw [how] at mo2;obtain ⟨c,ho⟩:=sA mo2;rw [ho] at hr;cases hr;have hd:a2.df=false:=by
     cases k2:a2.df with
     |false=>rfl
     |true=>exact absurd ((show a2.sm=k0 from heq).trans (show k0=a2.ot from hs2)) (df2.1 k2)
    rw [show a2.hold= {a2 with hl:=false} from by unfold PA.hold;rw [if_pos how,hd];rfl]
    rw [←hh];exact hR3
  ·rw [hwt] at hr;cases hr
  ·obtain ⟨⟨hc2,sd12,sd22⟩,⟨hk2,hka2⟩,⟨lt2,lc2,lh2⟩,⟨mo2,mw2⟩,⟨ff2,fh2,frs2⟩,⟨cd2,cmn2,cth2,cn2,cf2⟩,sm2,df2,sr2⟩:=hR2;have mw2:mE m0=(if a2.wt=true then [(16,a2.ot)] else []):=mw2;have mo2:mE l0=(if a2.ow=true then [(16,a2.sm)] else []):=mo2;have how:a2.ow=false:=by
    cases k2:a2.ow with
    |false=>rfl
    |true=>
     rw [k2] at mo2;obtain ⟨c,ho⟩:=sA mo2;rw [ho] at hn;cases hn
   rw [show a2.hold= {a2 with wt:=true} from by unfold PA.hold;rw [if_neg (by rw [how];decide)]]
   exact ⟨⟨hc2,sd12,sd22⟩,⟨hk2,hka2⟩,⟨lt2,lc2,lh2⟩,⟨mo2,by show mE (kC m0 16 (k0,()) d0).1= [(16,a2.ot)];rw [hwt,←hs2];rfl⟩,⟨ff2,fh2,frs2⟩,⟨cd2,cmn2,cth2,cn2,cf2⟩,sm2,df2,sr2⟩
  ·rw [hwt] at h8;exact absurd (by decide) h8
  ·have how:a.ow=false:=by
    cases k2:a.ow with
    |false=>rfl
    |true=>
     rw [k2] at mo;obtain ⟨c,ho⟩:=sA mo;rw [ho] at hn;cases hn
   have:=hcm how;omega
theorem Uk:ab Tryz.prog 45 Jg:=Hn.1
theorem Vw:ab Tryz.prog 45 Hv:=Hn.2
noncomputable def Dv:=E6.add 45 Uk
def rS(x:(aQ×Unit))(y:((List UInt8×Unit)×Unit)):Prop:=(∃a,au 0 x.1 a∧a.cK (aG y.1.1)∧((aG y.1.1).1=4→(aG y.1.1).2.2.2.2.2.1=a.ot∧ -1≤a.cm∧a.cm≤1000))∧CJ y.1.1
def iv(x:(aQ×Unit))(y:((List UInt8×Unit)×Unit))(x':(aQ×Unit))(z:((Unit×Unit×Unit×Unit)×(Int×Unit)×Unit)):Prop:= ∀a,au 0 x.1 a→a.cK (aG y.1.1)→((aG y.1.1).1=4→(aG y.1.1).2.2.2.2.2.1=a.ot∧ -1≤a.cm∧a.cm≤1000)→au 0 x'.1 (a.aw (aG y.1.1))
noncomputable def Ai:MC:=qC [true,false] [an] [(false,[.str])] [(true,[.cl .aj,.cl .aj,.cl (.bool false)]),(false,[.int .i64])] rS iv
abbrev jb:Type:=Nat×cH.T×aR.T×(Int×Int×List (Row [Kd.int IntKind.u8])×Int×Int×Int×Unit)×Value
abbrev Uv:Type:=eZ [(true,[Sp.int IntKind.i64,Sp.int IntKind.i64,Sp.im [Kd.int IntKind.u8],Sp.int IntKind.i64,Sp.int IntKind.u32,Sp.int IntKind.i64]),(false,[Sp.cl (Lc.int IntKind.i64 (0:Int))])]
abbrev TN:Type:=aZ [(true,[Sp.int IntKind.i64,Sp.int IntKind.i64,Sp.im [Kd.int IntKind.u8],Sp.int IntKind.i64,Sp.int IntKind.u32,Sp.int IntKind.i64]),(false,[Sp.cl (Lc.int IntKind.i64 (0:Int))])]
def Qer(a:jb):ZM:=a.2.2.2.1
def Qev(a:jb):kG:=(Qer a).2.2.1
def QeB(a:jb)(b:dy):ZK:=(a.2.2.1,a.2.1,Qe3 b)
def QeK(a:jb):A4:=(Qer a).2.2.2.2
def QeG(a:cH.T):Prop:=Q23 QJ (QA (Qei a) (Qei a)) (DP (xw a).1) (DP (xw a).1) QJ
def Sf(a:dy)(b:gy)(c:qh)(d:Prop)(e:jb)(f:Prop):Prop:=Qd8 (a.1.2.2.1,()) () b c (qo d e.2.1 QJ f)
def XH(a:jb):Nat:=(Qev a).length
def QeL(a:jb)(b c:Prop):Prop:=Q4 (a.2.1.2.2.1==(2:Int)) (qo b a.2.1 QJ c)
def OG(a:dy)(b:kJ)(c:dy):Prop:=iv a b c (xz,QI)
def Wq(a:jb)(b:dy):dy:=((a.2.2.1,a.2.1,b.1.2.2.1,W4 b.1 (PO b.1).1 (PO b.1) (QcY b.1).1 (QeK a).2.1 (Qe2 b).1 (Qe2 b).2.1),())
def BP(a:jb)(b:dy)(c d e:Prop):Prop:=Q3 (a.2.1.2.2.1==(2:Int)) (QK (Qe2 b).1 c QJ d (Q6m (lZ (b.1.2.2.1,()) ()) e))
def Qeq(a:cH.T)(b:jb)(c:dy)(d e:Prop):Prop:=ud a b.2.1 (xR c.1.2.2.1 c.1.2.2.1 (Q6 (cR (c.1.2.2.2.1.1=c.1.2.2.2.1.1) lG) True (QdG lG) ((PO c.1).1=(PO c.1).1∧(PO c.1).2=(PO c.1).2) (Q1I ((QcY c.1).1=(QcY c.1).1∧(QcY c.1).2=(QcY c.1).2) (Q7J QJ) d e (Q7J QJ))))
def QeM(a:dy)(b:jb)(c d:Int):Prop:=Q2B (fI a.1.1 b.2.2.1) (cF b.2.2.1=cF a.1.1) (cN b.2.2.1 c) (cN a.1.1 c) (cN b.2.2.1 d=cN a.1.1 d+(↑b.1:Int)) (aJ b.2.2.1=aJ a.1.1)
def ZT(a:dy)(b:jb):Prop:=QeM a b (0:Int) (1:Int)
def EK(a:jb)(b c d e f g i j:Prop):Prop:=Q0 ((Qer a).1==(4:Int)) (Qs b c d) (Qu (Qer a).1 (6:Int) (e∧lj (a.2.1,()) ()) f (QeL a g i) j)
def Qeu(a:jb)(b c d e:Prop):Prop:=Qn (a.1≤XH a) b (gT a.2.2.1) c→QK (WK a.1 (Qev a)) (Q4C a.1 (Qa (Qev a))) (F7 a.1 (XH a)) d e
def XB(a:Prop)(b:dy)(c:Prop)(d:jb)(e:kJ)(f:Prop):Prop:=Q6 (Q7 (mV a) (QdP b) c) (d.1≤XH d) (Qae (b.1.2.1,()) (y9 e.1.1) (d.2.1,()) (Qer d)) (gT d.2.2.1) f
def Kx(a:uk):Prop:=a.2.1.2.2.1=false
def RG(a:jb):CN:=(((Qer a).2.2.2.1,()),Qg (QeK a).1)
def Qep(a:Uv)(b:jb)(c:TN):Prop:=Yw (a.1.2.2.1=b.2.2.2.2∧c.1.2.2.1=Qev b) (List.length c.1.2.2.1) (XH b) (RU b.1)
def Qey(a b:jb):Prop:=Q2B ((Qer a).2.1=(Qer b).2.1) (a.2.2.2.2=b.2.2.2.2∧Qev a=Qev b) (Qer a).2.2.2.1 (Qer b).2.2.2.1 ((QeK a).1=(QeK b).1) ((QeK a).2.1=(QeK b).2.1)
def Qew(a:jb):a1O:=(((Qer a).2.1+(↑a.1:Int),()),mB)
def Vz(a b:jb):Prop:=Q5 (a.2.2.2.2=b.2.2.2.2∧Qev a=Qev b) (yG (Qa (Qev a)) (XH b)) (ku a.1 b.1) True
def Qes(a:TN)(b:jb)(c:Uv):Prop:=Q6 (a.1.2.1=(Qer b).2.1) (c.1.2.2.1=b.2.2.2.2∧a.1.2.2.1=Qev b) (a.1.2.2.2.1=(Qer b).2.2.2.1) (a.1.2.2.2.2.1=(QeK b).1) (a.1.2.2.2.2.2.1=(QeK b).2.1)
def Wp(a:Prop)(b:uk)(c d e f:Prop):Prop:=ZS a (Qz (QeG b.1.2.1) (lj (b.1.2.1,()) ()) (Q3 (Yz b.1.2.1.2.2.1) ((Ly b.1=true→c)∧(Ly b.1=false→Q6m (lZ (b.1.2.2.1,()) ()) d))) (Q4 (Yz b.1.2.1.2.2.1) (Q7 e (Kx b) f)))
noncomputable def DK:=Eb.add 45 Vw
def sI(x:(bD×Unit))(y:((List UInt8×Unit)×Unit)):Prop:=(∃a,au 1 x.1 a∧a.cK (aG y.1.1)∧((aG y.1.1).1=4→(aG y.1.1).2.2.2.2.2.1=a.ot∧ -1≤a.cm∧a.cm≤1000))∧CJ y.1.1
def iJ(x:(bD×Unit))(y:((List UInt8×Unit)×Unit))(x':(bD×Unit))(z:((Unit×Unit×Unit×Unit)×(Int×Unit)×Unit)):Prop:= ∀a,au 1 x.1 a→a.cK (aG y.1.1)→((aG y.1.1).1=4→(aG y.1.1).2.2.2.2.2.1=a.ot∧ -1≤a.cm∧a.cm≤1000)→au 1 x'.1 (a.aw (aG y.1.1))
noncomputable def BM:MC:=qC [true,false] [aS] [(false,[.str])] [(true,[.cl .aj,.cl .aj,.cl (.bool false)]),(false,[.int .i64])] sI iJ
abbrev a19:Type:=Nat×cH.T×aR.T×(Int×Int×List (Row [Kd.int IntKind.u8])×Int×Int×Int×Unit)×Value
def UQ(a:dy)(b:kJ)(c:dy):Prop:=iJ a b c (xz,QI)
def QeN(a:dy)(b:jb):Prop:=QeM a b (1:Int) (0:Int)
theorem IU:ab Tryz.prog 16 Ai∧ab Tryz.prog 16 BM:=by
 refine ⟨?a,?b⟩
 case' a=>
  refine ah (cx Mx [42,55,79] oZ Dv) Tryz.func16 (by kernel_rfl) (by kernel_rfl) fun (x:(aQ×Unit)) h (y:((List UInt8×Unit)×Unit)) k hf hg hp=>⟨(fun bk=>match bk with|1=>some {S:=Nat×Sp.T cH×Sp.T aR×(Int×Int×List (Row [.int .u8])×Int×Int×Int×Unit)×Value,st:=fun s=>⟨jk [(0,.v (.one (.ptr 0 0))),(3,.v (.one (.ptr 27 0))),(1,.v (.one (.ptr 28 0))),(1,.v (.one (.ptr 29 0))),(27,.v (.one (.gv [.int .u8] s.2.2.2.2 (s.2.2.2.1.2.2.1)))),(0,.v (.one (.int .i64 false ((List.length (s.2.2.2.1.2.2.1):Int))))),(0,.v (.one (.int .i64 false ((s.1:Int)))))] 75,aW false [an] ((s.2.2.1,s.2.1,x.1.2.2.1,(x.1.2.2.2.1.1,(),(),()),((),()),((),(),(),(),()),(x.1.2.2.2.2.2.2.1.1,x.1.2.2.2.2.2.2.1.2),(x.1.2.2.2.2.2.2.2.1.1,x.1.2.2.2.2.2.2.2.1.2),x.1.2.2.2.2.2.2.2.2.1,x.1.2.2.2.2.2.2.2.2.2.1,x.1.2.2.2.2.2.2.2.2.2.2.1,(),()),()) ((((),(),(),(),(((),(),()),((),(),()),(),(),()),(((),(),()),((),(),()),(),(),()),((),(),()),(),()),((),(),(),(),(),(),((),(),(),()),(),(),((),(),(),()),(),(),(),()),((),(),(),(),(),()),((),(),(),()),((),()),((),(),(),(),()),(),(),(),(),(),(),()),()) 0 0++ [some (.cells [.aj,.aj,.bool true false] 37),some (.cells [.int .i64 false (s.2.2.2.1.1),.int .i64 false (s.2.2.2.1.2.1),.gv [.int .u8] s.2.2.2.2 (s.2.2.2.1.2.2.1),.int .i64 false (s.2.2.2.1.2.2.2.1),.int .u32 false (s.2.2.2.1.2.2.2.2.1),.int .i64 false (s.2.2.2.1.2.2.2.2.2.1)] 102),some (.cells [.aj,.aj,.bool true false] 37)]⟩,ok:=fun s=>s.1≤List.length (s.2.2.2.1.2.2.1)∧dg (x.1.2.1,()) ((y.1.1,()),()) (s.2.1,()) (s.2.2.2.1,((),()),())∧gT s.2.2.1∧fI x.1.1 s.2.2.1∧cF s.2.2.1=cF x.1.1∧cN s.2.2.1 0=cN x.1.1 0∧cN s.2.2.1 1=cN x.1.1 1+s.1∧aJ s.2.2.1=aJ x.1.1,mu:=fun s=>(List.length (s.2.2.2.1.2.2.1)-s.1),init:=(0,(0,0,0,(),0,0,([],0,0,()),0,0,([],0,0,()),0,0,0,()),(0,0,0,(),((0,[],()),(0,[],()),0,(),()),((0,[],()),(0,[],()),0,(),()),(0,[],()),0,()),(0,0,[],0,0,0,()),.bool false),ex:=true}|_=>none),1000,af (q:=QK (Qe2 x).1 (aX x.1) QJ (iv x y (x.1,()) (xz,Qg (12:Int))) (Qs (aV x.1.2.1) (E3 (x.1.2.1,()) (y9 y.1.1)) (∀ (va:dB) (vb:m6) (vc:TN) (vd:Uv),Q9l II (Q7J Q6q) (dg (x.1.2.1,()) (y9 y.1.1) va vc) ((∃ (ve:jb),XB (Qep vd ve vc) x (wD x.1.1 ve.2.2.1 (Qeq va.1 ve x (vc.1.1=(Qer ve).1) (Qes vc ve vd))) ve y (ZT x ve))∧(∀ (ve:jb),Qeu ve (Qae (x.1.2.1,()) (y9 y.1.1) (ve.2.1,()) (Qer ve)) (ZT x ve) (Q6 (Qd (Qer ve).2.1 (↑ve.1:Int)) (bq ve.2.2.1) (Q5l (Qev ve) ve.1=(0:Int)) (AR (ve.2.2.1,()) (Qew ve)) (∀ (vf:jn) (vg:Bm) (vi:kE) (vj:lA),Q3j Qc1 (oY (ve.2.2.1,()) (Qew ve) vf vi) (Na ve.1 (∃ (vl:jb),Q2D (XB (Vz ve vl) x (wD vf.1 vl.2.2.1 (Qeq ve.2.1 vl x ((Qer ve).1=(Qer vl).1) (Qey ve vl))) vl y (ZT x vl)) (XH vl) vl.1 (XH ve) ve.1)))) (EK ve (QcP ve.2.2.1 ve.2.1) (zD (QeB ve x,QcT Q8) (RG ve)) (∀ (vf:uk) (vg:Da) (vi:rI) (vj:so),Wp (iR (QeB ve x,QcT Q8) (RG ve) vf vi) vf (Q7 (aX vf.1) (Kx vf) (OG x y (vf.1,()))) (∀ (vl:gy) (vm:lC) (vn:qh) (vo:re),Qd8 (vf.1.2.2.1,()) () vl vn (Q7 (aX vf.1) (Kx vf) (OG x y ((vf.1.1,vf.1.2.1,QdE vl.1 vf.1 (true,(12:Int),Qk)),())))) (aX vf.1) (OG x y (vf.1,()))) (QeG ve.2.1) (BP ve x (QcP ve.2.2.1 ve.2.1) (OG x y (Wq ve x)) (∀ (vf:gy) (vg:lC) (vi:qh) (vj:re),Sf x vf vi (bq ve.2.2.1) ve (OG x y ((ve.2.2.1,ve.2.1,vf.1,W4 x.1 (PO x.1).1 (PO x.1) (QcY x.1).1 (QeK ve).2.1 true (12:Int)),())))) (bq ve.2.2.1) (OG x y (Wq ve x)) (Qz (QeG ve.2.1) (yx (ve.2.1,())) (BP ve x (QcP ve.2.2.1 ve.2.1) (OG x y (QeB ve x,())) (∀ (vf:gy) (vg:lC) (vi:qh) (vj:re),Sf x vf vi (bq ve.2.2.1) ve (OG x y ((ve.2.2.1,ve.2.1,vf.1,W4 x.1 (PO x.1).1 (PO x.1) (QcY x.1).1 (Qe1 x).1 true (12:Int)),())))) (QeL ve (bq ve.2.2.1) (OG x y (QeB ve x,())))))))))) (by kernel_rfl) ?_⟩
  delta Q7 Q6 oO lG QC Qn Yy Q6r QbG cR Qs Qe1 Q3 ya Qr mV Qk mJ Qe2 Q4 Q5 mQ QJ Q6q JY Q0 Sa Q23 QdP uI mB Qj Qcy Qcv Q2B Qc1 CE Ww QH PO QcY QK Qi QA xz Qg sY yG Q9l Mz Qt Q10 dD Q3j qo QE W4 Qe3 Qa DP xG Ly xw ZS Qo RA Q2l Q6n Qer Q2C Qz MT Yw Qbc II ku QdF Q1I QcP Q7J Na QdE Q8 QI Qei Qev Qu QdG Qd8 RU Q6m QeB Q2D QcT Qae Qd F7 y9 QeK QeG Sf WK Q4C XH QeL OG Q5l Wq BP Qeq QeM ZT EK Yz Qeu XB Kx yx RG Qep Qey Qew Vz Qes Wp wD xR ud bq aV aX;obtain ⟨⟨⟨(k0:Int),(n0:Int),(a0:Int),⟨⟩,⟨⟨(o0:Int),r0,⟨⟩⟩,⟨(s0:Int),t0,⟨⟩⟩,(l0:Int),⟨⟩,⟨⟩⟩,⟨⟨(u0:Int),v0,⟨⟩⟩,⟨(w0:Int),x0,⟨⟩⟩,(m0:Int),⟨⟩,⟨⟩⟩,⟨(y0:Int),z0,⟨⟩⟩,(p0:Int),⟨⟩⟩,⟨(r2:Int),(u2:Int),(h0:Int),⟨⟩,(z2:Int),(n2:Int),⟨t2,(s2:Int),(a1:Int),⟨⟩⟩,(t1:Int),(p2:Int),⟨x1,(u1:Int),(g0:Int),⟨⟩⟩,(l2:Int),(j1:Int),(x2:Int),⟨⟩⟩,⟨(n1:Int),l1,⟨p1,r1⟩,(c0:Int),d0,⟨⟩⟩,⟨(b1:Int),⟨⟩,⟨⟩,⟨⟩⟩,⟨⟨⟩,⟨⟩⟩,⟨⟨⟩,⟨⟩,⟨⟩,⟨⟩,⟨⟩⟩,⟨i0,d1⟩,⟨j0,h1⟩,(b0:Int),q0,(g1:Int),⟨⟩,⟨⟩⟩,⟨⟩⟩:=x;obtain ⟨⟨⟨⟨⟩,⟨⟩,⟨⟩,⟨⟩,⟨⟨⟨⟩,⟨⟩,⟨⟩⟩,⟨⟨⟩,⟨⟩,⟨⟩⟩,⟨⟩,⟨⟩,⟨⟩⟩,⟨⟨⟨⟩,⟨⟩,⟨⟩⟩,⟨⟨⟩,⟨⟩,⟨⟩⟩,⟨⟩,⟨⟩,⟨⟩⟩,⟨⟨⟩,⟨⟩,⟨⟩⟩,⟨⟩,⟨⟩⟩,⟨⟨⟩,⟨⟩,⟨⟩,⟨⟩,⟨⟩,⟨⟩,⟨⟨⟩,⟨⟩,⟨⟩,⟨⟩⟩,⟨⟩,⟨⟩,⟨⟨⟩,⟨⟩,⟨⟩,⟨⟩⟩,⟨⟩,⟨⟩,⟨⟩,⟨⟩⟩,⟨⟨⟩,⟨⟩,⟨⟩,⟨⟩,⟨⟩,⟨⟩⟩,⟨⟨⟩,⟨⟩,⟨⟩,⟨⟩⟩,⟨⟨⟩,⟨⟩⟩,⟨⟨⟩,⟨⟩,⟨⟩,⟨⟩,⟨⟩⟩,⟨⟩,⟨⟩,⟨⟩,⟨⟩,⟨⟩,⟨⟩,⟨⟩⟩,⟨⟩⟩:=h;obtain ⟨⟨t,⟨⟩⟩,⟨⟩⟩:=y;obtain ⟨⟨⟨⟩,⟨⟩⟩,⟨⟩⟩:=k
  try dsimp only
  have A':=()
 case' b=>
  refine ah (cx Mx [42,55,79] az DK) Tryz.func16 (by kernel_rfl) (by kernel_rfl) fun (x:(bD×Unit)) h (y:((List UInt8×Unit)×Unit)) k hf hg hp=>⟨(fun bk=>match bk with|1=>some {S:=Nat×Sp.T cH×Sp.T gp×(Int×Int×List (Row [.int .u8])×Int×Int×Int×Unit)×Value,st:=fun s=>⟨jk [(0,.v (.one (.ptr 0 0))),(3,.v (.one (.ptr 27 0))),(1,.v (.one (.ptr 28 0))),(1,.v (.one (.ptr 29 0))),(27,.v (.one (.gv [.int .u8] s.2.2.2.2 (s.2.2.2.1.2.2.1)))),(0,.v (.one (.int .i64 false ((List.length (s.2.2.2.1.2.2.1):Int))))),(0,.v (.one (.int .i64 false ((s.1:Int)))))] 75,aW false [aS] ((s.2.2.1,s.2.1,x.1.2.2.1,(x.1.2.2.2.1.1,(),(),()),((),()),((),(),(),(),()),(x.1.2.2.2.2.2.2.1.1,x.1.2.2.2.2.2.2.1.2),(x.1.2.2.2.2.2.2.2.1.1,x.1.2.2.2.2.2.2.2.1.2),x.1.2.2.2.2.2.2.2.2.1,x.1.2.2.2.2.2.2.2.2.2.1,x.1.2.2.2.2.2.2.2.2.2.2.1,(),()),()) ((((),(),(),(),(((),(),()),((),(),()),(),(),()),(((),(),()),((),(),()),(),(),()),((),(),()),(),()),((),(),(),(),(),(),((),(),(),()),(),(),((),(),(),()),(),(),(),()),((),(),(),(),(),()),((),(),(),()),((),()),((),(),(),(),()),(),(),(),(),(),(),()),()) 0 0++ [some (.cells [.aj,.aj,.bool true false] 37),some (.cells [.int .i64 false (s.2.2.2.1.1),.int .i64 false (s.2.2.2.1.2.1),.gv [.int .u8] s.2.2.2.2 (s.2.2.2.1.2.2.1),.int .i64 false (s.2.2.2.1.2.2.2.1),.int .u32 false (s.2.2.2.1.2.2.2.2.1),.int .i64 false (s.2.2.2.1.2.2.2.2.2.1)] 102),some (.cells [.aj,.aj,.bool true false] 37)]⟩,ok:=fun s=>s.1≤List.length (s.2.2.2.1.2.2.1)∧dg (x.1.2.1,()) ((y.1.1,()),()) (s.2.1,()) (s.2.2.2.1,((),()),())∧gT s.2.2.1∧fI x.1.1 s.2.2.1∧cF s.2.2.1=cF x.1.1∧cN s.2.2.1 1=cN x.1.1 1∧cN s.2.2.1 0=cN x.1.1 0+s.1∧aJ s.2.2.1=aJ x.1.1,mu:=fun s=>(List.length (s.2.2.2.1.2.2.1)-s.1),init:=(0,(0,0,0,(),0,0,([],0,0,()),0,0,([],0,0,()),0,0,0,()),(0,0,0,(),((0,[],()),(0,[],()),0,(),()),((0,[],()),(0,[],()),0,(),()),(0,[],()),0,()),(0,0,[],0,0,0,()),.bool false),ex:=true}|_=>none),1000,af (q:=QK (Qe2 x).1 (b7 x.1) QJ (iJ x y (x.1,()) (xz,Qg (12:Int))) (Qs (aV x.1.2.1) (E3 (x.1.2.1,()) (y9 y.1.1)) (∀ (va:dB) (vb:m6) (vc:TN) (vd:Uv),Q9l II (Q7J Q6q) (dg (x.1.2.1,()) (y9 y.1.1) va vc) ((∃ (ve:a19),XB (Qep vd ve vc) x (wN x.1.1 ve.2.2.1 (Qeq va.1 ve x (vc.1.1=(Qer ve).1) (Qes vc ve vd))) ve y (QeN x ve))∧(∀ (ve:a19),Qeu ve (Qae (x.1.2.1,()) (y9 y.1.1) (ve.2.1,()) (Qer ve)) (QeN x ve) (Q6 (Qd (Qer ve).2.1 (↑ve.1:Int)) (bF ve.2.2.1) (Q5l (Qev ve) ve.1=(0:Int)) (An (ve.2.2.1,()) (Qew ve)) (∀ (vf:Cb) (vg:BY) (vi:kE) (vj:lA),Q3j Qc1 (pY (ve.2.2.1,()) (Qew ve) vf vi) (Na ve.1 (∃ (vl:a19),Q2D (XB (Vz ve vl) x (wN vf.1 vl.2.2.1 (Qeq ve.2.1 vl x ((Qer ve).1=(Qer vl).1) (Qey ve vl))) vl y (QeN x vl)) (XH vl) vl.1 (XH ve) ve.1)))) (EK ve (HT ve.2.2.1 ve.2.1) (Cs (QeB ve x,QcT Q8) (RG ve)) (∀ (vf:Ew) (vg:EZ) (vi:rI) (vj:so),Wp (iD (QeB ve x,QcT Q8) (RG ve) vf vi) vf (Q7 (b7 vf.1) (Kx vf) (UQ x y (vf.1,()))) (∀ (vl:gy) (vm:lC) (vn:qh) (vo:re),Qd8 (vf.1.2.2.1,()) () vl vn (Q7 (b7 vf.1) (Kx vf) (UQ x y ((vf.1.1,vf.1.2.1,QdE vl.1 vf.1 (true,(12:Int),Qk)),())))) (b7 vf.1) (UQ x y (vf.1,()))) (QeG ve.2.1) (BP ve x (HT ve.2.2.1 ve.2.1) (UQ x y (Wq ve x)) (∀ (vf:gy) (vg:lC) (vi:qh) (vj:re),Sf x vf vi (bF ve.2.2.1) ve (UQ x y ((ve.2.2.1,ve.2.1,vf.1,W4 x.1 (PO x.1).1 (PO x.1) (QcY x.1).1 (QeK ve).2.1 true (12:Int)),())))) (bF ve.2.2.1) (UQ x y (Wq ve x)) (Qz (QeG ve.2.1) (yx (ve.2.1,())) (BP ve x (HT ve.2.2.1 ve.2.1) (UQ x y (QeB ve x,())) (∀ (vf:gy) (vg:lC) (vi:qh) (vj:re),Sf x vf vi (bF ve.2.2.1) ve (UQ x y ((ve.2.2.1,ve.2.1,vf.1,W4 x.1 (PO x.1).1 (PO x.1) (QcY x.1).1 (Qe1 x).1 true (12:Int)),())))) (QeL ve (bF ve.2.2.1) (UQ x y (QeB ve x,())))))))))) (by kernel_rfl) ?_⟩
  delta Q7 Q6 oO lG QC Qn Yy Q6r QbG cR Qs Qe1 Q3 ya Qr mV Qk mJ Qe2 Q4 Q5 mQ QJ Q6q JY Q0 Sa Q23 QdP uI mB Qj Qcy Qcv Q2B Qc1 CE Ww QH PO QcY QK Qi QA xz Qg sY yG Q9l Mz Qt Q10 dD Q3j qo QE W4 Qe3 Qa DP xG Ly xw ZS Qo RA Q2l Q6n Qer Q2C Qz MT Yw Qbc II ku QdF Q1I HT Q7J Na QdE Q8 QI Qei Qev Qu QdG Qd8 RU Q6m QeB Q2D QcT Qae Qd F7 y9 QeK QeG Sf WK Q4C XH QeL UQ Q5l Wq BP Qeq QeM QeN EK Yz Qeu XB Kx yx RG Qep Qey Qew Vz Qes Wp wN xR ud bF aV b7;obtain ⟨⟨⟨(k0:Int),(n0:Int),(a0:Int),⟨⟩,⟨⟨(o0:Int),r0,⟨⟩⟩,⟨(s0:Int),t0,⟨⟩⟩,(l0:Int),⟨⟩,⟨⟩⟩,⟨⟨(u0:Int),v0,⟨⟩⟩,⟨(w0:Int),x0,⟨⟩⟩,(m0:Int),⟨⟩,⟨⟩⟩,⟨(y0:Int),z0,⟨⟩⟩,(p0:Int),⟨⟩⟩,⟨(r2:Int),(u2:Int),(h0:Int),⟨⟩,(z2:Int),(n2:Int),⟨t2,(s2:Int),(a1:Int),⟨⟩⟩,(t1:Int),(p2:Int),⟨x1,(u1:Int),(g0:Int),⟨⟩⟩,(l2:Int),(j1:Int),(x2:Int),⟨⟩⟩,⟨(n1:Int),l1,⟨p1,r1⟩,(c0:Int),d0,⟨⟩⟩,⟨(b1:Int),⟨⟩,⟨⟩,⟨⟩⟩,⟨⟨⟩,⟨⟩⟩,⟨⟨⟩,⟨⟩,⟨⟩,⟨⟩,⟨⟩⟩,⟨i0,d1⟩,⟨j0,h1⟩,(b0:Int),q0,(g1:Int),⟨⟩,⟨⟩⟩,⟨⟩⟩:=x;obtain ⟨⟨⟨⟨⟩,⟨⟩,⟨⟩,⟨⟩,⟨⟨⟨⟩,⟨⟩,⟨⟩⟩,⟨⟨⟩,⟨⟩,⟨⟩⟩,⟨⟩,⟨⟩,⟨⟩⟩,⟨⟨⟨⟩,⟨⟩,⟨⟩⟩,⟨⟨⟩,⟨⟩,⟨⟩⟩,⟨⟩,⟨⟩,⟨⟩⟩,⟨⟨⟩,⟨⟩,⟨⟩⟩,⟨⟩,⟨⟩⟩,⟨⟨⟩,⟨⟩,⟨⟩,⟨⟩,⟨⟩,⟨⟩,⟨⟨⟩,⟨⟩,⟨⟩,⟨⟩⟩,⟨⟩,⟨⟩,⟨⟨⟩,⟨⟩,⟨⟩,⟨⟩⟩,⟨⟩,⟨⟩,⟨⟩,⟨⟩⟩,⟨⟨⟩,⟨⟩,⟨⟩,⟨⟩,⟨⟩,⟨⟩⟩,⟨⟨⟩,⟨⟩,⟨⟩,⟨⟩⟩,⟨⟨⟩,⟨⟩⟩,⟨⟨⟩,⟨⟩,⟨⟩,⟨⟩,⟨⟩⟩,⟨⟩,⟨⟩,⟨⟩,⟨⟩,⟨⟩,⟨⟩,⟨⟩⟩,⟨⟩⟩:=h;obtain ⟨⟨t,⟨⟩⟩,⟨⟩⟩:=y;obtain ⟨⟨⟨⟩,⟨⟩⟩,⟨⟩⟩:=k
  try dsimp only
  have B':=()
 all_goals
  obtain ⟨hp,hU⟩:=hp;obtain ⟨a,hR,hH,h4⟩:=hp;have hR':=hR;obtain ⟨⟨hc,sd1,sd2⟩,⟨hk,hka⟩,⟨lt,lc,lh⟩,⟨mo,mw⟩,⟨ff,fh,frs⟩,⟨cd,cmn,cth,cn,cf⟩,sm,df,sr⟩:=hR';have sd1:0≤k0:=sd1;have sd2:k0≤4294967295:=sd2;have lc:c0=a.cm:=lc;have mo:mE i0=(if a.ow=true then [(16,a.sm)] else []):=mo;have mw:mE j0=(if a.wt=true then [(16,a.ot)] else []):=mw;have lh:d0=a.hl:=lh;have ff:b0=a.far:=ff;have fh:q0=a.hl:=fh;have cd:n0=a.d:=cd
  first|(have:=A';have cmn:l0=a.mn:=cmn)|(have:=B';have cmn:m0=a.mn:=cmn)
  first|(have:=A';have cth:m0=a.th:=cth)|(have:=B';have cth:l0=a.th:=cth)
  have cn:p0=a.now:=cn;have cf:o0=a.F:=cf;have hks:h0=a.k.st:=by rw [←hka];rfl
  have hkak:t1=a.k.ak:=by rw [←hka];rfl
  have hkon:a1=a.k.on:=by rw [←hka];rfl
  have hkn:g0=(a.k.q.length:Int):=by
   rw [←hka];show _=((List.map mA (rQ x1 u1 g0)).length:Int);rw [List.length_map];exact jg hk.2.1.1
  simp only [cl];refine ⟨fun h a2 hR2 _ _=>?_,fun h=>?_⟩
  ·have e:a2.hl=true:=(show q0=a2.hl from hR2.2.2.2.2.1.2.1).symm.trans h;rw [show a2.aw (aG t)=a2 from by unfold PA.aw;rw [if_pos e]]
   exact hR2
  have hl:a.hl=false:=fh.symm.trans h;obtain ⟨o1,o2,o3,o4⟩:=hH hl;have hkA:bn ((r2,u2,h0,(),z2,n2,(t2,s2,a1,()),t1,p2,(x1,u1,g0,()),l2,j1,x2,()))=a.k:=hka;refine ⟨⟨hk,(show h0≠2 by rw [hks];exact o1),hU,(show (bn ((r2,u2,h0,(),z2,n2,(t2,s2,a1,()),t1,p2,(x1,u1,g0,()),l2,j1,x2,()))).cK (aG t) by rw [hkA];exact o2)⟩,fun x z k hx=>⟨⟨(0,x.1,(k0,n0,a0,(),((o0,r0,()),(s0,t0,()),l0,(),()),((u0,v0,()),(w0,x0,()),m0,(),()),(y0,z0,()),p0,()),z.1,k.1.2.2.1),?_⟩,fun s i1 i2 c1 c2 c3 c4 c5 c6=>?_⟩⟩
  ·dsimp only;refine ⟨by simp only [cl];all_goals simp,Nat.zero_le _,hx,hc,?_,rfl,rfl,by simp,rfl⟩
   unfold fI;simp only [cl]
  obtain ⟨I,L,C,⟨ki,fr,hin,fa,su,le,u⟩,V⟩:=s;obtain ⟨k1,k2,k3⟩:=(show fe L∧(bn L,(ki,fr,hin.length,fa,su,le))=(bn ((r2,u2,h0,(),z2,n2,(t2,s2,a1,()),t1,p2,(x1,u1,g0,()),l2,j1,x2,()))).aw (aG t)∧hin=fV hin.length from i2);rw [hkA] at k2;obtain ⟨e0,e1,e2,e3,e4,e5,e6⟩:bn L=(a.k.aw (aG t)).1∧ki=(a.k.aw (aG t)).2.1∧fr=(a.k.aw (aG t)).2.2.1∧hin.length=(a.k.aw (aG t)).2.2.2.1∧fa=(a.k.aw (aG t)).2.2.2.2.1∧su=(a.k.aw (aG t)).2.2.2.2.2.1∧le=(a.k.aw (aG t)).2.2.2.2.2.2:=by rw [←k2];exact ⟨rfl,rfl,rfl,rfl,rfl,rfl,rfl⟩
  have hst:L.2.2.1≠2:=by
   rw [show L.2.2.1=(a.k.aw (aG t)).1.st from by rw [←e0];rfl]
   exact LA.M0 _ _ o1
  have i1:I≤hin.length:=i1
  first|(have:=A';have c5:cN C 1=cN ((k0,n0,a0,(),((o0,r0,()),(s0,t0,()),l0,(),()),((u0,v0,()),(w0,x0,()),m0,(),()),(y0,z0,()),p0,())) 1+I:=c5)|(have:=B';have c5:cN C 0=cN ((k0,n0,a0,(),((o0,r0,()),(s0,t0,()),l0,(),()),((u0,v0,()),(w0,x0,()),m0,(),()),(y0,z0,()),p0,())) 0+I:=c5)
  first|(have:=A';have c5':cN C 1=a.th+I:=by rw [c5,←cth];rfl)|(have:=B';have c5':cN C 0=a.th+I:=by rw [c5,←cth];rfl)
  have hF:cF C=a.F:=c3.trans cf;dsimp only;refine ⟨fun hi=>?_,fun hi=>?_⟩
  ·have hi:(I:Int)<hin.length:=hi;have h3:(a.k.aw (aG t)).2.1=3:=Classical.byContradiction fun h3=>by
    have:=LA.FR _ _ h3;omega
   obtain ⟨q1,q2,q3⟩:=o3 h3;rw [←e3] at q2;rw [←e2] at q1;have hF0:cF ((k0,n0,a0,(),((o0,r0,()),(s0,t0,()),l0,(),()),((u0,v0,()),(w0,x0,()),m0,(),()),(y0,z0,()),p0,()))=a.F:=cf;obtain ⟨f9,f0,f1,f2,f3⟩:=a7E (show gT ((k0,n0,a0,(),((o0,r0,()),(s0,t0,()),l0,(),()),((u0,v0,()),(w0,x0,()),m0,(),()),(y0,z0,()),p0,())) from hc)
   first|(have:=A';have hT0:cN ((k0,n0,a0,(),((o0,r0,()),(s0,t0,()),l0,(),()),((u0,v0,()),(w0,x0,()),m0,(),()),(y0,z0,()),p0,())) 1=a.th:=cth)|(have:=B';have hT0:cN ((k0,n0,a0,(),((o0,r0,()),(s0,t0,()),l0,(),()),((u0,v0,()),(w0,x0,()),m0,(),()),(y0,z0,()),p0,())) 0=a.th:=cth)
   first|(have:=A';refine ⟨⟨by omega,hi⟩,by omega,by simp only [aL,aT,aU];omega,by rw [k3];exact JI _ _,⟨c1,(show fr+I=cN C 1 by omega),(show fr+I-cF C<64 by omega),(show fr+I<1000 by omega)⟩,fun y w hy=>⟨by simp only [aL,aT,aU];omega,⟨(I+1,L,y.1,(ki,fr,hin,fa,su,le,u),V),?_⟩⟩⟩)|(have:=B';refine ⟨⟨by omega,hi⟩,by omega,by simp only [aL,aT,aU];omega,by rw [k3];exact JI _ _,⟨c1,(show fr+I=cN C 0 by omega),(show fr+I-cF C<64 by omega),(show fr+I<1000 by omega)⟩,fun y w hy=>⟨by simp only [aL,aT,aU];omega,⟨(I+1,L,y.1,(ki,fr,hin,fa,su,le,u),V),?_⟩⟩⟩)
   first|(have:=A';obtain ⟨y1,y2,y3,y4,y5,y6⟩:=(show gT y.1∧fI C y.1∧cF y.1=cF C∧cN y.1 0=cN C 0∧cN y.1 1=cN C 1+1∧aJ y.1=aJ C from ⟨hy.1,hy.2.1,hy.2.2.1,hy.2.2.2.1,hy.2.2.2.2.1,hy.2.2.2.2.2⟩))|(have:=B';obtain ⟨y1,y2,y3,y4,y5,y6⟩:=(show gT y.1∧fI C y.1∧cF y.1=cF C∧cN y.1 1=cN C 1∧cN y.1 0=cN C 0+1∧aJ y.1=aJ C from ⟨hy.1,hy.2.1,hy.2.2.1,hy.2.2.2.1,hy.2.2.2.2.1,hy.2.2.2.2.2⟩))
   dsimp only
   first|(have:=A';refine ⟨⟨by simp only [cl];all_goals simp,(show I+1≤hin.length by omega),i2,y1,⟨y2.1.trans c2.1,y2.2.1.trans c2.2.1,y2.2.2.trans c2.2.2⟩,y3.trans c3,y4.trans c4,(show cN y.1 1=cN ((k0,n0,a0,(),((o0,r0,()),(s0,t0,()),l0,(),()),((u0,v0,()),(w0,x0,()),m0,(),()),(y0,z0,()),p0,())) 1+((I+1:Nat):Int) by rw [y5,c5,Int.natCast_add];omega),y6.trans c6⟩,by omega⟩)|(have:=B';refine ⟨⟨by simp only [cl];all_goals simp,(show I+1≤hin.length by omega),i2,y1,⟨y2.1.trans c2.1,y2.2.1.trans c2.2.1,y2.2.2.trans c2.2.2⟩,y3.trans c3,y4.trans c4,(show cN y.1 0=cN ((k0,n0,a0,(),((o0,r0,()),(s0,t0,()),l0,(),()),((u0,v0,()),(w0,x0,()),m0,(),()),(y0,z0,()),p0,())) 0+((I+1:Nat):Int) by rw [y5,c5,Int.natCast_add];omega),y6.trans c6⟩,by omega⟩)
  ·have hi: ¬(I:Int)<hin.length:=hi;have hI:I=hin.length:=by omega
   first|(have:=A';have hcc:cN C 1=a.th+hin.length:=by rw [c5',hI])|(have:=B';have hcc:cN C 0=a.th+hin.length:=by rw [c5',hI])
   first|(have:=A';have hbk: ∀b,au 0 (((k0,n0,a0,(),((o0,r0,()),(s0,t0,()),l0,(),()),((u0,v0,()),(w0,x0,()),m0,(),()),(y0,z0,()),p0,()),(r2,u2,h0,(),z2,n2,(t2,s2,a1,()),t1,p2,(x1,u1,g0,()),l2,j1,x2,()),(n1,l1,(p1,r1),c0,d0,()),(b1,(),(),()),((),()),((),(),(),(),()),(i0,d1),(j0,h1),b0,q0,g1,(),())) b→b.k=a.k:=fun b hb=>hb.2.1.2.symm.trans hkA)|(have:=B';have hbk: ∀b,au 1 (((k0,n0,a0,(),((o0,r0,()),(s0,t0,()),l0,(),()),((u0,v0,()),(w0,x0,()),m0,(),()),(y0,z0,()),p0,()),(r2,u2,h0,(),z2,n2,(t2,s2,a1,()),t1,p2,(x1,u1,g0,()),l2,j1,x2,()),(n1,l1,(p1,r1),c0,d0,()),(b1,(),(),()),((),()),((),(),(),(),()),(i0,d1),(j0,h1),b0,q0,g1,(),())) b→b.k=a.k:=fun b hb=>hb.2.1.2.symm.trans hkA)
   first
    |have:=A'
     have hnew: ∀b,au 0 (((k0,n0,a0,(),((o0,r0,()),(s0,t0,()),l0,(),()),((u0,v0,()),(w0,x0,()),m0,(),()),(y0,z0,()),p0,()),(r2,u2,h0,(),z2,n2,(t2,s2,a1,()),t1,p2,(x1,u1,g0,()),l2,j1,x2,()),(n1,l1,(p1,r1),c0,d0,()),(b1,(),(),()),((),()),((),(),(),(),()),(i0,d1),(j0,h1),b0,q0,g1,(),())) b→au 0 ((C,L,(n1,l1,(p1,r1),c0,d0,()),(b1,(),(),()),((),()),((),(),(),(),()),(i0,d1),(j0,h1),b0,q0,g1,(),())) {b with k:=(b.k.aw (aG t)).1,th:=b.th+(b.k.aw (aG t)).2.2.2.1}:=fun b hb=>by
      have hbt:b.th=a.th:=(show m0=b.th from hb.2.2.2.2.2.1.2.2.1).symm.trans cth;have hk9:=hbk b hb;obtain ⟨⟨hc2,sd12,sd22⟩,⟨hk2,hka2⟩,⟨lt2,lc2,lh2⟩,⟨mo2,mw2⟩,⟨ff2,fh2,frs2⟩,⟨cd2,cmn2,cth2,cn2,cf2⟩,sm2,df2,sr2⟩:=hb;have s1:C.1=k0:=c2.1;refine ⟨⟨c1,by rw [s1];exact sd12,by rw [s1];exact sd22⟩,⟨k1,by rw [hk9];exact e0⟩,⟨lt2,lc2,lh2⟩,⟨mo2,mw2⟩,⟨ff2,fh2,frs2⟩,⟨c2.2.1.trans cd2,c4.trans cmn2,?_,c6.trans cn2,c3.trans cf2⟩,?_,df2,sr2⟩
      ·show cN C 1=b.th+((b.k.aw (aG t)).2.2.2.1:Int);rw [hk9,hbt,←e3];exact hcc
      ·show b.sm=iN (n8 16 C.1 584);rw [s1];exact sm2
    |have:=B'
     have hnew: ∀b,au 1 (((k0,n0,a0,(),((o0,r0,()),(s0,t0,()),l0,(),()),((u0,v0,()),(w0,x0,()),m0,(),()),(y0,z0,()),p0,()),(r2,u2,h0,(),z2,n2,(t2,s2,a1,()),t1,p2,(x1,u1,g0,()),l2,j1,x2,()),(n1,l1,(p1,r1),c0,d0,()),(b1,(),(),()),((),()),((),(),(),(),()),(i0,d1),(j0,h1),b0,q0,g1,(),())) b→au 1 ((C,L,(n1,l1,(p1,r1),c0,d0,()),(b1,(),(),()),((),()),((),(),(),(),()),(i0,d1),(j0,h1),b0,q0,g1,(),())) {b with k:=(b.k.aw (aG t)).1,th:=b.th+(b.k.aw (aG t)).2.2.2.1}:=fun b hb=>by
      have hbt:b.th=a.th:=(show l0=b.th from hb.2.2.2.2.2.1.2.2.1).symm.trans cth;have hk9:=hbk b hb;obtain ⟨⟨hc2,sd12,sd22⟩,⟨hk2,hka2⟩,⟨lt2,lc2,lh2⟩,⟨mo2,mw2⟩,⟨ff2,fh2,frs2⟩,⟨cd2,cmn2,cth2,cn2,cf2⟩,sm2,df2,sr2⟩:=hb;have s1:C.1=k0:=c2.1;refine ⟨⟨c1,by rw [s1];exact sd12,by rw [s1];exact sd22⟩,⟨k1,by rw [hk9];exact e0⟩,⟨lt2,lc2,lh2⟩,⟨mo2,mw2⟩,⟨ff2,fh2,frs2⟩,⟨c2.2.1.trans cd2,c4.trans cmn2,?_,c6.trans cn2,c3.trans cf2⟩,?_,df2,sr2⟩
      ·show cN C 0=b.th+((b.k.aw (aG t)).2.2.2.1:Int);rw [hk9,hbt,←e3];exact hcc
      ·show b.sm=iN (n8 16 C.1 584);rw [s1];exact sm2
   refine ⟨fun h4k=>?_,fun hn4=>⟨fun h6=>?_,fun hn6=>?_⟩⟩
   ·have h4k:ki=4:=h4k;obtain ⟨m1,m2,m3⟩:=LA.a22 a.k (aG t) (by rw [←e1];exact h4k)
    obtain ⟨v1,v2,v3⟩:=o4 m1;obtain ⟨w1,w2,w3⟩:=h4 m1;have hn0:(a.k.aw (aG t)).2.2.2.1=0:=LA.FR _ _ (by rw [←e1,h4k];decide)
    refine ⟨⟨_,hnew a hR,hl,v2,e4.trans (m2.trans v1),e5.trans (m3.trans w1),fun hw=>?_,w2,w3⟩,fun y w u hy=>?_⟩
    ·have hw:a.ow=false:=hw;rw [hw] at v3;exact v3
    first|(have:=A';obtain ⟨y1,y2⟩:=(show (∀b,au 0 ((C,L,(n1,l1,(p1,r1),c0,d0,()),(b1,(),(),()),((),()),((),(),(),(),()),(i0,d1),(j0,h1),b0,q0,g1,(),())) b→b.hl=false→b.wt=false→su=b.ot→au 0 y.1 b.hold)∧y.2.1.2.2.1=false from hy))|(have:=B';obtain ⟨y1,y2⟩:=(show (∀b,au 1 ((C,L,(n1,l1,(p1,r1),c0,d0,()),(b1,(),(),()),((),()),((),(),(),(),()),(i0,d1),(j0,h1),b0,q0,g1,(),())) b→b.hl=false→b.wt=false→su=b.ot→au 1 y.1 b.hold)∧y.2.1.2.2.1=false from hy))
    first
     |have:=A'
      have hok: ∀b,au 0 (((k0,n0,a0,(),((o0,r0,()),(s0,t0,()),l0,(),()),((u0,v0,()),(w0,x0,()),m0,(),()),(y0,z0,()),p0,()),(r2,u2,h0,(),z2,n2,(t2,s2,a1,()),t1,p2,(x1,u1,g0,()),l2,j1,x2,()),(n1,l1,(p1,r1),c0,d0,()),(b1,(),(),()),((),()),((),(),(),(),()),(i0,d1),(j0,h1),b0,q0,g1,(),())) b→b.cK (aG t)→((aG t).1=4→(aG t).2.2.2.2.2.1=b.ot∧ -1≤b.cm∧b.cm≤1000)→au 0 y.1 (b.aw (aG t)):=fun b hb hb2 hb3=>by
       have hbl:b.hl=false:=(show q0=b.hl from hb.2.2.2.2.1.2.1).symm.trans h;have z1:=y1 _ (hnew b hb) hbl ((hb2 hbl).2.2.2 m1).2.1 (e5.trans (m3.trans (hb3 m1).1));have k4:(b.k.aw (aG t)).2.1=4:=by rw [hbk b hb,←e1];exact h4k
       have nb:b.th+((b.k.aw (aG t)).2.2.2.1:Int)=b.th:=by rw [hbk b hb,hn0];exact Int.add_zero _
       rw [show b.aw (aG t)=PA.hold {b with k:=(b.k.aw (aG t)).1,th:=b.th+(b.k.aw (aG t)).2.2.2.1} from ?_]
       ·exact z1
       rw [nb];unfold PA.aw PA.hold;rw [if_neg (by rw [hbl];decide),if_neg (by rw [k4];decide),if_pos k4]
     |have:=B'
      have hok: ∀b,au 1 (((k0,n0,a0,(),((o0,r0,()),(s0,t0,()),l0,(),()),((u0,v0,()),(w0,x0,()),m0,(),()),(y0,z0,()),p0,()),(r2,u2,h0,(),z2,n2,(t2,s2,a1,()),t1,p2,(x1,u1,g0,()),l2,j1,x2,()),(n1,l1,(p1,r1),c0,d0,()),(b1,(),(),()),((),()),((),(),(),(),()),(i0,d1),(j0,h1),b0,q0,g1,(),())) b→b.cK (aG t)→((aG t).1=4→(aG t).2.2.2.2.2.1=b.ot∧ -1≤b.cm∧b.cm≤1000)→au 1 y.1 (b.aw (aG t)):=fun b hb hb2 hb3=>by
       have hbl:b.hl=false:=(show q0=b.hl from hb.2.2.2.2.1.2.1).symm.trans h;have z1:=y1 _ (hnew b hb) hbl ((hb2 hbl).2.2.2 m1).2.1 (e5.trans (m3.trans (hb3 m1).1));have k4:(b.k.aw (aG t)).2.1=4:=by rw [hbk b hb,←e1];exact h4k
       have nb:b.th+((b.k.aw (aG t)).2.2.2.1:Int)=b.th:=by rw [hbk b hb,hn0];exact Int.add_zero _
       rw [show b.aw (aG t)=PA.hold {b with k:=(b.k.aw (aG t)).1,th:=b.th+(b.k.aw (aG t)).2.2.2.1} from ?_]
       ·exact z1
       rw [nb];unfold PA.aw PA.hold;rw [if_neg (by rw [hbl];decide),if_neg (by rw [k4];decide),if_pos k4]
    have hy1:=hok a hR hH h4;refine ⟨trivial,fun h2=>absurd h2 ?_,fun _=>⟨y2,fun b hb hb2 hb3=>hok b hb hb2 hb3⟩⟩;show ¬y.1.2.1.2.2.1=2;rw [show y.1.2.1.2.2.1=(a.aw (aG t)).k.st from by rw [←hy1.2.1.2];rfl,PA.a3Y _ _ hl]
    exact LA.M0 _ _ o1
   ·have h6:ki=6:=h6;have hn0:(a.k.aw (aG t)).2.2.2.1=0:=LA.FR _ _ (by rw [←e1,h6];decide)
    refine ⟨trivial,fun h2=>absurd h2 hst,fun _ b hb hb2 hb3=>?_⟩;have hbl:b.hl=false:=(show q0=b.hl from hb.2.2.2.2.1.2.1).symm.trans h;have z:=hnew b hb;have k6:(b.k.aw (aG t)).2.1=6:=by rw [hbk b hb,←e1];exact h6
    have nb:b.th+((b.k.aw (aG t)).2.2.2.1:Int)=b.th:=by rw [hbk b hb,hn0];exact Int.add_zero _
    rw [nb] at z;rw [show b.aw (aG t)= {b with k:=(b.k.aw (aG t)).1,far:=(b.k.aw (aG t)).2.2.2.2.2.2} from by unfold PA.aw;rw [if_neg (by rw [hbl];decide),if_neg (by rw [k6];decide),if_neg (by rw [k6];decide),if_pos k6]]
    exact ⟨z.1,z.2.1,z.2.2.1,z.2.2.2.1,⟨(show le=(b.k.aw (aG t)).2.2.2.2.2.2 by rw [hbk b hb];exact e6),z.2.2.2.2.1.2⟩,z.2.2.2.2.2⟩
   ·have hn4: ¬ki=4:=hn4;have hn6: ¬ki=6:=hn6;refine ⟨trivial,fun h2=>absurd h2 hst,fun _ b hb hb2 hb3=>?_⟩;have hbl:b.hl=false:=(show q0=b.hl from hb.2.2.2.2.1.2.1).symm.trans h;have z:=hnew b hb;have k1:(b.k.aw (aG t)).2.1=ki:=by rw [hbk b hb];exact e1.symm
    rw [show b.aw (aG t)= {b with k:=(b.k.aw (aG t)).1,th:=b.th+(b.k.aw (aG t)).2.2.2.1} from ?_]
    ·exact z
    unfold PA.aw;rw [if_neg (by rw [hbl];decide)]
    by_cases h3:(b.k.aw (aG t)).2.1=3
    ·rw [if_pos h3]
    ·have nb:b.th+((b.k.aw (aG t)).2.2.2.1:Int)=b.th:=by rw [LA.FR _ _ h3];exact Int.add_zero _
     rw [if_neg h3,if_neg (by rw [k1];exact hn4),if_neg (by rw [k1];exact hn6),nb]
theorem Ju:ab Tryz.prog 16 Ai:=IU.1
theorem Is:ab Tryz.prog 16 BM:=IU.2
noncomputable def P4:=Dv.add 16 Ju
noncomputable def Oo:=DK.add 16 Is
end Go.Proofs.YtfdmjoddhjmokaaGreatDoor
set_option maxHeartbeats 4000000
namespace Go.Proofs.YtfdmjoddhjmokaaGreatDoor
open Go.RowKit Rex
set_option linter.unusedVariables false
set_option linter.unusedSimpArgs false
set_option maxRecDepth 100000
noncomputable def Cq:=P4.add 58 Uq
noncomputable def XV:MC:=orC T8 NL
theorem Oa:ab Tryz.prog 59 XV:=jD RR O1
noncomputable def V1:=Cq.add 59 Oa
noncomputable def rq:=V1.add 60 Fc
def uZ(x:(Unit))(y:((Int×Int×Int×Unit×Int×Int×Int×Int×Unit)×Unit)):Prop:=(0≤y.1.1∧y.1.1≤4294967295)∧(0≤y.1.2.2.2.2.1∧y.1.2.2.2.2.1≤4294967295)∧0≤y.1.2.1∧y.1.2.1≤8∧1≤y.1.2.2.1∧y.1.2.2.1≤16∧1≤y.1.2.2.2.2.2.1∧y.1.2.2.2.2.2.1≤10000∧1≤y.1.2.2.2.2.2.2.1∧y.1.2.2.2.2.2.2.1≤256∧1≤y.1.2.2.2.2.2.2.2.1∧y.1.2.2.2.2.2.2.2.1≤16
def np(x:(Unit))(y:((Int×Int×Int×Unit×Int×Int×Int×Int×Unit)×Unit))(x':(Unit))(z:((qA×Unit)×aY×Unit)):Prop:= ∀a:PA,a=⟨y.1.2.1,y.1.2.1,y.1.2.1,0,0,-1,0,0,iN (n8 16 y.1.1 584),a.ot,⟨y.1.2.2.2.2.1,y.1.2.2.2.2.2.1,0,0,0,0,y.1.2.1,y.1.2.1,0,[]⟩,false,false,false,a.df⟩→(a.df=true↔a.sm≠a.ot)→0≤a.sm∧a.sm≤4294967295→au 0 z.1.1 a
noncomputable def yP:MC:=qC [false] [] [(true,[.int .u32,.int .i64,.int .i64,.cl (.int .i64 (0)),.int .u32,.int .i64,.int .i64,.int .i64])] [(false,[an]),(false,[.cl (.int .i64 (0))])] uZ np
abbrev rf:Type:=eZ [(false,[fb]),(false,[Sp.cl (Lc.int IntKind.i64 (0:Int))])]
abbrev mb:Type:=aZ [(false,[fb]),(false,[Sp.cl (Lc.int IntKind.i64 (0:Int))])]
abbrev fH:Type:=eZ [(false,[Sp.cl Lc.cb]),(false,[Sp.cl (Lc.int IntKind.i64 (1:Int))])]
abbrev dV:Type:=aZ [(false,[Sp.cl Lc.cb]),(false,[Sp.cl (Lc.int IntKind.i64 (1:Int))])]
abbrev Hc:Type:=eZ [(false,[cH]),(false,[Sp.cl (Lc.int IntKind.i64 (0:Int))])]
abbrev Iy:Type:=aZ [(false,[cH]),(false,[Sp.cl (Lc.int IntKind.i64 (0:Int))])]
abbrev a1N:Type:=eZ [(false,[aR]),(false,[Sp.cl (Lc.int IntKind.i64 (0:Int))])]
abbrev a0T:Type:=aZ [(false,[aR]),(false,[Sp.cl (Lc.int IntKind.i64 (0:Int))])]
abbrev m8:Type:=(Int×Int×Int×Unit×Int×Int×Int×Int×Unit)×Unit
def Ke(a:m8):Int×Int×Int×Int×Unit:=a.1.2.2.2.2
def QeT(a:m8):ky:=Qg (Ke a).2.2.1
def Qf1(a:m8):Bool:=decide ((Ke a).2.2.2.1<(1:Int))
def X5(a:eL)(b:ky)(c:cI)(d:mb)(e:m8)(f g:Prop):Prop:=K1 Q6n (qz a b c d) (Ql (Qf1 e) f g)
def Qf2(a:m8):Bool:=decide ((16:Int)<(Ke a).2.2.2.1)
def QeU(a:m8)(b:Prop):Prop:=Q0 (Qf2 a) False b
def Rg(a:m8)(b:cI)(c:dV):Prop:=RE (gH () (QeT a) b c) (Ql (Qf1 a) (QeU a False) False)
def QeR(a:m8)(b:cI)(c:Iy)(d e:Prop):Prop:=K1 II (vQ () (((Ke a).1,()),((Ke a).2.1,()),Qg a.1.2.1) b c) (Qr (HE () (QeT a)) d∨Qr (E0 () (QeT a)) e)
def QeY(a:m8)(b:cI)(c:mb):Prop:=X5 () (QeT a) b c a (QeU a False) False
def QeX(a:m8)(b:cI)(c:dV)(d e:Prop):Prop:=RE (jR () (((Ke a).1,()),((Ke a).2.1,()),Qg a.1.2.1) b c) (Qr (HE () (QeT a)) d∨Qr (E0 () (QeT a)) e)
def QeQ(a:Prop)(b:m8)(c d:Prop):Prop:=K1 Qc1 a (Qr (Bo () (((Ke b).1,()),((Ke b).2.1,()),Qg b.1.2.1)) c∨Qr (wq () (((Ke b).1,()),((Ke b).2.1,()),Qg b.1.2.1)) d)
def Z5(a:m8):Bv:=((a.1.1,a.1.2.1,a.1.2.2.1,Qk),())
def pQ(a:Prop)(b:m8)(c d:Prop):Prop:=RE a (Qr (Bo () (((Ke b).1,()),((Ke b).2.1,()),Qg b.1.2.1)) c∨Qr (wq () (((Ke b).1,()),((Ke b).2.1,()),Qg b.1.2.1)) d)
def YV:zN:=(([]:List (Row [Kd.int IntKind.i64]×Row [Kd.int IntKind.u32]×Nat)),(0:Nat))
def QeV(a:m8):(Int×Unit×Unit×Unit)×(Unit×Unit)×(Unit×Unit×Unit×Unit×Unit)×(ca [Kd.int IntKind.i64] [Kd.int IntKind.u32]×Nat)×(ca [Kd.int IntKind.i64] [Kd.int IntKind.u32]×Nat)×Int×Bool×Int×Unit×Unit:=(((Ke a).2.2.2.1,Qj),Qk,Mz,YV,YV,(0:Int),false,(0:Int),Qk)
noncomputable def yu:=Oo.add 58 VH
noncomputable def AW:=yu.add 59 Oa
noncomputable def pR:=AW.add 60 Fc
def wk(x:(Unit))(y:((Int×Int×Int×Unit×Int×Int×Int×Int×Unit)×Unit)):Prop:=(0≤y.1.1∧y.1.1≤4294967295)∧(0≤y.1.2.2.2.2.1∧y.1.2.2.2.2.1≤4294967295)∧0≤y.1.2.1∧y.1.2.1≤8∧1≤y.1.2.2.1∧y.1.2.2.1≤16∧1≤y.1.2.2.2.2.2.1∧y.1.2.2.2.2.2.1≤10000∧1≤y.1.2.2.2.2.2.2.1∧y.1.2.2.2.2.2.2.1≤256∧1≤y.1.2.2.2.2.2.2.2.1∧y.1.2.2.2.2.2.2.2.1≤16
def jM(x:(Unit))(y:((Int×Int×Int×Unit×Int×Int×Int×Int×Unit)×Unit))(x':(Unit))(z:((qA×Unit)×aY×Unit)):Prop:= ∀a:PA,a=⟨y.1.2.1,y.1.2.1,y.1.2.1,0,0,-1,0,0,iN (n8 16 y.1.1 584),a.ot,⟨y.1.2.2.2.2.1,y.1.2.2.2.2.2.1,0,0,0,0,y.1.2.1,y.1.2.1,0,[]⟩,false,false,false,a.df⟩→(a.df=true↔a.sm≠a.ot)→0≤a.sm∧a.sm≤4294967295→au 1 z.1.1 a
noncomputable def zd:MC:=qC [false] [] [(true,[.int .u32,.int .i64,.int .i64,.cl (.int .i64 (1)),.int .u32,.int .i64,.int .i64,.int .i64])] [(false,[aS]),(false,[.cl (.int .i64 (0))])] wk jM
abbrev a0o:Type:=eZ [(false,[aR]),(false,[Sp.cl (Lc.int IntKind.i64 (0:Int))])]
abbrev Zy:Type:=aZ [(false,[aR]),(false,[Sp.cl (Lc.int IntKind.i64 (0:Int))])]
theorem Nd:ab Tryz.prog 14 yP∧ab Tryz.prog 14 zd:=by
 refine ⟨?a,?b⟩
 case' a=>
  refine ah (cx Mx [32,61,62,63] oZ rq) Tryz.func14 (by kernel_rfl) (by kernel_rfl) fun (x:(Unit)) h (y:((Int×Int×Int×Unit×Int×Int×Int×Int×Unit)×Unit)) k hf hg hp=>⟨bK,400,af (q:=Qbc True (vX () (Z5 y)) (∀ (va:cI) (vb:ck) (vc:a0T) (vd:a1N),QeQ (nG () (Z5 y) va vc) y (∀ (ve:cI) (vf:ck) (vg:Iy) (vi:Hc),QeR y ve vg (∀ (vj:cI) (vl:ck) (vm:mb) (vn:rf),X5 () (QeT y) vj vm y (QeU y (Q10 (gk (QcP vc.1.1 vg.1.1)) (np x y () (((vc.1.1,vg.1.1,vm.1.1,QeV y),()),mB)))) False) (∀ (vj:cI) (vl:ck) (vm:dV) (vn:fH),Rg y vj vm)) (∀ (ve:cI) (vf:ck) (vg:dV) (vi:fH),QeX y ve vg (∀ (vj:cI) (vl:ck) (vm:mb) (vn:rf),QeY y vj vm) (∀ (vj:cI) (vl:ck) (vm:dV) (vn:fH),Rg y vj vm)))∨Qbc True (sP () (Z5 y)) (∀ (va:cI) (vb:ck) (vc:dV) (vd:fH),pQ (iI () (Z5 y) va vc) y (∀ (ve:cI) (vf:ck) (vg:Iy) (vi:Hc),QeR y ve vg (∀ (vj:cI) (vl:ck) (vm:mb) (vn:rf),QeY y vj vm) (∀ (vj:cI) (vl:ck) (vm:dV) (vn:fH),Rg y vj vm)) (∀ (ve:cI) (vf:ck) (vg:dV) (vi:fH),QeX y ve vg (∀ (vj:cI) (vl:ck) (vm:mb) (vn:rf),QeY y vj vm) (∀ (vj:cI) (vl:ck) (vm:dV) (vn:fH),Rg y vj vm)))) (by kernel_rfl) ?_⟩
  delta Q7 Q6 oO lG QC Qn Yy Q6r QbG cR Qs Q3 ya Qr mV Qk mJ Q4 mQ Q6q JY Q0 Sa uI mB Qj Qcy Qcv Qc1 xz Qg Ke Mz Q10 Qf2 Qf1 Ql K1 RE Q2l Q6n Qbc QeT II gk X5 QcP QeU Rg QeR QeY QeX QeQ Z5 pQ YV QeV bq aV;obtain ⟨⟨⟩⟩:=x;obtain ⟨⟨⟩⟩:=h;obtain ⟨⟨(l0:Int),(k0:Int),(o0:Int),⟨⟩,(m0:Int),(n0:Int),(p0:Int),(q0:Int),⟨⟩⟩,⟨⟩⟩:=y;obtain ⟨⟨⟨⟩,⟨⟩,⟨⟩,⟨⟩,⟨⟩,⟨⟩,⟨⟩,⟨⟩,⟨⟩⟩,⟨⟩⟩:=k
  try dsimp only
  have A':=()
 case' b=>
  refine ah (cx Mx [32,61,62,63] az pR) Tryz.func14 (by kernel_rfl) (by kernel_rfl) fun (x:(Unit)) h (y:((Int×Int×Int×Unit×Int×Int×Int×Int×Unit)×Unit)) k hf hg hp=>⟨bK,400,af (q:=Q14 Q5e (wJ () (Z5 y)) (∀ (va:cI) (vb:ck) (vc:Zy) (vd:a0o),QeQ (nB () (Z5 y) va vc) y (∀ (ve:cI) (vf:ck) (vg:Iy) (vi:Hc),QeR y ve vg (∀ (vj:cI) (vl:ck) (vm:mb) (vn:rf),X5 () (QeT y) vj vm y (QeU y (Q10 (gk (HT vc.1.1 vg.1.1)) (jM x y () (((vc.1.1,vg.1.1,vm.1.1,QeV y),()),mB)))) False) (∀ (vj:cI) (vl:ck) (vm:dV) (vn:fH),Rg y vj vm)) (∀ (ve:cI) (vf:ck) (vg:dV) (vi:fH),QeX y ve vg (∀ (vj:cI) (vl:ck) (vm:mb) (vn:rf),QeY y vj vm) (∀ (vj:cI) (vl:ck) (vm:dV) (vn:fH),Rg y vj vm)))∨Q14 Q5e (sc () (Z5 y)) (∀ (va:cI) (vb:ck) (vc:dV) (vd:fH),pQ (iA () (Z5 y) va vc) y (∀ (ve:cI) (vf:ck) (vg:Iy) (vi:Hc),QeR y ve vg (∀ (vj:cI) (vl:ck) (vm:mb) (vn:rf),QeY y vj vm) (∀ (vj:cI) (vl:ck) (vm:dV) (vn:fH),Rg y vj vm)) (∀ (ve:cI) (vf:ck) (vg:dV) (vi:fH),QeX y ve vg (∀ (vj:cI) (vl:ck) (vm:mb) (vn:rf),QeY y vj vm) (∀ (vj:cI) (vl:ck) (vm:dV) (vn:fH),Rg y vj vm)))) (by kernel_rfl) ?_⟩
  delta Q7 Q6 oO lG QC Qn Yy Q6r QbG cR Qs Q3 ya Qr mV Qk mJ Q4 mQ Q6q JY Q0 Sa uI mB Qj Qcy Qcv Qc1 xz Qg Ke Mz Q5e Q10 Qf2 Qf1 Ql K1 RE Q2l Q6n QeT II gk X5 HT QeU Rg Q14 QeR QeY QeX QeQ Z5 pQ YV QeV bF aV;obtain ⟨⟨⟩⟩:=x;obtain ⟨⟨⟩⟩:=h;obtain ⟨⟨(l0:Int),(k0:Int),(o0:Int),⟨⟩,(m0:Int),(n0:Int),(p0:Int),(q0:Int),⟨⟩⟩,⟨⟩⟩:=y;obtain ⟨⟨⟨⟩,⟨⟩,⟨⟩,⟨⟩,⟨⟩,⟨⟩,⟨⟩,⟨⟩,⟨⟩⟩,⟨⟩⟩:=k
  try dsimp only
  have B':=()
 all_goals
  obtain ⟨hs,hn,o1,o2,o3,o4,o5,o6,o7,o8,o9,o10⟩:=hp;simp only [cl];refine .inl ⟨⟨o1,o2,o3,o4⟩,fun x z hz=> .inl ⟨⟨hn,o5,o6,o1,Int.le_trans o2 (by decide)⟩,fun x2 z2 hz2=> .inl ⟨⟨o7,o8⟩,fun x3 z3 hz3=>⟨fun v1=>⟨fun v2=>Int.not_lt.2 o10 v2,fun v2 a ha hd hb=>?_⟩,fun v1=>Int.not_lt.2 o9 v1⟩⟩⟩⟩
  obtain ⟨r1,r2,r3,r4,r5,r6,r7,r8⟩:=(show gT z.1.1∧z.1.1.1=l0∧cD z.1.1=k0∧cW z.1.1=o0∧cN z.1.1 0=k0∧cN z.1.1 1=k0∧aJ z.1.1=0∧cF z.1.1=0 from hz);obtain ⟨l1,l2⟩:=(show fe z2.1.1∧bn z2.1.1=⟨m0,n0,0,0,0,0,k0,k0,0,[]⟩ from hz2 (Int.le_trans o2 (by decide)))
  obtain ⟨m1,m2,m3,m4⟩:=(show z3.1.1.1=p0∧du z3.1.1.2.2.1.1∧z3.1.1.2.2.2.1= -1∧z3.1.1.2.2.2.2.1=false from hz3);have a1:a.d=k0:=congrArg PA.d ha;have a2:a.mn=k0:=congrArg PA.mn ha;have a3:a.th=k0:=congrArg PA.th ha;have a4:a.now=0:=congrArg PA.now ha;have a5:a.F=0:=congrArg PA.F ha;have a6:a.cm= -1:=congrArg PA.cm ha;have a7:a.far=0:=congrArg PA.far ha;have a8:a.rs=0:=congrArg PA.rs ha;have a9:a.sm=iN (n8 16 l0 584):=congrArg PA.sm ha;have a10:a.k=⟨m0,n0,0,0,0,0,k0,k0,0,[]⟩:=congrArg PA.k ha;have a11:a.ow=false:=congrArg PA.ow ha;have a12:a.wt=false:=congrArg PA.wt ha;have a13:a.hl=false:=congrArg PA.hl ha
  first|(have:=A';refine ⟨⟨r1,by rw [show z.1.1.1=l0 from r2];exact hs.1,by rw [show z.1.1.1=l0 from r2];exact hs.2⟩,⟨l1,l2.trans a10.symm⟩,⟨fun _=>m2,m3.trans a6.symm,m4.trans a13.symm⟩,⟨?_,?_⟩,⟨a7.symm,a13.symm,a8.symm⟩,⟨r3.trans a1.symm,r5.trans a2.symm,r6.trans a3.symm,r7.trans a4.symm,r8.trans a5.symm⟩,?_,hd,hb⟩)|(have:=B';refine ⟨⟨r1,by rw [show z.1.1.1=l0 from r2];exact hs.1,by rw [show z.1.1.1=l0 from r2];exact hs.2⟩,⟨l1,l2.trans a10.symm⟩,⟨fun _=>m2,m3.trans a6.symm,m4.trans a13.symm⟩,⟨?_,?_⟩,⟨a7.symm,a13.symm,a8.symm⟩,⟨r3.trans a1.symm,r6.trans a2.symm,r5.trans a3.symm,r7.trans a4.symm,r8.trans a5.symm⟩,?_,hd,hb⟩)
  ·rw [a11];rfl
  ·rw [a12];rfl
  ·show a.sm=iN (n8 16 z.1.1.1 584);rw [r2];exact a9
theorem GI:ab Tryz.prog 14 yP:=Nd.1
theorem FW:ab Tryz.prog 14 zd:=Nd.2
noncomputable def VF:=rq.add 14 GI
def LY(x:(Unit))(y:((Int×Int×Int×Unit×Int×Int×Int×Int×Unit)×Unit)):Prop:=(0≤y.1.2.2.2.2.1∧y.1.2.2.2.2.1≤4294967295)∧ ¬(0≤y.1.2.1∧y.1.2.1≤8∧1≤y.1.2.2.1∧y.1.2.2.1≤16∧1≤y.1.2.2.2.2.2.1∧y.1.2.2.2.2.2.1≤10000∧1≤y.1.2.2.2.2.2.2.1∧y.1.2.2.2.2.2.2.1≤256∧1≤y.1.2.2.2.2.2.2.2.1∧y.1.2.2.2.2.2.2.2.1≤16)
def xV(x:(Unit))(y:((Int×Int×Int×Unit×Int×Int×Int×Int×Unit)×Unit))(x':(Unit))(z:(aY×aY×Unit)):Prop:=True
noncomputable def C1:MC:=qC [false] [] [(true,[.int .u32,.int .i64,.int .i64,.cl (.int .i64 (0)),.int .u32,.int .i64,.int .i64,.int .i64])] [(false,[.cl .cb]),(false,[.cl (.int .i64 (1))])] LY xV
def Qf4(a:m8)(b c:Prop):Prop:=QK (Qf2 a) True Q5e b c
def Qf5(a:eL)(b:m8):Prop:=xV a b () LP
def Qf7(a:m8)(b:cI)(c:mb)(d:Prop):Prop:=X5 () (QeT a) b c a (Qf4 a d (El d)) (El d)
def Wx(a:m8)(b:cI)(c:dV)(d:eL):Prop:=RE (gH () (QeT a) b c) (Ql (Qf1 a) (Qf4 a (Qf5 d a) (El (Qf5 d a))) (El (Qf5 d a)))
noncomputable def HB:=pR.add 14 FW
def Le(x:(Unit))(y:((Int×Int×Int×Unit×Int×Int×Int×Int×Unit)×Unit)):Prop:=(0≤y.1.2.2.2.2.1∧y.1.2.2.2.2.1≤4294967295)∧ ¬(0≤y.1.2.1∧y.1.2.1≤8∧1≤y.1.2.2.1∧y.1.2.2.1≤16∧1≤y.1.2.2.2.2.2.1∧y.1.2.2.2.2.2.1≤10000∧1≤y.1.2.2.2.2.2.2.1∧y.1.2.2.2.2.2.2.1≤256∧1≤y.1.2.2.2.2.2.2.2.1∧y.1.2.2.2.2.2.2.2.1≤16)
def wY(x:(Unit))(y:((Int×Int×Int×Unit×Int×Int×Int×Int×Unit)×Unit))(x':(Unit))(z:(aY×aY×Unit)):Prop:=True
noncomputable def A9:MC:=qC [false] [] [(true,[.int .u32,.int .i64,.int .i64,.cl (.int .i64 (1)),.int .u32,.int .i64,.int .i64,.int .i64])] [(false,[.cl .cb]),(false,[.cl (.int .i64 (1))])] Le wY
def Wt(a:eL)(b:m8):Prop:=wY a b () LP
def H0(a:m8)(b:cI)(c:dV)(d:eL):Prop:=RE (gH () (QeT a) b c) (Ql (Qf1 a) (Qf4 a (Wt d a) (El (Wt d a))) (El (Wt d a)))
theorem Jt:ab Tryz.prog 14 C1∧ab Tryz.prog 14 A9:=by
 refine ⟨?a,?b⟩
 case' a=>
  refine ah (cx Mx [32,61,62,63] oZ VF) Tryz.func14 (by kernel_rfl) (by kernel_rfl) fun (x:(Unit)) h (y:((Int×Int×Int×Unit×Int×Int×Int×Int×Unit)×Unit)) k hf hg hp=>⟨bK,400,af (q:=Qbc True (vX () (Z5 y)) (∀ (va:cI) (vb:ck) (vc:a0T) (vd:a1N),QeQ (nG () (Z5 y) va vc) y (∀ (ve:cI) (vf:ck) (vg:Iy) (vi:Hc),QeR y ve vg (∀ (vj:cI) (vl:ck) (vm:mb) (vn:rf),X5 () (QeT y) vj vm y (Qf4 y (Qf5 x y) False) (El (Qf5 x y))) (∀ (vj:cI) (vl:ck) (vm:dV) (vn:fH),Wx y vj vm x)) (∀ (ve:cI) (vf:ck) (vg:dV) (vi:fH),QeX y ve vg (∀ (vj:cI) (vl:ck) (vm:mb) (vn:rf),Qf7 y vj vm (Qf5 x y)) (∀ (vj:cI) (vl:ck) (vm:dV) (vn:fH),Wx y vj vm x)))∨Qbc True (sP () (Z5 y)) (∀ (va:cI) (vb:ck) (vc:dV) (vd:fH),pQ (iI () (Z5 y) va vc) y (∀ (ve:cI) (vf:ck) (vg:Iy) (vi:Hc),QeR y ve vg (∀ (vj:cI) (vl:ck) (vm:mb) (vn:rf),Qf7 y vj vm (Qf5 x y)) (∀ (vj:cI) (vl:ck) (vm:dV) (vn:fH),Wx y vj vm x)) (∀ (ve:cI) (vf:ck) (vg:dV) (vi:fH),QeX y ve vg (∀ (vj:cI) (vl:ck) (vm:mb) (vn:rf),Qf7 y vj vm (Qf5 x y)) (∀ (vj:cI) (vl:ck) (vm:dV) (vn:fH),Wx y vj vm x)))) (by kernel_rfl) ?_⟩
  delta Q7 Q6 oO lG QC Qn Yy Q6r cR Qs Q3 ya Qr mV Qk mJ Q4 mQ Q6q JY Q0 Sa uI mB Qc1 QK Qg Ke Q5e Q10 Qf2 Qf1 Ql K1 LP RE Q2l Q6n El Qbc QeT II X5 Qf4 Qf5 Qf7 QeR QeX Wx QeQ Z5 pQ;obtain ⟨⟨⟩⟩:=x;obtain ⟨⟨⟩⟩:=h;obtain ⟨⟨(o0:Int),(l0:Int),(n0:Int),⟨⟩,(p0:Int),(m0:Int),(k0:Int),(q0:Int),⟨⟩⟩,⟨⟩⟩:=y;obtain ⟨⟨⟨⟩,⟨⟩,⟨⟩,⟨⟩,⟨⟩,⟨⟩,⟨⟩,⟨⟩,⟨⟩⟩,⟨⟩⟩:=k
  try dsimp only
 case' b=>
  refine ah (cx Mx [32,61,62,63] az HB) Tryz.func14 (by kernel_rfl) (by kernel_rfl) fun (x:(Unit)) h (y:((Int×Int×Int×Unit×Int×Int×Int×Int×Unit)×Unit)) k hf hg hp=>⟨bK,400,af (q:=Q14 Q5e (wJ () (Z5 y)) (∀ (va:cI) (vb:ck) (vc:Zy) (vd:a0o),QeQ (nB () (Z5 y) va vc) y (∀ (ve:cI) (vf:ck) (vg:Iy) (vi:Hc),QeR y ve vg (∀ (vj:cI) (vl:ck) (vm:mb) (vn:rf),X5 () (QeT y) vj vm y (Qf4 y (Wt x y) False) (El (Wt x y))) (∀ (vj:cI) (vl:ck) (vm:dV) (vn:fH),H0 y vj vm x)) (∀ (ve:cI) (vf:ck) (vg:dV) (vi:fH),QeX y ve vg (∀ (vj:cI) (vl:ck) (vm:mb) (vn:rf),Qf7 y vj vm (Wt x y)) (∀ (vj:cI) (vl:ck) (vm:dV) (vn:fH),H0 y vj vm x)))∨Q14 Q5e (sc () (Z5 y)) (∀ (va:cI) (vb:ck) (vc:dV) (vd:fH),pQ (iA () (Z5 y) va vc) y (∀ (ve:cI) (vf:ck) (vg:Iy) (vi:Hc),QeR y ve vg (∀ (vj:cI) (vl:ck) (vm:mb) (vn:rf),Qf7 y vj vm (Wt x y)) (∀ (vj:cI) (vl:ck) (vm:dV) (vn:fH),H0 y vj vm x)) (∀ (ve:cI) (vf:ck) (vg:dV) (vi:fH),QeX y ve vg (∀ (vj:cI) (vl:ck) (vm:mb) (vn:rf),Qf7 y vj vm (Wt x y)) (∀ (vj:cI) (vl:ck) (vm:dV) (vn:fH),H0 y vj vm x)))) (by kernel_rfl) ?_⟩
  delta Q7 Q6 QC Qn Yy Q6r cR Qs Q3 ya Qr mV Qk mJ Q4 mQ Q6q JY Q0 Sa uI mB Qc1 QK Qg Ke Q5e Q10 Qf2 Qf1 Ql K1 LP RE Q2l Q6n El QeT II X5 Qf4 Wt Qf7 Q14 QeR QeX H0 QeQ Z5 pQ;obtain ⟨⟨⟩⟩:=x;obtain ⟨⟨⟩⟩:=h;obtain ⟨⟨(o0:Int),(l0:Int),(n0:Int),⟨⟩,(p0:Int),(m0:Int),(k0:Int),(q0:Int),⟨⟩⟩,⟨⟩⟩:=y;obtain ⟨⟨⟨⟩,⟨⟩,⟨⟩,⟨⟩,⟨⟩,⟨⟩,⟨⟩,⟨⟩,⟨⟩⟩,⟨⟩⟩:=k
  try dsimp only
 all_goals
  simp only [cl];by_cases hc:0≤l0∧l0≤8∧1≤n0∧n0≤16
  ·refine .inl ⟨hc,fun x z hz=>?_⟩;by_cases hk:1≤m0∧m0≤10000∧0≤l0∧l0≤1073741824
   ·refine .inl ⟨⟨hp.1,hk⟩,fun x z hz=>?_⟩;by_cases hl:1≤k0∧k0≤256
    ·exact .inl ⟨hl,fun x z hz=>⟨fun v1=>⟨fun v2=>trivial,fun v2=>(hp.2 ⟨hc.1,hc.2.1,hc.2.2.1,hc.2.2.2,hk.1,hk.2.1,hl.1,hl.2,Int.not_lt.1 v1,Int.not_lt.1 v2⟩).elim⟩,fun v1=>trivial⟩⟩
    ·exact .inr ⟨hl,fun x z hz=>⟨fun v1=>⟨fun v2=>trivial,fun v2=>trivial⟩,fun v1=>trivial⟩⟩
   ·refine .inr ⟨hk,fun x z hz=>?_⟩;by_cases hl:1≤k0∧k0≤256
    ·exact .inl ⟨hl,fun x z hz=>⟨fun v1=>⟨fun v2=>trivial,fun v2=>trivial⟩,fun v1=>trivial⟩⟩
    ·exact .inr ⟨hl,fun x z hz=>⟨fun v1=>⟨fun v2=>trivial,fun v2=>trivial⟩,fun v1=>trivial⟩⟩
  ·refine .inr ⟨hc,fun x z hz=>?_⟩;by_cases hk:1≤m0∧m0≤10000∧0≤l0∧l0≤1073741824
   ·refine .inl ⟨⟨hp.1,hk⟩,fun x z hz=>?_⟩;by_cases hl:1≤k0∧k0≤256
    ·exact .inl ⟨hl,fun x z hz=>⟨fun v1=>⟨fun v2=>trivial,fun v2=>trivial⟩,fun v1=>trivial⟩⟩
    ·exact .inr ⟨hl,fun x z hz=>⟨fun v1=>⟨fun v2=>trivial,fun v2=>trivial⟩,fun v1=>trivial⟩⟩
   ·refine .inr ⟨hk,fun x z hz=>?_⟩;by_cases hl:1≤k0∧k0≤256
    ·exact .inl ⟨hl,fun x z hz=>⟨fun v1=>⟨fun v2=>trivial,fun v2=>trivial⟩,fun v1=>trivial⟩⟩
    ·exact .inr ⟨hl,fun x z hz=>⟨fun v1=>⟨fun v2=>trivial,fun v2=>trivial⟩,fun v1=>trivial⟩⟩
theorem RW:ab Tryz.prog 14 C1:=Jt.1
theorem IB:ab Tryz.prog 14 A9:=Jt.2
noncomputable def JK:MC:=orC yP C1
noncomputable def Pw:=HB.add 14 IB
noncomputable def Jm:MC:=orC zd A9
theorem RS:ab Tryz.prog 14 JK:=jD GI RW
theorem JB:ab Tryz.prog 14 Jm:=jD FW IB
noncomputable def P7:=Pw.add 14 JB
end Go.Proofs.YtfdmjoddhjmokaaGreatDoor
namespace Go.Proofs.YtfdmjoddhjmokaaGreatDoor
set_option linter.unusedVariables false
structure PB where
 (x y:PA)
 (fx fy:List AM)
 mv:Int
def PB.tick(w:Nat)(b:PB):PB:=if w=0 then {b with x:=b.x.tick.1,fy:=b.fy++b.x.tick.2,mv:=b.mv+1} else {b with y:=b.y.tick.1,fx:=b.fx++b.y.tick.2,mv:=b.mv+1}
def PB.aE(w:Nat)(b:PB):Prop:=if w=0 then b.x.aE∧b.fy.length+b.x.tick.2.length≤64 else b.y.aE∧b.fx.length+b.y.tick.2.length≤64
def PB.BX(b:PB):Prop:=0≤b.mv∧b.mv<1000000
def PA.bT(a:PA):List AM→Prop
 | []=>False
 |m::_=>a.cK m∧(m.1=4→ -1≤a.cm∧a.cm≤1000)
def PA.take(a:PA):List AM→PA
 | []=>a
 |m::_=>a.aw m
def PB.take(w:Nat)(b:PB):PB:=if w=0 then {b with x:=b.x.take b.fx,fx:=b.fx.tail,mv:=b.mv+1} else {b with y:=b.y.take b.fy,fy:=b.fy.tail,mv:=b.mv+1}
def PB.bT(w:Nat)(b:PB):Prop:=if w=0 then b.x.bT b.fx else b.y.bT b.fy
def PB.len(w:Nat)(b:PB):Nat:=if w=0 then b.fx.length else b.fy.length
def PB.cT(w:Nat):Nat→PB→PB
 |0,b=>b
 |k+1,b=>(b.cT w k).take w
def PB.qV(w:Nat)(b:PB):Nat→Prop
 |0=>True
 |k+1=>b.qV w k∧(b.cT w k).bT w∧(b.cT w k).BX
def PB.drain(w:Nat)(b:PB):PB:=b.cT w (b.len w)
def PB.gf(w:Nat)(b:PB):Prop:=b.qV w (b.len w)
def PB.uO(b:PB):Nat→PB
 |0=>(b.tick 0).tick 1
 |1=>((b.tick 0).tick 1).drain 0
 |_=>(((b.tick 0).tick 1).drain 0).drain 1
def PB.calm:Nat→PB→PB
 |0,b=>b
 |n+1,b=>(b.calm n).uO 2
def PB.Fu(b:PB):Nat→Prop
 |0=>True
 |n+1=>b.Fu n∧(b.calm n).x.hl=false∧((b.calm n).aE 0∧(b.calm n).BX)∧(((b.calm n).tick 0).aE 1∧((b.calm n).tick 0).BX)∧((b.calm n).uO 0).gf 0∧((b.calm n).uO 1).gf 1
def PB.half(b:PB):Nat→PB
 |0=>b
 |1=>(b.tick 0).drain 1
 |_=>(((b.tick 0).drain 1).tick 1).drain 0
def PB.cj:Nat→PB→PB
 |0,b=>b
 |n+1,b=>(b.cj n).half 2
def PB.GA(b:PB):Nat→Prop
 |0=>True
 |n+1=>b.GA n∧(b.cj n).aE 0∧((b.cj n).tick 0).gf 1∧((b.cj n).half 1).aE 1∧(((b.cj n).half 1).tick 1).gf 0
theorem PB.nV {b:PB} {w:Nat}: ∀ {n k:Nat},b.qV w n→k<n→(b.cT w k).bT w∧(b.cT w k).BX
 |0,k,_,h=>absurd h (Nat.not_lt_zero _)
 |n+1,k,⟨h1,h2⟩,h=>by
  rcases Nat.lt_or_ge k n with c|c
  ·exact nV h1 c
  ·obtain rfl:k=n:=by omega
   exact h2
theorem PB.qt {b:PB}: ∀ {n k:Nat},b.Fu n→k<n→(b.calm k).x.hl=false∧((b.calm k).aE 0∧(b.calm k).BX)∧(((b.calm k).tick 0).aE 1∧((b.calm k).tick 0).BX)∧((b.calm k).uO 0).gf 0∧((b.calm k).uO 1).gf 1
 |0,k,_,h=>absurd h (Nat.not_lt_zero _)
 |n+1,k,⟨h1,h2⟩,h=>by
  rcases Nat.lt_or_ge k n with c|c
  ·exact qt h1 c
  ·obtain rfl:k=n:=by omega
   exact h2
theorem PB.gS {b:PB}: ∀ {n k:Nat},b.GA n→k<n→(b.cj k).aE 0∧((b.cj k).tick 0).gf 1∧((b.cj k).half 1).aE 1∧(((b.cj k).half 1).tick 1).gf 0
 |0,k,_,h=>absurd h (Nat.not_lt_zero _)
 |n+1,k,⟨h1,h2⟩,h=>by
  rcases Nat.lt_or_ge k n with c|c
  ·exact gS h1 c
  ·obtain rfl:k=n:=by omega
   exact h2
theorem PB.qM {w:Nat}(b:PB): ∀k,(b.cT w k).len w=b.len w-k
 |0=>rfl
 |k+1=>by
  have ih:=qM (w:=w) b k;show ((b.cT w k).take w).len w=_;by_cases h:w=0
  ·simp only [PB.len,PB.take,if_pos h,List.length_tail] at ih ⊢;omega
  ·simp only [PB.len,PB.take,if_neg h,List.length_tail] at ih ⊢;omega
def fg(s:Int)(l:List AM):Prop:= ∀m∈l,m.1=4→m.2.2.2.2.2.1=s
def PB.oN(b:PB):Prop:=(b.x.ot=b.y.sm∧b.y.ot=b.x.sm)∧(fg b.x.sm b.x.k.q∧fg b.y.sm b.y.k.q)∧fg b.y.sm b.fx∧fg b.x.sm b.fy
theorem oT {s:Int} {a b:List AM}(h:fg s a)(k:fg s b):fg s (a++b):=fun m hm=>(List.mem_append.1 hm).elim (h m) (k m)
theorem fA {s:Int}:fg s []:=fun _ h=>by cases h
theorem Du {s:Int} {a:List AM}(h:fg s a):fg s a.tail:=fun m hm=>h m (List.mem_of_mem_tail hm)
theorem LA.F0 {s:Int} {k:LA} {e:Int}(h:fg s k.q):fg s (k.m7 e):=by
 unfold LA.m7 LA.XW;refine oT h fun m hm h4=>?_;split at hm
 ·obtain rfl:=List.mem_singleton.1 hm;exact absurd (show (1:Int)=4 from h4) (by decide)
 ·rcases List.mem_cons.1 hm with rfl|hm
  ·split at h4
   ·exact absurd (show (3:Int)=4 from h4) (by decide)
   ·exact absurd (show (5:Int)=4 from h4) (by decide)
  ·split at hm
   ·obtain rfl:=List.mem_singleton.1 hm;exact absurd (show (6:Int)=4 from h4) (by decide)
   ·cases hm
theorem PA.Vc {a:PA}(h:fg a.sm a.k.q):fg a.set.sm a.set.k.q∧a.set.sm=a.sm∧a.set.ot=a.ot:=by
 unfold PA.set;split
 ·split
  ·refine ⟨oT h fun m hm _=>?_,rfl,rfl⟩;obtain rfl:=List.mem_singleton.1 hm;rfl
  ·exact ⟨h,rfl,rfl⟩
 ·exact ⟨h,rfl,rfl⟩
theorem PA.F5 {a:PA}(h:fg a.sm a.k.q):fg a.sm a.tick.1.k.q∧fg a.sm a.tick.2∧a.tick.1.sm=a.sm∧a.tick.1.ot=a.ot:=by
 unfold PA.tick;split
 ·exact ⟨fA,LA.F0 (k:=a.k.tick) h,rfl,rfl⟩
 ·have hs:fg a.eY.sm a.eY.k.q∧a.eY.sm=a.sm∧a.eY.ot=a.ot:=by unfold PA.eY;split<;>exact ⟨h,rfl,rfl⟩
  obtain ⟨h1,h2,h3⟩:=PA.Vc hs.1;refine ⟨fA,?_,h2.trans hs.2.1,h3.trans hs.2.2⟩;rw [←hs.2.1,←h2];exact LA.F0 (k:=a.eY.set.k.tick) h1
theorem LA.a2t(k:LA)(m:AM):(k.aw m).1.q=k.q∨ ∃n,(k.aw m).1.q=k.q++ [(2,n,0,0,0,0,0)]:=by
 unfold LA.aw LA.yD LA.dI
 (repeat' split)<;>first|exact .inl rfl|exact .inr ⟨_,rfl⟩
theorem PA.R5 {a:PA} {m:AM}(h:fg a.sm a.k.q):fg a.sm (a.aw m).k.q∧(a.aw m).sm=a.sm∧(a.aw m).ot=a.ot:=by
 have hq:fg a.sm (a.k.aw m).1.q:=by
  rcases LA.a2t a.k m with e|⟨n,e⟩
  ·rw [e];exact h
  ·rw [e];exact oT h fun m hm h4=>by obtain rfl:=List.mem_singleton.1 hm;exact absurd h4 (by decide:(2:Int)≠4)
 unfold PA.aw
 (repeat' split)<;>first|exact ⟨h,rfl,rfl⟩|exact ⟨hq,rfl,rfl⟩
theorem PA.ER {a:PA} {l:List AM}(h:fg a.sm a.k.q):fg a.sm (a.take l).k.q∧(a.take l).sm=a.sm∧(a.take l).ot=a.ot:=by
 cases l with
 |nil=>exact ⟨h,rfl,rfl⟩
 |cons m l=>exact PA.R5 h
theorem PB.rM {b:PB}(h:b.oN)(w:Nat):(b.tick w).oN:=by
 obtain ⟨⟨h1,h2⟩,⟨h3,h4⟩,h5,h6⟩:=h;unfold PB.tick;split
 ·obtain ⟨k1,k2,k3,k4⟩:=PA.F5 h3;refine ⟨⟨k4.trans h1,h2.trans k3.symm⟩,⟨?_,h4⟩,h5,?_⟩
  ·show fg b.x.tick.1.sm _;rw [k3];exact k1
  ·show fg b.x.tick.1.sm _;rw [k3];exact oT h6 k2
 ·obtain ⟨k1,k2,k3,k4⟩:=PA.F5 h4;refine ⟨⟨h1.trans k3.symm,k4.trans h2⟩,⟨h3,?_⟩,?_,h6⟩
  ·show fg b.y.tick.1.sm _;rw [k3];exact k1
  ·show fg b.y.tick.1.sm _;rw [k3];exact oT h5 k2
theorem PB.AI {b:PB}(h:b.oN)(w:Nat):(b.take w).oN:=by
 obtain ⟨⟨h1,h2⟩,⟨h3,h4⟩,h5,h6⟩:=h;unfold PB.take;split
 ·obtain ⟨k1,k3,k4⟩:=PA.ER (l:=b.fx) h3;refine ⟨⟨k4.trans h1,h2.trans k3.symm⟩,⟨?_,h4⟩,Du h5,?_⟩
  ·show fg (b.x.take b.fx).sm _;rw [k3];exact k1
  ·show fg (b.x.take b.fx).sm _;rw [k3];exact h6
 ·obtain ⟨k1,k3,k4⟩:=PA.ER (l:=b.fy) h4;refine ⟨⟨h1.trans k3.symm,k4.trans h2⟩,⟨h3,?_⟩,?_,Du h6⟩
  ·show fg (b.y.take b.fy).sm _;rw [k3];exact k1
  ·show fg (b.y.take b.fy).sm _;rw [k3];exact h5
instance(w:Nat)(b:PB):Decidable (b.aE w):=by unfold PB.aE;split<;>infer_instance
instance(a:PA):(l:List AM)→Decidable (a.bT l)
 | []=>inferInstanceAs (Decidable False)
 |m::_=>inferInstanceAs (Decidable (a.cK m∧(m.1=4→ -1≤a.cm∧a.cm≤1000)))
instance(w:Nat)(b:PB):Decidable (b.bT w):=by unfold PB.bT;split<;>infer_instance
instance(b:PB):Decidable b.BX:=by unfold PB.BX;infer_instance
def PB.new(pat d S T:Int)(df:Bool):PB:=⟨PA.new 1 pat d S T df,PA.new 2 pat d T S df,[],[],0⟩
def PB.cy(w:Nat):Nat→PB→PB×Bool
 |0,b=>(b,true)
 |k+1,b=>let r:=b.cy w k;(r.1.take w,r.2&&decide (r.1.bT w∧r.1.BX))
theorem PB.iO {w:Nat} {b:PB}: ∀k,(b.cy w k).1=b.cT w k
 |0=>rfl
 |k+1=>by show (b.cy w k).1.take w=_;rw [iO k];rfl
theorem PB.pg {w:Nat} {b:PB}: ∀k,(b.cy w k).2=true→b.qV w k
 |0,_=>trivial
 |k+1,h=>by
  have h:((b.cy w k).2&&decide ((b.cy w k).1.bT w∧(b.cy w k).1.BX))=true:=h;rw [Bool.and_eq_true,iO] at h;exact ⟨pg k h.1,of_decide_eq_true h.2⟩
def PB.gi:Nat→PB→PB×Bool
 |0,b=>(b,true)
 |n+1,b=>
  let r:=b.gi n
  let s:=r.1.tick 0
  let t:=s.tick 1
  let u:=t.cy 0 (t.len 0)
  let v:=u.1.cy 1 (u.1.len 1)
  (v.1,r.2&&(!r.1.x.hl&&(decide (r.1.aE 0∧r.1.BX)&&(decide (s.aE 1∧s.BX)&&(u.2&&v.2)))))
theorem PB.yT {b:PB}: ∀n,(b.gi n).1=b.calm n
 |0=>rfl
 |n+1=>by
  show ((((((b.gi n).1.tick 0).tick 1).cy 0 _).1).cy 1 _).1=_;rw [iO,iO,yT n];rfl
theorem PB.Mv {b:PB}: ∀n,(b.gi n).2=true→b.Fu n
 |0,_=>trivial
 |n+1,h=>by
  have h:((b.gi n).2&&(!(b.gi n).1.x.hl&&(decide ((b.gi n).1.aE 0∧(b.gi n).1.BX)&&(decide (((b.gi n).1.tick 0).aE 1∧((b.gi n).1.tick 0).BX)&&(((((b.gi n).1.tick 0).tick 1).cy 0 ((((b.gi n).1.tick 0).tick 1).len 0)).2&&((((((b.gi n).1.tick 0).tick 1).cy 0 ((((b.gi n).1.tick 0).tick 1).len 0)).1).cy 1 (((((((b.gi n).1.tick 0).tick 1).cy 0 ((((b.gi n).1.tick 0).tick 1).len 0)).1)).len 1)).2)))))=true:=h;simp only [Bool.and_eq_true,yT n,iO] at h;obtain ⟨h1,h2,h3,h4,h5,h6⟩:=h;exact ⟨Mv n h1,by simpa using h2,of_decide_eq_true h3,of_decide_eq_true h4,pg _ h5,pg _ h6⟩
def PB.fP:Nat→PB→PB×Bool
 |0,b=>(b,true)
 |n+1,b=>
  let r:=b.fP n
  let s:=r.1.tick 0
  let t:=s.cy 1 (s.len 1)
  let u:=t.1.tick 1
  let v:=u.cy 0 (u.len 0)
  (v.1,r.2&&(decide (r.1.aE 0)&&(t.2&&(decide (t.1.aE 1)&&v.2))))
theorem PB.Fi {b:PB}: ∀n,(b.fP n).1=b.cj n
 |0=>rfl
 |n+1=>by
  show (((((b.fP n).1.tick 0).cy 1 _).1.tick 1).cy 0 _).1=_;rw [iO,iO,Fi n];rfl
theorem PB.Nq {b:PB}: ∀n,(b.fP n).2=true→b.GA n
 |0,_=>trivial
 |n+1,h=>by
  have h:((b.fP n).2&&(decide ((b.fP n).1.aE 0)&&((((b.fP n).1.tick 0).cy 1 (((b.fP n).1.tick 0).len 1)).2&&(decide ((((b.fP n).1.tick 0).cy 1 (((b.fP n).1.tick 0).len 1)).1.aE 1)&&(((((b.fP n).1.tick 0).cy 1 (((b.fP n).1.tick 0).len 1)).1.tick 1).cy 0 (((((b.fP n).1.tick 0).cy 1 (((b.fP n).1.tick 0).len 1)).1.tick 1).len 0)).2))))=true:=h;simp only [Bool.and_eq_true,Fi n,iO] at h;obtain ⟨h1,h2,h3,h4,h5⟩:=h;exact ⟨Nq n h1,of_decide_eq_true h2,pg _ h3,of_decide_eq_true h4,pg _ h5⟩
end Go.Proofs.YtfdmjoddhjmokaaGreatDoor
namespace Go.Proofs.YtfdmjoddhjmokaaGreatDoor
theorem Yk {x v:Nat}(h1:0<v)(h2:v<128):(x ^^^ v)/ 128=x / 128∧(x ^^^ v)%128≠x %128:=by
 refine ⟨?_,fun h=>?_⟩
 ·have:=Nat.xor_div_two_pow (a:=x) (b:=v) (n:=7);rw [show (2:Nat)^7=128 from rfl,show v / 128=0 from Nat.div_eq_of_lt h2,Nat.xor_zero] at this;exact this
 ·have:=Nat.xor_mod_two_pow (a:=x) (b:=v) (n:=7);rw [show (2:Nat)^7=128 from rfl,show v %128=v from Nat.mod_eq_of_lt h2,h] at this;have h3:(x %128) ^^^ (x %128)=(x %128) ^^^ ((x %128) ^^^ v):=congrArg _ this;rw [Nat.xor_self,←Nat.xor_assoc,Nat.xor_self,Nat.zero_xor] at h3;omega
theorem a1R {d:Int}(S T:Int)(h:0≤d∧d≤8):((PB.new 10000 d S T true).fP 120).2=true∧((PB.new 10000 d S T true).fP 120).1.x.hl=true∧((PB.new 10000 d S T true).fP 120).1.y.hl=true∧((PB.new 10000 d S T true).fP 120).1.x.rs=13∧((PB.new 10000 d S T true).fP 120).1.y.rs=13∧decide (((PB.new 10000 d S T true).fP 120).1.x.aE)=true:=by
 have key:d=0∨d=1∨d=2∨d=3∨d=4∨d=5∨d=6∨d=7∨d=8:=by omega
 rcases key with rfl|rfl|rfl|rfl|rfl|rfl|rfl|rfl|rfl<;>refine ⟨?_,?_,?_,?_,?_,?_⟩<;>kernel_rfl
theorem PB.HQ {b:PB}(h:b.fx= []∧b.fy= []): ∀w,(b.half w).fx= []∧(b.half w).fy= []:=by
 have d1: ∀c:PB,(c.drain 1).fy= []∧(c.drain 1).fx=c.fx:=fun c=>by
  refine ⟨List.length_eq_zero_iff.1 ?_,?_⟩
  ·have:=PB.qM (w:=1) c (c.len 1);rw [Nat.sub_self] at this;exact this
  ·have: ∀k,(c.cT 1 k).fx=c.fx:=fun k=>by
    induction k with
    |zero=>rfl
    |succ k ih=>exact ih
   exact this _
 have d0: ∀c:PB,(c.drain 0).fx= []∧(c.drain 0).fy=c.fy:=fun c=>by
  refine ⟨List.length_eq_zero_iff.1 ?_,?_⟩
  ·have:=PB.qM (w:=0) c (c.len 0);rw [Nat.sub_self] at this;exact this
  ·have: ∀k,(c.cT 0 k).fy=c.fy:=fun k=>by
    induction k with
    |zero=>rfl
    |succ k ih=>exact ih
   exact this _
 have s1:((b.tick 0).drain 1).fx= []∧((b.tick 0).drain 1).fy= []:=⟨(d1 _).2.trans h.1,(d1 _).1⟩;intro w
 match w with
 |0=>exact h
 |1=>exact s1
 |w+2=>exact ⟨(d0 _).1,(d0 _).2.trans s1.2⟩
theorem PB.Jx {b:PB}(h:b.fx= []∧b.fy= []): ∀n,(b.cj n).fx= []∧(b.cj n).fy= []
 |0=>h
 |n+1=>PB.HQ (Jx h n) 2
def PB.fl(v:Nat)(b:PB):List AM:=if v=0 then b.fx else b.fy
theorem PB.B5 {v:Nat}(b:PB): ∀k,(b.cT v k).fl v=(b.fl v).drop k
 |0=>rfl
 |k+1=>by
  have ih:=B5 (v:=v) b k;show ((b.cT v k).take v).fl v=_;by_cases c:v=0
  ·simp only [PB.fl,PB.take,if_pos c] at ih ⊢;rw [ih,List.tail_drop]
  ·simp only [PB.fl,PB.take,if_neg c] at ih ⊢;rw [ih,List.tail_drop]
theorem PB.a4t {b:PB}(h:b.oN): ∀n w,((b.cj n).half w).oN:=by
 have t: ∀ (c:PB) v k,c.oN→(c.cT v k).oN:=fun c v k hc=>by
  induction k with
  |zero=>exact hc
  |succ k ih=>exact PB.AI ih v
 have hh: ∀ (c:PB) w,c.oN→(c.half w).oN:=fun c w hc=>by
  match w with
  |0=>exact hc
  |1=>exact t _ _ _ (PB.rM hc 0)
  |w+2=>exact t _ _ _ (PB.rM (t _ _ _ (PB.rM hc 0)) 1)
 have g: ∀n,(b.cj n).oN:=fun n=>by
  induction n with
  |zero=>exact h
  |succ n ih=>exact hh _ 2 ih
 exact fun n w=>hh _ w (g n)
end Go.Proofs.YtfdmjoddhjmokaaGreatDoor
