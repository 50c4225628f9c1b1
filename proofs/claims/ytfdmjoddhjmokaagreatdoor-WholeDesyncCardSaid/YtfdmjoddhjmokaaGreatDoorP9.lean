/- Part of the proof of WholeDesync (see the last text). Conditions: none. Own work; printed by programs of mine. -/
import Derived.Test.YtfdmjoddhjmokaaGreatDoorP8
namespace Go.Proofs.YtfdmjoddhjmokaaGreatDoor
open Go.RowKit Rex
set_option linter.unusedVariables false
set_option linter.unusedSimpArgs false
set_option maxRecDepth 100000
abbrev bV:Sp:= .pt 222 [dh,dh,.int .i64]
abbrev a2x:Sp:= .pt 222 [Gz,Gz,.int .i64]
abbrev aM:Sp:= .pt 74 [an,.sl [.int .u8] 5,.cl .aj,aS,.sl [.int .u8] 5,.cl .aj,bV,.int .i64]
abbrev nU:Sp:= .pt 74 [za,.im [.int .u8],.cl .aj,M3,.im [.int .u8],.cl .aj,a2x,.int .i64]
def oB(f:List SV→Mem→Option Lf)(c d:MC):MC:=fun us m K=>match f us m with
 |some l=>match l with
  | .int _ kn n=>match kn with
   |true=>match decide (n=0) with
    |true=>c us m K
    |false=>d us m K
   |false=>(n=0→c us m K)∧(n≠0→d us m K)
  |_=>False
 |none=>False
theorem cA {P:Program} {f:FuncId} {g:List SV→Mem→Option Lf} {c d:MC}(h:ab P f c)(k:ab P f d):ab P f (oB g c d):=by
 refine ⟨h.1,fun β args vals m w K hc=>?_⟩;have key:c args m K∨d args m K:=by
  revert hc
  unfold oB;split
  ·split
   ·split
    ·split
     ·exact .inl
     ·exact .inr
    ·exact fun hc=>(Classical.em _).elim (fun e=> .inl (hc.1 e)) (fun e=> .inr (hc.2 e))
   ·exact False.elim
  ·exact False.elim
 exact key.elim (h.2 β args vals m w K) (k.2 β args vals m w K)
def fMe(us:List SV)(m:Mem):Option Lf:=match us with
 |u::_=>match u with
  | .v q=>match q with
   | .one l=>match l with
    | .ptr y _=>match bP m y with
     |some (.cells ls _)=>match ls with
      | .ptr z _::_=>match bP m z with
       |some (.cells ls' _)=>ls'[3]?
       |_=>none
      |_=>none
     |_=>none
    |_=>none
   |_=>none
  |_=>none
 |_=>none
def Ik(i j:Nat)(us:List SV)(m:Mem):Option Lf:=match us[i]? with
 |some u=>match u with
  | .v q=>match q with
   | .one l=>some l
   | .agg ls=>ls[j]?
  |_=>none
 |none=>none
def a7O(us:List SV)(m:Mem):Option Lf:=match Ik 1 0 us m with
 |some l=>match l with
  | .int k kn n=>some (.int k kn (n-1))
  |_=>none
 |none=>none
def RB(r:Sp.T dh)(l:List AM):Prop:=(dZ r.1 r.2.1 r.2.2.1∧r.1.length=64)∧rQ r.1 r.2.1 r.2.2.1=l.map (fun a=>(yE a,()))∧ ∀a∈l,ia a
def fZ(b:Sp.T aM)(B:PB):Prop:=au 0 b.1 B.x∧au 1 b.2.2.2.1 B.y∧((b.2.1.length:Int)≤B.x.mn∧(b.2.2.2.2.1.length:Int)≤B.y.mn)∧RB b.2.2.2.2.2.2.1.1 B.fx∧RB b.2.2.2.2.2.2.1.2.1 B.fy∧b.2.2.2.2.2.2.2.1=B.mv∧B.oN
def zp(a b:Sp.T bV)(P:Prop):Prop:=(True∧True∧a.2.2.1=b.2.2.1)∧(((false=false∧(0:Nat)=(0:Nat)∧(0:Nat)=(0:Nat)∧(List.length a.1.1)=(List.length b.1.1)∧(List.length a.1.1)=(List.length b.1.1))∧True)∧a.1.2.1=b.1.2.1∧a.1.2.2.1=b.1.2.2.1)∧(false=false∧(0:Nat)=(0:Nat)∧(List.length a.1.1)=(List.length b.1.1)∧List.take ((List.length b.1.1)) a.1.1=b.1.1)∧(((false=false∧(0:Nat)=(0:Nat)∧(0:Nat)=(0:Nat)∧(List.length a.2.1.1)=(List.length b.2.1.1)∧(List.length a.2.1.1)=(List.length b.2.1.1))∧True)∧a.2.1.2.1=b.2.1.2.1∧a.2.1.2.2.1=b.2.1.2.2.1)∧(false=false∧(0:Nat)=(0:Nat)∧(List.length a.2.1.1)=(List.length b.2.1.1)∧List.take ((List.length b.2.1.1)) a.2.1.1=b.2.1.1)∧P
def oC(a:Sp.T bV):Prop:=(((List.length a.1.1)=(List.length a.1.1)∧(List.length a.1.1)=(List.length a.1.1)∧(List.length a.1.1)=(List.length a.1.1))∧(List.length a.2.1.1)=(List.length a.2.1.1)∧(List.length a.2.1.1)=(List.length a.2.1.1)∧(List.length a.2.1.1)=(List.length a.2.1.1))
noncomputable def Te:MC:=oB fMe Bh AN
theorem TA:ab Tryz.prog 15 Te:=cA JS ID
noncomputable def OH:=P7.add 15 TA
noncomputable def W8:MC:=oB fMe Ai BM
theorem Vq:ab Tryz.prog 16 W8:=cA Ju Is
noncomputable def Ph:=OH.add 16 Vq
noncomputable def XO:MC:=oB (Ik 0 3) JK Jm
theorem MX:ab Tryz.prog 14 XO:=cA RS JB
noncomputable def IS:=Ph.add 14 MX
theorem Yj {a:AM}(h:ia a):yE a≠ []∧(yE a).length≤256:=by
 obtain ⟨k8,r,e,-,hr⟩:=Xr (show wQ a.1 a.2.1 a.2.2.1 a.2.2.2.1 a.2.2.2.2.1 a.2.2.2.2.2.1 a.2.2.2.2.2.2 from h);have e2:yE a=dL (80::k8::r):=(pk ..).trans (congrArg dL e);rw [e2];unfold dL;exact ⟨fun k=>by simp at k,by rw [List.length_append,jv,List.length_cons,List.length_cons];omega⟩
theorem ZX {l:List AM} {sd:List (Row [.str])}(h:sd=l.map (fun x=>(yE x,())))(hl: ∀x∈l,ia x) {k:Nat}(hk:k<sd.length):((al sd k).1≠ []∧(al sd k).1.length≤256)∧sd.take (k+1)=sd.take k++ [((al sd k).1,())]:=by
 have h1:=gP hk;refine ⟨?_,by rw [List.take_add_one,h1];rfl⟩
 rw [h,List.getElem?_map,Option.map_eq_some_iff] at h1;obtain ⟨a,h2,h3⟩:=h1;rw [h,←h3];exact Yj (hl a (List.mem_of_getElem? h2))
theorem PA.Nh(a:PA):a.mn≤a.tick.1.mn:=by
 have h1:a.mn≤a.eY.mn:=by
  unfold PA.eY;split
  ·show a.mn≤a.mn+1;omega
  ·exact Int.le_refl _
 have h2:a.eY.set.mn=a.eY.mn:=by
  unfold PA.set;split
  ·split<;>rfl
  ·rfl
 unfold PA.tick;split
 ·exact Int.le_refl _
 ·show a.mn≤a.eY.set.mn;rw [h2];exact h1
def btI(w:Int)(p0:Sp.T an)(c0:Sp.T bV)(s:Nat×Sp.T an×List (Row [.str])×Bool×Nat×Sp.T bV):Prop:=s.1≤s.2.2.1.length∧(∀a,au w p0 a→a.aE→au w s.2.1 a.tick.1∧s.2.2.1=List.map (fun x=>(yE x,())) a.tick.2∧ ∀x∈a.tick.2,ia x)∧(s.2.2.2.1=true→s.2.2.2.2.1=0)∧
 (if w=0 then s.2.2.2.2.2.1=c0.1∧(dZ s.2.2.2.2.2.2.1.1 s.2.2.2.2.2.2.1.2.1 s.2.2.2.2.2.2.1.2.2.1∧s.2.2.2.2.2.2.1.1.length=64)∧rQ s.2.2.2.2.2.2.1.1 s.2.2.2.2.2.2.1.2.1 s.2.2.2.2.2.2.1.2.2.1=rQ c0.2.1.1 c0.2.1.2.1 c0.2.1.2.2.1++s.2.2.1.take s.1
  else s.2.2.2.2.2.2.1=c0.2.1∧(dZ s.2.2.2.2.2.1.1 s.2.2.2.2.2.1.2.1 s.2.2.2.2.2.1.2.2.1∧s.2.2.2.2.2.1.1.length=64)∧rQ s.2.2.2.2.2.1.1 s.2.2.2.2.2.1.2.1 s.2.2.2.2.2.1.2.2.1=rQ c0.1.1 c0.1.2.1 c0.1.2.2.1++s.2.2.1.take s.1)
def Bb(x:Sp.Ts [bV])(y:aZ [(false,[.cl (.int .i64 (0))]),(false,[.str])]):Prop:=(y.2.1.1≠ []∧List.length y.2.1.1≤256)∧(dZ x.1.1.1 x.1.1.2.1 x.1.1.2.2.1∧List.length x.1.1.1=64)∧x.1.1.2.2.1<64
def kV(x:Sp.Ts [bV])(y:aZ [(false,[.cl (.int .i64 (0))]),(false,[.str])])(x':Sp.Ts [bV])(z:aZ [(false,[.cl (.bool true)]),(false,[.cl (.int .i64 (0))])]):Prop:=(dZ x'.1.1.1 x'.1.1.2.1 x'.1.1.2.2.1∧List.length x'.1.1.1=64)∧rQ x'.1.1.1 x'.1.1.2.1 x'.1.1.2.2.1=rQ x.1.1.1 x.1.1.2.1 x.1.1.2.2.1++ [(y.2.1.1,())]∧x'.1.2.1=x.1.2.1
noncomputable def Iw:MC:=qC [true,false,false] [bV] [(false,[.cl (.int .i64 (0))]),(false,[.str])] [(false,[.cl (.bool true)]),(false,[.cl (.int .i64 (0))])] Bb kV
abbrev Vp:Type:=Sp.Hs [dh]
abbrev Dk:Type:=Sp.Ts [dh]
abbrev uA:Type:=Sp.Ts [bV]
def Qff(a:dh.T):Nat:=List.length a.1
def KE(a:uA):Nat:=Qff a.1.1
def Hm:Sp.Ts (false,[Sp.cl (Lc.int IntKind.i64 (0:Int))]).snd×aZ []:=(Wa,())
def Mn:Sp.Ts (false,[Sp.cl (Lc.bool true)]).snd×aZ [(false,[Sp.cl (Lc.int IntKind.i64 (0:Int))])]:=(((),()),Hm)
def K4(a:uA):Nat:=Qff a.1.2.1
def Qfe(a:Dk)(b:uA):Prop:=Q23 (QF (Qff a.1) (Qff a.1)) (K4 b=K4 b) (K4 b) (K4 b) (K4 b=K4 b)
def N8(a:Sp.Ts (false,[Sp.str]).snd):kJ:=((a.1,()),())
def yf(a:Ie)(b:uA)(c:Prop)(d:Nat)(e f:Prop):Prop:=QK (a.1.1==([]:List UInt8)) (oC b.1) (uL∧CW) c (QK (decide ((256:Int)<(↑(Q7j a.1):Int))) (oC b.1) (Vl uL (5:Int)) c (Qs (QF d d) e f))
theorem J1:ab Tryz.prog 53 Iw:=by
 refine ah (cx Mx [101] az IS) Tryz.func53 (by kernel_rfl) (by kernel_rfl) fun (x:Sp.Ts [bV]) h (y:aZ [(false,[.cl (.int .i64 (0))]),(false,[.str])]) k hf hg hp=>⟨bK,400,af (q:=yf y.2 x (kV x y (x.1,()) Mn) (KE x) (vL (x.1.1,()) (N8 y.2.1)) (∀ (va:Dk) (vb:Vp) (vc:mF) (vd:fU),Q3j mQ (oc (x.1.1,()) (N8 y.2.1) va vc) (K7 (Q3E vc) (DJ x.1.2.2.1) (Qfe va x) (gk uL) (kV x y ((va.1,x.1.2.1,RP x.1.2.2.1,()),()) Mn) (Q7 (Qfe va x) (gk Q44) (kV x y ((va.1,x.1.2.1,x.1.2.2.1,()),()) Mn))))) (by kernel_rfl) ?_⟩
 delta Q7 oO lG Qn Qs Q3 ya Qr mV Qff Q4 mQ JY Q0 Q23 uI QF QK dD Q3j K7 RP K4 KE gk kS Wa CW DJ uL Vl Hm Q7j Q44 Q3E Mn Qfe N8 yf oC;obtain ⟨⟨h1,h2⟩,⟨h3,h4⟩,h5⟩:=hp;simp only [cl];refine ⟨fun e=>absurd e h1,fun _=>⟨fun e=>absurd (Int.ofNat_le.2 h2) (Int.not_le.2 e),fun _=>⟨h3,fun x' z hx=>?_⟩⟩⟩;have hn:x.1.1.2.2.1≠(List.length x.1.1.1:Int):=by rw [h4];exact Int.ne_of_lt h5
 obtain ⟨p1,p2,-,p4⟩:=hx;obtain ⟨⟨q,rfl,p5⟩,p6⟩:=p4 hn;exact ⟨fun e=>absurd p6 e,fun _=>⟨⟨p1,p2.trans h4⟩,p5,rfl⟩⟩
noncomputable def ET:=IS.add 53 J1
def BZ(x:Sp.Ts [bV])(y:aZ [(false,[.cl (.int .i64 (1))]),(false,[.str])]):Prop:=(y.2.1.1≠ []∧List.length y.2.1.1≤256)∧(dZ x.1.2.1.1 x.1.2.1.2.1 x.1.2.1.2.2.1∧List.length x.1.2.1.1=64)∧x.1.2.1.2.2.1<64
def kY(x:Sp.Ts [bV])(y:aZ [(false,[.cl (.int .i64 (1))]),(false,[.str])])(x':Sp.Ts [bV])(z:aZ [(false,[.cl (.bool true)]),(false,[.cl (.int .i64 (0))])]):Prop:=(dZ x'.1.2.1.1 x'.1.2.1.2.1 x'.1.2.1.2.2.1∧List.length x'.1.2.1.1=64)∧rQ x'.1.2.1.1 x'.1.2.1.2.1 x'.1.2.1.2.2.1=rQ x.1.2.1.1 x.1.2.1.2.1 x.1.2.1.2.2.1++ [(y.2.1.1,())]∧x'.1.1=x.1.1
noncomputable def HD:MC:=qC [true,false,false] [bV] [(false,[.cl (.int .i64 (1))]),(false,[.str])] [(false,[.cl (.bool true)]),(false,[.cl (.int .i64 (0))])] BZ kY
def Qfi(a:uA)(b:Dk):Prop:=Q23 (QF (KE a) (KE a)) (Qff b.1=Qff b.1) (Qff b.1) (Qff b.1) (Qff b.1=Qff b.1)
theorem J8:ab Tryz.prog 53 HD:=by
 refine ah (cx Mx [101] az ET) Tryz.func53 (by kernel_rfl) (by kernel_rfl) fun (x:Sp.Ts [bV]) h (y:aZ [(false,[.cl (.int .i64 (1))]),(false,[.str])]) k hf hg hp=>⟨bK,400,af (q:=yf y.2 x (kY x y (x.1,()) Mn) (K4 x) (vL (x.1.2.1,()) (N8 y.2.1)) (∀ (va:Dk) (vb:Vp) (vc:mF) (vd:fU),Q3j mQ (oc (x.1.2.1,()) (N8 y.2.1) va vc) (K7 (Q3E vc) (DJ x.1.2.2.1) (Qfi x va) (gk uL) (kY x y ((x.1.1,va.1,RP x.1.2.2.1,()),()) Mn) (Q7 (Qfi x va) (gk Q44) (kY x y ((x.1.1,va.1,x.1.2.2.1,()),()) Mn))))) (by kernel_rfl) ?_⟩
 delta Q7 oO lG Qn Qs Q3 ya Qr mV Qff Q4 mQ JY Q0 Q23 uI QF QK dD Q3j K7 RP K4 KE gk kS Wa CW DJ uL Vl Hm Q7j Q44 Q3E Mn N8 Qfi yf oC;obtain ⟨⟨h1,h2⟩,⟨h3,h4⟩,h5⟩:=hp;simp only [cl];refine ⟨fun e=>absurd e h1,fun _=>⟨fun e=>absurd (Int.ofNat_le.2 h2) (Int.not_le.2 e),fun _=>⟨h3,fun x' z hx=>?_⟩⟩⟩;have hn:x.1.2.1.2.2.1≠(List.length x.1.2.1.1:Int):=by rw [h4];exact Int.ne_of_lt h5
 obtain ⟨p1,p2,-,p4⟩:=hx;obtain ⟨⟨q,rfl,p5⟩,p6⟩:=p4 hn;exact ⟨fun e=>absurd p6 e,fun _=>⟨⟨p1,p2.trans h4⟩,p5,rfl⟩⟩
noncomputable def Ev:=ET.add 53 J8
def rU(x:Sp.Ts [bV])(y:aZ [(false,[.cl (.int .i64 (0))]),(false,[.cl (.int .i64 (0))])]):Prop:=(dZ x.1.1.1 x.1.1.2.1 x.1.1.2.2.1∧List.length x.1.1.1=64)∧0<x.1.1.2.2.1
def lq(x:Sp.Ts [bV])(y:aZ [(false,[.cl (.int .i64 (0))]),(false,[.cl (.int .i64 (0))])])(x':Sp.Ts [bV])(z:aZ [(false,[.str]),(false,[.cl (.bool true)])]):Prop:=(dZ x'.1.1.1 x'.1.1.2.1 x'.1.1.2.2.1∧List.length x'.1.1.1=64)∧rQ x.1.1.1 x.1.1.2.1 x.1.1.2.2.1=(z.1.1,())::rQ x'.1.1.1 x'.1.1.2.1 x'.1.1.2.2.1∧x'.1.2.1=x.1.2.1
noncomputable def JM:MC:=qC [true,false,false] [bV] [(false,[.cl (.int .i64 (0))]),(false,[.cl (.int .i64 (0))])] [(false,[.str]),(false,[.cl (.bool true)])] rU lq
abbrev Dq:Type:=eZ [(false,[Sp.str]),(false,[Sp.cl (Lc.bool true)])]
abbrev Ds:Type:=aZ [(false,[Sp.str]),(false,[Sp.cl (Lc.bool true)])]
theorem IP:ab Tryz.prog 104 JM:=by
 refine ah (cx Mx [101] az Ev) Tryz.func104 (by kernel_rfl) (by kernel_rfl) fun (x:Sp.Ts [bV]) h (y:aZ [(false,[.cl (.int .i64 (0))]),(false,[.cl (.int .i64 (0))])]) k hf hg hp=>⟨bK,400,af (q:=Qbc (QF (KE x) (KE x)) (wm (x.1.1,()) mB) (∀ (va:Dk) (vb:Vp) (vc:Ds) (vd:Dq),Qa2 mQ (jN (x.1.1,()) mB va vc) (Q7 (Qfe va x) Q44 (lq x y ((va.1,x.1.2.1,x.1.2.2.1,()),()) ((vc.1.1,()),((),()),()))))) (by kernel_rfl) ?_⟩
 delta Q7 oO lG Qn cR Qs ya Qr mV Qk Qff mQ JY Q23 uI mB QF Q9l Qa2 Qbc K4 KE kS Q44 Qfe;obtain ⟨⟨h1,h2⟩,h3⟩:=hp;simp only [cl];refine ⟨⟨h1,h3⟩,fun x' z hx=>?_⟩;obtain ⟨p1,p2,p3⟩:=hx;exact ⟨⟨p1,p2.trans h2⟩,p3,rfl⟩
noncomputable def Et:=Ev.add 104 IP
def sU(x:Sp.Ts [bV])(y:aZ [(false,[.cl (.int .i64 (1))]),(false,[.cl (.int .i64 (0))])]):Prop:=(dZ x.1.2.1.1 x.1.2.1.2.1 x.1.2.1.2.2.1∧List.length x.1.2.1.1=64)∧0<x.1.2.1.2.2.1
def lg(x:Sp.Ts [bV])(y:aZ [(false,[.cl (.int .i64 (1))]),(false,[.cl (.int .i64 (0))])])(x':Sp.Ts [bV])(z:aZ [(false,[.str]),(false,[.cl (.bool true)])]):Prop:=(dZ x'.1.2.1.1 x'.1.2.1.2.1 x'.1.2.1.2.2.1∧List.length x'.1.2.1.1=64)∧rQ x.1.2.1.1 x.1.2.1.2.1 x.1.2.1.2.2.1=(z.1.1,())::rQ x'.1.2.1.1 x'.1.2.1.2.1 x'.1.2.1.2.2.1∧x'.1.1=x.1.1
noncomputable def I1:MC:=qC [true,false,false] [bV] [(false,[.cl (.int .i64 (1))]),(false,[.cl (.int .i64 (0))])] [(false,[.str]),(false,[.cl (.bool true)])] sU lg
theorem JG:ab Tryz.prog 104 I1:=by
 refine ah (cx Mx [101] az Et) Tryz.func104 (by kernel_rfl) (by kernel_rfl) fun (x:Sp.Ts [bV]) h (y:aZ [(false,[.cl (.int .i64 (1))]),(false,[.cl (.int .i64 (0))])]) k hf hg hp=>⟨bK,400,af (q:=Qbc (QF (K4 x) (K4 x)) (wm (x.1.2.1,()) mB) (∀ (va:Dk) (vb:Vp) (vc:Ds) (vd:Dq),Qa2 mQ (jN (x.1.2.1,()) mB va vc) (Q7 (Qfi x va) Q44 (lg x y ((x.1.1,va.1,x.1.2.2.1,()),()) ((vc.1.1,()),((),()),()))))) (by kernel_rfl) ?_⟩
 delta Q7 oO lG Qn cR Qs ya Qr mV Qk Qff mQ JY Q23 uI mB QF Q9l Qa2 Qbc K4 KE kS Q44 Qfi;obtain ⟨⟨h1,h2⟩,h3⟩:=hp;simp only [cl];refine ⟨⟨h1,h3⟩,fun x' z hx=>?_⟩;obtain ⟨p1,p2,p3⟩:=hx;exact ⟨⟨p1,p2.trans h2⟩,p3,rfl⟩
noncomputable def OF:=Et.add 104 JG
noncomputable def SD:MC:=oB (Ik 1 0) Iw HD
theorem SL:ab Tryz.prog 53 SD:=cA J1 J8
noncomputable def PX:=OF.add 53 SL
noncomputable def Td:MC:=oB (Ik 1 0) JM I1
theorem VL:ab Tryz.prog 104 Td:=cA IP JG
noncomputable def F3:=PX.add 104 VL
def GB(x:Sp.Ts [aM])(y:aZ [(false,[.cl (.int .i64 (0))]),(false,[.cl (.int .u8 (0))])]):Prop:= ∃B,fZ x.1 B∧B.aE 0
def pF(x:Sp.Ts [aM])(y:aZ [(false,[.cl (.int .i64 (0))]),(false,[.cl (.int .u8 (0))])])(x':Sp.Ts [aM])(z:aZ [(true,[.cl .aj,.sl [.str] 9,.bool]),(false,[.cl (.int .i64 (0))])]):Prop:= ∀B,fZ x.1 B→B.aE 0→fZ x'.1 {B.tick 0 with mv:=B.mv}
noncomputable def a0Q:MC:=qC [true,false,false] [aM] [(false,[.cl (.int .i64 (0))]),(false,[.cl (.int .u8 (0))])] [(true,[.cl .aj,.sl [.str] 9,.bool]),(false,[.cl (.int .i64 (0))])] GB pF
abbrev Eo:Type:=Nat×an.T×List (Row [Kd.str])×Bool×Nat×bV.T×Bool×List (Row [Kd.int IntKind.u8])×Bool×Nat
abbrev SW:Type:=eZ [(false,[Sp.cl (Lc.bool true)]),(false,[Sp.cl (Lc.int IntKind.i64 (0:Int))])]
abbrev To:Type:=aZ [(false,[Sp.cl (Lc.bool true)]),(false,[Sp.cl (Lc.int IntKind.i64 (0:Int))])]
abbrev Dh:Type:=Sp.Hs [bV]
abbrev qY:Type:=eZ [(true,[Sp.cl Lc.aj,Sp.sl [Kd.str] (9:TypeId),Sp.bool]),(false,[Sp.cl (Lc.int IntKind.i64 (0:Int))])]
abbrev nQ:Type:=aZ [(true,[Sp.cl Lc.aj,Sp.sl [Kd.str] (9:TypeId),Sp.bool]),(false,[Sp.cl (Lc.int IntKind.i64 (0:Int))])]
abbrev lM:Type:=Sp.Ts [aM]
abbrev jW:Type:=Sp.Hs [aM]
abbrev dJ:Type:=Nat×an.T×List (Row [Kd.str])×Bool×Nat×bV.T×Bool×List (Row [Kd.int IntKind.u8])×Bool×Nat
abbrev JA:Type:=(Sp.sl [Kd.int IntKind.u8] (5:TypeId)).T
def Qfv(a:lM):bV.T:=a.1.2.2.2.2.2.2.1
def WX(a:jW):(Sp.sl [Kd.int IntKind.u8] (5:TypeId)).H:=a.1.2.2.2.2.1
def rE(a:dJ):Bool×List (Row [Kd.int IntKind.u8])×Bool×Nat:=a.2.2.2.2.2.2
def QfM(a:lM):JA:=a.1.2.2.2.2.1
def QfX(a:JA)(b:Bool)(c:Nat):Prop:=kF (List.length a) (List.length a) b b c c
def QfT(a:lM)(b:jW):Prop:=QfX (QfM a) (WX b).1 (WX b).2
def RL(a:dJ):bV.T:=a.2.2.2.2.2.1
def Qfp(a:dJ):Nat:=a.2.2.1.length
def Qfy(a:dJ):kG:=(rE a).2.1
def Yu(a:lM):gJ:=a.1.2.2.2.1
def xi(a b:Bool)(c d:JA)(e f:Nat):Prop:=iZ a b (List.length c) (List.length d) e f
def Qfq(a:dJ):Bool:=(rE a).2.2.1
def Qfs(a:dJ):Nat:=(rE a).2.2.2
def VB(a:nQ)(b:qY)(c d:Prop):Prop:=Q9l CE (Q5d True (List.length a.1.2.1≤b.1.2.1.2) (gC b.1.2.1.1 b.1.2.1.2) True True) c d
def Qfj(a:gJ):kB:=a.1.2.2.2.2.1
def Qfr(a:dJ):Nat:=(Qfy a).length
def Qfo(a:nQ):Nat:=List.length a.1.2.1
def QfN(a b c d:gJ)(e:Prop):Prop:=nv a b (od c d e)
def QfY(a:dJ):Nat:=a.2.2.2.2.1
def GP(a:qY)(b:dJ)(c:nQ):Prop:=iZ a.1.2.1.1 b.2.2.2.1 (Qfo c) (Qfp b) a.1.2.1.2 (QfY b)
def DC(a b:dJ):Prop:=iZ a.2.2.2.1 b.2.2.2.1 (Qfp a) (Qfp b) (QfY a) (QfY b)
def Wu(a:dJ):Prop:=gC (Qfq a) (Qfs a)
def QfZ(a:dJ)(b:JA)(c:Prop):Prop:=Qa (Qfy a)≤(↑(List.length b):Int)∨Qa (Qfy a)≤Q2C (List.length b)∧c
def Rw(a:dJ)(b:lM):Prop:=QfZ a b.1.2.1 ((Qfj b.1.1).2.2.1<(Qfj a.2.1).2.2.1)
def Qg0(a:lM):nM:=a.1.2.2.2.2.2.2.2.1
def TB(a b c:Prop)(d:lM)(e:Prop):Prop:=Q7 a (Q14 b True (Yy c (Qg0 d=Qg0 d))) e
def LB(a b:Prop)(c:dJ)(d e f g:Prop):Prop:=kQ (Q7 a b (Wu c)) (lV c.1 (Qfp c)) (ny c.1 (Qfp c)) d (Q7 e (gk f) g)
def Qfu(a:bV.T)(b:dJ)(c d e f:Prop):Prop:=zp a (RL b) (Q6 (Q7J QJ) c (Q10 d e) f True)
def QfP(a:uA)(b:dJ)(c d:Prop)(e:dJ):Prop:=Qfu a.1 b c d ((rE e).1=(rE b).1) (yI (Qfq e) (Qfq b) (Qfs e) (Qfs b) (Qfr b) (Qfy e) (Qfy b))
def n5(a b:Prop):Prop:=Qa2 (Qn mQ mQ True True) a b
def oK(a:lM)(b:dJ):Prop:=btI (0:Int) a.1.1 (Qfv a) (b.1,b.2.1,b.2.2.1,b.2.2.2.1,QfY b,RL b)
def Pm(a:lM)(b:bV.T):(Sp.sl [Kd.int IntKind.u8] (5:TypeId)).T×Sp.Ts [Sp.cl Lc.aj,bV,Sp.int IntKind.i64]:=(QfM a,(),b,Qg0 a,())
def Qfm(a b:Prop)(c:jW)(d:lM)(e f:gJ)(g:Prop):Prop:=TB (Yy lG a) b (xi (WX c).1 (WX c).1 (QfM d) (QfM d) (WX c).2 (WX c).2) d (QfN e f (Yu d) (Yu d) g)
def QfG(a:dJ):Sp.Ts (false,[Sp.str]).snd×aZ []:=(((al a.2.2.1 (sY a.1)).1,()),())
def V3(a b:dJ):Prop:=iZ (Qfq a) (Qfq b) (Qfr a) (Qfr b) (Qfs a) (Qfs b)
def xY(a b:Bool)(c d:Nat)(e f:JA):Prop:=oE a b c d (List.take (List.length e) f=e)
def Qft(a:jW)(b:lM)(c:Prop):Prop:=xY (WX a).1 (WX a).1 (WX a).2 (WX a).2 (QfM b) (QfM b)∧c
def Qfw(a:qY)(b:dJ)(c:nQ):Prop:=oE a.1.2.1.1 b.2.2.2.1 a.1.2.1.2 (QfY b) (List.take (Qfp b) c.1.2.1=b.2.2.1)
def Wm(a:dJ):Nat:=Qff (RL a).2.1
def X4(a:dJ):Nat:=Qff (RL a).1
def QfS(a:Prop)(b:dJ):Prop:=yC a (X4 b) (Wm b)
def QfR(a:dJ):Prop:=kF (Qfr a) (Qfr a) (Qfq a) (Qfq a) (Qfs a) (Qfs a)
def QfQ(a b:dJ):Prop:=oE a.2.2.2.1 b.2.2.2.1 (QfY a) (QfY b) (List.take (Qfp b) a.2.2.1=b.2.2.1)
def QfU(a:dJ):Prop:=kF (Qfp a) (Qfp a) a.2.2.2.1 a.2.2.2.1 (QfY a) (QfY a)
def QfW(a:dJ):Sp.Ts (true,[Sp.cl Lc.aj,Sp.sl [Kd.str] (9:TypeId),Sp.bool]).snd×aZ [(false,[Sp.cl (Lc.int IntKind.i64 (0:Int))])]:=(((),a.2.2.1,(rE a).1,()),Hm)
def Qfl(a:lM):Nat:=List.length a.1.2.1
def yQ(a:dJ)(b:Prop):Prop:=Q2B (F7 a.1 (Qfp a)) (oC (RL a)) (1:Int) (1:Int) (BZ (RL a,()) (((),()),QfG a)) b
theorem a0F:ab Tryz.prog 26 a0Q:=by
 refine ah (cx Mx [23,52,99,28] az F3) Tryz.func26 (by kernel_rfl) (by kernel_rfl) fun (x:Sp.Ts [aM]) h (y:aZ [(false,[.cl (.int .i64 (0))]),(false,[.cl (.int .u8 (0))])]) k hf hg hp=>⟨(fun bk=>match bk with|0=>some {S:=Nat×Sp.T an×List (Row [.str])×Bool×Nat×Sp.T bV×Bool×List (Row [.int .u8])×Bool×Nat,st:=fun s=>⟨jk [(0,.v (.one (.ptr 0 0))),(0,.v (.one (.int .i64 true 0))),(4,.v (.one (.ptr 62 0))),(1,.v (.one (.ptr 0 0))),(1,.v (.one (.ptr 64 0))),(46,.v (.one (.rs s.2.2.2.1 0 63 0 1 0 (List.length s.2.2.1) s.2.2.2.2.1))),(0,.v (.one (.int .i64 false ((List.length s.2.2.1:Int))))),(0,.v (.one (.int .i64 false ((s.1:Int)))))] 76,(some (.cells [.ptr 1 0,.rs s.2.2.2.2.2.2.2.2.1 0 66 0 1 0 (List.length s.2.2.2.2.2.2.2.1) s.2.2.2.2.2.2.2.2.2,.aj,.ptr 29 0,.rs h.1.2.2.2.2.1.1 0 56 0 1 0 (List.length x.1.2.2.2.2.1) h.1.2.2.2.2.1.2,.aj,.ptr 57 0,.int .i64 false x.1.2.2.2.2.2.2.2.1] 74)::List.set (List.tail (aW false [aM] ((s.2.1,x.1.2.1,x.1.2.2.1,x.1.2.2.2.1,x.1.2.2.2.2.1,x.1.2.2.2.2.2.1,s.2.2.2.2.2.1,x.1.2.2.2.2.2.2.2.1,()),()) h 0 0)) 27 none)++ [some (.cells [.aj,.aj,.bool true false] 37),some (.rows false s.2.2.2.1 [.str] s.2.2.1 0 s.2.2.2.2.1 9),some (.cells [.aj,.rs s.2.2.2.1 0 63 0 1 0 (List.length s.2.2.1) s.2.2.2.2.1,.bool false s.2.2.2.2.2.2.1] 37),none,some (.rows false s.2.2.2.2.2.2.2.2.1 [.int .u8] s.2.2.2.2.2.2.2.1 0 s.2.2.2.2.2.2.2.2.2 5)]⟩,ok:=fun s=>btI 0 x.1.1 x.1.2.2.2.2.2.2.1 (s.1,s.2.1,s.2.2.1,s.2.2.2.1,s.2.2.2.2.1,s.2.2.2.2.2.1)∧((List.length s.2.2.2.2.2.2.2.1:Int)≤List.length x.1.2.1∨(List.length s.2.2.2.2.2.2.2.1:Int)≤List.length x.1.2.1+1∧x.1.1.1.2.2.2.2.1.2.2.1<s.2.1.1.2.2.2.2.1.2.2.1)∧(s.2.2.2.2.2.2.2.2.1=true→s.2.2.2.2.2.2.2.2.2=0),mu:=fun s=>(List.length s.2.2.1-s.1),init:=(0,((0,0,0,(),((0,[],()),(0,[],()),0,(),()),((0,[],()),(0,[],()),0,(),()),(0,[],()),0,()),(0,0,0,(),0,0,([],0,0,()),0,0,([],0,0,()),0,0,0,()),(0,0,([],0),0,false,()),(0,(),(),()),((),()),((),(),(),(),()),([],0),([],0),0,false,0,(),()),[],false,0,(([],0,0,()),([],0,0,()),0,()),false,[],false,0),ex:=true}|_=>none),1000,af (q:=QbG (ya (Qbo (Qfj x.1.1))) (aX x.1.1) (zM (x.1.1,()) mB) (∀ (va:Jb) (vb:B6) (vc:nQ) (vd:qY),VB vc vd (kM (x.1.1,()) mB va vc) (QT (ya (Qbo (Qfj va.1))) (decide ((Qfj x.1.1).2.2.1<(Qfj va.1).2.2.1)) (Q7A (Qfl x) (Qfl x) h.1.2.1.2 (h.1.2.1.1=h.1.2.1.1) h.1.2.1.1 (WV (Qfl x) (1:Nat)) (∀ (ve:Nat),x9 (Qfl x) ve h.1.2.1.2 ((∃ (vf:Eo),Qn (Qfm (Yw (GP vd vf vc) (Qfo vc) (Qfp vf) (RU vf.1)) (iZ (Nc h.1.2.1.1) (Qfq vf) (rB (Qfl x)) (Qfr vf) ve (Qfs vf)) h x va.1 vf.2.1 (Qft h x (Qfu (Qfv x) vf (Qfw vd vf vc) (GP vd vf vc) (vc.1.2.2.1=(rE vf).1) (yI (Nc h.1.2.1.1) (Qfq vf) ve (Qfs vf) (Qfr vf) (List.append x.1.2.1 (Q4V ((0:Int),()))) (Qfy vf))))) (oK x vf) (Rw vf x) (Wu vf))∧(∀ (vf:Eo),LB (oK x vf) (Rw vf x) vf (yQ vf (∀ (vg:uA) (vi:Dh) (vj:To) (vl:SW),n5 (kY (RL vf,()) (((),()),QfG vf) vg vj) (Na vf.1 (∃ (vm:Eo),E4 (TB (Q10 lG (Q2l (Qf (DC vf vm) (xG (Qfp vf) (Qfp vm)) (ya (ku vf.1 vm.1))))) (V3 vf vm) (xi (WX h).1 (WX h).1 (QfM x) (QfM x) (WX h).2 (WX h).2) x (QfN vf.2.1 vm.2.1 (Yu x) (Yu x) (Qft h x (QfP vg vm (QfQ vf vm) (DC vf vm) vf)))) (oK x vm) (Rw vm x) (Wu vm) (Qfp vm) vm.1 (Qfp vf) vf.1)))) (Qn (aX vf.2.1) (QfR vf) (b7 (Yu x)) (QfS (QfT x h) vf)) (QfU vf) (pF x y ((vf.2.1,Qfy vf,(),Yu x,Pm x (RL vf)),()) (QfW vf)))))) ((∃ (ve:Eo),Qn (Qfm (Yw (GP vd ve vc) (Qfo vc) (Qfp ve) (RU ve.1)) (iZ h.1.2.1.1 (Qfq ve) (List.length x.1.2.1) (Qfr ve) h.1.2.1.2 (Qfs ve)) h x va.1 ve.2.1 (Qft h x (Qfu (Qfv x) ve (Qfw vd ve vc) (GP vd ve vc) (vc.1.2.2.1=(rE ve).1) (oE h.1.2.1.1 (Qfq ve) h.1.2.1.2 (Qfs ve) (List.take (Qfr ve) x.1.2.1=Qfy ve))))) (oK x ve) (Rw ve x) (Wu ve))∧(∀ (ve:Eo),LB (oK x ve) (Rw ve x) ve (yQ ve (∀ (vf:uA) (vg:Dh) (vi:To) (vj:SW),n5 (kY (RL ve,()) (((),()),QfG ve) vf vi) (Na ve.1 (∃ (vl:Eo),E4 (Qfm (Yw (DC ve vl) (Qfp ve) (Qfp vl) (ku ve.1 vl.1)) (V3 ve vl) h x ve.2.1 vl.2.1 (Qft h x (QfP vf vl (QfQ ve vl) (DC ve vl) ve))) (oK x vl) (Rw vl x) (Wu vl) (Qfp vl) vl.1 (Qfp ve) ve.1)))) (Qn (aX ve.2.1) (QfR ve) (b7 (Yu x)) (QfS (QfT x h) ve)) (QfU ve) (pF x y ((ve.2.1,Qfy ve,(),Yu x,Pm x (RL ve)),()) (QfW ve))))))) (by kernel_rfl) ?_⟩
 delta Q7 Q6 oO lG QC Qn Yy Q6r QbG kA cR Qs Q3 ya Qr jh mV Qk mJ Qff Q4 Q5 mQ QJ cu Q6q JY Q0 Sa Qfv Q23 gC uI mB iZ Q2B Qc1 CE QH kF QF Qi QA sE WX sY yG QfX oE rE Q9l Ye Qt Q10 QfM QE Qa yC xG QfT Q5d Qo Q2d Q2l rB Qa2 RL Q2C Qfp Qfy Qbo MT Yw Q7A RH Q2a E4 QL ku gk Yu Qg0 xi Qfq Qfs QfY Q7J lV Nc Na x9 Wa VB GW WV Qfj xY Wm Q14 Qfr X4 RU yI Qf ny QT Qfo Q4V kQ F7 QfN GP QfZ DC Wu Rw TB Hm LB Qfu QfP n5 oK Pm Qfm QfG V3 Qft Qfw QfS QfR QfQ QfU QfW Qfl yQ zp nv od oC aX b7;obtain ⟨B,hB,hT⟩:=hp;obtain ⟨hx,hy,hi,hr0,hr1,hm,hs⟩:=hB;have hT':B.x.aE∧B.fy.length+B.x.tick.2.length≤64:=hT;obtain ⟨hTk,hTl⟩:=hT';simp only [cl];refine ⟨⟨B.x,hx,hTk⟩,fun x' h' z k' hl hz hx'=>?_⟩;have hx': ∀a,au 0 x.1.1 a→a.aE→au 0 x'.1 a.tick.1∧z.1.2.1=List.map (fun x=>(yE x,())) a.tick.2∧ ∀x∈a.tick.2,ia x:=hx';have hmn: ∀b,au 0 x.1.1 b→(x.1.2.1.length:Int)≤b.mn→(x.1.2.1.length:Int)≤1000000:=fun b hb hi=>Int.le_trans hi ((show cN x.1.1.1 0=b.mn from hb.2.2.2.2.2.1.2.1)▸((Lg hb.1.1).2 0).2);have hil:(x.1.2.1.length:Int)≤1000000:=hmn _ hx hi.1;refine ⟨fun h1=>⟨⟨hf.1.2.1.2,?_⟩,fun c' h2 h3=>⟨⟨(0,x'.1,z.1.2.1,k'.1.2.1.1,k'.1.2.1.2,x.1.2.2.2.2.2.2.1,z.1.2.2.1,x.1.2.1++ [(0,())],false,c'),?_⟩,fun s i1 i2 i3=>?_⟩⟩,fun h1=>⟨⟨(0,x'.1,z.1.2.1,k'.1.2.1.1,k'.1.2.1.2,x.1.2.2.2.2.2.2.1,z.1.2.2.1,x.1.2.1,h.1.2.1.1,h.1.2.1.2),?_⟩,fun s i1 i2 i3=>?_⟩⟩
 ·have:x.1.2.1.length≤1000000:=Int.ofNat_le.1 hil;omega
 ·refine ⟨by simp only [cl];all_goals simp;all_goals exact List.take_of_length_le (by simp),⟨Nat.zero_le _,hx',hz,by rw [if_pos rfl];exact ⟨rfl,hr1.1,by simp⟩⟩,.inr ⟨by dsimp only;rw [List.length_append];exact Int.le_refl _,h1⟩,fun e=>absurd (show false=true from e) (by decide)⟩
 rotate_left
 ·exact ⟨by simp only [cl];all_goals simp,⟨Nat.zero_le _,hx',hz,by rw [if_pos rfl];exact ⟨rfl,hr1.1,by simp⟩⟩,.inl (Int.le_refl _),hf.1.2.1.2⟩
 all_goals
  clear hl hz hx' h1;obtain ⟨j1,j2,j3,j4⟩:=i1;obtain ⟨j5,j6,j7⟩:=(show s.2.2.2.2.2.1.1=x.1.2.2.2.2.2.2.1.1∧(dZ s.2.2.2.2.2.1.2.1.1 s.2.2.2.2.2.1.2.1.2.1 s.2.2.2.2.2.1.2.1.2.2.1∧List.length s.2.2.2.2.2.1.2.1.1=64)∧rQ s.2.2.2.2.2.1.2.1.1 s.2.2.2.2.2.1.2.1.2.1 s.2.2.2.2.2.1.2.1.2.2.1=rQ x.1.2.2.2.2.2.2.1.2.1.1 x.1.2.2.2.2.2.2.1.2.1.2.1 x.1.2.2.2.2.2.2.1.2.1.2.2.1++List.take s.1 s.2.2.1 from j4);obtain ⟨j8,j9,j10⟩:=j2 B.x hx hTk;refine ⟨fun hk=>?_,fun hk=>?_⟩
  ·have hk:s.1<s.2.2.1.length:=Int.ofNat_lt.1 hk;obtain ⟨q1,q2⟩:=ZX j9 j10 hk;have hn:s.2.2.2.2.2.1.2.1.2.2.1<64:=by
    have e1:=jg j6.1;have e2:s.2.2.1.length=B.x.tick.2.length:=by rw [j9,List.length_map]
    have e3:(rQ x.1.2.2.2.2.2.2.1.2.1.1 x.1.2.2.2.2.2.2.1.2.1.2.1 x.1.2.2.2.2.2.2.1.2.1.2.2.1).length=B.fy.length:=by rw [hr1.2.1,List.length_map]
    have j7':=congrArg List.length j7;rw [List.length_append,List.length_take] at j7';have e4:(rQ s.2.2.2.2.2.1.2.1.1 s.2.2.2.2.2.1.2.1.2.1 s.2.2.2.2.2.1.2.1.2.2.1).length<64:=by rw [show (rQ s.2.2.2.2.2.1.2.1.1 s.2.2.2.2.2.1.2.1.2.1 s.2.2.2.2.2.1.2.1.2.2.1).length=_ from j7',e3];omega
    rw [e1];exact Int.ofNat_lt.2 e4
   refine ⟨⟨Int.natCast_nonneg _,Int.ofNat_lt.2 hk⟩,hk,⟨q1,j6,hn⟩,fun u v hu=>⟨?_,⟨(s.1+1,s.2.1,s.2.2.1,s.2.2.2.1,s.2.2.2.2.1,u.1,s.2.2.2.2.2.2.1,s.2.2.2.2.2.2.2.1,s.2.2.2.2.2.2.2.2.1,s.2.2.2.2.2.2.2.2.2),?_⟩⟩⟩
   ·have:s.2.2.1.length≤64:=by rw [j9,List.length_map];omega
    simp only [aL,aT,aU];omega
   ·obtain ⟨u1,u2,u3⟩:=hu;refine ⟨⟨by simp only [cl];all_goals simp,⟨hk,j2,j3,by rw [if_pos rfl];exact ⟨u3.trans j5,u1,by rw [show rQ u.1.2.1.1 u.1.2.1.2.1 u.1.2.1.2.2.1=_ from u2,j7,List.append_assoc];exact congrArg _ q2.symm⟩⟩,i2,i3⟩,by dsimp only;omega⟩
  ·have hk:s.1=s.2.2.1.length:=Nat.le_antisymm j1 (Nat.le_of_not_lt fun e=>hk (Int.ofNat_lt.2 e));refine ⟨⟨i3,hf.1.2.2.2.2.1.2⟩,j3,fun B2 hB2 hT2=>?_⟩;obtain ⟨k1,k2,k3,k4,k5,k6,k7⟩:=hB2;have hT2':B2.x.aE∧B2.fy.length+B2.x.tick.2.length≤64:=hT2;obtain ⟨m1,m2,m3⟩:=j2 B2.x k1 hT2'.1;have n1:cN s.2.1.1 0=B2.x.tick.1.mn:=m1.2.2.2.2.2.1.2.1;have n2:cN x.1.1.1 0=B2.x.mn:=k1.2.2.2.2.2.1.2.1;have n3:(x.1.2.1.length:Int)≤B2.x.mn:=k3.1;have n4:=PA.Nh B2.x;have hil2:(s.2.2.2.2.2.2.2.1.length:Int)≤B2.x.tick.1.mn:=by
    rcases i2 with i2|⟨i2,i4⟩
    ·exact Int.le_trans i2 (Int.le_trans n3 n4)
    ·have i4:cN x.1.1.1 0<cN s.2.1.1 0:=i4;rw [n1,n2] at i4;exact Int.le_trans i2 (Int.le_trans (Int.add_le_add_right n3 1) i4)
   have hrg:RB s.2.2.2.2.2.1.2.1 (B2.fy++B2.x.tick.2):=by
    refine ⟨j6,?_,fun a ha=>(List.mem_append.1 ha).elim (k5.2.2 a) (m3 a)⟩;rw [j7,hk,List.take_length,k5.2.1,m2,List.map_append]
   exact ⟨m1,k2,⟨hil2,k3.2⟩,by rw [show s.2.2.2.2.2.1.1=_ from j5];exact k4,hrg,k6,PB.rM k7 0⟩
noncomputable def T5:=F3.add 26 a0F
def Fb(x:Sp.Ts [aM])(y:aZ [(false,[.cl (.int .i64 (1))]),(false,[.cl (.int .u8 (0))])]):Prop:= ∃B,fZ x.1 B∧B.aE 1
def tT(x:Sp.Ts [aM])(y:aZ [(false,[.cl (.int .i64 (1))]),(false,[.cl (.int .u8 (0))])])(x':Sp.Ts [aM])(z:aZ [(true,[.cl .aj,.sl [.str] 9,.bool]),(false,[.cl (.int .i64 (0))])]):Prop:= ∀B,fZ x.1 B→B.aE 1→fZ x'.1 {B.tick 1 with mv:=B.mv}
noncomputable def a0n:MC:=qC [true,false,false] [aM] [(false,[.cl (.int .i64 (1))]),(false,[.cl (.int .u8 (0))])] [(true,[.cl .aj,.sl [.str] 9,.bool]),(false,[.cl (.int .i64 (0))])] Fb tT
def Qga(a:gJ)(b:lM)(c:jW)(d:gJ)(e:Prop):Prop:=Qn (aX a) (QfX b.1.2.1 c.1.2.1.1 c.1.2.1.2) (b7 d) e
def Za(a:gJ):kB:=a.1.2.2.2.2.2.1
def ZY(a:dJ)(b:lM):Prop:=QfZ a (QfM b) ((Za (Yu b)).2.2.1<(Za a.2.1).2.2.1)
def OC(a:Prop)(b:jW)(c:lM)(d e:Prop):Prop:=TB (Yy Q5e a) (xi b.1.2.1.1 b.1.2.1.1 c.1.2.1 c.1.2.1 b.1.2.1.2 b.1.2.1.2) d c (nv c.1.1 c.1.1 e)
def XG(a:lM)(b:dJ):Prop:=btI (1:Int) (Yu a) (Qfv a) (b.1,b.2.1,b.2.2.1,b.2.2.2.1,QfY b,RL b)
def Qg7(a:jW)(b:lM)(c:gJ)(d:dJ)(e:Prop):Prop:=xY a.1.2.1.1 a.1.2.1.1 a.1.2.1.2 a.1.2.1.2 b.1.2.1 b.1.2.1∧od c d.2.1 e
def uy(a:lM):Nat:=List.length (QfM a)
theorem a0m:ab Tryz.prog 26 a0n:=by
 refine ah (cx Mx [23,52,99,28] az T5) Tryz.func26 (by kernel_rfl) (by kernel_rfl) fun (x:Sp.Ts [aM]) h (y:aZ [(false,[.cl (.int .i64 (1))]),(false,[.cl (.int .u8 (0))])]) k hf hg hp=>⟨(fun bk=>match bk with|0=>some {S:=Nat×Sp.T aS×List (Row [.str])×Bool×Nat×Sp.T bV×Bool×List (Row [.int .u8])×Bool×Nat,st:=fun s=>⟨jk [(0,.v (.one (.ptr 0 0))),(0,.v (.one (.int .i64 true 1))),(4,.v (.one (.ptr 62 0))),(1,.v (.one (.ptr 0 3))),(1,.v (.one (.ptr 64 0))),(46,.v (.one (.rs s.2.2.2.1 0 63 0 1 0 (List.length s.2.2.1) s.2.2.2.2.1))),(0,.v (.one (.int .i64 false ((List.length s.2.2.1:Int))))),(0,.v (.one (.int .i64 false ((s.1:Int)))))] 76,(some (.cells [.ptr 1 0,.rs h.1.2.1.1 0 28 0 1 0 (List.length x.1.2.1) h.1.2.1.2,.aj,.ptr 29 0,.rs s.2.2.2.2.2.2.2.2.1 0 66 0 1 0 (List.length s.2.2.2.2.2.2.2.1) s.2.2.2.2.2.2.2.2.2,.aj,.ptr 57 0,.int .i64 false x.1.2.2.2.2.2.2.2.1] 74)::List.set (List.tail (aW false [aM] ((x.1.1,x.1.2.1,x.1.2.2.1,s.2.1,x.1.2.2.2.2.1,x.1.2.2.2.2.2.1,s.2.2.2.2.2.1,x.1.2.2.2.2.2.2.2.1,()),()) h 0 0)) 55 none)++ [some (.cells [.aj,.aj,.bool true false] 37),some (.rows false s.2.2.2.1 [.str] s.2.2.1 0 s.2.2.2.2.1 9),some (.cells [.aj,.rs s.2.2.2.1 0 63 0 1 0 (List.length s.2.2.1) s.2.2.2.2.1,.bool false s.2.2.2.2.2.2.1] 37),none,some (.rows false s.2.2.2.2.2.2.2.2.1 [.int .u8] s.2.2.2.2.2.2.2.1 0 s.2.2.2.2.2.2.2.2.2 5)]⟩,ok:=fun s=>btI 1 x.1.2.2.2.1 x.1.2.2.2.2.2.2.1 (s.1,s.2.1,s.2.2.1,s.2.2.2.1,s.2.2.2.2.1,s.2.2.2.2.2.1)∧((List.length s.2.2.2.2.2.2.2.1:Int)≤List.length x.1.2.2.2.2.1∨(List.length s.2.2.2.2.2.2.2.1:Int)≤List.length x.1.2.2.2.2.1+1∧x.1.2.2.2.1.1.2.2.2.2.2.1.2.2.1<s.2.1.1.2.2.2.2.2.1.2.2.1)∧(s.2.2.2.2.2.2.2.2.1=true→s.2.2.2.2.2.2.2.2.2=0),mu:=fun s=>(List.length s.2.2.1-s.1),init:=(0,((0,0,0,(),((0,[],()),(0,[],()),0,(),()),((0,[],()),(0,[],()),0,(),()),(0,[],()),0,()),(0,0,0,(),0,0,([],0,0,()),0,0,([],0,0,()),0,0,0,()),(0,0,([],0),0,false,()),(0,(),(),()),((),()),((),(),(),(),()),([],0),([],0),0,false,0,(),()),[],false,0,(([],0,0,()),([],0,0,()),0,()),false,[],false,0),ex:=true}|_=>none),1000,af (q:=QbG (ya (Qbo (Za (Yu x)))) (b7 (Yu x)) (sF (Yu x,()) mB) (∀ (va:Er) (vb:DG) (vc:nQ) (vd:qY),VB vc vd (iB (Yu x,()) mB va vc) (QT (ya (Qbo (Za va.1))) (decide ((Za (Yu x)).2.2.1<(Za va.1).2.2.1)) (Q7A (uy x) (uy x) (WX h).2 ((WX h).1=(WX h).1) (WX h).1 (WV (uy x) (1:Nat)) (∀ (ve:Nat),x9 (uy x) ve (WX h).2 ((∃ (vf:dJ),Qn (OC (Yw (GP vd vf vc) (Qfo vc) (Qfp vf) (RU vf.1)) h x (iZ (Nc (WX h).1) (Qfq vf) (rB (uy x)) (Qfr vf) ve (Qfs vf)) (Qg7 h x va.1 vf (Qfu (Qfv x) vf (Qfw vd vf vc) (GP vd vf vc) (vc.1.2.2.1=(rE vf).1) (yI (Nc (WX h).1) (Qfq vf) ve (Qfs vf) (Qfr vf) (List.append (QfM x) (Q4V ((0:Int),()))) (Qfy vf))))) (XG x vf) (ZY vf x) (Wu vf))∧(∀ (vf:dJ),LB (XG x vf) (ZY vf x) vf (QbG (F7 vf.1 (Qfp vf)) (oC (RL vf)) (Bb (RL vf,()) (Wa,QfG vf)) (∀ (vg:uA) (vi:Dh) (vj:To) (vl:SW),n5 (kV (RL vf,()) (Wa,QfG vf) vg vj) (Na vf.1 (∃ (vm:dJ),E4 (OC (Yw (DC vf vm) (Qfp vf) (Qfp vm) (ku vf.1 vm.1)) h x (V3 vf vm) (Qg7 h x vf.2.1 vm (QfP vg vm (QfQ vf vm) (DC vf vm) vf))) (XG x vm) (ZY vm x) (Wu vm) (Qfp vm) vm.1 (Qfp vf) vf.1)))) (Qga x.1.1 x h vf.2.1 (QfS (QfR vf) vf)) (QfU vf) (tT x y ((x.1.1,x.1.2.1,(),vf.2.1,Qfy vf,(),RL vf,Qg0 x,()),()) (QfW vf)))))) ((∃ (ve:dJ),Qn (OC (Yw (GP vd ve vc) (Qfo vc) (Qfp ve) (RU ve.1)) h x (iZ (WX h).1 (Qfq ve) (List.length (QfM x)) (Qfr ve) (WX h).2 (Qfs ve)) (Qg7 h x va.1 ve (Qfu (Qfv x) ve (Qfw vd ve vc) (GP vd ve vc) (vc.1.2.2.1=(rE ve).1) (oE (WX h).1 (Qfq ve) (WX h).2 (Qfs ve) (List.take (Qfr ve) (QfM x)=Qfy ve))))) (XG x ve) (ZY ve x) (Wu ve))∧(∀ (ve:dJ),LB (XG x ve) (ZY ve x) ve (QbG (F7 ve.1 (Qfp ve)) (oC (RL ve)) (Bb (RL ve,()) (Wa,QfG ve)) (∀ (vf:uA) (vg:Dh) (vi:To) (vj:SW),n5 (kV (RL ve,()) (Wa,QfG ve) vf vi) (Na ve.1 (∃ (vl:dJ),E4 (OC (Yw (DC ve vl) (Qfp ve) (Qfp vl) (ku ve.1 vl.1)) h x (V3 ve vl) (Qg7 h x ve.2.1 vl (QfP vf vl (QfQ ve vl) (DC ve vl) ve))) (XG x vl) (ZY vl x) (Wu vl) (Qfp vl) vl.1 (Qfp ve) ve.1)))) (Qga x.1.1 x h ve.2.1 (QfS (QfR ve) ve)) (QfU ve) (tT x y ((x.1.1,x.1.2.1,(),ve.2.1,Qfy ve,(),RL ve,Qg0 x,()),()) (QfW ve))))))) (by kernel_rfl) ?_⟩
 delta Q7 Q6 oO lG QC Qn Yy Q6r QbG kA cR Qs Q3 ya Qr jh mV Qk mJ Qff Q4 Q5 mQ QJ cu Q6q JY Q0 Sa Qfv Q23 gC uI mB iZ Qc1 CE QH kF QF Qi QA sE WX sY yG QfX oE rE Q9l Q5e Ye Qt Q10 QfM QE Qa yC xG Qga Q5d Qo Q2d rB Qa2 RL Q2C Qfp Qfy Qbo MT Yw Q7A RH Q2a E4 QL ku gk Yu Qg0 xi Qfq Qfs QfY Q7J lV Nc Na x9 Wa VB GW WV xY Wm Q14 Qfr X4 RU yI ny Za QT Qfo Q4V kQ F7 GP QfZ DC Wu ZY TB Hm OC LB Qfu QfP n5 XG QfG V3 Qg7 Qfw QfS QfR QfQ QfU uy QfW zp nv od oC aX b7;obtain ⟨B,hB,hT⟩:=hp;obtain ⟨hx,hy,hi,hr0,hr1,hm,hs⟩:=hB;have hT':B.y.aE∧B.fx.length+B.y.tick.2.length≤64:=hT;obtain ⟨hTk,hTl⟩:=hT';simp only [cl];refine ⟨⟨B.y,hy,hTk⟩,fun x' h' z k' hl hz hx'=>?_⟩;have hx': ∀a,au 1 x.1.2.2.2.1 a→a.aE→au 1 x'.1 a.tick.1∧z.1.2.1=List.map (fun x=>(yE x,())) a.tick.2∧ ∀x∈a.tick.2,ia x:=hx';have hmn: ∀b,au 1 x.1.2.2.2.1 b→(x.1.2.2.2.2.1.length:Int)≤b.mn→(x.1.2.2.2.2.1.length:Int)≤1000000:=fun b hb hi=>Int.le_trans hi ((show cN x.1.2.2.2.1.1 1=b.mn from hb.2.2.2.2.2.1.2.1)▸((Lg hb.1.1).2 1).2);have hil:(x.1.2.2.2.2.1.length:Int)≤1000000:=hmn _ hy hi.2;refine ⟨fun h1=>⟨⟨hf.1.2.2.2.2.1.2,?_⟩,fun c' h2 h3=>⟨⟨(0,x'.1,z.1.2.1,k'.1.2.1.1,k'.1.2.1.2,x.1.2.2.2.2.2.2.1,z.1.2.2.1,x.1.2.2.2.2.1++ [(0,())],false,c'),?_⟩,fun s i1 i2 i3=>?_⟩⟩,fun h1=>⟨⟨(0,x'.1,z.1.2.1,k'.1.2.1.1,k'.1.2.1.2,x.1.2.2.2.2.2.2.1,z.1.2.2.1,x.1.2.2.2.2.1,h.1.2.2.2.2.1.1,h.1.2.2.2.2.1.2),?_⟩,fun s i1 i2 i3=>?_⟩⟩
 ·have:x.1.2.2.2.2.1.length≤1000000:=Int.ofNat_le.1 hil;omega
 ·refine ⟨by simp only [cl];all_goals simp;all_goals exact List.take_of_length_le (by simp),⟨Nat.zero_le _,hx',hz,by rw [if_neg (by decide)];exact ⟨rfl,hr0.1,by simp⟩⟩,.inr ⟨by dsimp only;rw [List.length_append];exact Int.le_refl _,h1⟩,fun e=>absurd (show false=true from e) (by decide)⟩
 rotate_left
 ·exact ⟨by simp only [cl];all_goals simp,⟨Nat.zero_le _,hx',hz,by rw [if_neg (by decide)];exact ⟨rfl,hr0.1,by simp⟩⟩,.inl (Int.le_refl _),hf.1.2.2.2.2.1.2⟩
 all_goals
  clear hl hz hx' h1;obtain ⟨j1,j2,j3,j4⟩:=i1;obtain ⟨j5,j6,j7⟩:=(show s.2.2.2.2.2.1.2.1=x.1.2.2.2.2.2.2.1.2.1∧(dZ s.2.2.2.2.2.1.1.1 s.2.2.2.2.2.1.1.2.1 s.2.2.2.2.2.1.1.2.2.1∧List.length s.2.2.2.2.2.1.1.1=64)∧rQ s.2.2.2.2.2.1.1.1 s.2.2.2.2.2.1.1.2.1 s.2.2.2.2.2.1.1.2.2.1=rQ x.1.2.2.2.2.2.2.1.1.1 x.1.2.2.2.2.2.2.1.1.2.1 x.1.2.2.2.2.2.2.1.1.2.2.1++List.take s.1 s.2.2.1 from j4);obtain ⟨j8,j9,j10⟩:=j2 B.y hy hTk;refine ⟨fun hk=>?_,fun hk=>?_⟩
  ·have hk:s.1<s.2.2.1.length:=Int.ofNat_lt.1 hk;obtain ⟨q1,q2⟩:=ZX j9 j10 hk;have hn:s.2.2.2.2.2.1.1.2.2.1<64:=by
    have e1:=jg j6.1;have e2:s.2.2.1.length=B.y.tick.2.length:=by rw [j9,List.length_map]
    have e3:(rQ x.1.2.2.2.2.2.2.1.1.1 x.1.2.2.2.2.2.2.1.1.2.1 x.1.2.2.2.2.2.2.1.1.2.2.1).length=B.fx.length:=by rw [hr0.2.1,List.length_map]
    have j7':=congrArg List.length j7;rw [List.length_append,List.length_take] at j7';have e4:(rQ s.2.2.2.2.2.1.1.1 s.2.2.2.2.2.1.1.2.1 s.2.2.2.2.2.1.1.2.2.1).length<64:=by rw [show (rQ s.2.2.2.2.2.1.1.1 s.2.2.2.2.2.1.1.2.1 s.2.2.2.2.2.1.1.2.2.1).length=_ from j7',e3];omega
    rw [e1];exact Int.ofNat_lt.2 e4
   refine ⟨⟨Int.natCast_nonneg _,Int.ofNat_lt.2 hk⟩,hk,⟨q1,j6,hn⟩,fun u v hu=>⟨?_,⟨(s.1+1,s.2.1,s.2.2.1,s.2.2.2.1,s.2.2.2.2.1,u.1,s.2.2.2.2.2.2.1,s.2.2.2.2.2.2.2.1,s.2.2.2.2.2.2.2.2.1,s.2.2.2.2.2.2.2.2.2),?_⟩⟩⟩
   ·have:s.2.2.1.length≤64:=by rw [j9,List.length_map];omega
    simp only [aL,aT,aU];omega
   ·obtain ⟨u1,u2,u3⟩:=hu;refine ⟨⟨by simp only [cl];all_goals simp,⟨hk,j2,j3,by rw [if_neg (by decide)];exact ⟨u3.trans j5,u1,by rw [show rQ u.1.1.1 u.1.1.2.1 u.1.1.2.2.1=_ from u2,j7,List.append_assoc];exact congrArg _ q2.symm⟩⟩,i2,i3⟩,by dsimp only;omega⟩
  ·have hk:s.1=s.2.2.1.length:=Nat.le_antisymm j1 (Nat.le_of_not_lt fun e=>hk (Int.ofNat_lt.2 e));refine ⟨⟨hf.1.2.1.2,i3⟩,j3,fun B2 hB2 hT2=>?_⟩;obtain ⟨k1,k2,k3,k4,k5,k6,k7⟩:=hB2;have hT2':B2.y.aE∧B2.fx.length+B2.y.tick.2.length≤64:=hT2;obtain ⟨m1,m2,m3⟩:=j2 B2.y k2 hT2'.1;have n1:cN s.2.1.1 1=B2.y.tick.1.mn:=m1.2.2.2.2.2.1.2.1;have n2:cN x.1.2.2.2.1.1 1=B2.y.mn:=k2.2.2.2.2.2.1.2.1;have n3:(x.1.2.2.2.2.1.length:Int)≤B2.y.mn:=k3.2;have n4:=PA.Nh B2.y;have hil2:(s.2.2.2.2.2.2.2.1.length:Int)≤B2.y.tick.1.mn:=by
    rcases i2 with i2|⟨i2,i4⟩
    ·exact Int.le_trans i2 (Int.le_trans n3 n4)
    ·have i4:cN x.1.2.2.2.1.1 1<cN s.2.1.1 1:=i4;rw [n1,n2] at i4;exact Int.le_trans i2 (Int.le_trans (Int.add_le_add_right n3 1) i4)
   have hrg:RB s.2.2.2.2.2.1.1 (B2.fx++B2.y.tick.2):=by
    refine ⟨j6,?_,fun a ha=>(List.mem_append.1 ha).elim (k4.2.2 a) (m3 a)⟩;rw [j7,hk,List.take_length,k4.2.1,m2,List.map_append]
   exact ⟨k1,m1,⟨k3.1,hil2⟩,hrg,by rw [show s.2.2.2.2.2.1.2.1=_ from j5];exact k5,k6,PB.rM k7 1⟩
noncomputable def Tm:=T5.add 26 a0m
end Go.Proofs.YtfdmjoddhjmokaaGreatDoor
namespace Go.Proofs.YtfdmjoddhjmokaaGreatDoor
open Go.RowKit Rex
set_option linter.unusedVariables false
set_option linter.unusedSimpArgs false
set_option maxRecDepth 100000
theorem PA.NC(a:PA)(l:List AM):(a.take l).mn=a.mn:=by
 cases l with
 |nil=>rfl
 |cons m l=>show (a.aw m).mn=a.mn;unfold PA.aw;(repeat' split)<;>rfl
theorem S6 {a:PA} {f:List AM} {r:Sp.T dh}(hr:RB r f)(hT:a.bT f):0<r.2.2.1:=by
 cases f with
 |nil=>exact hT.elim
 |cons m l=>
  have e:=jg hr.1.1;rw [hr.2.1,List.length_map,List.length_cons] at e;rw [e];exact Int.ofNat_lt.2 (Nat.succ_pos _)
theorem yU {a:PA} {f:List AM} {r r':Sp.T dh} {s:List UInt8} {t:Int}(hr:RB r f)(hT:a.bT f)(hs:fg t f)(ht:a.ot=t)(h6:dZ r'.1 r'.2.1 r'.2.2.1∧r'.1.length=64)(h7:rQ r.1 r.2.1 r.2.2.1=(s,())::rQ r'.1 r'.2.1 r'.2.2.1):RB r' f.tail∧CJ s∧a.cK (aG s)∧((aG s).1=4→(aG s).2.2.2.2.2.1=a.ot∧ -1≤a.cm∧a.cm≤1000)∧a.take f=a.aw (aG s):=by
 obtain ⟨h1,h2,h3⟩:=hr;cases f with
 |nil=>exact hT.elim
 |cons m l=>
  obtain ⟨o1,o2⟩:=hT;have hl:ia m:=h3 m List.mem_cons_self;obtain ⟨e1,e2⟩:=List.cons.inj (h7.symm.trans h2);have e3:s=yE m:=congrArg Prod.fst e1;have e4:aG s=m:=by rw [e3];exact GH hl
  refine ⟨⟨h6,e2,fun b hb=>h3 b (List.mem_cons_of_mem _ hb)⟩,⟨_,_,_,_,_,_,_,hl,e3⟩,?_,?_,?_⟩
  ·rw [e4];exact o1
  ·rw [e4];exact fun h4=>⟨(hs m List.mem_cons_self h4).trans ht.symm,o2 h4⟩
  ·rw [e4];rfl
def O4(x:Sp.Ts [aM])(y:aZ [(true,[.cl (.int .i64 (2)),.cl (.int .i64 (0)),.cl (.int .i64 (0)),.cl (.int .i64 (0)),.cl (.int .u8 (0)),.cl (.int .u8 (0))])]):Prop:=rU (x.1.2.2.2.2.2.2.1,()) (((),()),((),()),())
def zJ(x:Sp.Ts [aM])(y:aZ [(true,[.cl (.int .i64 (2)),.cl (.int .i64 (0)),.cl (.int .i64 (0)),.cl (.int .i64 (0)),.cl (.int .u8 (0)),.cl (.int .u8 (0))])])(x':Sp.Ts [aM])(z:aZ [(false,[.str]),(false,[.cl (.bool true)])]):Prop:=(x'.1.1=x.1.1∧x'.1.2.1=x.1.2.1∧x'.1.2.2.2.1=x.1.2.2.2.1∧x'.1.2.2.2.2.1=x.1.2.2.2.2.1∧x'.1.2.2.2.2.2.2.2.1=x.1.2.2.2.2.2.2.2.1)∧lq (x.1.2.2.2.2.2.2.1,()) (((),()),((),()),()) (x'.1.2.2.2.2.2.2.1,()) ((z.1.1,()),((),()),())
noncomputable def a0b:MC:=qC [true,false] [aM] [(true,[.cl (.int .i64 (2)),.cl (.int .i64 (0)),.cl (.int .i64 (0)),.cl (.int .i64 (0)),.cl (.int .u8 (0)),.cl (.int .u8 (0))])] [(false,[.str]),(false,[.cl (.bool true)])] O4 zJ
def Qge(a:lM)(b:jW)(c:Prop):Prop:=Qga a.1.1 a b a.1.2.2.2.1 c
def Qgb(a:Prop)(b:lM)(c:jW)(d e:Prop):Prop:=Q6 (Q7H∧a) (Q7H∧a) (Qge b c d) (kS true) e
def Qgc(a:Prop)(b:uA):Prop:=yC a (KE b) (K4 b)
def Qgd(a:lM)(b:uA):aM.T×Sp.Ts []:=((a.1.1,a.1.2.1,(),Yu a,Pm a b.1),())
theorem a0H:ab Tryz.prog 56 a0b:=by
 refine ah (cx Mx [] az Tm) Tryz.func56 (by kernel_rfl) (by kernel_rfl) fun (x:Sp.Ts [aM]) h (y:aZ [(true,[.cl (.int .i64 (2)),.cl (.int .i64 (0)),.cl (.int .i64 (0)),.cl (.int .i64 (0)),.cl (.int .u8 (0)),.cl (.int .u8 (0))])]) k hf hg hp=>⟨(fun bk=>match bk with|700003=>some {S:=Unit,st:=fun s=>⟨[.v (.one (.ptr 62 0))],[]⟩,ok:=fun s=>True,mu:=fun s=>0,init:=()}|_=>none),1000,af (q:=RA (Q7H∧RJ) (oC (Qfv x)) lG lG (rU (Qfv x,()) (Wa,Hm)) (∀ (va:uA) (vb:Dh) (vc:Ds) (vd:Dq),n5 (lq (Qfv x,()) (Wa,Hm) va vc) (Qz Q7H RJ (Qgb RJ x h (Qgc (QfT x h) va) (zJ x y (Qgd x va) ((vc.1.1,()),((),()),()))) (Qgb RJ x h (Qgc (QfT x h) va) (zJ x y (Qgd x va) ((vc.1.1,()),((),()),())))))) (by kernel_rfl) ?_⟩
 delta Q7 Q6 oO lG Qn QbG WC kA WI cR Qs Q3 ya Qr mV Qff mQ cu JY Qfv Q23 gC uI kF QF WX QfX Q9l QfM yC Qga Qge QfT RA Qa2 Qz K4 KE kS Yu Qg0 Wa RJ Q7H Hm n5 Qgb Pm Qgc Qgd oC aX b7;simp only [cl];refine ⟨hp,fun x' z hx=>⟨⟨hf.1.2.1.2,hf.1.2.2.2.2.1.2⟩,⟨rfl,rfl,rfl,rfl,rfl⟩,hx⟩⟩
noncomputable def SF:=Tm.add 56 a0H
def NA(x:Sp.Ts [aM])(y:aZ [(true,[.cl (.int .i64 (2)),.cl (.int .i64 (1)),.cl (.int .i64 (0)),.cl (.int .i64 (0)),.cl (.int .u8 (0)),.cl (.int .u8 (0))])]):Prop:=sU (x.1.2.2.2.2.2.2.1,()) (((),()),((),()),())
def zF(x:Sp.Ts [aM])(y:aZ [(true,[.cl (.int .i64 (2)),.cl (.int .i64 (1)),.cl (.int .i64 (0)),.cl (.int .i64 (0)),.cl (.int .u8 (0)),.cl (.int .u8 (0))])])(x':Sp.Ts [aM])(z:aZ [(false,[.str]),(false,[.cl (.bool true)])]):Prop:=(x'.1.1=x.1.1∧x'.1.2.1=x.1.2.1∧x'.1.2.2.2.1=x.1.2.2.2.1∧x'.1.2.2.2.2.1=x.1.2.2.2.2.1∧x'.1.2.2.2.2.2.2.2.1=x.1.2.2.2.2.2.2.2.1)∧lg (x.1.2.2.2.2.2.2.1,()) (((),()),((),()),()) (x'.1.2.2.2.2.2.2.1,()) ((z.1.1,()),((),()),())
noncomputable def a09:MC:=qC [true,false] [aM] [(true,[.cl (.int .i64 (2)),.cl (.int .i64 (1)),.cl (.int .i64 (0)),.cl (.int .i64 (0)),.cl (.int .u8 (0)),.cl (.int .u8 (0))])] [(false,[.str]),(false,[.cl (.bool true)])] NA zF
def Qgg(a:Prop):Prop:=WC a lG lG
def Qgf:Prop:=Qgg Q5e
theorem ZQ:ab Tryz.prog 56 a09:=by
 refine ah (cx Mx [] az SF) Tryz.func56 (by kernel_rfl) (by kernel_rfl) fun (x:Sp.Ts [aM]) h (y:aZ [(true,[.cl (.int .i64 (2)),.cl (.int .i64 (1)),.cl (.int .i64 (0)),.cl (.int .i64 (0)),.cl (.int .u8 (0)),.cl (.int .u8 (0))])]) k hf hg hp=>⟨(fun bk=>match bk with|700003=>some {S:=Unit,st:=fun s=>⟨[.v (.one (.ptr 62 0))],[]⟩,ok:=fun s=>True,mu:=fun s=>0,init:=()}|_=>none),1000,af (q:=RA (Q7H∧Qgf) (oC (Qfv x)) Q5e lG (sU (Qfv x,()) (((),()),Hm)) (∀ (va:uA) (vb:Dh) (vc:Ds) (vd:Dq),n5 (lg (Qfv x,()) (((),()),Hm) va vc) (Qz Q7H Qgf (Qgb Qgf x h (Qgc (QfT x h) va) (zF x y (Qgd x va) ((vc.1.1,()),((),()),()))) (Qgb Qgf x h (Qgc (QfT x h) va) (zF x y (Qgd x va) ((vc.1.1,()),((),()),())))))) (by kernel_rfl) ?_⟩
 delta Q7 Q6 oO lG Qn QbG WC kA cR Qs Q3 ya Qr mV Qff mQ cu JY Qfv Q23 gC uI kF QF WX QfX Q9l Q5e QfM yC Qga Qge QfT RA Qa2 Qz K4 KE kS Yu Qg0 Wa Qgg Q7H Qgf Hm n5 Qgb Pm Qgc Qgd oC aX b7;simp only [cl];refine ⟨hp,fun x' z hx=>⟨⟨hf.1.2.1.2,hf.1.2.2.2.2.1.2⟩,⟨rfl,rfl,rfl,rfl,rfl⟩,hx⟩⟩
noncomputable def a4l:=SF.add 56 ZQ
noncomputable def a8h:MC:=oB (Ik 1 1) a0b a09
theorem a6B:ab Tryz.prog 56 a8h:=cA a0H ZQ
noncomputable def T7:=a4l.add 56 a6B
def Gx(x:Sp.Ts [aM])(y:aZ [(true,[.cl (.int .i64 (2)),.cl (.int .i64 (0)),.cl (.int .i64 (0)),.cl (.int .i64 (0)),.cl (.int .u8 (0)),.cl (.int .u8 (0))])]):Prop:= ∃B,fZ x.1 B∧B.bT 0
def pO(x:Sp.Ts [aM])(y:aZ [(true,[.cl (.int .i64 (2)),.cl (.int .i64 (0)),.cl (.int .i64 (0)),.cl (.int .i64 (0)),.cl (.int .u8 (0)),.cl (.int .u8 (0))])])(x':Sp.Ts [aM])(z:aZ [(true,[.cl .aj,.cl .aj,.cl (.bool false)]),(false,[.int .i64])]):Prop:= ∀B,fZ x.1 B→B.bT 0→fZ x'.1 {B.take 0 with mv:=B.mv}
noncomputable def a0A:MC:=qC [true,false] [aM] [(true,[.cl (.int .i64 (2)),.cl (.int .i64 (0)),.cl (.int .i64 (0)),.cl (.int .i64 (0)),.cl (.int .u8 (0)),.cl (.int .u8 (0))])] [(true,[.cl .aj,.cl .aj,.cl (.bool false)]),(false,[.int .i64])] Gx pO
abbrev Bk:Type:=eZ [(true,[Sp.cl Lc.aj,Sp.cl Lc.aj,Sp.cl (Lc.bool false)]),(false,[Sp.int IntKind.i64])]
abbrev rW:Type:=aZ [(true,[Sp.cl Lc.aj,Sp.cl Lc.aj,Sp.cl (Lc.bool false)]),(false,[Sp.int IntKind.i64])]
def Cz(a:lM)(b:jW)(c d e:Prop):Prop:=Q9l (K5 CE (List.length a.1.2.1≤b.1.2.1.2∧gC b.1.2.1.1 b.1.2.1.2) CE (QC (List.length (QfM a)≤(WX b).2∧gC (WX b).1 (WX b).2) True (Qn mQ mQ True True) True)) c d e
def Qgm(a:lM):Nat:=Qff (Qfv a).2.1
def Qgl(a:lM):Nat:=Qff (Qfv a).1
def Qgh(a:Prop)(b:lM):Prop:=yC a (Qgl b) (Qgm b)
def Qgk(a:Prop)(b:rW)(c d e:Prop):Prop:=Q9l CE mQ a (QK (b.2.1.1 !=(0:Int)) c QJ d (Q7 c QJ e))
def Qgn:(Sp.cl (Lc.int IntKind.i64 (0:Int))).T×Sp.Ts [Sp.cl (Lc.int IntKind.i64 (0:Int)),Sp.cl (Lc.int IntKind.u8 (0:Int)),Sp.cl (Lc.int IntKind.u8 (0:Int))]:=((),(),(),(),())
def Qgi:Sp.Ts (true,[Sp.cl (Lc.int IntKind.i64 (2:Int)),Sp.cl (Lc.int IntKind.i64 (0:Int)),Sp.cl (Lc.int IntKind.i64 (0:Int)),Sp.cl (Lc.int IntKind.i64 (0:Int)),Sp.cl (Lc.int IntKind.u8 (0:Int)),Sp.cl (Lc.int IntKind.u8 (0:Int))]).snd×aZ []:=(((),(),Qgn),())
theorem a0P:ab Tryz.prog 29 a0A:=by
 refine ah (cx Mx [28] az T7) Tryz.func29 (by kernel_rfl) (by kernel_rfl) fun (x:Sp.Ts [aM]) h (y:aZ [(true,[.cl (.int .i64 (2)),.cl (.int .i64 (0)),.cl (.int .i64 (0)),.cl (.int .i64 (0)),.cl (.int .u8 (0)),.cl (.int .u8 (0))])]) k hf hg hp=>⟨bK,1000,af (q:=Q5d (Qge x h (Qgh (QfT x h) x)) Q7H RJ (O4 (x.1,()) Qgi) (∀ (va:lM) (vb:jW) (vc:Ds) (vd:Dq),Cz va vb JY (zJ (x.1,()) Qgi va vc) (Qs (aX va.1.1) (rS (va.1.1,()) (N8 vc.1)) (∀ (ve:Jb) (vf:B6) (vg:rW) (vi:Bk),Qgk (iv (va.1.1,()) (N8 vc.1) ve vg) vg (Qga ve.1 va vb (Yu va) (Qgh (QfT va vb) va)) (pO x y ((ve.1,va.1.2.1,(),Yu va,Pm va (Qfv va)),()) (((),(),(),()),(vg.2.1.1,()),())) (pO x y ((ve.1,va.1.2.1,(),Yu va,Pm va (Qfv va)),()) (((),(),(),()),((0:Int),()),())))))) (by kernel_rfl) ?_⟩
 delta Q7 Q6 oO lG QC Qn Yy Q6r QbG WC kA WI cR Qs Q3 ya Qr mV mJ Qff Q4 mQ QJ cu Q6q JY Q0 Sa Qfv Q23 gC uI Qgm Qgl Qc1 CE kF QF QK WX QfX Q9l QfM K5 yC Qga Qge Cz QfT Q5d Qgh Yu Qg0 RJ Q7H Qgk Qgn Pm N8 Qgi aX b7;obtain ⟨B,hB,hT⟩:=hp;have hT':B.x.bT B.fx:=hT;have hr:RB x.1.2.2.2.2.2.2.1.1 B.fx:=hB.2.2.2.1;simp only [cl];refine ⟨⟨hf.1.2.1.2,hf.1.2.2.2.2.1.2⟩,⟨hr.1,S6 hr hT'⟩,fun x' h' z h1 h2 h3 h4 hx'=>?_⟩;obtain ⟨⟨q1,q2,q3,q4,q5⟩,q6,q7,q8⟩:=hx';obtain ⟨-,r2,r3,r4,-⟩:=yU (r':=x'.1.2.2.2.2.2.2.1.1) hr hT' hB.2.2.2.2.2.2.2.2.1 hB.2.2.2.2.2.2.1.1 q6 q7;refine ⟨⟨⟨B.x,(show au 0 x'.1.1 B.x by rw [q1];exact hB.1),r3,r4⟩,r2⟩,fun u k v hu=>?_⟩
 have key: ∀B2,fZ x.1 B2→B2.bT 0→fZ (u.1,x'.1.2.1,x'.1.2.2.1,x'.1.2.2.2.1,x'.1.2.2.2.2.1,x'.1.2.2.2.2.2.1,x'.1.2.2.2.2.2.2.1,x'.1.2.2.2.2.2.2.2.1,()) {B2.take 0 with mv:=B2.mv}:=fun B2 hB2 hT2=>by
  have hT2':B2.x.bT B2.fx:=hT2;obtain ⟨k1,k2,k3,k4,k5,k6,k7⟩:=hB2;obtain ⟨g1,-,g3,g4,g5⟩:=yU (r':=x'.1.2.2.2.2.2.2.1.1) k4 hT2' k7.2.2.1 k7.1.1 q6 q7;have G:au 0 u.1 (B2.x.take B2.fx):=by
   rw [g5];exact hu B2.x (show au 0 x'.1.1 B2.x by rw [q1];exact k1) g3 g4
  refine ⟨G,(show au 1 x'.1.2.2.2.1 B2.y by rw [q3];exact k2),⟨(show (List.length x'.1.2.1:Int)≤(B2.x.take B2.fx).mn by rw [q2,PA.NC];exact k3.1),(show (List.length x'.1.2.2.2.2.1:Int)≤B2.y.mn by rw [q4];exact k3.2)⟩,g1,(show RB x'.1.2.2.2.2.2.2.1.2.1 B2.fy by rw [(show x'.1.2.2.2.2.2.2.1.2.1=x.1.2.2.2.2.2.2.1.2.1 from q8)];exact k5),q5.trans k6,PB.AI k7 0⟩
 exact ⟨fun _=>⟨⟨h2,h4⟩,key⟩,fun _=>⟨⟨h2,h4⟩,key⟩⟩
noncomputable def Sx:=T7.add 29 a0P
def GC(x:Sp.Ts [aM])(y:aZ [(true,[.cl (.int .i64 (2)),.cl (.int .i64 (1)),.cl (.int .i64 (0)),.cl (.int .i64 (0)),.cl (.int .u8 (0)),.cl (.int .u8 (0))])]):Prop:= ∃B,fZ x.1 B∧B.bT 1
def pL(x:Sp.Ts [aM])(y:aZ [(true,[.cl (.int .i64 (2)),.cl (.int .i64 (1)),.cl (.int .i64 (0)),.cl (.int .i64 (0)),.cl (.int .u8 (0)),.cl (.int .u8 (0))])])(x':Sp.Ts [aM])(z:aZ [(true,[.cl .aj,.cl .aj,.cl (.bool false)]),(false,[.int .i64])]):Prop:= ∀B,fZ x.1 B→B.bT 1→fZ x'.1 {B.take 1 with mv:=B.mv}
noncomputable def ZG:MC:=qC [true,false] [aM] [(true,[.cl (.int .i64 (2)),.cl (.int .i64 (1)),.cl (.int .i64 (0)),.cl (.int .i64 (0)),.cl (.int .u8 (0)),.cl (.int .u8 (0))])] [(true,[.cl .aj,.cl .aj,.cl (.bool false)]),(false,[.int .i64])] GC pL
def De:Sp.Ts (true,[Sp.cl (Lc.int IntKind.i64 (2:Int)),Sp.cl (Lc.int IntKind.i64 (1:Int)),Sp.cl (Lc.int IntKind.i64 (0:Int)),Sp.cl (Lc.int IntKind.i64 (0:Int)),Sp.cl (Lc.int IntKind.u8 (0:Int)),Sp.cl (Lc.int IntKind.u8 (0:Int))]).snd×aZ []:=(((),(),Qgn),())
theorem a1s:ab Tryz.prog 29 ZG:=by
 refine ah (cx Mx [28] az Sx) Tryz.func29 (by kernel_rfl) (by kernel_rfl) fun (x:Sp.Ts [aM]) h (y:aZ [(true,[.cl (.int .i64 (2)),.cl (.int .i64 (1)),.cl (.int .i64 (0)),.cl (.int .i64 (0)),.cl (.int .u8 (0)),.cl (.int .u8 (0))])]) k hf hg hp=>⟨bK,1000,af (q:=Q5d (Qge x h (Qgh (QfT x h) x)) Q7H Qgf (NA (x.1,()) De) (∀ (va:lM) (vb:jW) (vc:Ds) (vd:Dq),Cz va vb JY (zF (x.1,()) De va vc) (Qs (b7 (Yu va)) (sI (Yu va,()) (N8 vc.1)) (∀ (ve:Er) (vf:DG) (vg:rW) (vi:Bk),Qgk (iJ (Yu va,()) (N8 vc.1) ve vg) vg (Qga va.1.1 va vb ve.1 (Qgh (QfT va vb) va)) (pL x y ((va.1.1,va.1.2.1,(),ve.1,Pm va (Qfv va)),()) (((),(),(),()),(vg.2.1.1,()),())) (pL x y ((va.1.1,va.1.2.1,(),ve.1,Pm va (Qfv va)),()) (((),(),(),()),((0:Int),()),())))))) (by kernel_rfl) ?_⟩
 delta Q7 Q6 oO lG QC Qn Yy Q6r QbG WC kA cR Qs Q3 ya Qr mV mJ Qff Q4 mQ QJ cu Q6q JY Q0 Sa Qfv Q23 gC uI Qgm Qgl Qc1 CE kF QF QK WX QfX Q9l Q5e QfM K5 yC Qga Qge Cz QfT Q5d Qgh Yu Qg0 Qgg Q7H Qgf Qgk Qgn Pm N8 De aX b7;obtain ⟨B,hB,hT⟩:=hp;have hT':B.y.bT B.fy:=hT;have hr:RB x.1.2.2.2.2.2.2.1.2.1 B.fy:=hB.2.2.2.2.1;simp only [cl];refine ⟨⟨hf.1.2.1.2,hf.1.2.2.2.2.1.2⟩,⟨hr.1,S6 hr hT'⟩,fun x' h' z h1 h2 h3 h4 hx'=>?_⟩;obtain ⟨⟨q1,q2,q3,q4,q5⟩,q6,q7,q8⟩:=hx';obtain ⟨-,r2,r3,r4,-⟩:=yU (r':=x'.1.2.2.2.2.2.2.1.2.1) hr hT' hB.2.2.2.2.2.2.2.2.2 hB.2.2.2.2.2.2.1.2 q6 q7;refine ⟨⟨⟨B.y,(show au 1 x'.1.2.2.2.1 B.y by rw [q3];exact hB.2.1),r3,r4⟩,r2⟩,fun u k v hu=>?_⟩
 have key: ∀B2,fZ x.1 B2→B2.bT 1→fZ (x'.1.1,x'.1.2.1,x'.1.2.2.1,u.1,x'.1.2.2.2.2.1,x'.1.2.2.2.2.2.1,x'.1.2.2.2.2.2.2.1,x'.1.2.2.2.2.2.2.2.1,()) {B2.take 1 with mv:=B2.mv}:=fun B2 hB2 hT2=>by
  have hT2':B2.y.bT B2.fy:=hT2;obtain ⟨k1,k2,k3,k4,k5,k6,k7⟩:=hB2;obtain ⟨g1,-,g3,g4,g5⟩:=yU (r':=x'.1.2.2.2.2.2.2.1.2.1) k5 hT2' k7.2.2.2 k7.1.2 q6 q7;have G:au 1 u.1 (B2.y.take B2.fy):=by
   rw [g5];exact hu B2.y (show au 1 x'.1.2.2.2.1 B2.y by rw [q3];exact k2) g3 g4
  refine ⟨(show au 0 x'.1.1 B2.x by rw [q1];exact k1),G,⟨(show (List.length x'.1.2.1:Int)≤B2.x.mn by rw [q2];exact k3.1),(show (List.length x'.1.2.2.2.2.1:Int)≤(B2.y.take B2.fy).mn by rw [q4,PA.NC];exact k3.2)⟩,(show RB x'.1.2.2.2.2.2.2.1.1 B2.fx by rw [(show x'.1.2.2.2.2.2.2.1.1=x.1.2.2.2.2.2.2.1.1 from q8)];exact k4),g1,q5.trans k6,PB.AI k7 1⟩
 exact ⟨fun _=>⟨⟨h2,h4⟩,key⟩,fun _=>⟨⟨h2,h4⟩,key⟩⟩
noncomputable def a3N:=Sx.add 29 a1s
noncomputable def a6J:MC:=oB (Ik 1 0) a0Q a0n
theorem a8m:ab Tryz.prog 26 a6J:=cA a0F a0m
noncomputable def a4q:=a3N.add 26 a8m
noncomputable def a7G:MC:=oB (Ik 1 1) a0A ZG
theorem a7W:ab Tryz.prog 29 a7G:=cA a0P a1s
noncomputable def FM:=a4q.add 29 a7W
def OM(x:Sp.Ts [nU])(y:aZ []):Prop:=True
def a0G(x:Sp.Ts [nU])(y:aZ []):aZ [(false,[.bool])]:=((x.1.1.2.2.2.2.2.2.2.2.2.1&&x.1.2.2.2.1.2.2.2.2.2.2.2.2.2.1,()),())
noncomputable def Xc:RC:=qR [true] [nU] [] [(false,[.bool])] OM a0G
abbrev Dc:Type:=Sp.Hs [nU]
def XR(a:Sp.Ts [nU])(b c:Prop):Prop:=Q6 (Q7 (Qcv GS QJ) ji (Qcy QJ (Qn lG lG lG lG) lG)) True ((a.1,())=a) b c
def Qgv(a:Dc):a1M:=PD a.1.2.2.2.1
def S0(a:Dc):MB:=gx a.1.2.2.2.1.1
def Qgs(a:Dc):MB:=C3 a.1.1.1
def Nu(a:Dc):O8:=En a.1.2.2.2.1.1
def YA(a:Dc):O8:=tf a.1.1.1
def Qgw(a:Dc):(Sp.im [Kd.int IntKind.u8]).H×Unit×(((Sp.im [Kd.str]).H×Unit×Unit×Unit)×((Sp.im [Kd.str]).H×Unit×Unit×Unit)×Unit×Unit)×Unit×Unit:=(a.1.2.2.2.2.1,(),((a.1.2.2.2.2.2.2.1.1.1,Qj),(a.1.2.2.2.2.2.2.1.2.1.1,Qj),Qk),Qk)
def PW(a:za.T):Bool:= !a.2.2.2.2.2.2.2.2.2.1
theorem Ya:aB Tryz.prog 30 Xc:=by
 refine aD (cx Mx [17] az FM) Tryz.func30 (by kernel_rfl) (by kernel_rfl) rfl rfl rfl fun (x:Sp.Ts [nU]) h (y:aZ []) k hp=>⟨bK,400,af (q:=Q0 (PW x.1.1) (XR x ((((((),(),(),(),YA h,Qgs h),PD h.1.1,LV),h.1.2.1,(),(((),(),(),(),Nu h,S0 h),Qgv h,LV),Qgw h),())=h) ((Q8,())=a0G x y)) (Q0 (PW x.1.2.2.2.1) (XR x ((((((),(),(),(),YA h,Qgs h),PD h.1.1,LV),h.1.2.1,(),(((),(),(),(),Nu h,S0 h),Qgv h,LV),Qgw h),())=h) ((Q8,())=a0G x y)) (XR x ((((((),(),(),(),YA h,Qgs h),PD h.1.1,LV),h.1.2.1,(),(((),(),(),(),Nu h,S0 h),Qgv h,LV),Qgw h),())=h) ((Qq,())=a0G x y)))) (by kernel_rfl) ?_⟩
 delta Q7 Q6 oO lG Qn QbG Q3 Qk Q4 QJ Q0 Qj Qcy Qcv xz Mz Q5e Ye H4 VU Q8 GS ji C3 gx XR tf En LV Ro PD Qgv S0 Qgs Qq Nu YA Qgw PW;simp only [cl];have hd: ∀b,b=(x.1.1.2.2.2.2.2.2.2.2.2.1&&x.1.2.2.2.1.2.2.2.2.2.2.2.2.2.1)→((b,()),())=a0G x y:=fun b hb=>by rw [hb];rfl
 exact ⟨fun h=>hd _ (by rw [h];rfl),fun h=>⟨fun k=>hd _ (by rw [h,k];rfl),fun k=>hd _ (by rw [h,k];rfl)⟩⟩
noncomputable def HL:=az.rd 30 Ya
def UK(x:Sp.Ts [nU])(y:aZ [(false,[.int .i64])]):Prop:=y.1.1=0∨y.1.1=1
def uG(x:Sp.Ts [nU])(y:aZ [(false,[.int .i64])]):aZ [(false,[.int .i64])]:=((if y.1.1=0 then x.1.2.2.2.2.2.2.1.1.2.2.1 else x.1.2.2.2.2.2.2.1.2.1.2.2.1,()),())
noncomputable def a4i:RC:=qR [true,false] [nU] [(false,[.int .i64])] [(false,[.int .i64])] UK uG
def Qgx(a:nM)(b c:Prop):Prop:=Qz ((0:Int)≤a) (a<(2:Int)) b c
theorem a2K:aB Tryz.prog 31 a4i:=by
 refine aD (cx Mx [57,101] HL FM) Tryz.func31 (by kernel_rfl) (by kernel_rfl) rfl rfl rfl fun (x:Sp.Ts [nU]) h (y:aZ [(false,[.int .i64])]) k hp=>⟨bK,400,af (q:=Ql (decide (y.1.1<(0:Int))) (Q0 (decide ((2:Int)≤y.1.1)) False (Qgx y.1.1 (rv y→Q2l (XR x ((((((),(),(),(),YA h,Qgs h),PD h.1.1,LV),h.1.2.1,(),(((),(),(),(),Nu h,S0 h),Qgv h,LV),Qgw h),())=h) (((x.1.2.2.2.2.2.2.1.1.2.2.1,()),())=uG x y))) (y.1.1=(1:Int)→Q2l (XR x ((((((),(),(),(),YA h,Qgs h),PD h.1.1,LV),h.1.2.1,(),(((),(),(),(),Nu h,S0 h),Qgv h,LV),Qgw h),())=h) (((x.1.2.2.2.2.2.2.1.2.1.2.2.1,()),())=uG x y))))) False) (by kernel_rfl) ?_⟩
 delta Q7 Q6 oO lG Qn QbG Q3 Qk Q4 QJ Q0 Qj Qcy Qcv xz Mz Q5e Ye Ql Q2l Qz H4 VU Q3x GS ji C3 gx XR tf En LV Ro PD Qgv rv S0 Qgs Nu YA Qgw Qgx;simp only [cl];have hp:y.1.1=0∨y.1.1=1:=hp;have hd: ∀b,b=(if y.1.1=0 then x.1.2.2.2.2.2.2.1.1.2.2.1 else x.1.2.2.2.2.2.2.1.2.1.2.2.1)→((b,()),())=uG x y:=fun b hb=>by rw [hb];rfl
 refine ⟨fun h1=>⟨fun h2=>?_,fun h2=>⟨⟨Int.not_lt.1 h1,Int.not_le.1 h2⟩,fun h=>hd _ (by rw [if_pos h]),fun h=>hd _ (by rw [if_neg (by rw [h];decide)])⟩⟩,fun h1=>?_⟩
 ·rcases hp with e|e
  ·rw [e] at h2;exact absurd h2 (by decide)
  ·rw [e] at h2;exact absurd h2 (by decide)
 ·rcases hp with e|e
  ·rw [e] at h1;exact absurd h1 (by decide)
  ·rw [e] at h1;exact absurd h1 (by decide)
noncomputable def G7:=HL.rd 31 a2K
end Go.Proofs.YtfdmjoddhjmokaaGreatDoor
namespace Go.Proofs.YtfdmjoddhjmokaaGreatDoor
open Go.RowKit Rex
set_option linter.unusedVariables false
set_option linter.unusedSimpArgs false
set_option maxRecDepth 100000
def Ft(x:Sp.Ts [aM])(y:aZ [(true,[.cl (.int .i64 (1)),.int .i64,.cl (.int .i64 (0)),.cl (.int .i64 (0)),.cl (.int .u8 (0)),.cl (.int .u8 (0))])]):Prop:= ∃ (B:PB) (w:Nat),y.1.2.1=(w:Int)∧w<2∧fZ x.1 B∧B.aE w∧B.BX
def gj(x:Sp.Ts [aM])(y:aZ [(true,[.cl (.int .i64 (1)),.int .i64,.cl (.int .i64 (0)),.cl (.int .i64 (0)),.cl (.int .u8 (0)),.cl (.int .u8 (0))])])(x':Sp.Ts [aM])(z:aZ [(true,[.cl .aj,.sl [.str] 9,.bool]),(false,[.cl (.int .i64 (0))])]):Prop:= ∀ (B:PB) (w:Nat),y.1.2.1=(w:Int)→w<2→fZ x.1 B→B.aE w→fZ x'.1 (B.tick w)
noncomputable def a1i:MC:=qC [true,false] [aM] [(true,[.cl (.int .i64 (1)),.int .i64,.cl (.int .i64 (0)),.cl (.int .i64 (0)),.cl (.int .u8 (0)),.cl (.int .u8 (0))])] [(true,[.cl .aj,.sl [.str] 9,.bool]),(false,[.cl (.int .i64 (0))])] Ft gj
def Qgy(a:lM):aM.T×Sp.Ts []:=((a.1.1,a.1.2.1,(),Yu a,QfM a,(),Qfv a,RP (Qg0 a),()),())
def QgB(a:nQ)(b:qY):Prop:=kF (Qfo a) (Qfo a) b.1.2.1.1 b.1.2.1.1 b.1.2.1.2 b.1.2.1.2
def QgA(a:nQ)(b:qY):Prop:=Q5d True (Qfo a≤b.1.2.1.2) (gC b.1.2.1.1 b.1.2.1.2) True True
def Qgz:Sp.Ts (false,[Sp.cl (Lc.int IntKind.u8 (0:Int))]).snd×aZ []:=(((),()),())
def QgC(a:nQ):(Sp.cl Lc.aj).T×Sp.Ts [Sp.sl [Kd.str] (9:TypeId),Sp.bool]:=((),a.1.2.1,a.1.2.2.1,())
set_option maxHeartbeats 2000000 in
theorem a0B:ab Tryz.prog 8 a1i:=by
 refine ah (cx Mx [25] G7 FM) Tryz.func8 (by kernel_rfl) (by kernel_rfl) fun (x:Sp.Ts [aM]) h (y:aZ [(true,[.cl (.int .i64 (1)),.int .i64,.cl (.int .i64 (0)),.cl (.int .i64 (0)),.cl (.int .u8 (0)),.cl (.int .u8 (0))])]) k hf hg hp=>⟨bK,1000,af (q:=Q7 (aL IntKind.i64 (RP (Qg0 x))) (Q4 (decide (y.1.2.1<(0:Int))) (QK (decide ((2:Int)≤y.1.2.1)) (Qge x h (Qgh (QfT x h) x)) CW (gj x y (Qgy x) (((),([]:List (Row [Kd.str])),false,()),Hm)) (Qgx y.1.2.1 (Q3G (Q3x y.1.2.1) (Q3x y.1.2.1→Q5d (Qge x h (Qgh (QfT x h) x)) (Q3x y.1.2.1) lG (GB (Qgy x) (Wa,Qgz)) (∀ (va:lM) (vb:jW) (vc:nQ) (vd:qY),Cz va vb (QgA vc vd) (pF (Qgy x) (Wa,Qgz) va vc) (Q7 (Qge va vb (Qgh (QfT va vb) va)) (gk (QgB vc vd)) (gj x y (va.1,()) (QgC vc,Hm))))) (y.1.2.1≠(0:Int)→Q5d (Qge x h (Qgh (QfT x h) x)) (y.1.2.1=(1:Int)) lG (Fb (Qgy x) (((),()),Qgz)) (∀ (va:lM) (vb:jW) (vc:nQ) (vd:qY),Cz va vb (QgA vc vd) (tT (Qgy x) (((),()),Qgz) va vc) (Q7 (Qge va vb (Qgh (QfT va vb) va)) (gk (QgB vc vd)) (gj x y (va.1,()) (QgC vc,Hm)))))) (Q3G (y.1.2.1=(1:Int)) (Q3x y.1.2.1→Q5d (Qge x h (Qgh (QfT x h) x)) (Q3x y.1.2.1) lG (GB (Qgy x) (Wa,Qgz)) (∀ (va:lM) (vb:jW) (vc:nQ) (vd:qY),Cz va vb (QgA vc vd) (pF (Qgy x) (Wa,Qgz) va vc) (Q7 (Qge va vb (Qgh (QfT va vb) va)) (gk (QgB vc vd)) (gj x y (va.1,()) (QgC vc,Hm))))) (y.1.2.1≠(0:Int)→Q5d (Qge x h (Qgh (QfT x h) x)) (y.1.2.1=(1:Int)) lG (Fb (Qgy x) (((),()),Qgz)) (∀ (va:lM) (vb:jW) (vc:nQ) (vd:qY),Cz va vb (QgA vc vd) (tT (Qgy x) (((),()),Qgz) va vc) (Q7 (Qge va vb (Qgh (QfT va vb) va)) (gk (QgB vc vd)) (gj x y (va.1,()) (QgC vc,Hm))))))))) (Q3 (decide (y.1.2.1<(0:Int))) (Q7 (Qge x h (Qgh (QfT x h) x)) CW (gj x y (Qgy x) (((),([]:List (Row [Kd.str])),false,()),Hm))))) (by kernel_rfl) ?_⟩
 delta Q7 Q6 oO lG QC Qn Yy Q6r kA cR Qs Q3 ya Qr mV mJ Qff Q4 mQ cu Q6q JY Q0 Sa Qfv Q23 gC uI Qgm Qgl Qc1 CE kF QF QK WX QfX Q9l QfM K5 yC Qga Qge Cz QfT Q5d RP Qgh Qz gk Yu Qg0 Q3x Wa CW Qgy Qfo Q3G Hm QgB QgA Qgz Qgx QgC aX b7;obtain ⟨B,w,hw,hlt,hB,hT,hmv⟩:=hp;have hw:y.1.2.1=(w:Int):=hw;have hM: ∀B2,fZ x.1 B2→fZ (x.1.1,x.1.2.1,x.1.2.2.1,x.1.2.2.2.1,x.1.2.2.2.2.1,x.1.2.2.2.2.2.1,x.1.2.2.2.2.2.2.1,x.1.2.2.2.2.2.2.2.1+1,()) {B2 with mv:=B2.mv+1}:=fun B2 h=>⟨h.1,h.2.1,h.2.2.1,h.2.2.2.1,h.2.2.2.2.1,congrArg (· +1) h.2.2.2.2.2.1,h.2.2.2.2.2.2⟩
 have hO: ∀B2 w,fZ x.1 B2→B2.aE w→PB.aE w {B2 with mv:=B2.mv+1}:=fun B2 w h k=>k;obtain ⟨h0,hmv⟩:=hmv;have hxm:x.1.2.2.2.2.2.2.2.1=B.mv:=hB.2.2.2.2.2.1;simp only [cl];refine ⟨by rw [hxm];simp only [aL,aT,aU];omega,fun h1=>⟨fun h2=>?_,fun h2=>⟨⟨Int.not_lt.1 h1,Int.not_le.1 h2⟩,fun h3=>⟨fun _=>?_,fun h4=>absurd h3 h4⟩,fun h3=>⟨fun h4=>absurd (h3.symm.trans h4) (by decide),fun _=>?_⟩⟩⟩,fun h1=>?_⟩
 ·rw [hw] at h2;omega
 ·obtain rfl:w=0:=by have h5:(w:Int)=0:=hw.symm.trans h3;omega
  refine ⟨⟨hf.1.2.1.2,hf.1.2.2.2.2.1.2⟩,h3,⟨_,hM B hB,hO B 0 hB hT⟩,fun x' h' z k' a1 a2 a3 a4 b1 b2 hx=>⟨⟨a2,a4⟩,b2,fun B2 w2 hw2 hlt2 hB2 hT2=>?_⟩⟩;obtain rfl:w2=0:=by have h5:(w2:Int)=0:=(show y.1.2.1=(w2:Int) from hw2).symm.trans h3;omega
  exact hx _ (hM B2 hB2) (hO B2 0 hB2 hT2)
 ·obtain rfl:w=1:=by have h5:(w:Int)=1:=hw.symm.trans h3;omega
  refine ⟨⟨hf.1.2.1.2,hf.1.2.2.2.2.1.2⟩,h3,⟨_,hM B hB,hO B 1 hB hT⟩,fun x' h' z k' a1 a2 a3 a4 b1 b2 hx=>⟨⟨a2,a4⟩,b2,fun B2 w2 hw2 hlt2 hB2 hT2=>?_⟩⟩;obtain rfl:w2=1:=by have h5:(w2:Int)=1:=(show y.1.2.1=(w2:Int) from hw2).symm.trans h3;omega
  exact hx _ (hM B2 hB2) (hO B2 1 hB2 hT2)
 ·have h5:(w:Int)<0:=Int.lt_of_le_of_lt (Int.le_of_eq hw.symm) h1;omega
noncomputable def TV:=FM.add 8 a0B
def Ni(x:Sp.Ts [aM])(y:aZ [(true,[.cl (.int .i64 (2)),.int .i64,.cl (.int .i64 (0)),.cl (.int .i64 (0)),.cl (.int .u8 (0)),.cl (.int .u8 (0))])]):Prop:= ∃ (B:PB) (w:Nat),y.1.2.1=(w:Int)∧w<2∧fZ x.1 B∧B.bT w∧B.BX
def pX(x:Sp.Ts [aM])(y:aZ [(true,[.cl (.int .i64 (2)),.int .i64,.cl (.int .i64 (0)),.cl (.int .i64 (0)),.cl (.int .u8 (0)),.cl (.int .u8 (0))])])(x':Sp.Ts [aM])(z:aZ [(true,[.cl .aj,.cl .aj,.cl (.bool false)]),(false,[.int .i64])]):Prop:= ∀ (B:PB) (w:Nat),y.1.2.1=(w:Int)→w<2→fZ x.1 B→B.bT w→fZ x'.1 (B.take w)
noncomputable def ZO:MC:=qC [true,false] [aM] [(true,[.cl (.int .i64 (2)),.int .i64,.cl (.int .i64 (0)),.cl (.int .i64 (0)),.cl (.int .u8 (0)),.cl (.int .u8 (0))])] [(true,[.cl .aj,.cl .aj,.cl (.bool false)]),(false,[.int .i64])] Ni pX
def QgD(a:lM)(b:jW)(c d:Prop)(e:lM)(f:aZ [(true,[Sp.cl (Lc.int IntKind.i64 (2:Int)),Sp.int IntKind.i64,Sp.cl (Lc.int IntKind.i64 (0:Int)),Sp.cl (Lc.int IntKind.i64 (0:Int)),Sp.cl (Lc.int IntKind.u8 (0:Int)),Sp.cl (Lc.int IntKind.u8 (0:Int))])])(g:rW):Prop:=Cz a b mQ c (Q7 d QJ (pX e f (a.1,()) (((),(),(),()),(g.2.1.1,()),())))
set_option maxHeartbeats 2000000 in
theorem a1w:ab Tryz.prog 8 ZO:=by
 refine ah (cx Mx [25] G7 TV) Tryz.func8 (by kernel_rfl) (by kernel_rfl) fun (x:Sp.Ts [aM]) h (y:aZ [(true,[.cl (.int .i64 (2)),.int .i64,.cl (.int .i64 (0)),.cl (.int .i64 (0)),.cl (.int .u8 (0)),.cl (.int .u8 (0))])]) k hf hg hp=>⟨bK,1000,af (q:=Q7 (aL IntKind.i64 (RP (Qg0 x))) (Q4 (decide (y.1.2.1<(0:Int))) (QK (decide ((2:Int)≤y.1.2.1)) (Qge x h (Qgh (QfT x h) x)) QJ (pX x y (Qgy x) (((),(),(),()),((1:Int),()),())) (Qgx y.1.2.1 (Q3G (Q3x y.1.2.1) (Q3x y.1.2.1→Q5d (Qge x h (Qgh (QfT x h) x)) Q7H (Qgg (Q3x y.1.2.1)) (Gx (Qgy x) (((),(),Qgn),())) (∀ (va:lM) (vb:jW) (vc:rW) (vd:Bk),QgD va vb (pO (Qgy x) Qgi va vc) (Qge va vb (Qgh (QfT va vb) va)) x y vc)) (y.1.2.1≠(0:Int)→Q5d (Qge x h (Qgh (QfT x h) x)) Q7H (Qgg (y.1.2.1=(1:Int))) (GC (Qgy x) (((),(),Qgn),())) (∀ (va:lM) (vb:jW) (vc:rW) (vd:Bk),QgD va vb (pL (Qgy x) De va vc) (Qge va vb (Qgh (QfT va vb) va)) x y vc))) (Q3G (y.1.2.1=(1:Int)) (Q3x y.1.2.1→Q5d (Qge x h (Qgh (QfT x h) x)) Q7H (Qgg (Q3x y.1.2.1)) (Gx (Qgy x) (((),(),Qgn),())) (∀ (va:lM) (vb:jW) (vc:rW) (vd:Bk),QgD va vb (pO (Qgy x) Qgi va vc) (Qge va vb (Qgh (QfT va vb) va)) x y vc)) (y.1.2.1≠(0:Int)→Q5d (Qge x h (Qgh (QfT x h) x)) Q7H (Qgg (y.1.2.1=(1:Int))) (GC (Qgy x) (((),(),Qgn),())) (∀ (va:lM) (vb:jW) (vc:rW) (vd:Bk),QgD va vb (pL (Qgy x) De va vc) (Qge va vb (Qgh (QfT va vb) va)) x y vc)))))) (Q3 (decide (y.1.2.1<(0:Int))) (Q7 (Qge x h (Qgh (QfT x h) x)) QJ (pX x y (Qgy x) (((),(),(),()),((1:Int),()),()))))) (by kernel_rfl) ?_⟩
 delta Q7 Q6 oO lG QC Qn Yy Q6r QbG WC kA cR Qs Q3 ya Qr mV mJ Qff Q4 mQ QJ cu Q6q JY Q0 Sa Qfv Q23 gC uI Qgm Qgl Qc1 CE kF QF QK WX QfX Q9l QfM K5 yC Qga Qge Cz QfT Q5d RP Qgh Qz Yu Qg0 QgD Q3x Qgg Qgy Q7H Q3G Qgn Qgi De Qgx aX b7;obtain ⟨B,w,hw,hlt,hB,hT,hmv⟩:=hp;have hw:y.1.2.1=(w:Int):=hw;have hM: ∀B2,fZ x.1 B2→fZ (x.1.1,x.1.2.1,x.1.2.2.1,x.1.2.2.2.1,x.1.2.2.2.2.1,x.1.2.2.2.2.2.1,x.1.2.2.2.2.2.2.1,x.1.2.2.2.2.2.2.2.1+1,()) {B2 with mv:=B2.mv+1}:=fun B2 h=>⟨h.1,h.2.1,h.2.2.1,h.2.2.2.1,h.2.2.2.2.1,congrArg (· +1) h.2.2.2.2.2.1,h.2.2.2.2.2.2⟩
 have hO: ∀B2 w,fZ x.1 B2→B2.bT w→PB.bT w {B2 with mv:=B2.mv+1}:=fun B2 w h k=>k;obtain ⟨h0,hmv⟩:=hmv;have hxm:x.1.2.2.2.2.2.2.2.1=B.mv:=hB.2.2.2.2.2.1;simp only [cl];refine ⟨by rw [hxm];simp only [aL,aT,aU];omega,fun h1=>⟨fun h2=>?_,fun h2=>⟨⟨Int.not_lt.1 h1,Int.not_le.1 h2⟩,fun h3=>⟨fun _=>?_,fun h4=>absurd h3 h4⟩,fun h3=>⟨fun h4=>absurd (h3.symm.trans h4) (by decide),fun _=>?_⟩⟩⟩,fun h1=>?_⟩
 ·rw [hw] at h2;omega
 ·obtain rfl:w=0:=by have h5:(w:Int)=0:=hw.symm.trans h3;omega
  refine ⟨⟨hf.1.2.1.2,hf.1.2.2.2.2.1.2⟩,h3,⟨_,hM B hB,hO B 0 hB hT⟩,fun x' h' z a1 a2 a3 a4 hx=>⟨⟨a2,a4⟩,fun B2 w2 hw2 hlt2 hB2 hT2=>?_⟩⟩;obtain rfl:w2=0:=by have h5:(w2:Int)=0:=(show y.1.2.1=(w2:Int) from hw2).symm.trans h3;omega
  exact hx _ (hM B2 hB2) (hO B2 0 hB2 hT2)
 ·obtain rfl:w=1:=by have h5:(w:Int)=1:=hw.symm.trans h3;omega
  refine ⟨⟨hf.1.2.1.2,hf.1.2.2.2.2.1.2⟩,h3,⟨_,hM B hB,hO B 1 hB hT⟩,fun x' h' z a1 a2 a3 a4 hx=>⟨⟨a2,a4⟩,fun B2 w2 hw2 hlt2 hB2 hT2=>?_⟩⟩;obtain rfl:w2=1:=by have h5:(w2:Int)=1:=(show y.1.2.1=(w2:Int) from hw2).symm.trans h3;omega
  exact hx _ (hM B2 hB2) (hO B2 1 hB2 hT2)
 ·have h5:(w:Int)<0:=Int.lt_of_le_of_lt (Int.le_of_eq hw.symm) h1;omega
noncomputable def a4n:=TV.add 8 a1w
noncomputable def a7D:MC:=oB a7O a1i ZO
theorem a7c:ab Tryz.prog 8 a7D:=cA a0B a1w
noncomputable def a3P:=a4n.add 8 a7c
end Go.Proofs.YtfdmjoddhjmokaaGreatDoor
