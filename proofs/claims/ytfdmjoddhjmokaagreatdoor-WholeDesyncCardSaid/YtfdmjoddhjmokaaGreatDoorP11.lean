/- Part of the proof of WholeDesync (see the last text). Conditions: none. Own work; printed by programs of mine. -/
import Derived.Test.YtfdmjoddhjmokaaGreatDoorP10
import Derived.ProofKit
import Derived.LaidMore
namespace Go.Proofs.YtfdmjoddhjmokaaGreatDoor
open Go.RowKit Rex
set_option linter.unusedVariables false
set_option linter.unusedSimpArgs false
set_option maxRecDepth 100000
noncomputable def CS:=As.add 14 MX
noncomputable def rl:=CS.add 18 Ny
def KN(seed by_:Int):Int:=IntKind.u32.wrap ((BitVec.ofInt 32 seed ^^^ BitVec.ofInt 32 (1+by_.tmod 127)).toNat:Int)
def lP(d seed by_:Int):PB:=PB.new 10000 d (iN (n8 16 seed 584)) (iN (n8 16 (KN seed by_) 584)) true
def WQ(p:Sp.T an)(q:Sp.T aS)(B:PB):Prop:=au 0 p B.x∧au 1 q B.y∧B.oN
def dsK(p:Sp.T an)(q:Sp.T aS)(sd:List (Row [.str]))(T:PB)(v k:Nat):Prop:=k≤T.len v∧sd=(T.fl v).map (fun x=>(yE x,()))∧(∀a∈T.fl v,ia a)∧WQ p q (T.cT v k)
theorem Yx {seed by_:Int}(h1:0≤seed)(h2:seed≤4294967295)(h3:0≤by_):(0≤KN seed by_∧KN seed by_≤4294967295)∧iN (n8 16 seed 584)≠iN (n8 16 (KN seed by_) 584):=by
 obtain ⟨d,rfl⟩:=Int.eq_ofNat_of_zero_le h1;have m1:0≤by_.tmod 127:=Int.tmod_nonneg _ h3;have m2:by_.tmod 127<127:=Int.tmod_lt_of_pos _ (by decide)
 obtain ⟨v,hv⟩:=Int.eq_ofNat_of_zero_le (show 0≤1+by_.tmod 127 by omega)
 have hd:d<2^32:=by omega
 have hv1:0<v:=by omega
 have hv2:v<128:=by omega
 obtain ⟨k1,k2⟩:=Yk (x:=d) hv1 hv2;have hx:d ^^^ v<2^32:=Nat.xor_lt_two_pow hd (by omega)
 have e:KN (d:Int) by_=((d ^^^ v:Nat):Int):=by
  unfold KN;rw [hv];have:(BitVec.ofInt 32 (d:Int) ^^^ BitVec.ofInt 32 (v:Int)).toNat=d ^^^ v:=by
   rw [BitVec.toNat_xor,BitVec.ofInt_natCast,BitVec.ofInt_natCast,BitVec.toNat_ofNat,BitVec.toNat_ofNat,Nat.mod_eq_of_lt hd,Nat.mod_eq_of_lt (by omega)]
  rw [this];show ((d ^^^ v:Nat):Int)%4294967296=_;omega
 rw [e];refine ⟨⟨by omega,by omega⟩,a3O k1.symm fun c=>k2 c.symm⟩
theorem PB.a4g(v:Nat)(b:PB):(b.fl v).length=b.len v:=by unfold PB.fl PB.len;split<;>rfl
theorem a0p {sd:List (Row [.str])} {T:PB} {v k:Nat} {a:PA} {f:List AM} {t:Int}(h2:sd=(T.fl v).map (fun x=>(yE x,())))(h3: ∀a∈T.fl v,ia a)(hk:k<sd.length)(hf:(T.fl v).drop k=f)(hT:a.bT f)(hs:fg t f)(ht:a.ot=t):CJ (al sd k).1∧a.cK (aG (al sd k).1)∧((aG (al sd k).1).1=4→(aG (al sd k).1).2.2.2.2.2.1=a.ot∧ -1≤a.cm∧a.cm≤1000)∧a.take f=a.aw (aG (al sd k).1):=by
 have h1:=gP hk;rw [h2,List.getElem?_map,Option.map_eq_some_iff] at h1;obtain ⟨m,e1,e2⟩:=h1;rw [←h2] at e2;have hl:ia m:=h3 m (List.mem_of_getElem? e1);have e3:(al sd k).1=yE m:=by rw [←e2]
 have e4:aG (al sd k).1=m:=by rw [e3];exact GH hl
 have e5:f=m::(T.fl v).drop (k+1):=by
  obtain ⟨hlt,e6⟩:=List.getElem?_eq_some_iff.1 e1;rw [←hf,List.drop_eq_getElem_cons hlt,e6]
 subst e5;obtain ⟨o1,o2⟩:=hT;rw [e4];exact ⟨⟨_,_,_,_,_,_,_,hl,e3⟩,o1,fun h4=>⟨(hs m List.mem_cons_self h4).trans ht.symm,o2 h4⟩,rfl⟩
theorem BQ {sd:List (Row [.str])} {T:PB} {v:Nat}(h:sd=(T.fl v).map (fun x=>(yE x,()))):sd.length=T.len v:=by rw [h,List.length_map,PB.a4g]
theorem a1p {p:Sp.T an} {q:Sp.T aS} {sd:List (Row [.str])} {T:PB} {k:Nat}(h:dsK p q sd T 1 k)(hk:k<sd.length)(hd:T.gf 1):((∃a,au 1 q a∧a.cK (aG (al sd k).1)∧((aG (al sd k).1).1=4→(aG (al sd k).1).2.2.2.2.2.1=a.ot∧ -1≤a.cm∧a.cm≤1000))∧CJ (al sd k).1)∧
  ∀q':Sp.T aS,(∀a,au 1 q a→a.cK (aG (al sd k).1)→((aG (al sd k).1).1=4→(aG (al sd k).1).2.2.2.2.2.1=a.ot∧ -1≤a.cm∧a.cm≤1000)→au 1 q' (a.aw (aG (al sd k).1)))→dsK p q' sd T 1 (k+1):=by
 obtain ⟨h1,h2,h3,h4,h5,h6⟩:=h;have hl:=BQ h2;have hkl:k<T.len 1:=by rw [←hl];exact hk
 obtain ⟨t1,-⟩:=PB.nV (show T.qV 1 (T.len 1) from hd) hkl;have hf:(T.fl 1).drop k=(T.cT 1 k).fy:=(PB.B5 (v:=1) T k).symm;obtain ⟨m1,m2,m3,m4⟩:=a0p h2 h3 hk hf (show (T.cT 1 k).y.bT (T.cT 1 k).fy from t1) h6.2.2.2 h6.1.2;refine ⟨⟨⟨_,h5,m2,m3⟩,m1⟩,fun q' hq=>⟨hkl,h2,h3,h4,?_,PB.AI h6 1⟩⟩;show au 1 q' ((T.cT 1 k).y.take (T.cT 1 k).fy);rw [m4];exact hq _ h5 m2 m3
theorem Zx {p:Sp.T an} {q:Sp.T aS} {sd:List (Row [.str])} {T:PB} {k:Nat}(h:dsK p q sd T 0 k)(hk:k<sd.length)(hd:T.gf 0):((∃a,au 0 p a∧a.cK (aG (al sd k).1)∧((aG (al sd k).1).1=4→(aG (al sd k).1).2.2.2.2.2.1=a.ot∧ -1≤a.cm∧a.cm≤1000))∧CJ (al sd k).1)∧
  ∀p':Sp.T an,(∀a,au 0 p a→a.cK (aG (al sd k).1)→((aG (al sd k).1).1=4→(aG (al sd k).1).2.2.2.2.2.1=a.ot∧ -1≤a.cm∧a.cm≤1000)→au 0 p' (a.aw (aG (al sd k).1)))→dsK p' q sd T 0 (k+1):=by
 obtain ⟨h1,h2,h3,h4,h5,h6⟩:=h;have hl:=BQ h2;have hkl:k<T.len 0:=by rw [←hl];exact hk
 obtain ⟨t1,-⟩:=PB.nV (show T.qV 0 (T.len 0) from hd) hkl;have hf:(T.fl 0).drop k=(T.cT 0 k).fx:=(PB.B5 (v:=0) T k).symm;obtain ⟨m1,m2,m3,m4⟩:=a0p h2 h3 hk hf (show (T.cT 0 k).x.bT (T.cT 0 k).fx from t1) h6.2.2.1 h6.1.1;refine ⟨⟨⟨_,h4,m2,m3⟩,m1⟩,fun p' hp=>⟨hkl,h2,h3,?_,h5,PB.AI h6 0⟩⟩;show au 0 p' ((T.cT 0 k).x.take (T.cT 0 k).fx);rw [m4];exact hp _ h4 m2 m3
theorem a4m {d:Int}(seed by_:Int)(h:0≤d∧d≤8):(lP d seed by_).GA 120∧ ∃E:PB,(lP d seed by_).cj 120=E∧E.x.hl=true∧E.y.hl=true∧E.x.rs=13∧E.y.rs=13∧E.x.aE:=by
 unfold lP;obtain ⟨G1,G2,G3,G4,G5,G6⟩:=a1R (iN (n8 16 seed 584)) (iN (n8 16 (KN seed by_) 584)) h;rw [PB.Fi] at G2 G3 G4 G5 G6;exact ⟨PB.Nq 120 G1,_,rfl,G2,G3,G4,G5,of_decide_eq_true G6⟩
theorem PA.VO {a:PA}(h:a.hl=true):a.tick.1.cm=a.cm:=by unfold PA.tick;rw [if_pos h]
noncomputable def rC:FC:=fun us=>match us with
 | [.v (.agg [.int .u32 _ s_seed,.int .i64 _ s_delay,.int .i64 _ s_window,.int .i64 _ s_me,.int .u32 _ s_nonce,.int .i64 _ s_pat,.int .i64 _ s_ent,.int .i64 _ s_voi]),.v (.one (.int .u8 _ by_))]=>some (some ((0≤s_seed∧s_seed≤4294967295)∧0≤by_∧by_≤255),.v (.one (.bool true (true))))
 |_=>none
abbrev Va:Type:=Nat×an.T×an.T
abbrev Cl:Type:=Nat×Nat×an.T×an.T
abbrev jT:Type:=Nat×Nat×Nat×an.T×an.T×List (Row [Kd.str])×Bool×Nat×Bool
def Qhb(a:jT):NI:=a.2.2.2.2.2.1
def Qha(a:jT):Nat:=(Qhb a).length
def WO(a:jT):Nat:=a.2.2.2.2.2.2.2.1
def Qh8(a:jT):Bool:=a.2.2.2.2.2.2.1
def OE(a:gJ)(b:jT)(c:gJ)(d:Bool)(e f:Nat)(g i:Prop):Prop:=QfN a b.2.2.2.1 c b.2.2.2.2.1 (Qn JY (Q10 (iZ d (Qh8 b) e (Qha b) f (WO b)) g) i True)
def Qhh(a:gJ)(b:jT)(c:gJ)(d:jT)(e:Prop):Prop:=OE a b c (Qh8 d) (Qha d) (WO d) (d.2.2.2.2.2.2.2.2=b.2.2.2.2.2.2.2.2) e
def Qh6(a:Nat)(b c d:Int)(e:Nat):PB:=(PB.cj a (lP b c d)).half e
def Qhk(a:jT)(b:Jb)(c:rW)(d:Prop):Prop:=Q9l CE mQ (iv (a.2.2.2.1,()) (((al (Qhb a) (sY a.2.2.1)).1,()),()) b c) (Q7 JY (QE (↑a.2.2.1:Int)) d)
def Qhf(a:jT)(b:Jb)(c:rW)(d:Prop):Prop:=Q9l CE mQ (iJ (a.2.2.2.2.1,()) (((al (Qhb a) (sY a.2.2.1)).1,()),()) b c) (Q7 JY (QE (↑a.2.2.1:Int)) d)
def Qhc(a:jT)(b c d:Int):Prop:=Qn (a.1<(120:Nat)) (a.2.1<(2:Nat)) (gC (Qh8 a) (WO a)) (dsK a.2.2.2.1 a.2.2.2.2.1 (Qhb a) (PB.tick a.2.1 (Qh6 a.1 b c d a.2.1)) ((1:Nat)-a.2.1) a.2.2.1)
def Qh5(a b c d e f:Int)(g:cI)(i:a1F)(j:Prop):Prop:=K1 CE (jM () ((IntKind.u32.wrap (↑((BitVec.ofInt (32:Nat) a) ^^^ (BitVec.ofInt (32:Nat) ((1:Int)+b.tmod (127:Int)))).toNat:Int),c,d,(),(2:Int),(10000:Int),e,f,()),()) g i) j
def Qhg(a b:jT)(c d e:Prop)(f:Cl):Prop:=E4 (mV (K5 (xG a.1 b.1) c (ku a.2.2.1 b.2.2.1) True)∧d) e (xG f.1 b.1) (xG f.2.1 b.2.1) (Qha b) b.2.2.1 (Qha a) a.2.2.1
def Qhi(a b:jT):Prop:=oE (Qh8 a) (Qh8 b) (WO a) (WO b) (List.take (Qha b) (Qhb a)=Qhb b)
def Qhd(a b:Prop)(c:Cl)(d:jT)(e f g:Prop):Prop:=Q7 a b (xG c.2.1 d.2.1)→QK (lV d.2.2.1 (Qha d)) (Q4C d.2.1 (2:Int)) (oO (↑d.2.1:Int)→e) ((↑d.2.1:Int)=(1:Int)→f) (Na d.2.1 g)
def Qhj(a:jT)(b:Prop):Prop:=Qn JY (ny a.2.2.1 (Qha a)) (F7 a.2.2.1 (Qha a)) (K5 JY (aX a.2.2.2.1) (rS (a.2.2.2.1,()) (((al (Qhb a) (sY a.2.2.1)).1,()),())) b)
def Qhe(a:jT)(b:Prop):Prop:=Qn JY (ny a.2.2.1 (Qha a)) (F7 a.2.2.1 (Qha a)) (K5 JY (b7 a.2.2.2.2.1) (sI (a.2.2.2.2.1,()) (((al (Qhb a) (sY a.2.2.1)).1,()),())) b)
def Qhl(a:jT)(b:Cl)(c:PB)(d:Va):Prop:=Qz (Q2l (Yw True a.1 b.1 (ku a.2.1 b.2.1))) (QfN a.2.2.2.1 b.2.2.1 a.2.2.2.2.1 b.2.2.2 (ya JY)) (QgO b.1 (120:Nat) b.2.1 (WQ b.2.2.1 b.2.2.2 c)) (xG d.1 b.1)
def Qhn(a b:Prop)(c d e f:Int):Prop:=W9 a b (¬(Qt c∧H8 (c≤(8:Int)) ((1:Int)≤d) (d≤(16:Int)) ((1:Int)≤(10000:Int)) ((10000:Int)≤(10000:Int)) ((1:Int)≤e) (e≤(256:Int)) ((1:Int)≤f) (f≤(16:Int))))
def Qh4(a b c d e f:Int)(g i:Prop):Prop:=Q14 Q5e (wk () ((IntKind.u32.wrap (↑((BitVec.ofInt (32:Nat) a) ^^^ (BitVec.ofInt (32:Nat) ((1:Int)+b.tmod (127:Int)))).toNat:Int),c,d,(),(2:Int),(10000:Int),e,f,()),())) g∨Q14 Q5e (Qhn ((0:Int)≤(2:Int)) ((2:Int)≤(4294967295:Int)) c d e f) i
def Qhm(a:gJ):Bool:=tn a==(13:Int)
set_option maxHeartbeats 4000000 in
theorem zY(s_seed:Int)(s_delay:Int)(s_window:Int)(s_me:Int)(s_nonce:Int)(s_pat:Int)(s_ent:Int)(s_voi:Int)(by_:Int):goal ⟨Mx,Tryz.prog,SZ.l,rl.l,B0,none,false,[17,10,11],none⟩ (fun bk=>match bk with|0=>some {S:=Nat×Sp.T an×Sp.T aS,st:=fun s=>⟨jk [(6,.v (.one (.ptr 0 0))),(1,.v (.one (.ptr 27 0))),(1,.v (.one (.ptr 54 0))),(0,.v (.one (.int .i64 false ((s.1:Int)))))] 138,aW false [an] (s.2.1,()) ((((),(),(),(),(((),(),()),((),(),()),(),(),()),(((),(),()),((),(),()),(),(),()),((),(),()),(),()),((),(),(),(),(),(),((),(),(),()),(),(),((),(),(),()),(),(),(),()),((),(),(),(),(),()),((),(),(),()),((),()),((),(),(),(),()),(),(),(),(),(),(),()),()) 0 0++(aW false [aS] (s.2.2,()) ((((),(),(),(),(((),(),()),((),(),()),(),(),()),(((),(),()),((),(),()),(),(),()),((),(),()),(),()),((),(),(),(),(),(),((),(),(),()),(),(),((),(),(),()),(),(),(),()),((),(),(),(),(),()),((),(),(),()),((),()),((),(),(),(),()),(),(),(),(),(),(),()),()) 27 0++ [some (.cells [.ptr 0 0,.ptr 27 0] 51)])⟩,ok:=fun s=>s.1≤120∧WQ s.2.1 s.2.2 ((lP s_delay s_seed by_).cj s.1),mu:=fun s=>120-s.1,init:=(0,((0,0,0,(),((0,[],()),(0,[],()),0,(),()),((0,[],()),(0,[],()),0,(),()),(0,[],()),0,()),(0,0,0,(),0,0,([],0,0,()),0,0,([],0,0,()),0,0,0,()),(0,0,([],0),0,false,()),(0,(),(),()),((),()),((),(),(),(),()),([],0),([],0),0,false,0,(),()),((0,0,0,(),((0,[],()),(0,[],()),0,(),()),((0,[],()),(0,[],()),0,(),()),(0,[],()),0,()),(0,0,0,(),0,0,([],0,0,()),0,0,([],0,0,()),0,0,0,()),(0,0,([],0),0,false,()),(0,(),(),()),((),()),((),(),(),(),()),([],0),([],0),0,false,0,(),())),ex:=true}|2=>some {S:=Nat×Nat×Sp.T an×Sp.T aS,st:=fun s=>⟨jk [(6,.v (.one (.ptr 0 0))),(1,.v (.one (.ptr 27 0))),(1,.v (.one (.ptr 54 0))),(0,.v (.one (.int .i64 false ((s.1:Int))))),(0,.v (.one (.int .i64 false ((s.2.1:Int)))))] 138,aW false [an] (s.2.2.1,()) ((((),(),(),(),(((),(),()),((),(),()),(),(),()),(((),(),()),((),(),()),(),(),()),((),(),()),(),()),((),(),(),(),(),(),((),(),(),()),(),(),((),(),(),()),(),(),(),()),((),(),(),(),(),()),((),(),(),()),((),()),((),(),(),(),()),(),(),(),(),(),(),()),()) 0 0++(aW false [aS] (s.2.2.2,()) ((((),(),(),(),(((),(),()),((),(),()),(),(),()),(((),(),()),((),(),()),(),(),()),((),(),()),(),()),((),(),(),(),(),(),((),(),(),()),(),(),((),(),(),()),(),(),(),()),((),(),(),(),(),()),((),(),(),()),((),()),((),(),(),(),()),(),(),(),(),(),(),()),()) 27 0++ [some (.cells [.ptr 0 0,.ptr 27 0] 51)])⟩,ok:=fun s=>s.1<120∧s.2.1≤2∧WQ s.2.2.1 s.2.2.2 (((lP s_delay s_seed by_).cj s.1).half s.2.1),mu:=fun s=>2-s.2.1,init:=(0,0,((0,0,0,(),((0,[],()),(0,[],()),0,(),()),((0,[],()),(0,[],()),0,(),()),(0,[],()),0,()),(0,0,0,(),0,0,([],0,0,()),0,0,([],0,0,()),0,0,0,()),(0,0,([],0),0,false,()),(0,(),(),()),((),()),((),(),(),(),()),([],0),([],0),0,false,0,(),()),((0,0,0,(),((0,[],()),(0,[],()),0,(),()),((0,[],()),(0,[],()),0,(),()),(0,[],()),0,()),(0,0,0,(),0,0,([],0,0,()),0,0,([],0,0,()),0,0,0,()),(0,0,([],0),0,false,()),(0,(),(),()),((),()),((),(),(),(),()),([],0),([],0),0,false,0,(),())),ex:=true,tie:=some (fun σ s=>match (σ.tm[11]? :Option SV) with|some (.v (.one (.int _ _ n)))=>n=(s.1:Int)|_=>False)}|4=>some {S:=Nat×Nat×Nat×Sp.T an×Sp.T aS×List (Row [.str])×Bool×Nat×Bool,st:=fun s=>⟨jk [(6,.v (.one (.ptr 0 0))),(1,.v (.one (.ptr 27 0))),(1,.v (.one (.ptr 54 0))),(0,.v (.one (.int .i64 false ((s.1:Int))))),(0,.v (.one (.int .i64 false ((s.2.1:Int))))),(0,.v (.one (.ptr 55 0))),(1,.v (.one (.int .i64 false ((s.2.2.1:Int)))))] 138,aW false [an] (s.2.2.2.1,()) ((((),(),(),(),(((),(),()),((),(),()),(),(),()),(((),(),()),((),(),()),(),(),()),((),(),()),(),()),((),(),(),(),(),(),((),(),(),()),(),(),((),(),(),()),(),(),(),()),((),(),(),(),(),()),((),(),(),()),((),()),((),(),(),(),()),(),(),(),(),(),(),()),()) 0 0++(aW false [aS] (s.2.2.2.2.1,()) ((((),(),(),(),(((),(),()),((),(),()),(),(),()),(((),(),()),((),(),()),(),(),()),((),(),()),(),()),((),(),(),(),(),(),((),(),(),()),(),(),((),(),(),()),(),(),(),()),((),(),(),(),(),()),((),(),(),()),((),()),((),(),(),(),()),(),(),(),(),(),(),()),()) 27 0++ [some (.cells [.ptr 0 0,.ptr 27 0] 51),some (.cells [.aj,.rs s.2.2.2.2.2.2.1 0 56 0 1 0 (List.length s.2.2.2.2.2.1) s.2.2.2.2.2.2.2.1,.bool false s.2.2.2.2.2.2.2.2] 37),some (.rows false s.2.2.2.2.2.2.1 [.str] s.2.2.2.2.2.1 0 s.2.2.2.2.2.2.2.1 9)])⟩,ok:=fun s=>s.1<120∧s.2.1<2∧(s.2.2.2.2.2.2.1=true→s.2.2.2.2.2.2.2.1=0)∧dsK s.2.2.2.1 s.2.2.2.2.1 s.2.2.2.2.2.1 ((((lP s_delay s_seed by_).cj s.1).half s.2.1).tick s.2.1) (1-s.2.1) s.2.2.1,mu:=fun s=>(List.length s.2.2.2.2.2.1-s.2.2.1),init:=(0,0,0,((0,0,0,(),((0,[],()),(0,[],()),0,(),()),((0,[],()),(0,[],()),0,(),()),(0,[],()),0,()),(0,0,0,(),0,0,([],0,0,()),0,0,([],0,0,()),0,0,0,()),(0,0,([],0),0,false,()),(0,(),(),()),((),()),((),(),(),(),()),([],0),([],0),0,false,0,(),()),((0,0,0,(),((0,[],()),(0,[],()),0,(),()),((0,[],()),(0,[],()),0,(),()),(0,[],()),0,()),(0,0,0,(),0,0,([],0,0,()),0,0,([],0,0,()),0,0,0,()),(0,0,([],0),0,false,()),(0,(),(),()),((),()),((),(),(),(),()),([],0),([],0),0,false,0,(),()),[],false,0,false),ex:=true,tie:=some (fun σ s=>(match (σ.tm[11]? :Option SV) with|some (.v (.one (.int _ _ n)))=>n=(s.1:Int)|_=>False)∧(match (σ.tm[12]? :Option SV) with|some (.v (.one (.int _ _ n)))=>n=(s.2.1:Int)|_=>False))}|600025=>some {S:=Unit,st:=fun s=>⟨jk [(12,.v (.one (.ptr 2 0)))] 20,[]⟩,ok:=fun s=>True,mu:=fun s=>0,init:=()}|700025=>some {S:=Unit,st:=fun s=>⟨[.v (.one (.ptr 54 0))],[]⟩,ok:=fun s=>True,mu:=fun s=>0,init:=()}|_=>none) 100 Tryz.f4 [.v (.agg [.int .u32 false s_seed,.int .i64 false s_delay,.int .i64 false s_window,.int .i64 false s_me,.int .u32 false s_nonce,.int .i64 false s_pat,.int .i64 false s_ent,.int .i64 false s_voi]),.v (.one (.int .u8 false by_))] [] (fun r _=>dm mW r (.v (.one (.bool true (true)))))=(Q7 (aL IntKind.u8 ((1:Int)+by_.tmod (127:Int))) (tp ((1:Int)+by_.tmod (127:Int))) (Qbc True (uZ () ((s_seed,s_delay,s_window,(),(1:Int),(10000:Int),s_ent,s_voi,()),())) (∀ (va:cI) (vb:ck) (vc:a1F) (vd:a0M),K1 CE (np () ((s_seed,s_delay,s_window,(),(1:Int),(10000:Int),s_ent,s_voi,()),()) va vc) (Qh4 s_seed by_ s_delay s_window s_ent s_voi (∀ (ve:cI) (vf:ck) (vg:a1A) (vi:a0d),Qh5 s_seed by_ s_delay s_window s_ent s_voi ve vg ((∃ (vj:Va),Qz (Qf True (RU vj.1) True) (QfN vc.1.1 vj.2.1 vg.1.1 vj.2.2 (ya JY)) (vj.1≤(120:Nat)) (WQ vj.2.1 vj.2.2 (PB.cj vj.1 (lP s_delay s_seed by_))))∧(∀ (vj:Va),kQ (vj.1≤(120:Nat)∧WQ vj.2.1 vj.2.2 (PB.cj vj.1 (lP s_delay s_seed by_))) (decide ((↑vj.1:Int)<(120:Int))) (∃ (vl:Cl),Qz (Q2l (Yw True vj.1 vl.1 (RU vl.2.1))) (QfN vj.2.1 vl.2.2.1 vj.2.2 vl.2.2.2 (ya JY)) (QgO vl.1 (120:Nat) vl.2.1 (WQ vl.2.2.1 vl.2.2.2 (Qh6 vl.1 s_delay s_seed by_ vl.2.1))) (xG vj.1 vl.1)) (∀ (vl:Cl),QgO vl.1 (120:Nat) vl.2.1 (WQ vl.2.2.1 vl.2.2.2 (Qh6 vl.1 s_delay s_seed by_ vl.2.1))∧xG vj.1 vl.1→QK (decide ((↑vl.2.1:Int)<(2:Int))) (Q4C vl.2.1 (2:Int)) (oO (↑vl.2.1:Int)→Qbc (aX vl.2.2.1) (zM (vl.2.2.1,()) mB) (∀ (vm:Jb) (vn:B6) (vo:nQ) (vp:qY),VB vo vp (kM (vl.2.2.1,()) mB vm vo) ((∃ (vq:jT),lN (mV (K5 (xG vl.1 vq.1) (xG vl.2.1 vq.2.1) (RU vq.2.2.1) True)) (OE vm.1 vq vl.2.2.2 vp.1.2.1.1 (Qfo vo) vp.1.2.1.2 (vo.1.2.2.1=vq.2.2.2.2.2.2.2.2) (oE vp.1.2.1.1 (Qh8 vq) vp.1.2.1.2 (WO vq) (List.take (Qha vq) vo.1.2.1=Qhb vq))) (Qhc vq s_delay s_seed by_) (xG vl.1 vq.1) (xG vl.2.1 vq.2.1))∧(∀ (vq:jT),Qhd (Qhc vq s_delay s_seed by_) (xG vl.1 vq.1) vl vq (Qhe vq (∀ (vr:Er) (vs:DG) (vt:rW) (vu:Bk),Qhf vq vr vt (∃ (vw:jT),Qhg vq vw (RU vw.2.1) (Qhh vq.2.2.2.1 vw vr.1 vq (Qhi vq vw)) (Qhc vw s_delay s_seed by_) vl))) (Qhj vq (∀ (vr:Jb) (vs:B6) (vt:rW) (vu:Bk),Qhk vq vr vt (∃ (vw:jT),Qhg vq vw (yG (1:Int) vw.2.1) (Qhh vr.1 vw vq.2.2.2.2.1 vq (Qhi vq vw)) (Qhc vw s_delay s_seed by_) vl))) (∃ (vr:Cl),Q2D (Qhl vq vr (Qh6 vr.1 s_delay s_seed by_ vr.2.1) vj) (2:Nat) vr.2.1 (2:Nat) vl.2.1))))) ((↑vl.2.1:Int)=(1:Int)→Qbc (b7 vl.2.2.2) (sF (vl.2.2.2,()) mB) (∀ (vm:Er) (vn:DG) (vo:nQ) (vp:qY),VB vo vp (iB (vl.2.2.2,()) mB vm vo) ((∃ (vq:jT),lN (mV (K5 (xG vl.1 vq.1) (xG vl.2.1 vq.2.1) (RU vq.2.2.1) True)) (OE vl.2.2.1 vq vm.1 vp.1.2.1.1 (Qfo vo) vp.1.2.1.2 (vo.1.2.2.1=vq.2.2.2.2.2.2.2.2) (oE vp.1.2.1.1 (Qh8 vq) vp.1.2.1.2 (WO vq) (List.take (Qha vq) vo.1.2.1=Qhb vq))) (Qhc vq s_delay s_seed by_) (xG vl.1 vq.1) (xG vl.2.1 vq.2.1))∧(∀ (vq:jT),Qhd (Qhc vq s_delay s_seed by_) (xG vl.1 vq.1) vl vq (Qhe vq (∀ (vr:Er) (vs:DG) (vt:rW) (vu:Bk),Qhf vq vr vt (∃ (vw:jT),Qhg vq vw (RU vw.2.1) (Qhh vq.2.2.2.1 vw vr.1 vq (Qhi vq vw)) (Qhc vw s_delay s_seed by_) vl))) (Qhj vq (∀ (vr:Jb) (vs:B6) (vt:rW) (vu:Bk),Qhk vq vr vt (∃ (vw:jT),Qhg vq vw (yG (1:Int) vw.2.1) (Qhh vr.1 vw vq.2.2.2.2.1 vq (Qhi vq vw)) (Qhc vw s_delay s_seed by_) vl))) (∃ (vr:Cl),Q2D (Qhl vq vr (Qh6 vr.1 s_delay s_seed by_ vr.2.1) vj) (2:Nat) vr.2.1 (2:Nat) vl.2.1))))) (Na vl.1 (∃ (vm:Va),Q2D (Qz (Qf True (ku vl.1 vm.1) True) (QfN vl.2.2.1 vm.2.1 vl.2.2.2 vm.2.2 (ya JY)) (vm.1≤(120:Nat)) (WQ vm.2.1 vm.2.2 (PB.cj vm.1 (lP s_delay s_seed by_)))) (120:Nat) vm.1 (120:Nat) vj.1))) (QbG (O5 vj.2.1) (aX vj.2.1) (zM (vj.2.1,()) mB) (∀ (vl:Jb) (vm:B6) (vn:nQ) (vo:qY),VB vn vo (kM (vj.2.1,()) mB vl vn) (Q3G (Ly vj.2.1=true) (Ly vj.2.2=true→Q0 (Qhm vj.2.1) (QK (Qhm vj.2.2) (O5 vl.1) (Q3 (Qh3 vl.1==Qh3 vj.2.1) (Q6m True (∀ (vp:gy) (vq:lC) (vr:qh) (vs:re),Q3j Q6n (Qn (vp.1.2.2.2.1=Qh3 vl.1) (vp.1.2.2.2.2.1=vl.1.2.2.1.2.2.2.2.1) (vp.1.1=vl.1.2.2.1.1) (vp.1.2.2.1.1=vl.1.2.2.1.2.2.1.1)) Q44))) (Q4 (Qh3 vl.1==Qh3 vj.2.1) uL) uL) uL) (Ly vj.2.2=false→uL)∧(Ly vj.2.1=false→uL))))))) (∀ (ve:cI) (vf:ck) (vg:dV) (vi:fH),RE True uL)))∨Qbc True (Qhn ((0:Int)≤(1:Int)) ((1:Int)≤(4294967295:Int)) s_delay s_window s_ent s_voi) (∀ (va:cI) (vb:ck) (vc:dV) (vd:fH),RE True (Qh4 s_seed by_ s_delay s_window s_ent s_voi (∀ (ve:cI) (vf:ck) (vg:a1A) (vi:a0d),Qh5 s_seed by_ s_delay s_window s_ent s_voi ve vg uL) (∀ (ve:cI) (vf:ck) (vg:dV) (vi:fH),RE True Q44))))):=by kernel_rfl
set_option maxHeartbeats 4000000 in
theorem CR:bf Tryz.prog 4 rC:=by
 refine bB (cx Mx [17,10,11] SZ rl) Tryz.func4 (by kernel_rfl) (by kernel_rfl) ?_
 intro us p v h hp;unfold rC at h;split at h
 ·rename_i k0 s_seed k1 s_delay k2 s_window k3 s_me k4 s_nonce k5 s_pat k6 s_ent k7 s_voi k8 by_;cases h;have hp:(0≤s_seed∧s_seed≤4294967295)∧0≤by_∧by_≤255:=hp;refine ⟨rfl,(fun bk=>match bk with|0=>some {S:=Nat×Sp.T an×Sp.T aS,st:=fun s=>⟨jk [(6,.v (.one (.ptr 0 0))),(1,.v (.one (.ptr 27 0))),(1,.v (.one (.ptr 54 0))),(0,.v (.one (.int .i64 false ((s.1:Int)))))] 138,aW false [an] (s.2.1,()) ((((),(),(),(),(((),(),()),((),(),()),(),(),()),(((),(),()),((),(),()),(),(),()),((),(),()),(),()),((),(),(),(),(),(),((),(),(),()),(),(),((),(),(),()),(),(),(),()),((),(),(),(),(),()),((),(),(),()),((),()),((),(),(),(),()),(),(),(),(),(),(),()),()) 0 0++(aW false [aS] (s.2.2,()) ((((),(),(),(),(((),(),()),((),(),()),(),(),()),(((),(),()),((),(),()),(),(),()),((),(),()),(),()),((),(),(),(),(),(),((),(),(),()),(),(),((),(),(),()),(),(),(),()),((),(),(),(),(),()),((),(),(),()),((),()),((),(),(),(),()),(),(),(),(),(),(),()),()) 27 0++ [some (.cells [.ptr 0 0,.ptr 27 0] 51)])⟩,ok:=fun s=>s.1≤120∧WQ s.2.1 s.2.2 ((lP s_delay s_seed by_).cj s.1),mu:=fun s=>120-s.1,init:=(0,((0,0,0,(),((0,[],()),(0,[],()),0,(),()),((0,[],()),(0,[],()),0,(),()),(0,[],()),0,()),(0,0,0,(),0,0,([],0,0,()),0,0,([],0,0,()),0,0,0,()),(0,0,([],0),0,false,()),(0,(),(),()),((),()),((),(),(),(),()),([],0),([],0),0,false,0,(),()),((0,0,0,(),((0,[],()),(0,[],()),0,(),()),((0,[],()),(0,[],()),0,(),()),(0,[],()),0,()),(0,0,0,(),0,0,([],0,0,()),0,0,([],0,0,()),0,0,0,()),(0,0,([],0),0,false,()),(0,(),(),()),((),()),((),(),(),(),()),([],0),([],0),0,false,0,(),())),ex:=true}|2=>some {S:=Nat×Nat×Sp.T an×Sp.T aS,st:=fun s=>⟨jk [(6,.v (.one (.ptr 0 0))),(1,.v (.one (.ptr 27 0))),(1,.v (.one (.ptr 54 0))),(0,.v (.one (.int .i64 false ((s.1:Int))))),(0,.v (.one (.int .i64 false ((s.2.1:Int)))))] 138,aW false [an] (s.2.2.1,()) ((((),(),(),(),(((),(),()),((),(),()),(),(),()),(((),(),()),((),(),()),(),(),()),((),(),()),(),()),((),(),(),(),(),(),((),(),(),()),(),(),((),(),(),()),(),(),(),()),((),(),(),(),(),()),((),(),(),()),((),()),((),(),(),(),()),(),(),(),(),(),(),()),()) 0 0++(aW false [aS] (s.2.2.2,()) ((((),(),(),(),(((),(),()),((),(),()),(),(),()),(((),(),()),((),(),()),(),(),()),((),(),()),(),()),((),(),(),(),(),(),((),(),(),()),(),(),((),(),(),()),(),(),(),()),((),(),(),(),(),()),((),(),(),()),((),()),((),(),(),(),()),(),(),(),(),(),(),()),()) 27 0++ [some (.cells [.ptr 0 0,.ptr 27 0] 51)])⟩,ok:=fun s=>s.1<120∧s.2.1≤2∧WQ s.2.2.1 s.2.2.2 (((lP s_delay s_seed by_).cj s.1).half s.2.1),mu:=fun s=>2-s.2.1,init:=(0,0,((0,0,0,(),((0,[],()),(0,[],()),0,(),()),((0,[],()),(0,[],()),0,(),()),(0,[],()),0,()),(0,0,0,(),0,0,([],0,0,()),0,0,([],0,0,()),0,0,0,()),(0,0,([],0),0,false,()),(0,(),(),()),((),()),((),(),(),(),()),([],0),([],0),0,false,0,(),()),((0,0,0,(),((0,[],()),(0,[],()),0,(),()),((0,[],()),(0,[],()),0,(),()),(0,[],()),0,()),(0,0,0,(),0,0,([],0,0,()),0,0,([],0,0,()),0,0,0,()),(0,0,([],0),0,false,()),(0,(),(),()),((),()),((),(),(),(),()),([],0),([],0),0,false,0,(),())),ex:=true,tie:=some (fun σ s=>match (σ.tm[11]? :Option SV) with|some (.v (.one (.int _ _ n)))=>n=(s.1:Int)|_=>False)}|4=>some {S:=Nat×Nat×Nat×Sp.T an×Sp.T aS×List (Row [.str])×Bool×Nat×Bool,st:=fun s=>⟨jk [(6,.v (.one (.ptr 0 0))),(1,.v (.one (.ptr 27 0))),(1,.v (.one (.ptr 54 0))),(0,.v (.one (.int .i64 false ((s.1:Int))))),(0,.v (.one (.int .i64 false ((s.2.1:Int))))),(0,.v (.one (.ptr 55 0))),(1,.v (.one (.int .i64 false ((s.2.2.1:Int)))))] 138,aW false [an] (s.2.2.2.1,()) ((((),(),(),(),(((),(),()),((),(),()),(),(),()),(((),(),()),((),(),()),(),(),()),((),(),()),(),()),((),(),(),(),(),(),((),(),(),()),(),(),((),(),(),()),(),(),(),()),((),(),(),(),(),()),((),(),(),()),((),()),((),(),(),(),()),(),(),(),(),(),(),()),()) 0 0++(aW false [aS] (s.2.2.2.2.1,()) ((((),(),(),(),(((),(),()),((),(),()),(),(),()),(((),(),()),((),(),()),(),(),()),((),(),()),(),()),((),(),(),(),(),(),((),(),(),()),(),(),((),(),(),()),(),(),(),()),((),(),(),(),(),()),((),(),(),()),((),()),((),(),(),(),()),(),(),(),(),(),(),()),()) 27 0++ [some (.cells [.ptr 0 0,.ptr 27 0] 51),some (.cells [.aj,.rs s.2.2.2.2.2.2.1 0 56 0 1 0 (List.length s.2.2.2.2.2.1) s.2.2.2.2.2.2.2.1,.bool false s.2.2.2.2.2.2.2.2] 37),some (.rows false s.2.2.2.2.2.2.1 [.str] s.2.2.2.2.2.1 0 s.2.2.2.2.2.2.2.1 9)])⟩,ok:=fun s=>s.1<120∧s.2.1<2∧(s.2.2.2.2.2.2.1=true→s.2.2.2.2.2.2.2.1=0)∧dsK s.2.2.2.1 s.2.2.2.2.1 s.2.2.2.2.2.1 ((((lP s_delay s_seed by_).cj s.1).half s.2.1).tick s.2.1) (1-s.2.1) s.2.2.1,mu:=fun s=>(List.length s.2.2.2.2.2.1-s.2.2.1),init:=(0,0,0,((0,0,0,(),((0,[],()),(0,[],()),0,(),()),((0,[],()),(0,[],()),0,(),()),(0,[],()),0,()),(0,0,0,(),0,0,([],0,0,()),0,0,([],0,0,()),0,0,0,()),(0,0,([],0),0,false,()),(0,(),(),()),((),()),((),(),(),(),()),([],0),([],0),0,false,0,(),()),((0,0,0,(),((0,[],()),(0,[],()),0,(),()),((0,[],()),(0,[],()),0,(),()),(0,[],()),0,()),(0,0,0,(),0,0,([],0,0,()),0,0,([],0,0,()),0,0,0,()),(0,0,([],0),0,false,()),(0,(),(),()),((),()),((),(),(),(),()),([],0),([],0),0,false,0,(),()),[],false,0,false),ex:=true,tie:=some (fun σ s=>(match (σ.tm[11]? :Option SV) with|some (.v (.one (.int _ _ n)))=>n=(s.1:Int)|_=>False)∧(match (σ.tm[12]? :Option SV) with|some (.v (.one (.int _ _ n)))=>n=(s.2.1:Int)|_=>False))}|600025=>some {S:=Unit,st:=fun s=>⟨jk [(12,.v (.one (.ptr 2 0)))] 20,[]⟩,ok:=fun s=>True,mu:=fun s=>0,init:=()}|700025=>some {S:=Unit,st:=fun s=>⟨[.v (.one (.ptr 54 0))],[]⟩,ok:=fun s=>True,mu:=fun s=>0,init:=()}|_=>none),100,[.v (.agg [.int .u32 false s_seed,.int .i64 false s_delay,.int .i64 false s_window,.int .i64 false s_me,.int .u32 false s_nonce,.int .i64 false s_pat,.int .i64 false s_ent,.int .i64 false s_voi]),.v (.one (.int .u8 false by_))],by simp [g9,dm,xn,ft,cC,oy,fX,mW],rfl,?_⟩
  rw [zY];delta Q7 Q6 oO lG QC Qn Yy Q6r QbG kA cR Qs Q3 ya Qr jh mV Qk mJ Q4 Q5 mQ cu Q6q JY Q0 Sa Q23 gC uI mB iZ Qc1 CE Ww QH QK Qi sY yG oE Q9l Q5e Qt Q10 dD Q3j QE K5 xG Ly K1 Q5d tn Qo Q2d RE Q2l Q6n Q2C Qz MT Yw Qbc E4 QL ku Qhb kS lV Na Qha VB H9 Q14 H8 RU Q6m Qf Q2D ny uL WO Qfo kQ F7 Qh8 QfN Q3G Q4C O5 OE Qhh Qh6 Qhk Qhf Qhc Qh5 lN Q44 Qhg W9 QgO Qhi Qhd Qhj Qhe Qhl Qhn Qh4 Qh3 tp Qhm nv od aX b7;obtain ⟨⟨e1,e2⟩,e3,e4⟩:=hp;obtain ⟨⟨x1,x2⟩,hne⟩:=Yx e1 e2 e3;have m1:0≤by_.tmod 127:=Int.tmod_nonneg _ e3;have m2:by_.tmod 127<127:=Int.tmod_lt_of_pos _ (by decide)
  simp only [cl];refine ⟨by simp only [aL,aT,aU];omega,by simp only [aL,aT,aU];omega,?_⟩
  by_cases hc:0≤s_delay∧s_delay≤8∧1≤s_window∧s_window≤16∧(1:Int)≤10000∧(10000:Int)≤10000∧1≤s_ent∧s_ent≤256∧1≤s_voi∧s_voi≤16
  rotate_left
  ·exact .inr ⟨⟨⟨by decide,by decide⟩,hc⟩,.inr ⟨⟨by decide,by decide⟩,hc⟩⟩
  obtain ⟨d1,d2,d3,d4,d5,d6,d7,d8,d9,d10⟩:=hc;obtain ⟨hG,E,hE,G2,G3,G4,G5,G6⟩:=a4m s_seed by_ ⟨d1,d2⟩;have hN: ∀n w,(((lP s_delay s_seed by_).cj n).half w).fx= []∧(((lP s_delay s_seed by_).cj n).half w).fy= []:=fun n w=>PB.HQ (PB.Jx ⟨rfl,rfl⟩ n) w;have hS: ∀n w,(((lP s_delay s_seed by_).cj n).half w).oN:=PB.a4t ⟨⟨rfl,rfl⟩,⟨fA,fA⟩,fA,fA⟩;have hlen: ∀n w,n<120→w<2→ ∀p q sd k,dsK p q sd ((((lP s_delay s_seed by_).cj n).half w).tick w) (1-w) k→sd.length≤64:=fun n w hn hw p q sd k h=>by
   obtain ⟨g1,g2,g3,g4⟩:=PB.gS hG hn;rw [BQ h.2.1]
   match w,hw with
   |0,_=>
    have g:_∧((lP s_delay s_seed by_).cj n).fy.length+((lP s_delay s_seed by_).cj n).x.tick.2.length≤64:=g1;show (((lP s_delay s_seed by_).cj n).fy++((lP s_delay s_seed by_).cj n).x.tick.2).length≤64;rw [List.length_append];exact g.2
   |1,_=>
    have g:_∧(((lP s_delay s_seed by_).cj n).half 1).fx.length+(((lP s_delay s_seed by_).cj n).half 1).y.tick.2.length≤64:=g3;show ((((lP s_delay s_seed by_).cj n).half 1).fx++(((lP s_delay s_seed by_).cj n).half 1).y.tick.2).length≤64;rw [List.length_append];exact g.2
  refine .inl ⟨⟨⟨e1,e2⟩,⟨(show (0:Int)≤1 by decide),(show (1:Int)≤4294967295 by decide)⟩,d1,d2,d3,d4,d5,d6,d7,d8,d9,d10⟩,fun _ z _ hz=> .inl ⟨⟨⟨x1,x2⟩,⟨(show (0:Int)≤2 by decide),(show (2:Int)≤4294967295 by decide)⟩,d1,d2,d3,d4,d5,d6,d7,d8,d9,d10⟩,fun _ z1 _ hz1=>⟨⟨(0,z.1.1,z1.1.1),?_⟩,fun s i1 i2=>⟨fun hn=>?_,fun hn=>?_⟩⟩⟩⟩
  ·have p0:au 0 z.1.1 (lP s_delay s_seed by_).x:=hz (lP s_delay s_seed by_).x rfl ⟨fun _=>hne,fun _=>rfl⟩ (dQ _);have p1:au 1 z1.1.1 (lP s_delay s_seed by_).y:=hz1 (lP s_delay s_seed by_).y rfl ⟨fun _ h=>hne h.symm,fun _=>rfl⟩ (dQ _);exact ⟨by simp only [cl];all_goals simp,(show 0≤120 by decide),p0,p1,hS 0 0⟩
  ·have hn:s.1<120:=Int.ofNat_lt.1 hn;refine ⟨⟨(s.1,0,s.2.1,s.2.2),⟨by simp only [cl];all_goals simp,⟨hn,(show 0≤2 by decide),i2⟩,rfl⟩⟩,fun s1 j1 j2 j3 j4=>⟨fun hw=>⟨⟨Int.natCast_nonneg _,hw⟩,fun h0=>?_,fun h0=>?_⟩,fun hw=>?_⟩⟩
   all_goals obtain ⟨g1,g2,g3,g4⟩:=PB.gS hG j1
   ·have hw0:s1.2.1=0:=by omega
    rw [hw0] at j3;obtain ⟨P0,P1,PS⟩:=j3;have t0:(((lP s_delay s_seed by_).cj s1.1).half 0).x.aE:=(show (((lP s_delay s_seed by_).cj s1.1).half 0).x.aE∧_ from g1).1;refine ⟨⟨_,P0,t0⟩,fun x' h' z k' a1 a2 hx=>⟨⟨(s1.1,0,0,x'.1,s1.2.2.2,z.1.2.1,k'.1.2.1.1,k'.1.2.1.2,z.1.2.2.1),?_⟩,?_⟩⟩
    ·obtain ⟨r1,r2,r3⟩:=hx _ P0 t0;have hfl:((((lP s_delay s_seed by_).cj s1.1).half 0).tick 0).fl 1=(((lP s_delay s_seed by_).cj s1.1).half 0).x.tick.2:=by
      show (((lP s_delay s_seed by_).cj s1.1).half 0).fy++_=_;rw [(hN s1.1 0).2];rfl
     exact ⟨by simp only [cl];all_goals simp [hw0],⟨j1,(show 0<2 by decide),a2,Nat.zero_le _,r2.trans (congrArg (List.map fun x=>(yE x,())) hfl.symm),fun a ha=>r3 a ((congrArg (a∈ ·) hfl).mp ha),r1,P1,PB.rM PS 0⟩,rfl,(show (s1.2.1:Int)=((0:Nat):Int) by rw [hw0])⟩
    ·intro s2 l1 l2 l3 l4 l5 l6;have l4':=l4;refine ⟨fun hk=>⟨⟨Int.natCast_nonneg _,Int.ofNat_lt.2 l2⟩,fun h1=>?_,fun h1=>?_⟩,fun hk=>?_⟩
     all_goals try have hk:s2.2.2.1<s2.2.2.2.2.2.1.length:=Int.ofNat_lt.1 hk
     ·have hw1:s2.2.1=0:=by omega
      rw [hw1] at l4;obtain ⟨g1,g2,g3,g4⟩:=PB.gS hG l1;obtain ⟨q1,q2⟩:=a1p l4 hk g2;refine ⟨⟨Int.natCast_nonneg _,Int.ofNat_lt.2 hk⟩,hk,q1,fun x' h' z hx=>⟨?_,⟨(s2.1,0,s2.2.2.1+1,s2.2.2.2.1,x'.1,s2.2.2.2.2.2.1,s2.2.2.2.2.2.2.1,s2.2.2.2.2.2.2.2.1,s2.2.2.2.2.2.2.2.2),?_⟩⟩⟩
      ·have:=hlen s2.1 s2.2.1 l1 l2 _ _ _ _ l4';simp only [aL,aT,aU];omega
      ·exact ⟨⟨by simp only [cl];all_goals simp,⟨l1,(show 0<2 by decide),l3,q2 _ hx⟩,l5,l6.trans (show (s2.2.1:Int)=((0:Nat):Int) by rw [hw1])⟩,by dsimp only;omega⟩
     ·have hw1:s2.2.1=1:=by omega
      rw [hw1] at l4;obtain ⟨g1,g2,g3,g4⟩:=PB.gS hG l1;obtain ⟨q1,q2⟩:=Zx l4 hk g4;refine ⟨⟨Int.natCast_nonneg _,Int.ofNat_lt.2 hk⟩,hk,q1,fun x' h' z hx=>⟨?_,⟨(s2.1,1,s2.2.2.1+1,x'.1,s2.2.2.2.2.1,s2.2.2.2.2.2.1,s2.2.2.2.2.2.2.1,s2.2.2.2.2.2.2.2.1,s2.2.2.2.2.2.2.2.2),?_⟩⟩⟩
      ·have:=hlen s2.1 s2.2.1 l1 l2 _ _ _ _ l4';simp only [aL,aT,aU];omega
      ·exact ⟨⟨by simp only [cl];all_goals simp,⟨l1,(show 1<2 by decide),l3,q2 _ hx⟩,l5,l6.trans (show (s2.2.1:Int)=((1:Nat):Int) by rw [hw1])⟩,by dsimp only;omega⟩
     ·have hk:s2.2.2.1=PB.len (1-s2.2.1) ((((lP s_delay s_seed by_).cj s2.1).half s2.2.1).tick s2.2.1):=by
       have h9: ¬s2.2.2.1<s2.2.2.2.2.2.1.length:=fun e=>hk (Int.ofNat_lt.2 e);rw [BQ l4.2.1] at h9;exact Nat.le_antisymm l4.1 (Nat.le_of_not_lt h9)
      have hD:=l4.2.2.2;rw [hk] at hD;refine ⟨by simp only [aL,aT,aU];omega,⟨(s2.1,s2.2.1+1,s2.2.2.2.1,s2.2.2.2.2.1),⟨⟨by simp only [cl];all_goals simp,⟨l1,l2,?_⟩,j4.trans l5⟩,by dsimp only;omega⟩⟩⟩
      have hw1:s2.2.1=0:=by omega
      rw [hw1] at hD ⊢;exact hD
   ·have hw0:s1.2.1=1:=by omega
    rw [hw0] at j3;obtain ⟨P0,P1,PS⟩:=j3;have t0:(((lP s_delay s_seed by_).cj s1.1).half 1).y.aE:=(show (((lP s_delay s_seed by_).cj s1.1).half 1).y.aE∧_ from g3).1;refine ⟨⟨_,P1,t0⟩,fun x' h' z k' a1 a2 hx=>⟨⟨(s1.1,1,0,s1.2.2.1,x'.1,z.1.2.1,k'.1.2.1.1,k'.1.2.1.2,z.1.2.2.1),?_⟩,?_⟩⟩
    ·obtain ⟨r1,r2,r3⟩:=hx _ P1 t0;have hfl:((((lP s_delay s_seed by_).cj s1.1).half 1).tick 1).fl 0=(((lP s_delay s_seed by_).cj s1.1).half 1).y.tick.2:=by
      show (((lP s_delay s_seed by_).cj s1.1).half 1).fx++_=_;rw [(hN s1.1 1).1];rfl
     exact ⟨by simp only [cl];all_goals simp [hw0],⟨j1,(show 1<2 by decide),a2,Nat.zero_le _,r2.trans (congrArg (List.map fun x=>(yE x,())) hfl.symm),fun a ha=>r3 a ((congrArg (a∈ ·) hfl).mp ha),P0,r1,PB.rM PS 1⟩,rfl,(show (s1.2.1:Int)=((1:Nat):Int) by rw [hw0])⟩
    ·intro s2 l1 l2 l3 l4 l5 l6;have l4':=l4;refine ⟨fun hk=>⟨⟨Int.natCast_nonneg _,Int.ofNat_lt.2 l2⟩,fun h1=>?_,fun h1=>?_⟩,fun hk=>?_⟩
     all_goals try have hk:s2.2.2.1<s2.2.2.2.2.2.1.length:=Int.ofNat_lt.1 hk
     ·have hw1:s2.2.1=0:=by omega
      rw [hw1] at l4;obtain ⟨g1,g2,g3,g4⟩:=PB.gS hG l1;obtain ⟨q1,q2⟩:=a1p l4 hk g2;refine ⟨⟨Int.natCast_nonneg _,Int.ofNat_lt.2 hk⟩,hk,q1,fun x' h' z hx=>⟨?_,⟨(s2.1,0,s2.2.2.1+1,s2.2.2.2.1,x'.1,s2.2.2.2.2.2.1,s2.2.2.2.2.2.2.1,s2.2.2.2.2.2.2.2.1,s2.2.2.2.2.2.2.2.2),?_⟩⟩⟩
      ·have:=hlen s2.1 s2.2.1 l1 l2 _ _ _ _ l4';simp only [aL,aT,aU];omega
      ·exact ⟨⟨by simp only [cl];all_goals simp,⟨l1,(show 0<2 by decide),l3,q2 _ hx⟩,l5,l6.trans (show (s2.2.1:Int)=((0:Nat):Int) by rw [hw1])⟩,by dsimp only;omega⟩
     ·have hw1:s2.2.1=1:=by omega
      rw [hw1] at l4;obtain ⟨g1,g2,g3,g4⟩:=PB.gS hG l1;obtain ⟨q1,q2⟩:=Zx l4 hk g4;refine ⟨⟨Int.natCast_nonneg _,Int.ofNat_lt.2 hk⟩,hk,q1,fun x' h' z hx=>⟨?_,⟨(s2.1,1,s2.2.2.1+1,x'.1,s2.2.2.2.2.1,s2.2.2.2.2.2.1,s2.2.2.2.2.2.2.1,s2.2.2.2.2.2.2.2.1,s2.2.2.2.2.2.2.2.2),?_⟩⟩⟩
      ·have:=hlen s2.1 s2.2.1 l1 l2 _ _ _ _ l4';simp only [aL,aT,aU];omega
      ·exact ⟨⟨by simp only [cl];all_goals simp,⟨l1,(show 1<2 by decide),l3,q2 _ hx⟩,l5,l6.trans (show (s2.2.1:Int)=((1:Nat):Int) by rw [hw1])⟩,by dsimp only;omega⟩
     ·have hk:s2.2.2.1=PB.len (1-s2.2.1) ((((lP s_delay s_seed by_).cj s2.1).half s2.2.1).tick s2.2.1):=by
       have h9: ¬s2.2.2.1<s2.2.2.2.2.2.1.length:=fun e=>hk (Int.ofNat_lt.2 e);rw [BQ l4.2.1] at h9;exact Nat.le_antisymm l4.1 (Nat.le_of_not_lt h9)
      have hD:=l4.2.2.2;rw [hk] at hD;refine ⟨by simp only [aL,aT,aU];omega,⟨(s2.1,s2.2.1+1,s2.2.2.2.1,s2.2.2.2.2.1),⟨⟨by simp only [cl];all_goals simp,⟨l1,l2,?_⟩,j4.trans l5⟩,by dsimp only;omega⟩⟩⟩
      have hw1:s2.2.1=1:=by omega
      rw [hw1] at hD ⊢;exact hD
   ·have hw:s1.2.1=2:=Nat.le_antisymm j2 (Nat.le_of_not_lt fun e=>hw (Int.ofNat_lt.2 e));rw [hw] at j3;exact ⟨by simp only [aL,aT,aU];omega,⟨(s1.1+1,s1.2.2.1,s1.2.2.2),⟨⟨by simp only [cl];all_goals simp,j1,j3⟩,by dsimp only;omega⟩⟩⟩
  ·have hn:s.1=120:=Nat.le_antisymm i1 (Nat.le_of_not_lt fun e=>hn (Int.ofNat_lt.2 e));rw [hn,hE] at i2;obtain ⟨P0,P1,PS⟩:=i2;have t0:E.x.aE:=G6;have c1:s.2.1.2.2.2.2.2.2.2.2.2.1=true:=P0.2.2.2.2.1.2.1.trans G2;have c2:s.2.2.2.2.2.2.2.2.2.2.2.1=true:=P1.2.2.2.2.1.2.1.trans G3;have c3:s.2.1.2.2.2.2.2.2.2.2.2.2.1=13:=P0.2.2.2.2.1.2.2.trans G4;have c4:s.2.2.2.2.2.2.2.2.2.2.2.2.1=13:=P1.2.2.2.2.1.2.2.trans G5;refine ⟨trivial,⟨_,P0,t0⟩,fun x' h' z k' a1 a2 hx=>⟨fun _=>⟨fun _=>⟨fun _=>⟨fun _=>⟨trivial,fun h=>absurd ?_ h⟩,fun h=>absurd c4 h⟩,fun h=>absurd c3 h⟩,fun h=>absurd (c2.symm.trans h) (by decide)⟩,fun h=>absurd (c1.symm.trans h) (by decide)⟩⟩
   have q0:au 0 x'.1 E.x.tick.1:=(hx _ P0 t0).1;exact (q0.2.2.1.2.1.trans (PA.VO G2)).trans P0.2.2.1.2.1.symm
 ·cases h
theorem Pc(s_seed:Int)(s_delay:Int)(s_window:Int)(s_me:Int)(s_nonce:Int)(s_pat:Int)(s_ent:Int)(s_voi:Int)(by_:Int)(w_s_seed:(Lit.int .u32 s_seed).wf=true)(w_s_delay:(Lit.int .i64 s_delay).wf=true)(w_s_window:(Lit.int .i64 s_window).wf=true)(w_s_me:(Lit.int .i64 s_me).wf=true)(w_s_nonce:(Lit.int .u32 s_nonce).wf=true)(w_s_pat:(Lit.int .i64 s_pat).wf=true)(w_s_ent:(Lit.int .i64 s_ent).wf=true)(w_s_voi:(Lit.int .i64 s_voi).wf=true)(w_by_:(Lit.int .u8 by_).wf=true)(w:World)(hG:tC w):Calls Tryz.prog 4 #[.agg #[.int .u32 s_seed,.int .i64 s_delay,.int .i64 s_window,.int .i64 s_me,.int .u32 s_nonce,.int .i64 s_pat,.int .i64 s_ent,.int .i64 s_voi],.int .u8 by_] w fun e w'=>e= .returned (.bool true)∧Ext w w':=
 yr CR (us:= [.v (.agg [.int .u32 false s_seed,.int .i64 false s_delay,.int .i64 false s_window,.int .i64 false s_me,.int .u32 false s_nonce,.int .i64 false s_pat,.int .i64 false s_ent,.int .i64 false s_voi]),.v (.one (.int .u8 false by_))]) (p:=some ((0≤s_seed∧s_seed≤4294967295)∧0≤by_∧by_≤255)) rfl (⟨bounds_u32 w_s_seed,bounds_u8 w_by_⟩) rfl rfl w hG
end Go.Proofs.YtfdmjoddhjmokaaGreatDoor
namespace Go.Proofs.YtfdmjoddhjmokaaGreatDoor
def fits(k:Option IntKind)(v:Value):Prop:=match k with
 |none=> ∃b,v= .bool b
 |some k=> ∃n,v= .int k n∧(Lit.int k n).wf=true
def a05:List (Option IntKind)→List Value→Prop
 | [],[]=>True
 |k::ks,v::vs=>fits k v∧a05 ks vs
 |_,_=>False
theorem a05.append {ks:List (Option IntKind)}: ∀ {vs:List Value} {ls:List (Option IntKind)} {us:List Value},a05 ks vs→a05 ls us→a05 (ks++ls) (vs++us):=by
 induction ks with
 |nil=>intro vs ls us h g;cases vs with
  |nil=>exact g
  |cons v vs=>exact h.elim
 |cons k ks ih=>intro vs ls us h g;cases vs with
  |nil=>exact h.elim
  |cons v vs=>exact ⟨h.1,ih h.2 g⟩
theorem a05.cons_inv {k:Option IntKind} {ks:List (Option IntKind)} {vs:List Value}(h:a05 (k::ks) vs): ∃v us,vs=v::us∧fits k v∧a05 ks us:=by
 cases vs with
 |nil=>exact h.elim
 |cons v us=>exact ⟨v,us,rfl,h.1,h.2⟩
theorem a05.aI {vs:List Value}(h:a05 [] vs):vs= []:=by
 cases vs with
 |nil=>rfl
 |cons v us=>exact h.elim
def a07(P:Program)(g:TypeId→Option (List (Option IntKind)))(total:Nat):List Field→Nat→Option (List (Option IntKind))
 | [],off=>if off=total then some [] else none
 |f::fs,off=>match g f.type with
  |some ks=>if f.offset=off∧P.cellsOf f.type=ks.length then (a07 P g total fs (off+ks.length)).map (ks++ ·) else none
  |none=>none
def many(ks:List (Option IntKind)):Nat→List (Option IntKind)
 |0=> []
 |n+1=>ks++many ks n
def leaves(P:Program):Nat→TypeId→Option (List (Option IntKind))
 |0,_=>none
 |fuel+1,t=>match P.underlying t with
  |some .bool=>some [none]
  |some (.int k)=>some [some k]
  |some (.struct fs)=>a07 P (leaves P fuel) (P.cellsOf t) fs.toList 0
  |some (.array n e)=>match leaves P fuel e with
   |some ks=>if P.cellsOf e=ks.length∧P.cellsOf t=n*ks.length then some (many ks n) else none
   |none=>none
  |_=>none
section
variable {H:Type} {enc:TypeId×Value→H} {P:Program} {w:World} {base:Nat} {spare:Nat→Bool} {held:Bool}
theorem a3I(g:TypeId→Option (List (Option IntKind)))(m:Nat)(cs:List Value)
  (hg: ∀t ks ds x,g t=some ks→DataW.trod enc P w base spare held m t ds=some x→a05 ks ds):
  ∀ (fs:List Field) (off:Nat) (ks:List (Option IntKind)),a07 P g cs.length fs off=some ks→
   (∀f∈fs,∃x,DataW.trod enc P w base spare held m f.type ((cs.drop f.offset).take (P.cellsOf f.type))=some x)→a05 ks (cs.drop off):=by
 intro fs
 induction fs with
 |nil=>
  intro off ks h _;unfold a07 at h;split at h
  ·rename_i e;cases h;rw [e,List.drop_length];trivial
  ·cases h
 |cons f fs ih=>
  intro off ks h hf;unfold a07 at h;split at h
  ·rename_i ls hl;split at h
   ·rename_i e;obtain ⟨e1,e2⟩:=e;cases hr:a07 P g cs.length fs (off+ls.length) with
    |none=>rw [hr] at h;cases h
    |some rs=>
     rw [hr] at h;cases h;obtain ⟨x,hx⟩:=hf f (by simp)
     have h1:=hg f.type ls _ x hl hx;have h2:=ih (off+ls.length) rs hr (fun f' hf'=>hf f' (by simp [hf']))
     rw [e1,e2] at h1;have h3:=a05.append h1 h2;rw [←List.drop_drop,List.take_append_drop] at h3;exact h3
   ·cases h
  ·cases h
theorem a5w(ks:List (Option IntKind))(cs:List Value): ∀ (n i:Nat),cs.length=(i+n)*ks.length→(∀j,j<n→a05 ks ((cs.drop ((i+j)*ks.length)).take ks.length))→a05 (many ks n) (cs.drop (i*ks.length)):=by
 intro n
 induction n with
 |zero=>intro i hl _;rw [show i*ks.length=cs.length by rw [hl];simp,List.drop_length];trivial
 |succ n ih=>
  intro i hl hj;have h1:=hj 0 (by omega)
  have h2:=ih (i+1) (by rw [hl];congr 1;omega) (fun j hjn=>by have:=hj (j+1) (by omega);rwa [show i+(j+1)=i+1+j by omega] at this)
  rw [Nat.add_zero] at h1;have h3:=a05.append h1 h2;rw [Nat.succ_mul,←List.drop_drop,List.take_append_drop] at h3;exact h3
theorem a2X: ∀ (fuel m:Nat) (t:TypeId) (ks:List (Option IntKind)) (cs:List Value) (x:DataW H×List MemPlace),
  leaves P fuel t=some ks→DataW.trod enc P w base spare held m t cs=some x→a05 ks cs:=by
 intro fuel
 induction fuel with
 |zero=>intro m t ks cs x h _;cases h
 |succ fuel ih=>
  intro m t ks cs x h hx;unfold leaves at h;split at h
  ·rename_i hu;cases h;cases m with
   |zero=>simp [DataW.trod] at hx
   |succ m=>
    unfold DataW.trod at hx;rw [hu] at hx;split at hx<;>simp_all [a05,fits]
  ·rename_i k hu;cases h;obtain ⟨n,rfl,_,hw⟩:=DataW.trod_int hu hx;exact ⟨⟨n,rfl,hw⟩,trivial⟩
  ·rename_i fs hu;obtain ⟨xs,n,rfl,_,hl,hlen,hf⟩:=DataW.trod_struct hu hx;rw [←hl] at h;have:=a3I (enc:=enc) (w:=w) (base:=base) (spare:=spare) (held:=held) (leaves P fuel) n cs (fun t ks ds x a b=>ih n t ks ds x a b) fs.toList 0 ks h (fun f hm=>by
    obtain ⟨i,hi,he⟩:=List.getElem_of_mem hm;have hs:fs[i]? =some f:=by rw [←he];simp at hi ⊢
    have hg:=hf i f hs;rw [hg];have hi':i<xs.length:=by rw [hlen];simpa using hi
    exact ⟨xs[i],List.getElem?_eq_getElem hi'⟩)
   simpa using this
  ·rename_i n e hu;split at h
   ·rename_i ls hls;split at h
    ·rename_i hc;cases h;obtain ⟨xs,m',rfl,_,hl,hlen,hf⟩:=DataW.trod_array hu hx;have:=a5w ls cs n 0 (by rw [hl,hc.2];simp) (fun j hj=>by
      have hg:=hf j hj;have hi':j<xs.length:=by rw [hlen];exact hj
      rw [List.getElem?_eq_getElem hi'] at hg;have:=ih m' e ls _ _ hls hg;rw [hc.1] at this;simpa using this)
     simpa using this
    ·cases h
   ·cases h
  ·cases h
theorem a8Q {r:Reach} {b0 fuel:Nat} {t:TypeId} {ks:List (Option IntKind)} {v:Value} {d:DataW H} {ps:List MemPlace}(hk:leaves P fuel t=some ks)
  (hs:(match P.underlying t with|some (.struct _)|some (.array _ _)=>true|_=>false)=true) (hval:Value.okWide P w r b0 t v) (hd:DataW.Trod enc P w base spare held t v d ps):
  ∃cs:List Value,v= .agg cs.toArray∧a05 ks cs:=by
 obtain ⟨m,hm⟩:=hd;unfold Value.okWide at hval;split at hval
 ·obtain ⟨cs,rfl,_⟩:=hval;exact ⟨cs.toList,by simp,a2X fuel m t ks _ _ hk hm⟩
 ·obtain ⟨cs,rfl,_⟩:=hval;exact ⟨cs.toList,by simp,a2X fuel m t ks _ _ hk hm⟩
 ·rename_i h1 h2;split at hs
  ·rename_i a e;exact absurd e (h1 a)
  ·rename_i a b e;exact absurd e (h2 a b)
  ·cases hs
end
end Go.Proofs.YtfdmjoddhjmokaaGreatDoor
namespace Go.Proofs.YtfdmjoddhjmokaaGreatDoor
def a2T {H:Type}(g:DataW H→Option (List Value)):List (DataW H)→Option (List Value)
 | []=>some []
 |d::ds=>match g d with
  |some a=>match a2T g ds with
   |some b=>some (a++b)
   |none=>none
  |none=>none
def a1k {H:Type}:Nat→DataW H→Option (List Value)
 |0,_=>none
 |n+1,d=>match d with
  | .lit l=>some [l.value]
  | .agg ds=>a2T (a1k n) ds
  |_=>none
theorem a2I {H:Type} {g:DataW H→Option (List Value)} {d:DataW H} {ds:List (DataW H)} {us:List Value}(h:a2T g (d::ds)=some us): ∃a b,g d=some a∧a2T g ds=some b∧us=a++b:=by
 unfold a2T at h;split at h
 ·rename_i a ha;split at h
  ·rename_i b hb;cases h;exact ⟨a,b,ha,hb,rfl⟩
  ·cases h
 ·cases h
section
variable {H:Type} {enc:TypeId×Value→H} {P:Program} {w:World} {base:Nat} {spare:Nat→Bool} {held:Bool}
theorem a3o(g:TypeId→Option (List (Option IntKind)))(m:Nat)(cs:List Value)(lo:DataW H→Option (List Value))
  (hg: ∀t ks ds x,g t=some ks→DataW.trod enc P w base spare held m t ds=some x→ ∀us,lo x.1=some us→us=ds):
  ∀ (fs:List Field) (off:Nat) (ks:List (Option IntKind)) (xs:List (DataW H×List MemPlace)),a07 P g cs.length fs off=some ks→xs.length=fs.length→
   (∀ (i:Nat) f,fs[i]? =some f→DataW.trod enc P w base spare held m f.type ((cs.drop f.offset).take (P.cellsOf f.type))=xs[i]?)→ ∀us,a2T lo (xs.map (·.1))=some us→us=cs.drop off:=by
 intro fs
 induction fs with
 |nil=>
  intro off ks xs h hl _ us hu;obtain rfl:xs= []:=List.eq_nil_of_length_eq_zero hl;unfold a07 at h;split at h
  ·rename_i e;cases hu;rw [e,List.drop_length]
  ·cases h
 |cons f fs ih=>
  intro off ks xs h hl hf us hu
  match xs,hl with
  |x::xs,hl=>
  unfold a07 at h;split at h
  ·rename_i ls hls;split at h
   ·rename_i e;obtain ⟨e1,e2⟩:=e;cases hr:a07 P g cs.length fs (off+ls.length) with
    |none=>rw [hr] at h;cases h
    |some rs=>
     rw [List.map_cons] at hu;obtain ⟨a,b,ha,hb,rfl⟩:=a2I hu;have h0:=hf 0 f rfl;have h1:=hg f.type ls _ x hls h0 a ha;have h2:=ih (off+ls.length) rs xs hr (by simpa using hl) (fun i f' hi=>by simpa using hf (i+1) f' (by simpa using hi)) b hb
     rw [h1,h2,e1,e2,←List.drop_drop,List.take_append_drop]
   ·cases h
  ·cases h
theorem a55(k m:Nat)(e:TypeId)(cs:List Value)(lo:DataW H→Option (List Value))
  (hg: ∀ds x,DataW.trod enc P w base spare held m e ds=some x→ ∀us,lo x.1=some us→us=ds):
  ∀ (n i:Nat) (xs:List (DataW H×List MemPlace)),cs.length=(i+n)*k→xs.length=n→(∀j,j<n→DataW.trod enc P w base spare held m e ((cs.drop ((i+j)*k)).take k)=xs[j]?)→ ∀us,a2T lo (xs.map (·.1))=some us→us=cs.drop (i*k):=by
 intro n
 induction n with
 |zero=>
  intro i xs hl hx _ us hu;obtain rfl:xs= []:=List.eq_nil_of_length_eq_zero hx;cases hu;rw [show i*k=cs.length by rw [hl];simp,List.drop_length]
 |succ n ih=>
  intro i xs hl hx hj us hu
  match xs,hx with
  |x::xs,hx=>
  rw [List.map_cons] at hu;obtain ⟨a,b,ha,hb,rfl⟩:=a2I hu;have h0:=hj 0 (by omega)
  rw [Nat.add_zero] at h0;have h1:=hg _ x h0 a ha;have h2:=ih (i+1) xs (by rw [hl];congr 1;omega) (by simpa using hx) (fun j hjn=>by have:=hj (j+1) (by omega);rw [show i+(j+1)=i+1+j by omega] at this;simpa using this) b hb
  rw [h1,h2,Nat.succ_mul,←List.drop_drop,List.take_append_drop]
theorem a4y: ∀ (fuel m:Nat) (t:TypeId) (ks:List (Option IntKind)) (cs:List Value) (x:DataW H×List MemPlace) (n:Nat) (us:List Value),
  leaves P fuel t=some ks→DataW.trod enc P w base spare held m t cs=some x→a1k n x.1=some us→us=cs:=by
 intro fuel
 induction fuel with
 |zero=>intro m t ks cs x n us h _ _;cases h
 |succ fuel ih=>
  intro m t ks cs x n us h hx hu;cases n with
  |zero=>cases hu
  |succ n=>
  unfold leaves at h;split at h
  ·rename_i ht;cases m with
   |zero=>simp [DataW.trod] at hx
   |succ m=>
    unfold DataW.trod at hx;rw [ht] at hx;split at hx<;>simp_all
    all_goals (first|(rcases hx with rfl;simp_all [a1k,Lit.value])|skip)
    all_goals (subst hx;simp [a1k,Lit.value] at hu;exact hu.symm)
  ·rename_i k ht;obtain ⟨v,rfl,rfl,hw⟩:=DataW.trod_int ht hx;cases hu;rfl
  ·rename_i fs ht;obtain ⟨xs,m',rfl,rfl,hl,hlen,hf⟩:=DataW.trod_struct ht hx;rw [←hl] at h;have:=a3o (enc:=enc) (w:=w) (base:=base) (spare:=spare) (held:=held) (leaves P fuel) m' cs (a1k n) (fun t ks ds x a b us c=>ih m' t ks ds x n us a b c) fs.toList 0 ks xs h (by simpa using hlen) (fun i f hi=>hf i f (by simpa using hi)) us hu
   simpa using this
  ·rename_i c e ht;split at h
   ·rename_i ls hls;split at h
    ·rename_i hc;obtain ⟨xs,m',rfl,rfl,hl,hlen,hf⟩:=DataW.trod_array ht hx;have:=a55 (enc:=enc) (P:=P) (w:=w) (base:=base) (spare:=spare) (held:=held) ls.length m' e cs (a1k n) (fun ds x b us d=>ih m' e ls ds x n us hls b d) c 0 xs (by rw [hl,hc.2];simp) hlen (fun j hj=>by
      have hg:=hf j hj;rw [hc.1] at hg;simpa using hg) us hu
     simpa using this
    ·cases h
   ·cases h
  ·cases h
end
theorem aaq {P:Program} {W:World} {nm:String} {d:DataW Unit} {g:Nat} {t:TypeId} {ks:List (Option IntKind)} {us:List Value}(hh:((([(nm,d)]:List (String×DataW Unit)).filter fun x=>x.2.handleName?.isSome))= [])
  (hg:P.globalNamed nm=some g) (ht:(P.globals[g]?).map (·.type)=some t) (hk:leaves P 9 t=some ks) (hu:a1k 9 d=some us) (h:laidMetH P [(nm,d)] W): ∃t' fz,W.heap[g]? =some (.cells ⟨us⟩ t' fz):=by
 unfold laidMetH at h;rw [hh] at h;obtain ⟨ps,⟨g0,t0,cs0,f0,p0,q0,hg0,ht0,hv0,hd0,_⟩,_⟩:=h;obtain rfl:=Option.some.inj (hg.symm.trans hg0);obtain rfl:=Option.some.inj (ht.symm.trans ht0);have e:=a4y 9 f0 t ks cs0.toList _ 9 us hk hd0 hu;unfold World.var? at hv0;rw [hg] at hv0;simp only [Option.bind_some] at hv0;split at hv0
 ·rename_i c ty fz hb;cases hv0;exact ⟨ty,fz,by rw [hb,e]⟩
 ·cases hv0
end Go.Proofs.YtfdmjoddhjmokaaGreatDoor
