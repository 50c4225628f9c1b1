/- Part of the proof of WholeDesync (see the last text). Conditions: none. Own work; printed by programs of mine. -/
import Derived.Test.YtfdmjoddhjmokaaGreatDoorP4
namespace Go.Proofs.YtfdmjoddhjmokaaGreatDoor
open Go.RowKit Rex
set_option linter.unusedVariables false
set_option linter.unusedSimpArgs false
set_option maxRecDepth 100000
abbrev cH:Sp:= .pt 146 [.int .u32,.int .i64,.int .i64,.cl (.bool false),.int .i64,.int .i64,oD,.int .i64,.int .i64,mD,.int .i64,.int .i64,.int .i64]
abbrev cB:Type:=(Int×Int×Int×Unit×Int×Int×iC×Int×Int×kR×Int×Int×Int×Unit)
def mA(r:Row dk):AM:=(r.1,r.2.1,r.2.2.1,r.2.2.2.1,r.2.2.2.2.1.2.length,r.2.2.2.2.2.1,r.2.2.2.2.2.2.1)
def ia(a:AM):Prop:=wQ a.1 a.2.1 a.2.2.1 a.2.2.2.1 a.2.2.2.2.1 a.2.2.2.2.2.1 a.2.2.2.2.2.2
def yE(a:AM):List UInt8:=pkM a.1 a.2.1 a.2.2.1 a.2.2.2.1 a.2.2.2.2.1 a.2.2.2.2.2.1 a.2.2.2.2.2.2
def aP(r:Row dk):Prop:=ia (mA r)∧r.2.2.2.2.1.2=fV r.2.2.2.2.1.2.length
def lW(nonce pat st tk hd:Int)(ol:List (Row [.int .u8]))(of on ak nx:Int)(ql:List (Row dk))(qf qn good stale:Int):Prop:=
 (dZ ol of on∧ol.length=64∧ ∀r∈rQ ol of on,r.1=0)∧(dZ ql qf qn∧ql.length=8∧ ∀r∈rQ ql qf qn,aP r)∧(0≤nonce∧nonce≤4294967295)∧(1≤pat∧pat≤10000)∧(0≤st∧st≤2)∧(0≤hd∧hd≤tk∧tk≤100000)∧(0≤ak∧ak≤9000)∧(0≤nx∧nx≤9000)∧0≤good∧0≤stale∧good+stale≤100000
def fe(k:Sp.T cH):Prop:=lW k.1 k.2.1 k.2.2.1 k.2.2.2.2.1 k.2.2.2.2.2.1 k.2.2.2.2.2.2.1.1 k.2.2.2.2.2.2.1.2.1 k.2.2.2.2.2.2.1.2.2.1 k.2.2.2.2.2.2.2.1 k.2.2.2.2.2.2.2.2.1 k.2.2.2.2.2.2.2.2.2.1.1 k.2.2.2.2.2.2.2.2.2.1.2.1 k.2.2.2.2.2.2.2.2.2.1.2.2.1 k.2.2.2.2.2.2.2.2.2.2.1 k.2.2.2.2.2.2.2.2.2.2.2.2.1
def bn(k:Sp.T cH):LA:=⟨k.1,k.2.1,k.2.2.1,k.2.2.2.2.1,k.2.2.2.2.2.1,k.2.2.2.2.2.2.1.2.2.1,k.2.2.2.2.2.2.2.1,k.2.2.2.2.2.2.2.2.1,k.2.2.2.2.2.2.2.2.2.2.1+k.2.2.2.2.2.2.2.2.2.2.2.2.1,(rQ k.2.2.2.2.2.2.2.2.2.1.1 k.2.2.2.2.2.2.2.2.2.1.2.1 k.2.2.2.2.2.2.2.2.2.1.2.2.1).map mA⟩
def Ub(l:List (Row dk))(f n:Int)(l':List (Row dk))(f' n':Int)(o:List (Row dk)):Prop:=(dZ l' f' n'∧l'.length=8∧ ∀r∈rQ l' f' n',aP r)∧(∀r∈o,aP r)∧o.map mA++(rQ l' f' n').map mA=(rQ l f n).map mA
theorem a44 {l:List (Row [.int .u8])}(h: ∀r∈l,r.1=0):l=fV l.length:=by
 unfold fV;exact List.eq_replicate_iff.2 ⟨rfl,fun r hr=>by obtain ⟨a,⟨⟩⟩:=r;have:=h _ hr;dsimp only at this;rw [this]⟩
def YY(l:List (Row [.int .u8]))(f n:Int):Prop:=dZ l f n∧l.length=64∧ ∀r∈rQ l f n,r.1=0
theorem Tf(k:LA)(e:Int):(k.m7 e).length≤k.q.length+2:=by
 unfold LA.m7 LA.XW;rw [List.length_append];refine Nat.add_le_add_left ?_ _;split
 ·exact Nat.le_succ 1
 ·rw [List.length_cons];split
  ·exact Nat.le_refl 2
  ·exact Nat.le_succ 1
theorem Xk {r:Row dk}(h:aP r):wa () ((r.1,r.2.1,r.2.2.1,r.2.2.2.1,r.2.2.2.2.1.2,r.2.2.2.2.2.1,r.2.2.2.2.2.2.1,()),()):=by
 obtain ⟨⟨hM,h1⟩,hz⟩:=h;have hM:BX r.1 r.2.1 r.2.2.1 r.2.2.2.1 (fV r.2.2.2.2.1.2.length) r.2.2.2.2.2.1 r.2.2.2.2.2.2.1:=hM;rw [←hz] at hM;exact ⟨hM,h1⟩
theorem TJ {sh:List Kd} {l:List (Row sh)} {i:Nat}(h:i<l.length):al l i∈l:=by
 unfold al;rw [List.getD_eq_getElem?_getD,List.getElem?_eq_getElem h];exact List.getElem_mem h
theorem VT {a b c d e:Int} {ol:List (Row [.int .u8])} {f n g h:Int} {ql:List (Row dk)} {qf qn i j:Int}(H:lW a b c d e ol f n g h ql qf qn i j)(hc:i+j<100000):(aL IntKind.i64 (i+1)∧aL IntKind.i64 (j+1))∧lW a b c d e ol f n g h ql qf qn (i+1) j∧lW a b c d e ol f n g h ql qf qn i (j+1):=by
 obtain ⟨h1,h2,h3,h4,h5,h6,h7,h8,g1,g2,g3⟩:=H;exact ⟨⟨by simp only [aL,aT,aU];omega,by simp only [aL,aT,aU];omega⟩,⟨h1,h2,h3,h4,h5,h6,h7,h8,by omega,g2,by omega⟩,⟨h1,h2,h3,h4,h5,h6,h7,h8,g1,by omega,by omega⟩⟩
theorem tR {x:Sp.T cH}(h:fe x)(hc:(bn x).ct<100000):(aL IntKind.i64 ((x.2.2.2.2.2.2.2.2.2.2.1:Int)+1)∧aL IntKind.i64 ((x.2.2.2.2.2.2.2.2.2.2.2.2.1:Int)+1))∧fe (x.1,x.2.1,x.2.2.1,(),x.2.2.2.2.1,x.2.2.2.2.2.1,(x.2.2.2.2.2.2.1.1,x.2.2.2.2.2.2.1.2.1,x.2.2.2.2.2.2.1.2.2.1,()),x.2.2.2.2.2.2.2.1,x.2.2.2.2.2.2.2.2.1,(x.2.2.2.2.2.2.2.2.2.1.1,x.2.2.2.2.2.2.2.2.2.1.2.1,x.2.2.2.2.2.2.2.2.2.1.2.2.1,()),x.2.2.2.2.2.2.2.2.2.2.1+1,x.2.2.2.2.2.2.2.2.2.2.2.1,x.2.2.2.2.2.2.2.2.2.2.2.2.1,())∧fe (x.1,x.2.1,x.2.2.1,(),x.2.2.2.2.1,x.2.2.2.2.2.1,(x.2.2.2.2.2.2.1.1,x.2.2.2.2.2.2.1.2.1,x.2.2.2.2.2.2.1.2.2.1,()),x.2.2.2.2.2.2.2.1,x.2.2.2.2.2.2.2.2.1,(x.2.2.2.2.2.2.2.2.2.1.1,x.2.2.2.2.2.2.2.2.2.1.2.1,x.2.2.2.2.2.2.2.2.2.1.2.2.1,()),x.2.2.2.2.2.2.2.2.2.2.1,x.2.2.2.2.2.2.2.2.2.2.2.1,x.2.2.2.2.2.2.2.2.2.2.2.2.1+1,()):=VT h hc
theorem Xi(a b c d e f g h i j:Int)(q:List AM):LA.mk a b c d e f g h (i+1+j) q=LA.mk a b c d e f g h (i+j+1) q:=by rw [show i+1+j=i+j+1 by omega]
theorem UN(a b c d e f g h i j:Int)(q:List AM):LA.mk a b c d e f g h (i+(j+1)) q=LA.mk a b c d e f g h (i+j+1) q:=by rw [show i+(j+1)=i+j+1 by omega]
theorem tL(x:Sp.T cH):bn (x.1,x.2.1,x.2.2.1,(),x.2.2.2.2.1,x.2.2.2.2.2.1,(x.2.2.2.2.2.2.1.1,x.2.2.2.2.2.2.1.2.1,x.2.2.2.2.2.2.1.2.2.1,()),x.2.2.2.2.2.2.2.1,x.2.2.2.2.2.2.2.2.1,(x.2.2.2.2.2.2.2.2.2.1.1,x.2.2.2.2.2.2.2.2.2.1.2.1,x.2.2.2.2.2.2.2.2.2.1.2.2.1,()),x.2.2.2.2.2.2.2.2.2.2.1+1,x.2.2.2.2.2.2.2.2.2.2.2.1,x.2.2.2.2.2.2.2.2.2.2.2.2.1,())= {bn x with ct:=(bn x).ct+1}:=Xi _ _ _ _ _ _ _ _ _ _ _
theorem Dz(x:Sp.T cH):bn (x.1,x.2.1,x.2.2.1,(),x.2.2.2.2.1,x.2.2.2.2.2.1,(x.2.2.2.2.2.2.1.1,x.2.2.2.2.2.2.1.2.1,x.2.2.2.2.2.2.1.2.2.1,()),x.2.2.2.2.2.2.2.1,x.2.2.2.2.2.2.2.2.1,(x.2.2.2.2.2.2.2.2.2.1.1,x.2.2.2.2.2.2.2.2.2.1.2.1,x.2.2.2.2.2.2.2.2.2.1.2.2.1,()),x.2.2.2.2.2.2.2.2.2.2.1,x.2.2.2.2.2.2.2.2.2.2.2.1,x.2.2.2.2.2.2.2.2.2.2.2.2.1+1,())= {bn x with ct:=(bn x).ct+1}:=UN _ _ _ _ _ _ _ _ _ _ _
theorem S5(n k:Nat):List.drop k (fV n)=fV (n-k):=by unfold fV;exact List.drop_replicate
theorem BR(n:Nat):(fV n).length=n:=List.length_replicate
def Fs(i:Nat)(l:List (Row dk)):List (Row [.str]):=(l.take i).map fun r=>(yE (mA r),())
theorem Po {i:Nat} {l:List (Row dk)}(h:i<l.length):Fs (i+1) l=Fs i l++ [(yE (mA (al l i)),())]:=by
 unfold Fs al;rw [List.take_add_one,List.map_append,List.getD_eq_getElem?_getD,List.getElem?_eq_getElem h];rfl
theorem xu {i:Nat} {l:List (Row dk)}(h:i≤l.length):(Fs i l).length=i:=by
 unfold Fs;rw [List.length_map,List.length_take];omega
theorem jg {sh:List Kd} {l:List (Row sh)} {f n:Int}(h:dZ l f n):n=((rQ l f n).length:Int):=by
 rw [mC];have:=h.2.2.2.2.1;omega
theorem BF {q:Row dk} {k n s a:Int} {i:List (Row [.int .u8])} {u e:Int}(h:ZU q k n s a i u e):mA q=(k,n,s,a,i.length,u,e):=by
 obtain ⟨h1,h2,h3,h4,h5,h6,h7⟩:=h;unfold mA;rw [h1,h2,h3,h4,h5,h6,h7]
theorem Ja {q:Row dk} {k n s a:Int} {i:List (Row [.int .u8])} {u e:Int}(h:ZU q k n s a i u e)(hl:ia (k,n,s,a,i.length,u,e))(hz:i=fV i.length):aP q:=by
 refine ⟨by rw [BF h];exact hl,?_⟩
 rw [h.2.2.2.2.1];exact hz
theorem PF {q:Row dk} {k n s a:Int} {i:List (Row [.int .u8])} {u e:Int}(h:ZU q k n s a i u e)(hr:aP q):ia (k,n,s,a,i.length,u,e)∧i=fV i.length:=by
 obtain ⟨r1,r2⟩:=hr;rw [BF h] at r1;rw [h.2.2.2.2.1] at r2;exact ⟨r1,r2⟩
theorem abL {n:Int}(h:0≤n)(k:n≤4294967295):ia (1,n,0,0,0,0,0):=(show wQ 1 n 0 0 0 0 0 from ⟨⟨rfl,by decide,by decide,by decide,.inl ⟨.inl rfl,rfl,rfl,rfl,rfl,rfl⟩⟩,⟨h,k⟩,⟨by decide,by decide⟩,⟨by decide,by decide⟩,⟨by decide,by decide⟩⟩)
theorem abZ {n:Int}(h:0≤n)(k:n≤4294967295):ia (2,n,0,0,0,0,0):=(show wQ 2 n 0 0 0 0 0 from ⟨⟨rfl,by decide,by decide,by decide,.inl ⟨.inr rfl,rfl,rfl,rfl,rfl,rfl⟩⟩,⟨h,k⟩,⟨by decide,by decide⟩,⟨by decide,by decide⟩,⟨by decide,by decide⟩⟩)
theorem ab1 {s a:Int} {n:Nat}(h1:0≤s)(h2:s≤65535)(h3:0≤a)(h4:a≤65535)(h5:0<n)(h6:n≤64):ia (3,0,s,a,n,0,0):=by
 have hz:(fV n).length=n:=List.length_replicate;show wQ 3 0 s a n 0 0;exact ⟨⟨by rw [hz],by rw [hz];exact h6,by decide,by decide,.inr (.inl ⟨rfl,rfl,rfl,rfl,fun e=>by have:=congrArg List.length e;rw [hz] at this;simp at this;omega⟩)⟩,⟨by decide,by decide⟩,⟨h1,h2⟩,⟨h3,h4⟩,⟨by decide,by decide⟩⟩
theorem abT {s u:Int}(h1:0≤s)(h2:s≤65535)(h3:0≤u)(h4:u≤4294967295):ia (4,0,s,0,0,u,0):=(show wQ 4 0 s 0 0 u 0 from ⟨⟨rfl,by decide,by decide,by decide,.inr (.inr (.inl ⟨rfl,rfl,rfl,rfl,rfl⟩))⟩,⟨by decide,by decide⟩,⟨h1,h2⟩,⟨by decide,by decide⟩,⟨h3,h4⟩⟩)
theorem abV {a:Int}(h1:0≤a)(h2:a≤65535):ia (5,0,0,a,0,0,0):=(show wQ 5 0 0 a 0 0 0 from ⟨⟨rfl,by decide,by decide,by decide,.inr (.inr (.inr (.inl ⟨rfl,rfl,rfl,rfl,rfl,rfl⟩)))⟩,⟨by decide,by decide⟩,⟨by decide,by decide⟩,⟨h1,h2⟩,⟨by decide,by decide⟩⟩)
theorem ab9 {s e:Int}(h1:0≤s)(h2:s≤65535)(h3: -60≤e)(h4:e≤60):ia (6,0,s,0,0,0,e):=(show wQ 6 0 s 0 0 0 e from ⟨⟨rfl,by decide,h3,h4,.inr (.inr (.inr (.inr ⟨rfl,rfl,rfl,rfl,rfl⟩)))⟩,⟨by decide,by decide⟩,⟨h1,h2⟩,⟨by decide,by decide⟩,⟨by decide,by decide⟩⟩)
def ud(a b:Sp.T cH)(P:Prop):Prop:=(a.1=b.1∧a.2.1=b.2.1∧a.2.2.1=b.2.2.1∧false=false∧a.2.2.2.2.1=b.2.2.2.2.1∧a.2.2.2.2.2.1=b.2.2.2.2.2.1∧True∧a.2.2.2.2.2.2.2.1=b.2.2.2.2.2.2.2.1∧a.2.2.2.2.2.2.2.2.1=b.2.2.2.2.2.2.2.2.1∧True∧a.2.2.2.2.2.2.2.2.2.2.1=b.2.2.2.2.2.2.2.2.2.2.1∧a.2.2.2.2.2.2.2.2.2.2.2.1=b.2.2.2.2.2.2.2.2.2.2.2.1∧a.2.2.2.2.2.2.2.2.2.2.2.2.1=b.2.2.2.2.2.2.2.2.2.2.2.2.1)∧(((false=false∧(0:Nat)=(0:Nat)∧(0:Nat)=(0:Nat)∧(List.length a.2.2.2.2.2.2.1.1)=(List.length b.2.2.2.2.2.2.1.1)∧(List.length a.2.2.2.2.2.2.1.1)=(List.length b.2.2.2.2.2.2.1.1))∧True)∧a.2.2.2.2.2.2.1.2.1=b.2.2.2.2.2.2.1.2.1∧a.2.2.2.2.2.2.1.2.2.1=b.2.2.2.2.2.2.1.2.2.1)∧(false=false∧(0:Nat)=(0:Nat)∧(List.length a.2.2.2.2.2.2.1.1)=(List.length b.2.2.2.2.2.2.1.1)∧List.take ((List.length b.2.2.2.2.2.2.1.1)) a.2.2.2.2.2.2.1.1=b.2.2.2.2.2.2.1.1)∧(((false=false∧(0:Nat)=(0:Nat)∧(0:Nat)=(0:Nat)∧(List.length a.2.2.2.2.2.2.2.2.2.1.1)=(List.length b.2.2.2.2.2.2.2.2.2.1.1)∧(List.length a.2.2.2.2.2.2.2.2.2.1.1)=(List.length b.2.2.2.2.2.2.2.2.2.1.1))∧True)∧a.2.2.2.2.2.2.2.2.2.1.2.1=b.2.2.2.2.2.2.2.2.2.1.2.1∧a.2.2.2.2.2.2.2.2.2.1.2.2.1=b.2.2.2.2.2.2.2.2.2.1.2.2.1)∧(false=false∧(0:Nat)=(0:Nat)∧(List.length a.2.2.2.2.2.2.2.2.2.1.1)=(List.length b.2.2.2.2.2.2.2.2.2.1.1)∧List.take ((List.length b.2.2.2.2.2.2.2.2.2.1.1)) a.2.2.2.2.2.2.2.2.2.1.1=b.2.2.2.2.2.2.2.2.2.1.1)∧P
def aV(a:Sp.T cH):Prop:=(false=false∧((List.length a.2.2.2.2.2.2.1.1)=(List.length a.2.2.2.2.2.2.1.1)∧(List.length a.2.2.2.2.2.2.1.1)=(List.length a.2.2.2.2.2.2.1.1)∧(List.length a.2.2.2.2.2.2.1.1)=(List.length a.2.2.2.2.2.2.1.1))∧(List.length a.2.2.2.2.2.2.2.2.2.1.1)=(List.length a.2.2.2.2.2.2.2.2.2.1.1)∧(List.length a.2.2.2.2.2.2.2.2.2.1.1)=(List.length a.2.2.2.2.2.2.2.2.2.1.1)∧(List.length a.2.2.2.2.2.2.2.2.2.1.1)=(List.length a.2.2.2.2.2.2.2.2.2.1.1))
def vJ(x:(iC×Unit))(y:(Unit)):Prop:=dZ x.1.1 x.1.2.1 x.1.2.2.1∧List.length x.1.1=64
def sJ(x:(iC×Unit))(y:(Unit))(x':(iC×Unit))(z:((List (Row [.int .u8])×Unit)×Unit)):Prop:=x'.1=x.1∧z.1.1=rQ x.1.1 x.1.2.1 x.1.2.2.1
noncomputable def Z1:MC:=frz<|qC [true] [oD] [] [(false,[.sl [.int .u8] 5])] vJ sJ
def xf(a:eV)(b:D6):kG:=List.take a.1 (rQ b.1.1 b.1.2.1 (Qv b))
theorem Zd:ab Tryz.prog 181 Z1:=by
 refine DD ?_;refine ah (cx Mx [240,279] cQ MR) Tryz.func181 (by kernel_rfl) (by kernel_rfl) fun (x:(iC×Unit)) h (y:(Unit)) k hf hg hp=>⟨(fun bk=>match bk with|1000=>some {S:=Nat×Nat,st:=fun s=>⟨jk [(1,.v (.one (.ptr 3 0))),(1,.v (.one (.int .i64 false ((s.1:Int)))))] 23,aW false [oD] (x.1,()) (((),(),(),()),()) 0 0++ [some (.cells [.rs (decide (s.1=0)) 0 5 0 1 0 s.1 s.2] 68),some (.cells [.ptr 0 0] 141),none,some (.rows false (decide (s.1=0)) [.int .u8] (List.take s.1 (rQ x.1.1 x.1.2.1 x.1.2.2.1)) 0 s.2 5)]⟩,ok:=fun s=>(s.1:Int)≤x.1.2.2.1∧s.1≤s.2∧(s.1=0→s.2=0),mu:=fun s=>(x.1.2.2.1.toNat-s.1),init:=(0,0)}|_=>none),400,af (q:= ∀ (va:Nat) (vb:Loop),Q7 (Qn (Qs (uN va) qW True) (Q5w (Qw x) (Qw x) x.1.2 (Qv x) (Qv x)) (WD (Qw x) (Qw x) (List.take (Qw x) x.1.1=x.1.1)) (Q1I Q1r True (vb=vb) jh (Rt∧Q7U (List.take (0:Nat) (rQ x.1.1 x.1.2.1 (Qv x)))))) (Q5z (Qv x)) (((0:Nat)≤(0:Nat))∧Wl)∧(∀ (vc:eV),Q7 (Oy vc≤Qv x) (vc.1≤vc.2) (Ha vc.1 vc.2)→QT (ya (QA (Qw x) (Qw x))) (iq vc (Qv x)) (Qn (Q7 (QA (Qw x) (Qw x)) (dZ x.1.1 x.1.2.1 (Qv x)) (D8 (Oy vc) (4096:Int))) (QB (x.1.2.1+Oy vc) (Qw x)) (QD x (Oy vc)<Qw x) (Q6 (va=va) (vb=vb) (vb=vb) (vY vc.1 (xf vc x).length vc.2 (Q81 vc) (1:Nat)) (∀ (vd:Nat),x9 vc.1 vd vc.2 (Q7 (vb=vb) (QE (Oy vc)) (∃ (ve:eV),E4 (Qn (Qs (uN va) (QH (Oy vc)=Oy ve) True) (Q5w (Qw x) (Qw x) x.1.2 (Qv x) (Qv x)) (WD (Qw x) (Qw x) (List.take (Qw x) x.1.1=x.1.1)) (Q1I (iZ (Nc (Q81 vc)) (Q81 ve) (rB vc.1) ve.1 vd ve.2) True (vb=vb) jh (yI (Nc (Q81 vc)) (Q81 ve) vd ve.2 (xf ve x).length ((xf vc x).append (Q4V ((al x.1.1 (QD x (Oy vc))).1,()))) (xf ve x)))) (Oy ve≤Qv x) (ve.1≤ve.2) (Ha ve.1 ve.2) (Qv x).toNat ve.1 (Qv x).toNat vc.1))))) (Q7 (Qx x) (kF vc.1 (xf vc x).length (Q81 vc) (Q81 vc) vc.2 vc.2) (sJ x y (x.1,()) ((xf vc x,()),()))))) (by kernel_rfl) ?_⟩
 delta Q7 Q6 Qn kA Qs Q3 ya jh Q4 QJ cu Q23 gC iZ Oy QH kF QF Qi Qh QA Qp oE Qt QE WD Q27 Qo RA Q2d rB Ha Q81 RH Q2a E4 uN QL Qw kS Q1I sX Nc x9 D8 GW WV yI Qv QT QB Q4V Q5w Rt vY iq Q1r fi QD Wl qW Q7U xf Qx Q5z;obtain ⟨⟨k0,(l0:Int),(m0:Int),⟨⟩⟩,⟨⟩⟩:=x;obtain ⟨⟨⟨⟩,⟨⟩,⟨⟩,⟨⟩⟩,⟨⟩⟩:=h;obtain ⟨⟨⟩⟩:=y;obtain ⟨⟨⟩⟩:=k
 try dsimp only
 obtain ⟨o1,o2⟩:=(show dZ k0 l0 m0∧k0.length=64 from hp);have o1':=o1;obtain ⟨o4,o5,o6,o7,o8,o9⟩:=o1';have hq:(rQ k0 l0 m0).length=m0.toNat:=mC;simp only [cl];refine ⟨⟨⟨rfl,rfl⟩,o8,Nat.le_refl _⟩,fun s h1 h2 h3=>⟨fun h4=>?_,fun h4=>?_⟩⟩
 ·obtain ⟨p1,p2,p3,p4⟩:=bO o1 (i:=(s.fst:Int)) (by omega)
  have ht:(List.take s.fst (rQ k0 l0 m0)).length=s.fst:=by rw [List.length_take,hq];omega
  have ht2:(List.take (s.fst+1) (rQ k0 l0 m0)).length=s.fst+1:=by rw [List.length_take,hq];omega
  have e:List.take (s.fst+1) (rQ k0 l0 m0)=(List.take s.fst (rQ k0 l0 m0)).append [((al k0 ((l0+(s.fst:Int)).tmod (k0.length:Int)).toNat).fst,())]:=by
   rw [List.take_add_one,a2D (by omega),p4,Int.toNat_natCast]
   rfl
  refine ⟨⟨o1,by omega,by omega⟩,⟨p1,p2⟩,p3,⟨ht.symm,h3,by omega⟩,fun c h5 h6=>⟨by simp only [aL,aT,aU];omega,(s.fst+1,c),?_⟩⟩
  dsimp only;rw [ht2];refine ⟨⟨⟨by omega,⟨by simp,rfl,rfl⟩,by simp,rfl,?_⟩,by omega,h5,fun h=>by omega⟩,by omega⟩
  rw [←e,List.take_of_length_le (Nat.le_of_eq ht2)]
 ·have ht:List.take s.fst (rQ k0 l0 m0)=rQ k0 l0 m0:=List.take_of_length_le (by rw [hq];omega)
  exact ⟨⟨by rw [ht,hq];omega,h3⟩,rfl,ht⟩
noncomputable def IM:=MR.add 181 Zd
def Bo(x:(Unit))(y:((Int×Unit)×(Int×Unit)×(Int×Unit)×Unit)):Prop:=(0≤y.1.1∧y.1.1≤4294967295)∧1≤y.2.1.1∧y.2.1.1≤10000∧0≤y.2.2.1.1∧y.2.2.1.1≤1073741824
def vQ(x:(Unit))(y:((Int×Unit)×(Int×Unit)×(Int×Unit)×Unit))(x':(Unit))(z:(((Int×Int×Int×Unit×Int×Int×ig×Int×Int×wE×Int×Int×Int×Unit)×Unit)×(Unit×Unit)×Unit)):Prop:=y.2.2.1.1≤1000→fe z.1.1∧bn z.1.1=⟨y.1.1,y.2.1.1,0,0,0,0,y.2.2.1.1,y.2.2.1.1,0,[]⟩
noncomputable def T8:MC:=qC [false,false,false] [] [(false,[.int .u32]),(false,[.int .i64]),(false,[.int .i64])] [(false,[cH]),(false,[.cl (.int .i64 (0))])] Bo vQ
abbrev a0q:Type:=eZ [(false,[mD]),(false,[Sp.cl (Lc.int IntKind.i64 (0:Int))])]
abbrev Um:Type:=aZ [(false,[mD]),(false,[Sp.cl (Lc.int IntKind.i64 (0:Int))])]
abbrev a1x:Type:=eZ [(false,[oD]),(false,[Sp.int IntKind.i64])]
abbrev Me:Type:=aZ [(false,[oD]),(false,[Sp.int IntKind.i64])]
abbrev a18:Type:=(Int×Unit)×(Int×Unit)×(Int×Unit)×Unit
def yC(a:Prop)(b c:Nat):Prop:=cu a (QF b b) (c=c) c c (c=c)
def DP(a:mD.T):Nat:=List.length a.1
def sn(a:Int):Bool:= !(decide (a≤(1073741824:Int)))
def H7(a:Me):Nat:=List.length a.1.1.1
def n6(a:a18)(b c:Prop):Prop:=Q6g a.2.1.1 (Ql (decide ((10000:Int)<a.2.1.1)) (Q0 (decide ((0:Int)≤a.2.2.1.1)) b c) c) c
def mV(a:Prop):Prop:=Qr True a
def mQ:Prop:=mV True
def MU(a:Me)(b:Prop):Prop:=K1 mQ (Q6 (dZ a.1.1.1 a.1.1.2.1 a.1.1.2.2.1) (H7 a=(64:Nat)) (Q3x a.1.1.2.2.1) (rv a.2) (Q7U (rQ a.1.1.1 a.1.1.2.1 a.1.1.2.2.1))) b
def VM(a:Um)(b:Prop):Prop:=K1 mQ (Qn (dZ a.1.1.1 a.1.1.2.1 a.1.1.2.2.1) (DP a.1.1=(8:Nat)) (Q3x a.1.1.2.2.1) (rQ a.1.1.1 a.1.1.2.1 a.1.1.2.2.1=([]:List (Row dk)))) b
theorem RR:ab Tryz.prog 59 T8:=by
 refine ah (cx Mx [114] cQ IM) Tryz.func59 (by kernel_rfl) (by kernel_rfl) fun (x:(Unit)) h (y:((Int×Unit)×(Int×Unit)×(Int×Unit)×Unit)) k hf hg hp=>⟨bK,400,af (q:=n6 y (Q0 (sn y.2.2.1.1) False (Qr (((1:Int)≤(64:Int))∧((64:Int)≤(4096:Int))) (∀ (va:cI) (vb:ck) (vc:Me) (vd:a1x),MU vc (Q0 (Q3E vc.2) False (Qr (((1:Int)≤(8:Int))∧((8:Int)≤(4096:Int))) (∀ (ve:cI) (vf:ck) (vg:Um) (vi:a0q),VM vg (Q10 (gk (yC QJ (H7 vc) (DP vg.1.1))) (vQ x y () (((y.1.1,y.2.1.1,(0:Int),(),(0:Int),(0:Int),vc.1.1,y.2.2.1.1,y.2.2.1.1,vg.1.1,(0:Int),uH),()),mB))))))))) False) (by kernel_rfl) ?_⟩
 delta Q7 Q6 oO lG Qn cR Qs Q3 ya Qr mV Qk Q4 mQ QJ cu JY Q0 uI mB QF Q10 yC DP Ql K1 gk Q3x rv uH Q6g Q3E sn H7 Q7U n6 MU VM;obtain ⟨⟨⟩⟩:=x;obtain ⟨⟨⟩⟩:=h;obtain ⟨⟨(k0:Int),⟨⟩⟩,⟨(l0:Int),⟨⟩⟩,⟨(first:Int),⟨⟩⟩,⟨⟩⟩:=y;obtain ⟨⟨⟨⟩,⟨⟩⟩,⟨⟨⟩,⟨⟩⟩,⟨⟨⟩,⟨⟩⟩,⟨⟩⟩:=k
 try dsimp only
 obtain ⟨⟨h1,h2⟩,h3,h4,h5,h6⟩:=(show (0≤k0∧k0≤4294967295)∧1≤l0∧l0≤10000∧0≤first∧first≤1073741824 from hp);simp only [cl];refine ⟨fun _=>⟨fun _=>⟨fun _=>⟨fun h=>absurd h6 h,fun _=>⟨by decide,fun z z1 z2 z3 z4 z5=>⟨fun h=>absurd z4 h,fun _=>⟨by decide,fun y y1 y2 y3 y4=>fun hf=>⟨(show lW k0 l0 0 0 0 z.fst.fst.fst z.fst.fst.snd.fst z.fst.fst.snd.snd.fst first first y.fst.fst.fst y.fst.fst.snd.fst y.fst.fst.snd.snd.fst 0 0 from ⟨⟨z1,z2,by rw [z5];intro r hr;cases hr⟩,⟨y1,y2,by rw [y4];intro r hr;cases hr⟩,⟨h1,h2⟩,⟨h3,h4⟩,by decide,by decide,⟨h5,(show first≤9000 from Int.le_trans hf (by decide))⟩,⟨h5,(show first≤9000 from Int.le_trans hf (by decide))⟩,by decide,by decide,by decide⟩),?_⟩⟩⟩⟩⟩,fun h=>absurd h5 h⟩,fun h=>by omega⟩,fun h=>by omega⟩
 show LA.mk k0 l0 0 0 0 z.fst.fst.snd.snd.fst first first (0+0) (List.map mA (rQ y.fst.fst.fst y.fst.fst.snd.fst y.fst.fst.snd.snd.fst))=_;rw [z3,y4];rfl
noncomputable def Oe:=IM.add 59 RR
def wq(x:(Unit))(y:((Int×Unit)×(Int×Unit)×(Int×Unit)×Unit)):Prop:= ¬(1≤y.2.1.1∧y.2.1.1≤10000∧0≤y.2.2.1.1∧y.2.2.1.1≤1073741824)
def jR(x:(Unit))(y:((Int×Unit)×(Int×Unit)×(Int×Unit)×Unit))(x':(Unit))(z:((Unit×Unit)×(Unit×Unit)×Unit)):Prop:=True
noncomputable def NL:MC:=qC [false,false,false] [] [(false,[.int .u32]),(false,[.int .i64]),(false,[.int .i64])] [(false,[.cl .cb]),(false,[.cl (.int .i64 (1))])] wq jR
def Q8F(a:eL)(b:a18):Prop:=jR a b () LP
theorem O1:ab Tryz.prog 59 NL:=by
 refine ah (cx Mx [114] cQ Oe) Tryz.func59 (by kernel_rfl) (by kernel_rfl) fun (x:(Unit)) h (y:((Int×Unit)×(Int×Unit)×(Int×Unit)×Unit)) k hf hg hp=>⟨bK,400,af (q:=n6 y (QK (sn y.2.2.1.1) True Q5e (Q8F x y) (Qr (((1:Int)≤(64:Int))∧((64:Int)≤(4096:Int))) (∀ (va:cI) (vb:ck) (vc:Me) (vd:a1x),MU vc (QK (Q3E vc.2) True (vc.2.1.1=(1:Int)) (Q8F x y) (Qr (((1:Int)≤(8:Int))∧((8:Int)≤(4096:Int))) (∀ (ve:cI) (vf:ck) (vg:Um) (vi:a0q),VM vg False)))))) (El (Q8F x y))) (by kernel_rfl) ?_⟩
 delta Q7 Q6 Qn cR Qs Q3 ya Qr mV Qk Q4 mQ JY Q0 uI mB QK Q5e Q10 DP Ql K1 LP El Q3x rv Q6g Q3E sn H7 Q7U Q8F n6 MU VM;obtain ⟨⟨⟩⟩:=x;obtain ⟨⟨⟩⟩:=h;obtain ⟨⟨(l0:Int),⟨⟩⟩,⟨(k0:Int),⟨⟩⟩,⟨(first:Int),⟨⟩⟩,⟨⟩⟩:=y;obtain ⟨⟨⟨⟩,⟨⟩⟩,⟨⟨⟩,⟨⟩⟩,⟨⟨⟩,⟨⟩⟩,⟨⟩⟩:=k
 try dsimp only
 have hn: ¬(1≤k0∧k0≤10000∧0≤first∧first≤1073741824):=hp;have hpost:jR () ((l0,()),(k0,()),(first,()),()) () (((),()),((),()),()):=trivial;simp only [cl];exact ⟨fun _=>⟨fun _=>⟨fun _=>⟨fun _=>hpost,fun _=>by omega⟩,fun _=>hpost⟩,fun _=>hpost⟩,fun _=>hpost⟩
noncomputable def Hg:=Oe.add 59 O1
def HY(x:(cB×Unit))(y:((Int×Unit)×(Unit×Unit)×Unit)):Prop:=fe x.1∧x.1.2.2.1≠2∧y.1.1=x.1.2.2.2.2.2.2.2.1+x.1.2.2.2.2.2.2.1.2.2.1∧x.1.2.2.2.2.2.2.1.2.2.1<64
def mS(x:(cB×Unit))(y:((Int×Unit)×(Unit×Unit)×Unit))(x':(cB×Unit))(z:((Unit×Unit)×Unit)):Prop:=fe x'.1∧bn x'.1= {bn x.1 with on:=(bn x.1).on+1}
noncomputable def a1V:MC:=qC [true,false,false] [cH] [(false,[.int .i64]),(false,[.cl (.int .u8 (0))])] [(false,[.cl (.int .i64 (0))])] HY mS
abbrev Nz:Type:=Sp.Hs [oD]
abbrev Gt:Type:=Sp.Ts [oD]
abbrev dY:Type:=cB×Unit
abbrev Uh:Type:=Int×Int×Int×Unit
abbrev SO:Type:=iC×Int×Int×kR×Int×Int×Int×Unit
abbrev Jw:Type:=Int×Unit×Int×Int×iC×Int×Int×kR×Int×Int×Int×Unit
def Q8O(a:dY):iC:=a.1.2.2.2.2.2.2.1
def DB(a:dY):kR×Int×Int×Int×Unit:=a.1.2.2.2.2.2.2.2.2.2
def Q8U(a:dY):kR:=(DB a).1
def Q8T(a:dY):Int:=a.1.2.2.2.2.2.2.2.2.1
def Rx(a:dY):Int:=a.1.2.2.2.2.2.2.2.1
def uJ(a:dY):Nat:=(Q8O a).1.length
def Q8R(a:dY):Nat:=(Q8U a).1.length
def O7(a:dY):Int:=(DB a).2.2.2.1
def Y5(a:dY):Int:=(DB a).2.1
def iS(a:dY):Uh:=(Y5 a,(DB a).2.2.1,O7 a,())
def Q8J(a:dY):Int:=(Q8O a).2.2.1
def Q8P(a:Gt):Nat:=List.length a.1.1
def ZJ(a:dY):Prop:=aV a.1
def Q90(a:dY):Int:=a.1.2.2.2.2.1
def Q91(a:dY):Int:=a.1.2.2.2.2.2.1
def Q8Z(a:dY):Int:=a.1.2.2.1
def Q8S(a:dY)(b:SO):Jw:=(Q8Z a,(),Q90 a,Q91 a,b)
def Q8K(a:dY):Int:=Rx a+Q8J a
def ri(a:Nat)(b c d:Int)(e:Prop):Prop:=Qs (QF a a) (D7 a∧Q6 (fW a) (Qt b) (b<c) (Qt d) (d≤c)) e
def Q8G(a:dY)(b c:Prop):Prop:=Qu (Q8Z a) (2:Int) (ZJ a) (oO (12:Int)) b c
def zc(a:dY):Prop:=ya (QA (uJ a) (uJ a))
def Q8Q(a:Gt):kG:=rQ a.1.1 a.1.2.1 a.1.2.2.1
theorem Lp:ab Tryz.prog 76 a1V:=by
 refine ah (cx Mx [114] cQ Hg) Tryz.func76 (by kernel_rfl) (by kernel_rfl) fun (x:(cB×Unit)) h (y:((Int×Unit)×(Unit×Unit)×Unit)) k hf hg hp=>⟨bK,400,af (q:=Q8G x (mS x y (x.1,()) mB) (yn (zc x) (Qd (Rx x) (Q8J x)) (y.1.1 !=Q8K x) (Q7 (ZJ x) (oO (11:Int)) (mS x y (x.1,()) mB)) (ri (uJ x) (Q8O x).2.1 (↑(uJ x):Int) (Q8J x) (∀ (va:Gt) (vb:Nz) (vc:mF) (vd:fU),Q3j mQ (Qn (dZ va.1.1 va.1.2.1 va.1.2.2.1) (Q8P va=uJ x) (Q3G (yG (Q8J x) (uJ x)) (Q8Q va=rQ (Q8O x).1 (Q8O x).2.1 (Q8J x)) (vc.1.1=(8:Int))) (Q3G (Q8J x≠(↑(uJ x):Int)) (Q8Q va=TW (rQ (Q8O x).1 (Q8O x).2.1 (Q8J x)) (0:Int)) (rv vc))) (Q7 (yC QJ (Q8P va) (Q8R x)) (rv vc) (mS x y ((x.1.1,x.1.2.1,Q8S x (va.1,Rx x,Q8T x,Q8U x,iS x)),()) mB)))))) (by kernel_rfl) ?_⟩
 delta Q7 Q6 oO Qn Qs Q3 ya Qr mV Qk Q4 DB mQ QJ cu JY Q0 uI mB QF QK Q8O Qi QA Q8U Q8T yG Rx Qt O7 dD Q3j Y5 uJ Q90 yC Q91 Q8R Q8Z iS Q8J Q3x Q8P fW Qu yn Qd Q4V Q3G ZJ Q8S TW rv D7 Q8K ri Q8G zc Q8Q aV;obtain ⟨⟨(r0:Int),(t0:Int),(n0:Int),⟨⟩,(v0:Int),(p0:Int),⟨m0,(s0:Int),(k0:Int),⟨⟩⟩,(l0:Int),(q0:Int),⟨x0,(w0:Int),(y0:Int),⟨⟩⟩,(o0:Int),(z0:Int),(u0:Int),⟨⟩⟩,⟨⟩⟩:=x;obtain ⟨⟨⟨⟩,⟨⟩,⟨⟩,⟨⟩,⟨⟩,⟨⟩,⟨⟨⟩,⟨⟩,⟨⟩,⟨⟩⟩,⟨⟩,⟨⟩,⟨⟨⟩,⟨⟩,⟨⟩,⟨⟩⟩,⟨⟩,⟨⟩,⟨⟩,⟨⟩⟩,⟨⟩⟩:=h;obtain ⟨⟨(fr:Int),⟨⟩⟩,⟨⟨⟩,⟨⟩⟩,⟨⟩⟩:=y;obtain ⟨⟨⟨⟩,⟨⟩⟩,⟨⟨⟩,⟨⟩⟩,⟨⟩⟩:=k
 try dsimp only
 obtain ⟨hk,r1,r2,r3⟩:=(show lW r0 t0 n0 v0 p0 m0 s0 k0 l0 q0 x0 w0 y0 o0 u0∧n0≠2∧fr=l0+k0∧k0<64 from hp);have hk':=hk;obtain ⟨⟨o1,o2,o3⟩,⟨q1,q2,q3⟩,⟨n1,n2⟩,⟨p1,p2⟩,⟨s1,s2⟩,⟨t1,t2,t3⟩,⟨a1,a2⟩,⟨x1,x2⟩,g1,g2,g3⟩:=hk';have o1':=o1;obtain ⟨o4,o5,o6,o7,o8,o9⟩:=o1';have q1':=q1;obtain ⟨q4,q5,q6,q7,q8,q9⟩:=q1';simp only [cl];refine ⟨fun h=>absurd h r1,fun _=>⟨by simp only [aL,aT,aU];omega,fun h=>absurd r2 h,fun _=>⟨o1,fun x z h1 h2 h3 h4=>?_⟩⟩⟩
 have hne: ¬k0=(m0.length:Int):=by omega
 obtain ⟨e1,e2⟩:=h4 hne;have e1:rQ x.fst.fst x.fst.snd.fst x.fst.snd.snd.fst=rQ m0 s0 k0++ [(0,())]:=e1;have hn:x.fst.snd.snd.fst=k0+1:=by
  have k1:=jg h1;have k2:=jg o1;rw [e1,List.length_append,List.length_singleton] at k1;exact k1.trans (by omega)
 refine ⟨e2,⟨⟨h1,h2.trans o2,fun r hr=>?_⟩,⟨q1,q2,q3⟩,⟨n1,n2⟩,⟨p1,p2⟩,⟨s1,s2⟩,⟨t1,t2,t3⟩,⟨a1,a2⟩,⟨x1,x2⟩,g1,g2,g3⟩,?_⟩
 ·have hr:r∈rQ x.fst.fst x.fst.snd.fst x.fst.snd.snd.fst:=hr;rw [e1] at hr;rcases List.mem_append.1 hr with k|k
  ·exact o3 r k
  ·rw [List.mem_singleton.1 k]
 ·show LA.mk r0 t0 n0 v0 p0 x.fst.snd.snd.fst l0 q0 (o0+u0) _=_;rw [hn];rfl
noncomputable def N7:=Hg.add 76 Lp
def xK(x:(cB×Unit))(y:((Int×Unit)×(Int×Unit)×Unit)):Prop:=fe x.1∧x.1.2.2.1≠2∧0≤y.1.1∧y.1.1≤9000∧x.1.2.2.2.2.2.2.2.2.2.1.2.2.1<8∧0≤y.2.1.1∧y.2.1.1≤4294967295
def jj(x:(cB×Unit))(y:((Int×Unit)×(Int×Unit)×Unit))(x':(cB×Unit))(z:((Unit×Unit)×Unit)):Prop:=fe x'.1∧bn x'.1= {bn x.1 with q:=(bn x.1).q++ [(4,0,y.1.1,0,0,y.2.1.1,0)]}
noncomputable def OI:MC:=qC [true,false,false] [cH] [(false,[.int .i64]),(false,[.int .u32])] [(false,[.cl (.int .i64 (0))])] xK jj
abbrev Fj:Type:=Sp.Ts [mD]
def Q93(a:dY):Int:=(Q8U a).2.2.1
def Q97(a:dY)(b:Fj):Prop:=yC QJ (uJ a) (DP b.1)
def Q98(a:dY)(b:Fj):Jw:=Q8S a (Q8O a,Rx a,Q8T a,b.1,iS a)
def Q92(a:dY):Int:=(↑(Q8R a):Int)
def Q94(a:Fj)(b:dY)(c d:wv)(e:mF)(f g:Prop):Prop:=Q3j mQ (Qn (dZ a.1.1 a.1.2.1 a.1.2.2.1) (DP a.1=Q8R b) (Q3G (yG (Q93 b) (Q8R b)) (c=d) (e.1.1=(8:Int))) (Q3G (Q93 b≠Q92 b) f (rv e))) g
def Q95(a:Fj):wv:=rQ a.1.1 a.1.2.1 a.1.2.2.1
def Q96(a:dY):wv:=rQ (Q8U a).1 (Q8U a).2.1 (Q93 a)
theorem wi:ab Tryz.prog 147 OI:=by
 refine ah (cx Mx [114] cQ N7) Tryz.func147 (by kernel_rfl) (by kernel_rfl) fun (x:(cB×Unit)) h (y:((Int×Unit)×(Int×Unit)×Unit)) k hf hg hp=>⟨bK,400,af (q:=Q8G x (jj x y (x.1,()) mB) (Q0 (decide ((0:Int)≤y.1.1)) (QK (sn y.1.1) (ZJ x) CW (jj x y (x.1,()) mB) (K5 (rm y.1.1) (QF (Q8R x) (Q8R x)) (D7 (Q8R x)∧Q6 (fW (Q8R x)) (Qt (Q8U x).2.1) ((Q8U x).2.1<Q92 x) (Qt (Q93 x)) (Q93 x≤Q92 x)) (∀ (va:Fj) (vb:Sp.Hs [mD]) (vc:mF) (vd:fU),Q94 va x (Q95 va) (Q96 x) vc (∃ (ve:Row dk),ZU ve (4:Int) (0:Int) y.1.1 (0:Int) ([]:List (Row [Kd.int IntKind.u8])) y.2.1.1 (0:Int)∧Q95 va=(Q96 x).append [ve]) (Q7 (Q97 x va) (rv vc) (jj x y ((x.1.1,x.1.2.1,Q98 x va),()) mB))))) (Q7 (ZJ x) CW (jj x y (x.1,()) mB)))) (by kernel_rfl) ?_⟩
 delta Q7 Q6 oO Qn Qs Q3 ya Qr mV Qk Q4 DB mQ QJ cu JY Q0 uI mB QF QK Q8O Q8U Q8T yG Rx Qt O7 dD Q3j Y5 K5 uJ Q90 yC DP Q91 Q8R Q8Z iS Q93 D8 Q3x CW fW Qu Q97 Q3G ZJ Q8S Q98 rm rv D7 Q92 sn Q8G Q94 Q95 Q96 aV;obtain ⟨⟨(r0:Int),(u0:Int),(m0:Int),⟨⟩,(w0:Int),(p0:Int),⟨z0,(y0:Int),(t0:Int),⟨⟩⟩,(n0:Int),(q0:Int),⟨l0,(s0:Int),(k0:Int),⟨⟩⟩,(o0:Int),(a0:Int),(v0:Int),⟨⟩⟩,⟨⟩⟩:=x;obtain ⟨⟨⟨⟩,⟨⟩,⟨⟩,⟨⟩,⟨⟩,⟨⟩,⟨⟨⟩,⟨⟩,⟨⟩,⟨⟩⟩,⟨⟩,⟨⟩,⟨⟨⟩,⟨⟩,⟨⟩,⟨⟩⟩,⟨⟩,⟨⟩,⟨⟩,⟨⟩⟩,⟨⟩⟩:=h;obtain ⟨⟨(fr:Int),⟨⟩⟩,⟨(x0:Int),⟨⟩⟩,⟨⟩⟩:=y;obtain ⟨⟨⟨⟩,⟨⟩⟩,⟨⟨⟩,⟨⟩⟩,⟨⟩⟩:=k
 try dsimp only
 obtain ⟨hk,r1,r2,r3,r4,r5,r6⟩:=(show lW r0 u0 m0 w0 p0 z0 y0 t0 n0 q0 l0 s0 k0 o0 v0∧m0≠2∧0≤fr∧fr≤9000∧k0<8∧0≤x0∧x0≤4294967295 from hp);have hk':=hk;obtain ⟨⟨o1,o2,o3⟩,⟨q1,q2,q3⟩,⟨n1,n2⟩,⟨p1,p2⟩,⟨s1,s2⟩,⟨t1,t2,t3⟩,⟨a1,a2⟩,⟨x1,x2⟩,g1,g2,g3⟩:=hk';have o1':=o1;obtain ⟨o4,o5,o6,o7,o8,o9⟩:=o1';have q1':=q1;obtain ⟨q4,q5,q6,q7,q8,q9⟩:=q1';simp only [cl];refine ⟨fun h=>absurd h r1,fun _=>⟨fun _=>⟨fun h=>absurd (by omega) h,fun _=>⟨⟨r2,by omega⟩,q1,fun x z h1 h2 h3 h4=>?_⟩⟩,fun h=>absurd r2 h⟩⟩
 have hne: ¬k0=(l0.length:Int):=by omega
 obtain ⟨⟨q,e0,e1⟩,e2⟩:=h4 hne;have e1:rQ x.fst.fst x.fst.snd.fst x.fst.snd.snd.fst=rQ l0 s0 k0++ [q]:=e1;refine ⟨e2,⟨⟨o1,o2,o3⟩,⟨h1,h2.trans q2,fun r hr=>?_⟩,⟨n1,n2⟩,⟨p1,p2⟩,⟨s1,s2⟩,⟨t1,t2,t3⟩,⟨a1,a2⟩,⟨x1,x2⟩,g1,g2,g3⟩,?_⟩
 ·have hr:r∈rQ x.fst.fst x.fst.snd.fst x.fst.snd.snd.fst:=hr;rw [e1] at hr;rcases List.mem_append.1 hr with k|k
  ·exact q3 r k
  ·rw [List.mem_singleton.1 k];exact Ja e0 (abT r2 (by omega) r5 r6) rfl
 ·show LA.mk r0 u0 m0 w0 p0 t0 n0 q0 (o0+v0) (List.map mA (rQ x.fst.fst x.fst.snd.fst x.fst.snd.snd.fst))=_;rw [e1,List.map_append,List.map_singleton,BF e0];rfl
noncomputable def BA:=N7.add 147 wi
def vF(x:(cB×Unit))(y:((Int×Unit)×Unit)):Prop:=fe x.1∧x.1.2.2.1≠2∧ -60≤y.1.1∧y.1.1≤60
def dF(x:(cB×Unit))(y:((Int×Unit)×Unit))(x':(cB×Unit))(z:((List (Row dk)×Unit)×Unit)):Prop:=fe x'.1∧bn x'.1= {bn x.1 with q:= []}∧(∀r∈z.1.1,aP r)∧List.map mA z.1.1=(bn x.1).m7 y.1.1
noncomputable def Xe:MC:=qC [true,false] [cH] [(false,[.int .i64])] [(false,[.sl dk 151])] vF dF
abbrev ug:Type:=Nat×List (Row dk)×Int×List (Row dk)×Nat
abbrev Sh:Type:=eZ [(false,[Sp.sl [Kd.int IntKind.u8] (5:TypeId)])]
abbrev Nw:Type:=aZ [(false,[Sp.sl [Kd.int IntKind.u8] (5:TypeId)])]
abbrev a0w:Type:=(List (Row dk)×Unit)×Unit
def Q9l(a b c d:Prop):Prop:=uI (ya a) (cR b JY) c d
def Q9n(a:ug):Bool:=decide (a.1=(0:Nat))
def Q99(a:dY)(b c d e:Prop):Prop:=Q2B (a.1.1=a.1.1) (a.1.2.1=a.1.2.1) (Q8Z a) (Q8Z a) QJ (K5 (Q90 a=Q90 a) b c (Q2B (Q8T a=Q8T a) True (Y5 a) (Y5 a) d e))
def Q9d(a:dY):Prop:=O7 a=O7 a
def NR(a:ug):Bool:=Nc (Q9n a)
def X2(a:dY):Prop:=(DB a).2.2.1=(DB a).2.2.1
def Q9m(a:ug):Nat:=a.2.2.2.2
def Q9b(a:dY):Prop:=Rx a=Rx a
def Q9a(a:dY):Prop:=Q91 a=Q91 a
def Q9H(a:dY)(b:Int)(c:eL):wv:= [Q5U (6:Int) (0:Int) (Q8T a) (0:Int) (if (-1000:Int)<(if (1000:Int)<b then (1000:Int) else b) then (if (1000:Int)<b then (1000:Int) else b) else (-1000:Int),c)]
def Q9G(a:dY)(b:ky):wv:=Q5U (5:Int) (0:Int) (0:Int) (Q8T a) Q5V::Q9H a b.1.1 ()
def Tn(a:Prop)(b:ug)(c:wv)(d:Nat)(e:dY)(f:ky)(g:Jw)(i:a0w):Prop:=Q7 a (kF (rB b.1) (b.2.2.2.1.append c).length (NR b) (NR b) d d) (dF e f ((e.1.1,e.1.2.1,g),()) i)
def mY(a:dY)(b:Value)(c:Nw)(d:ky):wv:=((3:Int),(0:Int),Rx a,Q8T a,(b,c.1.1),(0:Int),Q5V)::Q9H a d.1.1 ()
def UU(a:ug)(b:Prop):Prop:=Q7A a.1 a.2.2.2.1.length (Q9m a) (Q9n a=Q9n a) (Q9n a) (WV a.1 (56:Nat)) b
def D3(a:dY)(b:ug):Int:=Q93 a-(↑b.1:Int)
def Q9y(a:Gt)(b:Fj):Prop:=yC QJ (Q8P a) (DP b.1)
def Q9F(a:dY):wv:= [Q5U (5:Int) (0:Int) (0:Int) (Q8T a) Q5V]
def Q9A(a:dY)(b:Gt)(c:Fj):Jw:=Q8S a (b.1,Rx a,Q8T a,c.1,iS a)
def Q9j(a:List (Row dk)×Int×List (Row dk)×Nat):Nat:=a.1.length
def Q9D(a:Prop)(b:ug)(c:wv)(d:Nat)(e:dY)(f:ky)(g:Jw)(i:a0w):Prop:=Q7 a (kF (b.1+(2:Nat)) (b.2.2.2.1.append c).length (NR b) (NR b) d d) (dF e f ((e.1.1,e.1.2.1,g),()) i)
def WY(a:dY)(b:ug)(c:Prop):Prop:=Q7 (rm (Q8T a)) (Q6 (b.1=b.2.2.2.1.length) (Q9m b=Q9m b) (Q9n b=Q9n b) (gC (Q9n b) (Q9m b)) (GW ((b.1+(2:Nat))*(56:Nat)))) c
def Q9e(a:dY)(b:Int):Prop:=Q5w (uJ a) (uJ a) (Q8O a).2 (Q8J a) b
def Q9p(a:Hz):wv:= [a]
def yA(a:dY):Bool:=(Q90 a).tmod (8:Int) !=(0:Int)
def Q9C(a:ug)(b:Nat)(c:Prop):Prop:=RH (a.1+(2:Nat)) b (2:Nat) (Q9m a) c
def Q9f(a:dY):Prop:=WD (uJ a) (uJ a) (List.take (uJ a) (Q8O a).1=(Q8O a).1)
def Q9v(a:dY):Prop:=Q2B (Q91 a=Q91 a) True (Rx a) (Rx a) (Q8T a=Q8T a) (Qn True (Y5 a=Y5 a) (X2 a) (Q9d a))
def Q9t(a:dY):Bool:=decide ((0:Int)<(Q8J a))
def Q9w(a:Nw)(b:Sh)(c:dY)(d:Gt)(e:Prop):Prop:=dD mQ (ya (fY a.1≤b.1.1.2∧gC b.1.1.1 b.1.1.2)) (sJ (Q8O c,()) () d a) (ta (fY a.1) (fY a.1) (b.1.1.1=b.1.1.1)∧e)
def UA(a:ug)(b:Hz):a0w:=((a.2.2.2.1.append (Q9p b),()),())
def Q9g(a:Int):Int:=a-(↑(0:Nat):Int)
def Q9h(a:dY):Prop:=List.take (Q8R a) (Q8U a).1=(Q8U a).1
def Q9i(a:ug)(b:dY):Prop:=Q6 (Q5B a.1 (Q93 b)) (Ub (Q8U b).1 (Q8U b).2.1 (Q93 b) a.2.1 a.2.2.1 (D3 b a) a.2.2.2.1) (a.2.2.2.1.length=a.1) (a.1≤Q9m a) (Ha a.1 (Q9m a))
def Q9z(a:dY)(b:Value)(c:Nw):Hz:=((3:Int),(0:Int),Rx a,Q8T a,(b,c.1.1),(0:Int),Q5V)
def Q9u(a:dY)(b c:Prop):Prop:=rm (Rx a)∧K5 b (QF (uJ a) (uJ a)) (vJ (Q8O a,()) ()) c
theorem Xx:ab Tryz.prog 64 Xe:=by
 refine ah (cx Mx [117,178,118] cQ BA) Tryz.func64 (by kernel_rfl) (by kernel_rfl) fun (x:(cB×Unit)) h (y:((Int×Unit)×Unit)) k hf hg hp=>⟨(fun bk=>match bk with|1000=>some {S:=Nat×List (Row dk)×Int×List (Row dk)×Nat,st:=fun s=>⟨jk [(1,.v (.one (.ptr 6 0)))] 21,aW false [cH] ((x.1.1,x.1.2.1,x.1.2.2.1,(),x.1.2.2.2.2.1,x.1.2.2.2.2.2.1,x.1.2.2.2.2.2.2.1,x.1.2.2.2.2.2.2.2.1,x.1.2.2.2.2.2.2.2.2.1,(s.2.1,s.2.2.1,x.1.2.2.2.2.2.2.2.2.2.1.2.2.1-(s.1:Int),()),x.1.2.2.2.2.2.2.2.2.2.2.1,x.1.2.2.2.2.2.2.2.2.2.2.2.1,x.1.2.2.2.2.2.2.2.2.2.2.2.2.1,()),()) (((),(),(),(),(),(),((),(),(),()),(),(),((),(),(),()),(),(),(),()),()) 0 0++ [some (.cells [.rs (decide (s.1=0)) 0 8 0 7 0 s.1 s.2.2.2.2] 147),some (.cells [.ptr 0 0] 80),none,some (.rows false (decide (s.1=0)) dk s.2.2.2.1 0 s.2.2.2.2 151)]⟩,ok:=fun s=>(s.1:Int)≤x.1.2.2.2.2.2.2.2.2.2.1.2.2.1∧Ub x.1.2.2.2.2.2.2.2.2.2.1.1 x.1.2.2.2.2.2.2.2.2.2.1.2.1 x.1.2.2.2.2.2.2.2.2.2.1.2.2.1 s.2.1 s.2.2.1 (x.1.2.2.2.2.2.2.2.2.2.1.2.2.1-(s.1:Int)) s.2.2.2.1∧List.length s.2.2.2.1=s.1∧s.1≤s.2.2.2.2∧(s.1=0→s.2.2.2.2=0),mu:=fun s=>(x.1.2.2.2.2.2.2.2.2.2.1.2.2.1.toNat-s.1),init:=(0,x.1.2.2.2.2.2.2.2.2.2.1.1,x.1.2.2.2.2.2.2.2.2.2.1.2.1,[],0)}|700012=>some {S:=Unit,st:=fun s=>⟨[],[]⟩,ok:=fun s=>True,mu:=fun s=>0,init:=()}|119700003=>some {S:=Unit,st:=fun s=>⟨[.v (.one (.ptr 0 0))],[]⟩,ok:=fun s=>True,mu:=fun s=>0,init:=()}|_=>none),1000,af (q:=Qu (Q8Z x) (2:Int) (ZJ x) True (dF x y (x.1,()) ((([]:List (Row dk)),()),())) (∀ (va:Nat) (vb:Loop),Q2d (Q6j va) (Q99 x (Q9a x) (Q9b x) (X2 x) (Q9d x)) (Q9e x (Q8J x)) (Qn (Q9f x) (Q5w (Q8R x) (Q8R x) (Q8U x).2 (Q93 x) (Q9g (Q93 x))) (WD (Q8R x) (Q8R x) (Q9h x)) (Q1I Q1r True (vb=vb) jh (Rt∧(([]:List (Row dk))= [])))) (Q6 (Q5z (Q93 x)) (Ub (Q8U x).1 (Q8U x).2.1 (Q93 x) (Q8U x).1 (Q8U x).2.1 (Q9g (Q93 x)) ([]:List (Row dk))) jh ((0:Nat)≤(0:Nat)) Wl)∧(∀ (vc:ug),Q9i vc x→ri (Q9j vc.2) vc.2.2.1 (↑(Q9j vc.2):Int) (D3 x vc) (∀ (vd:Fj) (ve:Sp.Hs [mD]) (vf:aZ [(true,[Sp.int IntKind.i64,Sp.int IntKind.u32,Sp.int IntKind.u16,Sp.int IntKind.u16,Sp.im [Kd.int IntKind.u8],Sp.int IntKind.u32,Sp.int IntKind.i64]),(false,[Sp.bool])]) (vg:eZ [(true,[Sp.int IntKind.i64,Sp.int IntKind.u32,Sp.int IntKind.u16,Sp.int IntKind.u16,Sp.im [Kd.int IntKind.u8],Sp.int IntKind.u32,Sp.int IntKind.i64]),(false,[Sp.bool])]),Q9l mQ (mV Q6q) (Q6 (dZ vd.1.1 vd.1.2.1 vd.1.2.2.1) (DP vd.1=Q9j vc.2) (vf.2.1.1=(decide ((0:Int)<(D3 x vc)))) (oO (D3 x vc)→Q95 vd=([]:List (Row dk))) (Qe (D3 x vc)→(∃ (vi:Row dk),ZU vi vf.1.1 vf.1.2.1 vf.1.2.2.1 vf.1.2.2.2.1 vf.1.2.2.2.2.1 vf.1.2.2.2.2.2.1 vf.1.2.2.2.2.2.2.1∧rQ vc.2.1 vc.2.2.1 (D3 x vc)=vi::Q95 vd))) (Ql (!vf.2.1.1) (Q6 (va=va) (vb=vb) (vb=vb) (vY vc.1 vc.2.2.2.1.length (Q9m vc) (Q9n vc) (56:Nat)) (∀ (vi:Nat),x9 vc.1 vi (Q9m vc) (vb=vb∧(∃ (vj:ug),MG (Q3p (Q6j va) (Q99 x (Q9a x) (Q9b x) (X2 x) (Q9d x)) (Q9e x (Q8J x)) (Q9f x) (Q7 (sX (DP vd.1) (Q9j vj.2) (DP vd.1) (Q9j vj.2)) (vd.1.2.1=vj.2.2.1) (vd.1.2.2.1=D3 x vj)) (WD (DP vd.1) (Q9j vj.2) (List.take (Q9j vj.2) vd.1.1=vj.2.1)) (Qs (iZ (NR vc) (Q9n vj) (rB vc.1) vj.1 vi (Q9m vj)) (vb=vb∧jh) (ya (oE (NR vc) (Q9n vj) vi (Q9m vj) (List.take vj.2.2.2.1.length (vc.2.2.2.1.append (Q9p (vf.1.1,vf.1.2.1,vf.1.2.2.1,vf.1.2.2.2.1,(vg.1.2.2.2.2.1,vf.1.2.2.2.2.1),vf.1.2.2.2.2.2.1,vf.1.2.2.2.2.2.2.1,())))=vj.2.2.2.1))))) (Q9i vj x) (Q93 x).toNat vj.1 vc.1)))) (Q0 (Q8Z x==(0:Int)) (UU vc (∀ (vi:Nat),x9 vc.1 vi (Q9m vc) (Tn (Q97 x vd) vc (Q9p (Q5U (1:Int) x.1.1 (0:Int) (0:Int) Q5V)) vi x y (Q98 x vd) (UA vc (Q5U (1:Int) x.1.1 (0:Int) (0:Int) Q5V))))) (Qn (yn (rm (Q8T x)) (zc x) (Q9t x) (Q9u x (x.1.1=x.1.1∧Q6 (x.1.2.1=x.1.2.1) (Q8Z x=Q8Z x) QJ (Q90 x=Q90 x) (Q9v x)) (∀ (vi:Gt) (vj:Nz) (vl:Nw) (vm:Sh),Q9w vl vm x vi (∀ (vn:Value),Q6 (Q99 x (Q9a x) (Q9b x) (X2 x) (Q9d x)) (Q99 x (Q9a x) (Q9b x) (X2 x) (Q9d x)) (Q99 x (Q9a x) (Q9b x) (X2 x) (Q9d x)) (Q99 x (Q9a x) (Q9b x) (X2 x) (Q9d x)) (Q0 (yA x) (UU vc (∀ (vo:Nat),x9 vc.1 vo (Q9m vc) (Tn (Q9y vi vd) vc (Q9p (Q9z x vn vl)) vo x y (Q9A x vi vd) (UA vc (Q9z x vn vl))))) (WY x vc (∀ (vo:Nat),Q9C vc vo (Q9D (Q9y vi vd) vc (mY x vn vl y) vo x y (Q9A x vi vd) ((vc.2.2.2.1.append (mY x vn vl y),()),())))))))) (Q0 (yA x) (UU vc (∀ (vi:Nat),x9 vc.1 vi (Q9m vc) (Tn (Q97 x vd) vc (Q9F x) vi x y (Q98 x vd) ((vc.2.2.2.1.append (Q9F x),()),())))) (WY x vc (∀ (vi:Nat),Q9C vc vi (Q9D (Q97 x vd) vc (Q9G x y) vi x y (Q98 x vd) ((vc.2.2.2.1.append (Q9G x y),()),())))))) (rm (Q8T x)) (zc x) (Q0 (Q9t x) (Q9u x (Q99 x (Q9a x) (Q9b x) (X2 x) (Q9d x)) (∀ (vi:Gt) (vj:Nz) (vl:Nw) (vm:Sh),Q9w vl vm x vi (∀ (vn:Value),Q99 x (Q9a x) (Q9b x) (X2 x) (Q9d x)∧Q1a (Q99 x (Q9a x) (Q9b x) (X2 x) (Q9d x)) (Q99 x (Q9a x) (Q9b x) (X2 x) (Q9d x)) (Q99 x (Q9a x) (Q9b x) (X2 x) (Q9d x)) (yA x) (UU vc (∀ (vo:Nat),x9 vc.1 vo (Q9m vc) (Tn (Q9y vi vd) vc (Q9p (Q9z x vn vl)) vo x y (Q9A x vi vd) (UA vc (Q9z x vn vl))))) (WY x vc (∀ (vo:Nat),Q9C vc vo (Q9D (Q9y vi vd) vc (mY x vn vl y) vo x y (Q9A x vi vd) ((vc.2.2.2.1.append (mY x vn vl y),()),()))))))) (Q0 (yA x) (UU vc (∀ (vi:Nat),x9 vc.1 vi (Q9m vc) (Tn (Q97 x vd) vc (Q9F x) vi x y (Q98 x vd) ((vc.2.2.2.1.append (Q9F x),()),())))) (WY x vc (∀ (vi:Nat),Q9C vc vi (Q9D (Q97 x vd) vc (Q9G x y) vi x y (Q98 x vd) ((vc.2.2.2.1.append (Q9G x y),()),()))))))))))))) (by kernel_rfl) ?_⟩
 delta Q7 Q6 oO QC Qn Yy Q6r kA cR Qs Q3 ya Qr jh mV Q4 DB mQ QJ cu Q6q JY Q0 Q23 gC uI iZ Q2B kF QF QK Q8O QA Q8U Q8T oE Q9l Rx Qt O7 dD Y5 K5 uJ WD Q90 yC DP Ql Q91 Q27 Q8R RA Q2d Q8Z Q9n rB Ha Q7A RH Q2a uN iS Q99 kS Q1I sX Q1a Q93 Q5L Q5U Q3p Q9d Nc NR X2 Q8J x9 D8 Q8P GW WV fW Qu Q9m Q9b Q2D Q9a yn Q97 Q5w Q9H MG Rt vY Q5V ZJ Q9G Tn ta Q8S mY Q1r Q6j Q98 rm UU D3 Q9y D7 Wl Qe Q9F Q9A Q9j Q9D Q5B WY Q9e ri Q9p fY yA zc Q9C Q9f Q9v Q9t Q95 Q9w UA Q9g Q9h Q9i Q9z Q9u Q5z aV;obtain ⟨⟨(t0:Int),(x0:Int),(u0:Int),⟨⟩,(n0:Int),(w0:Int),⟨q0,(p0:Int),(l0:Int),⟨⟩⟩,(r0:Int),(m0:Int),⟨a0,(z0:Int),(s0:Int),⟨⟩⟩,(v0:Int),(b0:Int),(y0:Int),⟨⟩⟩,⟨⟩⟩:=x;obtain ⟨⟨⟨⟩,⟨⟩,⟨⟩,⟨⟩,⟨⟩,⟨⟩,⟨⟨⟩,⟨⟩,⟨⟩,⟨⟩⟩,⟨⟩,⟨⟩,⟨⟨⟩,⟨⟩,⟨⟩,⟨⟩⟩,⟨⟩,⟨⟩,⟨⟩,⟨⟩⟩,⟨⟩⟩:=h;obtain ⟨⟨(o0:Int),⟨⟩⟩,⟨⟩⟩:=y;obtain ⟨⟨⟨⟩,⟨⟩⟩,⟨⟩⟩:=k
 try dsimp only
 obtain ⟨hk,r1,r2,r3⟩:=(show lW t0 x0 u0 n0 w0 q0 p0 l0 r0 m0 a0 z0 s0 v0 y0∧u0≠2∧ -60≤o0∧o0≤60 from hp);have hk':=hk;obtain ⟨⟨o1,o2,o3⟩,⟨q1,q2,q3⟩,⟨n1,n2⟩,⟨p1,p2⟩,⟨s1,s2⟩,⟨t1,t2,t3⟩,⟨a1,a2⟩,⟨x1,x2⟩,g1,g2,g3⟩:=hk';have o1':=o1;obtain ⟨o4,o5,o6,o7,o8,o9⟩:=o1';have q1':=q1;obtain ⟨q4,q5,q6,q7,q8,q9⟩:=q1';have hcl:(if (-1000:Int)<if (1000:Int)<o0 then (1000:Int) else o0 then if (1000:Int)<o0 then (1000:Int) else o0 else (-1000:Int))=o0:=by split<;>split<;>omega
 have htm:n0.tmod 8=n0 %8:=Int.tmod_eq_emod_of_nonneg (by omega)
 simp only [hcl,htm];simp only [cl];refine ⟨fun h=>absurd h r1,fun _=>⟨⟨by omega,q8,by rw [show s0-((0:Nat):Int)=s0 by omega];exact ⟨⟨q1,q2,q3⟩,fun r hr=>(by cases hr),rfl⟩,Nat.le_refl _⟩,fun s h1 h2 h3 h4 h5=>?_⟩⟩
 obtain ⟨⟨b1,b2,b3⟩,b4,b5⟩:=h2;refine ⟨b1,fun x z k m1 m2 m3 m4 m5=>⟨fun e=>?_,fun e=>?_⟩⟩
 ·have hpos:0<s0-(s.fst:Int):=of_decide_eq_true (m3.symm.trans e);obtain ⟨q,c1,c2⟩:=m5 (by omega)
  have hn:x.fst.snd.snd.fst=s0-((s.fst+1:Nat):Int):=by
   have k1:=jg b1;have k2:=jg m1;rw [c2,List.length_cons] at k1;exact k2.trans (by omega)
  have hrow:=PF c1 (b3 q (by rw [c2];exact List.mem_cons_self))
  refine ⟨⟨h3.symm,h5,by omega⟩,fun c d1 d2=>⟨(s.fst+1,x.fst.fst,x.fst.snd.fst,s.snd.snd.snd.fst++ [(z.fst.fst,z.fst.snd.fst,z.fst.snd.snd.fst,z.fst.snd.snd.snd.fst,(k.fst.snd.snd.snd.snd.fst,z.fst.snd.snd.snd.snd.fst),z.fst.snd.snd.snd.snd.snd.fst,z.fst.snd.snd.snd.snd.snd.snd.fst,())],c),?_⟩⟩
  dsimp only;refine ⟨⟨⟨⟨rfl,rfl,hn⟩,⟨rfl,List.take_length⟩,⟨by simp,rfl,rfl⟩,by simp,rfl,List.take_length⟩,by omega,⟨⟨by rw [←hn];exact m1,m2.trans b2,fun r hr=>?_⟩,fun r hr=>?_,?_⟩,by rw [List.length_append,h3];rfl,d1,fun h=>by omega⟩,by omega⟩
  ·rw [←hn] at hr;exact b3 r (by rw [c2];exact List.mem_cons_of_mem _ hr)
  ·rcases List.mem_append.1 hr with k1|k1
   ·exact b4 r k1
   ·rw [List.mem_singleton.1 k1];exact hrow
  ·rw [←hn,List.map_append,List.map_singleton,List.append_assoc,←b5,c2,List.map_cons,BF c1];rfl
 ·have hz0:s0-(s.fst:Int)=0:=by
   have k0:=of_decide_eq_false (m3.symm.trans e);omega
  have hx:=m4 hz0;have hs:List.map mA s.snd.snd.snd.fst=List.map mA (rQ a0 z0 s0):=by
   rw [←b5,hz0,show rQ s.snd.fst s.snd.snd.fst 0= [] from rfl,List.map_nil,List.append_nil]
  have hs1:s.fst≤8:=by omega
  have hpost: ∀M:List (Row dk),(∀r∈M,aP r)→List.map mA M=(if u0=0 then [((1,t0,0,0,0,0,0):AM)] else LA.XW (bn (t0,x0,u0,(),n0,w0,(q0,p0,l0,()),r0,m0,(a0,z0,s0,()),v0,b0,y0,())) o0)→dF ((t0,x0,u0,(),n0,w0,(q0,p0,l0,()),r0,m0,(a0,z0,s0,()),v0,b0,y0,()),()) ((o0,()),()) ((t0,x0,u0,(),n0,w0,(q0,p0,l0,()),r0,m0,(x.fst.fst,x.fst.snd.fst,x.fst.snd.snd.fst,()),v0,b0,y0,()),()) ((s.snd.snd.snd.fst.append M,()),()):=fun M hM1 hM2=>by
   refine ⟨⟨⟨o1,o2,o3⟩,⟨m1,m2.trans b2,fun r hr=>by have hr:r∈rQ x.fst.fst x.fst.snd.fst x.fst.snd.snd.fst:=hr;rw [hx] at hr;cases hr⟩,⟨n1,n2⟩,⟨p1,p2⟩,⟨s1,s2⟩,⟨t1,t2,t3⟩,⟨a1,a2⟩,⟨x1,x2⟩,g1,g2,g3⟩,?_,fun r hr=>?_,?_⟩
   ·show LA.mk t0 x0 u0 n0 w0 l0 r0 m0 (v0+y0) (List.map mA (rQ x.fst.fst x.fst.snd.fst x.fst.snd.snd.fst))=_;rw [hx];rfl
   ·rcases List.mem_append.1 hr with k1|k1
    ·exact b4 r k1
    ·exact hM1 r k1
   ·show List.map mA (s.snd.snd.snd.fst++M)=_;rw [List.map_append,hs,hM2];rfl
  have hlen: ∀M:List (Row dk),(s.snd.snd.snd.fst.append M).length=s.fst+M.length:=fun M=>by rw [←h3];exact List.length_append
  have hc:(false&&decide (s.fst=0))=true→False:=fun h=>by simp at h
  have l5:aP (5,0,0,m0,(Value.slice none 0 0,[]),0,0,()):=⟨abV (a:=m0) x1 (by omega),rfl⟩
  have l6:aP (6,0,m0,0,(Value.slice none 0 0,[]),0,o0,()):=⟨ab9 (s:=m0) (e:=o0) x1 (by omega) r2 r3,rfl⟩
  refine ⟨fun hst=>⟨⟨h3.symm,h5,by omega⟩,fun c d1 d2=>⟨⟨(by rw [hlen];rfl),fun h=>(hc h).elim⟩,hpost _ (fun r hr=>by rw [List.mem_singleton.1 hr];exact ⟨abL (n:=t0) n1 n2,rfl⟩) (by rw [if_pos hst];rfl)⟩⟩,fun hst=>⟨⟨x1,by omega⟩,fun ho=>⟨⟨a1,by omega⟩,⟨o1,o2⟩,fun y w k2 u1 u2 u3 v=>?_⟩,fun ho=>?_⟩⟩
  ·obtain ⟨w1,w2⟩:=(show y.1=(q0,p0,l0,())∧w.1.1=rQ q0 p0 l0 from u3);have hzz:=a44 o3;have hlq:(rQ q0 p0 l0).length=l0.toNat:=mC;have l3:aP (3,0,r0,m0,(v,rQ q0 p0 l0),0,0,()):=⟨by show ia (3,0,r0,m0,(rQ q0 p0 l0).length,0,0);rw [hlq];exact ab1 a1 (by omega) x1 (by omega) (by omega) (by omega),hzz⟩
   have e3:mA (3,0,r0,m0,(v,rQ q0 p0 l0),0,0,())=(3,0,r0,m0,l0.toNat,0,0):=by rw [←hlq];rfl
   simp only [w1,w2];refine ⟨fun ht=>⟨⟨h3.symm,h5,by omega⟩,fun c d1 d2=>⟨⟨(by rw [hlen];rfl),fun h=>(hc h).elim⟩,hpost _ (fun r hr=>by rw [List.mem_singleton.1 hr];exact l3) ?_⟩⟩,fun ht=>⟨⟨x1,by omega⟩,⟨h3.symm,h5,by omega⟩,fun c d1 d2=>⟨⟨(by rw [hlen];rfl),fun h=>(hc h).elim⟩,hpost _ (fun r hr=>?_) ?_⟩⟩⟩
   ·rw [if_neg hst,List.map_singleton,e3];show _=(if 0<l0 then _ else _)::(if n0 %8=0 then _ else _);rw [if_pos ho,if_neg ht];rfl
   ·rcases List.mem_cons.1 hr with k1|k1
    ·rw [k1];exact l3
    ·rw [List.mem_singleton.1 k1];exact l6
   ·rw [if_neg hst,List.map_cons,List.map_singleton,e3];show _=(if 0<l0 then _ else _)::(if n0 %8=0 then _ else _);rw [if_pos ho,if_pos ht];rfl
  ·refine ⟨fun ht=>⟨⟨h3.symm,h5,by omega⟩,fun c d1 d2=>⟨⟨(by rw [hlen];rfl),fun h=>(hc h).elim⟩,hpost _ (fun r hr=>by rw [List.mem_singleton.1 hr];exact l5) ?_⟩⟩,fun ht=>⟨⟨x1,by omega⟩,⟨h3.symm,h5,by omega⟩,fun c d1 d2=>⟨⟨(by rw [hlen];rfl),fun h=>(hc h).elim⟩,hpost _ (fun r hr=>?_) ?_⟩⟩⟩
   ·rw [if_neg hst];show _=(if 0<l0 then _ else _)::(if n0 %8=0 then _ else _);rw [if_neg ho,if_neg ht];rfl
   ·rcases List.mem_cons.1 hr with k1|k1
    ·rw [k1];exact l5
    ·rw [List.mem_singleton.1 k1];exact l6
   ·rw [if_neg hst];show _=(if 0<l0 then _ else _)::(if n0 %8=0 then _ else _);rw [if_neg ho,if_pos ht];rfl
noncomputable def Iq:=BA.add 64 Xx
def qK(x:(cB×Unit))(y:((Int×Unit)×Unit)):Prop:=fe x.1∧x.1.2.2.1≠2∧ -60≤y.1.1∧y.1.1≤60∧x.1.2.2.2.2.1+1-x.1.2.2.2.2.2.1≤x.1.2.1∧x.1.2.2.2.2.1<90000
def rX(x:(cB×Unit))(y:((Int×Unit)×Unit))(x':(cB×Unit))(z:((List (Row [.str])×Unit)×Unit)):Prop:=fe x'.1∧bn x'.1= {bn x.1 with tk:=(bn x.1).tk+1,q:= []}∧z.1.1=List.map (fun a=>(yE a,())) (({bn x.1 with tk:=(bn x.1).tk+1}:LA).m7 y.1.1)∧ ∀a∈({bn x.1 with tk:=(bn x.1).tk+1}:LA).m7 y.1.1,ia a
noncomputable def Xg:MC:=qC [true,false] [cH] [(false,[.int .i64])] [(false,[.sl [.str] 9])] qK rX
abbrev nK:Type:=Nat×cH.T×List (Row dk)×Bool×Nat×Nat
abbrev NY:Type:=eZ [(false,[Sp.sl dk (151:TypeId)])]
abbrev Oi:Type:=aZ [(false,[Sp.sl dk (151:TypeId)])]
abbrev m6:Type:=Sp.Hs [cH]
abbrev dB:Type:=Sp.Ts [cH]
def II:Prop:=Q2l (Q6r (Yy mQ (QC mQ True True True)))
def Q9W(a:dY)(b c d:Int):dY:=((a.1.1,a.1.2.1,Q8Z a,(),b,c,Q8O a,Rx a,d,Q8U a,iS a),())
def PN(a:nK):Row dk:=al a.2.2.1 (sY a.1)
def Q9M(a:nK):Nat:=a.2.2.1.length
def ZR(a:nK):Bool:=decide (a.1=(0:Nat))
def Q9O(a:dY)(b:ky)(c:nK):Prop:=dF (Q9W a (QH (Q90 a)) (Q91 a) (Q8T a)) (Qg b.1.1) (c.2.1,()) ((c.2.2.1,()),())
def Q9S(a:nK):Nat:=a.2.2.2.2.2
def ZL(a:Nat)(b:nK):NI:=Fs a b.2.2.1
def Q9N(a:nK):Prop:=a.1≤Q9S a∧Ha a.1 a.2.2.2.2.2
def Q9I(a:dY):dY:=((a.1.1,a.1.2.1,(2:Int),(),QH (Q90 a),Q91 a,Q8O a,Rx a,Q8T a,Q8U a,iS a),())
def Q9U(a b:nK)(c:Nat):Prop:=Q2l (Q2m (iZ (Nc (ZR a)) (ZR b) (rB a.1) b.1 c (Q9S b)) (iZ a.2.2.2.1 b.2.2.2.1 (Q9M a) (Q9M b) a.2.2.2.2.1 b.2.2.2.2.1) (↑(Q9M a):Int) (↑(Q9M b):Int) (ku a.1 b.1))
def Q9K(a:nK)(b:NY)(c:Oi)(d e f g:Prop):Prop:=lN (Q2l (Q2m (Qn (kS (ZR a)) jh (kA a.1) (kA (Q9S a))) (iZ b.1.1.1 a.2.2.2.1 (List.length c.1.1) (Q9M a) b.1.1.2 a.2.2.2.2.1) (↑(List.length c.1.1):Int) (↑(Q9M a):Int) (RU a.1))) d e f g
def Q9V(a b:nK)(c:wv)(d:Nat)(e f:NI):Prop:=ud a.2.1 b.2.1 (cR (oE a.2.2.2.1 b.2.2.2.1 a.2.2.2.2.1 b.2.2.2.2.1 (c=b.2.2.1)) (oE (Nc (ZR a)) (ZR b) d (Q9S b) (List.take (ZL b.1 b).length e=f)))
def Pj(a:nK):Io:=((PN a).2.2.1,(PN a).2.2.2.1,(PN a).2.2.2.2.1.2,(PN a).2.2.2.2.2.1,(PN a).2.2.2.2.2.2.1,())
def Q9L(a:dB)(b:nK)(c:NY)(d:Oi):Prop:=ud a.1 b.2.1 (cR (oE c.1.1.1 b.2.2.2.1 c.1.1.2 b.2.2.2.2.1 (List.take (Q9M b) d.1.1=b.2.2.1)) (kS (ZR b)∧ZL b.1 b=([]:List (Row [Kd.str]))))
theorem Gp:ab Tryz.prog 33 Xg:=by
 refine ah (cx Mx [] cQ Iq) Tryz.func33 (by kernel_rfl) (by kernel_rfl) fun (x:(cB×Unit)) h (y:((Int×Unit)×Unit)) k hf hg hp=>⟨(fun bk=>match bk with|0=>some {S:=Nat×Sp.T cH×List (Row dk)×Bool×Nat×Nat,st:=fun s=>⟨jk [(0,.v (.one (.ptr 0 0))),(4,.v (.one (.rs (decide (s.1=0)) 0 20 0 1 0 s.1 s.2.2.2.2.2))),(32,.v (.one (.rs s.2.2.2.1 0 19 0 7 0 (List.length s.2.2.1) s.2.2.2.2.1))),(0,.v (.one (.int .i64 false ((List.length s.2.2.1:Int))))),(0,.v (.one (.int .i64 false ((s.1:Int)))))] 57,aW false [cH] (s.2.1,()) (((),(),(),(),(),(),((),(),(),()),(),(),((),(),(),()),(),(),(),()),()) 0 0++List.replicate 14 none++ [some (.rows false s.2.2.2.1 dk s.2.2.1 0 s.2.2.2.2.1 151),some (.rows false (decide (s.1=0)) [.str] (Fs s.1 s.2.2.1) 0 s.2.2.2.2.2 9)]⟩,ok:=fun s=>s.1≤List.length s.2.2.1∧(s.1≤s.2.2.2.2.2∧(s.1=0→s.2.2.2.2.2=0))∧dF ((x.1.1,x.1.2.1,x.1.2.2.1,(),x.1.2.2.2.2.1+1,x.1.2.2.2.2.2.1,x.1.2.2.2.2.2.2.1,x.1.2.2.2.2.2.2.2.1,x.1.2.2.2.2.2.2.2.2.1,x.1.2.2.2.2.2.2.2.2.2.1,x.1.2.2.2.2.2.2.2.2.2.2.1,x.1.2.2.2.2.2.2.2.2.2.2.2.1,x.1.2.2.2.2.2.2.2.2.2.2.2.2.1,()),()) ((y.1.1,()),()) (s.2.1,()) ((s.2.2.1,()),()),mu:=fun s=>(List.length s.2.2.1-s.1),init:=(0,(0,0,0,(),0,0,([],0,0,()),0,0,([],0,0,()),0,0,0,()),[],false,0,0),ex:=true}|_=>none),400,af (q:=yn (QE (Q90 x)) (QS (QH (Q90 x)) (Q91 x)) (decide (x.1.2.1<(QH (Q90 x)-Q91 x))) (Qs (ZJ x) (vF (Q9I x) (Qg y.1.1)) (∀ (va:dB) (vb:m6) (vc:Oi) (vd:NY),dD II (ya (List.length vc.1.1≤vd.1.1.2∧gC vd.1.1.1 vd.1.1.2)) (dF (Q9I x) (Qg y.1.1) va vc) ((∃ (ve:nK),Q9K ve vd vc (Q9L va ve vd vc) (ve.1≤Q9M ve) (Q9N ve) (Q9O x y ve))∧(∀ (ve:nK),kQ (Q7 (ve.1≤Q9M ve) (Q9N ve) (Q9O x y ve)) (lV ve.1 (Q9M ve)) (ny ve.1 (Q9M ve)) (K5 (F7 ve.1 (Q9M ve)) True (wa () (((PN ve).1,(PN ve).2.1,Pj ve),())) (∀ (vf:cI) (vg:ck) (vi:UJ) (vj:VI),RE (gK () (((PN ve).1,(PN ve).2.1,Pj ve),()) vf vi) (Q7A ve.1 (ZL ve.1 ve).length (Q9S ve) (ZR ve=ZR ve) (ZR ve) (WV ve.1 (16:Nat)) (∀ (vl:Nat),x9 ve.1 vl (Q9S ve) (Na ve.1 (∃ (vm:nK),E4 (Q9U ve vm vl∧Q9V ve vm (List.take (Q9M vm) ve.2.2.1) vl ((ZL ve.1 ve).append [(vi.1.1,())]) (ZL vm.1 vm)) (vm.1≤Q9M vm) (Q9N vm) (Q9O x y vm) (Q9M vm) vm.1 (Q9M ve) ve.1)))))) (Q7 (aV ve.2.1) (kF ve.1 (ZL ve.1 ve).length (ZR ve) (ZR ve) (Q9S ve) (Q9S ve)) (rX x y (ve.2.1,()) ((ZL ve.1 ve,()),()))))))) (Qs (ZJ x) (vF (Q9W x (QH (Q90 x)) (Q91 x) (Q8T x)) (Qg y.1.1)) (∀ (va:dB) (vb:m6) (vc:Oi) (vd:NY),dD II (ya (List.length vc.1.1≤vd.1.1.2∧gC vd.1.1.1 vd.1.1.2)) (dF (Q9W x (QH (Q90 x)) (Q91 x) (Q8T x)) (Qg y.1.1) va vc) ((∃ (ve:nK),Q9K ve vd vc (Q9L va ve vd vc) (ve.1≤Q9M ve) (Q9N ve) (Q9O x y ve))∧(∀ (ve:nK),kQ (Q7 (ve.1≤Q9M ve) (Q9N ve) (Q9O x y ve)) (lV ve.1 (Q9M ve)) (ny ve.1 (Q9M ve)) (K5 (F7 ve.1 (Q9M ve)) True (wa () (((PN ve).1,(PN ve).2.1,Pj ve),())) (∀ (vf:cI) (vg:ck) (vi:UJ) (vj:VI),RE (gK () (((PN ve).1,(PN ve).2.1,Pj ve),()) vf vi) (Q7A ve.1 (ZL ve.1 ve).length (Q9S ve) (ZR ve=ZR ve) (ZR ve) (WV ve.1 (16:Nat)) (∀ (vl:Nat),x9 ve.1 vl (Q9S ve) (Na ve.1 (∃ (vm:nK),E4 (Q9U ve vm vl∧Q9V ve vm (List.take (Q9M vm) ve.2.2.1) vl ((ZL ve.1 ve).append [(vi.1.1,())]) (ZL vm.1 vm)) (vm.1≤Q9M vm) (Q9N vm) (Q9O x y vm) (Q9M vm) vm.1 (Q9M ve) ve.1)))))) (Q7 (aV ve.2.1) (Q7 (ve.1=(ZL ve.1 ve).length) (ZR ve=ZR ve) (ta (Q9S ve) (Q9S ve) (gC (ZR ve) (Q9S ve)))) (rX x y (ve.2.1,()) ((ZL ve.1 ve,()),())))))))) (by kernel_rfl) ?_⟩
 delta Q7 Q6 QC Qn Yy Q6r kA cR Qs Q3 ya Qr jh mV Q4 DB mQ cu JY Q0 Q23 gC uI iZ Q2B QH kF Q8O Qi Q8U Q8T Qg sY yG oE Rx Qt O7 dD Y5 QE K5 Q90 Q91 Qo Q2d Q8Z RE Q2m Q2l rB Q2C MT Ha Q7A RH Q2a II E4 QL iS ku kS Q9W lV Nc Na QS x9 GW PN WV RU Q9M ny ZR yn kQ F7 Q9O ZJ Q9S ta lN ZL Q9N Q9I Q9U Q9K Q9V Pj Q9L ud aV;obtain ⟨⟨(u0:Int),(p0:Int),(q0:Int),⟨⟩,(k0:Int),(l0:Int),⟨w0,(v0:Int),(x0:Int),⟨⟩⟩,(r0:Int),(t0:Int),⟨n0,(m0:Int),(o0:Int),⟨⟩⟩,(s0:Int),(z0:Int),(y0:Int),⟨⟩⟩,⟨⟩⟩:=x;obtain ⟨⟨⟨⟩,⟨⟩,⟨⟩,⟨⟩,⟨⟩,⟨⟩,⟨⟨⟩,⟨⟩,⟨⟩,⟨⟩⟩,⟨⟩,⟨⟩,⟨⟨⟩,⟨⟩,⟨⟩,⟨⟩⟩,⟨⟩,⟨⟩,⟨⟩,⟨⟩⟩,⟨⟩⟩:=h;obtain ⟨⟨(a0:Int),⟨⟩⟩,⟨⟩⟩:=y;obtain ⟨⟨⟨⟩,⟨⟩⟩,⟨⟩⟩:=k
 try dsimp only
 obtain ⟨hk,r1,r2,r3,r4,r5⟩:=(show lW u0 p0 q0 k0 l0 w0 v0 x0 r0 t0 n0 m0 o0 s0 y0∧q0≠2∧ -60≤a0∧a0≤60∧k0+1-l0≤p0∧k0<90000 from hp);have hk':=hk;obtain ⟨⟨o1,o2,o3⟩,⟨q1,q2,q3⟩,⟨n1,n2⟩,⟨p1,p2⟩,⟨s1,s2⟩,⟨t1,t2,t3⟩,⟨a1,a2⟩,⟨x1,x2⟩,g1,g2,g3⟩:=hk';have o1':=o1;obtain ⟨o4,o5,o6,o7,o8,o9⟩:=o1';have q1':=q1;obtain ⟨q4,q5,q6,q7,q8,q9⟩:=q1';have hK:lW u0 p0 q0 (k0+1) l0 w0 v0 x0 r0 t0 n0 m0 o0 s0 y0:=⟨⟨o1,o2,o3⟩,⟨q1,q2,q3⟩,⟨n1,n2⟩,⟨p1,p2⟩,⟨s1,s2⟩,⟨t1,by omega,by omega⟩,⟨a1,a2⟩,⟨x1,x2⟩,g1,g2,g3⟩
 simp only [cl];refine ⟨by simp only [aL,aT,aU];omega,by simp only [aL,aT,aU];omega,fun h=>absurd h (by omega),fun _=>⟨⟨hK,r1,r2,r3⟩,fun x z k h1 h2 h3=>⟨⟨(0,x.1,z.1.1,k.1.1.1,k.1.1.2,0),?_⟩,fun s u1 u2 u3 u4=>?_⟩⟩⟩
 ·dsimp only;simp only [cl];exact ⟨⟨rfl,rfl⟩,Nat.zero_le _,Nat.le_refl _,h3⟩
 have u4':=u4;obtain ⟨v1,v2,v3,v4⟩:=(show fe s.snd.fst∧bn s.snd.fst= {bn (u0,p0,q0,(),k0+1,l0,(w0,v0,x0,()),r0,t0,(n0,m0,o0,()),s0,z0,y0,()) with q:= []}∧(∀r∈s.snd.snd.fst,aP r)∧List.map mA s.snd.snd.fst=(bn (u0,p0,q0,(),k0+1,l0,(w0,v0,x0,()),r0,t0,(n0,m0,o0,()),s0,z0,y0,())).m7 a0 from u4');have hL:s.snd.snd.fst.length≤10:=by
  have e1:=congrArg List.length v4;rw [List.length_map] at e1;have e2:=Tf (bn (u0,p0,q0,(),k0+1,l0,(w0,v0,x0,()),r0,t0,(n0,m0,o0,()),s0,z0,y0,())) a0;have e3:(bn (u0,p0,q0,(),k0+1,l0,(w0,v0,x0,()),r0,t0,(n0,m0,o0,()),s0,z0,y0,())).q.length≤8:=by
   show (List.map mA (rQ n0 m0 o0)).length≤8;rw [List.length_map,mC];omega
  omega
 refine ⟨fun v=>?_,fun v=>?_⟩
 ·have hi:s.fst<s.snd.snd.fst.length:=by omega
  have hr:=v3 _ (TJ hi);refine ⟨⟨by omega,v⟩,hi,Xk hr,fun x z w=>⟨⟨(xu u1).symm,u3,by omega⟩,fun c c1 c2=>⟨by simp only [aL,aT,aU];omega,(s.fst+1,s.snd.fst,s.snd.snd.fst,s.snd.snd.snd.fst,s.snd.snd.snd.snd.fst,c),?_⟩⟩⟩
  have w1:z.1.1=yE (mA (al s.snd.snd.fst s.fst)):=w;dsimp only;rw [w1,Po hi];simp only [cl];refine ⟨⟨⟨⟨by simp,by omega⟩,by simp,List.take_length⟩,hi,⟨c1,fun h=>by omega⟩,u4⟩,by omega⟩
 ·have hi:s.fst=s.snd.snd.fst.length:=by omega
  refine ⟨⟨(xu u1).symm,u3⟩,v1,v2,?_,fun a ha=>?_⟩
  ·show Fs s.fst s.snd.snd.fst=List.map _ ((bn (u0,p0,q0,(),k0+1,l0,(w0,v0,x0,()),r0,t0,(n0,m0,o0,()),s0,z0,y0,())).m7 a0);rw [←v4,List.map_map,hi];unfold Fs;rw [List.take_length];rfl
  ·have ha:a∈(bn (u0,p0,q0,(),k0+1,l0,(w0,v0,x0,()),r0,t0,(n0,m0,o0,()),s0,z0,y0,())).m7 a0:=ha;rw [←v4] at ha;obtain ⟨r,hr,rfl⟩:=List.mem_map.1 ha;exact (v3 r hr).1
noncomputable def IW:=Iq.add 33 Gp
def BJ(x:(cB×Unit))(y:((Int×Unit)×Unit)):Prop:=fe x.1∧0≤y.1.1∧y.1.1≤8000
def gN(x:(cB×Unit))(y:((Int×Unit)×Unit))(x':(cB×Unit))(z:(Unit)):Prop:=fe x'.1∧bn x'.1=(bn x.1).dI y.1.1
noncomputable def a2B:MC:=qC [true,false] [cH] [(false,[.int .u16])] [] BJ gN
abbrev a0K:Type:=Nat×List (Row [Kd.int IntKind.u8])×Int
def Qa2(a b c:Prop):Prop:=Q9l a JY b c
def Q9Z(a:dY)(b:Nat):Int:=Q8J a-(↑b:Int)
def mX(a:List (Row [Kd.int IntKind.u8])×Int):Nat:=a.1.length
def He(a:dY)(b:Nat):Int:=Rx a+(↑b:Int)
def Q9X(a:Int)(b c:Prop):Prop:=Qn (Qt a) (a≤(10000:Int)) b c
def Q9Y(a:dY):Int:=if (1073741824:Int)<(Rx a) then (1073741824:Int) else (Rx a)
theorem a41:ab Tryz.prog 226 a2B:=by
 refine ah (cx Mx [] cQ IW) Tryz.func226 (by kernel_rfl) (by kernel_rfl) fun (x:(cB×Unit)) h (y:((Int×Unit)×Unit)) k hf hg hp=>⟨(fun bk=>match bk with|0=>some {S:=Nat×List (Row [.int .u8])×Int,st:=fun s=>⟨jk [(0,.v (.one (.ptr 0 0))),(3,.v (.one (.int .i64 false (y.1.1))))] 58,aW false [cH] ((x.1.1,x.1.2.1,x.1.2.2.1,(),x.1.2.2.2.2.1,x.1.2.2.2.2.2.1,(s.2.1,s.2.2,x.1.2.2.2.2.2.2.1.2.2.1-(s.1:Int),()),x.1.2.2.2.2.2.2.2.1+(s.1:Int),x.1.2.2.2.2.2.2.2.2.1,x.1.2.2.2.2.2.2.2.2.2.1,x.1.2.2.2.2.2.2.2.2.2.2.1,x.1.2.2.2.2.2.2.2.2.2.2.2.1,x.1.2.2.2.2.2.2.2.2.2.2.2.2.1,()),()) (((),(),(),(),(),(),((),(),(),()),(),(),((),(),(),()),(),(),(),()),()) 0 0++List.replicate 24 none⟩,ok:=fun s=>YY s.2.1 s.2.2 (x.1.2.2.2.2.2.2.1.2.2.1-(s.1:Int))∧x.1.2.2.2.2.2.2.2.1+(s.1:Int)≤y.1.1∧y.1.1≤x.1.2.2.2.2.2.2.2.1+x.1.2.2.2.2.2.2.1.2.2.1,mu:=fun s=>((y.1.1-x.1.2.2.2.2.2.2.2.1).toNat-s.1),init:=(0,x.1.2.2.2.2.2.2.1.1,x.1.2.2.2.2.2.2.1.2.1)}|_=>none),400,af (q:=QT (Q9X (Q9Y x) (Qt y.1.1) (y.1.1≤(10000:Int))) (mL y (Rx x)) (Qn (kS (mL y (Rx x))) (ZJ x) True (gN x y (x.1,()) ())) (Q1a (Q18 (mL y (Rx x))) (zc x) (Qd (Rx x) (Q8J x)) (Q7I (Q8K x) y) (QR (ZJ x) (gN x y (x.1,()) ())) (Q2d (Q3p (cR True (y.1.1=y.1.1)) (Q99 x (Q9a x) (Rx x=Rx x+(↑(0:Nat):Int)) (X2 x) (Q9d x)) (Q9e x (Q9g (Q8J x))) (Q9f x) (Q7 (ya (Qn QJ jh jh (ta (Q8R x) (Q8R x) (Q8R x=Q8R x)))) ((Q8U x).2.1=(Q8U x).2.1) (Q93 x=Q93 x)) (WD (Q8R x) (Q8R x) (Q9h x)) True) (YY (Q8O x).1 (Q8O x).2.1 (Q9g (Q8J x))) (Rx x+(↑(0:Nat):Int)≤y.1.1) (y.1.1≤Q8K x) (∀ (va:a0K),Q7 (YY va.2.1 va.2.2 (Q9Z x va.1)) (He x va.1≤y.1.1) (y.1.1≤Q8K x)→Q0 (Q7I (He x va.1) y) (ri (mX va.2) va.2.2 (Qa va.2.1) (Q9Z x va.1) (∀ (vb:Gt) (vc:Nz) (vd:aZ [(false,[Sp.int IntKind.u8]),(false,[Sp.bool])]) (ve:eZ [(false,[Sp.int IntKind.u8]),(false,[Sp.bool])]),Qa2 mQ (Q6 (dZ vb.1.1 vb.1.2.1 vb.1.2.2.1) (Q8P vb=mX va.2) (vd.2.1.1=(decide ((0:Int)<(Q9Z x va.1)))) (oO (Q9Z x va.1)→Q7U (Q8Q vb)) (Qe (Q9Z x va.1)→rQ va.2.1 va.2.2 (Q9Z x va.1)=(vd.1.1,())::Q8Q vb)) (QE (He x va.1)∧(∃ (vf:a0K),E4 (Q3p (cR True (y.1.1=y.1.1)) (Q99 x (Q9a x) (QH (He x va.1)=He x vf.1) (X2 x) (Q9d x)) (Q7 (sX (Q8P vb) (mX vf.2) (Q8P vb) (mX vf.2)) (vb.1.2.1=vf.2.2) (vb.1.2.2.1=Q9Z x vf.1)) (WD (Q8P vb) (mX vf.2) (List.take (mX vf.2) vb.1.1=vf.2.1)) (Q5w (Q8R x) (Q8R x) (Q8U x).2 (Q93 x) (Q93 x)) (WD (Q8R x) (Q8R x) (Q9h x)) True) (YY vf.2.1 vf.2.2 (Q9Z x vf.1)) (He x vf.1≤y.1.1) (y.1.1≤Q8K x) (y.1.1-Rx x).toNat vf.1 (y.1.1-Rx x).toNat va.1)))) (QR (yC QJ (mX va.2) (Q8R x)) (gN x y ((x.1.1,x.1.2.1,Q8S x ((va.2.1,va.2.2,Q9Z x va.1,()),He x va.1,Q8T x,Q8U x,iS x)),()) ())))))) (by kernel_rfl) ?_⟩
 delta Q7 Q6 oO Qn kA cR Qs Q3 ya Qr jh mV Q4 DB mQ QJ cu JY Q0 Q23 uI Q2B QH QF Q8O Qi QA Q8U Q8T Q9l Rx Qt O7 Y5 QE K5 uJ WD Qa Q90 yC Q91 Q8R Q2d Q8Z Qa2 E4 iS Q99 kS sX Q1a QR Q93 Q3p Q9d X2 Q8J Q8P fW Q18 Q9a mL QT Qd Q5w ZJ ta Q8S Q9Z mX D7 Qe Q8K He Q9e Q9X ri Q7U zc Q9f Q7I Q9g Q9h Q9Y Q8Q aV;obtain ⟨⟨(p0:Int),(q0:Int),(s0:Int),⟨⟩,(t0:Int),(n0:Int),⟨y0,(x0:Int),(l0:Int),⟨⟩⟩,(k0:Int),(o0:Int),⟨v0,(u0:Int),(w0:Int),⟨⟩⟩,(m0:Int),(z0:Int),(r0:Int),⟨⟩⟩,⟨⟩⟩:=x;obtain ⟨⟨⟨⟩,⟨⟩,⟨⟩,⟨⟩,⟨⟩,⟨⟩,⟨⟨⟩,⟨⟩,⟨⟩,⟨⟩⟩,⟨⟩,⟨⟩,⟨⟨⟩,⟨⟩,⟨⟩,⟨⟩⟩,⟨⟩,⟨⟩,⟨⟩,⟨⟩⟩,⟨⟩⟩:=h;obtain ⟨⟨(fr:Int),⟨⟩⟩,⟨⟩⟩:=y;obtain ⟨⟨⟨⟩,⟨⟩⟩,⟨⟩⟩:=k
 try dsimp only
 obtain ⟨hk,r1,r2⟩:=(show lW p0 q0 s0 t0 n0 y0 x0 l0 k0 o0 v0 u0 w0 m0 r0∧0≤fr∧fr≤8000 from hp);have hk':=hk;obtain ⟨⟨o1,o2,o3⟩,⟨q1,q2,q3⟩,⟨n1,n2⟩,⟨p1,p2⟩,⟨s1,s2⟩,⟨t1,t2,t3⟩,⟨a1,a2⟩,⟨x1,x2⟩,g1,g2,g3⟩:=hk';have o1':=o1;obtain ⟨o4,o5,o6,o7,o8,o9⟩:=o1';have q1':=q1;obtain ⟨q4,q5,q6,q7,q8,q9⟩:=q1';have hmin:(if (1073741824:Int)<k0 then (1073741824:Int) else k0)=k0:=if_neg (by omega)
 simp only [hmin];have hsame:fr<k0∨k0+l0<fr→gN ((p0,q0,s0,(),t0,n0,(y0,x0,l0,()),k0,o0,(v0,u0,w0,()),m0,z0,r0,()),()) ((fr,()),()) ((p0,q0,s0,(),t0,n0,(y0,x0,l0,()),k0,o0,(v0,u0,w0,()),m0,z0,r0,()),()) ():=fun h=>⟨hk,by
  show _=if fr<k0∨k0+l0<fr then _ else _;rw [if_pos h]⟩
 simp only [cl];refine ⟨⟨by omega,by omega,by omega,by omega⟩,fun h=>⟨h,hsame (.inl h)⟩,fun h=>⟨h,by simp only [aL,aT,aU];omega,fun h2=>hsame (.inr h2),fun h2=>⟨⟨⟨by omega,by omega⟩,by rw [show l0-((0:Nat):Int)=l0 by omega];exact ⟨o1,o2,o3⟩,by omega,by omega⟩,fun s h3 h4 h5=>?_⟩⟩⟩
 obtain ⟨b1,b2,b3⟩:=h3;refine ⟨fun h6=>⟨b1,fun x z m1 m2 m3 m4 m5=>?_⟩,fun h6=>?_⟩
 ·have c2:=m5 (by omega)
  have hn:x.fst.snd.snd.fst=l0-((s.fst+1:Nat):Int):=by
   have k1:=jg b1;have k2:=jg m1;rw [c2,List.length_cons] at k1;exact k2.trans (by omega)
  refine ⟨by simp only [aL,aT,aU];omega,(s.fst+1,x.fst.fst,x.fst.snd.fst),?_⟩
  dsimp only;refine ⟨⟨⟨by omega,⟨rfl,rfl,hn⟩,rfl,List.take_length⟩,⟨by rw [←hn];exact m1,m2.trans b2,fun r hr=>?_⟩,by omega,h5⟩,by omega⟩
  rw [←hn] at hr;exact b3 r (by rw [c2];exact List.mem_cons_of_mem _ hr)
 ·have e1:k0+(s.fst:Int)=fr:=by omega
  have e2:l0-(s.fst:Int)=l0-(fr-k0):=by omega
  refine ⟨⟨⟨b1,b2,b3⟩,⟨q1,q2,q3⟩,⟨n1,n2⟩,⟨p1,p2⟩,⟨s1,s2⟩,⟨t1,t2,t3⟩,(show 0≤k0+(s.fst:Int)∧k0+(s.fst:Int)≤9000 by omega),⟨x1,x2⟩,g1,g2,g3⟩,?_⟩
  show LA.mk p0 q0 s0 t0 n0 (l0-(s.fst:Int)) (k0+(s.fst:Int)) o0 (m0+r0) _=if fr<k0∨k0+l0<fr then _ else _;rw [if_neg (by omega),e1,e2]
  rfl
noncomputable def Mo:=IW.add 226 a41
def qe(x:(cB×Unit))(y:((Int×Int×Int×Int×List (Row [.int .u8])×Int×Int×Unit)×Unit)):Prop:=fe x.1∧0≤y.1.2.2.1∧y.1.2.2.1≤8000∧List.length y.1.2.2.2.2.1≤64
def gu(x:(cB×Unit))(y:((Int×Int×Int×Int×List (Row [.int .u8])×Int×Int×Unit)×Unit))(x':(cB×Unit))(z:((Int×Int×List (Row [.int .u8])×Int×Int×Int×Unit)×(Bool×Unit)×Unit)):Prop:=fe x'.1∧((x.1.2.2.2.2.2.2.2.2.1<y.1.2.2.1∨y.1.2.2.1+List.length y.1.2.2.2.2.1≤x.1.2.2.2.2.2.2.2.2.1)→z.2.1.1=false∧bn x'.1=bn x.1)∧(¬(x.1.2.2.2.2.2.2.2.2.1<y.1.2.2.1∨y.1.2.2.1+List.length y.1.2.2.2.2.1≤x.1.2.2.2.2.2.2.2.2.1)→z.2.1.1=true∧bn x'.1= {bn x.1 with nx:=y.1.2.2.1+List.length y.1.2.2.2.2.1}∧z.1.1=y.1.1∧z.1.2.1=x.1.2.2.2.2.2.2.2.2.1∧z.1.2.2.1=List.drop (x.1.2.2.2.2.2.2.2.2.1-y.1.2.2.1).toNat y.1.2.2.2.2.1∧z.1.2.2.2.1=0∧z.1.2.2.2.2.1=0∧z.1.2.2.2.2.2.1=0)
noncomputable def Px:MC:=qC [true,false] [cH] [(true,[.int .i64,.int .u32,.int .u16,.int .u16,.im [.int .u8],.int .u32,.int .i64])] [(true,[.int .i64,.int .i64,.im [.int .u8],.int .i64,.int .u32,.int .i64]),(false,[.bool])] qe gu
abbrev ZM:Type:=Int×Int×List (Row [Kd.int IntKind.u8])×Int×Int×Int×Unit
abbrev Mp:Type:=Int×List (Row [Kd.int IntKind.u8])×Int×Int×Int×Unit
abbrev a1C:Type:=(Int×Int×List (Row [Kd.int IntKind.u8])×Int×Int×Int×Unit)×(Bool×Unit)×Unit
def Qa8(a:iT)(b:a04):Prop:=Q3p (a.1.1=a.1.1) (a.1.2.1=a.1.2.1) (Fz a=Fz a) (L4 a=L4 a) (b.1.2.2.2.2.1=b.1.2.2.2.2.1) (KM a=KM a) (Q5J a=Q5J a)
def H2(a:Uh):Mp:=((0:Int),([]:List (Row [Kd.int IntKind.u8])),a)
def Qac:Mp:=H2 ((0:Int),(0:Int),(0:Int),())
def Qa5:ZM:=((0:Int),Qac)
def Qa6(a:iT):Int:=Qa a.1.2.2.2.2.1
def NN(a:dY)(b:iT)(c:a1C):Prop:=gu a b (Q9W a (Q90 a) (Q91 a) (Fz b+Qa6 b)) c
def Qa7(a:dY)(b:iT):Int:=Q8T a-Fz b
def Qa9(a:Prop)(b:iT)(c:dY)(d:Prop):Prop:=QC a (Qd (Fz b) (Qa6 b)) (ZJ c) d
def Wc(a:dY):Int:=if (1073741824:Int)<(Q8T a) then (1073741824:Int) else (Q8T a)
def CQ(a:iT)(b:dY):a1C:=((a.1.1,Q8T b,List.drop (Qa7 b a).toNat a.1.2.2.2.2.1,(0:Int),uH),Qq,())
def Qa4(a:dY)(b:iT):Bool:=decide ((Q8T a)<(Fz b))
theorem PH:ab Tryz.prog 227 Px:=by
 refine ah (cx Mx [] cQ Mo) Tryz.func227 (by kernel_rfl) (by kernel_rfl) fun (x:(cB×Unit)) h (y:((Int×Int×Int×Int×List (Row [.int .u8])×Int×Int×Unit)×Unit)) k hf hg hp=>⟨(fun bk=>match bk with|700004=>some {S:=Unit,st:=fun s=>⟨[.v (.one (.ptr 0 0)),.v (.one (.ptr 5 0))],[]⟩,ok:=fun s=>True,mu:=fun s=>0,init:=()}|_=>none),400,af (q:=QT (Q9X (Wc x) (Qt (Fz y)) (Fz y≤(10000:Int))) (Qa4 x y) (Qn (kS (Qa4 x y)) (ZJ x) True (gu x y (x.1,()) (Qa5,Q2))) (yn (Q18 (Qa4 x y)) (Qd (Fz y) (Qa6 y)) (decide ((Fz y+Qa6 y)≤(Q8T x))) (QR (ZJ x) (gu x y (x.1,()) (Qa5,Q2))) (Q6 (QS (Q8T x) (Fz y)) (Q5d (Q99 x (Q9a x) (Q9b x) (X2 x) (Q9d x)) (y.1.1=y.1.1) (Q2B (y.1.2.1=y.1.2.1) (Fz y=Fz y) (L4 y) (L4 y) (k.1.2.2.2.2.1=k.1.2.2.2.2.1) (KM y=KM y∧Q5J y=Q5J y)) (D8 (Qa7 x y) (Qa6 y)∧RA (Q99 x (Q9a x) (Q9b x) (X2 x) (Q9d x)) (Qa8 y k) (Q99 x (Q9a x) (Q9b x) (X2 x) (Q9d x)) (Q6 (Qa8 y k) (Q99 x (Q9a x) (Q9b x) (X2 x) (Q9d x)) (Qa8 y k) (Q99 x (Q9a x) (Q9b x) (X2 x) (Q9d x)) (Qa9 (Qa8 y k) y x (NN x y (CQ y x)))) (Q99 x (Q9a x) (Q9b x) (X2 x) (Q9d x)) (Q6 (Qa8 y k) (Q99 x (Q9a x) (Q9b x) (X2 x) (Q9d x)) (Qa8 y k) (Q7 (x.1.1=x.1.1) (x.1.2.1=x.1.2.1) (Qn (Q8Z x=Q8Z x) QJ (Q90 x=Q90 x) (Q9v x))) (Qa9 (Qa8 y k) y x (NN x y (CQ y x))))) (H8 (Q99 x (Q9a x) (Q9b x) (X2 x) (Q9d x)) (Qa8 y k) (D8 (Qa7 x y) (Qa6 y)) (x.1.1=x.1.1∧Q6 (x.1.2.1=x.1.2.1) (Q8Z x=Q8Z x) QJ (Q90 x=Q90 x) (Q9v x)) (Qa8 y k) (Q99 x (Q9a x) (Q9b x) (X2 x) (Q9d x)) (Qa8 y k) (Q99 x (Q9a x) (Q9b x) (X2 x) (Q9d x)) (Qa9 (Qa8 y k) y x (NN x y (CQ y x))))) (Q99 x (Q9a x) (Q9b x) (X2 x) (Q9d x)) (Qa8 y k) (H8 (Q99 x (Q9a x) (Q9b x) (X2 x) (Q9d x)) (Qa8 y k) (D8 (Qa7 x y) (Qa6 y)) (Q99 x (Q9a x) (Q9b x) (X2 x) (Q9d x)) (Qa8 y k) (Q99 x (Q9a x) (Q9b x) (X2 x) (Q9d x)) (Qa8 y k) (Qn (x.1.1=x.1.1) (x.1.2.1=x.1.2.1) (Q8Z x=Q8Z x) (QJ∧K5 (Q90 x=Q90 x) (Q9a x) (Q9b x) (Qs (Q8T x=Q8T x) (Y5 x=Y5 x) (X2 x∧Q9d x)))) (Qa9 (Qa8 y k) y x (NN x y (CQ y x))))))) (by kernel_rfl) ?_⟩
 delta Q7 Q6 QC Qn Qs Q3 Q4 DB QJ Q2B Q8O Qi Q8U Q5J Q8T Rx Qt O7 Y5 K5 Qa KM Q90 L4 Q91 Q5d RA Fz Q8Z iS Q99 kS Q9W QR Q3p Q9d X2 QS D8 Q8 H8 Q18 Q9b H2 Q9a Qac yn QT Qd Qa8 ZJ Qa5 Qa6 NN Qa7 Qq Q2 uH Q9X Qa9 Wc Q9v CQ Qa4 aV;obtain ⟨⟨(q0:Int),(x0:Int),(z0:Int),⟨⟩,(a0:Int),(p0:Int),⟨v0,(u0:Int),(w0:Int),⟨⟩⟩,(n0:Int),(k0:Int),⟨s0,(r0:Int),(t0:Int),⟨⟩⟩,(o0:Int),(b0:Int),(y0:Int),⟨⟩⟩,⟨⟩⟩:=x;obtain ⟨⟨⟨⟩,⟨⟩,⟨⟩,⟨⟩,⟨⟩,⟨⟩,⟨⟨⟩,⟨⟩,⟨⟩,⟨⟩⟩,⟨⟩,⟨⟩,⟨⟨⟩,⟨⟩,⟨⟩,⟨⟩⟩,⟨⟩,⟨⟩,⟨⟩,⟨⟩⟩,⟨⟩⟩:=h;obtain ⟨⟨(e0:Int),(g0:Int),(l0:Int),(c0:Int),m0,(h0:Int),(f0:Int),⟨⟩⟩,⟨⟩⟩:=y;obtain ⟨⟨⟨⟩,⟨⟩,⟨⟩,⟨⟩,d0,⟨⟩,⟨⟩,⟨⟩⟩,⟨⟩⟩:=k
 try dsimp only
 obtain ⟨hk,r1,r2,r3⟩:=(show lW q0 x0 z0 a0 p0 v0 u0 w0 n0 k0 s0 r0 t0 o0 y0∧0≤l0∧l0≤8000∧List.length m0≤64 from hp);have hk':=hk;obtain ⟨⟨o1,o2,o3⟩,⟨q1,q2,q3⟩,⟨n1,n2⟩,⟨p1,p2⟩,⟨s1,s2⟩,⟨t1,t2,t3⟩,⟨a1,a2⟩,⟨x1,x2⟩,g1,g2,g3⟩:=hk';have o1':=o1;obtain ⟨o4,o5,o6,o7,o8,o9⟩:=o1';have q1':=q1;obtain ⟨q4,q5,q6,q7,q8,q9⟩:=q1';have hmin:(if (1073741824:Int)<k0 then (1073741824:Int) else k0)=k0:=if_neg (by omega)
 simp only [hmin];simp only [cl];exact ⟨⟨by omega,by omega,by omega,by omega⟩,fun h=>⟨h,hk,fun _=>⟨rfl,rfl⟩,fun k=>absurd (.inl h) k⟩,fun h=>⟨h,by simp only [aL,aT,aU];omega,fun h2=>⟨hk,fun _=>⟨rfl,rfl⟩,fun k=>absurd (.inr h2) k⟩,fun h2=>⟨by simp only [aL,aT,aU];omega,⟨by omega,by omega⟩,by simp only [aL,aT,aU];omega,⟨⟨o1,o2,o3⟩,⟨q1,q2,q3⟩,⟨n1,n2⟩,⟨p1,p2⟩,⟨s1,s2⟩,⟨t1,t2,t3⟩,⟨a1,a2⟩,(show 0≤l0+(m0.length:Int)∧l0+(m0.length:Int)≤9000 by omega),g1,g2,g3⟩,fun k=>(k.elim h h2).elim,fun _=>⟨rfl,rfl,rfl,rfl,rfl,rfl,rfl,rfl⟩⟩⟩⟩
noncomputable def Kp:=Mo.add 227 PH
def E3(x:(cB×Unit))(y:((List UInt8×Unit)×Unit)):Prop:=fe x.1∧x.1.2.2.1≠2∧CJ y.1.1∧(bn x.1).cK (aG y.1.1)
def dg(x:(cB×Unit))(y:((List UInt8×Unit)×Unit))(x':(cB×Unit))(z:((Int×Int×List (Row [.int .u8])×Int×Int×Int×Unit)×(Unit×Unit)×Unit)):Prop:=fe x'.1∧(bn x'.1,(z.1.1,z.1.2.1,List.length z.1.2.2.1,z.1.2.2.2.1,z.1.2.2.2.2.1,z.1.2.2.2.2.2.1))=(bn x.1).aw (aG y.1.1)∧z.1.2.2.1=fV (List.length z.1.2.2.1)
noncomputable def Z4:MC:=qC [true,false] [cH] [(false,[.str])] [(true,[.int .i64,.int .i64,.im [.int .u8],.int .i64,.int .u32,.int .i64]),(false,[.cl (.int .i64 (0))])] E3 dg
abbrev a1q:Type:=eZ [(true,[Sp.int IntKind.i64,Sp.int IntKind.i64,Sp.im [Kd.int IntKind.u8],Sp.int IntKind.i64,Sp.int IntKind.u32,Sp.int IntKind.i64]),(false,[Sp.bool])]
abbrev A5:Type:=aZ [(true,[Sp.int IntKind.i64,Sp.int IntKind.i64,Sp.im [Kd.int IntKind.u8],Sp.int IntKind.i64,Sp.int IntKind.u32,Sp.int IntKind.i64]),(false,[Sp.bool])]
abbrev so:Type:=eZ []
abbrev rI:Type:=aZ []
abbrev Gw:Type:=aZ [(true,[Sp.int IntKind.i64,Sp.int IntKind.u32,Sp.int IntKind.u16,Sp.int IntKind.u16,Sp.im [Kd.int IntKind.u8],Sp.int IntKind.u32,Sp.int IntKind.i64]),(false,[Sp.cl (Lc.int IntKind.i64 (0:Int))])]
abbrev Nl:Type:=Int×iC×Int×Int×kR×Int×Int×Int×Unit
def Qae(a:dY)(b:kJ)(c:dY)(d:ZM):Prop:=dg a b c (d,mB)
def Cu(a:dY):dY:=Q9W a (Q90 a) (Q90 a) (Q8T a)
def L7(a:Gw)(b:Int):Bool:=a.1.1==b
def xw(a:cH.T):Sp.Ts [mD,Sp.int IntKind.i64,Sp.int IntKind.i64,Sp.int IntKind.i64]:=a.2.2.2.2.2.2.2.2.2
def RP(a:nM):nM:=a+(1:Int)
def Ff(a:dB)(b c:nM):Nl:=(a.1.2.2.2.2.2.1,a.1.2.2.2.2.2.2.1,a.1.2.2.2.2.2.2.2.1,a.1.2.2.2.2.2.2.2.2.1,(xw a.1).1,b,(xw a.1).2.2.1,c,())
def mg(a:dB):Nl:=Ff a (RP (xw a.1).2.1) (xw a.1).2.2.2.1
def Qar(a:dY)(b:kJ)(c:dB)(d:Gw)(e:Mp):Prop:=Qae a b ((c.1.1,c.1.2.1,c.1.2.2.1,(),c.1.2.2.2.2.1,mg c),()) (d.1.1,e)
def OL(a:dY)(b:Gw)(c:dB)(d:A5)(e:Prop):Prop:=Q9l II (Q7J Q6q) (gu a ((b.1.1,b.1.2.1,b.1.2.2.1,b.1.2.2.2.1,b.1.2.2.2.2.1,b.1.2.2.2.2.2.1,b.1.2.2.2.2.2.2.1,()),()) c d) e
def DJ(a:nM):Prop:=aL IntKind.i64 (RP a)
def Qan(a:A5)(b:dB)(c:Prop)(d:dY)(e:kJ)(f:Nl)(g:Mp):Prop:=K7 (!a.2.1.1) (DJ (xw b.1).2.2.2.1) (aV b.1) lG c (Qn (DJ (xw b.1).2.1) (aV b.1) lG (Qae d e ((b.1.1,b.1.2.1,b.1.2.2.1,(),b.1.2.2.2.2.1,f),()) (a.1.1,g)))
def Oz(a:dY):SO:=(Q8O a,Rx a,Q8T a,Q8U a,QH (Y5 a),(DB a).2.2.1,O7 a,())
def Qav(a:dY):Int×Int×Int×Unit×Int×Int×iC×Int×Int×kR×Int×Int×Int×Unit:=(a.1.1,a.1.2.1,Q8Z a,(),Q90 a,Q90 a,Oz a)
def uP(a:Gw)(b:dB)(c:Prop)(d:dY)(e:kJ)(f:Nl):Prop:=K7 (L7 a (6:Int)) (DJ (xw b.1).2.1) (aV b.1) lG c (Qn (DJ (xw b.1).2.1) (aV b.1) lG (Qae d e ((b.1.1,b.1.2.1,b.1.2.2.1,(),b.1.2.2.2.2.1,f),()) (a.1.1,Qac)))
def Di(a:dY)(b:kJ)(c:dB):Prop:=Qae a b ((c.1.1,c.1.2.1,c.1.2.2.1,(),c.1.2.2.2.2.1,Ff c (xw c.1).2.1 (RP (xw c.1).2.2.2.1)),()) Qa5
def R9(a:dY)(b:kJ):Prop:=Qae a b ((a.1.1,a.1.2.1,Q8Z a,(),Q90 a,Q90 a,Q8O a,Rx a,Q8T a,Q8U a,Y5 a,(DB a).2.2.1,QH (O7 a),()),()) Qa5
def RI(a:Int):Bool:=a !=(1:Int)
def R7(a:Gw):B7:=(a.1.1,a.1.2.1,a.1.2.2.1,a.1.2.2.2.1,a.1.2.2.2.2.1,a.1.2.2.2.2.2.1,a.1.2.2.2.2.2.2.1,())
def Qas(a:Gw):Uh:=(a.1.2.2.1,a.1.2.2.2.2.2.1,Qm)
def Qau(a:Gw):A4:=((0:Int),a.1.2.2.2.2.2.2.1,())
def Qaq(a:A5):Mp:=(a.1.2.1,a.1.2.2.1,a.1.2.2.2.1,a.1.2.2.2.2.1,a.1.2.2.2.2.2.1,())
def Lq(a:Gw)(b:dB)(c:B7)(d e f:Prop):Prop:=Q0 (L7 a (3:Int)) (Qs (aV b.1) (qe (b.1,()) (c,())) d) (Q0 (L7 a (4:Int)) (Q6 (Q9X (if (1073741824:Int)<b.1.2.2.2.2.2.2.2.2.1 then (1073741824:Int) else b.1.2.2.2.2.2.2.2.2.1) ((0:Int)≤a.1.2.2.1) (a.1.2.2.1≤(10000:Int))) (DJ (xw b.1).2.1) (aV b.1) lG e) f)
theorem Np:ab Tryz.prog 43 Z4:=by
 refine ah (cx Mx [91,165] cQ Kp) Tryz.func43 (by kernel_rfl) (by kernel_rfl) fun (x:(cB×Unit)) h (y:((List UInt8×Unit)×Unit)) k hf hg hp=>⟨bK,400,af (q:=Q8G x (Qae x y (x.1,()) Qa5) (Qr (xy () (y9 y.1.1)) (∀ (va:cI) (vb:ck) (vc:Gw) (vd:eZ [(true,[Sp.int IntKind.i64,Sp.int IntKind.u32,Sp.int IntKind.u16,Sp.int IntKind.u16,Sp.im [Kd.int IntKind.u8],Sp.int IntKind.u32,Sp.int IntKind.i64]),(false,[Sp.cl (Lc.int IntKind.i64 (0:Int))])]),uI True (cR (Q7J Q6n) JY) (jx () (y9 y.1.1) va vc) (Q0 (L7 vc (1:Int)) (ri (Q8R x) (Q8U x).2.1 (Q92 x) (Q93 x) (∀ (ve:Fj) (vf:Sp.Hs [mD]) (vg:mF) (vi:fU),Q94 ve x (Q95 ve) (Q96 x) vg (∃ (vj:Row dk),ZU vj (2:Int) vc.1.2.1 (0:Int) (0:Int) ([]:List (Row [Kd.int IntKind.u8])) (0:Int) (0:Int)∧Q95 ve=(Q96 x).append [vj]) (Qn (QE (Y5 x)) (Q97 x ve) lG (Qae x y ((x.1.1,x.1.2.1,Q8Z x,(),Q90 x,Q90 x,Q8O x,Rx x,Q8T x,ve.1,QH (Y5 x),(DB x).2.2.1,O7 x,()),()) (vc.1.1,Qac))))) (Q0 (L7 vc (2:Int)) (K7 (vc.1.2.1 !=x.1.1) (QE (O7 x)) (ZJ x) lG (R9 x y) (Qn (QE (Y5 x)) (ZJ x) lG (Qae x y ((x.1.1,x.1.2.1,(1:Int),(),Q90 x,Q90 x,Oz x),()) (vc.1.1,Qac)))) (K7 (L7 vc (7:Int)) (QE (Y5 x)) (ZJ x) lG (Qae x y ((x.1.1,x.1.2.1,(2:Int),(),Q90 x,Q90 x,Oz x),()) (vc.1.1,Qac)) (K7 (RI (Q8Z x)) (QE (O7 x)) (ZJ x) lG (R9 x y) (Ql (L7 vc (3:Int)) (Q0 (L7 vc (5:Int)) (Qs (ZJ x) (BJ (Cu x) ((vc.1.2.2.2.1,()),())) (∀ (ve:dB) (vf:m6) (vg:rI) (vi:so),uI (ya II) True (gN (Cu x) ((vc.1.2.2.2.1,()),()) ve vg) (Lq vc ve (R7 vc) (∀ (vj:dB) (vl:m6) (vm:A5) (vn:a1q),OL (ve.1,()) vc vj vm (Qan vm vj (Di x y vj) x y (mg vj) (Qaq vm))) (Qar x y ve vc (H2 (Qas vc))) (uP vc ve (Qar x y ve vc (H2 ((0:Int),Qau vc))) x y (mg ve))))) (Q0 (L7 vc (3:Int)) (Qs (ZJ x) (qe (Cu x) (R7 vc,())) (∀ (ve:dB) (vf:m6) (vg:A5) (vi:a1q),OL (Cu x) vc ve vg (Qan vg ve (Di x y ve) x y (mg ve) (Qaq vg)))) (Q0 (L7 vc (4:Int)) (Q6 (Q9X (Wc x) ((0:Int)≤vc.1.2.2.1) (vc.1.2.2.1≤(10000:Int))) (QE (Y5 x)) (ZJ x) lG (Qae x y (Qav x,()) (vc.1.1,H2 (Qas vc)))) (K7 (L7 vc (6:Int)) (QE (Y5 x)) (ZJ x) lG (Qae x y (Qav x,()) (vc.1.1,H2 ((0:Int),Qau vc))) (Qn (QE (Y5 x)) (ZJ x) lG (Qae x y (Qav x,()) (vc.1.1,Qac))))))) (Qs (ZJ x) (BJ (Cu x) ((vc.1.2.2.2.1,()),())) (∀ (ve:dB) (vf:m6) (vg:rI) (vi:so),uI (ya II) True (gN (Cu x) ((vc.1.2.2.2.1,()),()) ve vg) (Lq vc ve (R7 vc) (∀ (vj:dB) (vl:m6) (vm:A5) (vn:a1q),OL (ve.1,()) vc vj vm (Qan vm vj (Di x y vj) x y (mg vj) (Qaq vm))) (Qar x y ve vc (H2 (Qas vc))) (uP vc ve (Qar x y ve vc (H2 ((0:Int),Qau vc))) x y (mg ve))))))))))))) (by kernel_rfl) ?_⟩
 delta Q7 Q6 oO lG QC Qn Yy Q6r cR Qs Q3 ya Qr mV Qk Q4 DB mQ QJ cu Q6q JY Q0 uI mB QH QF QK Q8O Qi Q8U Q8T yG Q9l Rx Qt Q10 O7 dD Q3j Y5 QE uJ Q90 yC DP K7 Ql xw RP Q8R Q8Z Q2l Q6n II iS Q9W Q93 Q7J Q3x fW Qu H2 DJ Qac Qae Qm Q97 y9 Q3G Cu L7 ZJ Qa5 Ff mg rv Qar OL Qan D7 Oz Qav uP Q92 Di Q9X ri Wc Q8G Q94 Q95 R9 Q96 RI R7 Qas Qau Qaq Lq aV;obtain ⟨⟨(p0:Int),(s0:Int),(m0:Int),⟨⟩,(l0:Int),(z0:Int),⟨x0,(w0:Int),(r0:Int),⟨⟩⟩,(q0:Int),(k0:Int),⟨t0,(v0:Int),(u0:Int),⟨⟩⟩,(n0:Int),(y0:Int),(o0:Int),⟨⟩⟩,⟨⟩⟩:=x;obtain ⟨⟨⟨⟩,⟨⟩,⟨⟩,⟨⟩,⟨⟩,⟨⟩,⟨⟨⟩,⟨⟩,⟨⟩,⟨⟩⟩,⟨⟩,⟨⟩,⟨⟨⟩,⟨⟩,⟨⟩,⟨⟩⟩,⟨⟩,⟨⟩,⟨⟩,⟨⟩⟩,⟨⟩⟩:=h;obtain ⟨⟨s,⟨⟩⟩,⟨⟩⟩:=y;obtain ⟨⟨⟨⟩,⟨⟩⟩,⟨⟩⟩:=k
 try dsimp only
 obtain ⟨hk,r1,hU,hH⟩:=(show lW p0 s0 m0 l0 z0 x0 w0 r0 q0 k0 t0 v0 u0 n0 o0∧m0≠2∧CJ s∧(bn (p0,s0,m0,(),l0,z0,(x0,w0,r0,()),q0,k0,(t0,v0,u0,()),n0,y0,o0,())).cK (aG s) from hp);have hk':=hk;obtain ⟨⟨o1,o2,o3⟩,⟨q1,q2,q3⟩,⟨n1,n2⟩,⟨p1,p2⟩,⟨s1,s2⟩,⟨t1,t2,t3⟩,⟨a1,a2⟩,⟨x1,x2⟩,g1,g2,g3⟩:=hk';have q1':=q1;obtain ⟨q4,q5,q6,q7,q8,q9⟩:=q1';simp only [cl];refine ⟨fun h=>absurd h r1,fun _=>⟨hU,fun x z hz=>?_⟩⟩;obtain ⟨⟨k,n,se,ak,ins,su,le,⟨⟩⟩,⟨⟨⟩,⟨⟩⟩,⟨⟩⟩:=z;obtain ⟨hd,hzi⟩:=(show (k,n,se,ak,ins.length,su,le)=aG s∧ins=fV ins.length from hz);have hleg:wQ k n se ak ins.length su le:=by
  have hl:ia (aG s):=by
   obtain ⟨kind,nonce,serial,dI,m,sum,lead,hL,rfl⟩:=hU;rw [GH hL];exact hL
  rw [←hd] at hl;exact hl
 have hP: ∀x' z,dg ((p0,s0,m0,(),l0,z0,(x0,w0,r0,()),q0,k0,(t0,v0,u0,()),n0,y0,o0,()),()) ((s,()),()) x' z=(fe x'.1∧(bn x'.1,(z.1.1,z.1.2.1,List.length z.1.2.2.1,z.1.2.2.2.1,z.1.2.2.2.2.1,z.1.2.2.2.2.2.1))=(bn (p0,s0,m0,(),l0,z0,(x0,w0,r0,()),q0,k0,(t0,v0,u0,()),n0,y0,o0,())).aw (k,n,se,ak,ins.length,su,le)∧z.1.2.2.1=fV (List.length z.1.2.2.1)):=fun x' z=>by rw [hd];rfl
 rw [←hd] at hH;obtain ⟨c1,c2,c3,c4,c5⟩:=(show (List.map mA (rQ t0 v0 u0)).length<8∧n0+o0<90000∧(k=2→n=p0)∧se≤8000∧ak≤8000 from hH);rw [List.length_map,mC] at c1;clear hz hH hp hf hg hU;simp only [hP];clear hP;obtain ⟨⟨hz,hl,hl0,hl1,hkk⟩,⟨n3,n4⟩,⟨se1,se2⟩,⟨ak1,ak2⟩,⟨u1,u2⟩⟩:=hleg;have hl':ins.length≤64:=by rw [BR] at hl;exact hl
 rcases hkk with ⟨rfl|rfl,rfl,rfl,e,rfl,rfl⟩|⟨rfl,rfl,rfl,rfl,hne⟩|⟨rfl,rfl,rfl,e,rfl⟩|⟨rfl,rfl,rfl,e,rfl,rfl⟩|⟨rfl,rfl,rfl,e,rfl⟩
 all_goals simp only [Int.reduceEq,Int.reduceLT,false_implies,true_implies,not_true_eq_false,not_false_eq_true,Bool.false_eq_true,Bool.true_eq_false,true_and,and_true,forall_const]
 all_goals clear hd
 all_goals
  have hmin:(if (1073741824:Int)<k0 then (1073741824:Int) else k0)=k0:=if_neg (by omega)
  have hK0:fe (p0,s0,m0,(),l0,l0,(x0,w0,r0,()),q0,k0,(t0,v0,u0,()),n0,y0,o0,()):=⟨⟨o1,o2,o3⟩,⟨q1,q2,q3⟩,⟨n1,n2⟩,⟨p1,p2⟩,⟨s1,s2⟩,⟨Int.le_trans t1 t2,Int.le_refl _,t3⟩,⟨a1,a2⟩,⟨x1,x2⟩,g1,g2,g3⟩;have hct:(bn (p0,s0,m0,(),l0,l0,(x0,w0,r0,()),q0,k0,(t0,v0,u0,()),n0,y0,o0,())).ct<90000:=c2;obtain ⟨⟨b1,b2⟩,b3,b4⟩:=tR hK0 (Int.lt_trans hct (by decide))
  have e1:=tL (p0,s0,m0,(),l0,l0,(x0,w0,r0,()),q0,k0,(t0,v0,u0,()),n0,y0,o0,());have e2:=Dz (p0,s0,m0,(),l0,l0,(x0,w0,r0,()),q0,k0,(t0,v0,u0,()),n0,y0,o0,());dsimp only at b1 b2 b3 b4 e1 e2;have hg1: {bn (p0,s0,m0,(),l0,l0,(x0,w0,r0,()),q0,k0,(t0,v0,u0,()),n0,y0,o0,()) with ct:=(bn (p0,s0,m0,(),l0,l0,(x0,w0,r0,()),q0,k0,(t0,v0,u0,()),n0,y0,o0,())).ct+1}=(bn (p0,s0,m0,(),l0,z0,(x0,w0,r0,()),q0,k0,(t0,v0,u0,()),n0,y0,o0,())).yD:=rfl
 ·have hne: ¬u0=(t0.length:Int):=by omega
  refine ⟨q1,fun x z h1 h2 h3 h4=>?_⟩;obtain ⟨⟨q,e3,e4⟩,-⟩:=h4 hne;have e4:rQ x.fst.fst x.fst.snd.fst x.fst.snd.snd.fst=rQ t0 v0 u0++ [q]:=e4;have hK1:fe (p0,s0,m0,(),l0,l0,(x0,w0,r0,()),q0,k0,(x.fst.fst,x.fst.snd.fst,x.fst.snd.snd.fst,()),n0,y0,o0,()):=⟨⟨o1,o2,o3⟩,⟨h1,h2.trans q2,fun r hr=>by
   have hr:r∈rQ x.fst.fst x.fst.snd.fst x.fst.snd.snd.fst:=hr;rw [e4] at hr;rcases List.mem_append.1 hr with k|k
   ·exact q3 r k
   ·rw [List.mem_singleton.1 k];exact Ja e3 (abZ n3 n4) rfl⟩,⟨n1,n2⟩,⟨p1,p2⟩,⟨s1,s2⟩,⟨Int.le_trans t1 t2,Int.le_refl _,t3⟩,⟨a1,a2⟩,⟨x1,x2⟩,g1,g2,g3⟩
  have k1:=tR hK1 (show n0+o0<100000 by omega)
  refine ⟨k1.1.1,k1.2.1,?_,rfl⟩;rw [LA.a7z];refine Prod.ext ((tL (p0,s0,m0,(),l0,l0,(x0,w0,r0,()),q0,k0,(x.fst.fst,x.fst.snd.fst,x.fst.snd.snd.fst,()),n0,y0,o0,())).trans ?_) rfl;show LA.mk _ _ _ _ _ _ _ _ _ (List.map mA (rQ x.fst.fst x.fst.snd.fst x.fst.snd.snd.fst))=_;rw [e4,List.map_append,List.map_singleton,BF e3];rfl
 ·refine ⟨fun h=>absurd (c3 rfl) h,fun _=>⟨b1,?_,?_,rfl⟩⟩
  ·obtain ⟨k1,k2,k3,k4,k5,k6⟩:=b3;exact ⟨k1,k2,k3,k4,(by decide:(0:Int)≤1∧(1:Int)≤2),k6⟩
  ·rw [LA.a7a];refine Prod.ext ?_ rfl;show LA.mk p0 s0 1 l0 l0 r0 q0 k0 (n0+1+o0) _=LA.mk p0 s0 1 l0 l0 r0 q0 k0 (n0+o0+1) _;rw [show n0+1+o0=n0+o0+1 by omega]
   rfl
 ·refine ⟨fun h=>⟨b2,b4,?_,rfl⟩,fun h=>⟨⟨hK0,ak1,c5⟩,fun x z h0=>?_⟩⟩
  ·rw [LA.Nj (k:=bn (p0,s0,m0,(),l0,z0,(x0,w0,r0,()),q0,k0,(t0,v0,u0,()),n0,y0,o0,())) (show m0=0 by omega) (by decide) (by decide)]
   exact Prod.ext (e2.trans hg1) rfl
  obtain ⟨h1,h2⟩:=(show fe x.1∧bn x.1=(bn (p0,s0,m0,(),l0,l0,(x0,w0,r0,()),q0,k0,(t0,v0,u0,()),n0,y0,o0,())).dI ak from h0);have hE: {bn x.1 with ct:=(bn x.1).ct+1}=(bn (p0,s0,m0,(),l0,z0,(x0,w0,r0,()),q0,k0,(t0,v0,u0,()),n0,y0,o0,())).yD.dI ak:=by
   rw [h2,LA.Gn];exact (LA.JV (bn (p0,s0,m0,(),l0,l0,(x0,w0,r0,()),q0,k0,(t0,v0,u0,()),n0,y0,o0,())) ak _).symm
  have hnx:(bn x.1).nx=k0:=by rw [h2,LA.a2M];rfl
  have hxc:(bn x.1).ct<90000:=by rw [h2,LA.Gn];exact hct
  rw [LA.a7M (k:=bn (p0,s0,m0,(),l0,z0,(x0,w0,r0,()),q0,k0,(t0,v0,u0,()),n0,y0,o0,())) (show m0≠0 by omega)]
  refine ⟨⟨h1,se1,c4,hl'⟩,fun y w h5=>?_⟩;obtain ⟨h6,h7,h8⟩:=(show fe y.1∧((bn x.1).nx<se∨se+(ins.length:Int)≤(bn x.1).nx→w.2.1.1=false∧bn y.1=bn x.1)∧(¬((bn x.1).nx<se∨se+(ins.length:Int)≤(bn x.1).nx)→w.2.1.1=true∧bn y.1= {bn x.1 with nx:=se+(ins.length:Int)}∧w.1.1=3∧w.1.2.1=(bn x.1).nx∧w.1.2.2.1=List.drop ((bn x.1).nx-se).toNat ins∧w.1.2.2.2.1=0∧w.1.2.2.2.2.1=0∧w.1.2.2.2.2.2.1=0) from h5);rw [hnx] at h7 h8;refine ⟨fun h=>?_,fun h=>?_⟩
  ·have hA:k0<se∨se+(ins.length:Int)≤k0:=Decidable.byContradiction fun k=>by rw [(h8 k).1] at h;cases h
   obtain ⟨-,k2⟩:=h7 hA;have hyc:(bn y.1).ct<100000:=by rw [k2];omega
   have k3:=tR h6 hyc;refine ⟨k3.1.2,k3.2.2,?_,rfl⟩;rw [if_pos (show (bn (p0,s0,m0,(),l0,z0,(x0,w0,r0,()),q0,k0,(t0,v0,u0,()),n0,y0,o0,())).nx<se∨se+(ins.length:Int)≤(bn (p0,s0,m0,(),l0,z0,(x0,w0,r0,()),q0,k0,(t0,v0,u0,()),n0,y0,o0,())).nx from hA)];exact Prod.ext ((Dz y.1).trans (by rw [k2];exact hE)) rfl
  ·have hA: ¬(k0<se∨se+(ins.length:Int)≤k0):=fun k=>by rw [(h7 k).1] at h;cases h
   obtain ⟨-,k2,k4,k5,k6,k7,k8,k9⟩:=h8 hA;have hyc:(bn y.1).ct<100000:=by rw [k2];show (bn x.1).ct<100000;omega
   have k3:=tR h6 hyc;rw [if_neg (show ¬((bn (p0,s0,m0,(),l0,z0,(x0,w0,r0,()),q0,k0,(t0,v0,u0,()),n0,y0,o0,())).nx<se∨se+(ins.length:Int)≤(bn (p0,s0,m0,(),l0,z0,(x0,w0,r0,()),q0,k0,(t0,v0,u0,()),n0,y0,o0,())).nx) from hA),k4,k5,k6,k7,k8,k9];refine ⟨k3.1.1,k3.2.1,?_,?_⟩
   ·refine Prod.ext ((tL y.1).trans ?_) ?_
    ·rw [k2];exact congrArg (fun k:LA=>({k with nx:=se+(ins.length:Int)}:LA)) hE
    ·show ((3:Int),k0,(List.drop (k0-se).toNat ins).length,(0:Int),(0:Int),(0:Int))=(3,k0,(se+(ins.length:Int)-k0).toNat,0,0,0);rw [List.length_drop,show ins.length-(k0-se).toNat=(se+(ins.length:Int)-k0).toNat by omega]
   ·rw [hzi,S5,BR]
 ·refine ⟨fun h=>⟨b2,b4,?_,rfl⟩,fun h=>⟨⟨by rw [hmin];omega,by rw [hmin];omega,se1,Int.le_trans c4 (by decide)⟩,b1,b3,?_,rfl⟩⟩
  ·rw [LA.Nj (k:=bn (p0,s0,m0,(),l0,z0,(x0,w0,r0,()),q0,k0,(t0,v0,u0,()),n0,y0,o0,())) (show m0=0 by omega) (by decide) (by decide)]
   exact Prod.ext (e2.trans hg1) rfl
  ·rw [LA.a7N (k:=bn (p0,s0,m0,(),l0,z0,(x0,w0,r0,()),q0,k0,(t0,v0,u0,()),n0,y0,o0,())) (show m0≠0 by omega)]
   exact Prod.ext (e1.trans hg1) rfl
 ·refine ⟨fun h=>⟨b2,b4,?_,rfl⟩,fun h=>⟨⟨hK0,ak1,c5⟩,fun x z h0=>?_⟩⟩
  ·rw [LA.Nj (k:=bn (p0,s0,m0,(),l0,z0,(x0,w0,r0,()),q0,k0,(t0,v0,u0,()),n0,y0,o0,())) (show m0=0 by omega) (by decide) (by decide)]
   exact Prod.ext (e2.trans hg1) rfl
  obtain ⟨h1,h2⟩:=(show fe x.1∧bn x.1=(bn (p0,s0,m0,(),l0,l0,(x0,w0,r0,()),q0,k0,(t0,v0,u0,()),n0,y0,o0,())).dI ak from h0);have hxc:(bn x.1).ct<100000:=by rw [h2,LA.Gn];exact Int.lt_trans hct (by decide)
  have k3:=tR h1 hxc;refine ⟨k3.1.1,k3.2.1,?_,rfl⟩;rw [LA.a8f (k:=bn (p0,s0,m0,(),l0,z0,(x0,w0,r0,()),q0,k0,(t0,v0,u0,()),n0,y0,o0,())) (show m0≠0 by omega)]
  exact Prod.ext ((tL x.1).trans (by rw [h2,LA.Gn];exact (LA.JV (bn (p0,s0,m0,(),l0,l0,(x0,w0,r0,()),q0,k0,(t0,v0,u0,()),n0,y0,o0,())) ak _).symm)) rfl
 ·refine ⟨fun h=>⟨b2,b4,?_,rfl⟩,fun h=>⟨b1,b3,?_,rfl⟩⟩
  ·rw [LA.Nj (k:=bn (p0,s0,m0,(),l0,z0,(x0,w0,r0,()),q0,k0,(t0,v0,u0,()),n0,y0,o0,())) (show m0=0 by omega) (by decide) (by decide)]
   exact Prod.ext (e2.trans hg1) rfl
  ·rw [LA.a8c (k:=bn (p0,s0,m0,(),l0,z0,(x0,w0,r0,()),q0,k0,(t0,v0,u0,()),n0,y0,o0,())) (show m0≠0 by omega)]
   exact Prod.ext (e1.trans hg1) rfl
end Go.Proofs.YtfdmjoddhjmokaaGreatDoor
set_option maxHeartbeats 4000000
namespace Go.Proofs.YtfdmjoddhjmokaaGreatDoor
open Go.RowKit Rex
set_option linter.unusedVariables false
set_option linter.unusedSimpArgs false
set_option maxRecDepth 100000
abbrev vE:Sp:= .pt 275 [Cn,Cn,.int .i64,.cl (.int .u8 (0))]
abbrev jX:Type:=(gh×gh×Int×Unit×Unit)
abbrev aR:Sp:= .pt 126 [.int .u32,.int .i64,.int .i64,.cl (.int .i64 (0)),gE,gE,gw,.int .i64]
abbrev bg:Type:=(Int×Int×Int×Unit×cO×cO×dw×Int×Unit)
abbrev jl:Sp:= .pt 126 [.int .u32,.int .i64,.int .i64,.cl (.int .i64 (0)),vE,vE,RZ,.int .i64]
abbrev cM:Type:=(Int×Int×Int×Unit×jX×jX×BK×Int×Unit)
theorem FU {a b c a' b' c':Int}(h:jc a b c=jc a' b' c'):a=a'∧b=b'∧c=c':=⟨congrArg (fun r:Row vV=>r.1) h,congrArg (fun r:Row vV=>r.2.1) h,congrArg (fun r:Row vV=>r.2.2.2.1) h⟩
def Xm(f:Sp.T gE):Prop:=n7 f.1.1 f.1.2.1 f.2.1.1 f.2.1.2.1 f.2.2.1
def oN(seed now F sf:Int)(sl:List (Row vV)):Prop:=ga sl sf∧sl.length=81∧sf=F∧F≤now∧now-F≤70∧now≤500∧ ∀f,F≤f→f≤now→xU sl f=jc f seed (600-f)
theorem Z8 {seed now F sf:Int} {sl:List (Row vV)}(h:oN seed now F sf sl)(h1:now-F<70)(h2:now<500):oN seed (now+1) F sf (sl.set ((now+1).tmod sl.length).toNat (jc (now+1) seed (600-now-1))):=by
 obtain ⟨⟨w1,w2,w3,w4⟩,l81,hF,h4,h5,h6,h7⟩:=h;have m1:0≤(now+1).tmod sl.length:=Int.tmod_nonneg _ (by omega)
 have m2:(now+1).tmod sl.length<sl.length:=Int.tmod_lt_of_pos _ (by omega)
 refine ⟨⟨by simpa using w1,by simpa using w2,w3,w4⟩,by simpa using l81,hF,by omega,by omega,by omega,fun f hf hf2=>?_⟩
 unfold xU;rw [List.length_set];by_cases e:f=now+1
 ·subst e;rw [eT (by omega),if_pos rfl,show (600:Int)-(now+1)=600-now-1 by omega]
 ·rw [fQ (fun k=>e (Dg (F:=F) (by omega) hf (by omega) (by omega) (by omega) k))]
  exact h7 f hf (by omega)
theorem TL {seed now F F' sf sf' to:Int} {sl sl':List (Row vV)}(h:oN seed now F sf sl)(hw:ga sl' sf')(hm:mvd zS sl sl' sf sf' to)(ht:to≤now)(hF:F'=if to<F then F else to):oN seed now F' sf' sl':=by
 obtain ⟨⟨w1,w2,w3,w4⟩,l81,rfl,h4,h5,h6,h7⟩:=h;obtain ⟨m1,m2,m3,m4⟩:=hm;have hk: ¬1073741824<to:=by omega
 simp only [hk,or_false] at m2;have e:sf'=F':=by rw [m2,hF]
 have b1:sf≤sf':=by rw [m2];split<;>omega
 have b2:sf'≤now:=by rw [m2];split<;>omega
 refine ⟨hw,by rw [m1];exact l81,e,by omega,by omega,h6,fun f hf hf2=>?_⟩
 rw [m3 f (by omega) (by omega)]
 exact h7 f (by omega) hf2
def gT(c:Sp.T aR):Prop:=(0≤c.2.1∧c.2.1≤8)∧(1≤c.2.2.1∧c.2.2.1≤16)∧Xm c.2.2.2.2.1∧Xm c.2.2.2.2.2.1∧oN c.1 c.2.2.2.2.2.2.2.1 c.2.2.2.2.1.1.1 c.2.2.2.2.2.2.1.1 c.2.2.2.2.2.2.1.2.1∧c.2.2.2.2.2.1.1.1=c.2.2.2.2.1.1.1
def cN(c:Sp.T aR)(k:Int):Int:=if k=0 then c.2.2.2.2.1.2.2.1 else c.2.2.2.2.2.1.2.2.1
def aJ(c:Sp.T aR):Int:=c.2.2.2.2.2.2.2.1
def cF(c:Sp.T aR):Int:=c.2.2.2.2.1.1.1
def cD(c:Sp.T aR):Int:=c.2.1
def cW(c:Sp.T aR):Int:=c.2.2.1
def fI(c c':Sp.T aR):Prop:=c'.1=c.1∧cD c'=cD c∧cW c'=cW c
def wD(a b:Sp.T aR)(P:Prop):Prop:=(a.1=b.1∧a.2.1=b.2.1∧a.2.2.1=b.2.2.1∧(0:Int)=(0:Int)∧True∧True∧True∧a.2.2.2.2.2.2.2.1=b.2.2.2.2.2.2.2.1)∧(True∧True∧a.2.2.2.2.1.2.2.1=b.2.2.2.2.1.2.2.1∧(0:Int)=(0:Int))∧(a.2.2.2.2.1.1.1=b.2.2.2.2.1.1.1∧(false=false∧(0:Nat)=(0:Nat)∧(0:Nat)=(0:Nat)∧(List.length a.2.2.2.2.1.1.2.1)=(List.length b.2.2.2.2.1.1.2.1)∧(List.length a.2.2.2.2.1.1.2.1)=(List.length b.2.2.2.2.1.1.2.1))∧True)∧(false=false∧(0:Nat)=(0:Nat)∧(List.length a.2.2.2.2.1.1.2.1)=(List.length b.2.2.2.2.1.1.2.1)∧List.take ((List.length b.2.2.2.2.1.1.2.1)) a.2.2.2.2.1.1.2.1=b.2.2.2.2.1.1.2.1)∧(a.2.2.2.2.1.2.1.1=b.2.2.2.2.1.2.1.1∧(false=false∧(0:Nat)=(0:Nat)∧(0:Nat)=(0:Nat)∧(List.length a.2.2.2.2.1.2.1.2.1)=(List.length b.2.2.2.2.1.2.1.2.1)∧(List.length a.2.2.2.2.1.2.1.2.1)=(List.length b.2.2.2.2.1.2.1.2.1))∧True)∧(false=false∧(0:Nat)=(0:Nat)∧(List.length a.2.2.2.2.1.2.1.2.1)=(List.length b.2.2.2.2.1.2.1.2.1)∧List.take ((List.length b.2.2.2.2.1.2.1.2.1)) a.2.2.2.2.1.2.1.2.1=b.2.2.2.2.1.2.1.2.1)∧(True∧True∧a.2.2.2.2.2.1.2.2.1=b.2.2.2.2.2.1.2.2.1∧(0:Int)=(0:Int))∧(a.2.2.2.2.2.1.1.1=b.2.2.2.2.2.1.1.1∧(false=false∧(0:Nat)=(0:Nat)∧(0:Nat)=(0:Nat)∧(List.length a.2.2.2.2.2.1.1.2.1)=(List.length b.2.2.2.2.2.1.1.2.1)∧(List.length a.2.2.2.2.2.1.1.2.1)=(List.length b.2.2.2.2.2.1.1.2.1))∧True)∧(false=false∧(0:Nat)=(0:Nat)∧(List.length a.2.2.2.2.2.1.1.2.1)=(List.length b.2.2.2.2.2.1.1.2.1)∧List.take ((List.length b.2.2.2.2.2.1.1.2.1)) a.2.2.2.2.2.1.1.2.1=b.2.2.2.2.2.1.1.2.1)∧(a.2.2.2.2.2.1.2.1.1=b.2.2.2.2.2.1.2.1.1∧(false=false∧(0:Nat)=(0:Nat)∧(0:Nat)=(0:Nat)∧(List.length a.2.2.2.2.2.1.2.1.2.1)=(List.length b.2.2.2.2.2.1.2.1.2.1)∧(List.length a.2.2.2.2.2.1.2.1.2.1)=(List.length b.2.2.2.2.2.1.2.1.2.1))∧True)∧(false=false∧(0:Nat)=(0:Nat)∧(List.length a.2.2.2.2.2.1.2.1.2.1)=(List.length b.2.2.2.2.2.1.2.1.2.1)∧List.take ((List.length b.2.2.2.2.2.1.2.1.2.1)) a.2.2.2.2.2.1.2.1.2.1=b.2.2.2.2.2.1.2.1.2.1)∧(a.2.2.2.2.2.2.1.1=b.2.2.2.2.2.2.1.1∧(false=false∧(0:Nat)=(0:Nat)∧(0:Nat)=(0:Nat)∧(List.length a.2.2.2.2.2.2.1.2.1)=(List.length b.2.2.2.2.2.2.1.2.1)∧(List.length a.2.2.2.2.2.2.1.2.1)=(List.length b.2.2.2.2.2.2.1.2.1))∧True)∧(false=false∧(0:Nat)=(0:Nat)∧(List.length a.2.2.2.2.2.2.1.2.1)=(List.length b.2.2.2.2.2.2.1.2.1)∧List.take ((List.length b.2.2.2.2.2.2.1.2.1)) a.2.2.2.2.2.2.1.2.1=b.2.2.2.2.2.2.1.2.1)∧P
def bq(a:Sp.T aR):Prop:=((0:Int)=(0:Int)∧(((List.length a.2.2.2.2.1.1.2.1)=(List.length a.2.2.2.2.1.1.2.1)∧(List.length a.2.2.2.2.1.1.2.1)=(List.length a.2.2.2.2.1.1.2.1)∧(List.length a.2.2.2.2.1.1.2.1)=(List.length a.2.2.2.2.1.1.2.1))∧((List.length a.2.2.2.2.1.2.1.2.1)=(List.length a.2.2.2.2.1.2.1.2.1)∧(List.length a.2.2.2.2.1.2.1.2.1)=(List.length a.2.2.2.2.1.2.1.2.1)∧(List.length a.2.2.2.2.1.2.1.2.1)=(List.length a.2.2.2.2.1.2.1.2.1))∧(0:Int)=(0:Int))∧(((List.length a.2.2.2.2.2.1.1.2.1)=(List.length a.2.2.2.2.2.1.1.2.1)∧(List.length a.2.2.2.2.2.1.1.2.1)=(List.length a.2.2.2.2.2.1.1.2.1)∧(List.length a.2.2.2.2.2.1.1.2.1)=(List.length a.2.2.2.2.2.1.1.2.1))∧((List.length a.2.2.2.2.2.1.2.1.2.1)=(List.length a.2.2.2.2.2.1.2.1.2.1)∧(List.length a.2.2.2.2.2.1.2.1.2.1)=(List.length a.2.2.2.2.2.1.2.1.2.1)∧(List.length a.2.2.2.2.2.1.2.1.2.1)=(List.length a.2.2.2.2.2.1.2.1.2.1))∧(0:Int)=(0:Int))∧(List.length a.2.2.2.2.2.2.1.2.1)=(List.length a.2.2.2.2.2.2.1.2.1)∧(List.length a.2.2.2.2.2.2.1.2.1)=(List.length a.2.2.2.2.2.2.1.2.1)∧(List.length a.2.2.2.2.2.2.1.2.1)=(List.length a.2.2.2.2.2.2.1.2.1))
def EB(x:(jX×Unit))(y:(Unit)):Prop:=True
def qJ(x:(jX×Unit))(y:(Unit)):((Int×Unit)×Unit):=((x.1.2.2.1,()),())
noncomputable def XZ:RC:=qR [true] [vE] [] [(false,[.int .i64])] EB qJ
abbrev O8:Type:=(Unit×(Sp.im [Kd.int IntKind.u8,Kd.bool]).H×Unit)×(Unit×(Sp.im [Kd.int IntKind.u8,Kd.bool]).H×Unit)×Unit×Unit×Unit
def VU(a:vE.H):O8:=(H4 a.1,H4 a.2.1,Qj)
theorem Z2:aB Tryz.prog 100 XZ:=by
 refine aD (cx Mx [] um aF) Tryz.func100 (by kernel_rfl) (by kernel_rfl) rfl rfl rfl fun (x:(jX×Unit)) h (y:(Unit)) k hp=>⟨bK,400,af (q:=Qs lG ((x.1,())=x) ((VU h.1,())=h∧Qg x.1.2.2.1=qJ x y)) (by kernel_rfl) ?_⟩
 delta Q7 oO lG Qn Qs Qk Qj Qg H4 VU;obtain ⟨⟨⟨(k0:Int),l0,⟨⟩⟩,⟨(o0:Int),p0,⟨⟩⟩,(n0:Int),⟨⟩,⟨⟩⟩,⟨⟩⟩:=x;obtain ⟨⟨⟨⟨⟩,m0,⟨⟩⟩,⟨⟨⟩,q0,⟨⟩⟩,⟨⟩,⟨⟩,⟨⟩⟩,⟨⟩⟩:=h;obtain ⟨⟨⟩⟩:=y;obtain ⟨⟨⟩⟩:=k
 try dsimp only [qJ]
 simp [qJ]
noncomputable def u9:=um.rd 100 Z2
def nP(x:(cM×Unit))(y:(Unit)):Prop:=True
def jr(x:(cM×Unit))(y:(Unit)):((Int×Unit)×Unit):=((min x.1.2.2.2.2.1.2.2.1 x.1.2.2.2.2.2.1.2.2.1,()),())
noncomputable def Cd:RC:=qR [true] [jl] [] [(false,[.int .i64])] nP jr
abbrev MB:Type:=((Unit×(Sp.im [Kd.int IntKind.u8,Kd.bool]).H×Unit)×(Unit×(Sp.im [Kd.int IntKind.u8,Kd.bool]).H×Unit)×Unit×Unit×Unit)×(Unit×(Sp.im vV).H×Unit)×Unit×Unit
abbrev M1:Type:=cM×Unit
def GS:Prop:=Ye lG lG
def C3(a:jl.H):MB:=(VU a.2.2.2.2.2.1,((),a.2.2.2.2.2.2.1.2.1,()),Qk)
def tf(a:jl.H):O8:=VU a.2.2.2.2.1
def HV(a b c:Prop)(d:Int)(e:ky):Prop:=Q6 a True b c (Qg d=e)
def z9(a:M1):jX×jX×BK×Int×Unit:=a.1.2.2.2.2
def om(a:jX×Unit):Prop:=EB a ()
def yN(a:M1)(b:Prop):Prop:=Qz lG (om ((z9 a).1,())) (lG∧om ((z9 a).2.1,())) b
def yZ(a:M1):Int:=if (z9 a).2.1.2.2.1<(z9 a).1.2.2.1 then (z9 a).2.1.2.2.1 else (z9 a).1.2.2.1
abbrev gp:Sp:= .pt 126 [.int .u32,.int .i64,.int .i64,.cl (.int .i64 (1)),gE,gE,gw,.int .i64]
abbrev bU:Type:=(Int×Int×Int×Unit×cO×cO×dw×Int×Unit)
abbrev ub:Sp:= .pt 126 [.int .u32,.int .i64,.int .i64,.cl (.int .i64 (1)),vE,vE,RZ,.int .i64]
abbrev eN:Type:=(Int×Int×Int×Unit×jX×jX×BK×Int×Unit)
def wN(a b:Sp.T gp)(P:Prop):Prop:=(a.1=b.1∧a.2.1=b.2.1∧a.2.2.1=b.2.2.1∧(1:Int)=(1:Int)∧True∧True∧True∧a.2.2.2.2.2.2.2.1=b.2.2.2.2.2.2.2.1)∧(True∧True∧a.2.2.2.2.1.2.2.1=b.2.2.2.2.1.2.2.1∧(0:Int)=(0:Int))∧(a.2.2.2.2.1.1.1=b.2.2.2.2.1.1.1∧(false=false∧(0:Nat)=(0:Nat)∧(0:Nat)=(0:Nat)∧(List.length a.2.2.2.2.1.1.2.1)=(List.length b.2.2.2.2.1.1.2.1)∧(List.length a.2.2.2.2.1.1.2.1)=(List.length b.2.2.2.2.1.1.2.1))∧True)∧(false=false∧(0:Nat)=(0:Nat)∧(List.length a.2.2.2.2.1.1.2.1)=(List.length b.2.2.2.2.1.1.2.1)∧List.take ((List.length b.2.2.2.2.1.1.2.1)) a.2.2.2.2.1.1.2.1=b.2.2.2.2.1.1.2.1)∧(a.2.2.2.2.1.2.1.1=b.2.2.2.2.1.2.1.1∧(false=false∧(0:Nat)=(0:Nat)∧(0:Nat)=(0:Nat)∧(List.length a.2.2.2.2.1.2.1.2.1)=(List.length b.2.2.2.2.1.2.1.2.1)∧(List.length a.2.2.2.2.1.2.1.2.1)=(List.length b.2.2.2.2.1.2.1.2.1))∧True)∧(false=false∧(0:Nat)=(0:Nat)∧(List.length a.2.2.2.2.1.2.1.2.1)=(List.length b.2.2.2.2.1.2.1.2.1)∧List.take ((List.length b.2.2.2.2.1.2.1.2.1)) a.2.2.2.2.1.2.1.2.1=b.2.2.2.2.1.2.1.2.1)∧(True∧True∧a.2.2.2.2.2.1.2.2.1=b.2.2.2.2.2.1.2.2.1∧(0:Int)=(0:Int))∧(a.2.2.2.2.2.1.1.1=b.2.2.2.2.2.1.1.1∧(false=false∧(0:Nat)=(0:Nat)∧(0:Nat)=(0:Nat)∧(List.length a.2.2.2.2.2.1.1.2.1)=(List.length b.2.2.2.2.2.1.1.2.1)∧(List.length a.2.2.2.2.2.1.1.2.1)=(List.length b.2.2.2.2.2.1.1.2.1))∧True)∧(false=false∧(0:Nat)=(0:Nat)∧(List.length a.2.2.2.2.2.1.1.2.1)=(List.length b.2.2.2.2.2.1.1.2.1)∧List.take ((List.length b.2.2.2.2.2.1.1.2.1)) a.2.2.2.2.2.1.1.2.1=b.2.2.2.2.2.1.1.2.1)∧(a.2.2.2.2.2.1.2.1.1=b.2.2.2.2.2.1.2.1.1∧(false=false∧(0:Nat)=(0:Nat)∧(0:Nat)=(0:Nat)∧(List.length a.2.2.2.2.2.1.2.1.2.1)=(List.length b.2.2.2.2.2.1.2.1.2.1)∧(List.length a.2.2.2.2.2.1.2.1.2.1)=(List.length b.2.2.2.2.2.1.2.1.2.1))∧True)∧(false=false∧(0:Nat)=(0:Nat)∧(List.length a.2.2.2.2.2.1.2.1.2.1)=(List.length b.2.2.2.2.2.1.2.1.2.1)∧List.take ((List.length b.2.2.2.2.2.1.2.1.2.1)) a.2.2.2.2.2.1.2.1.2.1=b.2.2.2.2.2.1.2.1.2.1)∧(a.2.2.2.2.2.2.1.1=b.2.2.2.2.2.2.1.1∧(false=false∧(0:Nat)=(0:Nat)∧(0:Nat)=(0:Nat)∧(List.length a.2.2.2.2.2.2.1.2.1)=(List.length b.2.2.2.2.2.2.1.2.1)∧(List.length a.2.2.2.2.2.2.1.2.1)=(List.length b.2.2.2.2.2.2.1.2.1))∧True)∧(false=false∧(0:Nat)=(0:Nat)∧(List.length a.2.2.2.2.2.2.1.2.1)=(List.length b.2.2.2.2.2.2.1.2.1)∧List.take ((List.length b.2.2.2.2.2.2.1.2.1)) a.2.2.2.2.2.2.1.2.1=b.2.2.2.2.2.2.1.2.1)∧P
def bF(a:Sp.T gp):Prop:=((1:Int)=(1:Int)∧(((List.length a.2.2.2.2.1.1.2.1)=(List.length a.2.2.2.2.1.1.2.1)∧(List.length a.2.2.2.2.1.1.2.1)=(List.length a.2.2.2.2.1.1.2.1)∧(List.length a.2.2.2.2.1.1.2.1)=(List.length a.2.2.2.2.1.1.2.1))∧((List.length a.2.2.2.2.1.2.1.2.1)=(List.length a.2.2.2.2.1.2.1.2.1)∧(List.length a.2.2.2.2.1.2.1.2.1)=(List.length a.2.2.2.2.1.2.1.2.1)∧(List.length a.2.2.2.2.1.2.1.2.1)=(List.length a.2.2.2.2.1.2.1.2.1))∧(0:Int)=(0:Int))∧(((List.length a.2.2.2.2.2.1.1.2.1)=(List.length a.2.2.2.2.2.1.1.2.1)∧(List.length a.2.2.2.2.2.1.1.2.1)=(List.length a.2.2.2.2.2.1.1.2.1)∧(List.length a.2.2.2.2.2.1.1.2.1)=(List.length a.2.2.2.2.2.1.1.2.1))∧((List.length a.2.2.2.2.2.1.2.1.2.1)=(List.length a.2.2.2.2.2.1.2.1.2.1)∧(List.length a.2.2.2.2.2.1.2.1.2.1)=(List.length a.2.2.2.2.2.1.2.1.2.1)∧(List.length a.2.2.2.2.2.1.2.1.2.1)=(List.length a.2.2.2.2.2.1.2.1.2.1))∧(0:Int)=(0:Int))∧(List.length a.2.2.2.2.2.2.1.2.1)=(List.length a.2.2.2.2.2.2.1.2.1)∧(List.length a.2.2.2.2.2.2.1.2.1)=(List.length a.2.2.2.2.2.2.1.2.1)∧(List.length a.2.2.2.2.2.2.1.2.1)=(List.length a.2.2.2.2.2.2.1.2.1))
def nT(x:(eN×Unit))(y:(Unit)):Prop:=True
def js(x:(eN×Unit))(y:(Unit)):((Int×Unit)×Unit):=((min x.1.2.2.2.2.1.2.2.1 x.1.2.2.2.2.2.1.2.2.1,()),())
noncomputable def Bc:RC:=qR [true] [ub] [] [(false,[.int .i64])] nT js
def ji:Prop:=Ye Q5e lG
def gx(a:jl.H):MB:=(VU a.2.2.2.2.2.1,((),a.2.2.2.2.2.2.1.2.1,()),Qk)
def En(a:jl.H):O8:=VU a.2.2.2.2.1
theorem Bs:aB Tryz.prog 83 Cd∧aB Tryz.prog 83 Bc:=by
 refine ⟨?a,?b⟩
 case' a=>
  refine aD (cx Mx [] u9 aF) Tryz.func83 (by kernel_rfl) (by kernel_rfl) rfl rfl rfl fun (x:(cM×Unit)) h (y:(Unit)) k hp=>⟨bK,400,af (q:=yN x (HV GS ((x.1,())=x) ((((),(),(),(),tf h.1,C3 h.1),())=h) (yZ x) (jr x y))) (by kernel_rfl) ?_⟩
  delta Q7 Q6 oO lG Qk Qj Qg Ye Qz H4 VU GS C3 tf HV z9 om yN yZ;obtain ⟨⟨(w0:Int),(m0:Int),(z0:Int),⟨⟩,⟨⟨(n0:Int),o0,⟨⟩⟩,⟨(p0:Int),q0,⟨⟩⟩,(k0:Int),⟨⟩,⟨⟩⟩,⟨⟨(r0:Int),s0,⟨⟩⟩,⟨(t0:Int),u0,⟨⟩⟩,(l0:Int),⟨⟩,⟨⟩⟩,⟨(x0:Int),y0,⟨⟩⟩,(v0:Int),⟨⟩⟩,⟨⟩⟩:=x;obtain ⟨⟨⟨⟩,⟨⟩,⟨⟩,⟨⟩,⟨⟨⟨⟩,a0,⟨⟩⟩,⟨⟨⟩,b0,⟨⟩⟩,⟨⟩,⟨⟩,⟨⟩⟩,⟨⟨⟨⟩,c0,⟨⟩⟩,⟨⟨⟩,d0,⟨⟩⟩,⟨⟩,⟨⟩,⟨⟩⟩,⟨⟨⟩,e0,⟨⟩⟩,⟨⟩,⟨⟩⟩,⟨⟩⟩:=h;obtain ⟨⟨⟩⟩:=y;obtain ⟨⟨⟩⟩:=k
  try dsimp only [jr]
  have A':=()
 case' b=>
  refine aD (cx Mx [] u9 aF) Tryz.func83 (by kernel_rfl) (by kernel_rfl) rfl rfl rfl fun (x:(eN×Unit)) h (y:(Unit)) k hp=>⟨bK,400,af (q:=yN x (HV ji ((x.1,())=x) ((((),(),(),(),En h.1,gx h.1),())=h) (yZ x) (js x y))) (by kernel_rfl) ?_⟩
  delta Q7 Q6 oO lG Qk Qj Qg Q5e Ye Qz H4 VU ji gx En HV z9 om yN yZ;obtain ⟨⟨(w0:Int),(m0:Int),(z0:Int),⟨⟩,⟨⟨(n0:Int),o0,⟨⟩⟩,⟨(p0:Int),q0,⟨⟩⟩,(k0:Int),⟨⟩,⟨⟩⟩,⟨⟨(r0:Int),s0,⟨⟩⟩,⟨(t0:Int),u0,⟨⟩⟩,(l0:Int),⟨⟩,⟨⟩⟩,⟨(x0:Int),y0,⟨⟩⟩,(v0:Int),⟨⟩⟩,⟨⟩⟩:=x;obtain ⟨⟨⟨⟩,⟨⟩,⟨⟩,⟨⟩,⟨⟨⟨⟩,a0,⟨⟩⟩,⟨⟨⟩,b0,⟨⟩⟩,⟨⟩,⟨⟩,⟨⟩⟩,⟨⟨⟨⟩,c0,⟨⟩⟩,⟨⟨⟩,d0,⟨⟩⟩,⟨⟩,⟨⟩,⟨⟩⟩,⟨⟨⟩,e0,⟨⟩⟩,⟨⟩,⟨⟩⟩,⟨⟩⟩:=h;obtain ⟨⟨⟩⟩:=y;obtain ⟨⟨⟩⟩:=k
  try dsimp only [js]
  have B':=()
 all_goals
  first|(have:=A';have hres:((min k0 l0,()),())=jr ((w0,m0,z0,(),((n0,o0,()),(p0,q0,()),k0,(),()),((r0,s0,()),(t0,u0,()),l0,(),()),(x0,y0,()),v0,()),()) ():=rfl)|(have:=B';have hres:((min k0 l0,()),())=js ((w0,m0,z0,(),((n0,o0,()),(p0,q0,()),k0,(),()),((r0,s0,()),(t0,u0,()),l0,(),()),(x0,y0,()),v0,()),()) ():=rfl)
  have hm:(if l0<k0 then l0 else k0)=min k0 l0:=by rw [Int.min_def];split<;>split<;>omega
  simp only [cl];rw [hm];exact ⟨trivial,trivial,hres⟩
theorem Lw:aB Tryz.prog 83 Cd:=Bs.1
theorem Km:aB Tryz.prog 83 Bc:=Bs.2
noncomputable def xM:=u9.rd 83 Lw
def rV(x:(cM×Unit))(y:(Unit)):Prop:=0≤x.1.2.2.2.2.2.2.2.1∧x.1.2.2.2.2.2.2.2.1≤1000000∧0≤x.1.2.2.2.2.1.2.2.1∧0≤x.1.2.2.2.2.2.1.2.2.1∧x.1.2.2.2.2.1.2.2.1≤1000000∧x.1.2.2.2.2.2.1.2.2.1≤1000000
def sL(x:(cM×Unit))(y:(Unit)):((Bool×Unit)×Unit):=((decide (x.1.2.2.1≤x.1.2.2.2.2.2.2.2.1-min x.1.2.2.2.2.1.2.2.1 x.1.2.2.2.2.2.1.2.2.1),()),())
noncomputable def HU:RC:=qR [true] [jl] [] [(false,[.bool])] rV sL
def ui(a:M1):Prop:=QS (z9 a).2.2.2.1 (min (z9 a).1.2.2.1 (z9 a).2.1.2.2.1)
def gB(a:M1)(b:(Bool×Unit)×Unit):Prop:=((Ra a.1.2.2.1 (z9 a).2.2.2.1 (min (z9 a).1.2.2.1 (z9 a).2.1.2.2.1),()),())=b
noncomputable def xA:=u9.rd 83 Km
def sN(x:(eN×Unit))(y:(Unit)):Prop:=0≤x.1.2.2.2.2.2.2.2.1∧x.1.2.2.2.2.2.2.2.1≤1000000∧0≤x.1.2.2.2.2.1.2.2.1∧0≤x.1.2.2.2.2.2.1.2.2.1∧x.1.2.2.2.2.1.2.2.1≤1000000∧x.1.2.2.2.2.2.1.2.2.1≤1000000
def rY(x:(eN×Unit))(y:(Unit)):((Bool×Unit)×Unit):=((decide (x.1.2.2.1≤x.1.2.2.2.2.2.2.2.1-min x.1.2.2.2.2.1.2.2.1 x.1.2.2.2.2.2.1.2.2.1),()),())
noncomputable def Jl:RC:=qR [true] [ub] [] [(false,[.bool])] sN rY
theorem HZ:aB Tryz.prog 136 HU∧aB Tryz.prog 136 Jl:=by
 refine ⟨?a,?b⟩
 case' a=>
  refine aD (cx Mx [] xM aF) Tryz.func136 (by kernel_rfl) (by kernel_rfl) rfl rfl rfl fun (x:(cM×Unit)) h (y:(Unit)) k hp=>⟨bK,400,af (q:=Qz GS (nP (x.1,()) ()) (ui x) (Q6 GS True ((x.1,())=x) ((((),(),(),(),tf h.1,C3 h.1),())=h) (gB x (sL x y)))) (by kernel_rfl) ?_⟩
  delta Q7 Q6 oO lG Qk Qj Qi Ye Qz H4 VU QS Ra GS C3 tf z9 ui gB;obtain ⟨⟨(a0:Int),(n0:Int),(e0:Int),⟨⟩,⟨⟨(o0:Int),p0,⟨⟩⟩,⟨(r0:Int),s0,⟨⟩⟩,(k0:Int),⟨⟩,⟨⟩⟩,⟨⟨(u0:Int),v0,⟨⟩⟩,⟨(x0:Int),y0,⟨⟩⟩,(l0:Int),⟨⟩,⟨⟩⟩,⟨(b0:Int),c0,⟨⟩⟩,(m0:Int),⟨⟩⟩,⟨⟩⟩:=x;obtain ⟨⟨⟨⟩,⟨⟩,⟨⟩,⟨⟩,⟨⟨⟨⟩,q0,⟨⟩⟩,⟨⟨⟩,t0,⟨⟩⟩,⟨⟩,⟨⟩,⟨⟩⟩,⟨⟨⟨⟩,w0,⟨⟩⟩,⟨⟨⟩,z0,⟨⟩⟩,⟨⟩,⟨⟩,⟨⟩⟩,⟨⟨⟩,d0,⟨⟩⟩,⟨⟩,⟨⟩⟩,⟨⟩⟩:=h;obtain ⟨⟨⟩⟩:=y;obtain ⟨⟨⟩⟩:=k
  try dsimp only [sL]
 case' b=>
  refine aD (cx Mx [] xA aF) Tryz.func136 (by kernel_rfl) (by kernel_rfl) rfl rfl rfl fun (x:(eN×Unit)) h (y:(Unit)) k hp=>⟨bK,400,af (q:=W9 ji (nT (x.1,()) ()) (K5 (ui x) ji ((x.1,())=x) ((((),(),(),(),En h.1,gx h.1),())=h∧gB x (rY x y)))) (by kernel_rfl) ?_⟩
  delta Q7 Q6 oO lG Qk Qj Qi Q5e Ye K5 H4 VU QS Ra ji gx En z9 W9 ui gB;obtain ⟨⟨(a0:Int),(n0:Int),(e0:Int),⟨⟩,⟨⟨(o0:Int),p0,⟨⟩⟩,⟨(r0:Int),s0,⟨⟩⟩,(k0:Int),⟨⟩,⟨⟩⟩,⟨⟨(u0:Int),v0,⟨⟩⟩,⟨(x0:Int),y0,⟨⟩⟩,(l0:Int),⟨⟩,⟨⟩⟩,⟨(b0:Int),c0,⟨⟩⟩,(m0:Int),⟨⟩⟩,⟨⟩⟩:=x;obtain ⟨⟨⟨⟩,⟨⟩,⟨⟩,⟨⟩,⟨⟨⟨⟩,q0,⟨⟩⟩,⟨⟨⟩,t0,⟨⟩⟩,⟨⟩,⟨⟩,⟨⟩⟩,⟨⟨⟨⟩,w0,⟨⟩⟩,⟨⟨⟩,z0,⟨⟩⟩,⟨⟩,⟨⟩,⟨⟩⟩,⟨⟨⟩,d0,⟨⟩⟩,⟨⟩,⟨⟩⟩,⟨⟩⟩:=h;obtain ⟨⟨⟩⟩:=y;obtain ⟨⟨⟩⟩:=k
  try dsimp only [rY]
 all_goals
  obtain ⟨h1,h2,h3,h4,h5,h6⟩:=(show 0≤m0∧m0≤1000000∧0≤k0∧0≤l0∧k0≤1000000∧l0≤1000000 from hp);simp only [cl];exact ⟨trivial,by simp only [aL,aT,aU];omega⟩
theorem TI:aB Tryz.prog 136 HU:=HZ.1
theorem V7:aB Tryz.prog 136 Jl:=HZ.2
noncomputable def dS:=xM.rd 136 TI
def pH(x:(bg×Unit))(y:((Unit×Unit)×Unit)):Prop:=gT x.1∧cN x.1 0=aJ x.1+cD x.1∧aJ x.1+cD x.1≤cN x.1 1∧cN x.1 0-cF x.1<64∧cN x.1 0<1000
def eW(x:(bg×Unit))(y:((Unit×Unit)×Unit))(x':(bg×Unit))(z:((Int×Unit)×(Unit×Unit)×Unit)):Prop:=gT x'.1∧fI x.1 x'.1∧cF x'.1=cF x.1∧z.1.1=cN x.1 0∧cN x'.1 0=cN x.1 0+1∧cN x'.1 1=cN x.1 1∧aJ x'.1=aJ x.1
noncomputable def EW:MC:=qC [true,false] [aR] [(false,[.cl (.int .u8 (0))])] [(false,[.int .i64]),(false,[.cl (.int .i64 (0))])] pH eW
abbrev lA:Type:=eZ [(false,[Sp.cl (Lc.int IntKind.i64 (0:Int))])]
abbrev kE:Type:=aZ [(false,[Sp.cl (Lc.int IntKind.i64 (0:Int))])]
abbrev lJ:Type:=Sp.Hs [gE]
abbrev eI:Type:=Sp.Ts [gE]
abbrev dK:Type:=bg×Unit
abbrev NZ:Type:=dw×Int×Unit
def Qb1(a:bg):cO:=a.2.2.2.2.1
def Hb(a:dK):cO:=Qb1 a.1
def V2(a:dK):Int:=(Hb a).2.2.1
def Qb3(a:bg):NZ:=a.2.2.2.2.2.2
def Qb2(a:dK):Nat:=(Qb3 a.1).1.2.1.length
def MO(a b:Prop)(c:dK):Prop:=cu a b (Qb2 c=Qb2 c) (Qb2 c) (Qb2 c) (Qb2 c=Qb2 c)
def CP(a:bg):cO:=a.2.2.2.2.2.1
def Kh(a:dK):cO:=CP a.1
def Qb4(a:cO):Prop:=Ye (QA (Yo a.1.2) (Yo a.1.2)) (QA (Yo a.2.1.2) (Yo a.2.1.2))
def QaQ(a:Prop)(b:dK):Prop:=cu a (Qb4 (Hb b)) (Qb4 (Kh b)) (Qb2 b) (Qb2 b) QJ
def Dm(a:dK):Int:=(Hb a).1.1
def Sa:Prop:=QC mJ mJ True True
def Qb7(a:eI)(b c d:Prop):Prop:=Q3j Sa (Q7 (n7 a.1.1.1 a.1.1.2.1 a.1.2.1.1 a.1.2.1.2.1 a.1.2.2.1) b c) d
def QaV(a:eI)(b c:Int)(d:Prop):Prop:=Qb7 a (a.1.2.2.1=QH b) (a.1.1.1=c) d
def QaZ(a:dK):Prop:=bH (Kh a)
def QaY(a:eI):Prop:=bH a.1
def Qba(a:dK):Int:=(Qb3 a.1).2.1
def Qb9(a:dK)(b:cO×cO×dw×Int×Unit):dK:=((a.1.1,a.1.2.1,a.1.2.2.1,(),b),())
def CL(a:dK)(b:eI):dK:=Qb9 a (b.1,Kh a,(Qb3 a.1).1,Qba a,())
def DF(a:dK):Prop:=Qb4 (Hb a)
def K9(a:dK):Int:=(Kh a).2.2.1
def QaR(a:dK):Bool:=Ra a.1.2.2.1 (Qba a) (min (V2 a) (K9 a))
def FO(a:dK)(b:Int)(c d e:Prop):Prop:=Q4 (QaR a) (QT (Qd (Qba a) a.1.2.1) (decide ((Qba a+a.1.2.1)<b)) (Q7 c (oO (7:Int)) d) e)
def Qbc(a b c:Prop):Prop:=Qn a lG b c
def On(a:dK):fo:=(Hb a).2.1
def Qbd(a:dK):Prop:=bH (Hb a)
def GU(a:dK)(b:Int)(c:Prop):Prop:=Qbc (Qbd a) (Qn (n7 (Dm a) (Hb a).1.2.1 (On a).1 (On a).2.1 (V2 a)) (b=V2 a) (V2 a-Dm a<(64:Int)) (V2 a<(1000000:Int))) c
noncomputable def dR:=xA.rd 136 V7
def pP(x:(bU×Unit))(y:((Unit×Unit)×Unit)):Prop:=gT x.1∧cN x.1 1=aJ x.1+cD x.1∧aJ x.1+cD x.1≤cN x.1 0∧cN x.1 1-cF x.1<64∧cN x.1 1<1000
def eR(x:(bU×Unit))(y:((Unit×Unit)×Unit))(x':(bU×Unit))(z:((Int×Unit)×(Unit×Unit)×Unit)):Prop:=gT x'.1∧fI x.1 x'.1∧cF x'.1=cF x.1∧z.1.1=cN x.1 1∧cN x'.1 1=cN x.1 1+1∧cN x'.1 0=cN x.1 0∧aJ x'.1=aJ x.1
noncomputable def Dt:MC:=qC [true,false] [gp] [(false,[.cl (.int .u8 (0))])] [(false,[.int .i64]),(false,[.cl (.int .i64 (0))])] pP eR
def Qbg(a:dK):Int:=(Kh a).1.1
def jo(a:dK)(b:eI):dK:=Qb9 a (Hb a,b.1,(Qb3 a.1).1,Qba a,())
def K3(a:dK):fo:=(Kh a).2.1
def Qbf(a:dK)(b:Int)(c:Prop):Prop:=Qbc (QaZ a) (Qn (n7 (Qbg a) (Kh a).1.2.1 (K3 a).1 (K3 a).2.1 (K9 a)) (b=K9 a) (K9 a-Qbg a<(64:Int)) (K9 a<(1000000:Int))) c
theorem DW:ab Tryz.prog 75 EW∧ab Tryz.prog 75 Dt:=by
 refine ⟨?a,?b⟩
 case' a=>
  refine ah (cx Mx [99,84,24,89,52,128] dS aF) Tryz.func75 (by kernel_rfl) (by kernel_rfl) fun (x:(bg×Unit)) h (y:((Unit×Unit)×Unit)) k hf hg hp=>⟨bK,400,af (q:=Q60 (DF x) (om (Hb x,())) (QaQ lG x) (rV (x.1,()) ()) (Q3 (QaR x) (Q7 (bq x.1) dU (eW x y (x.1,()) Q8r))) (FO x (V2 x) (bq x.1) (eW x y (x.1,()) Q8r) (GU x (V2 x) (∀ (va:eI) (vb:lJ) (vc:kE) (vd:lA),QaV va (V2 x) (Dm x) (Qz lG (MO (QaY va) (QaZ x) x) lG (eW x y (CL x va) ((V2 x,()),mB))))))) (by kernel_rfl) ?_⟩
  delta Q7 Q6 oO lG QC Qn cR Q3 ya Qk mJ Q4 QJ cu Yo JY Sa Qb3 uI mB QH CP Qi QA Qb1 Ye Qb2 dD Q3j Kh Hb Qba Q5d Qb4 Qz Qbc Q60 K9 Qb7 Ra V2 QT Qd Qm MO Qb9 QaQ On Dm QaV QaZ Qbd QaY CL DF QaR dU Q8r om FO GU bq bH;obtain ⟨⟨(x0:Int),(n0:Int),(p0:Int),⟨⟩,⟨⟨(o0:Int),r0,⟨⟩⟩,⟨(s0:Int),t0,⟨⟩⟩,(k0:Int),⟨⟩,⟨⟩⟩,⟨⟨(q0:Int),u0,⟨⟩⟩,⟨(v0:Int),w0,⟨⟩⟩,(l0:Int),⟨⟩,⟨⟩⟩,⟨(y0:Int),z0,⟨⟩⟩,(m0:Int),⟨⟩⟩,⟨⟩⟩:=x;obtain ⟨⟨⟨⟩,⟨⟩,⟨⟩,⟨⟩,⟨⟨⟨⟩,⟨⟩,⟨⟩⟩,⟨⟨⟩,⟨⟩,⟨⟩⟩,⟨⟩,⟨⟩,⟨⟩⟩,⟨⟨⟨⟩,⟨⟩,⟨⟩⟩,⟨⟨⟩,⟨⟩,⟨⟩⟩,⟨⟩,⟨⟩,⟨⟩⟩,⟨⟨⟩,⟨⟩,⟨⟩⟩,⟨⟩,⟨⟩⟩,⟨⟩⟩:=h;obtain ⟨⟨⟨⟩,⟨⟩⟩,⟨⟩⟩:=y;obtain ⟨⟨⟨⟩,⟨⟩⟩,⟨⟩⟩:=k
  try dsimp only
  have A':=()
 case' b=>
  refine ah (cx Mx [99,84,24,89,52,128] dR aF) Tryz.func75 (by kernel_rfl) (by kernel_rfl) fun (x:(bU×Unit)) h (y:((Unit×Unit)×Unit)) k hf hg hp=>⟨bK,400,af (q:=Q60 (Qb4 (Kh x)) (om (Kh x,())) (QaQ Q5e x) (sN (x.1,()) ()) (Q3 (QaR x) (Q7 (bF x.1) dU (eR x y (x.1,()) Q8r))) (FO x (K9 x) (bF x.1) (eR x y (x.1,()) Q8r) (Qbf x (K9 x) (∀ (va:eI) (vb:lJ) (vc:kE) (vd:lA),QaV va (K9 x) (Qbg x) (Qz Q5e (MO (Qbd x) (QaY va) x) lG (eR x y (jo x va) ((K9 x,()),mB))))))) (by kernel_rfl) ?_⟩
  delta Q7 Q6 oO lG QC Qn cR Q3 ya Qk mJ Q4 QJ cu Yo JY Sa Qb3 uI mB QH CP Qi QA Qb1 Q5e Ye Qb2 dD Q3j Kh Hb Qba Q5d Qb4 Qz Qbc Q60 K9 Qb7 Ra V2 QT Qd Qm MO Qb9 QaQ K3 Qbg QaV QaZ Qbd jo QaY QaR dU Q8r om FO Qbf bF bH;obtain ⟨⟨(x0:Int),(n0:Int),(p0:Int),⟨⟩,⟨⟨(o0:Int),r0,⟨⟩⟩,⟨(s0:Int),t0,⟨⟩⟩,(k0:Int),⟨⟩,⟨⟩⟩,⟨⟨(q0:Int),u0,⟨⟩⟩,⟨(v0:Int),w0,⟨⟩⟩,(l0:Int),⟨⟩,⟨⟩⟩,⟨(y0:Int),z0,⟨⟩⟩,(m0:Int),⟨⟩⟩,⟨⟩⟩:=x;obtain ⟨⟨⟨⟩,⟨⟩,⟨⟩,⟨⟩,⟨⟨⟨⟩,⟨⟩,⟨⟩⟩,⟨⟨⟩,⟨⟩,⟨⟩⟩,⟨⟩,⟨⟩,⟨⟩⟩,⟨⟨⟨⟩,⟨⟩,⟨⟩⟩,⟨⟨⟩,⟨⟩,⟨⟩⟩,⟨⟩,⟨⟩,⟨⟩⟩,⟨⟨⟩,⟨⟩,⟨⟩⟩,⟨⟩,⟨⟩⟩,⟨⟩⟩:=h;obtain ⟨⟨⟨⟩,⟨⟩⟩,⟨⟩⟩:=y;obtain ⟨⟨⟨⟩,⟨⟩⟩,⟨⟩⟩:=k
  try dsimp only
  have B':=()
 all_goals
  obtain ⟨⟨⟨d1,d2⟩,⟨w1,w2⟩,f0,f1,hs,hF⟩,o1,o2,o3,o4⟩:=hp;have f0:n7 o0 r0 s0 t0 k0:=f0;have f1:n7 q0 u0 v0 w0 l0:=f1;have hs:oN x0 m0 o0 y0 z0:=hs;have hF:q0=o0:=hF;have f0':=f0;have f1':=f1;obtain ⟨a1,a2,a3,a4,a5⟩:=f0';obtain ⟨b1,b2,b3,b4,b5⟩:=f1';have hs':=hs;obtain ⟨s1,s2,s3,s4,s5,s6,s7⟩:=hs';obtain ⟨s8,s9,s10,s11⟩:=s1;have d1:0≤n0:=d1;have d2:n0≤8:=d2;have w1:1≤p0:=w1;have w2:p0≤16:=w2
  first|(have:=A';have o1:k0=m0+n0:=o1)|(have:=B';have o1:l0=m0+n0:=o1)
  first|(have:=A';have o2:m0+n0≤l0:=o2)|(have:=B';have o2:m0+n0≤k0:=o2)
  first|(have:=A';have o3:k0-o0<64:=o3)|(have:=B';have o3:l0-o0<64:=o3)
  first|(have:=A';have o4:k0<1000:=o4)|(have:=B';have o4:l0<1000:=o4)
  have hfull: ¬p0≤m0-min k0 l0:=by omega
  simp only [cl]
  first|(have:=A';refine ⟨trivial,(show 0≤m0∧m0≤1000000∧0≤k0∧0≤l0∧k0≤1000000∧l0≤1000000 from by omega),fun h=>absurd h hfull,fun _=>⟨by simp only [aL,aT,aU];omega,fun h=>absurd h (by omega),fun _=>⟨⟨f0,by omega,by omega⟩,fun x' h1 h2 h3=>?_⟩⟩⟩)|(have:=B';refine ⟨trivial,(show 0≤m0∧m0≤1000000∧0≤k0∧0≤l0∧k0≤1000000∧l0≤1000000 from by omega),fun h=>absurd h hfull,fun _=>⟨by simp only [aL,aT,aU];omega,fun h=>absurd h (by omega),fun _=>⟨⟨f1,by omega,by omega⟩,fun x' h1 h2 h3=>?_⟩⟩⟩)
  first|(have:=A';exact ⟨⟨⟨d1,d2⟩,⟨w1,w2⟩,h1,f1,(by show oN _ _ _ _ _;rw [h3];exact hs),(by show _=_;rw [h3];exact hF)⟩,⟨rfl,rfl,rfl⟩,h3,rfl,h2,rfl,rfl⟩)|(have:=B';exact ⟨⟨⟨d1,d2⟩,⟨w1,w2⟩,f0,h1,hs,(by show _=_;rw [h3];exact hF)⟩,⟨rfl,rfl,rfl⟩,rfl,rfl,h2,rfl,rfl⟩)
theorem R0:ab Tryz.prog 75 EW:=DW.1
theorem Pe:ab Tryz.prog 75 Dt:=DW.2
noncomputable def Ba:=aF.add 75 R0
def AR(x:(bg×Unit))(y:((Int×Unit)×(Unit×Unit)×Unit)):Prop:=gT x.1∧y.1.1=cN x.1 1∧y.1.1-cF x.1<64∧y.1.1<1000
def oY(x:(bg×Unit))(y:((Int×Unit)×(Unit×Unit)×Unit))(x':(bg×Unit))(z:((Unit×Unit)×Unit)):Prop:=gT x'.1∧fI x.1 x'.1∧cF x'.1=cF x.1∧cN x'.1 0=cN x.1 0∧cN x'.1 1=cN x.1 1+1∧aJ x'.1=aJ x.1
noncomputable def Hx:MC:=qC [true,false,false] [aR] [(false,[.int .i64]),(false,[.cl (.int .u8 (0))])] [(false,[.cl (.int .i64 (0))])] AR oY
noncomputable def Cj:=aF.add 75 Pe
def An(x:(bU×Unit))(y:((Int×Unit)×(Unit×Unit)×Unit)):Prop:=gT x.1∧y.1.1=cN x.1 0∧y.1.1-cF x.1<64∧y.1.1<1000
def pY(x:(bU×Unit))(y:((Int×Unit)×(Unit×Unit)×Unit))(x':(bU×Unit))(z:((Unit×Unit)×Unit)):Prop:=gT x'.1∧fI x.1 x'.1∧cF x'.1=cF x.1∧cN x'.1 1=cN x.1 1∧cN x'.1 0=cN x.1 0+1∧aJ x'.1=aJ x.1
noncomputable def Ia:MC:=qC [true,false,false] [gp] [(false,[.int .i64]),(false,[.cl (.int .u8 (0))])] [(false,[.cl (.int .i64 (0))])] An pY
theorem I0:ab Tryz.prog 44 Hx∧ab Tryz.prog 44 Ia:=by
 refine ⟨?a,?b⟩
 case' a=>
  refine ah (cx Mx [99,84,24,89,52,128] dS Ba) Tryz.func44 (by kernel_rfl) (by kernel_rfl) fun (x:(bg×Unit)) h (y:((Int×Unit)×(Unit×Unit)×Unit)) k hf hg hp=>⟨bK,400,af (q:=Qbf x y.1.1 (∀ (va:eI) (vb:lJ) (vc:kE) (vd:lA),QaV va (K9 x) (Qbg x) (Qz lG (MO (Qbd x) (QaY va) x) lG (oY x y (jo x va) mB)))) (by kernel_rfl) ?_⟩
  delta Q7 Q6 oO lG QC Qn cR ya Qk mJ cu JY Sa Qb3 uI mB QH CP Qb1 Qb2 dD Q3j Kh Hb Qba Qz Qbc K9 Qb7 MO Qb9 K3 Qbg QaV QaZ Qbd jo QaY Qbf bH;obtain ⟨⟨(x0:Int),(l0:Int),(p0:Int),⟨⟩,⟨⟨(k0:Int),q0,⟨⟩⟩,⟨(r0:Int),s0,⟨⟩⟩,(m0:Int),⟨⟩,⟨⟩⟩,⟨⟨(n0:Int),t0,⟨⟩⟩,⟨(u0:Int),v0,⟨⟩⟩,(o0:Int),⟨⟩,⟨⟩⟩,⟨(y0:Int),z0,⟨⟩⟩,(w0:Int),⟨⟩⟩,⟨⟩⟩:=x;obtain ⟨⟨⟨⟩,⟨⟩,⟨⟩,⟨⟩,⟨⟨⟨⟩,⟨⟩,⟨⟩⟩,⟨⟨⟩,⟨⟩,⟨⟩⟩,⟨⟩,⟨⟩,⟨⟩⟩,⟨⟨⟨⟩,⟨⟩,⟨⟩⟩,⟨⟨⟩,⟨⟩,⟨⟩⟩,⟨⟩,⟨⟩,⟨⟩⟩,⟨⟨⟩,⟨⟩,⟨⟩⟩,⟨⟩,⟨⟩⟩,⟨⟩⟩:=h;obtain ⟨⟨(fr:Int),⟨⟩⟩,⟨⟨⟩,⟨⟩⟩,⟨⟩⟩:=y;obtain ⟨⟨⟨⟩,⟨⟩⟩,⟨⟨⟩,⟨⟩⟩,⟨⟩⟩:=k
  try dsimp only
  have A':=()
 case' b=>
  refine ah (cx Mx [99,84,24,89,52,128] dR Cj) Tryz.func44 (by kernel_rfl) (by kernel_rfl) fun (x:(bU×Unit)) h (y:((Int×Unit)×(Unit×Unit)×Unit)) k hf hg hp=>⟨bK,400,af (q:=GU x y.1.1 (∀ (va:eI) (vb:lJ) (vc:kE) (vd:lA),QaV va (V2 x) (Dm x) (Qz Q5e (MO (QaY va) (QaZ x) x) lG (pY x y (CL x va) mB)))) (by kernel_rfl) ?_⟩
  delta Q7 Q6 oO lG QC Qn cR ya Qk mJ cu JY Sa Qb3 uI mB QH CP Qb1 Q5e Qb2 dD Q3j Kh Hb Qba Qz Qbc Qb7 V2 MO Qb9 On Dm QaV QaZ Qbd QaY CL GU bH;obtain ⟨⟨(x0:Int),(l0:Int),(p0:Int),⟨⟩,⟨⟨(k0:Int),q0,⟨⟩⟩,⟨(r0:Int),s0,⟨⟩⟩,(m0:Int),⟨⟩,⟨⟩⟩,⟨⟨(n0:Int),t0,⟨⟩⟩,⟨(u0:Int),v0,⟨⟩⟩,(o0:Int),⟨⟩,⟨⟩⟩,⟨(y0:Int),z0,⟨⟩⟩,(w0:Int),⟨⟩⟩,⟨⟩⟩:=x;obtain ⟨⟨⟨⟩,⟨⟩,⟨⟩,⟨⟩,⟨⟨⟨⟩,⟨⟩,⟨⟩⟩,⟨⟨⟩,⟨⟩,⟨⟩⟩,⟨⟩,⟨⟩,⟨⟩⟩,⟨⟨⟨⟩,⟨⟩,⟨⟩⟩,⟨⟨⟩,⟨⟩,⟨⟩⟩,⟨⟩,⟨⟩,⟨⟩⟩,⟨⟨⟩,⟨⟩,⟨⟩⟩,⟨⟩,⟨⟩⟩,⟨⟩⟩:=h;obtain ⟨⟨(fr:Int),⟨⟩⟩,⟨⟨⟩,⟨⟩⟩,⟨⟩⟩:=y;obtain ⟨⟨⟨⟩,⟨⟩⟩,⟨⟨⟩,⟨⟩⟩,⟨⟩⟩:=k
  try dsimp only
  have B':=()
 all_goals
  obtain ⟨⟨⟨d1,d2⟩,⟨w1,w2⟩,f0,f1,hs,hF⟩,o1,o2,o3⟩:=hp;have f0:n7 k0 q0 r0 s0 m0:=f0;have f1:n7 n0 t0 u0 v0 o0:=f1;have hs:oN x0 w0 k0 y0 z0:=hs;have hF:n0=k0:=hF;have f0':=f0;have f1':=f1;obtain ⟨a1,a2,a3,a4,a5⟩:=f0';obtain ⟨b1,b2,b3,b4,b5⟩:=f1';have hs':=hs;obtain ⟨s1,s2,s3,s4,s5,s6,s7⟩:=hs';obtain ⟨s8,s9,s10,s11⟩:=s1;have d1:0≤l0:=d1;have d2:l0≤8:=d2;have w1:1≤p0:=w1;have w2:p0≤16:=w2
  first|(have:=A';have o1:fr=o0:=o1)|(have:=B';have o1:fr=m0:=o1)
  have o2:fr-k0<64:=o2;have o3:fr<1000:=o3;simp only [cl]
  first|(have:=A';refine ⟨⟨f1,o1,by omega,by omega⟩,fun x' h1 h2 h3=>?_⟩)|(have:=B';refine ⟨⟨f0,o1,by omega,by omega⟩,fun x' h1 h2 h3=>?_⟩)
  first|(have:=A';exact ⟨⟨⟨d1,d2⟩,⟨w1,w2⟩,f0,h1,hs,(by show _=_;rw [h3];exact hF)⟩,⟨rfl,rfl,rfl⟩,rfl,rfl,h2,rfl⟩)|(have:=B';exact ⟨⟨⟨d1,d2⟩,⟨w1,w2⟩,h1,f1,(by show oN _ _ _ _ _;rw [h3];exact hs),(by show _=_;rw [h3];exact hF)⟩,⟨rfl,rfl,rfl⟩,h3,rfl,h2,rfl⟩)
theorem SM:ab Tryz.prog 44 Hx:=I0.1
theorem S7:ab Tryz.prog 44 Ia:=I0.2
noncomputable def Ee:=Ba.add 44 SM
def ik(x:(bg×Unit))(y:(Unit)):Prop:=gT x.1
def eF(x:(bg×Unit))(y:(Unit))(x':(bg×Unit))(z:((Int×Unit)×Unit)):Prop:=x'.1=x.1∧z.1.1=min (min (cN x.1 0) (cN x.1 1)) (aJ x.1)-1
noncomputable def xF:MC:=qC [true] [aR] [] [(false,[.int .i64])] ik eF
abbrev Eg:Type:=eZ [(false,[Sp.cl (Lc.int IntKind.i64 (0:Int))]),(false,[Sp.cl (Lc.bool false)])]
abbrev DQ:Type:=aZ [(false,[Sp.cl (Lc.int IntKind.i64 (0:Int))]),(false,[Sp.cl (Lc.bool false)])]
def wT(a:Prop)(b:Nat)(c:Prop):Prop:=Q7 a (b=(64:Nat)) c
def JE(a:cO)(b:Int)(c:fo)(d:Int):Prop:=Q2B (wT (ga a.1.2.1 b) (Yo a.1.2) (fz a.1.2.1)) (wT (ga c.2.1 c.1) (Yo a.2.1.2) (fz c.2.1)) c.1 b (b≤d) (d≤(1000000:Int))
def Qbj(a:Int)(b:dK):Int:=if a<(min (V2 b) (K9 b)) then a else (min (V2 b) (K9 b))
noncomputable def EM:=Cj.add 44 S7
def ir(x:(bU×Unit))(y:(Unit)):Prop:=gT x.1
def eh(x:(bU×Unit))(y:(Unit))(x':(bU×Unit))(z:((Int×Unit)×Unit)):Prop:=x'.1=x.1∧z.1.1=min (min (cN x.1 0) (cN x.1 1)) (aJ x.1)-1
noncomputable def xj:MC:=qC [true] [gp] [] [(false,[.int .i64])] ir eh
theorem xk:ab Tryz.prog 39 xF∧ab Tryz.prog 39 xj:=by
 refine ⟨?a,?b⟩
 case' a=>
  refine ah (cx Mx [99,84,24,89,52,128] dS Ee) Tryz.func39 (by kernel_rfl) (by kernel_rfl) fun (x:(bg×Unit)) h (y:(Unit)) k hf hg hp=>⟨bK,400,af (q:=(QaQ lG x∧nP (x.1,()) ())∧K5 (QO (Qbj (Qba x) x)) (QaZ x) (JE (Kh x) (Qbg x) (K3 x) (K9 x)) (∀ (va:eI) (vb:lJ) (vc:DQ) (vd:Eg),Qa2 (Qn mJ mJ True JY) (va.1=Kh x) (Qz lG (MO (Qbd x) (QaY va) x) True (eF x y (jo x va) (Qg (QQ (Qbj (Qba x) x))))))) (by kernel_rfl) ?_⟩
  delta Q7 Q6 oO lG Qn cR ya mJ QJ cu Yo JY Qb3 uI Q2B CP Qi QA Qb1 Qg Q9l Ye Qb2 Kh Hb K5 Qba Qb4 Qa2 Qz QS K9 V2 wT MO QQ Qb9 QaQ K3 Qbg QaZ Qbd JE QO jo QaY Qbj bH;obtain ⟨⟨(x0:Int),(o0:Int),(q0:Int),⟨⟩,⟨⟨(n0:Int),r0,⟨⟩⟩,⟨(s0:Int),t0,⟨⟩⟩,(k0:Int),⟨⟩,⟨⟩⟩,⟨⟨(p0:Int),u0,⟨⟩⟩,⟨(v0:Int),w0,⟨⟩⟩,(l0:Int),⟨⟩,⟨⟩⟩,⟨(y0:Int),z0,⟨⟩⟩,(m0:Int),⟨⟩⟩,⟨⟩⟩:=x;obtain ⟨⟨⟨⟩,⟨⟩,⟨⟩,⟨⟩,⟨⟨⟨⟩,⟨⟩,⟨⟩⟩,⟨⟨⟩,⟨⟩,⟨⟩⟩,⟨⟩,⟨⟩,⟨⟩⟩,⟨⟨⟨⟩,⟨⟩,⟨⟩⟩,⟨⟨⟩,⟨⟩,⟨⟩⟩,⟨⟩,⟨⟩,⟨⟩⟩,⟨⟨⟩,⟨⟩,⟨⟩⟩,⟨⟩,⟨⟩⟩,⟨⟩⟩:=h;obtain ⟨⟨⟩⟩:=y;obtain ⟨⟨⟩⟩:=k
  try dsimp only
  have A':=()
 case' b=>
  refine ah (cx Mx [99,84,24,89,52,128] dR EM) Tryz.func39 (by kernel_rfl) (by kernel_rfl) fun (x:(bU×Unit)) h (y:(Unit)) k hf hg hp=>⟨bK,400,af (q:=(QaQ Q5e x∧nT (x.1,()) ())∧K5 (QO (Qbj (Qba x) x)) (Qbd x) (JE (Hb x) (Dm x) (On x) (V2 x)) (∀ (va:eI) (vb:lJ) (vc:DQ) (vd:Eg),Qa2 Sa (va.1=Hb x) (Qz Q5e (MO (QaY va) (QaZ x) x) True (eh x y (CL x va) (Qg (QQ (Qbj (Qba x) x))))))) (by kernel_rfl) ?_⟩
  delta Q7 Q6 oO lG QC cR ya mJ QJ cu Yo JY Sa Qb3 uI Q2B CP Qi QA Qb1 Qg Q9l Q5e Ye Qb2 Kh Hb K5 Qba Qb4 Qa2 Qz QS K9 V2 wT MO QQ Qb9 QaQ On Dm QaZ Qbd JE QO QaY CL Qbj bH;obtain ⟨⟨(x0:Int),(o0:Int),(q0:Int),⟨⟩,⟨⟨(n0:Int),r0,⟨⟩⟩,⟨(s0:Int),t0,⟨⟩⟩,(k0:Int),⟨⟩,⟨⟩⟩,⟨⟨(p0:Int),u0,⟨⟩⟩,⟨(v0:Int),w0,⟨⟩⟩,(l0:Int),⟨⟩,⟨⟩⟩,⟨(y0:Int),z0,⟨⟩⟩,(m0:Int),⟨⟩⟩,⟨⟩⟩:=x;obtain ⟨⟨⟨⟩,⟨⟩,⟨⟩,⟨⟩,⟨⟨⟨⟩,⟨⟩,⟨⟩⟩,⟨⟨⟩,⟨⟩,⟨⟩⟩,⟨⟩,⟨⟩,⟨⟩⟩,⟨⟨⟨⟩,⟨⟩,⟨⟩⟩,⟨⟨⟩,⟨⟩,⟨⟩⟩,⟨⟩,⟨⟩,⟨⟩⟩,⟨⟨⟩,⟨⟩,⟨⟩⟩,⟨⟩,⟨⟩⟩,⟨⟩⟩:=h;obtain ⟨⟨⟩⟩:=y;obtain ⟨⟨⟩⟩:=k
  try dsimp only
  have B':=()
 all_goals
  obtain ⟨⟨⟨d1,d2⟩,⟨w1,w2⟩,f0,f1,hs,hF⟩,_⟩:=(show gT (x0,o0,q0,(),((n0,r0,()),(s0,t0,()),k0,(),()),((p0,u0,()),(v0,w0,()),l0,(),()),(y0,z0,()),m0,())∧True from ⟨hp,trivial⟩);have f0:n7 n0 r0 s0 t0 k0:=f0;have f1:n7 p0 u0 v0 w0 l0:=f1;have hs:oN x0 m0 n0 y0 z0:=hs;have hF:p0=n0:=hF;have f0':=f0;have f1':=f1;obtain ⟨a1,a2,a3,a4,a5⟩:=f0';obtain ⟨b1,b2,b3,b4,b5⟩:=f1';have hs':=hs;obtain ⟨s1,s2,s3,s4,s5,s6,s7⟩:=hs';obtain ⟨s8,s9,s10,s11⟩:=s1;have d1:0≤o0:=d1;have d2:o0≤8:=d2;have w1:1≤q0:=w1;have w2:q0≤16:=w2;have hm:(if m0<min k0 l0 then m0 else min k0 l0)=min (min k0 l0) m0:=by rw [Int.min_def (min k0 l0)];split<;>split<;>omega
  simp only [cl];rw [hm]
  first|(have:=A';refine ⟨trivial,by simp only [aL,aT,aU];omega,f1,fun x' hx=>?_⟩)|(have:=B';refine ⟨trivial,by simp only [aL,aT,aU];omega,f0,fun x' hx=>?_⟩)
  rw [hx];exact ⟨rfl,rfl⟩
theorem IH:ab Tryz.prog 39 xF:=xk.1
theorem JT:ab Tryz.prog 39 xj:=xk.2
noncomputable def u5:=Ee.add 39 IH
def tx(x:(bg×Unit))(y:(Unit)):Prop:=gT x.1
def lE(x:(bg×Unit))(y:(Unit))(x':(bg×Unit))(z:((Unit×Unit)×(Unit×Unit)×Unit)):Prop:=x'.1=x.1
noncomputable def Cf:MC:=qC [true] [aR] [] [(false,[.cl .aj]),(false,[.cl (.int .i64 (0))])] tx lE
def CD(a:dK)(b:Prop):Prop:=Qs (QaZ a) (JE (Kh a) (Qbg a) (K3 a) (K9 a)) b
noncomputable def tH:=EM.add 39 JT
def tw(x:(bU×Unit))(y:(Unit)):Prop:=gT x.1
def lI(x:(bU×Unit))(y:(Unit))(x':(bU×Unit))(z:((Unit×Unit)×(Unit×Unit)×Unit)):Prop:=x'.1=x.1
noncomputable def AG:MC:=qC [true] [gp] [] [(false,[.cl .aj]),(false,[.cl (.int .i64 (0))])] tw lI
def AK(a:dK)(b:Prop):Prop:=Qs (Qbd a) (JE (Hb a) (Dm a) (On a) (V2 a)) b
theorem A0:ab Tryz.prog 68 Cf∧ab Tryz.prog 68 AG:=by
 refine ⟨?a,?b⟩
 case' a=>
  refine ah (cx Mx [99,84,24,89,52,128] dS u5) Tryz.func68 (by kernel_rfl) (by kernel_rfl) fun (x:(bg×Unit)) h (y:(Unit)) k hf hg hp=>⟨bK,400,af (q:=CD x (∀ (va:eI) (vb:lJ) (vc:DQ) (vd:Eg),Qa2 Sa (va.1=Kh x) (Qz lG (MO (Qbd x) (QaY va) x) lG (lE x y (jo x va) LP)))) (by kernel_rfl) ?_⟩
  delta Q7 Q6 oO lG QC Qn cR Qs ya Qk mJ cu Yo JY Sa Qb3 uI mB Q2B CP Qb1 Q9l Qb2 Kh Hb Qba LP Qa2 Qz K9 wT MO Qb9 K3 Qbg QaZ Qbd JE jo QaY CD bH;obtain ⟨⟨(x0:Int),(l0:Int),(n0:Int),⟨⟩,⟨⟨(k0:Int),o0,⟨⟩⟩,⟨(q0:Int),r0,⟨⟩⟩,(p0:Int),⟨⟩,⟨⟩⟩,⟨⟨(m0:Int),s0,⟨⟩⟩,⟨(u0:Int),v0,⟨⟩⟩,(t0:Int),⟨⟩,⟨⟩⟩,⟨(y0:Int),z0,⟨⟩⟩,(w0:Int),⟨⟩⟩,⟨⟩⟩:=x;obtain ⟨⟨⟨⟩,⟨⟩,⟨⟩,⟨⟩,⟨⟨⟨⟩,⟨⟩,⟨⟩⟩,⟨⟨⟩,⟨⟩,⟨⟩⟩,⟨⟩,⟨⟩,⟨⟩⟩,⟨⟨⟨⟩,⟨⟩,⟨⟩⟩,⟨⟨⟩,⟨⟩,⟨⟩⟩,⟨⟩,⟨⟩,⟨⟩⟩,⟨⟨⟩,⟨⟩,⟨⟩⟩,⟨⟩,⟨⟩⟩,⟨⟩⟩:=h;obtain ⟨⟨⟩⟩:=y;obtain ⟨⟨⟩⟩:=k
  try dsimp only
  have A':=()
 case' b=>
  refine ah (cx Mx [99,84,24,89,52,128] dR tH) Tryz.func68 (by kernel_rfl) (by kernel_rfl) fun (x:(bU×Unit)) h (y:(Unit)) k hf hg hp=>⟨bK,400,af (q:=AK x (∀ (va:eI) (vb:lJ) (vc:DQ) (vd:Eg),Qa2 Sa (va.1=Hb x) (Qz Q5e (MO (QaY va) (QaZ x) x) lG (lI x y (CL x va) LP)))) (by kernel_rfl) ?_⟩
  delta Q7 Q6 oO lG QC Qn cR Qs ya Qk mJ cu Yo JY Sa Qb3 uI mB Q2B CP Qb1 Q9l Q5e Qb2 Kh Hb Qba LP Qa2 Qz V2 wT MO Qb9 On Dm QaZ Qbd JE QaY CL AK bH;obtain ⟨⟨(x0:Int),(l0:Int),(n0:Int),⟨⟩,⟨⟨(k0:Int),o0,⟨⟩⟩,⟨(q0:Int),r0,⟨⟩⟩,(p0:Int),⟨⟩,⟨⟩⟩,⟨⟨(m0:Int),s0,⟨⟩⟩,⟨(u0:Int),v0,⟨⟩⟩,(t0:Int),⟨⟩,⟨⟩⟩,⟨(y0:Int),z0,⟨⟩⟩,(w0:Int),⟨⟩⟩,⟨⟩⟩:=x;obtain ⟨⟨⟨⟩,⟨⟩,⟨⟩,⟨⟩,⟨⟨⟨⟩,⟨⟩,⟨⟩⟩,⟨⟨⟩,⟨⟩,⟨⟩⟩,⟨⟩,⟨⟩,⟨⟩⟩,⟨⟨⟨⟩,⟨⟩,⟨⟩⟩,⟨⟨⟩,⟨⟩,⟨⟩⟩,⟨⟩,⟨⟩,⟨⟩⟩,⟨⟨⟩,⟨⟩,⟨⟩⟩,⟨⟩,⟨⟩⟩,⟨⟩⟩:=h;obtain ⟨⟨⟩⟩:=y;obtain ⟨⟨⟩⟩:=k
  try dsimp only
  have B':=()
 all_goals
  obtain ⟨⟨⟨d1,d2⟩,⟨w1,w2⟩,f0,f1,hs,hF⟩,_⟩:=(show gT (x0,l0,n0,(),((k0,o0,()),(q0,r0,()),p0,(),()),((m0,s0,()),(u0,v0,()),t0,(),()),(y0,z0,()),w0,())∧True from ⟨hp,trivial⟩);have f0:n7 k0 o0 q0 r0 p0:=f0;have f1:n7 m0 s0 u0 v0 t0:=f1;have hs:oN x0 w0 k0 y0 z0:=hs;have hF:m0=k0:=hF;have f0':=f0;have f1':=f1;obtain ⟨a1,a2,a3,a4,a5⟩:=f0';obtain ⟨b1,b2,b3,b4,b5⟩:=f1';have hs':=hs;obtain ⟨s1,s2,s3,s4,s5,s6,s7⟩:=hs';obtain ⟨s8,s9,s10,s11⟩:=s1;have d1:0≤l0:=d1;have d2:l0≤8:=d2;have w1:1≤n0:=w1;have w2:n0≤16:=w2;simp only [cl]
  first|(have:=A';refine ⟨f1,fun x' hx=>?_⟩)|(have:=B';refine ⟨f0,fun x' hx=>?_⟩)
  rw [hx];exact rfl
theorem LX:ab Tryz.prog 68 Cf:=A0.1
theorem KO:ab Tryz.prog 68 AG:=A0.2
noncomputable def xL:=u5.add 68 LX
def sH(x:(bg×Unit))(y:(Unit)):Prop:=gT x.1∧aJ x.1<cN x.1 0∧aJ x.1-min (cN x.1 0) (cN x.1 1)<cW x.1∧aJ x.1<490∧aJ x.1-cF x.1<60
def iL(x:(bg×Unit))(y:(Unit))(x':(bg×Unit))(z:(xv×(Unit×Unit)×Unit)):Prop:=gT x'.1∧fI x.1 x'.1∧cF x'.1=cF x.1∧z.1.1=aJ x.1∧cN x'.1 0=cN x.1 0∧cN x'.1 1=cN x.1 1∧aJ x'.1=aJ x.1+1
noncomputable def IN:MC:=qC [true] [aR] [] [(true,[.int .i64,.cl .aj]),(false,[.cl (.int .i64 (0))])] sH iL
abbrev Mc:Type:=eZ [(false,[Sp.cl (Lc.int IntKind.u8 (0:Int))]),(false,[Sp.bool])]
abbrev Nf:Type:=aZ [(false,[Sp.cl (Lc.int IntKind.u8 (0:Int))]),(false,[Sp.bool])]
abbrev CH:Type:=eZ [(true,zW),(false,[Sp.cl (Lc.bool true)])]
abbrev sV:Type:=aZ [(true,zW),(false,[Sp.cl (Lc.bool true)])]
abbrev kB:Type:=gE.T
def QbG(a b c d:Prop):Prop:=Q6 a b lG c d
def WC(a b c:Prop):Prop:=QbG a lG b c
def Qbw(a:Prop):Prop:=Q6r (Q6r a)
def WI(a:Prop):Prop:=WC lG lG a
def Gf(a:Prop):Prop:=WI (WI a)
def Wo(a:Prop):Prop:=Gf (Gf a)
def QbM:Prop:=Wo lG
def GZ:Prop:=WC lG ((32768:Int)=(32768:Int)) (WC ((3:Int)=(3:Int)) lG (WI (Wo QbM)))
def K8(a:Prop):Prop:=Qbw (Qbw a)
def Qbo(a:kB):Prop:=Ye (QA (sE a.1) (sE a.1)) (QA (sE a.2.1) (sE a.2.1))
def QbC(a b:kB)(c:e9):Prop:=cu (bH a) (bH b) (Q4o c=Q4o c) (Q4o c) (Q4o c) (Q4o c=Q4o c)
def Qbv(a:Prop):Prop:=Qbw (K8 a)
def Qbs(a:dK):List (Row vV):=(Qb3 a.1).1.2.1
def Kv(a b:Prop):Prop:=QC a True True b
def Qbp(a:dK):Prop:=Qn (a.1.1=a.1.1) (a.1.2.1=a.1.2.1) (a.1.2.2.1=a.1.2.2.1) (Kv lG (Qba a=Qba a))
def Qbq:(Int×Unit×Unit)×(Unit×Unit)×Unit:=(((0:Int),Qk),mB)
def VY(a:kB):Prop:=n7 a.1.1 a.1.2.1 a.2.1.1 a.2.1.2.1 a.2.2.1
def PT(a:eI)(b c d:Prop):Prop:=Qa2 Sa (Q7 (VY a.1) b c) d
def QbD(a:dK)(b:eL)(c d:eI)(e:e9):Prop:=iL a b (Qb9 a (c.1,d.1,e.1,Qba a,())) Qbq
def Qbt(a:Prop)(b:e9)(c:dK)(d:Int)(e:sV)(f:nM)(g:Prop):Prop:=Q9l mJ a (b.1=(Qb3 c.1).1∧xU (Qbs c) d=jc e.1.1 e.1.2.1 f) g
def Qbr(a:dK)(b:Int)(c d:Prop):Prop:=Qs (QF (Qb2 a) (Qb2 a)) (Qn (ga (Qbs a) (Qb3 a.1).1.1) (Qt b) (qH (Qbs a) (Qb3 a.1).1.1 b) c) d
def QbJ(a:dK):Int:=QH (Qba a)
def kD(a:sV)(b:nM)(c d e:Prop)(f g:eI)(i:e9)(j:Prop):Prop:=Q0 (decide ((0:Int)≤a.1.1∧a.1.1≤(1073741824:Int))) (Ql (!(decide ((1:Int)≤b∧b≤(600:Int)))) c d) (Qz e (QbC f.1 g.1 i) CW j)
def Nb:Prop:=Q7 lG ((-2147483648:Int)≤(61440:Int)) ((61440:Int)≤(2147483647:Int))
def QbQ(a b:Prop):Prop:=RA ((-3932160:Int)≤(0:Int)) ((0:Int)≤(3932160:Int)) a b ((-2147483648:Int)≤(0:Int)) ((0:Int)≤(2147483647:Int))
def QbE(a:sV)(b c:Prop)(d:nM)(e:Prop):Prop:=QK (!(decide (a.1.1≤(1073741824:Int)))) b CW c (Qn Nb Nb lG (Q6 (Q6 lG lG ((-3932160:Int)≤(-2097152:Int)) ((-2097152:Int)≤(3932160:Int)) (QbQ ((-2147483648:Int)≤(-2097152:Int)) ((-2097152:Int)≤(2147483647:Int)))) Nb Nb lG (Q1a (Q6 lG lG ((-3932160:Int)≤(2097152:Int)) ((2097152:Int)≤(3932160:Int)) (QbQ ((-2147483648:Int)≤(2097152:Int)) ((2097152:Int)≤(2147483647:Int)))) (Qz ((-4194304:Int)≤(-2097152:Int)) ((-2097152:Int)≤(4194304:Int)) (((-4194304:Int)≤(0:Int))∧((0:Int)≤(4194304:Int))) (RA (((-4194304:Int)≤(262144:Int))∧((262144:Int)≤(4194304:Int))) (((-4194304:Int)≤(2097152:Int))∧((2097152:Int)≤(4194304:Int))) ((-4194304:Int)≤(0:Int)) ((0:Int)≤(4194304:Int)) ((-4194304:Int)≤(262144:Int)) ((262144:Int)≤(4194304:Int)))) (aL IntKind.i64 (d-(1:Int))) (decide ((0:Int)<(d-(1:Int)))) (QR (DJ a.1.1) e) False)))
def Qbx(a:dK):Prop:=Qba a≤(1000000:Int)
def QbB(a:nM):Bool:=a==(1073741824:Int)
def E9:Prop:=(2097152:Int)=(2097152:Int)
noncomputable def xo:=tH.add 68 KO
def rH(x:(bU×Unit))(y:(Unit)):Prop:=gT x.1∧aJ x.1<cN x.1 1∧aJ x.1-min (cN x.1 0) (cN x.1 1)<cW x.1∧aJ x.1<490∧aJ x.1-cF x.1<60
def iE(x:(bU×Unit))(y:(Unit))(x':(bU×Unit))(z:(xv×(Unit×Unit)×Unit)):Prop:=gT x'.1∧fI x.1 x'.1∧cF x'.1=cF x.1∧z.1.1=aJ x.1∧cN x'.1 1=cN x.1 1∧cN x'.1 0=cN x.1 0∧aJ x'.1=aJ x.1+1
noncomputable def HH:MC:=qC [true] [gp] [] [(true,[.int .i64,.cl .aj]),(false,[.cl (.int .i64 (0))])] rH iE
def QbT:Prop:=QbG lG ((-2097152:Int)=(-2097152:Int)) lG (Q2B lG lG (3:Int) (3:Int) lG (WC lG ((2097152:Int)=(2097152:Int)) GZ))
def QbR(a:dK):Prop:=Qn (a.1.1=a.1.1) (a.1.2.1=a.1.2.1) (a.1.2.2.1=a.1.2.2.1) (Kv Q5e (Qba a=Qba a))
def QbS(a:dK)(b:eL)(c d:eI)(e:e9):Prop:=iE a b (Qb9 a (c.1,d.1,e.1,Qba a,())) Qbq
theorem Sr:ab Tryz.prog 77 IN:=by
 refine ah (cx Mx [99,84,24,89,52,128,139,203,252,287,288,293,253,260,254,255,256,257,291,292,308,310,195,132,197,198,250,134,200] dS xL) Tryz.func77 (by kernel_rfl) (by kernel_rfl) fun (x:(bg×Unit)) h (y:(Unit)) k hf hg hp=>⟨(fun bk=>match bk with|700006=>some {S:=Nat,st:=fun s=>⟨[.v (.one (.ptr 0 0))],[]⟩,ok:=fun s=>True,mu:=fun s=>0,init:=0}|_=>none),4000,af (q:=CD x (∀ (va:eI) (vb:lJ) (vc:DQ) (vd:Eg),Qa2 Sa (va.1=Kh x) (Qn (Q2d lG (DF x) (Qbo va.1) (QA (Qb2 x) (Qb2 x)) (rV ((x.1.1,x.1.2.1,x.1.2.2.1,(),Hb x,va.1,(Qb3 x.1).1,Qba x,()),()) ())) (Qbp x) (Q4 (Ra x.1.2.2.1 (Qba x) (min (V2 x) va.1.2.2.1)) (Q1a (Qbp x) (DF x∧om (Hb x,())) (Qbp x) (decide ((V2 x)≤(Qba x))) (Qz lG (MO (Qbd x) (QaY va) x) dU (iL x y (jo x va) Qbq)) (Qbr x (Qba x) (∃ (ve:Int),∃ (vf:Int),∃ (vg:Int),xU (Qbs x) (Qba x)=jc ve vf vg) (∀ (ve:e9) (vf:lR) (vg:sV) (vi:CH),Qbt (Q2l (Q6r (mV (K8 (Qbv (Qbw Q6q)))))) ve x (Qba x) vg vg.1.2.2.2.1 (Qs (Qbd x) (Q7 (n7 (Dm x) (Hb x).1.2.1 (On x).1 (On x).2.1 (V2 x)) (Dm x≤Qba x) (Qbx x)) (∀ (vj:eI) (vl:lJ) (vm:Nf) (vn:Mc),PT vj (vj.1.2.2.1=V2 x) (vj.1.1.1=Dm x) (Qs (QaY va) (Q7 (VY va.1) (va.1.1.1≤Qba x) (Qbx x)) (∀ (vo:eI) (vp:lJ) (vq:Nf) (vr:Mc),PT vo (vo.1.2.2.1=va.1.2.2.1) (vo.1.1.1=va.1.1.1) (kD vg vg.1.2.2.2.1 (QK (QbB vg.1.1) (lG∧QbC vj.1 vo.1 ve) (oO (5:Int)) (QbD x y vj vo ve) (Q0 (decide ((0:Int)≤vg.1.1)) (QbE vg (lG∧QbC vj.1 vo.1 ve) (QbD x y vj vo ve) vg.1.2.2.2.1 (RA (QE (Qba x)) (PE ve) lG (WC ((-2097152:Int)=(-2097152:Int)) lG (QbG lG ((3:Int)=(3:Int)) lG (Qbc lG E9 GZ))) (Q7 (ga ve.1.2.1 ve.1.1) (Qt (QbJ x)) (qH ve.1.2.1 ve.1.1 (QbJ x))) (∀ (vs:e9) (vt:lR) (vu:kE) (vw:lA),Q2Z (vs.1.1=ve.1.1∧vs.1.2.1=List.set ve.1.2.1 (Qp (QbJ x) (Q4o ve)) (jc (RP vg.1.1) vg.1.2.1 (vg.1.2.2.2.1-(1:Int)))) (Q5d (QE (Qba x)) lG (QbC vj.1 vo.1 vs) lG (iL x y (Qb9 x (vj.1,vo.1,vs.1,QbJ x,())) ((Qba x,Qk),mB)))))) (Qz lG (QbC vj.1 vo.1 ve) CW (QbD x y vj vo ve)))) (Qz lG (QbC vj.1 vo.1 ve) CW (QbD x y vj vo ve)) lG vj vo ve (QbD x y vj vo ve)))))))))) (Q3 (Ra x.1.2.2.1 (Qba x) (min (V2 x) va.1.2.2.1)) (RA (Qbp x) (Qbp x) lG (MO (Qbd x) (QaY va) x) dU (iL x y (jo x va) Qbq)))))) (by kernel_rfl) ?_⟩
 delta Q7 Q6 oO lG QC Qn Yy Q6r QbG WC WI cR Qs Q3 ya Qr Gf mV Qk mJ Q4 QJ cu Yo Q4s Q6q JY Q0 Sa Qb3 Q4o Wo uI mB Q2B Qbw QH CP QF QK Qi Qh QA Qb1 sE Qp Q9l QbM GZ Ye Qt Qb2 dD Q3j K8 Kh QE Hb Ql Qba Q5d RP RA Q2d Qb4 Q2l Qa2 Q2Z Qbo Qz Qbc QbC Q1a QR Qbv K9 CW Ra V2 DJ wT Kv MO Qb9 K3 Qbg On Dm Qbs Nb Qbp Qbq VY PT QaZ Qbd JE QbD Qbt Qbr QbJ jo QaY DF kD PE dU QbQ QbE CD om Qbx QbB E9 bH;obtain ⟨⟨(r0:Int),(s0:Int),(p0:Int),⟨⟩,⟨⟨(q0:Int),u0,⟨⟩⟩,⟨(v0:Int),w0,⟨⟩⟩,(m0:Int),⟨⟩,⟨⟩⟩,⟨⟨(t0:Int),x0,⟨⟩⟩,⟨(y0:Int),z0,⟨⟩⟩,(o0:Int),⟨⟩,⟨⟩⟩,⟨(n0:Int),l0,⟨⟩⟩,(k0:Int),⟨⟩⟩,⟨⟩⟩:=x;obtain ⟨⟨⟨⟩,⟨⟩,⟨⟩,⟨⟩,⟨⟨⟨⟩,⟨⟩,⟨⟩⟩,⟨⟨⟩,⟨⟩,⟨⟩⟩,⟨⟩,⟨⟩,⟨⟩⟩,⟨⟨⟨⟩,⟨⟩,⟨⟩⟩,⟨⟨⟩,⟨⟩,⟨⟩⟩,⟨⟩,⟨⟩,⟨⟩⟩,⟨⟨⟩,⟨⟩,⟨⟩⟩,⟨⟩,⟨⟩⟩,⟨⟩⟩:=h;obtain ⟨⟨⟩⟩:=y;obtain ⟨⟨⟩⟩:=k
 try dsimp only
 obtain ⟨⟨⟨d1,d2⟩,⟨w1,w2⟩,f0,f1,hs,hF⟩,o1,o2,o3,o4⟩:=hp;have f0:n7 q0 u0 v0 w0 m0:=f0;have f1:n7 t0 x0 y0 z0 o0:=f1;have hs:oN r0 k0 q0 n0 l0:=hs;have hF:t0=q0:=hF;have f0':=f0;have f1':=f1;obtain ⟨a1,a2,a3,a4,a5⟩:=f0';obtain ⟨b1,b2,b3,b4,b5⟩:=f1';have hs':=hs;obtain ⟨s1,s2,s3,s4,s5,s6,s7⟩:=hs';obtain ⟨s8,s9,s10,s11⟩:=s1;have d1:0≤s0:=d1;have d2:s0≤8:=d2;have w1:1≤p0:=w1;have w2:p0≤16:=w2;have o1:k0<m0:=o1;have o2:k0-min m0 o0<p0:=o2;have o3:k0<490:=o3;have o4:k0-q0<60:=o4;have hfull: ¬p0≤k0-min m0 o0:=by omega
 simp only [cl];refine ⟨f1,fun x hx=>?_⟩;simp only [hx];have hw:=s7 k0 s4 (Int.le_refl _);have hin:qH l0 n0 k0:=⟨by omega,by omega,by omega⟩
 refine ⟨(show 0≤k0∧k0≤1000000∧0≤m0∧0≤o0∧m0≤1000000∧o0≤1000000 from by omega),fun _=>⟨trivial,fun h=>absurd h (by omega),fun _=>⟨⟨⟨s8,s9,s10,s11⟩,by omega,hin,_,_,_,hw⟩,fun y z hy hz=>⟨⟨f0,by omega,by omega⟩,fun p hp1 hp2 hp3=>⟨⟨f1,(show t0≤k0 from by omega),by omega⟩,fun q hq1 hq2 hq3=>?_⟩⟩⟩⟩,fun h=>absurd h hfull⟩
 obtain ⟨e1,e2,e3⟩:=FU (hw.symm.trans hz);simp only [hy,←e1,←e2,←e3];have t1:0≤k0:=by omega
 have t2:k0≤1073741824:=by omega
 have t3: ¬k0=1073741824:=by omega
 have t4:1≤600-k0:=by omega
 have t5:600-k0≤600:=by omega
 have t6:0<600-k0-1:=by omega
 simp only [t1,t2,t3,t4,t5,t6,eq_self_iff_true,true_and,and_true,and_self,and_imp,true_implies,implies_true,forall_const,List.take_length,decide_eq_true_eq,decide_eq_false_iff_not,beq_iff_eq,beq_eq_false_iff_ne,bne_iff_ne,bne_eq_false_iff_eq,Bool.not_eq_true',Bool.not_eq_false',ne_eq,not_true_eq_false,not_false_eq_true,show (OfNat.ofNat (0:Nat):Int)=0 from rfl,Int.toNat_natCast,false_implies,not_true,not_false_eq_true,Bool.true_eq_false,Bool.false_eq_true];have hin2:qH l0 n0 (k0+1):=⟨by omega,by omega,by omega⟩
 have hpre:(ga l0 n0∧0≤k0+1∧qH l0 n0 (k0+1)):=⟨⟨s8,s9,s10,s11⟩,by omega,hin2⟩
 have hput:=Z8 hs (by omega) (by omega)
 have hpost: ∀ (x':Sp.Ts [gw]),x'.fst.fst=n0→x'.fst.snd.fst=List.set l0 ((k0+1).tmod (List.length l0)).toNat (jc (k0+1) r0 (600-k0-1))→aL IntKind.i64 (k0+1)∧iL ((r0,s0,p0,(),((q0,u0,()),(v0,w0,()),m0,(),()),((t0,x0,()),(y0,z0,()),o0,(),()),(n0,l0,()),k0,()),()) () ((r0,s0,p0,(),((p.fst.fst.fst,p.fst.fst.snd.fst,()),(p.fst.snd.fst.fst,p.fst.snd.fst.snd.fst,()),p.fst.snd.snd.fst,(),()),((q.fst.fst.fst,q.fst.fst.snd.fst,()),(q.fst.snd.fst.fst,q.fst.snd.fst.snd.fst,()),q.fst.snd.snd.fst,(),()),(x'.fst.fst,x'.fst.snd.fst,()),k0+1,()),()) ((k0,(),()),((),()),()):=fun x' g1 g2=>by
  refine ⟨by simp only [aL,aT,aU];omega,⟨⟨d1,d2⟩,⟨w1,w2⟩,hp1,hq1,?_,?_⟩,⟨rfl,rfl,rfl⟩,hp3,rfl,hp2,hq2,rfl⟩
  ·show oN r0 (k0+1) p.fst.fst.fst x'.fst.fst x'.fst.snd.fst;rw [g1,g2,hp3];exact hput
  ·show q.fst.fst.fst=p.fst.fst.fst;rw [hp3,hq3];exact hF
 (repeat' (first|exact hpre|exact hpost|(refine And.intro ?_ ?_)|intro _))
 all_goals first|(exact absurd (show k0=(1073741824:Int) by assumption) (by omega))|(exfalso;omega)|omega|trivial|rfl|(simp only [aL,aT,aU];omega)|exact hpre|exact hpost
theorem Tu:ab Tryz.prog 77 HH:=by
 refine ah (cx Mx [99,84,24,89,52,128,139,203,252,287,288,293,253,260,254,255,256,257,291,292,308,310,195,132,197,198,250,134,200] dR xo) Tryz.func77 (by kernel_rfl) (by kernel_rfl) fun (x:(bU×Unit)) h (y:(Unit)) k hf hg hp=>⟨(fun bk=>match bk with|700006=>some {S:=Nat,st:=fun s=>⟨[.v (.one (.ptr 0 0))],[]⟩,ok:=fun s=>True,mu:=fun s=>0,init:=0}|_=>none),4000,af (q:=AK x (∀ (va:eI) (vb:lJ) (vc:DQ) (vd:Eg),Qa2 Sa (va.1=Hb x) (lN (cu Q5e (Qbo va.1) (Qb4 (Kh x)) (Qb2 x) (Qb2 x) QJ) (sN ((x.1.1,x.1.2.1,x.1.2.2.1,(),va.1,Kh x,(Qb3 x.1).1,Qba x,()),()) ()) (QbR x) (Q4 (decide (x.1.2.2.1≤(Qba x-min va.1.2.2.1 (K9 x)))) (Q1a (QbR x) (Qb4 (Kh x)∧om (Kh x,())) (QbR x) (decide ((K9 x)≤(Qba x))) (Qz Q5e (MO (QaY va) (QaZ x) x) dU (iE x y (CL x va) Qbq)) (Qbr x (Qba x) (∃ (ve:Int),∃ (vf:Int),∃ (vg:Int),xU (Qbs x) (Qba x)=jc ve vf vg) (∀ (ve:e9) (vf:lR) (vg:sV) (vi:CH),Qbt (K8 (K8 (K8 (Qbw Q6q)))) ve x (Qba x) vg vg.1.2.2.2.1 (Qs (QaY va) (Q7 (VY va.1) (va.1.1.1≤Qba x) (Qbx x)) (∀ (vj:eI) (vl:lJ) (vm:Nf) (vn:Mc),PT vj (vj.1.2.2.1=va.1.2.2.1) (vj.1.1.1=va.1.1.1) (Qs (QaZ x) (Q7 (n7 (Qbg x) (Kh x).1.2.1 (K3 x).1 (K3 x).2.1 (K9 x)) (Qbg x≤Qba x) (Qbx x)) (∀ (vo:eI) (vp:lJ) (vq:Nf) (vr:Mc),PT vo (vo.1.2.2.1=K9 x) (vo.1.1.1=Qbg x) (kD vg vg.1.2.2.2.1 (QK (QbB vg.1.1) (Q5e∧QbC vj.1 vo.1 ve) (oO (5:Int)) (QbS x y vj vo ve) (Q0 (decide ((0:Int)≤vg.1.1)) (QbE vg (Q5e∧QbC vj.1 vo.1 ve) (QbS x y vj vo ve) vg.1.2.2.2.1 (Q6 (QE (Qba x)) (PE ve) QbT (Q7 (ga ve.1.2.1 ve.1.1) (Qt (QbJ x)) (qH ve.1.2.1 ve.1.1 (QbJ x))) (∀ (vs:e9) (vt:lR) (vu:kE) (vw:lA),Q2Z (vs.1.1=ve.1.1∧vs.1.2.1=List.set ve.1.2.1 (Qp (QbJ x) (Q4o ve)) (jc (RP vg.1.1) vg.1.2.1 (vg.1.2.2.2.1-(1:Int)))) (Q5d (QE (Qba x)) Q5e (QbC vj.1 vo.1 vs) lG (iE x y (Qb9 x (vj.1,vo.1,vs.1,QbJ x,())) ((Qba x,Qk),mB)))))) (Qz Q5e (QbC vj.1 vo.1 ve) CW (QbS x y vj vo ve)))) (Qz Q5e (QbC vj.1 vo.1 ve) CW (QbS x y vj vo ve)) Q5e vj vo ve (QbS x y vj vo ve)))))))))) (Q3 (decide (x.1.2.2.1≤(Qba x-min va.1.2.2.1 (K9 x)))) (RA (QbR x) (QbR x) Q5e (MO (QaY va) (QaZ x) x) dU (iE x y (CL x va) Qbq)))))) (by kernel_rfl) ?_⟩
 delta Q7 Q6 oO lG QC Qn Yy Q6r QbG WC WI cR Qs Q3 ya Gf Qk mJ Q4 QJ cu Yo Q4s Q6q JY Q0 Sa Qb3 Q4o Wo uI mB Q2B Qbw QH CP QF QK Qi Qh QA Qb1 sE Qp Q9l Q5e QbM GZ QbT Ye Qt Qb2 dD Q3j K8 Kh QE Hb Ql Qba Q5d RP RA Qb4 Qa2 Q2Z Qbo Qz QbC Q1a QR K9 CW V2 DJ wT Kv MO Qb9 K3 Qbg On Dm Qbs Nb QbR Qbq VY PT lN QaZ Qbd JE QbS Qbt Qbr QbJ QaY CL kD PE dU QbQ QbE AK om Qbx QbB bH;obtain ⟨⟨(r0:Int),(s0:Int),(p0:Int),⟨⟩,⟨⟨(q0:Int),u0,⟨⟩⟩,⟨(v0:Int),w0,⟨⟩⟩,(o0:Int),⟨⟩,⟨⟩⟩,⟨⟨(t0:Int),x0,⟨⟩⟩,⟨(y0:Int),z0,⟨⟩⟩,(m0:Int),⟨⟩,⟨⟩⟩,⟨(n0:Int),l0,⟨⟩⟩,(k0:Int),⟨⟩⟩,⟨⟩⟩:=x;obtain ⟨⟨⟨⟩,⟨⟩,⟨⟩,⟨⟩,⟨⟨⟨⟩,⟨⟩,⟨⟩⟩,⟨⟨⟩,⟨⟩,⟨⟩⟩,⟨⟩,⟨⟩,⟨⟩⟩,⟨⟨⟨⟩,⟨⟩,⟨⟩⟩,⟨⟨⟩,⟨⟩,⟨⟩⟩,⟨⟩,⟨⟩,⟨⟩⟩,⟨⟨⟩,⟨⟩,⟨⟩⟩,⟨⟩,⟨⟩⟩,⟨⟩⟩:=h;obtain ⟨⟨⟩⟩:=y;obtain ⟨⟨⟩⟩:=k
 try dsimp only
 obtain ⟨⟨⟨d1,d2⟩,⟨w1,w2⟩,f0,f1,hs,hF⟩,o1,o2,o3,o4⟩:=hp;have f0:n7 q0 u0 v0 w0 o0:=f0;have f1:n7 t0 x0 y0 z0 m0:=f1;have hs:oN r0 k0 q0 n0 l0:=hs;have hF:t0=q0:=hF;have f0':=f0;have f1':=f1;obtain ⟨a1,a2,a3,a4,a5⟩:=f0';obtain ⟨b1,b2,b3,b4,b5⟩:=f1';have hs':=hs;obtain ⟨s1,s2,s3,s4,s5,s6,s7⟩:=hs';obtain ⟨s8,s9,s10,s11⟩:=s1;have d1:0≤s0:=d1;have d2:s0≤8:=d2;have w1:1≤p0:=w1;have w2:p0≤16:=w2;have o1:k0<m0:=o1;have o2:k0-min o0 m0<p0:=o2;have o3:k0<490:=o3;have o4:k0-q0<60:=o4;have hfull: ¬p0≤k0-min o0 m0:=by omega
 simp only [cl];refine ⟨f0,fun x hx=>?_⟩;simp only [hx];have hw:=s7 k0 s4 (Int.le_refl _);have hin:qH l0 n0 k0:=⟨by omega,by omega,by omega⟩
 refine ⟨(show 0≤k0∧k0≤1000000∧0≤o0∧0≤m0∧o0≤1000000∧m0≤1000000 from by omega),fun _=>⟨trivial,fun h=>absurd h (by omega),fun _=>⟨⟨⟨s8,s9,s10,s11⟩,by omega,hin,_,_,_,hw⟩,fun y z hy hz=>⟨⟨f0,by omega,by omega⟩,fun p hp1 hp2 hp3=>⟨⟨f1,(show t0≤k0 from by omega),by omega⟩,fun q hq1 hq2 hq3=>?_⟩⟩⟩⟩,fun h=>absurd h hfull⟩
 obtain ⟨e1,e2,e3⟩:=FU (hw.symm.trans hz);simp only [hy,←e1,←e2,←e3];have t1:0≤k0:=by omega
 have t2:k0≤1073741824:=by omega
 have t3: ¬k0=1073741824:=by omega
 have t4:1≤600-k0:=by omega
 have t5:600-k0≤600:=by omega
 have t6:0<600-k0-1:=by omega
 simp only [t1,t2,t3,t4,t5,t6,eq_self_iff_true,true_and,and_true,and_self,and_imp,true_implies,implies_true,forall_const,List.take_length,decide_eq_true_eq,decide_eq_false_iff_not,beq_iff_eq,beq_eq_false_iff_ne,bne_iff_ne,bne_eq_false_iff_eq,Bool.not_eq_true',Bool.not_eq_false',ne_eq,not_true_eq_false,not_false_eq_true,show (OfNat.ofNat (0:Nat):Int)=0 from rfl,Int.toNat_natCast,false_implies,not_true,not_false_eq_true,Bool.true_eq_false,Bool.false_eq_true];have hin2:qH l0 n0 (k0+1):=⟨by omega,by omega,by omega⟩
 have hpre:(ga l0 n0∧0≤k0+1∧qH l0 n0 (k0+1)):=⟨⟨s8,s9,s10,s11⟩,by omega,hin2⟩
 have hput:=Z8 hs (by omega) (by omega)
 have hpost: ∀ (x':Sp.Ts [gw]),x'.fst.fst=n0→x'.fst.snd.fst=List.set l0 ((k0+1).tmod (List.length l0)).toNat (jc (k0+1) r0 (600-k0-1))→aL IntKind.i64 (k0+1)∧iE ((r0,s0,p0,(),((q0,u0,()),(v0,w0,()),o0,(),()),((t0,x0,()),(y0,z0,()),m0,(),()),(n0,l0,()),k0,()),()) () ((r0,s0,p0,(),((p.fst.fst.fst,p.fst.fst.snd.fst,()),(p.fst.snd.fst.fst,p.fst.snd.fst.snd.fst,()),p.fst.snd.snd.fst,(),()),((q.fst.fst.fst,q.fst.fst.snd.fst,()),(q.fst.snd.fst.fst,q.fst.snd.fst.snd.fst,()),q.fst.snd.snd.fst,(),()),(x'.fst.fst,x'.fst.snd.fst,()),k0+1,()),()) ((k0,(),()),((),()),()):=fun x' g1 g2=>by
  refine ⟨by simp only [aL,aT,aU];omega,⟨⟨d1,d2⟩,⟨w1,w2⟩,hp1,hq1,?_,?_⟩,⟨rfl,rfl,rfl⟩,hp3,rfl,hq2,hp2,rfl⟩
  ·show oN r0 (k0+1) p.fst.fst.fst x'.fst.fst x'.fst.snd.fst;rw [g1,g2,hp3];exact hput
  ·show q.fst.fst.fst=p.fst.fst.fst;rw [hp3,hq3];exact hF
 (repeat' (first|exact hpre|exact hpost|(refine And.intro ?_ ?_)|intro _))
 all_goals first|(exact absurd (show k0=(1073741824:Int) by assumption) (by omega))|(exfalso;omega)|omega|trivial|rfl|(simp only [aL,aT,aU];omega)|exact hpre|exact hpost
noncomputable def DT:=xL.add 77 Sr
def Bi(x:(bg×Unit))(y:((Int×Unit)×Unit)):Prop:=gT x.1∧y.1.1=min (min (cN x.1 0) (cN x.1 1)) (aJ x.1)-1
def oR(x:(bg×Unit))(y:((Int×Unit)×Unit))(x':(bg×Unit))(z:((Int×Unit)×Unit)):Prop:=gT x'.1∧fI x.1 x'.1∧cF x'.1=(if y.1.1<cF x.1 then cF x.1 else y.1.1)∧cN x'.1 0=cN x.1 0∧cN x'.1 1=cN x.1 1∧aJ x'.1=aJ x.1
noncomputable def Iu:MC:=qC [true,false] [aR] [(false,[.int .i64])] [(false,[.int .i64])] Bi oR
abbrev Bm:Type:=Sp.Hs [aR]
abbrev jn:Type:=Sp.Ts [aR]
abbrev G8:Type:=aR.T
abbrev a01:Type:=Sp.Ts [gw,Sp.int IntKind.i64]
def Ru(a:G8):Nat:=Q4s a.2.2.2.2.2.2.1.2
def Xy(a:jn):kB:=a.1.2.2.2.2.2.1
def Qc0(a:G8):a01:=a.2.2.2.2.2.2
def QbV(a:jn):kB:=a.1.2.2.2.2.1
def QbW(a:eI)(b:kB)(c:mF)(d:ky)(e:Prop):Prop:=Qb7 a (a.1.2.2.1=b.2.2.1) (a.1.1.1=(if (min (if (RP c.1.1)<d.1.1 then (RP c.1.1) else d.1.1) b.2.2.1)<b.1.1 then b.1.1 else (min (if (RP c.1.1)<d.1.1 then (RP c.1.1) else d.1.1) b.2.2.1))) e
def Qc1:Prop:=Q6r (QC Sa Sa mJ True)
def QbU(a:Prop)(b:mF)(c:kB)(d e:Prop):Prop:=Q3j Qc1 a (K5 (DJ b.1.1) (bH c) (Q6 (wT (ga c.1.2.1 c.1.1) (sE c.1) (fz c.1.2.1)) (wT (ga c.2.1.2.1 c.2.1.1) (sE c.2.1) (fz c.2.1.2.1)) d (c.1.1≤c.2.2.1) (c.2.2.1≤(1000000:Int))) e)
def Rf(a:kB):Prop:=Q6 (wT (ga a.1.2.1 a.1.1) (sE a.1) (fz a.1.2.1)) (wT (ga a.2.1.2.1 a.2.1.1) (sE a.2.1) (fz a.2.1.2.1)) (a.2.1.1=a.1.1) (a.1.1≤a.2.2.1) (a.2.2.1≤(1000000:Int))
noncomputable def Dy:=xo.add 77 Tu
def C5(x:(bU×Unit))(y:((Int×Unit)×Unit)):Prop:=gT x.1∧y.1.1=min (min (cN x.1 0) (cN x.1 1)) (aJ x.1)-1
def pc(x:(bU×Unit))(y:((Int×Unit)×Unit))(x':(bU×Unit))(z:((Int×Unit)×Unit)):Prop:=gT x'.1∧fI x.1 x'.1∧cF x'.1=(if y.1.1<cF x.1 then cF x.1 else y.1.1)∧cN x'.1 1=cN x.1 1∧cN x'.1 0=cN x.1 0∧aJ x'.1=aJ x.1
noncomputable def Hk:MC:=qC [true,false] [gp] [(false,[.int .i64])] [(false,[.int .i64])] C5 pc
abbrev BY:Type:=Sp.Hs [aR]
abbrev Cb:Type:=Sp.Ts [aR]
def Qc4(a:G8):Nat:=Q4s a.2.2.2.2.2.2.1.2
def Qc3(a:jn):kB:=a.1.2.2.2.2.2.1
def Qc6(a:G8):kB:=a.2.2.2.2.1
def Qc2(a:jn):kB:=Qc6 a.1
def Qc5(a:G8):a01:=a.2.2.2.2.2.2
theorem J9:ab Tryz.prog 38 Iu∧ab Tryz.prog 38 Hk:=by
 refine ⟨?a,?b⟩
 case' a=>
  refine ah (cx Mx [99,84,24,89,52,128] dS DT) Tryz.func38 (by kernel_rfl) (by kernel_rfl) fun (x:(bg×Unit)) h (y:((Int×Unit)×Unit)) k hf hg hp=>⟨bK,400,af (q:=Qs (bq x.1) (ik (x.1,()) ()) (∀ (va:jn) (vb:Bm) (vc:mF) (vd:fU),QbU (eF (x.1,()) () va vc) vc (QbV va) ((QbV va).2.1.1=(QbV va).1.1) (∀ (ve:eI) (vf:lJ) (vg:mF) (vi:fU),QbW ve (QbV va) vc y (Qs (bH (Xy va)) (Rf (Xy va)) (∀ (vj:eI) (vl:lJ) (vm:mF) (vn:fU),QbW vj (Xy va) vc y (Qs (QF (Ru va.1) (Ru va.1)) (Qn (D7 (Ru va.1)) (fW (Ru va.1)) ((0:Int)≤(Qc0 va.1).1.1) ((Qc0 va.1).1.1≤(1073741824:Int))) (∀ (vo:e9) (vp:lR) (vq:mF) (vr:fU),Q2Z (ga vo.1.2.1 vo.1.1∧mvd zS (Qc0 va.1).1.2.1 vo.1.2.1 (Qc0 va.1).1.1 vo.1.1 (if (RP vc.1.1)<y.1.1 then (RP vc.1.1) else y.1.1)) (Qz lG (QbC ve.1 vj.1 vo) True (oR x y ((va.1.1,va.1.2.1,va.1.2.2.1,(),ve.1,vj.1,vo.1,(Qc0 va.1).2.1,()),()) (Zt vq)))))))))) (by kernel_rfl) ?_⟩
  delta Q7 Q6 oO lG QC Qn Yy Q6r cR Qs ya mJ cu Q4s JY Sa Q4o uI Qc1 QF sE dD Q3j K5 RP Q2Z Qz Ru QbC Qb7 fW DJ wT Xy Qc0 QbV QbW D7 Zt QbU Rf bq bH;obtain ⟨⟨(x0:Int),(o0:Int),(q0:Int),⟨⟩,⟨⟨(n0:Int),r0,⟨⟩⟩,⟨(s0:Int),t0,⟨⟩⟩,(l0:Int),⟨⟩,⟨⟩⟩,⟨⟨(p0:Int),u0,⟨⟩⟩,⟨(v0:Int),w0,⟨⟩⟩,(m0:Int),⟨⟩,⟨⟩⟩,⟨(y0:Int),z0,⟨⟩⟩,(k0:Int),⟨⟩⟩,⟨⟩⟩:=x;obtain ⟨⟨⟨⟩,⟨⟩,⟨⟩,⟨⟩,⟨⟨⟨⟩,⟨⟩,⟨⟩⟩,⟨⟨⟩,⟨⟩,⟨⟩⟩,⟨⟩,⟨⟩,⟨⟩⟩,⟨⟨⟨⟩,⟨⟩,⟨⟩⟩,⟨⟨⟩,⟨⟩,⟨⟩⟩,⟨⟩,⟨⟩,⟨⟩⟩,⟨⟨⟩,⟨⟩,⟨⟩⟩,⟨⟩,⟨⟩⟩,⟨⟩⟩:=h;obtain ⟨⟨(fr:Int),⟨⟩⟩,⟨⟩⟩:=y;obtain ⟨⟨⟨⟩,⟨⟩⟩,⟨⟩⟩:=k
  try dsimp only
  have A':=()
 case' b=>
  refine ah (cx Mx [99,84,24,89,52,128] dR Dy) Tryz.func38 (by kernel_rfl) (by kernel_rfl) fun (x:(bU×Unit)) h (y:((Int×Unit)×Unit)) k hf hg hp=>⟨bK,400,af (q:=Qs (bF x.1) (ir (x.1,()) ()) (∀ (va:Cb) (vb:BY) (vc:mF) (vd:fU),QbU (eh (x.1,()) () va vc) vc (Qc2 va) ((Qc2 va).2.1.1=(Qc2 va).1.1) (∀ (ve:eI) (vf:lJ) (vg:mF) (vi:fU),QbW ve (Qc2 va) vc y (Qs (bH (Qc3 va)) (Rf (Qc3 va)) (∀ (vj:eI) (vl:lJ) (vm:mF) (vn:fU),QbW vj (Qc3 va) vc y (Qs (QF (Qc4 va.1) (Qc4 va.1)) (Qn (D7 (Qc4 va.1)) (fW (Qc4 va.1)) ((0:Int)≤(Qc5 va.1).1.1) ((Qc5 va.1).1.1≤(1073741824:Int))) (∀ (vo:e9) (vp:lR) (vq:mF) (vr:fU),Q2Z (ga vo.1.2.1 vo.1.1∧mvd zS (Qc5 va.1).1.2.1 vo.1.2.1 (Qc5 va.1).1.1 vo.1.1 (if (RP vc.1.1)<y.1.1 then (RP vc.1.1) else y.1.1)) (Qz Q5e (QbC ve.1 vj.1 vo) True (pc x y ((va.1.1,va.1.2.1,va.1.2.2.1,(),ve.1,vj.1,vo.1,(Qc5 va.1).2.1,()),()) (Zt vq)))))))))) (by kernel_rfl) ?_⟩
  delta Q7 Q6 QC Qn Yy Q6r cR Qs ya mJ cu Q4s JY Sa Q4o uI Qc1 QF sE Q5e dD Q3j K5 RP Q2Z Qz QbC Qc4 Qc6 Qb7 fW DJ wT Qc3 Qc2 Qc5 QbW D7 Zt QbU Rf bF bH;obtain ⟨⟨(x0:Int),(o0:Int),(q0:Int),⟨⟩,⟨⟨(n0:Int),r0,⟨⟩⟩,⟨(s0:Int),t0,⟨⟩⟩,(l0:Int),⟨⟩,⟨⟩⟩,⟨⟨(p0:Int),u0,⟨⟩⟩,⟨(v0:Int),w0,⟨⟩⟩,(m0:Int),⟨⟩,⟨⟩⟩,⟨(y0:Int),z0,⟨⟩⟩,(k0:Int),⟨⟩⟩,⟨⟩⟩:=x;obtain ⟨⟨⟨⟩,⟨⟩,⟨⟩,⟨⟩,⟨⟨⟨⟩,⟨⟩,⟨⟩⟩,⟨⟨⟩,⟨⟩,⟨⟩⟩,⟨⟩,⟨⟩,⟨⟩⟩,⟨⟨⟨⟩,⟨⟩,⟨⟩⟩,⟨⟨⟩,⟨⟩,⟨⟩⟩,⟨⟩,⟨⟩,⟨⟩⟩,⟨⟨⟩,⟨⟩,⟨⟩⟩,⟨⟩,⟨⟩⟩,⟨⟩⟩:=h;obtain ⟨⟨(fr:Int),⟨⟩⟩,⟨⟩⟩:=y;obtain ⟨⟨⟨⟩,⟨⟩⟩,⟨⟩⟩:=k
  try dsimp only
  have B':=()
 all_goals
  obtain ⟨⟨⟨d1,d2⟩,⟨w1,w2⟩,f0,f1,hs,hF⟩,o1⟩:=hp;have f0:n7 n0 r0 s0 t0 l0:=f0;have f1:n7 p0 u0 v0 w0 m0:=f1;have hs:oN x0 k0 n0 y0 z0:=hs;have hF:p0=n0:=hF;have f0':=f0;have f1':=f1;obtain ⟨a1,a2,a3,a4,a5⟩:=f0';obtain ⟨b1,b2,b3,b4,b5⟩:=f1';have hs':=hs;obtain ⟨s1,s2,s3,s4,s5,s6,s7⟩:=hs';obtain ⟨s8,s9,s10,s11⟩:=s1;have d1:0≤o0:=d1;have d2:o0≤8:=d2;have w1:1≤q0:=w1;have w2:q0≤16:=w2;have o1:fr=min (min l0 m0) k0-1:=o1;have hif:(if (min (min l0 m0) k0-1)+1<fr then (min (min l0 m0) k0-1)+1 else fr)=fr:=if_neg (by omega)
  have hm0:min fr l0=fr:=by omega
  have hm1:min fr m0=fr:=by omega
  simp only [cl];refine ⟨⟨⟨d1,d2⟩,⟨w1,w2⟩,f0,f1,hs,hF⟩,fun x z hz'=>?_⟩;obtain ⟨hx,hz⟩:=(show x.1=(x0,o0,q0,(),((n0,r0,()),(s0,t0,()),l0,(),()),((p0,u0,()),(v0,w0,()),m0,(),()),(y0,z0,()),k0,())∧z.1.1=min (min l0 m0) k0-1 from hz');simp only [hx,hz,hif,hm0,hm1];refine ⟨by simp only [aL,aT,aU];omega,f0,fun x1 g1 g2 g3=>⟨f1,fun x2 k1 k2 k3=>⟨⟨s8,s9,s10,s11⟩,fun x3 z3 l1 l2=>?_⟩⟩⟩
  first|(have:=A';refine ⟨⟨⟨d1,d2⟩,⟨w1,w2⟩,g1,k1,TL hs l1 l2 (show fr≤k0 from by omega) g3,?_⟩,⟨rfl,rfl,rfl⟩,g3,g2,k2,rfl⟩)|(have:=B';refine ⟨⟨⟨d1,d2⟩,⟨w1,w2⟩,g1,k1,TL hs l1 l2 (show fr≤k0 from by omega) g3,?_⟩,⟨rfl,rfl,rfl⟩,g3,k2,g2,rfl⟩)
  show x2.fst.fst.fst=x1.fst.fst.fst;rw [g3,k3,hF]
theorem V0:ab Tryz.prog 38 Iu:=J9.1
theorem SX:ab Tryz.prog 38 Hk:=J9.2
noncomputable def Es:=DT.add 38 V0
noncomputable def DY:=Dy.add 38 SX
end Go.Proofs.YtfdmjoddhjmokaaGreatDoor
set_option maxHeartbeats 4000000
namespace Go.Proofs.YtfdmjoddhjmokaaGreatDoor
open Go.RowKit Rex
set_option linter.unusedVariables false
set_option linter.unusedSimpArgs false
set_option maxRecDepth 100000
def wg(seed d w:Int)(i:Nat)(c:Sp.T aR):Prop:=c.1=seed∧c.2.1=d∧c.2.2.1=w∧Xm c.2.2.2.2.1∧Xm c.2.2.2.2.2.1∧c.2.2.2.2.1.1.1=0∧c.2.2.2.2.2.1.1.1=0∧c.2.2.2.2.1.2.2.1=i∧c.2.2.2.2.2.1.2.2.1=i∧c.2.2.2.2.2.2.1.1=0∧c.2.2.2.2.2.2.1.2.1=List.replicate 81 zS∧c.2.2.2.2.2.2.2.1=0
theorem acp(seed:Int):oN seed 0 0 0 ((List.replicate 81 zS).set 0 (jc 0 seed 600)):=by
 refine ⟨by simp [ga],by simp,rfl,by decide,by decide,by decide,fun f h1 h2=>?_⟩
 obtain rfl:f=0:=by omega
 unfold xU;rw [show ((0:Int).tmod (((List.replicate 81 zS).set 0 (jc 0 seed 600)).length:Int)).toNat=0 by simp,eT (by simp),if_pos rfl]
 rfl
def vX(x:(Unit))(y:((Int×Int×Int×Unit×Unit)×Unit)):Prop:=0≤y.1.2.1∧y.1.2.1≤8∧1≤y.1.2.2.1∧y.1.2.2.1≤16
def nG(x:(Unit))(y:((Int×Int×Int×Unit×Unit)×Unit))(x':(Unit))(z:((cM×Unit)×(Unit×Unit)×Unit)):Prop:=gT z.1.1∧z.1.1.1=y.1.1∧cD z.1.1=y.1.2.1∧cW z.1.1=y.1.2.2.1∧cN z.1.1 0=y.1.2.1∧cN z.1.1 1=y.1.2.1∧aJ z.1.1=0∧cF z.1.1=0
noncomputable def Gq:MC:=qC [false] [] [(true,[.int .u32,.int .i64,.int .i64,.cl (.int .i64 (0))])] [(false,[aR]),(false,[.cl (.int .i64 (0))])] vX nG
abbrev CY:Type:=Nat×aR.T
abbrev NT:Type:=eZ [(false,[gE])]
abbrev Ma:Type:=aZ [(false,[gE])]
abbrev MQ:Type:=eZ [(false,[gw]),(false,[Sp.cl (Lc.int IntKind.i64 (0:Int))])]
abbrev NQ:Type:=aZ [(false,[gw]),(false,[Sp.cl (Lc.int IntKind.i64 (0:Int))])]
abbrev Bv:Type:=(Int×Int×Int×Unit×Unit)×Unit
def Qcm(a:eI)(b:kB)(c:Prop):Prop:=Qb7 a (a.1.2.2.1=RP b.2.2.1) (a.1.1.1=b.1.1) c
def Qcj(a:CY):kB:=a.2.2.2.2.2.2.1
def qQ(a:Bv):Prop:=Qn (a.1.1=a.1.1) (a.1.2.1=a.1.2.1) (a.1.2.2.1=a.1.2.2.1) lG
def Qci(a:CY):kB:=a.2.2.2.2.2.1
def Qck(a:CY):gw.T:=(Qc0 a.2).1
def YS(a b:Prop)(c d e f:kB)(g i:gw.T)(j l:Nat)(m n:Prop):Prop:=Q7 (Q2l a) b (AX c d (AX e f (Qn (Vu (g.1=i.1) j l) (WD j l m) n True)))
def Qca(a:Bv):Bool:=decide (a.1.2.2.1≤(16:Int))
def RD(a:Bv):Bool:=decide ((1:Int)≤a.1.2.2.1)
def Qc7(a:Bv):Bool:=decide ((0:Int)≤a.1.2.1)
def Pv(a:Bv):Bool:=decide (a.1.2.1≤(8:Int))
def Qcb(a:Prop):Prop:=wM ((1:Int)≤(81:Int)) ((81:Int)≤(4096:Int)) a
def Qcd(a:Ma)(b:Prop):Prop:=uI True (ya (ya Sa)) (Q7 (VY a.1.1) (Q3x a.1.1.2.2.1) (Q3x a.1.1.1.1)) b
def Qcc(a:NQ)(b:Prop):Prop:=K1 mJ (Q3x a.1.1.1∧a.1.1.2.1=List.replicate (81:Nat) zS) b
def Qcn(a:e9)(b:gw.T)(c:Nat)(d:Bv)(e f:Prop):Prop:=Q2Z (a.1.1=b.1∧a.1.2.1=List.set b.2.1 (Qp (0:Int) c) (jc (0:Int) d.1.1 (600:Int))) (Q10 (gk e) f)
def AV(a:Prop)(b:CY)(c:Bv):Prop:=Q7 a (Q5B b.1 c.1.2.1) (wg c.1.1 c.1.2.1 c.1.2.2.1 b.1 b.2)
def RN(a:Bv):Prop:=a.1.2.1=a.1.2.1
def U0(a:kB)(b:CY):Prop:=Qn (VY a) ((↑b.1:Int)=a.2.2.1) (a.2.2.1-a.1.1<(64:Int)) (a.2.2.1<(1000000:Int))
def wJ(x:(Unit))(y:((Int×Int×Int×Unit×Unit)×Unit)):Prop:=0≤y.1.2.1∧y.1.2.1≤8∧1≤y.1.2.2.1∧y.1.2.2.1≤16
def nB(x:(Unit))(y:((Int×Int×Int×Unit×Unit)×Unit))(x':(Unit))(z:((cM×Unit)×(Unit×Unit)×Unit)):Prop:=gT z.1.1∧z.1.1.1=y.1.1∧cD z.1.1=y.1.2.1∧cW z.1.1=y.1.2.2.1∧cN z.1.1 0=y.1.2.1∧cN z.1.1 1=y.1.2.1∧aJ z.1.1=0∧cF z.1.1=0
noncomputable def Fq:MC:=qC [false] [] [(true,[.int .u32,.int .i64,.int .i64,.cl (.int .i64 (1))])] [(false,[gp]),(false,[.cl (.int .i64 (0))])] wJ nB
def Qcp(a:CY):kB:=a.2.2.2.2.2.2.1
def Qco(a:Bv):Prop:=Qn (a.1.1=a.1.1) (a.1.2.1=a.1.2.1) (a.1.2.2.1=a.1.2.2.1) Q5e
def MD(a:CY):gw.T:=(Qc5 a.2).1
def Qcs(a:Prop):Prop:=Q7 lG ((-2097152:Int)=(-2097152:Int)) (WI (WC ((3:Int)=(3:Int)) lG a))
def yy(a:Prop):Prop:=Qcs (QbG lG ((2097152:Int)=(2097152:Int)) lG (Q2B lG ((32768:Int)=(32768:Int)) (3:Int) (3:Int) lG a))
theorem O3:ab Tryz.prog 58 Gq∧ab Tryz.prog 58 Fq:=by
 refine ⟨?a,?b⟩
 case' a=>
  refine ah (cx Mx [109,113,177] dS Es) Tryz.func58 (by kernel_rfl) (by kernel_rfl) fun (x:(Unit)) h (y:((Int×Int×Int×Unit×Unit)×Unit)) k hf hg hp=>⟨(fun bk=>match bk with|700006=>some {S:=Nat,st:=fun s=>⟨[.v (.one (.ptr 0 0))],[]⟩,ok:=fun s=>True,mu:=fun s=>0,init:=0}|0=>some {S:=Nat×Sp.T aR,st:=fun s=>⟨jk [(1,.v (.one (.ptr 13 0))),(2,.v (.one (.ptr 11 0))),(1,.v (.one (.ptr 0 0))),(21,.v (.one (.int .i64 false (y.1.2.1)))),(0,.v (.one (.int .i64 false ((s.1:Int)))))] 50,aW false [aR] (s.2,()) (((),(),(),(),(((),(),()),((),(),()),(),(),()),(((),(),()),((),(),()),(),(),()),((),(),()),(),()),()) 0 0++ [some (.cells [.int .u32 false y.1.1,.int .i64 false y.1.2.1,.int .i64 false y.1.2.2.1,.int .i64 true 0] 24)]⟩,ok:=fun s=>(s.1:Int)≤y.1.2.1∧wg y.1.1 y.1.2.1 y.1.2.2.1 s.1 s.2,mu:=fun s=>y.1.2.1.toNat-s.1,init:=(0,(0,0,0,(),((0,[],()),(0,[],()),0,(),()),((0,[],()),(0,[],()),0,(),()),(0,[],()),0,())),ex:=true}|_=>none),400,af (q:=Q0 (Qc7 y) (Q0 (Pv y) (Q0 (RD y) (Q0 (Qca y) (Qcb (∀ (va:cI) (vb:ck) (vc:NQ) (vd:MQ),Qcc vc (mV (∀ (ve:cI) (vf:ck) (vg:Ma) (vi:NT),Qcd vg (Kv (qQ y) (∀ (vj:cI) (vl:ck) (vm:Ma) (vn:NT),Qcd vm (Q2d (y.1.1=y.1.1) (RN y) (y.1.2.2.1=y.1.2.2.1) lG (Q6 (qQ y) (qQ y) (qQ y) (∃ (vo:CY),AV (YS (Qf (RN y) (RU vo.1) True) (Qn (y.1.1=vo.2.1) (y.1.2.1=vo.2.2.1) (y.1.2.2.1=vo.2.2.2.1) (Kv lG ((0:Int)=(Qc0 vo.2).2.1))) vg.1.1 (Qci vo) vm.1.1 (Qcj vo) vc.1.1 (Qck vo) (Q4s vc.1.1.2) (Ru vo.2) (List.take (Ru vo.2) vc.1.1.2.1=(Qck vo).2.1) (qQ y)) vo y) (∀ (vo:CY),Q5B vo.1 y.1.2.1∧wg y.1.1 y.1.2.1 y.1.2.2.1 vo.1 vo.2→K7 (MT vo.1 y.1.2.1) (bH (Qci vo)) lG (U0 (Qci vo) vo) (∀ (vp:eI) (vq:lJ) (vr:kE) (vs:lA),Qcm vp (Qci vo) (Qbc (bH (Qcj vo)) (Qn (VY (Qcj vo)) ((↑vo.1:Int)=(Qcj vo).2.2.1) ((Qcj vo).2.2.1-(Qcj vo).1.1<(64:Int)) ((Qcj vo).2.2.1<(1000000:Int))) (∀ (vt:eI) (vu:lJ) (vw:kE) (vA:lA),Qcm vt (Qcj vo) (Na vo.1 (∃ (vB:CY),Q2D (AV (YS (Qf (RN y) (ku vo.1 vB.1) True) (Qn (vo.2.1=vB.2.1) (vo.2.2.1=vB.2.2.1) (vo.2.2.2.1=vB.2.2.2.1) (Kv lG ((Qc0 vo.2).2.1=(Qc0 vB.2).2.1))) vp.1 (Qci vB) vt.1 (Qcj vB) (Qck vo) (Qck vB) (Ru vo.2) (Ru vB.2) (List.take (Ru vB.2) (Qck vo).2.1=(Qck vB).2.1) (qQ y)) vB y) y.1.2.1.toNat vB.1 y.1.2.1.toNat vo.1))))) (Qn (QF (Ru vo.2) (Ru vo.2)) QbT (Q7 (ga (Qck vo).2.1 (Qck vo).1) ((0:Int)≤(0:Int)) (qH (Qck vo).2.1 (Qck vo).1 (0:Int))) (∀ (vp:e9) (vq:lR) (vr:kE) (vs:lA),Qcn vp (Qck vo) (Ru vo.2) y (lG∧QbC (Qci vo) (Qcj vo) vp) (nG x y () (((vo.2.1,vo.2.2.1,vo.2.2.2.1,(),Qci vo,Qcj vo,vp.1,(Qc0 vo.2).2.1,()),()),mB))))))))))))) False) False) False) False) (by kernel_rfl) ?_⟩
  delta Q7 Q6 oO lG QC Qn QbG WC kA WI cR Qs Q3 ya Qr Gf jh mV Qk mJ Q4 Q5 QJ cu Q4s JY Q0 Sa Q23 Q4o Wo uI mB Q2B QH QF Qi Qh Qp yG QbM GZ QbT Q10 dD Q3j QE WD K7 Vu K1 RP Q2d Q2l Q2Z Q2C MT Qbc ku gk Ru QbC Na Q3x Qb7 RU Qf Q2D Kv Qc0 Qcm Qcj VY qQ Qci Qck YS Qca RD Qc7 Pv wM Qcb Q5B Qcd Qcc Qcn AV RN U0 AX bH;obtain ⟨⟨⟩⟩:=x;obtain ⟨⟨⟩⟩:=h;obtain ⟨⟨(l0:Int),(k0:Int),(m0:Int),⟨⟩,⟨⟩⟩,⟨⟩⟩:=y;obtain ⟨⟨⟨⟩,⟨⟩,⟨⟩,⟨⟩,⟨⟩⟩,⟨⟩⟩:=k
  try dsimp only
 case' b=>
  refine ah (cx Mx [109,113,177] dR DY) Tryz.func58 (by kernel_rfl) (by kernel_rfl) fun (x:(Unit)) h (y:((Int×Int×Int×Unit×Unit)×Unit)) k hf hg hp=>⟨(fun bk=>match bk with|700006=>some {S:=Nat,st:=fun s=>⟨[.v (.one (.ptr 0 0))],[]⟩,ok:=fun s=>True,mu:=fun s=>0,init:=0}|0=>some {S:=Nat×Sp.T gp,st:=fun s=>⟨jk [(1,.v (.one (.ptr 13 0))),(2,.v (.one (.ptr 11 0))),(1,.v (.one (.ptr 0 0))),(21,.v (.one (.int .i64 false (y.1.2.1)))),(0,.v (.one (.int .i64 false ((s.1:Int)))))] 50,aW false [gp] (s.2,()) (((),(),(),(),(((),(),()),((),(),()),(),(),()),(((),(),()),((),(),()),(),(),()),((),(),()),(),()),()) 0 0++ [some (.cells [.int .u32 false y.1.1,.int .i64 false y.1.2.1,.int .i64 false y.1.2.2.1,.int .i64 true 1] 24)]⟩,ok:=fun s=>(s.1:Int)≤y.1.2.1∧wg y.1.1 y.1.2.1 y.1.2.2.1 s.1 s.2,mu:=fun s=>y.1.2.1.toNat-s.1,init:=(0,(0,0,0,(),((0,[],()),(0,[],()),0,(),()),((0,[],()),(0,[],()),0,(),()),(0,[],()),0,())),ex:=true}|_=>none),400,af (q:=Q0 (Qc7 y) (Q0 (Pv y) (Q0 (RD y) (Q0 (Qca y) (Qcb (∀ (va:cI) (vb:ck) (vc:NQ) (vd:MQ),Qcc vc (mV (∀ (ve:cI) (vf:ck) (vg:Ma) (vi:NT),Qcd vg (Kv (Qco y) (∀ (vj:cI) (vl:ck) (vm:Ma) (vn:NT),Qcd vm (Q2d (y.1.1=y.1.1) (RN y) (y.1.2.2.1=y.1.2.2.1) Q5e (Q6 (Qco y) (Qco y) (Qco y) (∃ (vo:Nat×aR.T),AV (YS (Qf (RN y) (RU vo.1) True) (Qn (y.1.1=vo.2.1) (y.1.2.1=vo.2.2.1) (y.1.2.2.1=vo.2.2.2.1) (Kv Q5e ((0:Int)=(Qc5 vo.2).2.1))) vg.1.1 (Qc6 vo.2) vm.1.1 (Qcp vo) vc.1.1 (MD vo) (Q4s vc.1.1.2) (Qc4 vo.2) (List.take (Qc4 vo.2) vc.1.1.2.1=(MD vo).2.1) (Qco y)) vo y) (∀ (vo:Nat×aR.T),Q5B vo.1 y.1.2.1∧wg y.1.1 y.1.2.1 y.1.2.2.1 vo.1 vo.2→K7 (MT vo.1 y.1.2.1) (bH (Qc6 vo.2)) lG (U0 (Qc6 vo.2) vo) (∀ (vp:eI) (vq:lJ) (vr:kE) (vs:lA),Qcm vp (Qc6 vo.2) (Qbc (bH (Qcp vo)) (Qn (VY (Qcp vo)) ((↑vo.1:Int)=(Qcp vo).2.2.1) ((Qcp vo).2.2.1-(Qcp vo).1.1<(64:Int)) ((Qcp vo).2.2.1<(1000000:Int))) (∀ (vt:eI) (vu:lJ) (vw:kE) (vA:lA),Qcm vt (Qcp vo) (Na vo.1 (∃ (vB:Nat×aR.T),Q2D (AV (YS (Qf (RN y) (ku vo.1 vB.1) True) (Q7 (vo.2.1=vB.2.1) (vo.2.2.1=vB.2.2.1) (vo.2.2.2.1=vB.2.2.2.1∧Kv Q5e ((Qc5 vo.2).2.1=(Qc5 vB.2).2.1))) vp.1 (Qc6 vB.2) vt.1 (Qcp vB) (MD vo) (MD vB) (Qc4 vo.2) (Qc4 vB.2) (List.take (Qc4 vB.2) (MD vo).2.1=(MD vB).2.1) (Q7 (y.1.1=y.1.1) (RN y) (y.1.2.2.1=y.1.2.2.1∧Q5e))) vB y) y.1.2.1.toNat vB.1 y.1.2.1.toNat vo.1))))) (Q7 (QF (Qc4 vo.2) (Qc4 vo.2)) (yy (WI (Gf (Wo (Gf GS))))) (Q7 (ga (MD vo).2.1 (MD vo).1) ((0:Int)≤(0:Int)) (qH (MD vo).2.1 (MD vo).1 (0:Int))∧(∀ (vp:e9) (vq:lR) (vr:kE) (vs:lA),Qcn vp (MD vo) (Qc4 vo.2) y (Q5e∧QbC (Qc6 vo.2) (Qcp vo) vp) (nB x y () (((vo.2.1,vo.2.2.1,vo.2.2.2.1,(),Qc6 vo.2,Qcp vo,vp.1,(Qc5 vo.2).2.1,()),()),mB)))))))))))))) False) False) False) False) (by kernel_rfl) ?_⟩
  delta Q7 Q6 oO lG QC Qn QbG WC kA WI cR Qs Q3 ya Qr Gf jh mV Qk mJ Q4 Q5 QJ cu Q4s JY Q0 Sa Q23 Q4o Wo uI mB Q2B QH QF Qi Qh Qp yG Q5e Ye Q10 dD Q3j QE WD K7 Vu K1 RP Q2d Q2l Q2Z Q2C MT Qbc ku gk QbC Qc4 Na Qc6 Q3x Qb7 RU GS Qf Q2D Kv Qc5 Qcm Qcp VY Qco Qcs MD YS Qca RD Qc7 Pv wM Qcb yy Q5B Qcd Qcc Qcn AV RN U0 AX bH;obtain ⟨⟨⟩⟩:=x;obtain ⟨⟨⟩⟩:=h;obtain ⟨⟨(l0:Int),(k0:Int),(m0:Int),⟨⟩,⟨⟩⟩,⟨⟩⟩:=y;obtain ⟨⟨⟨⟩,⟨⟩,⟨⟩,⟨⟩,⟨⟩⟩,⟨⟩⟩:=k
  try dsimp only
 all_goals
  obtain ⟨h1,h2,h3,h4⟩:=(show 0≤k0∧k0≤8∧1≤m0∧m0≤16 from hp);simp only [cl];refine ⟨fun _=>⟨fun _=>⟨fun _=>⟨fun _=>⟨⟨by decide,by decide,by decide,by decide⟩,fun z a1 a2 z1 b1 b2 b3 z2 c1 c2 c3=>⟨⟨(0,(l0,k0,m0,(),z1.1.1,z2.1.1,z.1.1,0,())),?_⟩,fun s d1 d2=>⟨fun d3=>?_,fun d3=>?_⟩⟩⟩,fun h=>absurd h4 h⟩,fun h=>absurd h3 h⟩,fun h=>absurd h2 h⟩,fun h=>absurd h1 h⟩
  ·dsimp only;simp only [cl];exact ⟨rfl,h1,rfl,rfl,rfl,b1,c1,b3,c3,b2,c2,a1,a2,rfl⟩
  ·obtain ⟨w1,w2,w3,w4,w5,w6,w7,w8,w9,w10,w11,w12⟩:=d2;refine ⟨⟨w4,w8.symm,by rw [w8,w6];show (s.1:Int)-0<64;omega,by rw [w8];show (s.1:Int)<1000000;omega⟩,fun x e1 e2 e3=>⟨⟨w5,w9.symm,by rw [w9,w7];show (s.1:Int)-0<64;omega,by rw [w9];show (s.1:Int)<1000000;omega⟩,fun y f1 f2 f3=>⟨by simp only [aL,aT,aU];omega,(s.1+1,(s.2.1,s.2.2.1,s.2.2.2.1,(),x.1,y.1,s.2.2.2.2.2.2.2.1,s.2.2.2.2.2.2.2.2.1,())),?_⟩⟩⟩
   dsimp only;simp only [cl];refine ⟨⟨by omega,by omega,w1,w2,w3,e1,f1,e3.trans w6,f3.trans w7,e2.trans (by rw [w8];show (s.1:Int)+1=((s.1+1:Nat):Int);omega),f2.trans (by rw [w9];show (s.1:Int)+1=((s.1+1:Nat):Int);omega),w10,w11,w12⟩,by omega⟩
  ·obtain ⟨w1,w2,w3,w4,w5,w6,w7,w8,w9,w10,w11,w12⟩:=d2;have hs:(s.1:Int)=k0:=by omega
   refine ⟨⟨by rw [w11,w10];simp [ga],by decide,by rw [w11,w10];simp [qH]⟩,fun x g1 g2=>?_⟩
   have hl:x.1.2.1=(List.replicate 81 zS).set 0 (jc 0 l0 600):=by
    rw [g2,w11];simp
   refine ⟨⟨⟨by show (0:Int)≤s.2.2.1;rw [w2];exact h1,by show s.2.2.1≤(8:Int);rw [w2];exact h2⟩,⟨by show (1:Int)≤s.2.2.2.1;rw [w3];exact h3,by show s.2.2.2.1≤(16:Int);rw [w3];exact h4⟩,w4,w5,?_,?_⟩,w1,w2,w3,w8.trans hs,w9.trans hs,w12,w6⟩
   ·show oN s.2.1 s.2.2.2.2.2.2.2.2.1 s.2.2.2.2.2.1.1.1 x.1.1 x.1.2.1;rw [w1,w12,w6,g1,w10,hl];exact acp l0
   ·show s.2.2.2.2.2.2.1.1.1=s.2.2.2.2.2.1.1.1;rw [w6,w7]
theorem Nn:ab Tryz.prog 58 Gq:=O3.1
theorem MK:ab Tryz.prog 58 Fq:=O3.2
noncomputable def iQ:=Es.add 58 Nn
def sP(x:(Unit))(y:((Int×Int×Int×Unit×Unit)×Unit)):Prop:= ¬(0≤y.1.2.1∧y.1.2.1≤8∧1≤y.1.2.2.1∧y.1.2.2.1≤16)
def iI(x:(Unit))(y:((Int×Int×Int×Unit×Unit)×Unit))(x':(Unit))(z:((Unit×Unit)×(Unit×Unit)×Unit)):Prop:=True
noncomputable def Br:MC:=qC [false] [] [(true,[.int .u32,.int .i64,.int .i64,.cl (.int .i64 (0))])] [(false,[.cl .cb]),(false,[.cl (.int .i64 (1))])] sP iI
def Qct(a:Bv)(b c:Prop):Prop:=Q0 (Qc7 a) (Q0 (Pv a) (Q0 (RD a) (Q0 (Qca a) (Qcb b) (El c)) (El c)) (El c)) (El c)
noncomputable def oQ:=DY.add 58 MK
def sc(x:(Unit))(y:((Int×Int×Int×Unit×Unit)×Unit)):Prop:= ¬(0≤y.1.2.1∧y.1.2.1≤8∧1≤y.1.2.2.1∧y.1.2.2.1≤16)
def iA(x:(Unit))(y:((Int×Int×Int×Unit×Unit)×Unit))(x':(Unit))(z:((Unit×Unit)×(Unit×Unit)×Unit)):Prop:=True
noncomputable def BG:MC:=qC [false] [] [(true,[.int .u32,.int .i64,.int .i64,.cl (.int .i64 (1))])] [(false,[.cl .cb]),(false,[.cl (.int .i64 (1))])] sc iA
theorem Ih:ab Tryz.prog 58 Br∧ab Tryz.prog 58 BG:=by
 refine ⟨?a,?b⟩
 case' a=>
  refine ah (cx Mx [109,113,177] dS iQ) Tryz.func58 (by kernel_rfl) (by kernel_rfl) fun (x:(Unit)) h (y:((Int×Int×Int×Unit×Unit)×Unit)) k hf hg hp=>⟨bK,400,af (q:=Qct y (∀ (va:cI) (vb:ck) (vc:NQ) (vd:MQ),Qcc vc False) (iI x y () LP)) (by kernel_rfl) ?_⟩
  delta Q7 Qn cR Qs Q3 ya Qr Qk mJ Q4 JY Q0 uI mB Q5e Q10 K1 LP El Q3x Qca RD Qc7 Pv wM Qcb Qct Qcc;obtain ⟨⟨⟩⟩:=x;obtain ⟨⟨⟩⟩:=h;obtain ⟨⟨(m0:Int),(k0:Int),(l0:Int),⟨⟩,⟨⟩⟩,⟨⟩⟩:=y;obtain ⟨⟨⟨⟩,⟨⟩,⟨⟩,⟨⟩,⟨⟩⟩,⟨⟩⟩:=k
  try dsimp only
  have A':=()
 case' b=>
  refine ah (cx Mx [109,113,177] dR oQ) Tryz.func58 (by kernel_rfl) (by kernel_rfl) fun (x:(Unit)) h (y:((Int×Int×Int×Unit×Unit)×Unit)) k hf hg hp=>⟨bK,400,af (q:=Qct y (∀ (va:cI) (vb:ck) (vc:NQ) (vd:MQ),Qcc vc False) (iA x y () LP)) (by kernel_rfl) ?_⟩
  delta Q7 Qn cR Qs Q3 ya Qr Qk mJ Q4 JY Q0 uI mB Q5e Q10 K1 LP El Q3x Qca RD Qc7 Pv wM Qcb Qct Qcc;obtain ⟨⟨⟩⟩:=x;obtain ⟨⟨⟩⟩:=h;obtain ⟨⟨(m0:Int),(k0:Int),(l0:Int),⟨⟩,⟨⟩⟩,⟨⟩⟩:=y;obtain ⟨⟨⟨⟩,⟨⟩,⟨⟩,⟨⟩,⟨⟩⟩,⟨⟩⟩:=k
  try dsimp only
  have B':=()
 all_goals
  have hn: ¬(0≤k0∧k0≤8∧1≤l0∧l0≤16):=hp
  first|(have:=A';have hpost:iI () ((m0,k0,l0,(),()),()) () (((),()),((),()),()):=trivial)|(have:=B';have hpost:iA () ((m0,k0,l0,(),()),()) () (((),()),((),()),()):=trivial)
  simp only [cl];exact ⟨fun _=>⟨fun _=>⟨fun _=>⟨fun _=>by omega,fun _=>hpost⟩,fun _=>hpost⟩,fun _=>hpost⟩,fun _=>hpost⟩
theorem UC:ab Tryz.prog 58 Br:=Ih.1
theorem Ux:ab Tryz.prog 58 BG:=Ih.2
noncomputable def W7:MC:=orC Gq Br
noncomputable def SG:MC:=orC Fq BG
theorem Uq:ab Tryz.prog 58 W7:=jD Nn UC
theorem VH:ab Tryz.prog 58 SG:=jD MK Ux
end Go.Proofs.YtfdmjoddhjmokaaGreatDoor
