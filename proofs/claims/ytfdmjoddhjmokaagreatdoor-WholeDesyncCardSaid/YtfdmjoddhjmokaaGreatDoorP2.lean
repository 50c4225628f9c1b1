/- Part of the proof of WholeDesync (see the last text). Conditions: none. Own work; printed by programs of mine. -/
import Derived.Test.YtfdmjoddhjmokaaGreatDoorP1
import Derived.LoopN
import Derived.LoopNIn
import Derived.StillTail
import Derived.RangeFuncRecord
namespace Go.Proofs.YtfdmjoddhjmokaaGreatDoor.Rex
open Go.RowKit
set_option linter.unusedVariables false
set_option linter.unusedSimpArgs false
def Ends(bs:Nat)(C:Ctx)(m0:Mem)(β0:Nm)(w0:World)(K:St→Prop)(a:Act)(w:World):Prop:= ∃σ β,Fit bs σ β a w∧ai m0 β0 w0 σ.m β w∧K σ
theorem put_defers(a:Act)(d:Option Tmp)(v:Value):(a.put d v).defers=a.defers:=by cases d<;>rfl
theorem cS.fit {bs:Nat} {σ:St} {β:Nm} {w:World} {K:SV→Mem→Prop} {r:Value} {w':World} {a:Act}(hf:Fit bs σ β a w)(dst:Option Tmp)(h:cS σ β w K r w'):
  ∃β' s m',Fit bs ⟨oL σ.tm dst s,m'⟩ β' (a.put dst r) w'∧ai σ.m β w m' β' w'∧K s m':=by
 obtain ⟨β',s,m',h1,h2,h3,h4⟩:=h;exact ⟨β',s,m',⟨p7 (Has.tt h2.ext hf.tm) h3 dst,h1,by rw [put_defers];exact hf.df.mono fun D hD=>h2.defer hf.sat hD⟩,h2,h4⟩
theorem kZ {bs:Nat} {all:List Oper} {ops:Array Oper}(hall:ops.toList=all) {σ:St} {β:Nm} {a:Act} {w:World}(hf:Fit bs σ β a w) {j d:Nat} {s:SV}(h:Am all σ.tm j=some (d,s)):
  ∃v,((ops[j]?).bind (·.dst)).bind (a.tmps[·]?)=some v∧Has β s v∧a.tmps[d]? =some v:=by
 unfold Am at h;split at h
 ·rename_i o ho;split at h
  ·rename_i t ht;split at h
   ·rename_i s' hs';cases h;obtain ⟨v,hv,hs⟩:=hf.tm.get hs';have ho':ops[j]? =some o:=by rw [←hall] at ho;simpa using ho
    have hv':a.tmps[d]? =some v:=by simpa using hv
    exact ⟨v,by simp [ho',ht,hv'],hs,hv'⟩
   ·cases h
  ·cases h
 ·cases h
theorem Fit.yh {bs:Nat} {σ:St} {β:Nm} {a:Act} {w:World}(hf:Fit bs σ β a w) {d:Nat} {b:Bool}(h:a.tmps[d]? =some (.bool b)):Fit bs ⟨σ.tm.set d (lb true b),σ.m⟩ β a w:=by
 refine ⟨?_,hf.sat,hf.df⟩;have:=hf.tm.set (a:=lb true b) (b:=Value.bool b) (.v (.one .bool)) d;have e:a.tmps.toList.set d (.bool b)=a.tmps.toList:=by
  apply List.ext_getElem?;intro x;rw [List.getElem?_set];split
  ·rename_i e1;subst e1;split
   ·simpa using h.symm
   ·rename_i hlt;simp at hlt;rw [Array.getElem?_eq_none hlt] at h;cases h
  ·rfl
 rw [e] at this;exact this
theorem gZ {bs:Nat} {C:Ctx}(hC:C.Ok) {F:Fence} {n:Nat}(hF:Wd F) {ops:Array Oper} {all:List Oper}(hall:ops.toList=all): ∀ (rest:List Oper) (σ:St) (K:St→Prop) (β:Nm) (a:Act) (w:World),oV C all rest σ K→Fit bs σ β a w→KC C β→
  ∀Q:Exit→Act→World→Prop,(∀a' w',Ends bs C σ.m β w K a' w'→Q .normal a' w')→wpListIn F n C.P ops Q rest a w
 | [],σ,K,β,a,w,h,hf,hY,Q,hQ=>hQ a w ⟨σ,β,hf,ai.refl _ _ _,h⟩
 |o::rest,σ,K,β,a,w,h,hf,hY,Q,hQ=>by
  have run: ∀tm',Fit bs ⟨tm',σ.m⟩ β a w→xOp C ⟨tm',σ.m⟩ o (fun s m=>oV C all rest ⟨oL tm' o.dst s,m⟩ K)→o.wpIn F n C.P a w (wpListIn F n C.P ops Q rest) Q:=by
   intro tm' hf hx;refine Ou hC hx hf hY F n hF _ _ fun r w' hr=>?_;obtain ⟨β',s,m',h1,h2,h3⟩:=hr.fit hf o.dst;refine gZ hC hF hall rest _ K β' _ w' h3 h1 (hY.le h2.ext) Q fun a'' w'' he=>hQ a'' w'' ?_;obtain ⟨σ2,β2,e1,e2,e3⟩:=he;exact ⟨σ2,β2,e1,ai.trans hf.sat h2 e2,e3⟩
  have skip: ∀tm',Fit bs ⟨tm',σ.m⟩ β a w→oV C all rest ⟨oL tm' o.dst (.cz []),σ.m⟩ K→wpListIn F n C.P ops Q rest (a.put o.dst undef) w:=by
   intro tm' hf hx;exact gZ hC hF hall rest _ K β _ w hx ⟨p7 hf.tm (.cz .nil) o.dst,hf.sat,by rw [put_defers];exact hf.df⟩ hY Q hQ
  unfold oV at h;unfold wpListIn;split at h
  ·rename_i hg;rw [if_pos (by simp [Region.wanted,hg])]
   exact (run _ hf h)
  ·rename_i j want hg;have wb: ∀t,(((ops[j]?).bind (·.dst)).bind (a.tmps[·]?)=some (.bool t))→Region.wanted o (yielded ops a.tmps)=decide (t=want):=by
    intro t ht;simp only [Region.wanted,hg,yielded,ht];cases t<;>cases want<;>rfl
   split at h
   ·rename_i d kn t hy;obtain ⟨v,hv,hs,hd⟩:=kZ hall hf hy;have:v= .bool t:=by
     cases hs with
     |v hs=>cases hs with
      |one hs=>cases hs;rfl
    subst this;rw [wb t hv];split at h
    ·split at h
     ·rename_i hd;rw [if_pos hd];exact (run _ hf h)
     ·rename_i hd;rw [if_neg (by rw [hd];simp)];exact ⟨fun f _=>hF.fn f,skip _ hf h⟩
    ·by_cases e:t=want
     ·rw [if_pos (by simpa using e)]
      exact (run _ (hf.yh (by rw [←e];exact hd)) (h.1 e))
     ·rw [if_neg (by simpa using e)]
      have e':t= !want:=by revert e;cases t<;>cases want<;>simp
      exact ⟨fun f _=>hF.fn f,skip _ (hf.yh (by rw [←e'];exact hd)) (h.2 e')⟩
   ·rename_i hy;obtain ⟨v,hv,hs,_⟩:=kZ hall hf hy;have:v= .tuple ⟨[]⟩:=by
     cases hs with
     |cz hs=>rw [hs.aI]
    subst this;have:Region.wanted o (yielded ops a.tmps)=false:=by
     simp only [Region.wanted,hg,yielded,hv];rfl
    rw [if_neg (by rw [this];simp)];exact ⟨fun f _=>hF.fn f,skip _ hf h⟩
   ·exact h.elim
structure LS where
 S:Type
 st:S→St
 ok:S→Prop
 mu:S→Nat
 init:S
 fin:Option (Nat×(Nat→St)):=none
 inv:Nat→Prop:=fun _=>True
 ex:Bool:=false
 tie:Option (St→S→Prop):=none
def WU(l:LS)(σ:St)(s:l.S):Prop:=match l.tie with
 |none=>l.ok s
 |some t=>l.ok s∧t σ s
def oy(b:Bool)(p:Prop):Prop:=match b with
 |true=>p
 |false=>False
theorem bR {b:Bool} {p:Prop}(h:oy b p):b=true∧p:=by
 cases b
 ·exact h.elim
 ·exact ⟨rfl,h⟩
abbrev Rn:=Nat→Option Nat
def fX(ρ:Rn)(x y:Nat)(p:Prop):Prop:=match ρ y with
 |some z=>oy (Nat.beq x z) p
 |none=>False
theorem fJ {ρ:Rn} {x y:Nat} {p:Prop}(h:fX ρ x y p):ρ y=some x∧p:=by
 unfold fX at h;split at h
 ·rename_i z hz;obtain ⟨h1,h2⟩:=bR h;have:=Nat.eq_of_beq_eq_true h1;subst this;exact ⟨hz,h2⟩
 ·exact h.elim
def tgP:Nat→Nat→Nat→Prop
 |0,0,_=>True
 |0,_,o=>o=0
 |_,_,_=>True
def ft(ρ:Rn):Lf→Lf→Prop
 |_,.bX=>True
 | .int k _ a,.int k' _ b=>oy (decide (k=k')) (a=b)
 | .bool _ a,.bool _ b=>a=b
 | .ptr x o,.ptr y p=>fX ρ x y (oy (Nat.beq o p) True)
 | .cb,.cb=>True
 | .sl x o _ n c,.sl y p _ n' c'=>fX ρ x y (oy (Nat.beq o p) (n=n'∧c=c'))
 | .aj,.aj=>True
 | .op u,.op v=>u=v
 | .rs z tg x base sz o n c,.rs z' tg' y base' sz' o' n' c'=>fX ρ x y (oy (Nat.beq sz sz') ((z=z'∧base=base'∧o=o'∧n=n'∧c=c')∧tgP tg' tg o'))
 | .aj,.rs z' _ _ _ _ o' n' c'=>z'=true∧o'=0∧n'=0∧c'=0
 | .aj,.gv _ v xs=>v= .slice none 0 0∧xs= []
 | .sl _ _ _ n c,.rs z' _ _ _ _ o' n' c'=>(n=0∧c=0)∧z'=true∧o'=0∧n'=0∧c'=0
 | .rp x base sz i f,.rp y base' sz' i' f'=>fX ρ x y (oy (Nat.beq sz sz'&&Nat.beq f f') (base=base'∧i=i'))
 | .gv sh v xs,.gv sh' v' xs'=>match iM sh sh' with
  |some ⟨h⟩=>v=v'∧eA h xs=xs'
  |none=>False
 | .imp sh v xs i f,.imp sh' v' xs' i' f'=>match iM sh sh' with
  |some ⟨h⟩=>v=v'∧eA h xs=xs'∧i=i'∧f=f'
  |none=>False
 | .mp x,.mp y=>fX ρ x y True
 | .xW t x o,.xW t' y p=>fX ρ x y (oy (Nat.beq t t'&&Nat.beq o p) True)
 |_,_=>False
def Rq:Bool→Bool→Bool
 |true,true=>true
 |false,false=>true
 |_,_=>false
theorem fw: ∀ {a b:Bool},Rq a b=true→a=b
 |true,true,_=>rfl
 |false,false,_=>rfl
 |true,false,h=>by cases h
 |false,true,h=>by cases h
def Im {ks ks' vs vs':List Kd}(h:ks'=ks)(h':vs'=vs)(es:List (Row ks'×Row vs'×Nat)):List (Row ks×Row vs×Nat):=h▸h'▸es
def cC(ρ:Rn):List Lf→List Lf→Prop
 | [],[]=>True
 | [a],[b]=>ft ρ a b
 |a::l,b::m=>ft ρ a b∧cC ρ l m
 |_,_=>False
def xn(ρ:Rn):Vv→Vv→Prop
 | .one a,.one b=>ft ρ a b
 | .agg a,.agg b=>cC ρ a b
 |_,_=>False
def yi(ρ:Rn):List Vv→List Vv→Prop
 | [],[]=>True
 | [a],[b]=>xn ρ a b
 |a::l,b::m=>xn ρ a b∧yi ρ l m
 |_,_=>False
def dm(ρ:Rn):SV→SV→Prop
 |_,.bX=>True
 | .v a,.v b=>xn ρ a b
 | .cz a,.cz b=>yi ρ a b
 | .lO f a,.lO g b=>oy (Nat.beq f g) (cC ρ a b)
 | .xX n t x o,.xX n' t' y p=>fX ρ x y (n=n'∧t=t'∧o=p)
 |_,_=>False
def g9(ρ:Rn):List SV→List SV→Prop
 | [],[]=>True
 |a::l,.bX::m=>g9 ρ l m
 |a::l,b::m=>dm ρ a b∧g9 ρ l m
 |_,_=>False
def a3X:Bool→Bool→Bool
 |true,false=>false
 |_,_=>true
def orT:Bool→Bool→Bool
 |true,_=>true
 |false,b=>b
def WH(ρ:Rn):Option bG→Option bG→Prop
 |_,none=>True
 |some (.cells l t),some (.cells m u)=>oy (Nat.beq t u) (cC ρ l m)
 |some (.rows ro z sh xs base tot t),some (.rows ro' z' sh' xs' base' tot' t')=>oy (a3X ro ro'&&orT ro' (Nat.beq t t')) (match iM sh sh' with
  |some ⟨h⟩=>z=z'∧base=base'∧tot=tot'∧(eA h xs).take xs'.length=xs'
  |none=>False)
 |some (.loop r j),some (.loop r' j')=>r=r'∧j=j'
 |some (.map ks ka vs va es clk),some (.map ks' ka' vs' va' es' clk')=>oy (Rq ka ka'&&Rq va va') (match iM ks ks',iM vs vs' with
  |some ⟨h⟩,some ⟨h'⟩=>Im h h' es=es'∧clk=clk'
  |_,_=>False)
 |some (.it x since seen last),some (.it y since' seen' last')=>fX ρ x y (since=since'∧seen=seen'∧last=last')
 |_,some (.rows _ z' _ xs' _ _ _)=>z'=true∧xs'= []
 |_,_=>False
def zn(m:Mem):Option Nat→Option bG
 |some x=>bP m x
 |none=>none
def BU(ρ:Rn)(m:Mem):Nat→Mem→Prop
 |_,[]=>True
 |y,none::l=>BU ρ m (y+1) l
 |y,b::l=>WH ρ (zn m (ρ y)) b∧BU ρ m (y+1) l
def mtL(acc:List (Nat×Nat)):Lf→Lf→List (Nat×Nat)
 | .ptr x _,.ptr y _=>acc++ [(y,x)]
 | .sl x _ _ _ _,.sl y _ _ _ _=>acc++ [(y,x)]
 | .rs _ _ x _ _ _ _ _,.rs _ _ y _ _ _ _ _=>acc++ [(y,x)]
 | .rp x _ _ _ _,.rp y _ _ _ _=>acc++ [(y,x)]
 | .mp x,.mp y=>acc++ [(y,x)]
 | .xW _ x _,.xW _ y _=>acc++ [(y,x)]
 |_,_=>acc
def Xl(acc:List (Nat×Nat)):List Lf→List Lf→List (Nat×Nat)
 |a::l,b::m=>Xl (mtL acc a b) l m
 |_,_=>acc
def mtV(acc:List (Nat×Nat)):Vv→Vv→List (Nat×Nat)
 | .one a,.one b=>mtL acc a b
 | .agg a,.agg b=>Xl acc a b
 |_,_=>acc
def a7j(acc:List (Nat×Nat)):List Vv→List Vv→List (Nat×Nat)
 |a::l,b::m=>a7j (mtV acc a b) l m
 |_,_=>acc
def mtS(acc:List (Nat×Nat)):SV→SV→List (Nat×Nat)
 | .v a,.v b=>mtV acc a b
 | .cz a,.cz b=>a7j acc a b
 | .lO _ a,.lO _ b=>Xl acc a b
 | .xX _ _ x _,.xX _ _ y _=>acc++ [(y,x)]
 |_,_=>acc
def mtT(acc:List (Nat×Nat)):List SV→List SV→List (Nat×Nat)
 |a::l,b::m=>mtT (mtS acc a b) l m
 |_,_=>acc
def Wy(k:Nat)(m:Mem)(acc:List (Nat×Nat)):Nat→Mem→List (Nat×Nat)
 |_,[]=>acc
 |y,some (.cells l _)::t=>match (match Nat.blt y k with
  |true=>some y
  |false=>find acc y) with
  |some x=>match bP m x with
   |some (.cells l' _)=>Wy k m (Xl acc l' l) (y+1) t
   |_=>Wy k m acc (y+1) t
  |none=>Wy k m acc (y+1) t
 |y,some (.it z _ _ _)::t=>match (match Nat.blt y k with
  |true=>some y
  |false=>find acc y) with
  |some x=>match bP m x with
   |some (.it z' _ _ _)=>Wy k m (acc++ [(z,z')]) (y+1) t
   |_=>Wy k m acc (y+1) t
  |none=>Wy k m acc (y+1) t
 |y,_::t=>Wy k m acc (y+1) t
def a6w(acc:List (Nat×Nat))(d:Nat):Nat→Nat→List Nat
 |_,0=> []
 |y,n+1=>(match find acc y with
  |some x=>x
  |none=>d+y)::a6w acc d (y+1) n
def mt(k:Nat)(σ τ:St):List Nat:=
 let a0:=mtT [] σ.tm τ.tm
 let a1:=Wy k σ.m a0 0 τ.m
 let a2:=Wy k σ.m a1 0 τ.m
 let a3:=Wy k σ.m a2 0 τ.m
 a6w a3 (σ.m.length+k) k (τ.m.length-k)
def rnm(k:Nat)(rn:List Nat):Rn:=fun y=>match Nat.blt y k with
 |true=>some y
 |false=>rn[y-k]?
def bG.K0:bG→Bool
 | .cells _ _=>false
 | .rows ro _ _ _ _ _ _=>ro
 | .loop _ _=>false
 | .map _ _ _ _ _ _=>false
 | .it _ _ _ _=>false
def cY(ρ:Rn):Nat→Mem→List (Nat×Bool)
 |_,[]=> []
 |y,none::l=>cY ρ (y+1) l
 |y,some b::l=>match ρ y with
  |some x=>(x,b.K0)::cY ρ (y+1) l
  |none=>cY ρ (y+1) l
def apart(x:Nat)(r:Bool):List (Nat×Bool)→Bool
 | []=>true
 |(y,q)::l=>match Nat.beq x y with
  |true=>match r with
   |true=>match q with
    |true=>apart x r l
    |false=>false
   |false=>false
  |false=>apart x r l
def O0:List (Nat×Bool)→Bool
 | []=>true
 |(x,r)::l=>apart x r l&&O0 l
def rh(x:Nat):List Nat→Bool
 | []=>true
 |y::l=>match Nat.beq x y with
  |true=>false
  |false=>rh x l
def iV:List Nat→Bool
 | []=>true
 |x::l=>rh x l&&iV l
def Ol(k:Nat)(rn:List Nat)(σ τ:St):Prop:=oy (Nat.beq (k+rn.length) τ.m.length&&O0 (cY (rnm k rn) 0 τ.m)) (g9 (rnm k rn) σ.tm τ.tm∧BU (rnm k rn) σ.m 0 τ.m)
def abe(n:Nat)(K:Nat→Prop):Prop:=match n with
 |0=>K 0
 |m+1=>K (m+1)
def jF:List Nat→(List Nat→Prop)→Prop
 | [],K=>K []
 |x::l,K=>abe x fun x=>jF l fun l=>K (x::l)
theorem Lr: ∀ (l:List Nat) (K:List Nat→Prop),jF l K=K l
 | [],_=>rfl
 |0::l,K=>Lr l fun l=>K (0::l)
 |(m+1)::l,K=>Lr l fun l=>K ((m+1)::l)
def ye(k:Nat)(σ τ:St):Prop:=jF (mt k σ τ) fun rn=>Ol k rn σ τ
theorem YN(k:Nat)(σ τ:St):ye k σ τ=Ol k (mt k σ τ) σ τ:=Lr _ _
def Nm.by(β:Nm)(ρ:Rn):Nm:=⟨fun y=>(ρ y).bind β.nm,β.g⟩
def mW:Rn:=some
section
variable {β:Nm} {ρ:Rn}
theorem cg {x y b:Nat}(h:ρ y=some x)(k:β x=some b):(β.by ρ) y=some b:=by simp [Nm.by,h,k]
theorem Jd {a b:Lf} {v:Value}(h:ft ρ a b)(k:aq β a v):aq (β.by ρ) b v:=by
 by_cases hj:b= .bX
 ·subst hj;exact .bX k.kT
 ·cases k<;>cases b<;>simp only [ft] at h<;>first
   |exact h.elim
   |exact absurd rfl hj
   |exact .cb
   |exact .aj
   |(subst h;first|exact .bool|(refine .op ?_;assumption))
   |(obtain ⟨e,rfl⟩:=bR h;have:=of_decide_eq_true e;subst this;exact .int)
   |skip
  ·rename_i e y p;obtain ⟨h1,h2⟩:=fJ h;obtain ⟨h3,_⟩:=bR h2;have:=Nat.eq_of_beq_eq_true h3;subst this;exact .ptr (cg h1 e)
  ·rename_i e y p _ _ _;obtain ⟨h1,h2⟩:=fJ h;obtain ⟨h3,rfl,rfl⟩:=bR h2;have:=Nat.eq_of_beq_eq_true h3;subst this;exact .sl (cg h1 e)
  ·obtain ⟨⟨rfl,rfl⟩,rfl,rfl,rfl,rfl⟩:=h;exact .rs ⟨fun _=>rfl,Nat.le_refl _,.inl ⟨rfl,rfl,_,rfl⟩⟩
  ·obtain ⟨rfl,rfl,rfl,rfl⟩:=h;exact .rs ⟨fun _=>rfl,Nat.le_refl _,.inl ⟨rfl,rfl,_,rfl⟩⟩
  ·obtain ⟨rfl,rfl⟩:=h;exact .gv (.inr ⟨rfl,rfl⟩) rfl
  ·rename_i e _ _ _ _ _ _ _ _;obtain ⟨h1,h2⟩:=fJ h;obtain ⟨h3,⟨rfl,rfl,rfl,rfl,rfl⟩,h4⟩:=bR h2;have:=Nat.eq_of_beq_eq_true h3;subst this;obtain ⟨e1,e2,e3⟩:=e;refine .rs ⟨?_,e2,?_⟩
   ·intro ht;subst ht;unfold tgP at h4;split at h4
    ·exact e1 rfl
    ·exact h4
    ·rename_i hne _ _;exact absurd rfl (by assumption)
   ·rcases e3 with e3|⟨q1,b,q2,q3⟩
    ·exact .inl e3
    ·exact .inr ⟨q1,b,cg h1 q2,q3⟩
  ·rename_i e _ _ _ _ _;obtain ⟨h1,h2⟩:=fJ h;obtain ⟨h3,rfl,rfl⟩:=bR h2;rw [Bool.and_eq_true] at h3;have e1:=Nat.eq_of_beq_eq_true h3.1;have e2:=Nat.eq_of_beq_eq_true h3.2;subst e1;subst e2;exact .rp (cg h1 e)
  ·split at h
   ·rename_i hE hsh;clear hsh;subst hE;obtain ⟨rfl,h2⟩:=h;have h2:_=_:=h2;subst h2;exact .gv (by assumption) (by assumption)
   ·exact h.elim
  ·split at h
   ·rename_i hE hsh;clear hsh;subst hE;obtain ⟨rfl,h2,rfl,rfl⟩:=h;have h2:_=_:=h2;subst h2;exact .imp (by assumption) (by assumption)
   ·exact h.elim
  ·rename_i e y;obtain ⟨h1,h2⟩:=fJ h;exact .mp (cg h1 e)
  ·rename_i e t y p;obtain ⟨h1,h2⟩:=fJ h;obtain ⟨h3,_⟩:=bR h2;rw [Bool.and_eq_true] at h3;have e1:=Nat.eq_of_beq_eq_true h3.1;have e2:=Nat.eq_of_beq_eq_true h3.2;subst e1;subst e2;exact .xW (cg h1 e)
theorem L1 {a b:Lf} {l m:List Lf}(h:cC ρ (a::l) (b::m)):ft ρ a b∧cC ρ l m:=by
 cases l<;>cases m<;>first|exact ⟨h,trivial⟩|exact h
theorem qG: ∀ {l m:List Lf} {vs:List Value},cC ρ l m→ae (aq β) l vs→ae (aq (β.by ρ)) m vs
 | [],[],vs,_,k=>by rw [k.aI];exact .nil
 |a::l,b::m,vs,h,k=>by
  obtain ⟨v,vs,rfl,hv,k⟩:=k.cons_inv;obtain ⟨h1,h2⟩:=L1 h;exact .cons (Jd h1 hv) (qG h2 k)
 | [],_::_,_,h,_=>h.elim
 | [_],[],_,h,_=>h.elim
 |_::_::_,[],_,h,_=>h.elim
theorem Nr {a b:Vv} {v:Value}(h:xn ρ a b)(k:bC β a v):bC (β.by ρ) b v:=by
 cases k with
 |one k=>cases b with
  |one b=>exact .one (Jd h k)
  |agg b=>exact h.elim
 |agg k=>cases b with
  |one b=>exact h.elim
  |agg b=>exact .agg (qG h k)
theorem Rj {a b:Vv} {l m:List Vv}(h:yi ρ (a::l) (b::m)):xn ρ a b∧yi ρ l m:=by
 cases l<;>cases m<;>first|exact ⟨h,trivial⟩|exact h
theorem JJ: ∀ {l m:List Vv} {vs:List Value},yi ρ l m→ae (bC β) l vs→ae (bC (β.by ρ)) m vs
 | [],[],vs,_,k=>by rw [k.aI];exact .nil
 |a::l,b::m,vs,h,k=>by
  obtain ⟨v,vs,rfl,hv,k⟩:=k.cons_inv;obtain ⟨h1,h2⟩:=Rj h;exact .cons (Nr h1 hv) (JJ h2 k)
 | [],_::_,_,h,_=>h.elim
 | [_],[],_,h,_=>h.elim
 |_::_::_,[],_,h,_=>h.elim
theorem AB {a b:SV} {v:Value}(h:dm ρ a b)(k:Has β a v):Has (β.by ρ) b v:=by
 cases b with
 |bX=>exact .bX
 |v b=>cases k with
  |v k=>exact .v (Nr h k)
  |_=>exact h.elim
 |cz b=>cases k with
  |cz k=>exact .cz (JJ h k)
  |_=>exact h.elim
 |lO g b=>cases k with
  |lO k=>obtain ⟨e,h1⟩:=bR h;clear h;have:=Nat.eq_of_beq_eq_true e;subst this;exact .lO (qG h1 k)
  |_=>exact h.elim
 |xX n t y p=>cases k with
  |xX k=>
   obtain ⟨h1,rfl,rfl,rfl⟩:=fJ h;exact .xX (cg h1 k)
  |_=>exact h.elim
theorem Rd {a b:SV} {l m:List SV}(h:g9 ρ (a::l) (b::m)):dm ρ a b∧g9 ρ l m:=by
 cases b with
 |bX=>exact ⟨by cases a<;>trivial,h⟩
 |_=>exact h
theorem oU: ∀ {l m:List SV} {vs:List Value},g9 ρ l m→ae (Has β) l vs→ae (Has (β.by ρ)) m vs
 | [],[],vs,_,k=>by rw [k.aI];exact .nil
 |a::l,b::m,vs,h,k=>by
  obtain ⟨v,vs,rfl,hv,k⟩:=k.cons_inv;obtain ⟨h1,h2⟩:=Rd h;exact .cons (AB h1 hv) (oU h2 k)
 | [],_::_,_,h,_=>h.elim
 |_::_,[],_,h,_=>h.elim
theorem qm {m:Mem}: ∀ {l:Mem} {y i:Nat} {b:bG},BU ρ m y l→l[i]? =some (some b)→WH ρ (zn m (ρ (y+i))) (some b)
 | [],y,i,b,_,e=>by simp at e
 |none::l,y,0,b,h,e=>by simp at e
 |none::l,y,i+1,b,h,e=>by
  have:=qm (y:=y+1) (i:=i) h (by simpa using e)
  rwa [show y+1+i=y+(i+1) by omega] at this
 |some c::l,y,0,b,h,e=>by
  simp at e;subst e;exact h.1
 |some c::l,y,i+1,b,h,e=>by
  have:=qm (y:=y+1) (i:=i) h.2 (by simpa using e)
  rwa [show y+1+i=y+(i+1) by omega] at this
theorem vU {a b:Bool}(h:a3X a b=true)(k:b=false):a=false:=by
 subst k;cases a with
 |false=>rfl
 |true=>cases h
theorem aP.UH {β:Nm} {ρ:Rn}: ∀ {sh:List Kd} {r:Row sh},aP β sh r→aP (β.by ρ) sh r
 | [],_,_=>trivial
 | .im _::l,r,k=>⟨k.1,aP.UH (sh:=l) k.2⟩
 | .int _::l,r,k=>aP.UH (sh:=l) (r:=r.2) k
 | .bool::l,r,k=>aP.UH (sh:=l) (r:=r.2) k
 | .str::l,r,k=>aP.UH (sh:=l) (r:=r.2) k
theorem aN.UH {β:Nm} {ρ:Rn} {sh:List Kd} {xs:List (Row sh)}(h:aN β sh xs):aN (β.by ρ) sh xs:=fun r hr=>(h r hr).UH
theorem cw.UH {β:Nm} {ρ:Rn} {ks:List Kd} {ka:Bool} {vs:List Kd} {va:Bool} {es:List (Row ks×Row vs×Nat)} {clk:Nat} {o:Option Obj}(h:cw β (.map ks ka vs va es clk) o):cw (β.by ρ) (.map ks ka vs va es clk) o:=
 ⟨h.1,fun e he=>(h.2 e he).UH⟩
theorem yz {m:Mem} {w:World}(hs:Sat β m w) {x:Option Nat} {c:bG}(h:WH ρ (zn m x) (some c)):
  c.dead∨ ∃z b,x=some z∧m[z]? =some (some b)∧ ¬b.dead∧(c.rw→b.rw)∧ ∃a,β z=some a∧cw (β.by ρ) c w.heap[a]? :=by
 have src: ∀ {b},zn m x=some b→ ∃z,x=some z∧m[z]? =some (some b):=by
  intro b hb;cases x with
  |none=>cases hb
  |some z=>exact ⟨z,rfl,aH hb⟩
 cases c with
 |cells l t=>
  cases hb:zn m x with
  |none=>rw [hb] at h;exact h.elim
  |some b=>
   rw [hb] at h;cases b with
   |rows=>exact h.elim
   |loop=>exact h.elim
   |map=>exact h.elim
   |it=>exact h.elim
   |cells l' t'=>
    obtain ⟨z,rfl,hz⟩:=src hb;obtain ⟨e1,h1⟩:=bR h;have:=Nat.eq_of_beq_eq_true e1;subst this;obtain ⟨a,ha,vs,hob,hv⟩:=hs.cells hz;exact .inr ⟨z,_,rfl,hz,id,fun _=>trivial,a,ha,vs,hob,qG h1 hv⟩
 |loop r j=>
  cases hb:zn m x with
  |none=>rw [hb] at h;exact h.elim
  |some b=>
   rw [hb] at h;cases b with
   |rows=>exact h.elim
   |cells=>exact h.elim
   |map=>exact h.elim
   |it=>exact h.elim
   |loop r' j'=>
    obtain ⟨z,rfl,hz⟩:=src hb;obtain ⟨rfl,rfl⟩:=h;obtain ⟨a,ha,hB⟩:=hs.live hz id;exact .inr ⟨z,_,rfl,hz,id,fun _=>trivial,a,ha,hB⟩
 |it x' since seen last=>
  cases hb:zn m x with
  |none=>rw [hb] at h;exact h.elim
  |some b=>
   rw [hb] at h;cases b with
   |rows=>exact h.elim
   |cells=>exact h.elim
   |loop=>exact h.elim
   |map=>exact h.elim
   |it y since' seen' last'=>
    obtain ⟨z,rfl,hz⟩:=src hb;obtain ⟨h1,rfl,rfl,rfl⟩:=fJ h;obtain ⟨a,ha,b,hb1,hob⟩:=hs.live hz id;exact .inr ⟨z,_,rfl,hz,id,fun _=>trivial,a,ha,b,cg h1 hb1,hob⟩
 |map ks ka vs va es clk=>
  cases hb:zn m x with
  |none=>rw [hb] at h;exact h.elim
  |some b=>
   rw [hb] at h;cases b with
   |rows=>exact h.elim
   |cells=>exact h.elim
   |loop=>exact h.elim
   |it=>exact h.elim
   |map ks' ka' vs' va' es' clk'=>
    obtain ⟨z,rfl,hz⟩:=src hb;obtain ⟨e1,h1⟩:=bR h;rw [Bool.and_eq_true] at e1;have q1:=fw e1.1;have q2:=fw e1.2;subst q1;subst q2;split at h1
    ·rename_i hE hE' hs1 hs2;clear hs1 hs2;subst hE;subst hE';obtain ⟨h1,rfl⟩:=h1;have h1:es'=es:=h1;subst h1;obtain ⟨a,ha,hB⟩:=hs.live hz id;exact .inr ⟨z,_,rfl,hz,id,fun _=>trivial,a,ha,hB.UH⟩
    ·exact h1.elim
 |rows ro z sh xs base tot t=>
  have dd: ∀ {b:Option bG},zn m x=b→(z=true∧xs= [])→bG.dead (.rows ro z sh xs base tot t):=fun _ k=>k;cases hb:zn m x with
  |none=>rw [hb] at h;exact .inl h
  |some b=>
   rw [hb] at h;cases b with
   |cells=>exact .inl h
   |loop=>exact .inl h
   |map=>exact .inl h
   |it=>exact .inl h
   |rows ro' z' sh' xs' base' tot' t'=>
    obtain ⟨y,rfl,hy⟩:=src hb;obtain ⟨e1,h1⟩:=bR h;rw [Bool.and_eq_true] at e1;have e2:ro=false→t'=t:=by
     intro hr;subst hr;exact Nat.eq_of_beq_eq_true e1.2
    have e3:=e1.1;split at h1
    ·rename_i hE hshE;clear hshE;subst hE;obtain ⟨rfl,rfl,rfl,hx⟩:=h1;rw [dN] at hx;rcases hs.dz y _ hy with ⟨k1,k2⟩|⟨a,ha,hz,vs,fz,t2,hob,hfz,hR,hRo⟩
     ·left;subst k2;exact ⟨k1,by rw [←hx];simp⟩
     ·right;subst hz;refine ⟨y,_,rfl,hy,fun hd=>(by cases hd.1),fun hr=>⟨vU e3 hr.1,rfl⟩,a,ha,rfl,vs,fz,t2,hob,fun hr=>⟨(hfz (vU e3 hr)).1,(hfz (vU e3 hr)).2.trans (e2 hr)⟩,?_,by rw [←hx];exact ((hRo.take _).UH)⟩
      rw [dT.iff] at hR ⊢;obtain ⟨r1,r2,r3⟩:=hR;have hl:xs.length≤xs'.length:=by rw [←hx];simp;omega
      refine ⟨by omega,r2,fun i r hi j hj=>r3 i r ?_ j hj⟩
      rw [←hx,List.getElem?_take] at hi;split at hi
      ·exact hi
      ·cases hi
    ·exact h1.elim
theorem jY {x:Nat}: ∀ {l:List Nat},rh x l=true→ ∀y∈l,x≠y
 | [],_,y,hy=>by simp at hy
 |z::l,h,y,hy=>by
  unfold rh at h;split at h
  ·cases h
  ·rename_i e;rcases List.mem_cons.1 hy with rfl|hy
   ·exact Nat.ne_of_beq_eq_false e
   ·exact jY h y hy
theorem apart_spec {x:Nat} {r:Bool}: ∀ {l:List (Nat×Bool)},apart x r l=true→ ∀q,(x,q)∈l→r=true∧q=true
 | [],_,q,h=>by simp at h
 |(y,q0)::l,h,q,hm=>by
  unfold apart at h;split at h
  ·rename_i e;have:=Nat.eq_of_beq_eq_true e;subst this;split at h
   ·split at h
    ·rcases List.mem_cons.1 hm with e1|hm
     ·cases e1;exact ⟨rfl,rfl⟩
     ·exact apart_spec h q hm
    ·cases h
   ·cases h
  ·rename_i e;rcases List.mem_cons.1 hm with e1|hm
   ·cases e1;exact absurd rfl (Nat.ne_of_beq_eq_false e)
   ·exact apart_spec h q hm
theorem nO: ∀ {m:Mem} {y i:Nat} {b:bG} {x:Nat},m[i]? =some (some b)→ρ (y+i)=some x→(x,b.K0)∈cY ρ y m
 | [],y,i,b,x,h,_=>by simp at h
 |none::m,y,0,b,x,h,_=>by simp at h
 |none::m,y,i+1,b,x,h,hx=>nO (m:=m) (y:=y+1) (i:=i) (by simpa using h) (by rw [show y+1+i=y+(i+1) by omega];exact hx)
 |some c::m,y,0,b,x,h,hx=>by
  unfold cY;rw [Nat.add_zero] at hx;rw [hx];simp at h;simp [h]
 |some c::m,y,i+1,b,x,h,hx=>by
  have:=nO (m:=m) (y:=y+1) (i:=i) (x:=x) (b:=b) (by simpa using h) (by rw [show y+1+i=y+(i+1) by omega];exact hx)
  unfold cY;split
  ·exact List.mem_cons_of_mem _ this
  ·exact this
theorem ZP {b:bG}(h:b.rw):b.K0=false:=by
 cases b with
 |cells=>rfl
 |rows=>exact h.1
 |loop=>rfl
 |map=>rfl
 |it=>rfl
theorem uW: ∀ {m:Mem} {y i j:Nat} {b c:bG} {x:Nat},O0 (cY ρ y m)=true→m[i]? =some (some b)→m[j]? =some (some c)→ρ (y+i)=some x→ρ (y+j)=some x→b.K0=false∨c.K0=false→i=j
 | [],y,i,j,b,c,x,_,h,_,_,_,_=>by simp at h
 |none::m,y,0,j,b,c,x,_,h,_,_,_,_=>by simp at h
 |none::m,y,i+1,0,b,c,x,_,_,h,_,_,_=>by simp at h
 |none::m,y,i+1,j+1,b,c,x,hn,h,h',e,e',hr=>by
  have:=uW (m:=m) (y:=y+1) (i:=i) (j:=j) (x:=x) hn (by simpa using h) (by simpa using h') (by rw [show y+1+i=y+(i+1) by omega];exact e) (by rw [show y+1+j=y+(j+1) by omega];exact e') hr
  omega
 |some d::m,y,0,0,b,c,x,_,_,_,_,_,_=>rfl
 |some d::m,y,0,j+1,b,c,x,hn,h,h',e,e',hr=>by
  rw [Nat.add_zero] at e;unfold cY at hn;rw [e] at hn;simp only [O0,Bool.and_eq_true] at hn;have:=nO (m:=m) (y:=y+1) (i:=j) (x:=x) (b:=c) (by simpa using h') (by rw [show y+1+j=y+(j+1) by omega];exact e')
  obtain ⟨r1,r2⟩:=apart_spec hn.1 _ this;simp at h;subst h;rcases hr with hr|hr
  ·rw [hr] at r1;cases r1
  ·rw [hr] at r2;cases r2
 |some d::m,y,i+1,0,b,c,x,hn,h,h',e,e',hr=>by
  rw [Nat.add_zero] at e';unfold cY at hn;rw [e'] at hn;simp only [O0,Bool.and_eq_true] at hn;have:=nO (m:=m) (y:=y+1) (i:=i) (x:=x) (b:=b) (by simpa using h) (by rw [show y+1+i=y+(i+1) by omega];exact e)
  obtain ⟨r1,r2⟩:=apart_spec hn.1 _ this;simp at h';subst h';rcases hr with hr|hr
  ·rw [hr] at r2;cases r2
  ·rw [hr] at r1;cases r1
 |some d::m,y,i+1,j+1,b,c,x,hn,h,h',e,e',hr=>by
  have hn':O0 (cY ρ (y+1) m)=true:=by
   unfold cY at hn;split at hn
   ·simp only [O0,Bool.and_eq_true] at hn;exact hn.2
   ·exact hn
  have:=uW (m:=m) (y:=y+1) (i:=i) (j:=j) (x:=x) hn' (by simpa using h) (by simpa using h') (by rw [show y+1+i=y+(i+1) by omega];exact e) (by rw [show y+1+j=y+(j+1) by omega];exact e') hr
  omega
end
theorem Sat.uK {β:Nm} {ρ:Rn} {m τ:Mem} {w:World}(h:Sat β m w)(hl: ∀y x,ρ y=some x→y<τ.length)(hn:O0 (cY ρ 0 τ)=true)(hm:BU ρ m 0 τ):Sat (β.by ρ) τ w:=by
 have key: ∀ {x:Nat} {b:bG},τ[x]? =some (some b)→b.dead∨ ∃z c,ρ x=some z∧m[z]? =some (some c)∧ ¬c.dead∧(b.rw→c.rw)∧ ∃a,β z=some a∧cw (β.by ρ) b w.heap[a]? :=by
  intro x b hb;have:=qm hm hb;rw [Nat.zero_add] at this;exact yz h this
 refine ⟨fun x b hb=>?_,?_,fun x a hx=>?_,h.gl,?_,?_⟩
 rotate_left 4
 ·intro sh v xs e;obtain ⟨h0,c,hc,h1⟩:=h.im sh v xs e;refine ⟨h0.UH,c,hc,h1.imp id ?_⟩;rintro ⟨b,base,vs,t,fz,h2,h3,h4,h5⟩;refine ⟨b,base,vs,t,fz,h2,h3,h4,?_⟩;rintro y ⟨c,hc,hr⟩ hy;obtain ⟨z,b',hz,hb',hbd',hrw,a1,ha1,_⟩:=(key hc).resolve_left hr.alive;have e1:=cg (β:=β) hz ha1;rw [hy] at e1;cases e1;exact h5 z ⟨b',hb',hrw hr⟩ ha1
 ·rcases key hb with hd|⟨z,c,hz,_,_,_,a,ha,hB⟩
  ·exact .inl hd
  ·exact .inr ⟨a,cg hz ha,hB⟩
 ·rintro x y a ⟨b,hb,hbr⟩ ⟨c,hc,hcd⟩ hx hy;obtain ⟨z,b',hz,hb',hbd',hrw,a1,ha1,_⟩:=(key hb).resolve_left hbr.alive;obtain ⟨z2,c',hz2,hc',hcd',_,a2,ha2,_⟩:=(key hc).resolve_left hcd;have e1:=cg (β:=β) hz ha1;have e2:=cg (β:=β) hz2 ha2;rw [hx] at e1;cases e1;rw [hy] at e2;cases e2;have:=h.inj z z2 a ⟨b',hb',hrw hbr⟩ ⟨c',hc',hcd'⟩ ha1 ha2;subst this;exact uW (y:=0) hn hb hc (by rw [Nat.zero_add];exact hz) (by rw [Nat.zero_add];exact hz2) (.inl (ZP hbr))
 ·simp only [Nm.by,Option.bind_eq_some_iff] at hx;obtain ⟨z,hz,_⟩:=hx;exact hl x z hz
 ·rintro x a ⟨b,hb,hbr⟩ hx;obtain ⟨z,b',hz,hb',hbd',hrw,a1,ha1,_⟩:=(key hb).resolve_left hbr.alive;have e1:=cg (β:=β) hz ha1;rw [hx] at e1;cases e1;exact h.ng z a ⟨b',hb',hrw hbr⟩ ha1
theorem ai.uK {m0 m τ:Mem} {β0 β:Nm} {ρ:Rn} {w0 w:World}(hs0:Sat β0 m0 w0)(hs:Sat β m w)(h:ai m0 β0 w0 m β w)(hid: ∀y,y<m0.length→ρ y=some y)(hl:m0.length≤τ.length)(hm:BU ρ m 0 τ):ai m0 β0 w0 τ (β.by ρ) w:=by
 have key: ∀ {q:Bool} {x:Nat},kq q τ x→ ∃z,ρ x=some z∧kq q m z∧ ∃a,β z=some a:=by
  rintro q x ⟨b,hb,hr⟩;have:=qm hm hb;rw [Nat.zero_add] at this;obtain ⟨z,c,hz,hc,hcd,hrw,a,ha,_⟩:=(yz hs this).resolve_left hr.alive;refine ⟨z,hz,⟨c,hc,?_⟩,a,ha⟩;cases q with
  |true=>exact hrw hr
  |false=>exact hcd
 refine ⟨?_,fun y hy=>by show (ρ y).bind β.nm=_;rw [hid y hy];exact h.same y hy,hl,?_,?_,h.os,h.tape,h.output,h.size,h.frame,h.WR⟩
 ·exact ⟨fun y b hb=>cg (hid y (hs0.CC y b hb)) (h.ext y b hb),h.ext.g⟩
 ·intro q x hx hk;obtain ⟨z,hz,hkz,a,ha⟩:=key hk;refine ⟨a,cg hz ha,?_⟩;rcases Nat.lt_or_ge z m0.length with hlt|hge
  ·have k0:=h.sub q z hlt hkz;obtain ⟨a0,ha0,_⟩:=hs0.zA k0.kn;have:=h.ext _ _ ha0;rw [ha] at this;cases this;exact .inr ⟨z,k0,ha0⟩
  ·obtain ⟨a',ha',hor⟩:=h.new q z hge hkz;rw [ha] at ha';cases ha';exact hor
 ·intro q x hx hk;obtain ⟨z,hz,hkz,_⟩:=key hk;rw [hid x hx] at hz;cases hz;exact h.sub q x hx hkz
theorem a3V {k:Nat} {rn:List Nat} {y x:Nat}(h:rnm k rn y=some x):y<k+rn.length:=by
 unfold rnm at h;split at h
 ·rename_i e;rw [Nat.blt_eq] at e;omega
 ·have:=(List.getElem?_eq_some_iff.1 h).1;omega
theorem a3u {k:Nat} {rn:List Nat} {y:Nat}(h:y<k):rnm k rn y=some y:=by
 unfold rnm;rw [show Nat.blt y k=true by rw [Nat.blt_eq];exact h]
theorem LO {k:Nat} {rn:List Nat} {σ τ:St}(h:Ol k rn σ τ): ∃ρ:Rn,(∀y,y<k→ρ y=some y)∧(∀y x,ρ y=some x→y<τ.m.length)∧k≤τ.m.length∧O0 (cY ρ 0 τ.m)=true∧g9 ρ σ.tm τ.tm∧BU ρ σ.m 0 τ.m:=by
 unfold Ol at h;obtain ⟨h1,h2,h3⟩:=bR h;rw [Bool.and_eq_true] at h1;have hl:=Nat.eq_of_beq_eq_true h1.1;exact ⟨_,fun y hy=>a3u hy,fun y x hx=>by have:=a3V hx;omega,by omega,h1.2,h2,h3⟩
theorem PV {k:Nat} {σ τ:St}(h:ye k σ τ): ∃ρ:Rn,(∀y,y<k→ρ y=some y)∧(∀y x,ρ y=some x→y<τ.m.length)∧k≤τ.m.length∧O0 (cY ρ 0 τ.m)=true∧g9 ρ σ.tm τ.tm∧BU ρ σ.m 0 τ.m:=LO ((YN _ _ _).mp h)
theorem Fit.le {bs:Nat} {k:Nat} {m0:Mem} {β0 β:Nm} {w0 w:World} {σ τ:St} {a:Act}(hk:m0.length=k)(hs0:Sat β0 m0 w0)(h:Fit bs σ β a w)(hsi:ai m0 β0 w0 σ.m β w)(hle:ye k σ τ):
  ∃γ,Fit bs τ γ a w∧ai m0 β0 w0 τ.m γ w:=by
 obtain ⟨ρ,h1,h2,h3,h4,h5,h6⟩:=PV hle;subst hk;exact ⟨β.by ρ,⟨oU h5 h.tm,h.sat.uK h2 h4 h6,h.df⟩,ai.uK hs0 h.sat hsi h1 h3 h6⟩
theorem gq {p:Nat→Prop}(h: ∃n,p n): ∃n,p n∧ ∀m,m<n→ ¬p m:=by
 obtain ⟨n,hn⟩:=h
 induction n using Nat.strongRecOn with
 |_ n ih=>
  by_cases e: ∃m,m<n∧p m
  ·obtain ⟨m,hm,hp⟩:=e;exact ih m hm hp
  ·exact ⟨n,hn,fun m hm hp=>e ⟨m,hm,hp⟩⟩
open Classical in
noncomputable def least(p:Nat→Prop):Nat:=if h: ∃n,p n then Classical.choose (gq h) else 0
theorem Ax {p:Nat→Prop} {n:Nat}(h:p n):p (least p)∧least p≤n:=by
 have hx: ∃n,p n:=⟨n,h⟩;have e:least p=Classical.choose (gq hx):=by unfold least;rw [dif_pos hx]
 have sp:=Classical.choose_spec (gq hx);rw [←e] at sp;refine ⟨sp.1,?_⟩;rcases Nat.lt_or_ge n (least p) with hl|hl
 ·exact absurd h (sp.2 n hl)
 ·exact hl
theorem ES {F:Fence} {n:Nat} {P:Program} {c:Code} {Q:Exit→Act→World→Prop} {S:Type}(R:S→Act→World→Prop)(mu:S→Nat) {s:S} {a:Act} {w:World}(h0:R s a w)
  (round: ∀s a w,R s a w→c.wpIn F n P (Exit.then (fun a' w'=> ∃s',R s' a' w'∧mu s'<mu s) Q) a w):(Code.loop c).wpIn F n P Q a w:=by
 refine wpIn_loop (fun a w=> ∃s,R s a w) (fun a w=>least fun n=> ∃s,R s a w∧mu s=n) ⟨s,h0⟩ ?_;rintro a w ⟨s,hs⟩;obtain ⟨⟨s1,h1,e1⟩,_⟩:=Ax (p:=fun n=> ∃s,R s a w∧mu s=n) ⟨s,hs,rfl⟩;refine wpIn_mono (round s1 a w h1) ?_;intro e a' w' hq;cases e with
 |normal=>
  obtain ⟨s',h',hl⟩:=hq;refine ⟨⟨s',h'⟩,?_⟩;have:=(Ax (p:=fun n=> ∃s,R s a' w'∧mu s=n) ⟨s',h',rfl⟩).2;show least _<least _;omega
 |_=>exact hq
end Go.Proofs.YtfdmjoddhjmokaaGreatDoor.Rex
namespace Go.Proofs.YtfdmjoddhjmokaaGreatDoor.Rex
open Go.RowKit
set_option linter.unusedVariables false
set_option linter.unusedSimpArgs false
def FV(ms:List Nat):List Edge→Option Nat
 | []=>some 0
 |e::l=>match FV ms l with
  |none=>none
  |some m=>match Region.binds .any e with
   |false=>some m
   |true=>match ms[e.on]? with
    |some k=>some (m ||| (2^e.on ||| k))
    |none=>none
def Nt:List Oper→List Nat→Option (List Nat)
 | [],ms=>some ms
 |o::l,ms=>match FV ms o.after.toList with
  |some m=>Nt l (ms++ [m])
  |none=>none
structure fk where
 p:Option Prop
 s:SV
 b:Option bG
 st:Option (Nat×Nat×List Lf)
def J7(t:Tmp):Nat→List Oper→Option Nat
 |_,[]=>none
 |j,o::l=>match o.dst with
  |none=>J7 t (j+1) l
  |some d=>match Nat.beq d t with
   |true=>some j
   |false=>J7 t (j+1) l
def rK:List Oper→Bool
 | []=>true
 |o::l=>(match o.dst with
  |none=>true
  |some t=>match J7 t 0 l with
   |none=>true
   |some _=>false)&&rK l
def wI(n:Nat):List Oper→Bool
 | []=>true
 |o::l=>(match o.dst with
  |none=>true
  |some t=>Nat.blt t n)&&wI n l
theorem kL {n:Nat}: ∀ {l:List Oper},wI n l=true→ ∀o∈l,∀t,o.dst=some t→t<n
 | [],_,o,ho,_,_=>by simp at ho
 |p::l,h,o,ho,t,ht=>by
  unfold wI at h;rw [Bool.and_eq_true] at h;rcases List.mem_cons.1 ho with rfl|ho
  ·have h1:=h.1;rw [ht] at h1;simpa [Nat.blt_eq] using h1
  ·exact kL h.2 o ho t ht
def jG(rest:List Nat)(i:Nat)(j:Nat):Bool:=match Nat.blt i j with
 |true=>match rest[j-(i+1)]? with
  |some m=>m.testBit i
  |none=>false
 |false=>false
def Tg(ops:List Oper)(tm0:List SV)(acc:List fk)(late:Nat→Bool)(mask:Nat)(x:Operand):Option SV:=match x with
 | .tmp t=>match J7 t 0 ops with
  |some j=>match mask.testBit j with
   |true=>match acc[j]? with
    |some e=>match e.s with
     | .bX=>none
     |s=>some s
    |none=>none
   |false=>match late j with
    |true=>ev tm0 (.tmp t)
    |false=>none
  |none=>ev tm0 (.tmp t)
 |x=>ev tm0 x
def xT(n:Nat):List Lf:=List.replicate n .bX
def pq(l:List Lf)(off:Nat)(cs:List Lf):List Lf:=(gm l off cs).take l.length
def ZB(mask x j:Nat)(e:fk)(l:List Lf):List Lf:=match e.st with
 |some (y,off,cs)=>match Nat.beq y x with
  |true=>match mask.testBit j with
   |true=>pq l off cs
   |false=>pq l off (xT cs.length)
  |false=>l
 |none=>l
def My(mask x:Nat):Nat→List fk→List Lf→List Lf
 |_,[],l=>l
 |j,e::es,l=>My mask x (j+1) es (ZB mask x j e l)
def No(i x:Nat)(f:Option (Nat×Nat×Nat))(mj:Nat)(l:List Lf):List Lf:=match f with
 |some (y,off,n)=>match Nat.beq y x with
  |true=>match mj.testBit i with
   |true=>l
   |false=>pq l off (xT n)
  |false=>l
 |none=>l
def Dw(i x:Nat):List (Option (Nat×Nat×Nat)×Nat)→List Lf→List Lf
 | [],l=>l
 |(f,mj)::fs,l=>Dw i x fs (No i x f mj l)
def JX(m0:Mem)(acc:List fk)(mask:Nat)(x:Nat):Option bG:=match Nat.blt x m0.length with
 |true=>bP m0 x
 |false=>match mask.testBit (x-m0.length) with
  |true=>match acc[x-m0.length]? with
   |some e=>e.b
   |none=>none
  |false=>none
def yL(m0:Mem)(acc:List fk)(mask:Nat)(later:List (Option (Nat×Nat×Nat)×Nat))(x:Nat):Option bG:=match JX m0 acc mask x with
 |some (.cells l t)=>some (.cells (Dw acc.length x later (My mask x 0 acc l)) t)
 |some (.rows ro z sh xs base tot t)=>some (.rows ro z sh xs base tot t)
 |some (.loop r j)=>some (.loop r j)
 |some (.map ks ka vs va es clk)=>some (.map ks ka vs va es clk)
 |some (.it x since seen last)=>some (.it x since seen last)
 |none=>none
inductive DR where
 |ok (acc:List fk) (tail:List Oper)
 |split (j:Nat) (b:Bool)
 |fail
def asBool:SV→Option (Bool×Bool)
 | .v (.one (.bool kn b))=>some (kn,b)
 |_=>none
inductive GD where
 |run
 |skip
 |split (j:Nat) (b:Bool)
 |fail
def lL(ops:List Oper)(tm0:List SV)(acc:List fk)(late:Nat→Bool)(mask:Nat):Option (Nat×Bool)→GD
 |none=> .run
 |some (j,want)=>match ops[j]? with
  |some oj=>match oj.dst with
   |some t=>match Tg ops tm0 acc late mask (.tmp t) with
    |some (.v (.one (.bool kn b)))=>match kn with
     |true=>match decide (b=want) with
      |true=> .run
      |false=> .skip
     |false=> .split j b
    |some (.cz [])=> .skip
    |_=> .fail
   |none=> .fail
  |none=> .fail
def stE(P:Program)(ev:Operand→Option SV)(mm:Nat→Option bG)(o:Op):Option fk:=match o with
 | .store t a x=>match ev a,ev x with
  |some (.v (.one (.ptr y off))),some (.v u)=>match mm y with
   |some (.cells l _)=>match bI P t with
    |some n=>match (decide (u.cells.length=n)&&decide (off+n≤l.length)) with
     |true=>some ⟨none,.cz [],none,some (y,off,u.cells)⟩
     |false=>none
    |none=>none
   |_=>none
  |_,_=>none
 |_=>none
def IL(C:Ctx)(ev:Operand→Option SV)(mm:Nat→Option bG)(o:Op):Option fk:=match o with
 | .call c=>match c.callee with
  | .value f=>match ev f with
   |some (.lO id [])=>match omap ev c.args.toList with
    |some (.v (.one (.ptr y 0))::rest)=>match mm y with
     |some (.cells l t)=>match find C.B id with
      |some bc=>match bc rest l t with
       |some (p,s,new)=>match Nat.beq new.length l.length with
        |true=>some ⟨p,s,none,some (y,0,new)⟩
        |false=>none
       |none=>none
      |none=>none
     |_=>none
    |_=>none
   |_=>none
  |_=>none
 |_=>none
def dr(C:Ctx)(ops:List Oper)(tm0:List SV)(m0:Mem)(asm:List (Nat×Bool)):List Oper→List Nat→List (Option (Nat×Nat×Nat))→List fk→DR
 | [],_,_,acc=> .ok acc []
 |_::_,[],_,_=> .fail
 |o::rest,mask::ms,fs,acc=>match lL ops tm0 acc (jG ms acc.length) mask o.guard with
  | .fail=> .fail
  | .split j b=> .split j b
  | .skip=>dr C ops tm0 m0 asm rest ms fs.tail (acc++ [⟨none,.cz [],none,none⟩])
  | .run=>match Mg C.M C.P C.Γ ⟨Tg ops tm0 acc (jG ms acc.length) mask,yL m0 acc mask (fs.tail.zip ms)⟩ (m0.length+acc.length) o.op with
   |none=>match stE C.P (Tg ops tm0 acc (jG ms acc.length) mask) (yL m0 acc mask (fs.tail.zip ms)) o.op with
    |none=>match IL C (Tg ops tm0 acc (jG ms acc.length) mask) (yL m0 acc mask (fs.tail.zip ms)) o.op with
     |none=> .ok acc (o::rest)
     |some e=>dr C ops tm0 m0 asm rest ms fs.tail (acc++ [e])
    |some e=>dr C ops tm0 m0 asm rest ms fs.tail (acc++ [e])
   |some (p,s,b)=>match find asm acc.length with
    |none=>dr C ops tm0 m0 asm rest ms fs.tail (acc++ [⟨p,s,b,none⟩])
    |some t=>match asBool s with
     |some (_,b')=>dr C ops tm0 m0 asm rest ms fs.tail (acc++ [⟨Vb (b'=t) p,lb true t,b,none⟩])
     |none=> .fail
def Kt(e:fk):Option (Nat×Nat×Nat):=match e.st with
 |some (y,off,cs)=>some (y,off,cs.length)
 |none=>none
def Bp(acc:List fk):List (Option (Nat×Nat×Nat)):=acc.map Kt
def L2:Option (Nat×Nat×Nat)→Option (Nat×Nat×Nat)→Bool
 |none,none=>true
 |some (a,b,c),some (d,e,f)=>Nat.beq a d&&(Nat.beq b e&&Nat.beq c f)
 |_,_=>false
def yM:List (Option (Nat×Nat×Nat))→List (Option (Nat×Nat×Nat))→Bool
 | [],[]=>true
 |a::l,b::m=>L2 a b&&yM l m
 |_,_=>false
def Nx(i:Nat)(e:fk):List fk→List Nat→Bool
 | [],_=>true
 |_,[]=>true
 |d::l,m::ms=>(match e.st,d.st with
  |some (y,off,cs),some (z,off',cs')=> !(Nat.beq y z)||(Nat.ble (off+cs.length) off'||(Nat.ble (off'+cs'.length) off||m.testBit i))
  |_,_=>true)&&Nx i e l ms
def Gd:Nat→List fk→List Nat→Bool
 |_,[],_=>true
 |_,_,[]=>true
 |i,e::l,_::ms=>Nx i e l ms&&Gd (i+1) l ms
def SK:List fk→Bool
 | []=>true
 |e::l=>(match e.st with
  |none=>true
  |some _=>false)&&SK l
def obl:List fk→Prop→Prop
 | [],q=>q
 |e::l,q=>IQ e.p (obl l q)
def fj(ops:List Oper)(acc:List fk):Nat→List SV→List SV
 |_,[]=> []
 |t,s::l=>(match J7 t 0 ops with
  |some j=>match acc[j]? with
   |some e=>e.s
   |none=>s
  |none=>s)::fj ops acc (t+1) l
def fm(listed:Array Bool)(x j:Nat)(e:fk)(l:List Lf):List Lf:=match e.st with
 |some (y,off,cs)=>match Nat.beq y x with
  |true=>match listed.getD j false with
   |true=>pq l off cs
   |false=>l
  |false=>l
 |none=>l
def bJ(listed:Array Bool)(x:Nat):Nat→List fk→List Lf→List Lf
 |_,[],l=>l
 |j,e::es,l=>bJ listed x (j+1) es (fm listed x j e l)
def gU(listed:Array Bool)(acc:List fk)(k:Nat):Option bG→Option bG
 |some (.cells l t)=>some (.cells (bJ listed k 0 acc l) t)
 |some (.rows ro z sh xs base tot t)=>some (.rows ro z sh xs base tot t)
 |some (.loop r j)=>some (.loop r j)
 |some (.map ks ka vs va es clk)=>some (.map ks ka vs va es clk)
 |some (.it x since seen last)=>some (.it x since seen last)
 |none=>none
def uC(listed:Array Bool)(acc:List fk):Nat→Mem→Mem
 |_,[]=> []
 |k,b::m=>gU listed acc k b::uC listed acc (k+1) m
def aC(k n:Nat):Array Bool:=⟨List.replicate k true++List.replicate (n-k) false⟩
def po(n:Nat):Nat→List Nat→Bool
 |_,[]=>true
 |i,m::ms=>(Nat.blt i n||Nat.beq m (2^i-1))&&po n (i+1) ms
def uc:fk:=⟨none,.bX,none,none⟩
def Wb:Op→Bool
 | .move _=>true
 | .nilCheck _=>true
 | .fieldAddr _ _ _=>true
 |_=>false
def noG(o:Oper):Bool:=match o.guard with
 |none=>true
 |some _=>false
def b6(k n m:Nat):Array Bool:=(aC n m).setIfInBounds k false
def KW(ops:List Oper)(k m:Nat):Nat→List Oper→Bool
 |_,[]=>true
 |i,o::l=>(Nat.beq i k||((m.testBit i&&Nat.blt i k)||(Wb o.op&&(noG o&&(!(o.after.toList.any fun e=>Region.binds .any e&&Nat.beq e.on k)&&Region.free .any ⟨ops⟩ (b6 k i ops.length) i)))))&&KW ops k m (i+1) l
def isHole(acc:List fk)(k:Nat):Bool:=match acc[k]? with
 |some e=>(match e.s with
  | .bX=>true
  |_=>false)&&(match e.b with
  |none=>true
  |some _=>false)
 |none=>false
def Vs(ops:List Oper)(ms:List Nat)(k n tl:Nat):Bool:=
 Nat.blt k n&&((match ms[k]? with
  |some m=>KW ops k m 0 (ops.take n)
  |none=>false)&&(Region.noSelect ⟨ops⟩&&
  (decide (Region.ready .any ⟨ops⟩ (b6 k n ops.length)= [k])&&Region.seqB .any ⟨ops⟩ tl n ((b6 k n ops.length).setIfInBounds k true))))
def J3(C:Ctx)(ops:List Oper)(σ:St)(K:St→Prop):Nat→List (Nat×Bool)→Prop
 |0,_=>False
 |n+1,asm=>match Nt ops [] with
  |none=>False
  |some ms=>match dr C ops σ.tm σ.m asm ops ms [] [] with
   | .fail=>False
   | .split j b=>(b=true→J3 C ops σ K n ((j,true)::asm))∧(b=false→J3 C ops σ K n ((j,false)::asm))
   | .ok acc tail=>match SK acc with
    |true=>match wI σ.tm.length ops&&(rK ops&&(po acc.length 0 ms&&Region.seqB .any ⟨ops⟩ tail.length acc.length (aC acc.length ops.length))) with
     |false=>match tail with
      | []=>False
      |o::rest=>match isHole (acc++ [uc]) acc.length&&(!C.rd&&(wI σ.tm.length ops&&(rK ops&&(po (acc.length+1) 0 ms&&Vs ops ms acc.length (acc.length+1) rest.length)))) with
       |false=>False
       |true=>obl (acc++ [uc]) (oV C ops (o::rest) ⟨fj ops (acc++ [uc]) 0 σ.tm,σ.m++(acc++ [uc]).map (·.b)⟩ K)
     |true=>obl acc (oV C ops tail ⟨fj ops acc 0 σ.tm,σ.m++acc.map (·.b)⟩ K)
    |false=>match dr C ops σ.tm σ.m asm ops ms (Bp acc) [] with
     | .ok acc2 tail2=>match yM (Bp acc2) (Bp acc)&&(Gd 0 acc2 ms&&(wI σ.tm.length ops&&(rK ops&&(po acc2.length 0 ms&&Region.seqB .any ⟨ops⟩ tail2.length acc2.length (aC acc2.length ops.length))))) with
      |false=>False
      |true=>obl acc2 (oV C ops tail2 ⟨fj ops acc2 0 σ.tm,uC (aC acc2.length ops.length) acc2 0 (σ.m++acc2.map (·.b))⟩ K)
     |_=>False
theorem xE {ms:List Nat}: ∀ {l:List Edge} {m:Nat},FV ms l=some m→
  (∀e∈l,Region.binds .any e=true→e.on<ms.length)∧(∀j,m.testBit j=true→ ∃e∈l,Region.binds .any e=true∧(j=e.on∨ ∃k,ms[e.on]? =some k∧k.testBit j=true))
 | [],m,h=>by
  cases h;exact ⟨fun e he=>by simp at he,fun j hj=>by simp at hj⟩
 |e::l,m,h=>by
  unfold FV at h;split at h
  ·cases h
  ·rename_i m' hm;obtain ⟨h1,h2⟩:=xE hm;split at h
   ·rename_i hb;cases h;refine ⟨fun e' he' hb'=>?_,fun j hj=>?_⟩
    ·rcases List.mem_cons.1 he' with rfl|he'
     ·rw [hb] at hb';cases hb'
     ·exact h1 e' he' hb'
    ·obtain ⟨e',he',r⟩:=h2 j hj;exact ⟨e',List.mem_cons_of_mem _ he',r⟩
   ·rename_i hb;split at h
    ·rename_i k hk;cases h;refine ⟨fun e' he' hb'=>?_,fun j hj=>?_⟩
     ·rcases List.mem_cons.1 he' with rfl|he'
      ·exact (List.getElem?_eq_some_iff.1 hk).1
      ·exact h1 e' he' hb'
     ·rw [Nat.testBit_or,Bool.or_eq_true,Nat.testBit_or,Bool.or_eq_true] at hj;rcases hj with hj|hj|hj
      ·obtain ⟨e',he',r⟩:=h2 j hj;exact ⟨e',List.mem_cons_of_mem _ he',r⟩
      ·rw [Nat.testBit_two_pow] at hj;exact ⟨e,by simp,hb,.inl (of_decide_eq_true hj).symm⟩
      ·exact ⟨e,by simp,hb,.inr ⟨k,hk,hj⟩⟩
    ·cases h
def MOk(ops:List Oper)(ms:List Nat):Prop:= ∀i m o,ms[i]? =some m→ops[i]? =some o→
 (∀e∈o.after.toList,Region.binds .any e=true→e.on<i)∧(∀j,m.testBit j=true→ ∃e∈o.after.toList,Region.binds .any e=true∧(j=e.on∨ ∃k,ms[e.on]? =some k∧k.testBit j=true))
theorem BD {ops:List Oper}: ∀ {rest:List Oper} {pre:List Oper} {ms ms':List Nat},ops=pre++rest→pre.length=ms.length→MOk ops ms→Nt rest ms=some ms'→MOk ops ms'∧ms'.length=ops.length
 | [],pre,ms,ms',ho,hl,hm,h=>by
  cases h;exact ⟨hm,by rw [ho];simp [hl]⟩
 |o::rest,pre,ms,ms',ho,hl,hm,h=>by
  unfold Nt at h;split at h
  ·rename_i m hmk;refine BD (pre:=pre++ [o]) (by simp [ho]) (by simp [hl]) ?_ h
   obtain ⟨h1,h2⟩:=xE hmk;intro i m' o' hi hoi;rcases Nat.lt_or_ge i ms.length with hlt|hge
   ·rw [List.getElem?_append_left hlt] at hi;obtain ⟨g1,g2⟩:=hm i m' o' hi hoi;refine ⟨g1,fun j hj=>?_⟩;obtain ⟨e,he,hb,r⟩:=g2 j hj;refine ⟨e,he,hb,r.imp id ?_⟩;rintro ⟨k,hk,hkj⟩;exact ⟨k,by rw [List.getElem?_append_left (List.getElem?_eq_some_iff.1 hk).1];exact hk,hkj⟩
   ·rw [List.getElem?_append_right hge] at hi;cases hx:i-ms.length with
    |zero=>
     rw [hx] at hi;simp at hi;subst hi;have hi':i=pre.length:=by omega
     subst hi';rw [ho] at hoi;simp at hoi;subst hoi;refine ⟨fun e he hb=>by rw [hl];exact h1 e he hb,fun j hj=>?_⟩
     obtain ⟨e,he,hb,r⟩:=h2 j hj;refine ⟨e,he,hb,r.imp id ?_⟩;rintro ⟨k,hk,hkj⟩;exact ⟨k,by rw [List.getElem?_append_left (List.getElem?_eq_some_iff.1 hk).1];exact hk,hkj⟩
    |succ n=>rw [hx] at hi;simp at hi
  ·cases h
def wA(ops:List Oper)(listed:Array Bool):Prop:= ∀i o,listed.getD i false=true→ops[i]? =some o→ ∀e∈o.after.toList,Region.binds .any e=true→listed.getD e.on false=true
theorem iz {ops:List Oper} {ms:List Nat} {listed:Array Bool}(hm:MOk ops ms)(hc:wA ops listed)(hlen:ms.length=ops.length): ∀ (i:Nat) (m:Nat) (o:Oper),ms[i]? =some m→ops[i]? =some o→
  (∀e∈o.after.toList,Region.binds .any e=true→listed.getD e.on false=true)→ ∀j,m.testBit j=true→listed.getD j false=true:=by
 intro i
 induction i using Nat.strongRecOn with
 |_ i ih=>
  intro m o hi ho hr j hj;obtain ⟨h1,h2⟩:=hm i m o hi ho;obtain ⟨e,he,hb,r⟩:=h2 j hj;have hel:=hr e he hb;rcases r with rfl|⟨k,hk,hkj⟩
  ·exact hel
  ·have hlt:=h1 e he hb;have hk':=(List.getElem?_eq_some_iff.1 hk).1;have hoe:ops[e.on]? =some (ops[e.on]'(by omega)):=List.getElem?_eq_getElem (by omega)
   exact ih e.on hlt k _ hk hoe (hc e.on _ hel hoe) j hkj
end Go.Proofs.YtfdmjoddhjmokaaGreatDoor.Rex
namespace Go.Proofs.YtfdmjoddhjmokaaGreatDoor.Rex
open Go.RowKit
set_option linter.unusedVariables false
set_option linter.unusedSimpArgs false
def bZ(fs:List (Option (Nat×Nat×Nat)))(ms:List Nat)(i:Nat):List (Option (Nat×Nat×Nat)×Nat):=(fs.drop (i+1)).zip (ms.drop (i+1))
inductive xH (kH:Nat) (C:Ctx) (ops:List Oper) (tm0:List SV) (m0:Mem) (acc:List fk) (later:List (Option (Nat×Nat×Nat)×Nat)) (late:Nat→Bool) (i m:Nat) (o:Oper) (e:fk):Prop where
 |skip (h:lL ops tm0 acc late m o.guard= .skip) (he:e=⟨none,.cz [],none,none⟩)
 |run {p s b} (h:lL ops tm0 acc late m o.guard= .run) (hq:Mg C.M C.P C.Γ ⟨Tg ops tm0 acc late m,yL m0 acc m later⟩ (m0.length+i) o.op=some (p,s,b))
  (he:e=⟨p,s,b,none⟩∨ ∃t kn b',s= .v (.one (.bool kn b'))∧e=⟨Vb (b'=t) p,lb true t,b,none⟩)
 |store (h:lL ops tm0 acc late m o.guard= .run) (hs:stE C.P (Tg ops tm0 acc late m) (yL m0 acc m later) o.op=some e)
 |call (h:lL ops tm0 acc late m o.guard= .run) (hs:IL C (Tg ops tm0 acc late m) (yL m0 acc m later) o.op=some e)
 |hole (h:i=kH) (he:e=uc)
theorem FZ {kH:Nat} {C:Ctx} {ops:List Oper} {tm0:List SV} {m0:Mem} {asm:List (Nat×Bool)} {acc':List fk} {tail:List Oper} {msAll:List Nat} {fsAll:List (Option (Nat×Nat×Nat))}: ∀ {rest:List Oper} {ms:List Nat} {fs:List (Option (Nat×Nat×Nat))} {acc:List fk} {pre:List Oper} {mpre:List Nat},
  ops=pre++rest→pre.length=acc.length→msAll=mpre++ms→mpre.length=acc.length→fs=fsAll.drop acc.length→
  (∀i e,acc[i]? =some e→ ∃o m,ops[i]? =some o∧msAll[i]? =some m∧xH kH C ops tm0 m0 (acc.take i) (bZ fsAll msAll i) (jG (msAll.drop (i+1)) i) i m o e)→
  dr C ops tm0 m0 asm rest ms fs acc= .ok acc' tail→
  (∀i e,acc'[i]? =some e→ ∃o m,ops[i]? =some o∧msAll[i]? =some m∧xH kH C ops tm0 m0 (acc'.take i) (bZ fsAll msAll i) (jG (msAll.drop (i+1)) i) i m o e)∧ ∃pre',ops=pre'++tail∧pre'.length=acc'.length:=by
 intro rest
 induction rest with
 |nil=>
  intro ms fs acc pre mpre h1 h2 h3 h4 h6 h5 h;unfold dr at h;cases h;exact ⟨h5,pre,h1,h2⟩
 |cons o rest ih=>
  intro ms fs acc pre mpre h1 h2 h3 h4 h6 h5 h;cases ms with
  |nil=>unfold dr at h;cases h
  |cons mask ms=>
   have ho:ops[acc.length]? =some o:=by rw [h1,←h2];simp
   have hm:msAll[acc.length]? =some mask:=by rw [h3,←h4];simp
   have hfs:fs.tail=fsAll.drop (acc.length+1):=by rw [h6,List.tail_drop]
   have hlater:fs.tail.zip ms=bZ fsAll msAll acc.length:=by
    unfold bZ;rw [hfs,h3,←h4]
    congr 1
    rw [List.drop_append];simp
   have hmsd:ms=msAll.drop (acc.length+1):=by
    rw [h3,←h4,List.drop_append];simp
   have grow: ∀e,xH kH C ops tm0 m0 acc (bZ fsAll msAll acc.length) (jG (msAll.drop (acc.length+1)) acc.length) acc.length mask o e→ ∀i e',(acc++ [e])[i]? =some e'→ ∃o m,ops[i]? =some o∧msAll[i]? =some m∧xH kH C ops tm0 m0 ((acc++ [e]).take i) (bZ fsAll msAll i) (jG (msAll.drop (i+1)) i) i m o e':=by
    intro e he i e' hi;rcases Nat.lt_or_ge i acc.length with hl|hl
    ·rw [List.getElem?_append_left hl] at hi;rw [List.take_append_of_le_length (Nat.le_of_lt hl)];exact h5 i e' hi
    ·rw [List.getElem?_append_right hl] at hi;cases hx:i-acc.length with
     |zero=>
      rw [hx] at hi;simp at hi;subst hi;have:i=acc.length:=by omega
      subst this;refine ⟨o,mask,ho,hm,?_⟩;rw [List.take_append_of_le_length (Nat.le_refl _),List.take_length];exact he
     |succ n=>rw [hx] at hi;simp at hi
   have step: ∀e,xH kH C ops tm0 m0 acc (bZ fsAll msAll acc.length) (jG (msAll.drop (acc.length+1)) acc.length) acc.length mask o e→dr C ops tm0 m0 asm rest (msAll.drop (acc.length+1)) fs.tail (acc++ [e])= .ok acc' tail→_:=fun e he hd=>
    ih (pre:=pre++ [o]) (mpre:=mpre++ [mask]) (by simp [h1]) (by simp [h2]) (by rw [←hmsd];simp [h3]) (by simp [h4]) (by rw [hfs];simp) (grow e he) hd
   unfold dr at h;rw [hlater,hmsd] at h;split at h
   ·cases h
   ·cases h
   ·rename_i hg;exact step _ (.skip hg rfl) h
   ·rename_i hg;split at h
    ·split at h
     ·split at h
      ·cases h;exact ⟨h5,pre,h1,h2⟩
      ·rename_i e he;exact step _ (.call hg he) h
     ·rename_i e he;exact step _ (.store hg he) h
    ·rename_i p s b hq;split at h
     ·exact step _ (.run hg hq (.inl rfl)) h
     ·rename_i t ht;split at h
      ·rename_i kn b' hs;refine step _ (.run hg hq (.inr ⟨t,kn,b',?_,rfl⟩)) h;unfold asBool at hs;split at hs
       ·cases hs;rfl
       ·cases hs
      ·cases h
def je(listed:Array Bool):Nat→List fk→Mem
 |_,[]=> []
 |j,e::l=>(match listed.getD j false with
  |true=>e.b
  |false=>none)::je listed (j+1) l
theorem qi(listed:Array Bool): ∀ (acc:List fk) (k:Nat),(je listed k acc).length=acc.length
 | [],k=>rfl
 |e::l,k=>by simp [je,qi listed l (k+1)]
theorem ef(listed:Array Bool): ∀ (acc:List fk) (k x:Nat),(je listed k acc)[x]? =(acc[x]?).map fun e=>match listed.getD (k+x) false with
  |true=>e.b
  |false=>none
 | [],k,x=>by simp [je]
 |e::l,k,0=>by simp [je]
 |e::l,k,x+1=>by
  rw [je,List.getElem?_cons_succ,List.getElem?_cons_succ,ef listed l (k+1) x,show k+1+x=k+(x+1) by omega]
theorem cJ {listed:Array Bool} {i j:Nat}(hi:i<listed.size):(listed.setIfInBounds i true).getD j false=if i=j then true else listed.getD j false:=by
 simp only [Array.getD_eq_getD_getElem?,Array.getElem?_setIfInBounds];split
 ·rename_i e;subst e;simp [hi]
 ·rfl
theorem zO {listed:Array Bool} {i:Nat}(hi:i<listed.size) {acc:List fk} {e:fk}(he:acc[i]? =some e):je (listed.setIfInBounds i true) 0 acc=(je listed 0 acc).set i e.b:=by
 apply List.ext_getElem?;intro x;rw [ef,List.getElem?_set,ef,cJ hi,qi];simp only [Nat.zero_add];by_cases hx:i=x
 ·subst hx;obtain ⟨hl,rfl⟩:=List.getElem?_eq_some_iff.1 he;simp [he,hl]
 ·simp [hx]
def mf(ops:List Oper)(tm0:List SV)(acc:List fk)(listed:Array Bool)(t:Tmp):Option SV:=match J7 t 0 ops with
 |some j=>match listed.getD j false with
  |true=>(acc[j]?).map (·.s)
  |false=>tm0[t]?
 |none=>tm0[t]?
theorem zu {t:Tmp}: ∀ {ops:List Oper} {k j:Nat},J7 t k ops=some j→k≤j∧ ∃o,ops[j-k]? =some o∧o.dst=some t
 | [],k,j,h=>by cases h
 |o::l,k,j,h=>by
  unfold J7 at h;split at h
  ·obtain ⟨h1,o',h2,h3⟩:=zu h;exact ⟨by omega,o',by rw [show j-k=(j-(k+1))+1 by omega,List.getElem?_cons_succ];exact h2,h3⟩
  ·rename_i d hd;split at h
   ·rename_i e;cases h;exact ⟨Nat.le_refl _,o,by simp,by rw [hd,Nat.eq_of_beq_eq_true e]⟩
   ·obtain ⟨h1,o',h2,h3⟩:=zu h;exact ⟨by omega,o',by rw [show j-k=(j-(k+1))+1 by omega,List.getElem?_cons_succ];exact h2,h3⟩
theorem tU {t:Tmp}: ∀ {ops:List Oper} {k:Nat},J7 t k ops=none→ ∀o∈ops,o.dst≠some t
 | [],k,h,o,ho=>by simp at ho
 |o::l,k,h,o',ho=>by
  unfold J7 at h;split at h
  ·rename_i hd;rcases List.mem_cons.1 ho with rfl|ho
   ·rw [hd];simp
   ·exact tU h o' ho
  ·rename_i d hd;split at h
   ·cases h
   ·rename_i e;rcases List.mem_cons.1 ho with rfl|ho
    ·rw [hd];intro e';cases e';exact Nat.ne_of_beq_eq_false e rfl
    ·exact tU h o' ho
theorem JZ {t:Tmp}: ∀ {ops:List Oper} {k i:Nat} {o:Oper},rK ops=true→ops[i]? =some o→o.dst=some t→J7 t k ops=some (k+i)
 | [],k,i,o,_,h,_=>by simp at h
 |p::l,k,0,o,hd,h,ht=>by
  simp at h;subst h;unfold J7;rw [ht];simp
 |p::l,k,i+1,o,hd,h,ht=>by
  simp at h;unfold rK at hd;rw [Bool.and_eq_true] at hd;have ih:=JZ (k:=k+1) hd.2 h ht;unfold J7;cases hp:p.dst with
  |none=>simp only [];rw [ih];congr 1;omega
  |some d=>
   simp only [];have hne:Nat.beq d t=false:=by
    cases hb:Nat.beq d t with
    |false=>rfl
    |true=>
     have:=Nat.eq_of_beq_eq_true hb;subst this;have h1:=hd.1;rw [hp] at h1;simp only at h1;split at h1
     ·rename_i hn;exact absurd ht (tU hn o (List.mem_of_getElem? h))
     ·cases h1
   rw [hne];simp only [];rw [ih];congr 1;omega
theorem gO(l:List Lf)(off:Nat)(cs:List Lf):(pq l off cs).length=l.length:=by
 unfold pq gm;simp only [List.length_take,List.length_append,List.length_drop];omega
theorem yO(l:List Lf)(off:Nat)(cs:List Lf)(c:Nat):(pq l off cs)[c]? =if c<l.length then (if off≤c∧c<off+cs.length then cs[c-off]? else l[c]?) else none:=by
 unfold pq gm;rw [List.getElem?_take];split
 ·rename_i hc;rcases Nat.lt_or_ge c off with h1|h1
  ·rw [if_neg (by omega),List.getElem?_append_left (by simp;omega),List.getElem?_take,if_pos h1]
  ·have hlen:(List.take off l).length=off:=by simp;omega
   rw [List.getElem?_append_right (by omega),hlen]
   rcases Nat.lt_or_ge c (off+cs.length) with h2|h2
   ·rw [if_pos ⟨h1,h2⟩,List.getElem?_append_left (by omega)]
   ·rw [if_neg (by omega),List.getElem?_append_right (by omega),List.getElem?_drop]
    congr 1;omega
 ·rfl
theorem V5 {l:List Lf} {off:Nat} {cs:List Lf}(h:off+cs.length≤l.length):pq l off cs=gm l off cs:=by
 unfold pq;rw [List.take_of_length_le];unfold gm;simp;omega
theorem Th {l:List Lf} {off off':Nat} {cs cs':List Lf}(h:off+cs.length≤off'∨off'+cs'.length≤off):pq (pq l off cs) off' cs'=pq (pq l off' cs') off cs:=by
 apply List.ext_getElem?;intro c;simp only [yO,gO];split
 ·split
  ·split
   ·omega
   ·first|rfl|simp_all
  ·split
   ·first|rfl|simp_all
   ·first|rfl|simp_all
 ·rfl
def yV(a b:List Lf):Prop:=a.length=b.length∧ ∀ (c:Nat) (x y:Lf),a[c]? =some x→b[c]? =some y→y=x∨y=Lf.bX
theorem yV.refl(a:List Lf):yV a a:=⟨rfl,fun c x y h k=> .inl (by rw [h] at k;cases k;rfl)⟩
theorem yV.has {β:Nm}: ∀ {a b:List Lf} {vs:List Value},yV a b→ae (aq β) a vs→ae (aq β) b vs
 | [],[],_,_,k=>k
 |x::a,y::b,vs,h,k=>by
  obtain ⟨v,vs,rfl,hv,k⟩:=k.cons_inv;refine .cons ?_ (yV.has (a:=a) ⟨by simpa using h.1,fun c x y hx hy=>h.2 (c+1) x y (by simpa using hx) (by simpa using hy)⟩ k)
  rcases h.2 0 x y (by simp) (by simp) with rfl|rfl
  ·exact hv
  ·exact .bX hv.kT
 | [],_::_,_,h,_=>by have:=h.1;simp at this
 |_::_,[],_,h,_=>by have:=h.1;simp at this
theorem yV.pq {a b:List Lf}(h:yV a b)(off:Nat)(cs:List Lf):yV (Rex.pq a off cs) (Rex.pq b off cs):=by
 refine ⟨by rw [gO,gO];exact h.1,fun c x y hx hy=>?_⟩
 rw [yO] at hx hy;rw [h.1] at hx;split at hx
 ·rename_i hc;rw [if_pos hc] at hy;split at hx
  ·rename_i hr;rw [if_pos hr] at hy;rw [hx] at hy;cases hy;exact .inl rfl
  ·rename_i hr;rw [if_neg hr] at hy;exact h.2 c x y hx hy
 ·cases hx
theorem yV.bX {a b:List Lf}(h:yV a b)(off n:Nat):yV a (Rex.pq b off (xT n)):=by
 refine ⟨by rw [gO];exact h.1,fun c x y hx hy=>?_⟩
 rw [yO] at hy;split at hy
 ·split at hy
  ·right;unfold xT at hy;rw [List.getElem?_replicate] at hy;split at hy
   ·cases hy;rfl
   ·cases hy
  ·exact h.2 c x y hx hy
 ·cases hy
theorem yV.Mt {a b:List Lf}(h:yV a b)(off:Nat)(cs:List Lf):yV (Rex.pq a off cs) (Rex.pq b off (xT cs.length)):=by
 refine ⟨by rw [gO,gO];exact h.1,fun c x y hx hy=>?_⟩
 rw [yO] at hx hy;have hj:(xT cs.length).length=cs.length:=by simp [xT]
 rw [h.1] at hx;rw [hj] at hy;split at hx
 ·rename_i hc;rw [if_pos hc] at hy;split at hx
  ·rename_i hr;rw [if_pos hr] at hy;right;unfold xT at hy;rw [List.getElem?_replicate] at hy;split at hy
   ·cases hy;rfl
   ·cases hy
  ·rename_i hr;rw [if_neg hr] at hy;exact h.2 c x y hx hy
 ·cases hx
theorem nw(listed:Array Bool)(x:Nat): ∀ (a b:List fk) (k:Nat) (l:List Lf),bJ listed x k (a++b) l=bJ listed x (k+a.length) b (bJ listed x k a l)
 | [],b,k,l=>rfl
 |e::a,b,k,l=>by
  rw [List.cons_append,bJ,bJ,nw listed x a b (k+1)]
  congr 1
  simp;omega
theorem ko {listed:Array Bool} {x:Nat}: ∀ {acc:List fk} {k:Nat} {l:List Lf},(∀ (j:Nat) e y off cs,acc[j]? =some e→listed.getD (k+j) false=true→e.st=some (y,off,cs)→y≠x)→bJ listed x k acc l=l
 | [],k,l,_=>rfl
 |e::es,k,l,h=>by
  have:fm listed x k e l=l:=by
   unfold fm;split
   ·rename_i y off cs hs;split
    ·rename_i hb;split
     ·rename_i hl;exact absurd (Nat.eq_of_beq_eq_true hb) (h 0 e y off cs (by simp) hl hs)
     ·rfl
    ·rfl
   ·rfl
  rw [bJ,this];exact ko fun j e' y off cs h1 h2 h3=>h (j+1) e' y off cs (by simpa using h1) (by rw [show k+(j+1)=k+1+j by omega];exact h2) h3
theorem fL {listed listed':Array Bool} {x:Nat}: ∀ {acc:List fk} {k:Nat} {l:List Lf},(∀ (j:Nat) e y off cs,acc[j]? =some e→e.st=some (y,off,cs)→y=x→listed.getD (k+j) false=listed'.getD (k+j) false)→bJ listed x k acc l=bJ listed' x k acc l
 | [],k,l,_=>rfl
 |e::es,k,l,h=>by
  have:fm listed x k e l=fm listed' x k e l:=by
   unfold fm;cases hs:e.st with
   |none=>rfl
   |some z=>
    obtain ⟨y,off,cs⟩:=z;simp only;cases hb:Nat.beq y x with
    |false=>rfl
    |true=>
     simp only;have:=h 0 e y off cs (by simp) hs (Nat.eq_of_beq_eq_true hb)
     simp only [Nat.add_zero] at this;rw [this]
  rw [bJ,bJ,this];exact fL fun j e' y off cs h1 h2 h3=>by
   have:=h (j+1) e' y off cs (by simpa using h1) h2 h3
   rw [show k+1+j=k+(j+1) by omega];exact this
theorem Dn {listed:Array Bool} {x off:Nat} {cs:List Lf}: ∀ {acc:List fk} {k:Nat} {l:List Lf},(∀ (j:Nat) e y off' cs',acc[j]? =some e→listed.getD (k+j) false=true→e.st=some (y,off',cs')→y=x→off+cs.length≤off'∨off'+cs'.length≤off)→
  bJ listed x k acc (pq l off cs)=pq (bJ listed x k acc l) off cs
 | [],k,l,_=>rfl
 |e::es,k,l,h=>by
  have:fm listed x k e (pq l off cs)=pq (fm listed x k e l) off cs:=by
   unfold fm;cases hs:e.st with
   |none=>rfl
   |some z=>
    obtain ⟨y,off',cs'⟩:=z;simp only;cases hb:Nat.beq y x with
    |false=>rfl
    |true=>
     simp only;cases hl:listed.getD k false with
     |false=>rfl
     |true=>exact Th (h 0 e y off' cs' (by simp) hl hs (Nat.eq_of_beq_eq_true hb))
  rw [bJ,bJ,this];exact Dn fun j e' y off' cs' h1 h2 h3 h4=>h (j+1) e' y off' cs' (by simpa using h1) (by rw [show k+(j+1)=k+1+j by omega];exact h2) h3 h4
theorem eQ(listed:Array Bool)(acc:List fk): ∀ (m:Mem) (k:Nat),(uC listed acc k m).length=m.length
 | [],k=>rfl
 |b::m,k=>by simp [uC,eQ listed acc m (k+1)]
theorem aK(listed:Array Bool)(acc:List fk): ∀ (m:Mem) (k y:Nat),(uC listed acc k m)[y]? =(m[y]?).map (gU listed acc (k+y))
 | [],k,y=>by simp [uC]
 |b::m,k,0=>rfl
 |b::m,k,y+1=>by
  rw [uC,List.getElem?_cons_succ,List.getElem?_cons_succ,aK listed acc m (k+1) y,show k+1+y=k+(y+1) by omega]
theorem HF {listed:Array Bool} {mask x:Nat}(hm: ∀j,mask.testBit j=true→listed.getD j false=true): ∀ {acc:List fk} {k:Nat} {a b:List Lf},yV a b→yV (bJ listed x k acc a) (My mask x k acc b)
 | [],k,a,b,h=>h
 |e::es,k,a,b,h=>by
  rw [bJ,My];refine HF hm ?_;unfold fm ZB;cases hs:e.st with
  |none=>exact h
  |some z=>
   obtain ⟨y,off,cs⟩:=z;simp only;cases hb:Nat.beq y x with
   |false=>exact h
   |true=>
    simp only;cases ht:mask.testBit k with
    |true=>rw [hm k ht];exact h.pq off cs
    |false=>
     simp only;cases hl:listed.getD k false with
     |true=>exact h.Mt off cs
     |false=>exact h.bX off cs.length
theorem Jr {i x mj:Nat} {f:Option (Nat×Nat×Nat)} {a b:List Lf}(h:yV a b):yV a (No i x f mj b):=by
 unfold No;split
 ·split
  ·split
   ·exact h
   ·exact h.bX _ _
  ·exact h
 ·exact h
theorem ED {i x:Nat}: ∀ {later:List (Option (Nat×Nat×Nat)×Nat)} {a b:List Lf},yV a b→yV a (Dw i x later b)
 | [],a,b,h=>h
 |(f,mj)::later,a,b,h=>by rw [Dw];exact ED (Jr h)
theorem AS {listed:Array Bool} {i x:Nat}: ∀ {acc:List fk} {k:Nat} {later:List (Option (Nat×Nat×Nat)×Nat)} {a b:List Lf},yV a b→
  (∀ (j:Nat) e y off cs,acc[j]? =some e→e.st=some (y,off,cs)→ ∃mj,later[j]? =some (some (y,off,cs.length),mj)∧(mj.testBit i=true→listed.getD (k+j) false=false))→yV (bJ listed x k acc a) (Dw i x later b)
 | [],k,later,a,b,h,_=>ED h
 |e::es,k,[],a,b,h,hl=>by
  have hn:e.st=none:=by
   cases hs:e.st with
   |none=>rfl
   |some z=>
    obtain ⟨y,off,cs⟩:=z;obtain ⟨mj,h1,_⟩:=hl 0 e y off cs (by simp) hs
    simp at h1
  have:fm listed x k e a=a:=by unfold fm;rw [hn]
  rw [bJ,this];exact AS h fun j e' y off cs h1 h2=>by
   obtain ⟨mj,h3,_⟩:=hl (j+1) e' y off cs (by simpa using h1) h2
   simp at h3
 |e::es,k,(f,mj)::later,a,b,h,hl=>by
  rw [bJ,Dw];refine AS ?_ fun j e' y off cs h1 h2=>by
   obtain ⟨mj,h3,h4⟩:=hl (j+1) e' y off cs (by simpa using h1) h2
   exact ⟨mj,by simpa using h3,fun ht=>by rw [show k+1+j=k+(j+1) by omega];exact h4 ht⟩
  cases hs:e.st with
  |none=>
   have:fm listed x k e a=a:=by unfold fm;rw [hs]
   rw [this];exact Jr h
  |some z=>
   obtain ⟨y,off,cs⟩:=z;obtain ⟨mj',h3,h4⟩:=hl 0 e y off cs (by simp) hs
   simp only [List.getElem?_cons_zero,Option.some.injEq,Prod.mk.injEq] at h3;obtain ⟨rfl,rfl⟩:=h3;unfold fm No;rw [hs];simp only;cases hb:Nat.beq y x with
   |false=>exact h
   |true=>
    simp only;cases ht:mj.testBit i with
    |true=>
     have:=h4 ht;simp only [Nat.add_zero] at this;rw [this];exact h
    |false=>
     simp only;cases hq:listed.getD k false with
     |true=>exact h.Mt off cs
     |false=>exact h.bX off cs.length
end Go.Proofs.YtfdmjoddhjmokaaGreatDoor.Rex
namespace Go.Proofs.YtfdmjoddhjmokaaGreatDoor.Rex
open Go.RowKit
set_option linter.unusedVariables false
set_option linter.unusedSimpArgs false
structure pJ (kH:Nat) (C:Ctx) (ops:List Oper) (tm0:List SV) (m0:Mem) (ms:List Nat) (fs:List (Option (Nat×Nat×Nat))) (acc:List fk):Prop where
 ent: ∀i e,acc[i]? =some e→ ∃o m,ops[i]? =some o∧ms[i]? =some m∧xH kH C ops tm0 m0 (acc.take i) (bZ fs ms i) (jG (ms.drop (i+1)) i) i m o e
 mok:MOk ops ms
 sB:ms.length=ops.length
 ab2: ∀ (i j:Nat) e y off cs,i<j→acc[j]? =some e→e.st=some (y,off,cs)→ ∃mj,(bZ fs ms i)[j-(i+1)]? =some (some (y,off,cs.length),mj)∧ms[j]? =some mj
 pair: ∀ (i j:Nat) ei ej (m:Nat) y off cs off' cs',i<j→acc[i]? =some ei→acc[j]? =some ej→ei.st=some (y,off,cs)→ej.st=some (y,off',cs')→ms[j]? =some m→off+cs.length≤off'∨off'+cs'.length≤off∨m.testBit i=true
 ds:rK ops=true
 din: ∀o∈ops,∀t,o.dst=some t→t<tm0.length
 obs: ∀e∈acc,ob e.p
def bE(m0:Mem)(acc:List fk)(listed:Array Bool):Mem:=uC listed acc 0 (m0++je listed 0 acc)
structure Inv (bs:Nat) (ops:List Oper) (tm0:List SV) (m0:Mem) (acc:List fk) (β0:Nm) (w0:World) (listed:Array Bool) (β:Nm) (a:Act) (w:World):Prop where
 size:listed.size=ops.length
 head: ∀i,listed.getD i false=true→i<acc.length
 closed:wA ops listed
 sat:Sat β (bE m0 acc listed) w
 fresh: ∀ (j:Nat) (e:fk),acc[j]? =some e→(listed.getD j false=false∨e.b=none)→β (m0.length+j)=none
 since:ai m0 β0 w0 (bE m0 acc listed) β w
 tm: ∀t s,mf ops tm0 acc listed t=some s→ ∃v,a.tmps[t]? =some v∧Has β s v
 bI:a.tmps.size=tm0.length
 df:Marks bs w0 a.defers
section
variable {kH bs:Nat} {C:Ctx} {ops:List Oper} {tm0:List SV} {m0:Mem} {acc:List fk} {β0:Nm} {w0:World} {listed:Array Bool} {β:Nm} {a:Act} {w:World} {ms:List Nat} {fs:List (Option (Nat×Nat×Nat))}
theorem wA.mask(hR:pJ kH C ops tm0 m0 ms fs acc)(hc:wA ops listed) {j m:Nat} {o:Oper}(hm:ms[j]? =some m)(ho:ops[j]? =some o)(hl:listed.getD j false=true): ∀k,m.testBit k=true→listed.getD k false=true:=
 iz hR.mok hc hR.sB j m o hm ho fun e he hb=>hc j o hl ho e he hb
theorem TG {m:Nat} {later:List (Option (Nat×Nat×Nat)×Nat)} {y:Nat} {bl:bG} {acc':List fk}(hmm:yL m0 acc' m later y=some bl):y<m0.length∨m.testBit (y-m0.length)=true:=by
 unfold yL JX at hmm;cases hb:Nat.blt y m0.length with
 |true=>left;rw [Nat.blt_eq] at hb;exact hb
 |false=>
  right;rw [hb] at hmm;cases ht:m.testBit (y-m0.length) with
  |true=>rfl
  |false=>rw [ht] at hmm;simp at hmm
theorem Be {ev:Operand→Option SV} {mm:Nat→Option bG} {o:Op} {e:fk}(h:IL C ev mm o=some e): ∃ (c:Call) (f:Operand) (id:FuncId) (y:Nat) (rest:List SV) (l:List Lf) (t:TypeId) (bc:BC) (p:Option Prop) (s:SV) (new:List Lf),
  o= .call c∧c.callee= .value f∧ev f=some (.lO id [])∧omap ev c.args.toList=some (.v (.one (.ptr y 0))::rest)∧mm y=some (.cells l t)∧find C.B id=some bc∧bc rest l t=some (p,s,new)∧new.length=l.length∧e=⟨p,s,none,some (y,0,new)⟩:=by
 unfold IL at h;split at h
 ·rename_i c;split at h
  ·rename_i f hf;split at h
   ·rename_i id hid;split at h
    ·rename_i y rest hr;split at h
     ·rename_i l t hl;split at h
      ·rename_i bc hbc;split at h
       ·rename_i p s new hq;split at h
        ·rename_i hn;cases h;exact ⟨c,f,id,y,rest,l,t,bc,p,s,new,rfl,hf,hid,hr,hl,hbc,hq,Nat.eq_of_beq_eq_true hn,rfl⟩
        ·cases h
       ·cases h
      ·cases h
     ·cases h
    ·cases h
   ·cases h
  ·cases h
 ·cases h
theorem KI {i m:Nat} {o:Oper} {e:fk} {later:List (Option (Nat×Nat×Nat)×Nat)} {late:Nat→Bool}(hE:xH kH C ops tm0 m0 (acc.take i) later late i m o e) {y off:Nat} {cs:List Lf}(hs:e.st=some (y,off,cs)):y<m0.length∨m.testBit (y-m0.length)=true:=by
 cases hE with
 |hole h he=>subst he;cases hs
 |skip h he=>subst he;cases hs
 |run h hq he=>rcases he with rfl|⟨t,kn,b',_,rfl⟩<;>cases hs
 |call h hst=>
  obtain ⟨c,f,id,y',rest,l,t,bc,p,s,new,_,_,_,_,hmm,_,_,_,rfl⟩:=Be hst;cases hs;exact TG hmm
 |store h hst=>
  unfold stE at hst;split at hst
  ·split at hst
   ·split at hst
    ·rename_i l t hmm;split at hst
     ·split at hst
      ·cases hst;cases hs;unfold yL JX at hmm;cases hb:Nat.blt y m0.length with
       |true=>left;rw [Nat.blt_eq] at hb;exact hb
       |false=>
        right;rw [hb] at hmm;cases ht:m.testBit (y-m0.length) with
        |true=>rfl
        |false=>rw [ht] at hmm;simp at hmm
      ·cases hst
     ·cases hst
    ·cases hst
   ·cases hst
  ·cases hst
theorem Inv.ev(h:Inv bs ops tm0 m0 acc β0 w0 listed β a w) {i m:Nat}(hm: ∀j,m.testBit j=true→listed.getD j false=true) {late:Nat→Bool}(hla: ∀j,late j=true→listed.getD j false=false) {x:Operand} {s:SV}(hx:Tg ops tm0 (acc.take i) late m x=some s):Has β s (a.eval x):=by
 have tmp: ∀ (t:Tmp) (s:SV),mf ops tm0 acc listed t=some s→Has β s (a.eval (.tmp t)):=by
  intro t s hl;obtain ⟨v,hv,hs⟩:=h.tm t s hl;have:a.eval (.tmp t)=v:=by simp [Act.eval,hv]
  rw [this];exact hs
 unfold Tg at hx;split at hx
 ·rename_i t;split at hx
  ·rename_i j hw;split at hx
   ·rename_i hb;split at hx
    ·rename_i e he;have he':acc[j]? =some e:=by
      rw [List.getElem?_take] at he;split at he
      ·exact he
      ·cases he
     have hl:mf ops tm0 acc listed t=some e.s:=by
      unfold mf;rw [hw];simp only;rw [hm j hb];simp [he']
     have:=tmp t _ hl;split at hx
     ·cases hx
     ·cases hx;exact this
    ·cases hx
   ·split at hx
    ·rename_i hl;have hl:=hla j hl;unfold Rex.ev at hx;simp only at hx;have ht0:tm0[t]? =some s:=by
      split at hx
      ·cases hx
      ·exact hx
     exact tmp t s (by unfold mf;rw [hw];simp only;rw [hl];exact ht0)
    ·cases hx
  ·rename_i hw;unfold Rex.ev at hx;simp only at hx;have hl:tm0[t]? =some s:=by
    split at hx
    ·cases hx
    ·exact hx
   exact tmp t s (by unfold mf;rw [hw];exact hl)
 ·rename_i hne;unfold Rex.ev at hx;split at hx
  ·exact absurd rfl (hne _)
  ·exact pZ hx
  ·cases hx;exact .v (.one (.op rfl))
  ·cases hx;exact .lO .nil
theorem dt {m:Nat}(hm: ∀j,m.testBit j=true→listed.getD j false=true) {i x:Nat} {bl:bG}(hbase:JX m0 (acc.take i) m x=some bl):(m0++je listed 0 acc)[x]? =some (some bl):=by
 unfold JX at hbase;split at hbase
 ·rename_i hlt;have hlt':x<m0.length:=by simpa [Nat.blt_eq] using hlt
  rw [List.getElem?_append_left hlt'];unfold bP at hbase;split at hbase
  ·cases hbase;assumption
  ·cases hbase
 ·rename_i hlt;have hge:m0.length≤x:=by
   rcases Nat.lt_or_ge x m0.length with h|h
   ·rw [show Nat.blt x m0.length=true by rw [Nat.blt_eq];exact h] at hlt;cases hlt
   ·exact h
  split at hbase
  ·rename_i hb;split at hbase
   ·rename_i e he;have he':acc[x-m0.length]? =some e:=by
     rw [List.getElem?_take] at he;split at he
     ·exact he
     ·cases he
    rw [List.getElem?_append_right hge,ef];simp only [Nat.zero_add,hm _ hb,he',Option.map_some,hbase]
   ·cases hbase
  ·cases hbase
theorem Inv.env(hR:pJ kH C ops tm0 m0 ms fs acc)(h:Inv bs ops tm0 m0 acc β0 w0 listed β a w) {i m:Nat}(hi:i<acc.length)(hun:listed.getD i false=false)(hm: ∀j,m.testBit j=true→listed.getD j false=true) {late:Nat→Bool}(hla: ∀j,late j=true→listed.getD j false=false):
  P8 β ⟨Tg ops tm0 (acc.take i) late m,yL m0 (acc.take i) m (bZ fs ms i)⟩ a w:=by
 have same: ∀x b,yL m0 (acc.take i) m (bZ fs ms i) x=some b→ ∃c,(bE m0 acc listed)[x]? =some (some c)∧(b.rw→c.rw)∧(¬b.dead→ ¬c.dead):=by
  intro x b hx;unfold yL at hx;split at hx
  ·rename_i l t hbase;cases hx;exact ⟨.cells (bJ listed x 0 acc l) t,by
    unfold bE;rw [aK,dt (listed:=listed) hm hbase];simp only [Option.map_some,Nat.zero_add,gU],fun _=>trivial,fun _=>id⟩
  ·rename_i ro z sh xs base tot t hbase;cases hx;exact ⟨.rows ro z sh xs base tot t,by
    unfold bE;rw [aK,dt (listed:=listed) hm hbase];simp only [Option.map_some,Nat.zero_add,gU],id,id⟩
  ·rename_i r j hbase;cases hx;exact ⟨.loop r j,by
    unfold bE;rw [aK,dt (listed:=listed) hm hbase];simp only [Option.map_some,Nat.zero_add,gU],id,id⟩
  ·rename_i ks ka vs va es clk hbase;cases hx;exact ⟨.map ks ka vs va es clk,by
    unfold bE;rw [aK,dt (listed:=listed) hm hbase];simp only [Option.map_some,Nat.zero_add,gU],id,id⟩
  ·rename_i y since seen last hbase;cases hx;exact ⟨.it y since seen last,by
    unfold bE;rw [aK,dt (listed:=listed) hm hbase];simp only [Option.map_some,Nat.zero_add,gU],id,id⟩
  ·cases hx
 have blkE: ∀x b,yL m0 (acc.take i) m (bZ fs ms i) x=some b→b.dead∨ ∃k,β x=some k∧cw β b w.heap[k]? :=by
  intro x b hx;have hx':yL m0 (acc.take i) m (bZ fs ms i) x=some b:=hx;unfold yL at hx';split at hx'
  ·rename_i l t hbase;cases hx';have hlen:(acc.take i).length=i:=by simp;omega
   have hmem:=dt (listed:=listed) hm hbase;have hD:(bE m0 acc listed)[x]? =some (some (.cells (bJ listed x 0 acc l) t)):=by
    unfold bE;rw [aK,hmem];simp only [Option.map_some,Nat.zero_add,gU]
   obtain ⟨k,hk,vs,hob,hvs⟩:=h.sat.cells hD;refine .inr ⟨k,hk,vs,hob,yV.has ?_ hvs⟩;obtain ⟨e,he⟩: ∃e,acc[i]? =some e:=⟨_,List.getElem?_eq_getElem hi⟩;have hsplit:acc=acc.take i++(e::acc.drop (i+1)):=by
    have h1:acc[i]=e:=(List.getElem?_eq_some_iff.1 he).2;rw [←h1];simp
   have hs:bJ listed x 0 acc l=bJ listed x (i+1) (acc.drop (i+1)) (bJ listed x 0 (acc.take i) l):=by
    conv=>lhs;rw [hsplit]
    rw [nw,hlen,bJ];simp only [Nat.zero_add]
    congr 1
    unfold fm;split
    ·split
     ·rw [hun]
     ·rfl
    ·rfl
   rw [hs,hlen];refine AS (HF hm (yV.refl l)) ?_;intro j e' y off cs hj hst;have hj':acc[i+1+j]? =some e':=by rw [List.getElem?_drop] at hj;exact hj
   obtain ⟨mj,h1,h2⟩:=hR.ab2 i (i+1+j) e' y off cs (by omega) hj' hst
   rw [show i+1+j-(i+1)=j by omega] at h1
   refine ⟨mj,h1,fun ht=>?_⟩;cases hl:listed.getD (i+1+j) false with
   |false=>rfl
   |true=>
    obtain ⟨o',m',ho',hm',_⟩:=hR.ent _ _ hj';rw [h2] at hm';cases hm';have:=h.closed.mask hR h2 ho' hl i ht;rw [hun] at this;cases this
  ·rename_i ro z sh xs base tot t hbase;cases hx';have hmem:=dt (listed:=listed) hm hbase;have hD:(bE m0 acc listed)[x]? =some (some (.rows ro z sh xs base tot t)):=by
    unfold bE;rw [aK,hmem];simp only [Option.map_some,Nat.zero_add,gU]
   exact h.sat.dz x _ hD
  ·rename_i r j hbase;cases hx';have hmem:=dt (listed:=listed) hm hbase;have hD:(bE m0 acc listed)[x]? =some (some (.loop r j)):=by
    unfold bE;rw [aK,hmem];simp only [Option.map_some,Nat.zero_add,gU]
   exact h.sat.dz x _ hD
  ·rename_i ks ka vs va es clk hbase;cases hx';have hmem:=dt (listed:=listed) hm hbase;have hD:(bE m0 acc listed)[x]? =some (some (.map ks ka vs va es clk)):=by
    unfold bE;rw [aK,hmem];simp only [Option.map_some,Nat.zero_add,gU]
   exact h.sat.dz x _ hD
  ·rename_i y since seen last hbase;cases hx';have hmem:=dt (listed:=listed) hm hbase;have hD:(bE m0 acc listed)[x]? =some (some (.it y since seen last)):=by
    unfold bE;rw [aK,hmem];simp only [Option.map_some,Nat.zero_add,gU]
   exact h.sat.dz x _ hD
  ·cases hx'
 refine ⟨fun x s hx=>h.ev hm hla hx,blkE,h.sat.gl,fun x l t k hx hk=>?_,fun sh v xs e=>⟨_,h.sat.im sh v xs e⟩,(List.range (bE m0 acc listed).length).map (yL m0 (acc.take i) m (bZ fs ms i)),?_,fun x b hx=>?_⟩
 ·have hx':yL m0 (acc.take i) m (bZ fs ms i) x=some (.cells l t):=hx;unfold yL at hx';split at hx'
  ·rename_i l0 t0 hbase;cases hx';have hmem:=dt (listed:=listed) hm hbase;have hD:(bE m0 acc listed)[x]? =some (some (.cells (bJ listed x 0 acc l0) t)):=by
    unfold bE;rw [aK,hmem];simp only [Option.map_some,Nat.zero_add,gU]
   exact h.sat.ng x k ⟨_,hD,trivial⟩ hk
  ·cases hx'
  ·cases hx'
  ·cases hx'
  ·cases hx'
  ·cases hx'
 ·have yD: ∀ {x:Nat} {b:bG},((List.range (bE m0 acc listed).length).map (yL m0 (acc.take i) m (bZ fs ms i)))[x]? =some (some b)→yL m0 (acc.take i) m (bZ fs ms i) x=some b:=by
   intro x b hx;rw [List.getElem?_map] at hx;cases hr:(List.range (bE m0 acc listed).length)[x]? with
   |none=>rw [hr] at hx;cases hx
   |some y=>
    rw [hr] at hx;have:=(List.getElem?_eq_some_iff.1 hr).2;simp at this;subst this;simpa using hx
  have kwU: ∀ {x:Nat},kw ((List.range (bE m0 acc listed).length).map (yL m0 (acc.take i) m (bZ fs ms i))) x→kw (bE m0 acc listed) x:=by
   rintro x ⟨b,hb,hr⟩;obtain ⟨c,hc,h1,_⟩:=same x b (yD hb);exact ⟨c,hc,h1 hr⟩
  have knU: ∀ {x:Nat},kn ((List.range (bE m0 acc listed).length).map (yL m0 (acc.take i) m (bZ fs ms i))) x→kn (bE m0 acc listed) x:=by
   rintro x ⟨b,hb,hr⟩;obtain ⟨c,hc,_,h1⟩:=same x b (yD hb);exact ⟨c,hc,h1 hr⟩
  refine ⟨fun x b hb=>blkE x b (yD hb),fun x y a hx hy e e'=>h.sat.inj x y a (kwU hx) (knU hy) e e',fun x a e=>by simpa using h.sat.CC x a e,h.sat.gl,fun x a hx e=>h.sat.ng x a (kwU hx) e,fun sh v xs e=>?_⟩
  obtain ⟨h0,c,hc,h1⟩:=h.sat.im sh v xs e;refine ⟨h0,c,hc,h1.imp id ?_⟩;rintro ⟨b,base,vs,t,fz,h2,h3,h4,h5⟩;exact ⟨b,base,vs,t,fz,h2,h3,h4,fun y hy=>h5 y (kwU hy)⟩
 ·obtain ⟨c,hc,_⟩:=same x b hx;have hl:=(List.getElem?_eq_some_iff.1 hc).1;rw [List.getElem?_map,List.getElem?_range hl];exact congrArg some hx
theorem Inv.guard(h:Inv bs ops tm0 m0 acc β0 w0 listed β a w) {i m:Nat}(hm: ∀j,m.testBit j=true→listed.getD j false=true) {late:Nat→Bool}(hla: ∀j,late j=true→listed.getD j false=false) {o:Oper}:
  (lL ops tm0 (acc.take i) late m o.guard= .run→Region.wanted o (yielded ⟨ops⟩ a.tmps)=true)∧(lL ops tm0 (acc.take i) late m o.guard= .skip→Region.wanted o (yielded ⟨ops⟩ a.tmps)=false):=by
 cases hg:o.guard with
 |none=>exact ⟨fun _=>by simp [Region.wanted,hg],fun h=>by simp [lL] at h⟩
 |some jw=>
  obtain ⟨j,want⟩:=jw;unfold lL;simp only;cases hj:ops[j]? with
  |none=>simp
  |some oj=>
   simp only;cases hd:oj.dst with
   |none=>simp
   |some t=>
    simp only;cases he:Tg ops tm0 (acc.take i) late m (.tmp t) with
    |none=>simp
    |some s=>
     have hs:=h.ev hm hla he;have hy: ∀v,a.eval (.tmp t)=v→v≠undef→(((⟨ops⟩:Array Oper)[j]?).bind (·.dst)).bind (a.tmps[·]?)=some v:=by
      intro v hv hne;have hj':(⟨ops⟩:Array Oper)[j]? =some oj:=by simpa using hj
      rw [hj'];simp only [Option.bind_some,hd];cases hq:a.tmps[t]? with
      |none=>exfalso;apply hne;rw [←hv];simp [Act.eval,hq]
      |some u=>rw [←hv];simp [Act.eval,hq]
     have hskip:a.eval (.tmp t)= .tuple #[]→Region.wanted o (yielded ⟨ops⟩ a.tmps)=false:=by
      intro hv;have hj':(⟨ops⟩:Array Oper)[j]? =some oj:=by simpa using hj
      simp only [Region.wanted,hg,yielded,hj',Option.bind_some,hd];cases hq:a.tmps[t]? with
      |none=>rfl
      |some u=>
       have:u= .tuple #[]:=by rw [←hv];simp [Act.eval,hq]
       subst this;rfl
     split
     ·rename_i kn b heq;cases heq;have hb:a.eval (.tmp t)= .bool b:=by
       cases hs with
       |v hs=>cases hs with
        |one hs=>generalize a.eval (.tmp t)=q at hs ⊢;cases hs;rfl
      have hyb:=hy _ hb (by simp [undef])
      have key:Region.wanted o (yielded ⟨ops⟩ a.tmps)=decide (b=want):=by
       simp only [Region.wanted,hg,yielded,hyb];cases b<;>cases want<;>rfl
      split
      ·split
       ·rename_i hd;exact ⟨fun _=>by rw [key,hd],fun h=>by cases h⟩
       ·rename_i hd;exact ⟨fun h=>(by cases h),fun _=>by rw [key,hd]⟩
      ·exact ⟨fun h=>(by cases h),fun h=>(by cases h)⟩
     ·rename_i heq;cases heq;refine ⟨fun h=>(by cases h),fun _=>hskip ?_⟩
      generalize a.eval (.tmp t)=q at hs ⊢;cases hs with
      |cz hs=>rw [hs.aI]
     ·exact ⟨fun h=>(by cases h),fun h=>(by cases h)⟩
theorem Inv.step(hR:pJ kH C ops tm0 m0 ms fs acc)(h:Inv bs ops tm0 m0 acc β0 w0 listed β a w) {i:Nat} {o:Oper} {e:fk}(ho:ops[i]? =some o)(he:acc[i]? =some e)(hun:listed.getD i false=false)
  (hdeps: ∀d∈o.after.toList,Region.binds .any d=true→listed.getD d.on false=true) {β':Nm} {r:Value} {w':World} (hs:Has β' e.s r)
  (hsat:Sat β' (bE m0 acc (listed.setIfInBounds i true)) w') (hsin:ai m0 β0 w0 (bE m0 acc (listed.setIfInBounds i true)) β' w') (hle:β.le β') (hfr: ∀j,m0.length+j≠m0.length+i∨e.b=none→β (m0.length+j)=none→β' (m0.length+j)=none):
  Inv bs ops tm0 m0 acc β0 w0 (listed.setIfInBounds i true) β' (a.put o.dst r) w':=by
 have hi:i<listed.size:=by rw [h.size];exact (List.getElem?_eq_some_iff.1 ho).1
 have hia:i<acc.length:=(List.getElem?_eq_some_iff.1 he).1;refine ⟨by simpa using h.size,?_,?_,hsat,?_,hsin,?_,?_,by rw [put_defers];exact h.df⟩
 ·intro j hj;rw [cJ hi] at hj;split at hj
  ·omega
  ·exact h.head j hj
 ·intro j oj hj hoj d hd hb;rw [cJ hi] at hj;rw [cJ hi];split
  ·rfl
  ·split at hj
   ·rename_i e1;subst e1;rw [ho] at hoj;cases hoj;exact hdeps d hd hb
   ·exact h.closed j oj hj hoj d hd hb
 ·intro j ej hj hor;rw [cJ hi] at hor;by_cases hij:i=j
  ·subst hij;rw [he] at hj;cases hj;rw [if_pos rfl] at hor;have hb:e.b=none:=hor.resolve_left (by simp)
   exact hfr i (.inr hb) (h.fresh i e he (.inl hun))
  ·rw [if_neg hij] at hor;exact hfr j (.inl (by omega)) (h.fresh j ej hj hor)
 ·intro t s hl;unfold mf at hl;have same:o.dst≠some t→ ∀v,a.tmps[t]? =some v→(a.put o.dst r).tmps[t]? =some v:=by
   intro hne v hv;cases hd:o.dst with
   |none=>exact hv
   |some d=>
    show (a.tmps.setIfInBounds d r)[t]? =some v;rw [Array.getElem?_setIfInBounds_ne (by intro e1;subst e1;exact hne hd)]
    exact hv
  cases hw:J7 t 0 ops with
  |none=>
   rw [hw] at hl;obtain ⟨v,hv,hh⟩:=h.tm t s (by unfold mf;rw [hw];exact hl)
   exact ⟨v,same (tU hw o (List.mem_of_getElem? ho)) v hv,hh.mono hle⟩
  |some j=>
   rw [hw] at hl;simp only at hl;rw [cJ hi] at hl;by_cases hij:i=j
   ·subst hij;rw [if_pos rfl] at hl;simp only [he,Option.map_some,Option.some.injEq] at hl;subst hl;obtain ⟨_,o',ho',hd'⟩:=zu hw;simp only [Nat.sub_zero] at ho';rw [ho] at ho';cases ho';refine ⟨r,?_,hs⟩;have:t<a.tmps.size:=by
     rw [h.bI];exact hR.din o (List.mem_of_getElem? ho) t hd'
    rw [hd'];show (a.tmps.setIfInBounds t r)[t]? =some r;simp [this]
   ·rw [if_neg hij] at hl;obtain ⟨v,hv,hh⟩:=h.tm t s (by unfold mf;rw [hw];exact hl)
    refine ⟨v,same ?_ v hv,hh.mono hle⟩;intro e1;have:=JZ (k:=0) hR.ds ho e1;rw [hw] at this;simp at this;omega
 ·cases hd:o.dst with
  |none=>exact h.bI
  |some d=>show (a.tmps.setIfInBounds d r).size=_;simpa using h.bI
theorem wz {i:Nat}(hi:i<listed.size) {e:fk}(he:acc[i]? =some e)(hun:listed.getD i false=false)(hb:e.b=none)(hst:e.st=none):bE m0 acc (listed.setIfInBounds i true)=bE m0 acc listed:=by
 have hmemi:(je listed 0 acc)[i]? =some none:=by
  rw [ef,he];simp only [Nat.zero_add,hun,Option.map_some]
 have hset:je (listed.setIfInBounds i true) 0 acc=je listed 0 acc:=by
  rw [zO hi he,hb];apply List.ext_getElem?;intro x;rw [List.getElem?_set];split
  ·rename_i e1;subst e1;have hl:=(List.getElem?_eq_some_iff.1 hmemi).1;rw [if_pos hl,hmemi]
  ·rfl
 unfold bE;rw [hset];apply List.ext_getElem?;intro x;rw [aK,aK]
 congr 1
 funext b
 cases b with
 |none=>rfl
 |some b=>
  cases b with
  |rows=>rfl
  |loop=>rfl
  |map=>rfl
  |it=>rfl
  |cells l t=>
   simp only [gU]
   congr 2
   refine fL fun j e' y off cs h1 h2 _=>?_;rw [cJ hi];split
   ·rename_i e1;rw [Nat.zero_add] at e1;subst e1;rw [he] at h1;cases h1;rw [hst] at h2;cases h2
   ·rfl
theorem KV(hR:pJ kH C ops tm0 m0 ms fs acc)(hc:wA ops listed) {i:Nat}(hi:i<listed.size) {e:fk}(he:acc[i]? =some e)(hun:listed.getD i false=false) {bl:bG}(hb:e.b=some bl)(hst:e.st=none):
  bE m0 acc (listed.setIfInBounds i true)=(bE m0 acc listed).set (m0.length+i) (some bl):=by
 have hia:=(List.getElem?_eq_some_iff.1 he).1;have hset:m0++je (listed.setIfInBounds i true) 0 acc=(m0++je listed 0 acc).set (m0.length+i) (some bl):=by
  rw [zO hi he,hb,List.set_append_right _ _ (by omega),show m0.length+i-m0.length=i by omega]
 unfold bE;rw [hset];apply List.ext_getElem?;intro x;rw [aK,List.getElem?_set,List.getElem?_set,aK,eQ];simp only [Nat.zero_add];have hlen:m0.length+i<(m0++je listed 0 acc).length:=by simp [qi];exact hia
 have hcong: ∀l,bJ (listed.setIfInBounds i true) x 0 acc l=bJ listed x 0 acc l:=by
  intro l;refine fL fun j e' y off cs h1 h2 _=>?_;rw [cJ hi];split
  ·rename_i e1;rw [Nat.zero_add] at e1;subst e1;rw [he] at h1;cases h1;rw [hst] at h2;cases h2
  ·rfl
 by_cases hx:m0.length+i=x
 ·subst hx;simp only [if_pos hlen,if_true,Option.map_some];cases bl with
  |rows=>rfl
  |loop=>rfl
  |map=>rfl
  |it=>rfl
  |cells l t=>
   simp only [gU];rw [hcong,ko];intro j e' y off cs h1 h2 h3 hy;rw [Nat.zero_add] at h2;obtain ⟨o',m',ho',hm',hE'⟩:=hR.ent j e' h1;rcases KI hE' h3 with hlt|hbit
   ·omega
   ·subst hy;rw [show m0.length+i-m0.length=i by omega] at hbit
    have:=hc.mask hR hm' ho' h2 i hbit;rw [hun] at this;cases this
 ·simp only [if_neg hx]
  congr 1
  funext b
  cases b with
  |none=>rfl
  |some b=>
   cases b with
   |rows=>rfl
   |loop=>rfl
   |map=>rfl
   |it=>rfl
   |cells l t=>simp only [gU,hcong]
theorem zT(hR:pJ kH C ops tm0 m0 ms fs acc)(hc:wA ops listed) {i:Nat}(hi:i<listed.size) {e:fk}(he:acc[i]? =some e)(hun:listed.getD i false=false)(hb:e.b=none) {y off:Nat} {cs:List Lf}(hst:e.st=some (y,off,cs))
  {l:List Lf} {t:TypeId} (hD:(bE m0 acc listed)[y]? =some (some (.cells l t))):
  bE m0 acc (listed.setIfInBounds i true)=(bE m0 acc listed).set y (some (.cells (pq l off cs) t)):=by
 have hia:=(List.getElem?_eq_some_iff.1 he).1;have hmemi:(je listed 0 acc)[i]? =some none:=by
  rw [ef,he];simp only [Nat.zero_add,hun,Option.map_some]
 have hset:je (listed.setIfInBounds i true) 0 acc=je listed 0 acc:=by
  rw [zO hi he,hb];apply List.ext_getElem?;intro x;rw [List.getElem?_set];split
  ·rename_i e1;subst e1;have hl:=(List.getElem?_eq_some_iff.1 hmemi).1;rw [if_pos hl,hmemi]
  ·rfl
 have hylen:=(List.getElem?_eq_some_iff.1 hD).1;have hsplit:acc=acc.take i++(e::acc.drop (i+1)):=by
  have h1:acc[i]=e:=(List.getElem?_eq_some_iff.1 he).2;rw [←h1];simp
 have hlen:(acc.take i).length=i:=by simp;omega
 have key: ∀l0,bJ (listed.setIfInBounds i true) y 0 acc l0=pq (bJ listed y 0 acc l0) off cs:=by
  intro l0;have e1: ∀ (L:Array Bool),bJ L y 0 acc l0=bJ L y (i+1) (acc.drop (i+1)) (fm L y i e (bJ L y 0 (acc.take i) l0)):=by
   intro L
   conv=>lhs;rw [hsplit]
   rw [nw,hlen,bJ];simp only [Nat.zero_add]
  rw [e1,e1];have e2:bJ (listed.setIfInBounds i true) y 0 (acc.take i) l0=bJ listed y 0 (acc.take i) l0:=by
   refine fL fun j e' y' off' cs' h1 h2 _=>?_;rw [cJ hi];split
   ·rename_i e3;rw [Nat.zero_add] at e3;subst e3;rw [List.getElem?_take] at h1;simp at h1
   ·rfl
  rw [e2];generalize bJ listed y 0 (acc.take i) l0=q;have e3:fm (listed.setIfInBounds i true) y i e q=pq q off cs:=by
   unfold fm;rw [hst];simp only [Nat.beq_refl];rw [cJ hi,if_pos rfl]
  have e4:fm listed y i e q=q:=by
   unfold fm;rw [hst];simp only [Nat.beq_refl];rw [hun]
  rw [e3,e4];have e5:bJ (listed.setIfInBounds i true) y (i+1) (acc.drop (i+1)) (pq q off cs)=bJ listed y (i+1) (acc.drop (i+1)) (pq q off cs):=by
   refine fL fun j e' y' off' cs' h1 h2 _=>?_;rw [cJ hi,if_neg (by omega)]
  rw [e5];refine Dn fun j e' y' off' cs' h1 h2 h3 h4=>?_;subst h4;have h1':acc[i+1+j]? =some e':=by rw [List.getElem?_drop] at h1;exact h1
  obtain ⟨o',m',ho',hm',_⟩:=hR.ent _ _ h1';rcases hR.pair i (i+1+j) e e' m' y' off cs off' cs' (by omega) he h1' hst h3 hm' with h5|h5|h5
  ·exact .inl h5
  ·exact .inr h5
  ·have:=hc.mask hR hm' ho' h2 i h5;rw [hun] at this;cases this
 unfold bE at hD ⊢;rw [hset];apply List.ext_getElem?;intro x;rw [aK,List.getElem?_set,aK,eQ];simp only [Nat.zero_add];by_cases hx:y=x
 ·subst hx;rw [aK] at hD;simp only [Nat.zero_add] at hD;have hyl:y<(m0++je listed 0 acc).length:=by
   unfold bE at hylen;rw [eQ] at hylen;exact hylen
  rw [if_pos rfl,if_pos hyl];cases hb0:(m0++je listed 0 acc)[y]? with
  |none=>rw [hb0] at hD;cases hD
  |some b0=>
   rw [hb0] at hD;simp only [Option.map_some,Option.some.injEq] at hD ⊢;cases b0 with
   |none=>cases hD
   |some b0=>
    cases b0 with
    |rows=>cases hD
    |loop=>cases hD
    |map=>cases hD
    |it=>cases hD
    |cells l0 t0=>
     simp only [gU] at hD ⊢;cases hD;rw [key]
 ·rw [if_neg hx]
  congr 1
  funext b
  cases b with
  |none=>rfl
  |some b=>
   cases b with
   |rows=>rfl
   |loop=>rfl
   |map=>rfl
   |it=>rfl
   |cells l0 t0=>
    simp only [gU]
    congr 2
    refine fL fun j e' y' off' cs' h1 h2 h3=>?_;rw [cJ hi];split
    ·rename_i e1;rw [Nat.zero_add] at e1;subst e1;rw [he] at h1;cases h1;rw [hst] at h2;cases h2;exact absurd h3 hx
    ·rfl
end
end Go.Proofs.YtfdmjoddhjmokaaGreatDoor.Rex
namespace Go.Proofs.YtfdmjoddhjmokaaGreatDoor.Rex
open Go.RowKit
set_option linter.unusedVariables false
set_option linter.unusedSimpArgs false
theorem Pp {P:Program} {o:Oper} {a:Act} {w:World} {t:TypeId} {A X:Operand}(ho:o.op= .store t A X) {k off:Nat}(hA:a.eval A= .pointer (some ⟨k,off,none⟩)) {us vs:List Value} {e:TypeId}(hob:w.heap[k]? =some (.cells ⟨us⟩ e (0,0)))
  (hvc:(a.eval X).cells=⟨vs⟩) {n:Nat} (hn:bI P t=some n) (hl:vs.length=n) (hone: ∀v∈vs,v.oneCell'=true) (hin:off+vs.length≤us.length):
  ∃w',(execOp a.eval o).run P w= .ok .skip w'∧Put w k (us.take off++(vs++us.drop (off+vs.length))) e w':=by
 obtain ⟨w',hr,hp⟩:=cL (P:=P) (b:=k) (off:=off) (e:=e) vs 0 us w hob hone (by omega)
 refine ⟨w',?_,hp⟩;rw [execOp,ho];simp only [hA,Instr.storeAt,Instr.sureAddr,storeVar,Sem.run_bind,Sem.run_pure,Result.andThen_ok,ao hn,hvc,List.size_toArray];rw [if_neg (by simp;omega)]
 rw [hr];rfl
theorem ai.put {m0 m:Mem} {β0 β:Nm} {w0 w w':World}(hs0:Sat β0 m0 w0)(h:ai m0 β0 w0 m β w) {x b:Nat} {l l':List Lf} {e:TypeId} {us:List Value}(hx:m[x]? =some (some (.cells l e)))(hb:β x=some b)(hp:Put w b us e w'):
 ai m0 β0 w0 (m.set x (some (.cells l' e))) β w':=ai.trans hs0 h (DV hx hb hp)
section
variable {kH bs:Nat} {F:Fence} {n:Nat} {C:Ctx} {ops:List Oper} {tm0:List SV} {m0:Mem} {acc:List fk} {β0:Nm} {w0:World} {listed:Array Bool} {β:Nm} {a:Act} {w:World} {ms:List Nat} {fs:List (Option (Nat×Nat×Nat))}
theorem Inv.op(hF:Wd F)(hC:C.Ok)(hs0:Sat β0 m0 w0)(hR:pJ kH C ops tm0 m0 ms fs acc)(h:Inv bs ops tm0 m0 acc β0 w0 listed β a w)
  {i:Nat} (hr:i∈Region.ready .any ⟨ops⟩ listed) (hia:i<acc.length) (hiH:i≠kH) (Q:Exit→Act→World→Prop) {K:Act→World→Prop} (hK: ∀β' a' w',Inv bs ops tm0 m0 acc β0 w0 (listed.setIfInBounds i true) β' a' w'→K a' w'):
  wpOpIn F n C.P ⟨ops⟩ Q i K a w:=by
 obtain ⟨e,he⟩: ∃e,acc[i]? =some e:=⟨_,List.getElem?_eq_getElem hia⟩;obtain ⟨o,m,ho,hm,hE⟩:=hR.ent i e he;obtain ⟨hun,o',ho',hall⟩:=mem_ready.1 hr;have ho2:(⟨ops⟩:Array Oper)[i]? =some o:=by simpa using ho
 rw [ho2] at ho';cases ho';have hsz:i<listed.size:=by rw [h.size];exact (List.getElem?_eq_some_iff.1 ho).1
 have hun':listed.getD i false=false:=by
  simp only [Array.getD_eq_getD_getElem?] at hun ⊢;rw [Array.getElem?_eq_getElem hsz] at hun ⊢;exact hun
 have hdeps: ∀d∈o.after.toList,Region.binds .any d=true→listed.getD d.on false=true:=fun d hd hb=>hall d (Array.mem_toList_iff.1 hd) hb;have hmask:=iz hR.mok h.closed hR.sB i m o hm ho hdeps;unfold wpOpIn;simp only [ho2];have hla: ∀j,jG (ms.drop (i+1)) i j=true→listed.getD j false=false:=by
  intro j hj;unfold jG at hj;split at hj
  ·rename_i hlt;rw [Nat.blt_eq] at hlt;split at hj
   ·rename_i mj hmj;rw [List.getElem?_drop,show i+1+(j-(i+1))=j by omega] at hmj
    cases hl:listed.getD j false with
    |false=>rfl
    |true=>
     have hjl:j<ops.length:=by rw [←hR.sB];exact (List.getElem?_eq_some_iff.1 hmj).1
     have:=h.closed.mask hR hmj (List.getElem?_eq_getElem hjl) hl i hj;rw [hun'] at this;cases this
   ·cases hj
  ·cases hj
 have hg:=h.guard (i:=i) hmask hla (o:=o);have henv:=h.env hR hia hun' hmask hla;cases hE with
 |hole h he=>exact absurd h hiH
 |skip hgs hee=>
  rw [if_neg (by rw [hg.2 hgs];simp)]
  subst hee;have hs:=wz (m0:=m0) hsz he hun' rfl rfl;exact ⟨fun f _=>hF.fn f,hK β _ w (h.step hR ho he hun' hdeps (.cz .nil) (by rw [hs];exact h.sat) (by rw [hs];exact h.since) (Nm.le_refl β) fun _ _ hx=>hx)⟩
 |store hgr hst=>
  rw [if_pos (hg.1 hgr)];unfold stE at hst;split at hst
  ·rename_i t A X hop;split at hst
   ·rename_i y off u hA hX;split at hst
    ·rename_i l te hmm;split at hst
     ·rename_i n hn;split at hst
      ·rename_i hd;cases hst;simp only [Bool.and_eq_true,decide_eq_true_eq] at hd;obtain ⟨d1,d2⟩:=hd;have hAv:=henv.ev _ _ hA;have hXv:=henv.ev _ _ hX;obtain ⟨k,hk,us,hob,hus⟩:=henv.cells hmm;have hav:a.eval A= .pointer (some ⟨k,off,none⟩):=by
        cases hAv with
        |v hAv=>cases hAv with
         |one hAv=>generalize a.eval A=q at hAv ⊢;cases hAv;rename_i h1;rw [hk] at h1;cases h1;rfl
       cases hXv with
       |v hXv=>
        obtain ⟨vs,hvc,hvs⟩:=hXv.cells;have l1:=hvs.length;have l2:=hus.length;have hone: ∀v∈vs,v.oneCell'=true:=by
         intro v hv;obtain ⟨j,hj,rfl⟩:=List.mem_iff_getElem.1 hv;obtain ⟨q,hq,hqv⟩:=hvs.get' (List.getElem?_eq_getElem hj);exact hqv.kT
        obtain ⟨w',hrun,hp⟩:=Pp (P:=C.P) hop hav hob hvc hn (by omega) hone (by omega)
        have hDx: ∃lD,(bE m0 acc listed)[y]? =some (some (.cells lD te)):=by
         have hmm':=hmm;unfold yL at hmm';split at hmm'
         ·rename_i l0 t0 hbase;cases hmm';have hmem:=dt (listed:=listed) hmask hbase;exact ⟨_,by unfold bE;rw [aK,hmem];rfl⟩
         ·cases hmm'
         ·cases hmm'
         ·cases hmm'
         ·cases hmm'
         ·cases hmm'
        obtain ⟨lD,hD⟩:=hDx;have hmd:=zT hR h.closed hsz he hun' rfl rfl hD;obtain ⟨k2,hk2,us2,hob2,hus2⟩:=h.sat.cells hD;rw [hk] at hk2;cases hk2;rw [hob] at hob2;cases hob2;have hnew:ae (aq β) (pq lD off u.cells) (us.take off++(vs++us.drop (off+vs.length))):=by
         rw [V5 (by have:=hus2.length;omega)]
         unfold gm;rw [←l1];exact (hus2.take _).append (hvs.append (hus2.drop _))
        have hsat':=h.sat.put hD hk hp hnew;have hsin':=ai.put (l':=pq lD off u.cells) hs0 h.since hD hk hp;rw [←hmd] at hsat' hsin';refine uw (R:=fun r w'=>r=undef∧Inv bs ops tm0 m0 acc β0 w0 (listed.setIfInBounds i true) β (a.put o.dst undef) w') hrun ⟨rfl,h.step hR ho he hun' hdeps (.cz .nil) hsat' hsin' (Nm.le_refl β) fun _ _ hx=>hx⟩ F _ hF _ Q ?_;rintro v w2 ⟨rfl,hinv⟩;exact hK β _ _ hinv
      ·cases hst
     ·cases hst
    ·cases hst
   ·cases hst
  ·cases hst
 |call hgr hst=>
  rw [if_pos (hg.1 hgr)];obtain ⟨c,f,id,y,rest,l,te,bc,p,s,new,hop,hfc,hcl,hus,hmm,hbc,hbcq,hnl,rfl⟩:=Be hst;have hp:=hR.obs _ (List.mem_of_getElem? he);obtain ⟨hcall,hsound⟩:=hC.B id bc (ma hbc);have hfh:=henv.ev _ _ hcl;have hargs:=c9 (g:=a.eval) (fun x s e=>henv.ev x s e) hus;obtain ⟨k,hk,us,hob,hus'⟩:=henv.cells hmm;have hDx: ∃lD,(bE m0 acc listed)[y]? =some (some (.cells lD te)):=by
   have hmm':=hmm;unfold yL at hmm';split at hmm'
   ·rename_i l0 t0 hbase;cases hmm';have hmem:=dt (listed:=listed) hmask hbase;exact ⟨_,by unfold bE;rw [aK,hmem];rfl⟩
   ·cases hmm'
   ·cases hmm'
   ·cases hmm'
   ·cases hmm'
   ·cases hmm'
  obtain ⟨lD,hD⟩:=hDx;have hmd:=zT hR h.closed hsz he hun' rfl rfl hD;obtain ⟨k2,hk2,us2,hob2,hus2⟩:=h.sat.cells hD;rw [hk] at hk2;cases hk2;rw [hob] at hob2;cases hob2;generalize hq:a.eval f=q at hfh;cases hfh with
  |lO hcaps=>
   rename_i vs;rw [hcaps.aI] at hq;obtain ⟨v0,vals,hvals,hv0,hrest⟩:=hargs.cons_inv;have hv0':v0= .pointer (some ⟨k,0,none⟩):=by
    cases hv0 with
    |v hv0=>cases hv0 with
     |one hv0=>cases hv0 with
      |ptr e=>rw [hk] at e;cases e;rfl
   subst hv0';have hlen:lD.length=new.length:=by rw [hnl,←hus'.length,←hus2.length]
   have hspl:pq lD 0 new=new:=by
    rw [V5 (by omega)]
    unfold gm;simp [hlen]
   have hcc:Calls C.P id ⟨c.args.toList.map a.eval⟩ w (fun e w'=> ∃r,e= .returned r∧Inv bs ops tm0 m0 acc β0 w0 (listed.setIfInBounds i true) β (a.put o.dst r) w'):=by
    rw [hvals];refine (hsound β rest vals l te p s new w k us h.sat.gl (h.sat.ng _ _ ⟨_,hD,trivial⟩ hk) hbcq hp hrest hob hus').mono ?_;rintro e w' ⟨r,us3,rfl,hr,hnew,hhere,hturn⟩;have hsat':=h.sat.jd (b1:= .cells (pq lD 0 new) te) hD trivial hk hturn ⟨us3,hhere,by rw [hspl];exact hnew⟩
    have hsin':=ai.trans hs0 h.since (cV (b1:= .cells (pq lD 0 new) te) hD trivial hk hturn);rw [←hmd] at hsat' hsin';exact ⟨r,rfl,h.step hR ho he hun' hdeps hr hsat' hsin' (Nm.le_refl β) fun _ _ hx=>hx⟩
   refine kd (f:=id) (args:=⟨c.args.toList.map a.eval⟩) ?_ hcc F n hF _ Q fun v w2 hinv=>hK β _ _ hinv;rw [execOp,hop];have e1:(c.args.map a.eval)=⟨c.args.toList.map a.eval⟩:=by apply Array.ext';simp
   simp only [resolve,hfc,hq,Deferred.ofValue,Sem.run_bind,Sem.run_pure,Result.andThen_ok,invoke,e1];rw [dH hcall];simp
 |run hgr hq hee=>
  rename_i p s b;rw [if_pos (hg.1 hgr)];have hbe:e.b=b:=by rcases hee with rfl|⟨t,kn,b',_,rfl⟩<;>rfl
  have hste:e.st=none:=by rcases hee with rfl|⟨t,kn,b',_,rfl⟩<;>rfl
  have hobe:=hR.obs e (List.mem_of_getElem? he);have hp:ob p:=by
   rcases hee with rfl|⟨t,kn,b',_,rfl⟩
   ·exact hobe
   ·exact (z8 hobe).2
  have hval: ∀ {γ:Nm} {r:Value},Has γ s r→Has γ e.s r:=by
   intro γ r hr;rcases hee with rfl|⟨t,kn,b',rfl,rfl⟩
   ·exact hr
   ·have hb:=(z8 hobe).1;cases hr with
    |v hr=>cases hr with
     |one hr=>cases hr;rw [hb];exact .v (.one .bool)
  have hfr:=h.fresh i e he (.inl hun');refine qN hC.Γ hq hp henv hfr F n hF _ Q ?_;intro r w' hl;cases b with
  |none=>
   obtain ⟨hs,hx⟩:=hl;have hse:=wz (m0:=m0) hsz he hun' hbe hste;exact hK β _ w' (h.step hR ho he hun' hdeps (hval hs) (by rw [hse];exact h.sat.ext hx) (by rw [hse];exact ai.a3Q h.since (ai.ext' hx) hx.block) (Nm.le_refl β) fun _ _ hx=>hx)
  |some bl=>
   obtain ⟨obj,rfl,hB,hs⟩:=hl;have hmd:=KV hR h.closed hsz he hun' hbe hste;have hmi:(bE m0 acc listed)[m0.length+i]? =some none:=by
    unfold bE;rw [aK,List.getElem?_append_right (by omega),show m0.length+i-m0.length=i by omega,ef,he]
    simp only [Nat.zero_add,hun',Option.map_some,gU]
   have hsat:=h.sat.alloc hmi hfr hB;have hsin:=h.since.alloc (Nat.le_add_right _ i) hfr bl obj;rw [←hmd] at hsat hsin;refine hK _ _ _ (h.step hR ho he hun' hdeps (hval hs) hsat hsin (Nm.jf hfr) ?_);intro j hor hx;rw [Nm.pW];rw [if_neg]
   ·exact hx
   ·intro e1;rcases hor with hor|hor
    ·exact hor e1
    ·rw [hbe] at hor;cases hor
theorem J6 {M:Md} {P:Program} {Γ:List (FuncId×FX)} {E:Env} {nm:Nat} {o:Oper} {p:Option Prop} {s:SV} {bl:Option bG} {β:Nm} {a:Act} {w:World}(hf:Wb o.op=true)(h:nh M P Γ E nm o.op=some (p,s,bl))(hE:P8 β E a w):
  p=none∧bl=none∧ ∃v,Has β s v∧(∀w',(execOp a.eval o).run P w'= .ok (.value v) w')∧ ∀w',o.about P w' a.eval=none:=by
 cases ho:o.op with
 |move x=>
  rw [ho] at h;unfold nh at h;obtain ⟨s',h',e⟩:=fC h;cases e;exact ⟨rfl,rfl,_,hE.ev _ _ h',fun w'=>by rw [execOp,ho];rfl,fun w'=>by unfold Oper.about;rw [ho]⟩
 |nilCheck x=>
  rw [ho] at h;unfold nh at h;obtain ⟨x',hx,h⟩:=Option.bind_eq_some_iff.1 h;have hxv:=hE.ev _ _ hx;have hab: ∀w',o.about P w' a.eval=none:=fun w'=>by unfold Oper.about;rw [ho]
  split at h
  ·cases h;refine ⟨rfl,rfl,a.eval x,hxv,fun w'=>?_,hab⟩;cases hxv with
   |v hxv=>cases hxv with
    |one hxv=>rw [execOp,ho];simp only;generalize a.eval x=q at hxv ⊢;cases hxv;rfl
  ·cases h;refine ⟨rfl,rfl,a.eval x,hxv,fun w'=>?_,hab⟩;cases hxv with
   |v hxv=>cases hxv with
    |one hxv=>rw [execOp,ho];simp only;generalize a.eval x=q at hxv ⊢;cases hxv;rfl
  ·cases h;refine ⟨rfl,rfl,a.eval x,hxv,fun w'=>?_,hab⟩;cases hxv with
   |v hxv=>cases hxv with
    |one hxv=>rw [execOp,ho];simp only;generalize a.eval x=q at hxv ⊢;cases hxv;rfl
  ·cases h
 |fieldAddr t x f=>
  rw [ho] at h;unfold nh at h;obtain ⟨x',hx,h⟩:=Option.bind_eq_some_iff.1 h;have hxv:=hE.ev _ _ hx;have hab: ∀w',o.about P w' a.eval=none:=fun w'=>by unfold Oper.about;rw [ho]
  split at h
  ·rename_i b off;obtain ⟨fd,hfd,h⟩:=Option.bind_eq_some_iff.1 h;obtain ⟨fs,hu,hfs⟩:=c8 hfd;split at h
   ·rename_i n hn;cases h;cases hxv with
    |v hxv=>cases hxv with
     |one hxv=>
      generalize hq:a.eval x=q at hxv;cases hxv with
      |ptr hb=>
       rename_i B;refine ⟨rfl,rfl,.pointer (some ⟨B,off+fd.offset,none⟩),.v (.one (.ptr hb)),fun w'=>?_,hab⟩;rw [execOp,ho];simp [hq,Instr.fieldAt,run_underlying hu,hfs,Instr.sureAddr,fieldPlace,ao hn,aO]
   ·cases h
  ·rename_i b base sz i off;obtain ⟨fd,hfd,h⟩:=Option.bind_eq_some_iff.1 h;obtain ⟨fs,hu,hfs⟩:=c8 hfd;split at h
   ·rename_i n hn;cases h;cases hxv with
    |v hxv=>cases hxv with
     |one hxv=>
      generalize hq:a.eval x=q at hxv;cases hxv with
      |rp hb=>
       rename_i B;refine ⟨rfl,rfl,.pointer (some ⟨B,base+i*sz+(off+fd.offset),none⟩),.v (.one (.rp hb)),fun w'=>?_,hab⟩;rw [execOp,ho];simp [hq,Instr.fieldAt,run_underlying hu,hfs,Instr.sureAddr,fieldPlace,ao hn,aO,Nat.add_assoc]
   ·cases h
  ·rename_i g off;obtain ⟨fd,hfd,h⟩:=Option.bind_eq_some_iff.1 h;obtain ⟨fs,hu,hfs⟩:=c8 hfd;split at h
   ·rename_i n hn;cases h;cases hxv with
    |v hxv=>cases hxv with
     |one hxv=>
      generalize hq:a.eval x=q at hxv;cases hxv with
      |op hb=>
       refine ⟨rfl,rfl,.pointer (some ⟨g,off+fd.offset,none⟩),.v (.one (.op rfl)),fun w'=>?_,hab⟩;rw [execOp,ho];simp [hq,Instr.fieldAt,run_underlying hu,hfs,Instr.sureAddr,fieldPlace,ao hn,aO]
   ·cases h
  ·cases h
 |_=>rw [ho] at hf;cases hf
theorem Mb {M:Md} {P:Program} {Γ:List (FuncId×FX)} {E:Env} {nm:Nat} {o:Oper} {p:Option Prop} {s:SV} {bl:Option bG} {β:Nm} {a:Act} {w:World}(hf:Wb o.op=true)(h:Mg M P Γ E nm o.op=some (p,s,bl))(hE:P8 β E a w):
  p=none∧bl=none∧ ∃v,Has β s v∧(∀w',(execOp a.eval o).run P w'= .ok (.value v) w')∧ ∀w',o.about P w' a.eval=none:=by
 unfold Mg at h;split at h
 ·rename_i r hq;cases h;exact J6 hf hq hE
 ·obtain ⟨p',s',h',e⟩:=dX h;cases e;clear h;cases ho:o.op with
  |move x=>rw [ho] at h';cases h'
  |nilCheck x=>
   rw [ho] at h';unfold qX at h';obtain ⟨x',hx,h⟩:=Option.bind_eq_some_iff.1 h';clear h';have hxv:=hE.ev _ _ hx;have hab: ∀w',o.about P w' a.eval=none:=fun w'=>by unfold Oper.about;rw [ho]
   split at h
   ·cases h;refine ⟨rfl,rfl,a.eval x,hxv,fun w'=>?_,hab⟩;cases hxv with
    |v hxv=>cases hxv with
     |one hxv=>rw [execOp,ho];simp only;generalize a.eval x=q at hxv ⊢;cases hxv;rfl
   ·split at h
    ·rename_i f hf;cases h;refine ⟨rfl,rfl,a.eval x,hxv,fun w'=>?_,hab⟩;rw [execOp,ho];simp only;generalize a.eval x=q at hxv ⊢;cases hxv;simp only [List.getElem?_toArray,List.getElem?_cons_zero];have e1: ∃k,P.types.size+Made.depth=k+1:=⟨P.types.size+Made.depth-1,by simp [Made.depth]⟩
     obtain ⟨k,hk⟩:=e1;simp [hk,uE hf]
    ·cases h
   ·cases h
  |fieldAddr t x f=>
   rw [ho] at h';unfold qX at h';obtain ⟨x',hx,h⟩:=Option.bind_eq_some_iff.1 h';clear h';have hxv:=hE.ev _ _ hx;have hab: ∀w',o.about P w' a.eval=none:=fun w'=>by unfold Oper.about;rw [ho]
   split at h
   ·rename_i sh v xs i off;obtain ⟨fd,hfd,h⟩:=Option.bind_eq_some_iff.1 h;obtain ⟨fs,hu,hfs⟩:=c8 hfd;split at h
    ·rename_i n hn;cases h;generalize hq:a.eval x=q at hxv;cases hxv with
     |v hxv=>cases hxv with
      |one hxv=>cases hxv with
       |imp him hv=>
        rename_i b o' m c;refine ⟨rfl,rfl,.pointer (some ⟨b,o'+i*sh.length+(off+fd.offset),none⟩),.v (.one (.imp him hv)),fun w'=>?_,hab⟩;rw [execOp,ho];simp [hq,Instr.fieldAt,run_underlying hu,hfs,Instr.sureAddr,fieldPlace,ao hn,aO,Nat.add_assoc]
    ·cases h
   ·cases h
  |_=>rw [ho] at hf;cases hf
theorem Inv.Wb(hs0:Sat β0 m0 w0)(hR:pJ kH C ops tm0 m0 ms fs acc)(h:Inv bs ops tm0 m0 acc β0 w0 listed β a w)
  {i:Nat} {o:Oper} (ho:ops[i]? =some o) (hr:i∈Region.ready .any ⟨ops⟩ listed) (hia:i<acc.length) (hiH:i≠kH) (hf:Wb o.op=true) (hg:noG o=true):
  ∃v,YieldsFenced C.P ⟨ops⟩ o v a∧Inv bs ops tm0 m0 acc β0 w0 (listed.setIfInBounds i true) β (a.put o.dst v) w:=by
 obtain ⟨e,he⟩: ∃e,acc[i]? =some e:=⟨_,List.getElem?_eq_getElem hia⟩;obtain ⟨o1,m,ho1,hm,hE⟩:=hR.ent i e he;rw [ho] at ho1;cases ho1;obtain ⟨hun,o',ho',hall⟩:=mem_ready.1 hr;have ho2:(⟨ops⟩:Array Oper)[i]? =some o:=by simpa using ho
 rw [ho2] at ho';cases ho';have hgn:o.guard=none:=by
  unfold noG at hg;split at hg
  ·assumption
  ·cases hg
 have hsz:i<listed.size:=by rw [h.size];exact (List.getElem?_eq_some_iff.1 ho).1
 have hun':listed.getD i false=false:=by
  simp only [Array.getD_eq_getD_getElem?] at hun ⊢;rw [Array.getElem?_eq_getElem hsz] at hun ⊢;exact hun
 have hdeps: ∀d∈o.after.toList,Region.binds .any d=true→listed.getD d.on false=true:=fun d hd hb=>hall d (Array.mem_toList_iff.1 hd) hb;have hmask:=iz hR.mok h.closed hR.sB i m o hm ho hdeps;have hla: ∀j,jG (ms.drop (i+1)) i j=true→listed.getD j false=false:=by
  intro j hj;unfold jG at hj;split at hj
  ·rename_i hlt;rw [Nat.blt_eq] at hlt;split at hj
   ·rename_i mj hmj;rw [List.getElem?_drop,show i+1+(j-(i+1))=j by omega] at hmj
    cases hl:listed.getD j false with
    |false=>rfl
    |true=>
     have hjl:j<ops.length:=by rw [←hR.sB];exact (List.getElem?_eq_some_iff.1 hmj).1
     have:=h.closed.mask hR hmj (List.getElem?_eq_getElem hjl) hl i hj;rw [hun'] at this;cases this
   ·cases hj
  ·cases hj
 have henv:=h.env hR hia hun' hmask hla;cases hE with
 |hole h he=>exact absurd h hiH
 |skip hgs hee=>rw [hgn] at hgs;simp [lL] at hgs
 |store hgr hst=>
  unfold stE at hst;split at hst
  ·rename_i hop;rw [hop] at hf;cases hf
  ·cases hst
 |call hgr hst=>
  unfold IL at hst;split at hst
  ·rename_i hop;rw [hop] at hf;cases hf
  ·cases hst
 |run hgr hq hee=>
  rename_i p s b;obtain ⟨rfl,rfl,v,hv,hrun,hab⟩:=Mb hf hq henv;have hbe:e.b=none:=by rcases hee with rfl|⟨t,kn,b',_,rfl⟩<;>rfl
  have hste:e.st=none:=by rcases hee with rfl|⟨t,kn,b',_,rfl⟩<;>rfl
  have hobe:=hR.obs e (List.mem_of_getElem? he);have hval:Has β e.s v:=by
   rcases hee with rfl|⟨t,kn,b',rfl,rfl⟩
   ·exact hv
   ·have hb:=(z8 (show ob (Vb (b'=t) none) from hobe)).1;cases hv with
    |v hr=>cases hr with
     |one hr=>cases hr;rw [hb];exact .v (.one .bool)
  have hs:=wz (m0:=m0) hsz he hun' hbe hste;refine ⟨v,⟨.inl ⟨by simp [Region.wanted,hgn],hrun⟩,hab⟩,h.step hR ho he hun' hdeps hval (by rw [hs];exact h.sat) (by rw [hs];exact h.since) (Nm.le_refl β) fun _ _ hx=>hx⟩
theorem oW {P:Program} {ops:Array Oper} {Q:Exit→Act→World→Prop}(l:List Oper): ∀ (k:Nat) (listed:Array Bool) (a:Act) (w:World),(∀j,l[j]? =ops[k+j]?)→Region.seqB .any ops l.length k listed=true→wpListIn F n P ops Q l a w→wpAnyIn F n P .any ops Q l.length listed a w:=by
 induction l with
 |nil=>
  intro k listed a w _ hs h;refine ⟨?_,h⟩;simpa [Region.seqB] using hs
 |cons o l ih=>
  intro k listed a w hl hs h;have ho:ops[k]? =some o:=(hl 0).symm;simp only [List.length_cons,Region.seqB,Bool.and_eq_true,decide_eq_true_eq] at hs;obtain ⟨h1,h2⟩:=hs;refine wpAnyIn_all h1 (by simp) fun i hi=>?_
  obtain rfl:i=k:=by simpa using hi
  refine wpOpIn_mono (fun a' w'=>ih (i+1) _ a' w' (fun j=>?_) h2) ?_
  ·have:=hl (j+1);rw [show i+1+j=i+(j+1) by omega,←this]
   rfl
  ·unfold wpOpIn;rw [ho];exact h
theorem eS {k n i:Nat}(hk:k≤n):(aC k n).getD i false=decide (i<k):=by
 unfold aC;simp only [Array.getD_eq_getD_getElem?,List.getElem?_toArray];rcases Nat.lt_or_ge i k with h|h
 ·rw [List.getElem?_append_left (by simpa using h)]
  simp [h]
 ·rw [List.getElem?_append_right (by simpa using h)]
  have: ¬i<k:=by omega
  simp only [List.length_replicate,this,decide_false];rw [List.getElem?_replicate];split<;>rfl
theorem Eu(h:Inv bs ops tm0 m0 acc β0 w0 listed β a w)(hk:acc.length≤ops.length)(hall: ∀i,i<acc.length→listed.getD i false=true):listed=aC acc.length ops.length:=by
 have hs:(aC acc.length ops.length).size=ops.length:=by unfold aC;simp;omega
 apply Array.ext
 ·rw [h.size,hs]
 ·intro i h1 h2;have e1:listed[i]=listed.getD i false:=by simp [Array.getD_eq_getD_getElem?,h1]
  have e2:(aC acc.length ops.length)[i]=(aC acc.length ops.length).getD i false:=by simp [Array.getD_eq_getD_getElem?,h2]
  rw [e1,e2,eS hk];by_cases hi:i<acc.length
  ·rw [hall i hi];simp [hi]
  ·simp only [hi,decide_false];cases hb:listed.getD i false with
   |false=>rfl
   |true=>exact absurd (h.head i hb) hi
theorem uT: ∀ (l:List SV) (k t:Nat),(fj ops acc k l)[t]? =(l[t]?).map fun s=>match J7 (k+t) 0 ops with
  |some j=>match acc[j]? with
   |some e=>e.s
   |none=>s
  |none=>s
 | [],k,t=>by simp [fj]
 |s::l,k,0=>rfl
 |s::l,k,t+1=>by
  rw [fj,List.getElem?_cons_succ,List.getElem?_cons_succ,uT l (k+1) t,show k+1+t=k+(t+1) by omega]
theorem oe: ∀ (l:List SV) (k:Nat),(fj ops acc k l).length=l.length
 | [],k=>rfl
 |s::l,k=>by simp [fj,oe l (k+1)]
theorem lB {A B:Type} {R:A→B→Prop}: ∀ {l:List A} {m:List B},l.length=m.length→(∀ (i:Nat) (a:A),l[i]? =some a→ ∃b,m[i]? =some b∧R a b)→ae R l m
 | [],[],_,_=> .nil
 |a::l,b::m,hl,h=>by
  obtain ⟨b',hb,hr⟩:=h 0 a (by simp)
  simp at hb;subst hb;exact .cons hr (lB (by simpa using hl) fun i x hx=>by simpa using h (i+1) x (by simpa using hx))
 | [],_::_,hl,_=>by simp at hl
 |_::_,[],hl,_=>by simp at hl
theorem Inv.fin(hs0:Sat β0 m0 w0)(h:Inv bs ops tm0 m0 acc β0 w0 listed β a w)(hk:acc.length≤ops.length)(hall: ∀i,i<acc.length→listed.getD i false=true):
  Fit bs ⟨fj ops acc 0 tm0,bE m0 acc listed⟩ β a w∧ai m0 β0 w0 (bE m0 acc listed) β w:=by
 refine ⟨⟨?_,h.sat,h.df.mono fun D hD=>h.since.defer hs0 hD⟩,h.since⟩;refine lB ?_ ?_
 ·have e:(fj ops acc 0 tm0).length=tm0.length:=oe tm0 0;show (fj ops acc 0 tm0).length=a.tmps.toList.length;have e2:a.tmps.toList.length=a.tmps.size:=Array.length_toList;rw [e,e2,h.bI]
 ·intro t s hs;have hs':(fj ops acc 0 tm0)[t]? =some s:=hs;rw [uT] at hs';simp only [Nat.zero_add] at hs';have: ∃v,a.tmps[t]? =some v∧Has β s v:=by
   cases ht:tm0[t]? with
   |none=>rw [ht] at hs';cases hs'
   |some s0=>
    rw [ht] at hs';simp only [Option.map_some,Option.some.injEq] at hs';apply h.tm t s;unfold mf;cases hw:J7 t 0 ops with
    |none=>rw [hw] at hs';simp only at hs';subst hs';exact ht
    |some j=>
     rw [hw] at hs';simp only at hs' ⊢;rcases Nat.lt_or_ge j acc.length with hj|hj
     ·rw [hall j hj];rw [List.getElem?_eq_getElem hj] at hs' ⊢;simp only at hs';simp [hs']
     ·rw [List.getElem?_eq_none hj] at hs';simp only at hs';have:listed.getD j false=false:=by
       cases hb:listed.getD j false with
       |false=>rfl
       |true=>exact absurd (h.head j hb) (by omega)
      rw [this];simp only;rw [ht,hs']
  obtain ⟨v,hv,hh⟩:=this;exact ⟨v,by simpa using hv,hh⟩
def cP(listed:Array Bool):Nat:=listed.toList.countP (fun b=> !b)
theorem nE {listed:Array Bool} {i:Nat}(hi:i<listed.size)(h:listed.getD i false=false):cP (listed.setIfInBounds i true)+1=cP listed:=by
 unfold cP;rw [Array.toList_setIfInBounds];have hi':i<listed.toList.length:=by simpa using hi
 have hv:listed.toList[i]=false:=by
  have:listed.getD i false=listed[i]:=by simp [Array.getD_eq_getD_getElem?,hi]
  rw [this] at h;simpa using h
 generalize listed.toList=l at hi' hv;clear hi h
 induction l generalizing i with
 |nil=>simp at hi'
 |cons b l ih=>
  cases i with
  |zero=>
   simp at hv;subst hv;simp
  |succ i=>
   simp at hv hi';have:=ih (i:=i) hi' hv;simp only [List.set_cons_succ,List.countP_cons];omega
theorem nI(k n:Nat):cP (aC k n)=n-k:=by
 unfold cP aC;simp [List.countP_append,List.countP_replicate]
theorem sD {n:Nat}: ∀ {ms:List Nat} {i:Nat},po n i ms=true→ ∀j m,ms[j]? =some m→n≤i+j→m=2^ (i+j)-1
 | [],i,h,j,m,hm,_=>by simp at hm
 |k::ms,i,h,0,m,hm,hn=>by
  simp at hm;subst hm;unfold po at h;rw [Bool.and_eq_true,Bool.or_eq_true] at h;rcases h.1 with h1|h1
  ·rw [Nat.blt_eq] at h1;omega
  ·exact Nat.eq_of_beq_eq_true h1
 |k::ms,i,h,j+1,m,hm,hn=>by
  unfold po at h;rw [Bool.and_eq_true] at h;have:=sD h.2 j m (by simpa using hm) (by omega)
  rw [this,show i+1+j=i+(j+1) by omega]
theorem WZ(hF:Wd F)(hC:C.Ok)(hs0:Sat β0 m0 w0)(hR:pJ kH C ops tm0 m0 ms fs acc)
  (htail:po acc.length 0 ms=true) (hk:acc.length≤ops.length) (hH:acc.length≤kH) (Q:Exit→Act→World→Prop)
  (hQ: ∀β a w,Fit bs ⟨fj ops acc 0 tm0,bE m0 acc (aC acc.length ops.length)⟩ β a w→ai m0 β0 w0 (bE m0 acc (aC acc.length ops.length)) β w→wpAnyIn F n C.P .any ⟨ops⟩ Q (ops.length-acc.length) (aC acc.length ops.length) a w):
  ∀ (fuel:Nat) (listed:Array Bool) (β:Nm) (a:Act) (w:World),fuel=cP listed→Inv bs ops tm0 m0 acc β0 w0 listed β a w→wpAnyIn F n C.P .any ⟨ops⟩ Q fuel listed a w:=by
 intro fuel
 induction fuel with
 |zero=>
  intro listed β a w hc h;have hall: ∀i,i<acc.length→listed.getD i false=true:=by
   intro i hi;cases hb:listed.getD i false with
   |true=>rfl
   |false=>
    have:=nE (by rw [h.size];omega) hb
    omega
  obtain ⟨h1,h2⟩:=Inv.fin hs0 h hk hall;have he:=Eu h hk hall;subst he;rw [nI] at hc;have:=hQ β a w h1 h2
  rwa [←hc] at this
 |succ fuel ih=>
  intro listed β a w hc h;by_cases hall: ∀i,i<acc.length→listed.getD i false=true
  ·obtain ⟨h1,h2⟩:=Inv.fin hs0 h hk hall;have he:=Eu h hk hall;subst he;rw [nI] at hc;have:=hQ β a w h1 h2
   rwa [←hc] at this
  ·obtain ⟨i,hi,hl⟩: ∃i,i<acc.length∧listed.getD i false=false:=by
    apply Classical.byContradiction;intro hn;apply hall;intro i hi;cases hb:listed.getD i false with
    |true=>rfl
    |false=>exact absurd ⟨i,hi,hb⟩ hn
   obtain ⟨i0,⟨hi0,hl0⟩,hmin⟩:=gq (p:=fun i=>i<acc.length∧listed.getD i false=false) ⟨i,hi,hl⟩;have hbelow: ∀j,j<i0→listed.getD j false=true:=by
    intro j hj;cases hb:listed.getD j false with
    |true=>rfl
    |false=>exact absurd ⟨by omega,hb⟩ (hmin j hj)
   have getD_tf: ∀j,j<ops.length→listed.getD j true=listed.getD j false:=by
    intro j hj;have:j<listed.size:=by rw [h.size];exact hj
    simp [Array.getD_eq_getD_getElem?,this]
   have hready:i0∈Region.ready .any ⟨ops⟩ listed:=by
    rw [mem_ready];have ho:ops[i0]? =some (ops[i0]'(by omega)):=List.getElem?_eq_getElem (by omega)
    refine ⟨by rw [getD_tf i0 (by omega)];exact hl0,_,by rw [List.getElem?_toArray];exact ho,fun e he hb=>?_⟩
    have hm:ms[i0]? =some (ms[i0]'(by have:=hR.sB;omega)):=List.getElem?_eq_getElem (by have:=hR.sB;omega)
    exact hbelow e.on ((hR.mok i0 _ _ hm ho).1 e (Array.mem_toList_iff.2 he) hb)
   refine ⟨fun h0=>(by rw [h0] at hready;cases hready),fun j hj=>?_⟩
   rcases Nat.lt_or_ge j acc.length with hja|hja
   ·refine Inv.op hF hC hs0 hR h hj hja (by omega) Q fun β' a' w' h'=>?_
    have hun:listed.getD j false=false:=by rw [←getD_tf j (by omega)];exact (mem_ready.1 hj).1
    exact ih _ β' a' w' (by have:=nE (by rw [h.size];omega) hun;omega) h'
   ·exfalso;obtain ⟨hun,o,ho,hdeps⟩:=mem_ready.1 hj;have ho':ops[j]? =some o:=by simpa using ho
    have hjl:=(List.getElem?_eq_some_iff.1 ho').1;have hm:ms[j]? =some (ms[j]'(by have:=hR.sB;omega)):=List.getElem?_eq_getElem (by have:=hR.sB;omega)
    have hmask:=iz hR.mok h.closed hR.sB j _ o hm ho' (fun d hd hb=>hdeps d (Array.mem_toList_iff.1 hd) hb);have hbits:=sD htail j _ hm (by omega)
    simp only [Nat.zero_add] at hbits;have:=hmask i0 (by rw [hbits,Nat.testBit_two_pow_sub_one];simp;omega)
    rw [hl0] at this;cases this
theorem Inv.acU(hs0:Sat β0 m0 w0)(h:Inv bs ops tm0 m0 acc β0 w0 listed β a w)(hk:acc.length≤ops.length) {k:Nat} {eH:fk}(heH:acc[k]? =some eH)(hj:eH.s= .bX)(hall: ∀i,i<acc.length→i≠k→listed.getD i false=true):
  Fit bs ⟨fj ops acc 0 tm0,bE m0 acc listed⟩ β a w∧ai m0 β0 w0 (bE m0 acc listed) β w:=by
 refine ⟨⟨?_,h.sat,h.df.mono fun D hD=>h.since.defer hs0 hD⟩,h.since⟩;refine lB ?_ ?_
 ·have e:(fj ops acc 0 tm0).length=tm0.length:=oe tm0 0;show (fj ops acc 0 tm0).length=a.tmps.toList.length;have e2:a.tmps.toList.length=a.tmps.size:=Array.length_toList;rw [e,e2,h.bI]
 ·intro t s hs;have hs':(fj ops acc 0 tm0)[t]? =some s:=hs;rw [uT] at hs';simp only [Nat.zero_add] at hs';have: ∃v,a.tmps[t]? =some v∧Has β s v:=by
   cases ht:tm0[t]? with
   |none=>rw [ht] at hs';cases hs'
   |some s0=>
    rw [ht] at hs';simp only [Option.map_some,Option.some.injEq] at hs';cases hw:J7 t 0 ops with
    |none=>
     apply h.tm t s;unfold mf;rw [hw] at hs' ⊢;simp only at hs';subst hs';exact ht
    |some j=>
     rw [hw] at hs';simp only at hs';by_cases hjk:j=k
     ·subst hjk;rw [heH] at hs';simp only at hs';subst hs';rw [hj];have htl:t<a.tmps.size:=by rw [h.bI];exact (List.getElem?_eq_some_iff.1 ht).1
      exact ⟨a.tmps[t],Array.getElem?_eq_getElem htl,.bX⟩
     ·apply h.tm t s;unfold mf;rw [hw];simp only;rcases Nat.lt_or_ge j acc.length with hja|hja
      ·rw [hall j hja hjk];rw [List.getElem?_eq_getElem hja] at hs' ⊢;simp only at hs';simp [hs']
      ·rw [List.getElem?_eq_none hja] at hs';simp only at hs';have:listed.getD j false=false:=by
        cases hb:listed.getD j false with
        |false=>rfl
        |true=>exact absurd (h.head j hb) (by omega)
       rw [this];simp only;rw [ht,hs']
  obtain ⟨v,hv,hh⟩:=this;exact ⟨v,by simpa using hv,hh⟩
theorem iK {k n m i:Nat}(hn:n≤m):(b6 k n m).getD i false=(decide (i<n)&&decide (i≠k)):=by
 unfold b6;by_cases h:k<(aC n m).size
 ·simp only [Array.getD_eq_getD_getElem?,Array.getElem?_setIfInBounds];have h2:=eS (i:=i) hn;simp only [Array.getD_eq_getD_getElem?] at h2;by_cases e:k=i
  ·subst e;simp [h]
  ·rw [if_neg e,h2];simp [Ne.symm e]
 ·have hk: ¬i=k∨ ¬i<n:=by
   by_cases e:i=k
   ·right;subst e;have:(aC n m).size=m:=by unfold aC;simp;omega
    omega
   ·exact .inl e
  rw [Array.setIfInBounds_eq_of_size_le (by omega),eS hn]
  rcases hk with e|e
  ·simp [e]
  ·simp [e]
theorem L9(h:Inv bs ops tm0 m0 acc β0 w0 listed β a w)(hk:acc.length≤ops.length) {k:Nat}(hno:listed.getD k false=false)(hall: ∀i,i<acc.length→i≠k→listed.getD i false=true):listed=b6 k acc.length ops.length:=by
 have hs:(b6 k acc.length ops.length).size=ops.length:=by unfold b6 aC;simp;omega
 apply Array.ext
 ·rw [h.size,hs]
 ·intro i h1 h2;have e1:listed[i]=listed.getD i false:=by simp [Array.getD_eq_getD_getElem?,h1]
  have e2:(b6 k acc.length ops.length)[i]=(b6 k acc.length ops.length).getD i false:=by simp [Array.getD_eq_getD_getElem?,h2]
  rw [e1,e2,iK hk];by_cases hik:i=k
  ·subst hik;rw [hno];simp
  by_cases hi:i<acc.length
  ·rw [hall i hi hik];simp [hi,hik]
  ·simp only [hi,decide_false,Bool.false_and];cases hb:listed.getD i false with
   |false=>rfl
   |true=>exact absurd (h.head i hb) hi
theorem E7 {k m:Nat}: ∀ {l:List Oper} {i:Nat},KW ops k m i l=true→ ∀ (j:Nat) o,l[j]? =some o→i+j≠k→
  (m.testBit (i+j)=true∧i+j<k)∨(Wb o.op=true∧noG o=true∧(∀e∈o.after,Region.binds .any e=true→e.on≠k)∧Region.free .any ⟨ops⟩ (b6 k (i+j) ops.length) (i+j)=true)
 | [],i,h,j,o,ho,_=>by simp at ho
 |q::l,i,h,0,o,ho,hne=>by
  simp at ho;subst ho;unfold KW at h;simp only [Bool.and_eq_true,Bool.or_eq_true,Nat.blt_eq] at h;rcases h.1 with h1|h1|⟨h1,h2,h3,h4⟩
  ·exact absurd (Nat.eq_of_beq_eq_true h1) (by simpa using hne)
  ·exact .inl h1
  ·refine .inr ⟨h1,h2,?_,h4⟩;intro e he hb hek;rw [Bool.not_eq_true',List.any_eq_false] at h3;refine h3 e (Array.mem_toList_iff.2 he) ?_;rw [hb,hek];simp
 |q::l,i,h,j+1,o,ho,hne=>by
  unfold KW at h;rw [Bool.and_eq_true] at h;have:=E7 h.2 j o (by simpa using ho) (by omega)
  rw [show i+(j+1)=i+1+j by omega]
  exact this
theorem Uw(hro:F.round=none)(hF:Wd F)(hC:C.Ok)(hs0:Sat β0 m0 w0)(hR:pJ kH C ops tm0 m0 ms fs acc)
  (htail:po acc.length 0 ms=true) (hk:acc.length≤ops.length) (hkH:kH<acc.length) {eH:fk} (heH:acc[kH]? =some eH) (hjk:eH.s= .bX)
  {mA:Nat} (hm1:ms[kH]? =some mA) (hfl:KW ops kH mA 0 (ops.take acc.length)=true) (hsel:Region.noSelect ⟨ops⟩=true) (Q:Exit→Act→World→Prop)
  (hpan: ∀c a w,¬Q (.panic c) a w)
  (hQ: ∀β a w,Fit bs ⟨fj ops acc 0 tm0,bE m0 acc (b6 kH acc.length ops.length)⟩ β a w→ai m0 β0 w0 (bE m0 acc (b6 kH acc.length ops.length)) β w→wpAnyIn F n C.P .any ⟨ops⟩ Q (cP (b6 kH acc.length ops.length)) (b6 kH acc.length ops.length) a w):
  ∀ (fuel:Nat) (listed:Array Bool) (β:Nm) (a:Act) (w:World),fuel=cP listed→listed.getD kH false=false→Inv bs ops tm0 m0 acc β0 w0 listed β a w→wpAnyIn F n C.P .any ⟨ops⟩ Q fuel listed a w:=by
 have getD_tf: ∀ {listed:Array Bool},listed.size=ops.length→ ∀j,j<ops.length→listed.getD j true=listed.getD j false:=by
  intro listed hs j hj;have:j<listed.size:=by rw [hs];exact hj
  simp [Array.getD_eq_getD_getElem?,this]
 have fin: ∀ (fuel:Nat) (listed:Array Bool) (β:Nm) (a:Act) (w:World),fuel=cP listed→listed.getD kH false=false→Inv bs ops tm0 m0 acc β0 w0 listed β a w→(∀i,i<acc.length→i≠kH→listed.getD i false=true)→wpAnyIn F n C.P .any ⟨ops⟩ Q fuel listed a w:=by
  intro fuel listed β a w hc hno h hall;obtain ⟨h1,h2⟩:=Inv.acU hs0 h hk heH hjk hall;have he:=L9 h hk hno hall;subst he;subst hc;exact hQ β a w h1 h2
 have least_: ∀ (listed:Array Bool),(¬ ∀i,i<acc.length→i≠kH→listed.getD i false=true)→ ∃i0,i0<acc.length∧i0≠kH∧listed.getD i0 false=false∧ ∀j,j<i0→j≠kH→listed.getD j false=true:=by
  intro listed hall;obtain ⟨i,hi,hik,hl⟩: ∃i,i<acc.length∧i≠kH∧listed.getD i false=false:=by
   apply Classical.byContradiction;intro hn;apply hall;intro i hi hik;cases hb:listed.getD i false with
   |true=>rfl
   |false=>exact absurd ⟨i,hi,hik,hb⟩ hn
  obtain ⟨i0,⟨hi0,hik0,hl0⟩,hmin⟩:=gq (p:=fun i=>i<acc.length∧i≠kH∧listed.getD i false=false) ⟨i,hi,hik,hl⟩;refine ⟨i0,hi0,hik0,hl0,fun j hj hjk=>?_⟩;cases hb:listed.getD j false with
  |true=>rfl
  |false=>exact absurd ⟨by omega,hjk,hb⟩ (hmin j hj)
 intro fuel
 induction fuel with
 |zero=>
  intro listed β a w hc hno h;refine fin 0 listed β a w hc hno h fun i hi hik=>?_;cases hb:listed.getD i false with
  |true=>rfl
  |false=>
   have:=nE (by rw [h.size];omega) hb
   omega
 |succ fuel ih=>
  intro listed β a w hc hno h;by_cases hall: ∀i,i<acc.length→i≠kH→listed.getD i false=true
  ·exact fin _ listed β a w hc hno h hall
  obtain ⟨i0,hi0,hik0,hl0,hbelow⟩:=least_ listed hall;have ho:ops[i0]? =some (ops[i0]'(by omega)):=List.getElem?_eq_getElem (by omega)
  have hm:ms[i0]? =some (ms[i0]'(by have:=hR.sB;omega)):=List.getElem?_eq_getElem (by have:=hR.sB;omega)
  have hnotk:(mA.testBit i0=true∧i0<kH)∨(∃o,ops[i0]? =some o∧Wb o.op=true∧noG o=true∧(∀e∈o.after,Region.binds .any e=true→e.on≠kH)∧Region.free .any ⟨ops⟩ (b6 kH i0 ops.length) i0=true):=by
   have:=E7 hfl i0 (ops[i0]'(by omega)) (by rw [List.getElem?_take,if_pos hi0];exact ho) (by omega)
   simp only [Nat.zero_add] at this;rcases this with h1|h1
   ·exact .inl h1
   ·exact .inr ⟨_,ho,h1⟩
  have hdep: ∀e∈(ops[i0]'(by omega)).after,Region.binds .any e=true→listed.getD e.on false=true:=by
   intro e he hb;have hlt:=(hR.mok i0 _ _ hm ho).1 e (Array.mem_toList_iff.2 he) hb;refine hbelow e.on hlt fun hek=>?_;rcases hnotk with hn|⟨o,ho',_,_,hnk,_⟩
   ·omega
   ·rw [ho] at ho';cases ho';exact hnk e he hb hek
  have hready:i0∈Region.ready .any ⟨ops⟩ listed:=by
   rw [mem_ready];exact ⟨by rw [getD_tf h.size i0 (by omega)];exact hl0,_,by rw [List.getElem?_toArray];exact ho,hdep⟩
  rcases hnotk with ⟨hbitA,hlt⟩|⟨o,ho',hf,hg,_,hfree⟩
  ·refine ⟨fun h0=>(by rw [h0] at hready;cases hready),fun j hj=>?_⟩
   obtain ⟨hun,oj,hoj,hdeps⟩:=mem_ready.1 hj;have hoj':ops[j]? =some oj:=by simpa using hoj
   have hjl:=(List.getElem?_eq_some_iff.1 hoj').1;have hmj:ms[j]? =some (ms[j]'(by have:=hR.sB;omega)):=List.getElem?_eq_getElem (by have:=hR.sB;omega)
   have hmask:=iz hR.mok h.closed hR.sB j _ oj hmj hoj' (fun d hd hb=>hdeps d (Array.mem_toList_iff.1 hd) hb);have hunj:listed.getD j false=false:=by rw [←getD_tf h.size j hjl];exact hun
   by_cases hjH:j=kH
   ·exfalso;subst hjH;rw [hmj] at hm1;have:=hmask i0 (by rw [Option.some.inj hm1];exact hbitA)
    rw [hl0] at this;cases this
   rcases Nat.lt_or_ge j acc.length with hja|hja
   ·refine Inv.op hF hC hs0 hR h hj hja hjH Q fun β' a' w' h'=>?_;refine ih _ β' a' w' (by have:=nE (by rw [h.size];omega) hunj;omega) ?_ h'
    rw [cJ (by rw [h.size];omega),if_neg hjH];exact hno
   ·exfalso;have hbits:=sD htail j _ hmj (by omega)
    simp only [Nat.zero_add] at hbits;have:=hmask i0 (by rw [hbits,Nat.testBit_two_pow_sub_one];simp;omega)
    rw [hl0] at this;cases this
  ·obtain ⟨v,hy,hinv⟩:=Inv.Wb hs0 hR h ho' hready hi0 hik0 hf hg;refine wpAnyIn_first hro (by simpa using ho') (Region.noSelect_spec hsel) (fun c a w hq=>(hpan c _ _ hq).elim) fuel listed a w ?_ hready hy ?_
   ·intro j oj hoj hne hunj hnd;refine Region.free_spec (by simpa using ho') hfree j oj hoj hne ?_ hnd
    have hjl:j<ops.length:=by have:=(Array.getElem?_eq_some_iff.1 hoj).1;simpa using this
    rw [getD_tf (by unfold b6 aC;simp;omega) j hjl,iK (by omega)]
    rw [getD_tf h.size j hjl] at hunj;by_cases hjk:j=kH
    ·simp [hjk]
    rcases Nat.lt_or_ge j i0 with hlt|hge
    ·have:=hbelow j hlt hjk;rw [hunj] at this;cases this
    ·simp;omega
   ·refine ih _ β _ w (by have:=nE (by rw [h.size];omega) hl0;omega) ?_ hinv
    rw [cJ (by rw [h.size];omega),if_neg hik0];exact hno
theorem Inv.start {σ:St}(hf:Fit bs σ β a w)(acc:List fk)(ops:List Oper):Inv bs ops σ.tm σ.m acc β w (Array.replicate ops.length false) β a {w with drawn:=w.drawn+1}:=by
 have hno: ∀i,(Array.replicate ops.length false).getD i false=false:=by
  intro i;simp only [Array.getD_eq_getD_getElem?,Array.getElem?_replicate];split<;>rfl
 have up: ∀ (x:Nat) (b:bG),(bE σ.m acc (Array.replicate ops.length false))[x]? =some (some b)→σ.m[x]? =some (some b):=by
  intro x b hb;unfold bE at hb;rw [aK] at hb;rcases Nat.lt_or_ge x σ.m.length with hl|hl
  ·rw [List.getElem?_append_left hl] at hb;cases hx:σ.m[x]? with
   |none=>rw [hx] at hb;cases hb
   |some b0=>
    rw [hx] at hb;simp only [Option.map_some,Option.some.injEq] at hb;cases b0 with
    |none=>cases hb
    |some b0=>
     cases b0 with
     |rows=>simp only [gU] at hb;rw [hb]
     |loop=>simp only [gU] at hb;rw [hb]
     |map=>simp only [gU] at hb;rw [hb]
     |it=>simp only [gU] at hb;rw [hb]
     |cells l t=>
      simp only [gU] at hb;rw [ko fun j e y off cs _ h2=>by rw [hno] at h2;cases h2] at hb
      rw [hb]
  ·rw [List.getElem?_append_right hl,ef] at hb;cases hx:acc[x-σ.m.length]? with
   |none=>rw [hx] at hb;cases hb
   |some e=>rw [hx] at hb;simp [hno,gU] at hb
 refine ⟨by simp,fun i hi=>(by rw [hno] at hi;cases hi),fun i o hi=>(by rw [hno] at hi;cases hi),?_,?_,?_,?_,?_,hf.df⟩
 ·refine ⟨fun x b hb=>hf.sat.dz x b (up x b hb),?_,fun x a hx=>?_,hf.sat.gl,fun x a ⟨b,hb,hr⟩ hx=>hf.sat.ng x a ⟨b,up x b hb,hr⟩ hx,hf.sat.ij (w':= {w with drawn:=w.drawn+1}) (Nm.le_refl β) rfl (fun _ _ _=>rfl) fun y b _ ⟨c,hc,hr⟩ e=>⟨y,⟨c,up y c hc,hr⟩,e⟩⟩
  ·rintro x y a ⟨b,hb,hr⟩ ⟨c,hc,hd⟩ hx hy;exact hf.sat.inj x y a ⟨b,up x b hb,hr⟩ ⟨c,up y c hc,hd⟩ hx hy
  ·have:=hf.sat.CC x a hx;unfold bE;rw [eQ];simp;omega
 ·intro j e _ _;cases hb:β (σ.m.length+j) with
  |none=>rfl
  |some x=>have:=hf.sat.CC _ _ hb;omega
 ·refine ⟨Nm.le_refl β,fun _ _=>rfl,by unfold bE;rw [eQ];simp,?_,?_,rfl,rfl,rfl,Nat.le_refl _,fun _ _ _=>rfl,fun _ _ _ h=> .inl h⟩
  ·rintro q x hx ⟨b,hb,hr⟩;have:=(List.getElem?_eq_some_iff.1 (up x b hb)).1;omega
  ·rintro q x hx ⟨b,hb,hr⟩;exact ⟨b,up x b hb,hr⟩
 ·intro t s hl;unfold mf at hl;have hl':σ.tm[t]? =some s:=by
   split at hl
   ·rw [hno] at hl;exact hl
   ·exact hl
  obtain ⟨v,hv,hs⟩:=hf.tm.get hl';exact ⟨v,by simpa using hv,hs⟩
 ·have:=hf.tm.length;simpa using this
theorem HR {a b:Option (Nat×Nat×Nat)}(h:L2 a b=true):a=b:=by
 unfold L2 at h;split at h
 ·rfl
 ·rw [Bool.and_eq_true,Bool.and_eq_true] at h;obtain ⟨h1,h2,h3⟩:=h;rw [Nat.eq_of_beq_eq_true h1,Nat.eq_of_beq_eq_true h2,Nat.eq_of_beq_eq_true h3]
 ·cases h
theorem uD: ∀ {l m:List (Option (Nat×Nat×Nat))},yM l m=true→l=m
 | [],[],_=>rfl
 |a::l,b::m,h=>by
  unfold yM at h;rw [Bool.and_eq_true] at h;rw [HR h.1,uD h.2]
 | [],_::_,h=>by cases h
 |_::_,[],h=>by cases h
theorem mr: ∀ {acc:List fk},SK acc=true→ ∀ (j:Nat) e,acc[j]? =some e→e.st=none
 | [],_,j,e,h=>by simp at h
 |d::l,hn,j,e,h=>by
  unfold SK at hn;rw [Bool.and_eq_true] at hn;cases j with
  |zero=>
   simp at h;subst h;have:=hn.1;split at this
   ·assumption
   ·cases this
  |succ j=>exact mr hn.2 j e (by simpa using h)
theorem Pf(acc:List fk)(j:Nat):(Bp acc)[j]? =(acc[j]?).map Kt:=by
 unfold Bp;rw [List.getElem?_map]
theorem AA {i:Nat} {e:fk}: ∀ {l:List fk} {ms:List Nat},Nx i e l ms=true→ ∀ (j:Nat) d (m:Nat) y off cs off' cs',l[j]? =some d→ms[j]? =some m→e.st=some (y,off,cs)→d.st=some (y,off',cs')→off+cs.length≤off'∨off'+cs'.length≤off∨m.testBit i=true
 | [],_,_,j,d,m,y,off,cs,off',cs',h,_,_,_=>by simp at h
 |d0::l,[],_,j,d,m,y,off,cs,off',cs',_,h,_,_=>by simp at h
 |d0::l,m0::ms,hp,j,d,m,y,off,cs,off',cs',h1,h2,h3,h4=>by
  unfold Nx at hp;rw [Bool.and_eq_true] at hp;cases j with
  |zero=>
   simp at h1 h2;subst h1;subst h2;have h5:=hp.1;rw [h3,h4] at h5;simp only [Nat.beq_refl,Bool.not_true,Bool.false_or,Bool.or_eq_true,Nat.ble_eq] at h5;exact h5
  |succ j=>exact AA hp.2 j d m y off cs off' cs' (by simpa using h1) (by simpa using h2) h3 h4
theorem xq: ∀ {k:Nat} {acc:List fk} {ms:List Nat},Gd k acc ms=true→ ∀ (i j:Nat) ei ej (m:Nat) y off cs off' cs',i<j→acc[i]? =some ei→acc[j]? =some ej→ei.st=some (y,off,cs)→ej.st=some (y,off',cs')→ms[j]? =some m→
  off+cs.length≤off'∨off'+cs'.length≤off∨m.testBit (k+i)=true
 |k,[],ms,_,i,j,ei,ej,m,y,off,cs,off',cs',_,h,_,_,_,_=>by simp at h
 |k,e::l,[],_,i,j,ei,ej,m,y,off,cs,off',cs',_,_,_,_,_,h=>by simp at h
 |k,e::l,m0::ms,hp,i,j,ei,ej,m,y,off,cs,off',cs',hij,h1,h2,h3,h4,h5=>by
  unfold Gd at hp;rw [Bool.and_eq_true] at hp;cases j with
  |zero=>omega
  |succ j=>
   cases i with
   |zero=>
    simp at h1;subst h1;exact AA hp.1 j ej m y off cs off' cs' (by simpa using h2) (by simpa using h5) h3 h4
   |succ i=>
    have:=xq hp.2 i j ei ej m y off cs off' cs' (by omega) (by simpa using h1) (by simpa using h2) h3 h4 (by simpa using h5)
    rwa [show k+1+i=k+(i+1) by omega] at this
theorem Ow {fs:List (Option (Nat×Nat×Nat))} {ms:List Nat} {i j:Nat}(hij:i<j) {f:Option (Nat×Nat×Nat)} {m:Nat}(h1:fs[j]? =some f)(h2:ms[j]? =some m):(bZ fs ms i)[j-(i+1)]? =some (f,m):=by
 unfold bZ;rw [List.getElem?_zip_eq_some];rw [List.getElem?_drop,List.getElem?_drop,show i+1+(j-(i+1))=j by omega]
 exact ⟨h1,h2⟩
theorem tN: ∀ {l:List fk} {q:Prop},obl l q→(∀e∈l,ob e.p)∧q
 | [],q,h=>⟨fun e he=>by simp at he,h⟩
 |e::l,q,h=>by
  obtain ⟨h1,h2⟩:=ic h;obtain ⟨h3,h4⟩:=tN h2;refine ⟨fun e' he=>?_,h4⟩;rcases List.mem_cons.1 he with rfl|he
  ·exact h1
  ·exact h3 e' he
theorem Kr(hn:SK acc=true)(hk:acc.length≤ops.length):bE m0 acc (aC acc.length ops.length)=m0++acc.map (·.b):=by
 have hmem:je (aC acc.length ops.length) 0 acc=acc.map (·.b):=by
  apply List.ext_getElem?;intro x;rw [ef,List.getElem?_map];cases hx:acc[x]? with
  |none=>rfl
  |some e=>
   have:=(List.getElem?_eq_some_iff.1 hx).1;simp only [Option.map_some,Nat.zero_add,eS hk,decide_eq_true this]
 unfold bE;rw [hmem];apply List.ext_getElem?;intro x;rw [aK];cases hx:(m0++acc.map (·.b))[x]? with
 |none=>rfl
 |some b=>
  cases b with
  |none=>rfl
  |some b=>
   cases b with
   |rows=>rfl
   |loop=>rfl
   |map=>rfl
   |it=>rfl
   |cells l t=>
    simp only [Option.map_some,gU];rw [ko fun j e y off cs h1 _ h3=>by rw [mr hn j e h1] at h3;cases h3]
theorem U7(hk:acc.length≤ops.length):bE m0 acc (aC acc.length ops.length)=uC (aC acc.length ops.length) acc 0 (m0++acc.map (·.b)):=by
 have hmem:je (aC acc.length ops.length) 0 acc=acc.map (·.b):=by
  apply List.ext_getElem?;intro x;rw [ef,List.getElem?_map];cases hx:acc[x]? with
  |none=>rfl
  |some e=>
   have:=(List.getElem?_eq_some_iff.1 hx).1;simp only [Option.map_some,Nat.zero_add,eS hk,decide_eq_true this]
 unfold bE;rw [hmem]
theorem Bw(hF:Wd F)(hC:C.Ok)(hY:KC C β) {σ:St} {K:St→Prop} {id:Nat}(hf:Fit bs σ β a w)(Q:Exit→Act→World→Prop)(hQ: ∀a' w',Ends bs C σ.m β w K a' w'→Q .normal a' w') {tail:List Oper}
  (hR:pJ acc.length C ops σ.tm σ.m ms fs acc) (hsp: ∃pre',ops=pre'++tail∧pre'.length=acc.length) (htail:po acc.length 0 ms=true) (hseq:Region.seqB .any ⟨ops⟩ tail.length acc.length (aC acc.length ops.length)=true)
  (h:oV C ops tail ⟨fj ops acc 0 σ.tm,bE σ.m acc (aC acc.length ops.length)⟩ K):(Code.region id ⟨ops⟩ true).wpIn F n C.P Q a w:=by
 obtain ⟨pre',hsplit,hpl⟩:=hsp;have hlen:acc.length≤ops.length:=by rw [hsplit];simp;omega
 have htl:tail.length=ops.length-acc.length:=by rw [hsplit];simp;omega
 refine wpIn_region_any hC.mixed ?_;refine WZ (β0:=β) (w0:=w) hF hC hf.sat hR htail hlen (Nat.le_refl _) Q ?_ _ _ β a _ ?_ (Inv.start hf acc ops)
 ·intro β1 a1 w1 hfit hsin;rw [←htl];refine oW tail acc.length _ a1 w1 ?_ hseq ?_
  ·intro j;have:(⟨ops⟩:Array Oper)[acc.length+j]? =ops[acc.length+j]? :=by simp
   rw [this,hsplit,List.getElem?_append_right (by omega),←hpl]
   congr 1;omega
  ·refine gZ hC hF (all:=ops) rfl tail _ K β1 a1 w1 h hfit (hY.le hsin.ext) Q fun a2 w2 he=>hQ a2 w2 ?_;obtain ⟨σ2,β2,e1,e2,e3⟩:=he;exact ⟨σ2,β2,e1,ai.trans hf.sat hsin e2,e3⟩
 ·unfold cP;simp [List.countP_replicate]
theorem PU(hn: ∀ (j:Nat) e,acc[j]? =some e→e.st=none) {k:Nat} {eH:fk}(heH:acc[k]? =some eH)(hb:eH.b=none)(hk:acc.length≤ops.length):bE m0 acc (b6 k acc.length ops.length)=m0++acc.map (·.b):=by
 have hmem:je (b6 k acc.length ops.length) 0 acc=acc.map (·.b):=by
  apply List.ext_getElem?;intro x;rw [ef,List.getElem?_map];cases hx:acc[x]? with
  |none=>rfl
  |some e=>
   have hlt:=(List.getElem?_eq_some_iff.1 hx).1;simp only [Option.map_some,Nat.zero_add,iK hk,decide_eq_true hlt,Bool.true_and];by_cases e1:x=k
   ·subst e1;rw [heH] at hx;cases hx;simp [hb]
   ·simp [e1]
 unfold bE;rw [hmem];apply List.ext_getElem?;intro x;rw [aK];cases hx:(m0++acc.map (·.b))[x]? with
 |none=>rfl
 |some b=>
  cases b with
  |none=>rfl
  |some b=>
   cases b with
   |rows=>rfl
   |loop=>rfl
   |map=>rfl
   |it=>rfl
   |cells l t=>
    simp only [Option.map_some,gU];rw [ko fun j e y off cs h1 _ h3=>by rw [hn j e h1] at h3;cases h3]
theorem L8(hro:F.round=none)(hF:Wd F)(hC:C.Ok)(hY:KC C β) {σ:St} {K:St→Prop} {id:Nat}(hf:Fit bs σ β a w)(Q:Exit→Act→World→Prop)(hQ: ∀a' w',Ends bs C σ.m β w K a' w'→Q .normal a' w') {o:Oper} {tail:List Oper}
  (hR:pJ kH C ops σ.tm σ.m ms fs acc) (ho:ops[kH]? =some o) (hsp: ∃pre',ops=pre'++tail∧pre'.length=acc.length) (htail:po acc.length 0 ms=true) (hns: ∀ (j:Nat) e,acc[j]? =some e→e.st=none) (hih:isHole acc kH=true) (hhb:Vs ops ms kH acc.length tail.length=true)
  (h:oV C ops (o::tail) ⟨fj ops acc 0 σ.tm,σ.m++acc.map (·.b)⟩ K):(Code.region id ⟨ops⟩ true).wpIn F n C.P Q a w:=by
 obtain ⟨pre',hsplit,hpl⟩:=hsp;have hlen:acc.length≤ops.length:=by rw [hsplit];simp;omega
 have htl:tail.length=ops.length-acc.length:=by rw [hsplit];simp;omega
 unfold isHole at hih;split at hih
 ·rename_i eH heH;rw [Bool.and_eq_true] at hih;obtain ⟨hj,hb⟩:=hih;have hj':eH.s= .bX:=by split at hj<;>first|assumption|cases hj
  have hb':eH.b=none:=by split at hb<;>first|assumption|cases hb
  unfold Vs at hhb;simp only [Bool.and_eq_true,Nat.blt_eq,decide_eq_true_eq] at hhb;obtain ⟨hkl,hm1,hsel,hrdy,hseq⟩:=hhb;obtain ⟨mA,hm1',hfl⟩: ∃mA,ms[kH]? =some mA∧KW ops kH mA 0 (ops.take acc.length)=true:=by
   cases hm:ms[kH]? with
   |none=>rw [hm] at hm1;cases hm1
   |some m=>rw [hm] at hm1;exact ⟨m,rfl,hm1⟩
  refine wpIn_mono (Q:=fun e a w=>e= .normal∧Q .normal a w) ?_ (fun e a w hq=>by rw [hq.1];exact hq.2)
  refine wpIn_region_any hC.mixed ?_;have hcnt:cP (b6 kH acc.length ops.length)=tail.length+1:=by
   have h1:((b6 kH acc.length ops.length).setIfInBounds kH true)=aC acc.length ops.length:=by
    apply Array.ext
    ·unfold b6;simp
    ·intro i h1 h2;have hsz:kH<(b6 kH acc.length ops.length).size:=by unfold b6 aC;simp;omega
     have gd: ∀ (L:Array Bool) (i:Nat) (h:i<L.size),L[i]=L.getD i false:=fun L i h=>by simp [Array.getD_eq_getD_getElem?,h]
     have e1:=gd ((b6 kH acc.length ops.length).setIfInBounds kH true) i h1;have e2:(aC acc.length ops.length)[i]=(aC acc.length ops.length).getD i false:=by simp [Array.getD_eq_getD_getElem?,h2]
     rw [e1,e2,cJ hsz,eS hlen,iK hlen];by_cases e:kH=i
     ·subst e;simp [hkl]
     ·simp [e,Ne.symm e]
   have hsz:kH<(b6 kH acc.length ops.length).size:=by unfold b6 aC;simp;omega
   have h2:=nE hsz (by rw [iK hlen];simp)
   rw [h1,nI] at h2;omega
  refine Uw (β0:=β) (w0:=w) hro hF hC hf.sat hR htail hlen hkl heH hj' hm1' hfl hsel _ (fun c a w hq=>by cases hq.1) ?_ _ _ β a _ ?_ ?_ (Inv.start hf acc ops)
  ·intro β1 a1 w1 hfit hsin;rw [PU hns heH hb' hlen] at hfit hsin;rw [hcnt];refine wpAnyIn_all hrdy (by simp) fun i hi=>?_
   obtain rfl:i=kH:=by simpa using hi
   have hW:=gZ (n:=n) hC hF (all:=ops) rfl (o::tail) _ K β1 a1 w1 h hfit (hY.le hsin.ext) (fun e a w=>e= .normal∧Q .normal a w) fun a2 w2 he=>⟨rfl,hQ a2 w2 (by
    obtain ⟨σ2,β2,e1,e2,e3⟩:=he;exact ⟨σ2,β2,e1,ai.trans hf.sat hsin e2,e3⟩)⟩
   unfold wpOpIn;have ho2:(⟨ops⟩:Array Oper)[i]? =some o:=by simpa using ho
   rw [ho2];have key: ∀a' w',wpListIn F n C.P ⟨ops⟩ (fun e a w=>e= .normal∧Q .normal a w) tail a' w'→wpAnyIn F n C.P .any ⟨ops⟩ (fun e a w=>e= .normal∧Q .normal a w) tail.length ((b6 i acc.length ops.length).setIfInBounds i true) a' w':=by
    intro a' w' hw;refine oW tail acc.length _ a' w' ?_ hseq hw;intro j;have:(⟨ops⟩:Array Oper)[acc.length+j]? =ops[acc.length+j]? :=by simp
    rw [this,hsplit,List.getElem?_append_right (by omega),←hpl]
    congr 1;omega
   have hW':=hW;unfold wpListIn at hW';have:=wpOpIn_mono (ops:=⟨ops⟩) (i:=i) key (a:=a1) (w:=w1) (by unfold wpOpIn;rw [ho2];exact hW')
   unfold wpOpIn at this;rw [ho2] at this;exact this
  ·unfold cP;simp [List.countP_replicate]
  ·simp only [Array.getD_eq_getD_getElem?,Array.getElem?_replicate];split<;>rfl
 ·cases hih
theorem pj(hrd:C.rd=false→F.round=none)(hF:Wd F)(hC:C.Ok)(hY:KC C β) {σ:St} {K:St→Prop} {id:Nat}(hf:Fit bs σ β a w)(Q:Exit→Act→World→Prop)(hQ: ∀a' w',Ends bs C σ.m β w K a' w'→Q .normal a' w'):
  ∀ (k:Nat) (asm:List (Nat×Bool)),J3 C ops σ K k asm→(Code.region id ⟨ops⟩ true).wpIn F n C.P Q a w
 |0,_,h=>h.elim
 |k+1,asm,h=>by
  unfold J3 at h;split at h
  ·exact h.elim
  ·rename_i ms hms;obtain ⟨hmok,hml⟩:=BD (ops:=ops) (pre:= []) rfl rfl (fun i m o hi=>by simp at hi) hms
   split at h
   ·exact h.elim
   ·rename_i j b hd;cases hb:b with
    |true=>exact pj hrd hF hC hY hf Q hQ k _ (h.1 hb)
    |false=>exact pj hrd hF hC hY hf Q hQ k _ (h.2 hb)
   ·rename_i acc tail hd;split at h
    ·rename_i hns;split at h
     ·rename_i hBad;split at h
      ·exact h.elim
      ·rename_i o rest;split at h
       ·exact h.elim
       ·rename_i hB;simp only [Bool.and_eq_true,Bool.not_eq_true'] at hB;obtain ⟨hih,hrdF,hin,hds,htail,hhb⟩:=hB;obtain ⟨hent,pre',hsp,hpl⟩:=FZ (kH:=acc.length) (ops:=ops) (pre:= []) (mpre:= []) (acc:= []) (msAll:=ms) (fsAll:= []) rfl rfl rfl rfl rfl (fun i e hi=>by simp at hi) hd
        have hol:ops[acc.length]? =some o:=by rw [hsp,←hpl];simp
        have hml2:acc.length<ms.length:=by rw [hml];exact (List.getElem?_eq_some_iff.1 hol).1
        have hent2: ∀i e,(acc++ [uc])[i]? =some e→ ∃o m,ops[i]? =some o∧ms[i]? =some m∧xH acc.length C ops σ.tm σ.m ((acc++ [uc]).take i) (bZ [] ms i) (jG (ms.drop (i+1)) i) i m o e:=by
         intro i e hi;rcases Nat.lt_or_ge i acc.length with hl|hl
         ·rw [List.getElem?_append_left hl] at hi;rw [List.take_append_of_le_length (Nat.le_of_lt hl)];exact hent i e hi
         ·have hil:=(List.getElem?_eq_some_iff.1 hi).1;simp only [List.length_append,List.length_cons,List.length_nil] at hil;have:i=acc.length:=by omega
          subst this;simp at hi;exact ⟨o,_,hol,List.getElem?_eq_getElem hml2,.hole rfl hi.symm⟩
        have hlen2:(acc++ [uc]).length=acc.length+1:=by simp
        have hns2: ∀ (j:Nat) e,(acc++ [uc])[j]? =some e→e.st=none:=by
         intro j e he;rcases Nat.lt_or_ge j acc.length with hl|hl
         ·rw [List.getElem?_append_left hl] at he;exact mr hns j e he
         ·have hil:=(List.getElem?_eq_some_iff.1 he).1;simp only [List.length_append,List.length_cons,List.length_nil] at hil;have:j=acc.length:=by omega
          subst this;simp at he;rw [←he];rfl
        obtain ⟨hob,hk⟩:=tN h;exact L8 (fs:= []) (hrd hrdF) hF hC hY hf Q hQ ⟨hent2,hmok,hml,fun i j e y off cs _ h1 h2=>(by rw [hns2 j e h1] at h2;cases h2),fun i j ei ej m y off cs off' cs' _ h1 _ h2=>(by rw [hns2 i ei h1] at h2;cases h2),hds,kL hin,hob⟩ hol ⟨pre'++ [o],by rw [hsp];simp,by simp [hpl]⟩ (by rw [hlen2];exact htail) hns2 hih (by rw [hlen2];exact hhb) hk
     ·rename_i hB;rw [Bool.and_eq_true,Bool.and_eq_true,Bool.and_eq_true] at hB;obtain ⟨hin,hds,htail,hseq⟩:=hB;obtain ⟨hent,hsp⟩:=FZ (ops:=ops) (pre:= []) (mpre:= []) (acc:= []) (msAll:=ms) (fsAll:= []) rfl rfl rfl rfl rfl (fun i e hi=>by simp at hi) hd
      obtain ⟨hob,hk⟩:=tN h;have hlen:acc.length≤ops.length:=by obtain ⟨pre',h1,h2⟩:=hsp;rw [h1];simp;omega
      refine Bw (fs:= []) hF hC hY hf Q hQ ⟨hent,hmok,hml,?_,?_,hds,kL hin,hob⟩ hsp htail hseq (by rw [Kr hns hlen];exact hk)
      ·intro i j e y off cs _ h1 h2;rw [mr hns j e h1] at h2;cases h2
      ·intro i j ei ej m y off cs off' cs' _ h1 _ h2;rw [mr hns i ei h1] at h2;cases h2
    ·split at h
     ·rename_i acc2 tail2 hd2;split at h
      ·exact h.elim
      ·rename_i hB;rw [Bool.and_eq_true,Bool.and_eq_true,Bool.and_eq_true,Bool.and_eq_true,Bool.and_eq_true] at hB;obtain ⟨hfe,hpb,hin,hds,htail,hseq⟩:=hB;have hfe':=uD hfe;rw [←hfe'] at hd2;obtain ⟨hent,hsp⟩:=FZ (ops:=ops) (pre:= []) (mpre:= []) (acc:= []) (msAll:=ms) (fsAll:=Bp acc2) rfl rfl rfl rfl rfl (fun i e hi=>by simp at hi) hd2
       obtain ⟨hob,hk⟩:=tN h;have hlen:acc2.length≤ops.length:=by obtain ⟨pre',h1,h2⟩:=hsp;rw [h1];simp;omega
       refine Bw (fs:=Bp acc2) hF hC hY hf Q hQ ⟨hent,hmok,hml,?_,?_,hds,kL hin,hob⟩ hsp htail hseq (by rw [U7 hlen];exact hk)
       ·intro i j e y off cs hij h1 h2;obtain ⟨o,m,_,hm,_⟩:=hent j e h1;refine ⟨m,?_,hm⟩;refine Ow hij ?_ hm;rw [Pf,h1];simp only [Option.map_some,Kt,h2]
       ·intro i j ei ej m y off cs off' cs' hij h1 h2 h3 h4 h5;have:=xq hpb i j ei ej m y off cs off' cs' hij h1 h2 h3 h4 h5
        rwa [Nat.zero_add] at this
     ·exact h.elim
end
end Go.Proofs.YtfdmjoddhjmokaaGreatDoor.Rex
namespace Go.Proofs.YtfdmjoddhjmokaaGreatDoor.Rex
open Go.RowKit
set_option linter.unusedVariables false
set_option linter.unusedSimpArgs false
def Rh:SV→Bool
 | .v (.one (.int _ _ _))=>true
 | .v (.one (.bool _ _))=>true
 | .v (.one (.ptr _ _))=>true
 | .v (.one (.rp _ _ _ _ _))=>true
 |_=>false
theorem E8 {β:Nm} {s:SV} {u v:Value}(h:Rh s=true)(hu:Has β s u)(hv:Has β s v):v=u:=by
 unfold Rh at h;split at h
 ·cases hu with
  |v hu=>cases hu with
   |one hu=>cases hv with
    |v hv=>cases hv with
     |one hv=>cases hu;cases hv;rfl
 ·cases hu with
  |v hu=>cases hu with
   |one hu=>cases hv with
    |v hv=>cases hv with
     |one hv=>cases hu;cases hv;rfl
 ·cases hu with
  |v hu=>cases hu with
   |one hu=>cases hv with
    |v hv=>cases hv with
     |one hv=>cases hu with
      |ptr h1=>cases hv with
       |ptr h2=>rw [h1] at h2;cases h2;rfl
 ·cases hu with
  |v hu=>cases hu with
   |one hu=>cases hv with
    |v hv=>cases hv with
     |one hv=>cases hu with
      |rp h1=>cases hv with
       |rp h2=>rw [h1] at h2;cases h2;rfl
 ·cases h
def CG:Op→Bool
 | .move _=>true
 | .assign _=>true
 | .nilCheck _=>true
 | .fieldAddr _ _ _=>true
 | .pick _ _ _=>true
 | .slice _ _ _ _ _=>true
 |_=>false
def zI:Op→Bool
 | .binOp _ _ _ _ _=>true
 | .unOp _ _ _=>true
 | .convert _ _ _=>true
 | .indexAddr _ _ _=>true
 | .call c=>match c.callee with
  | .builtin _=>true
  |_=>false
 |_=>false
def tkQ(C:Ctx)(σ:St)(o:Op):Option (Option Prop×SV):=match CG o||zI o with
 |false=>none
 |true=>match Mg C.M C.P C.Γ σ.env 0 o with
  |some (p,s,none)=>match CG o||Rh s with
   |true=>some (p,s)
   |false=>none
  |_=>none
theorem execOp_builtin {o:Oper} {c:Call} {b:Builtin} {a:Act}(ho:o.op= .call c)(hf:c.callee= .builtin b)(P:Program)(w:World):o.about P w a.eval=none:=by
 unfold Oper.about;rw [ho];simp only [resolve,hf,Sem.run_pure];rfl
theorem Ag {P:Program} {o:Oper} {a:Act}(hk:(CG o.op||zI o.op)=true)(w:World):o.about P w a.eval=none:=by
 cases ho:o.op with
 |call c=>
  rw [ho] at hk;simp only [CG,zI,Bool.false_or] at hk;split at hk
  ·rename_i b hf;exact execOp_builtin ho hf P w
  ·cases hk
 |_=>unfold Oper.about;rw [ho]
theorem X0 {M:Md} {P:Program} {Γ:List (FuncId×FX)} {E:Env} {o:Oper} {p:Option Prop} {s:SV} {bl:Option bG} {β:Nm} {a:Act} {w:World}(hk:(CG o.op||zI o.op)=true)(h:nh M P Γ E 0 o.op=some (p,s,bl))(hd:(CG o.op||Rh s)=true)(hp:ob p)(hE:P8 β E a w):
  ∃v,Has β s v∧(∀w',(execOp a.eval o).run P w'= .ok (.value v) w')∧ ∀w',o.about P w' a.eval=none:=by
 have vOf: ∀ (sm:Sem Value),execOp a.eval o=(do let x ←sm;pure (.value x))→(∀w',o.about P w' a.eval=none)→Rh s=true→(∀w':World,∃r,sm.run P w'= .ok r w'∧Has β s r)→ ∃v,Has β s v∧(∀w',(execOp a.eval o).run P w'= .ok (.value v) w')∧ ∀w',o.about P w' a.eval=none:=by
  intro sm he hab hds hr;obtain ⟨v,_,hv⟩:=hr w;refine ⟨v,hv,fun w'=>?_,hab⟩;obtain ⟨r,h1,h2⟩:=hr w';have:=E8 hds hv h2;subst this;rw [he,Sem.run_bind,h1];rfl
 have hfl:Wb o.op=true→_:=fun hf=>J6 (P:=P) (w:=w) (β:=β) hf h hE;cases ho:o.op with
 |move x=>exact (hfl (by rw [ho];rfl)).2.2
 |nilCheck x=>exact (hfl (by rw [ho];rfl)).2.2
 |fieldAddr t x f=>exact (hfl (by rw [ho];rfl)).2.2
 |assign x=>
  rw [ho] at h;unfold nh at h;obtain ⟨s',h',e⟩:=fC h;cases e;exact ⟨_,hE.ev _ _ h',fun w'=>by rw [execOp,ho];rfl,fun w'=>by unfold Oper.about;rw [ho]⟩
 |pick c x y=>
  rw [ho] at h;unfold nh at h;have hab: ∀w',o.about P w' a.eval=none:=fun w'=>by unfold Oper.about;rw [ho]
  obtain ⟨c',hc,h⟩:=Option.bind_eq_some_iff.1 h;have hcv:=hE.ev _ _ hc;split at h
  ·rename_i kn t;have hbv:a.eval c= .bool t:=by
    cases hcv with
    |v hcv=>cases hcv with
     |one hcv=>generalize a.eval c=q at hcv ⊢;cases hcv;rfl
   have hrun: ∀w',(execOp a.eval o).run P w'= .ok (.value (if t=true then a.eval x else a.eval y)) w':=fun w'=>by
    rw [execOp,ho];simp [hbv,Go.asBool]
   split at h
   ·split at h
    ·obtain ⟨s',h',e⟩:=fC h;cases e;exact ⟨_,hE.ev _ _ h',hrun,hab⟩
    ·obtain ⟨s',h',e⟩:=fC h;cases e;exact ⟨_,hE.ev _ _ h',hrun,hab⟩
   ·obtain ⟨x',hx,h⟩:=Option.bind_eq_some_iff.1 h;obtain ⟨y',hy,h⟩:=Option.bind_eq_some_iff.1 h;obtain ⟨s',h',e⟩:=fC h;cases e;exact ⟨_,C9 h' (hE.ev _ _ hx) (hE.ev _ _ hy),hrun,hab⟩
  ·cases h
 |binOp op t x y yt=>
  rw [ho] at h hd;unfold nh at h;obtain ⟨x',hx,h⟩:=Option.bind_eq_some_iff.1 h;obtain ⟨y',hy,h⟩:=Option.bind_eq_some_iff.1 h;obtain ⟨p',s',h',e⟩:=dX h;cases e;exact vOf _ (by rw [execOp,ho]) (fun w'=>by unfold Oper.about;rw [ho]) hd fun w'=>Hj (P:=P) (w:=w') h' hp (hE.ev _ _ hx) (hE.ev _ _ hy) x y
 |unOp op t x=>
  rw [ho] at h hd;unfold nh at h;obtain ⟨x',hx,h⟩:=Option.bind_eq_some_iff.1 h;obtain ⟨p',s',h',e⟩:=dX h;cases e;exact vOf _ (by rw [execOp,ho]) (fun w'=>by unfold Oper.about;rw [ho]) hd fun w'=>MS (P:=P) (w:=w') h' hp (hE.ev _ _ hx)
 |convert sr d x=>
  rw [ho] at h hd;unfold nh at h;obtain ⟨x',hx,h⟩:=Option.bind_eq_some_iff.1 h;obtain ⟨p',s',h',e⟩:=dX h;cases e;exact vOf _ (by rw [execOp,ho]) (fun w'=>by unfold Oper.about;rw [ho]) hd fun w'=>DS (P:=P) (w:=w') h' hp (hE.ev _ _ hx)
 |indexAddr t x i=>
  rw [ho] at h hd;unfold nh at h;obtain ⟨x',hx,h⟩:=Option.bind_eq_some_iff.1 h;obtain ⟨y',hy,h⟩:=Option.bind_eq_some_iff.1 h;obtain ⟨p',s',h',e⟩:=dX h;cases e;exact vOf _ (by rw [execOp,ho]) (fun w'=>by unfold Oper.about;rw [ho]) hd fun w'=>HO (P:=P) (w:=w') h' hp (hE.ev _ _ hx) (hE.ev _ _ hy)
 |slice t x lo hi mx=>
  rw [ho] at h;unfold nh at h;obtain ⟨x',hx,h⟩:=Option.bind_eq_some_iff.1 h;obtain ⟨l,hl,h⟩:=Option.bind_eq_some_iff.1 h;obtain ⟨hh,hhi,h⟩:=Option.bind_eq_some_iff.1 h;obtain ⟨m,hm,h⟩:=Option.bind_eq_some_iff.1 h;obtain ⟨p',s',h',e⟩:=dX h;cases e;obtain ⟨r,hr,hs⟩:=x8 (P:=P) w h' hp (hE.ev _ _ hx) (dW hE hl) (dW hE hhi) (dW hE hm);exact ⟨r,hs,fun w'=>by rw [execOp,ho];simp only [Sem.run_bind,hr w'];rfl,fun w'=>by unfold Oper.about;rw [ho]⟩
 |call c=>
  rw [ho] at h hd hk;unfold nh at h;simp only [CG,zI,Bool.false_or] at hk hd;split at hk
  ·rename_i b hf;simp only [hf] at h;obtain ⟨us,hus,h⟩:=Option.bind_eq_some_iff.1 h;obtain ⟨s',h',e⟩:=fC h;cases e;have hargs:=C6 hE hus;have hab:=fun w'=>execOp_builtin (a:=a) ho hf P w';have run: ∀w':World,∃r,(execOp a.eval o).run P w'= .ok (.value r) w'∧Has β s r:=by
    intro w';obtain ⟨r,hr,hs⟩:=At (P:=P) (w:=w') (T:=o.type) (cs:=c.args.map fun| .const _=>true|_=>false) h' hargs;refine ⟨r,?_,hs⟩;rw [execOp,ho];have e1:(c.args.map a.eval)=⟨c.args.toList.map a.eval⟩:=by apply Array.ext';simp
    simp only [resolve,hf,Sem.run_bind,Sem.run_pure,Result.andThen_ok,invoke,e1];exact hr
   obtain ⟨v,_,hv⟩:=run w;refine ⟨v,hv,fun w'=>?_,hab⟩;obtain ⟨r,h1,h2⟩:=run w';have:=E8 hd hv h2;subst this;exact h1
  ·cases hk
 |_=>rw [ho] at hk;cases hk
theorem a3p {M:Md} {P:Program} {Γ:List (FuncId×FX)} {E:Env} {o:Oper} {p:Option Prop} {s:SV} {bl:Option bG} {β:Nm} {a:Act} {w:World}(hk:(CG o.op||zI o.op)=true)(h:Mg M P Γ E 0 o.op=some (p,s,bl))(hd:(CG o.op||Rh s)=true)(hp:ob p)(hE:P8 β E a w):
  ∃v,Has β s v∧(∀w',(execOp a.eval o).run P w'= .ok (.value v) w')∧ ∀w',o.about P w' a.eval=none:=by
 have hfl:Wb o.op=true→_:=fun hf=>(Mb (P:=P) (w:=w) (β:=β) hf h hE).2.2;have hab:=fun w'=>Ag (P:=P) (a:=a) hk w';unfold Mg at h;split at h
 ·rename_i r hq;cases h;exact X0 hk hq hd hp hE
 ·obtain ⟨p',s',h',e⟩:=dX h;cases e;clear h;have vOf: ∀ (sm:Sem Value),execOp a.eval o=(do let x ←sm;pure (.value x))→(∃r,Has β s r∧ ∀w':World,sm.run P w'= .ok r w')→ ∃v,Has β s v∧(∀w',(execOp a.eval o).run P w'= .ok (.value v) w')∧ ∀w',o.about P w' a.eval=none:=by
   rintro sm he ⟨r,h1,h2⟩;exact ⟨r,h1,fun w'=>by rw [he,Sem.run_bind,h2 w'];rfl,hab⟩
  cases ho:o.op with
  |move x=>exact hfl (by rw [ho];rfl)
  |nilCheck x=>exact hfl (by rw [ho];rfl)
  |fieldAddr t x f=>exact hfl (by rw [ho];rfl)
  |slice t x lo hi mx=>
   rw [ho] at h';unfold qX at h';simp only at h';split at h'
   ·rename_i hu;obtain ⟨x',hx,h1⟩:=Option.bind_eq_some_iff.1 h';clear h';obtain ⟨l,hl,h2⟩:=Option.bind_eq_some_iff.1 h1;clear h1;obtain ⟨hh,hhi,h⟩:=Option.bind_eq_some_iff.1 h2;clear h2;split at h
    ·rename_i l' hl';cases mx with
     |some _=>cases h
     |none=>
     cases h;have hxv:=dq hl' (hE.ev _ _ hx);refine vOf (Instr.sliceAt t (a.eval x) (lo.map a.eval) (hi.map a.eval) none) (by rw [execOp,ho];rfl) ⟨_,tA _,fun w'=>?_⟩
     rw [hxv];exact DU hu (dW hE hl) (dW hE hhi) hp w'
    ·cases h
   ·cases h'
  |binOp op t x y yt=>
   rw [ho] at h' hd;unfold qX at h';obtain ⟨x',hx,h1⟩:=Option.bind_eq_some_iff.1 h';clear h';obtain ⟨y',hy,h⟩:=Option.bind_eq_some_iff.1 h1;clear h1;split at h
   ·rename_i l m hl hm;have hX:=dq hl (hE.ev _ _ hx);have hY:=dq hm (hE.ev _ _ hy);have h0:=h;unfold XA at h0;split at h0
    ·cases h0;cases hd
    ·cases h0;refine vOf _ (by rw [execOp,ho]) ⟨.bool (l==m),.v (.one .bool),fun w'=>?_⟩
     obtain ⟨r,h1,h2⟩:=Bd (P:=P) (β:=β) t h hp x y w';rw [←hX,←hY] at h1;rw [h1];cases h2 with
     |v h2=>cases h2 with
      |one h2=>cases h2;rfl
    ·cases h0;refine vOf _ (by rw [execOp,ho]) ⟨.bool (!(l==m)),.v (.one .bool),fun w'=>?_⟩
     obtain ⟨r,h1,h2⟩:=Bd (P:=P) (β:=β) t h hp x y w';rw [←hX,←hY] at h1;rw [h1];cases h2 with
     |v h2=>cases h2 with
      |one h2=>cases h2;rfl
    ·cases h0
   ·cases h
  |convert sr d x=>
   rw [ho] at h' hd;unfold qX at h';simp only at h';split at h'
   ·split at h'
    ·obtain ⟨x',hx,h⟩:=Option.bind_eq_some_iff.1 h';split at h
     ·cases h;cases hd
     ·cases h
    ·cases h'
   ·cases h'
  |indexAddr t x i=>
   rw [ho] at h' hd;unfold qX at h';simp only at h';split at h'
   ·obtain ⟨x',hx,h1⟩:=Option.bind_eq_some_iff.1 h';obtain ⟨i',hi,h2⟩:=Option.bind_eq_some_iff.1 h1;obtain ⟨j,hj,h3⟩:=Option.bind_eq_some_iff.1 h2;obtain ⟨n,hn,h⟩:=Option.bind_eq_some_iff.1 h3;split at h
    ·split at h
     ·cases h;cases hd
     ·cases h
    ·cases h
   ·cases h'
  |call c=>
   rw [ho] at h';have hq:=h';unfold qX at h';simp only at h';split at h'
   ·rename_i hcl;split at h'
    ·rename_i t x ht hargs;obtain ⟨x',hx,h⟩:=Option.bind_eq_some_iff.1 h';clear h';obtain ⟨r,hr,_⟩:=SN (by rw [ho];exact hq) hp hE
     have ha':c.args= #[x]:=by cases hq:c.args;simp_all
     refine ⟨r,hr,fun w'=>?_,hab⟩;rw [execOp,ho];simp only [resolve,hcl,ha',Sem.run_bind,Sem.run_pure,Result.andThen_ok,invoke,builtin];have hxv:=hE.ev _ _ hx;split at h
     ·rename_i hu;split at h
      ·rename_i l hl;cases h;have e1:=dq hl hxv;cases hr with
       |v hr=>cases hr with
        |one hr=>cases hr;simp [Builtin.len_,ht,run_underlying hu,dc,e1];rfl
      ·cases h
     ·rename_i e hu;split at h
      ·rename_i sh v xs;cases h;generalize hqv:a.eval x=q at hxv;cases hxv with
       |v hxv=>cases hxv with
        |one hxv=>cases hxv with
         |gv him hone=>
          have e1: ∃q c,v= .slice q xs.length c:=by
           rcases him with him|⟨rfl,rfl⟩
           ·obtain ⟨m,_,c,hc,h1⟩:=hE.im _ _ _ him;rcases h1 with ⟨rfl,q,rfl⟩|⟨b,base,vs,t',fz,rfl,_⟩
            ·exact ⟨q,c,rfl⟩
            ·exact ⟨_,c,rfl⟩
           ·exact ⟨none,0,rfl⟩
          obtain ⟨q,c,rfl⟩:=e1;cases hr with
          |v hr=>cases hr with
           |one hr=>cases hr;simp [Builtin.len_,ht,run_underlying hu,hqv];try rfl
      ·cases h
     ·cases h
    ·cases h'
   ·cases h'
  |assign x=>rw [ho] at h';cases h'
  |pick c x y=>rw [ho] at h';cases h'
  |unOp op t x=>rw [ho] at h';cases h'
  |_=>rw [ho] at hk;cases hk
def sw:Lf→Lf→Prop
 | .int k _ a,.int k' _ b=>oy (decide (k=k')) (a=b)
 | .bool _ a,.bool _ b=>a=b
 | .ptr x o,.ptr x' o'=>oy (Nat.beq x x'&&Nat.beq o o') True
 | .gv _ v _,.gv _ v' _=>v=v'
 | .op v,.op v'=>v=v'
 | .aj,.aj=>True
 | .cb,.cb=>True
 | .mp x,.mp x'=>oy (Nat.beq x x') True
 |_,_=>False
def qu:List Lf→List Lf→Prop
 | [],[]=>True
 | [a],[b]=>sw a b
 |a::l,b::m=>sw a b∧qu l m
 |_,_=>False
def NJ:Option bG→Option bG→Prop
 |some (.cells l t),some (.cells m u)=>oy (Nat.beq t u) (qu l m)
 |_,_=>False
def Vh(m0 m:Mem):List Nat→Prop→Prop
 | [],q=>q
 |x::hs,q=>NJ (bP m0 x) (bP m x)∧Vh m0 m hs q
def oF(β0:Nm)(w0:World)(hs:List Nat)(w:World):Prop:= ∀x∈hs,∀k,β0 x=some k→w.heap[k]? =w0.heap[k]?
theorem BE {β γ:Nm}(hle:β.le γ) {a b:Lf} {u v:Value}(h:sw a b)(hu:aq β a u)(hv:aq γ b v):v=u:=by
 unfold sw at h;split at h
 ·have h1:=of_decide_eq_true (bR h).1;have h2:=(bR h).2;subst h1 h2;cases hu;cases hv;rfl
 ·subst h;cases hu;cases hv;rfl
 ·have h1:=(bR h).1;rw [Bool.and_eq_true] at h1;have e1:=Nat.eq_of_beq_eq_true h1.1;have e2:=Nat.eq_of_beq_eq_true h1.2;subst e1 e2;cases hu with
  |ptr k1=>cases hv with
   |ptr k2=>rw [hle _ _ k1] at k2;cases k2;rfl
 ·subst h;cases hu;cases hv;rfl
 ·subst h;cases hu;cases hv;rfl
 ·cases hu;cases hv;rfl
 ·cases hu;cases hv;rfl
 ·have e1:=Nat.eq_of_beq_eq_true (bR h).1;subst e1;cases hu with
  |mp k1=>cases hv with
   |mp k2=>rw [hle _ _ k1] at k2;cases k2;rfl
 ·exact h.elim
theorem wV {β γ:Nm}(hle:β.le γ): ∀ {a b:List Lf} {u v:List Value},qu a b→ae (aq β) a u→ae (aq γ) b v→v=u
 | [],[],u,v,_,hu,hv=>by rw [hu.aI,hv.aI]
 | [a],[b],u,v,h,hu,hv=>by
  obtain ⟨u0,us,rfl,h1,h2⟩:=hu.cons_inv;obtain ⟨v0,vs,rfl,h3,h4⟩:=hv.cons_inv;rw [h2.aI,h4.aI,BE hle h h1 h3]
 |a::a2::l,b::b2::m,u,v,h,hu,hv=>by
  obtain ⟨u0,us,rfl,h1,h2⟩:=hu.cons_inv;obtain ⟨v0,vs,rfl,h3,h4⟩:=hv.cons_inv;have h:sw a b∧qu (a2::l) (b2::m):=h;rw [BE hle h.1 h1 h3,wV hle h.2 h2 h4]
 | [],_::_,_,_,h,_,_=>h.elim
 | [_],[],_,_,h,_,_=>h.elim
 | [_],_::_::_,_,_,h,_,_=>by
  have h:sw _ _∧qu [] (_::_):=h;exact h.2.elim
 |_::_::_,[],_,_,h,_,_=>h.elim
 |_::b::l,[_],_,_,h,_,_=>by
  have h:sw _ _∧qu (b::l) []:=h;cases l<;>exact (show False from h.2).elim
theorem AU {β0 γ:Nm} {m0 m:Mem} {w0 w:World}(hs0:Sat β0 m0 w0)(hs:Sat γ m w)(hle:β0.le γ) {q:Prop}: ∀ {l:List Nat},Vh m0 m l q→oF β0 w0 l w∧q
 | [],h=>⟨fun x hx=>(by cases hx),h⟩
 |y::l,h=>by
  obtain ⟨h1,h2⟩:=h;obtain ⟨h3,h4⟩:=AU hs0 hs hle h2;refine ⟨fun x hx k hk=>?_,h4⟩;rcases List.mem_cons.1 hx with rfl|hx
  ·unfold NJ at h1;split at h1
   ·rename_i l t m' u ha hb;have ht:=Nat.eq_of_beq_eq_true (bR h1).1;have hl:=(bR h1).2;subst ht;obtain ⟨k1,e1,us,hu,hus⟩:=hs0.cells (aH ha);obtain ⟨k2,e2,vs,hv,hvs⟩:=hs.cells (aH hb);rw [hk] at e1;cases e1;rw [hle _ _ hk] at e2;cases e2;rw [hu,hv,wV hle hl hus hvs]
   ·exact h1.elim
  ·exact h3 x hx k hk
def Xq:Lf→Bool
 | .int _ _ _=>true
 | .bool _ _=>true
 | .ptr _ _=>true
 |_=>false
def N3:List Lf→Bool
 | []=>true
 |a::l=>Xq a&&N3 l
def a7w:Vv→Bool
 | .one l=>Xq l
 | .agg l=>N3 l
theorem Ek {β:Nm} {l:Lf} {u v:Value}(h:Xq l=true)(hu:aq β l u)(hv:aq β l v):v=u:=by
 unfold Xq at h;split at h
 ·cases hu;cases hv;rfl
 ·cases hu;cases hv;rfl
 ·cases hu with
  |ptr h1=>cases hv with
   |ptr h2=>rw [h1] at h2;cases h2;rfl
 ·cases h
theorem C0 {β:Nm}: ∀ {l:List Lf} {u v:List Value},N3 l=true→ae (aq β) l u→ae (aq β) l v→v=u
 | [],_,_,_,hu,hv=>by rw [hu.aI,hv.aI]
 |a::l,_,_,h,hu,hv=>by
  obtain ⟨u0,us,rfl,h1,h2⟩:=hu.cons_inv;obtain ⟨v0,vs,rfl,h3,h4⟩:=hv.cons_inv;unfold N3 at h;rw [Bool.and_eq_true] at h;rw [Ek h.1 h1 h3,C0 h.2 h2 h4]
theorem Ot {β:Nm} {x:Vv} {u v:Value}(h:a7w x=true)(hu:bC β x u)(hv:bC β x v):v=u:=by
 cases hu with
 |one hu=>cases hv with
  |one hv=>exact Ek h hu hv
 |agg hu=>cases hv with
  |agg hv=>rw [C0 h hu hv]
def acC:Op→Bool
 | .load _ _=>true
 |_=>false
def ldQ(C:Ctx)(m0:Mem)(hs:List Nat)(σ:St)(o:Op):Option SV:=match o with
 | .load t a=>match ev σ.tm a with
  |some (.v (.one (.ptr x off)))=>match rh x hs with
   |true=>none
   |false=>match bP m0 x,bP σ.m x with
    |some _,some (.cells l _)=>match gA C.P t l off with
     |some v=>match a7w v with
      |true=>some (.v v)
      |false=>none
     |none=>none
    |_,_=>none
  |_=>none
 |_=>none
def tkR(C:Ctx)(m0:Mem)(hs:List Nat)(σ:St)(o:Op):Option (Option Prop×SV):=match tkQ C σ o with
 |some r=>some r
 |none=>match ldQ C m0 hs σ o with
  |some s=>some (none,s)
  |none=>none
def tkK(o:Op):Bool:=acC o||(CG o||zI o)
theorem PC {P:Program} {o:Oper} {a:Act}(hk:tkK o.op=true)(w:World):o.about P w a.eval=none:=by
 unfold tkK at hk;rw [Bool.or_eq_true] at hk;rcases hk with hk|hk
 ·cases ho:o.op with
  |load t x=>unfold Oper.about;rw [ho]
  |_=>rw [ho] at hk;cases hk
 ·exact Ag hk w
def tk1(C:Ctx)(m0:Mem)(hs:List Nat)(σ:St)(o:Oper)(K:St→Prop):Prop:=match tkR C m0 hs σ o.op with
 |some (p,s)=>IQ p (K ⟨oL σ.tm o.dst s,σ.m⟩)
 |none=>False
def xTk(C:Ctx)(m0:Mem)(hs:List Nat)(ops:List Oper)(σ:St)(o:Oper)(K:St→Prop):Prop:=match o.guard with
 |none=>tk1 C m0 hs σ o K
 |some (j,want)=>match Am ops σ.tm j with
  |some (d,.v (.one (.bool kn t)))=>match kn with
   |true=>match decide (t=want) with
    |true=>tk1 C m0 hs σ o K
    |false=>K ⟨oL σ.tm o.dst (.cz []),σ.m⟩
   |false=>(t=want→tk1 C m0 hs ⟨σ.tm.set d (lb true want),σ.m⟩ o K)∧(t= !want→K ⟨oL (σ.tm.set d (lb true (!want))) o.dst (.cz []),σ.m⟩)
  |some (_,.cz [])=>K ⟨oL σ.tm o.dst (.cz []),σ.m⟩
  |_=>False
def TK {A:Type}:Option A→Bool
 |some _=>true
 |none=>false
def acy(C:Ctx)(m0:Mem)(hs:List Nat)(ops:List Oper)(σ:St)(o:Oper):Bool:=match o.guard with
 |none=>TK (tkR C m0 hs σ o.op)
 |some (j,want)=>match Am ops σ.tm j with
  |some (_,.v (.one (.bool kn t)))=>match kn with
   |true=>match decide (t=want) with
    |true=>TK (tkR C m0 hs σ o.op)
    |false=>true
   |false=>TK (tkR C m0 hs σ o.op)
  |some (_,.cz [])=>true
  |_=>false
def BN(C:Ctx)(m0:Mem)(hs:List Nat)(ops:List Oper)(listed:Array Bool)(σ:St):List Nat→Option (Nat×Oper)
 | []=>none
 |j::l=>match ops[j]? with
  |some o=>match tkK o.op&&(acy C m0 hs ops σ o&&Region.free .any ⟨ops⟩ listed j) with
   |true=>some (j,o)
   |false=>BN C m0 hs ops listed σ l
  |none=>BN C m0 hs ops listed σ l
theorem pT {C:Ctx} {m0:Mem} {hs:List Nat} {ops:List Oper} {listed:Array Bool} {σ:St} {j:Nat} {o:Oper}: ∀ {l:List Nat},BN C m0 hs ops listed σ l=some (j,o)→j∈l∧ops[j]? =some o∧Region.free .any ⟨ops⟩ listed j=true∧tkK o.op=true
 | [],h=>by cases h
 |k::l,h=>by
  unfold BN at h;split at h
  ·rename_i o' ho;split at h
   ·rename_i hb;cases h;rw [Bool.and_eq_true,Bool.and_eq_true] at hb;exact ⟨by simp,ho,hb.2.2,hb.1⟩
   ·obtain ⟨h1,h2⟩:=pT h;exact ⟨List.mem_cons_of_mem _ h1,h2⟩
  ·obtain ⟨h1,h2⟩:=pT h;exact ⟨List.mem_cons_of_mem _ h1,h2⟩
def a2j(p:Nat→Prop):List Nat→Prop
 | []=>True
 | [i]=>p i
 |i::l=>p i∧a2j p l
theorem E5 {p:Nat→Prop}: ∀ {l:List Nat},a2j p l→ ∀i∈l,p i
 | [],_,i,hi=>by cases hi
 | [j],h,i,hi=>by
  obtain rfl:i=j:=by simpa using hi
  exact h
 |j::k::l,h,i,hi=>by
  rcases List.mem_cons.1 hi with rfl|hi
  ·exact h.1
  ·exact E5 (l:=k::l) h.2 i hi
def DO(C:Ctx)(m0:Mem)(hs:List Nat)(ops:List Oper)(K:St→Prop):Nat→Array Bool→St→Prop
 |0,_,_=>False
 |n+1,listed,σ=>match Region.ready .any ⟨ops⟩ listed with
  | []=>K σ
  |i::rs=>match BN C m0 hs ops listed σ (i::rs) with
   |some (j,o)=>xTk C m0 hs ops σ o fun σ'=>DO C m0 hs ops K n (listed.setIfInBounds j true) σ'
   |none=>a2j (fun j=>match ops[j]? with
    |some o=>oV C ops [o] σ fun σ'=>Vh m0 σ'.m hs (DO C m0 hs ops K n (listed.setIfInBounds j true) σ')
    |none=>False) (i::rs)
section
variable {F:Fence} {n:Nat} {P:Program} {ops:Array Oper} {Q:Exit→Act→World→Prop} {S:World→Prop}
def gr(P:Program)(ops:Array Oper)(S:World→Prop)(o:Oper)(v:Value)(a:Act):Prop:=
 ((Region.wanted o (yielded ops a.tmps)=true∧ ∀w,S w→(execOp a.eval o).run P w= .ok (.value v) w)∨(Region.wanted o (yielded ops a.tmps)=false∧v=undef))∧ ∀w,o.about P w a.eval=none
def wpAnyS(F:Fence)(n:Nat)(P:Program)(ops:Array Oper)(Q:Exit→Act→World→Prop)(S:World→Prop):Nat→Array Bool→Act→World→Prop
 |0,listed,a,w=>Region.ready .any ops listed= []∧Q .normal a w
 |fuel+1,listed,a,w=>(Region.ready .any ops listed= []→Q .normal a w)∧ ∀i∈Region.ready .any ops listed,wpOpIn F n P ops Q i (fun a' w'=>S w'∧wpAnyS F n P ops Q S fuel (listed.setIfInBounds i true) a' w') a w
theorem Av: ∀ (fuel:Nat) (listed:Array Bool) (a:Act) (w:World),wpAnyS F n P ops Q S fuel listed a w→wpAnyIn F n P .any ops Q fuel listed a w
 |0,_,_,_,h=>h
 |k+1,_,_,_,h=>⟨h.1,fun i hi=>wpOpIn_mono (fun a' w' h'=>Av k _ a' w' h'.2) (h.2 i hi)⟩
theorem JN {listed:Array Bool} {a:Act} {w:World}(hr:Region.ready .any ops listed= [])(h:Q .normal a w): ∀fuel,wpAnyS F n P ops Q S fuel listed a w
 |0=>⟨hr,h⟩
 |_+1=>⟨fun _=>h,by rw [hr];simp⟩
theorem gr.now {i:Nat} {o:Oper} {v:Value} {a:Act}(hro:F.round=none)(hi:ops[i]? =some o)(hy:gr P ops S o v a) {K:Act→World→Prop} {w:World}(hS:S w)(h:K (a.put o.dst v) w):wpOpIn F n P ops Q i K a w:=by
 have hab: ∀f,o.about P w a.eval=some f→F.fn f:=fun f hf=>by rw [hy.2 w] at hf;cases hf
 unfold wpOpIn;rw [hi];dsimp only;rcases hy.1 with ⟨hw,hv⟩|⟨hw,rfl⟩
 ·rw [if_pos hw];unfold Oper.wpIn;rw [hro,Oper.semAt_none,hv w hS];exact ⟨hab,h⟩
 ·rw [if_neg (by rw [hw];simp)]
  exact ⟨hab,h⟩
theorem gr.mU {oi oj:Oper} {v:Value} {a:Act}(hs: ∀cs b,oi.op≠ .select cs b)(h3: ∀d,oj.dst=some d→d∉oi.looksAt ops)(hy:gr P ops S oi v a)(u:Value):gr P ops S oi v (a.put oj.dst u):=by
 unfold gr at*;rw [wanted_put oi a oj.dst u h3,execOp_put oi hs a oj.dst u h3];exact ⟨hy.1,fun w=>by rw [about_put oi w a oj.dst u h3];exact hy.2 w⟩
theorem FN {Y:Act→Prop} {j:Nat} {oj:Oper} {dst:Option Tmp} {v:Value}(hro:F.round=none)(hj:ops[j]? =some oj)(h1: ∀d,dst=some d→d∉oj.looksAt ops)(h2: ∀d,dst=some d→oj.dst≠some d)
  (hk: ∀a u,Y a→Y (a.put oj.dst u)) (hkd: ∀ (a:Act) (d:Deferred),Y a→Y {a with defers:=d::a.defers}) (hsj: ∀cs b,oj.op≠ .select cs b) (hpan: ∀c a w,¬Q (.panic c) a w) {K:Act→World→Prop} {a:Act} {w:World} (hy:Y a)
  (h:wpOpIn F n P ops Q j K (a.put dst v) w):wpOpIn F n P ops Q j (fun a' w'=>Y a'∧K (a'.put dst v) w') a w:=by
 unfold wpOpIn at h ⊢;rw [hj] at h ⊢;dsimp only at h ⊢;rw [wanted_put oj a dst v h1,about_put oj w a dst v h1] at h;by_cases hw:Region.wanted oj (yielded ops a.tmps)=true
 ·rw [if_pos hw] at h ⊢;unfold Oper.wpIn at h ⊢;rw [about_put oj w a dst v h1,hro,Oper.semAt_none,execOp_put oj hsj a dst v h1] at h;rw [hro,Oper.semAt_none];refine ⟨h.1,?_⟩;have h:=h.2;have put: ∀u w'',K ((a.put dst v).put oj.dst u) w''→Y (a.put oj.dst u)∧K ((a.put oj.dst u).put dst v) w'':=fun u w'' he=>⟨hk a u hy,by rw [←Act.put_comm a v u h2];exact he⟩
  generalize (execOp a.eval oj).run P w=r at h ⊢;cases r with
  |ok x w'=>
   cases x<;>simp only [Oper.uponIn] at h ⊢
   case value u=>exact put u w' h
   case skip=>exact put undef w' h
   case defer d=>
    refine ⟨hk _ _ (hkd a d hy),?_⟩;rw [←Act.put_comm _ v undef h2,←Act.put_defers];exact h
   case enter f args=>
    refine ⟨h.1,CallsIn.mono h.2 fun e w'' he=>?_⟩;cases e with
    |returned u=>exact put u w'' he
    |panicked c=>exact absurd he (hpan _ _ _)
    |outgrown=>exact he
   case row row args=>exact ⟨h.1,RowsIn.mono h.2 fun u w'' he=>put u w'' he⟩
   case round l f tmps assign body=>
    refine ⟨h.1,RoundIn.mono h.2 fun e w'' he=>?_⟩;cases e with
    |returned u=>exact put u w'' he
    |panicked c=>exact absurd he (hpan _ _ _)
    |outgrown=>exact he
  |halt x w'=>
   cases x<;>simp only [Oper.uponIn] at h ⊢
   case panic u=>exact absurd h (hpan _ _ _)
 ·rw [if_neg hw] at h ⊢;exact ⟨h.1,hk a _ hy,by rw [←Act.put_comm a v undef h2];exact h.2⟩
theorem wpAnyS_first {i:Nat} {oi:Oper} {v:Value}(hro:F.round=none)(hi:ops[i]? =some oi)(hsel:Region.noSelect ops=true)(hpan: ∀c a w,¬Q (.panic c) a w):
  ∀ (fuel:Nat) (listed:Array Bool) (a:Act) (w:World),(∀j oj,ops[j]? =some oj→j≠i→listed.getD j true=false→(∀e∈oj.after,Region.binds .any e=true→e.on≠i)→oi.apart ops oj=true)→
   i∈Region.ready .any ops listed→gr P ops S oi v a→S w→wpAnyS F n P ops Q S fuel (listed.setIfInBounds i true) (a.put oi.dst v) w→wpAnyS F n P ops Q S (fuel+1) listed a w:=by
 intro fuel
 induction fuel with
 |zero=>
  intro listed a w _ hr hy hS H;refine ⟨fun h=>(by rw [h] at hr;cases hr),fun j hj=>?_⟩
  by_cases e:j=i
  ·subst e;exact hy.now hro hi hS ⟨hS,H⟩
  ·have:=ready_mono hj e;rw [H.1] at this;cases this
 |succ fuel ih=>
  intro listed a w hfree hr hy hS H;refine ⟨fun h=>(by rw [h] at hr;cases hr),fun j hj=>?_⟩
  by_cases e:j=i
  ·subst e;exact hy.now hro hi hS ⟨hS,H⟩
  ·obtain ⟨hun,oj,hoj,hall⟩:=mem_ready.1 hj;have hwait: ∀e∈oj.after,Region.binds .any e=true→e.on≠i:=fun e he hb heq=>by
    have h1:=hall e he hb;have h0:=(mem_ready.1 hr).1;rw [heq] at h1;rcases Nat.lt_or_ge i listed.size with h'|h'
    ·simp [h'] at h0 h1;rw [h0] at h1;cases h1
    ·simp [Array.getElem?_eq_none h'] at h1
   obtain ⟨p1,p2,p3⟩:=Oper.apart_spec (hfree j oj hoj e hun hwait);have hst:=FN (Y:=gr P ops S oi v) hro hoj p1 p2 (fun a u h=>h.mU (Region.noSelect_spec hsel i oi · · hi) p3 u) (fun a d h=>h) (Region.noSelect_spec hsel j oj · · hoj) hpan hy (H.2 j (ready_mono hj e))
   refine wpOpIn_mono (fun a' w' h3=>⟨h3.2.1,ih _ a' w' (fun k ok hk hki hun' hno=>?_) (ready_mono hr (Ne.symm e)) h3.1 h3.2.1 ?_⟩) hst
   ·refine hfree k ok hk hki ?_ hno;by_cases hjk:j=k
    ·subst hjk;exact hun
    ·rw [getD_set_ne true hjk] at hun';exact hun'
   ·rw [Array.setIfInBounds_comm _ _ e];exact h3.2.2
end
section
variable {bs:Nat} {F:Fence} {n:Nat} {C:Ctx} {ops:List Oper} {β:Nm} {a:Act} {w:World} {m0:Mem} {β0:Nm} {w0:World} {hs:List Nat}
theorem Ov {σ:St} {o:Oper} {K:St→Prop}(h:tk1 C m0 hs σ o K)(hf:Fit bs σ β a w)(hsi:ai m0 β0 w0 σ.m β w)(hS:oF β0 w0 hs w): ∃v,(∀w',oF β0 w0 hs w'→(execOp a.eval o).run C.P w'= .ok (.value v) w')∧(∀w',o.about C.P w' a.eval=none)∧ ∃σ',Fit bs σ' β (a.put o.dst v) w∧σ'.m=σ.m∧K σ':=by
 unfold tk1 at h;split at h
 ·rename_i p s hq;obtain ⟨hp,hk⟩:=ic h;unfold tkR at hq;split at hq
  ·rename_i r hq2;cases hq;unfold tkQ at hq2;split at hq2
   ·cases hq2
   ·rename_i hkind;split at hq2
    ·rename_i p' s' hq';split at hq2
     ·rename_i hd;cases hq2;obtain ⟨v,h1,h2,h3⟩:=a3p hkind hq' hd hp hf.env;exact ⟨v,fun w' _=>h2 w',h3,⟨oL σ.tm o.dst s,σ.m⟩,⟨p7 hf.tm h1 o.dst,hf.sat,by rw [put_defers];exact hf.df⟩,rfl,hk⟩
     ·cases hq2
    ·cases hq2
  ·split at hq
   ·rename_i s' hl;cases hq;unfold ldQ at hl;split at hl
    ·rename_i t x ho;split at hl
     ·rename_i y off hx;split at hl
      ·cases hl
      ·rename_i hin;split at hl
       ·rename_i b0 l t' hb0 hb;split at hl
        ·rename_i v hv;split at hl
         ·rename_i hd;cases hl;have hy0:y∈hs:=by
           have key: ∀l:List Nat,rh y l=false→y∈l:=by
            intro l
            induction l with
            |nil=>intro h;cases h
            |cons z l ih=>
             intro h;unfold rh at h;split at h
             ·rename_i e;rw [Nat.eq_of_beq_eq_true e];exact List.mem_cons_self ..
             ·exact List.mem_cons_of_mem _ (ih h)
           exact key hs hin
          have hlt:y<m0.length:=by
           rcases Nat.lt_or_ge y m0.length with h'|h'
           ·exact h'
           ·have:=aH hb0;rw [List.getElem?_eq_none h'] at this;cases this
          obtain ⟨k,hk0,vs,hob,hvs⟩:=hf.sat.cells (aH hb);have hxv:=bh hf.tm hx;have hav:a.eval x= .pointer (some ⟨k,off,none⟩):=by
           cases hxv with
           |v hxv=>cases hxv with
            |one hxv=>generalize a.eval x=q at hxv ⊢;cases hxv;rename_i h1;rw [hk0] at h1;cases h1;rfl
          have run: ∀w',oF β0 w0 hs w'→ ∃r,(execOp a.eval o).run C.P w'= .ok (.value r) w'∧bC β v r:=by
           intro w' hS';have e0:β0 y=some k:=by rw [←hsi.same y hlt];exact hk0
           have hob':w'.heap[k]? =some (.cells ⟨vs⟩ t' (0,0)):=by rw [hS' y hy0 k e0,←hS y hy0 k e0];exact hob
           have hcell: ∀i:Nat,w'.cell? ⟨k,i,none⟩=vs[i]? :=fun i=>by simp [World.cell?,hob']
           obtain ⟨r,hr,hh⟩:=mI (P:=C.P) (w:=w') (k:=k) (base:=0) hv hvs (fun j u hu=>by rw [hcell,Nat.zero_add];exact hu)
           rw [Nat.zero_add] at hr;refine ⟨r,?_,hh⟩;rw [execOp,ho];simp only [hav,Instr.loadAt,Instr.sureAddr,Sem.run_bind,Sem.run_pure,Result.andThen_ok,hr]
          obtain ⟨r,hr,hh⟩:=run w hS;refine ⟨r,fun w' hS'=>?_,fun w'=>by unfold Oper.about;rw [ho],⟨oL σ.tm o.dst (.v v),σ.m⟩,⟨p7 hf.tm (.v hh) o.dst,hf.sat,by rw [put_defers];exact hf.df⟩,rfl,hk⟩
          obtain ⟨r',h1,h2⟩:=run w' hS';rw [h1,Ot hd hh h2]
         ·cases hl
        ·cases hl
       ·cases hl
     ·cases hl
    ·cases hl
   ·cases hq
 ·exact h.elim
theorem Rc {σ:St} {o:Oper} {K:St→Prop}(h:xTk C m0 hs ops σ o K)(hf:Fit bs σ β a w)(hkd:tkK o.op=true)(hsi:ai m0 β0 w0 σ.m β w)(hS:oF β0 w0 hs w):
  ∃v,gr C.P ⟨ops⟩ (oF β0 w0 hs) o v a∧ ∃σ',Fit bs σ' β (a.put o.dst v) w∧σ'.m=σ.m∧K σ':=by
 have run: ∀tm',Fit bs ⟨tm',σ.m⟩ β a w→tk1 C m0 hs ⟨tm',σ.m⟩ o K→Region.wanted o (yielded ⟨ops⟩ a.tmps)=true→ ∃v,gr C.P ⟨ops⟩ (oF β0 w0 hs) o v a∧ ∃σ',Fit bs σ' β (a.put o.dst v) w∧σ'.m=σ.m∧K σ':=by
  intro tm' hf' hx hw;obtain ⟨v,h1,h2,σ',h3,h4,h5⟩:=Ov hx hf' hsi hS;exact ⟨v,⟨.inl ⟨hw,h1⟩,h2⟩,σ',h3,h4,h5⟩
 have skip: ∀tm',Fit bs ⟨tm',σ.m⟩ β a w→K ⟨oL tm' o.dst (.cz []),σ.m⟩→Region.wanted o (yielded ⟨ops⟩ a.tmps)=false→ ∃v,gr C.P ⟨ops⟩ (oF β0 w0 hs) o v a∧ ∃σ',Fit bs σ' β (a.put o.dst v) w∧σ'.m=σ.m∧K σ':=by
  intro tm' hf' hx hw;exact ⟨undef,⟨.inr ⟨hw,rfl⟩,fun w'=>PC hkd w'⟩,⟨oL tm' o.dst (.cz []),σ.m⟩,⟨p7 hf'.tm (.cz .nil) o.dst,hf'.sat,by rw [put_defers];exact hf'.df⟩,rfl,hx⟩
 unfold xTk at h;split at h
 ·rename_i hg;exact run σ.tm hf h (by simp [Region.wanted,hg])
 ·rename_i j want hg;have wb: ∀t,((((⟨ops⟩:Array Oper)[j]?).bind (·.dst)).bind (a.tmps[·]?)=some (.bool t))→Region.wanted o (yielded ⟨ops⟩ a.tmps)=decide (t=want):=by
   intro t ht;simp only [Region.wanted,hg,yielded,ht];cases t<;>cases want<;>rfl
  split at h
  ·rename_i d kn t hy;obtain ⟨v,hv,hs,hd⟩:=kZ (ops:=⟨ops⟩) rfl hf hy;have:v= .bool t:=by
    cases hs with
    |v hs=>cases hs with
     |one hs=>cases hs;rfl
   subst this;have hw:=wb t hv;split at h
   ·split at h
    ·rename_i hdd;exact run σ.tm hf h (by rw [hw,hdd])
    ·rename_i hdd;exact skip σ.tm hf h (by rw [hw,hdd])
   ·by_cases e:t=want
    ·exact run _ (hf.yh (by rw [←e];exact hd)) (h.1 e) (by rw [hw];simpa using e)
    ·have e':t= !want:=by revert e;cases t<;>cases want<;>simp
     exact skip _ (hf.yh (by rw [←e'];exact hd)) (h.2 e') (by rw [hw];simpa using e)
  ·rename_i hy;obtain ⟨v,hv,hs,_⟩:=kZ (ops:=⟨ops⟩) rfl hf hy;have:v= .tuple ⟨[]⟩:=by
    cases hs with
    |cz hs=>rw [hs.aI]
   subst this;exact skip σ.tm hf h (by simp only [Region.wanted,hg,yielded,hv];rfl)
  ·exact h.elim
theorem a3r {P:Program} {o:Oper} {K:Act→World→Prop} {Q Q':Exit→Act→World→Prop}(hq: ∀e a w,e≠ .normal→Q' e a w→Q e a w)(hh:o.wpIn F n P a w K Q'):o.wpIn F n P a w K Q:=by
 unfold Oper.wpIn at*;refine ⟨hh.1,?_⟩;have hh:=hh.2;generalize (o.semAt F.round a.eval).run P w=r at*;cases r with
 |ok x w'=>
  cases x<;>simp only [Oper.uponIn] at hh ⊢ <;>
   first
    |exact hh
    |exact ⟨hh.1,CallsIn.mono hh.2 (fun e w'' he=>by cases e<;>first|exact hq _ _ _ (by simp) he|exact (he.elim fun a he=>he.elim fun w he=>⟨a,w,hq _ _ _ (by simp) he⟩)|exact he)⟩
    |exact ⟨hh.1,RoundIn.mono hh.2 (fun e w'' he=>by cases e<;>first|exact hq _ _ _ (by simp) he|exact (he.elim fun a he=>he.elim fun w he=>⟨a,w,hq _ _ _ (by simp) he⟩)|exact he)⟩
 |halt x w'=>cases x<;>simp only [Oper.uponIn] at hh ⊢ <;>first|exact hh|exact hq _ _ _ (by simp) hh
theorem n9(hro:F.round=none)(hF:Wd F)(hC:C.Ok)(hsel:Region.noSelect ⟨ops⟩=true)(Q:Exit→Act→World→Prop)(hpan: ∀c a w,¬Q (.panic c) a w) {K:St→Prop}(hs0:Sat β0 m0 w0)(hY:KC C β0)
  (hQ: ∀a' w',Ends bs C m0 β0 w0 K a' w'→Q .normal a' w'): ∀ (k:Nat) (listed:Array Bool) (σ:St) (β:Nm) (a:Act) (w:World) (fuel:Nat),DO C m0 hs ops K k listed σ→fuel=cP listed→Fit bs σ β a w→ai m0 β0 w0 σ.m β w→oF β0 w0 hs w→
  wpAnyS F n C.P ⟨ops⟩ Q (oF β0 w0 hs) fuel listed a w
 |0,_,_,_,_,_,_,h,_,_,_,_=>h.elim
 |k+1,listed,σ,β,a,w,fuel,h,hfu,hf,hsi,hS=>by
  unfold DO at h;have some_: ∀j,j∈Region.ready .any ⟨ops⟩ listed→ ∃f',fuel=f'+1∧f'=cP (listed.setIfInBounds j true)∧(Region.ready .any ⟨ops⟩ listed).contains j=true:=by
   intro j hj;have h0:=(mem_ready.1 hj).1;have hsz:j<listed.size:=by
    rcases Nat.lt_or_ge j listed.size with h'|h'
    ·exact h'
    ·simp [Array.getD_eq_getD_getElem?,Array.getElem?_eq_none h'] at h0
   have h1:listed.getD j false=false:=by
    simp only [Array.getD_eq_getD_getElem?,Array.getElem?_eq_getElem hsz,Option.getD_some] at h0 ⊢;exact h0
   have:=nE hsz h1;exact ⟨cP (listed.setIfInBounds j true),by omega,rfl,by simpa using hj⟩
  split at h
  ·rename_i hr;exact JN hr (hQ a w ⟨σ,β,hf,hsi,h⟩) fuel
  ·rename_i i rs hr;split at h
   ·rename_i j o hfd;obtain ⟨hj,ho,hfree,hkd⟩:=pT hfd;rw [←hr] at hj;obtain ⟨f',rfl,hf',hcon⟩:=some_ j hj;obtain ⟨v,hy,σ',h1,h2,h3⟩:=Rc h hf hkd hsi hS;exact wpAnyS_first hro (by simpa using ho) hsel hpan f' listed a w (Region.free_spec (by simpa using ho) hfree) (by simpa using hcon) hy hS (n9 hro hF hC hsel Q hpan hs0 hY hQ k _ σ' β _ w f' h3 hf' h1 (by rw [h2];exact hsi) hS)
   ·have hne:i::rs≠ []:=by simp
    obtain ⟨f0,hf0⟩: ∃f0,fuel=f0+1:=by
     obtain ⟨f',e,_⟩:=some_ i (by rw [hr];simp)
     exact ⟨f',e⟩
    subst hf0;refine ⟨fun h0=>absurd (hr▸h0) hne,fun j hj=>?_⟩;rw [hr] at hj;have hx:=E5 h j hj;rw [←hr] at hj;obtain ⟨f',e,hf',_⟩:=some_ j hj;obtain rfl:f0=f':=by omega
    split at hx
    ·rename_i o ho;have ho2:(⟨ops⟩:Array Oper)[j]? =some o:=by simpa using ho
     have hW:=gZ (n:=n) hC hF (ops:=⟨ops⟩) (all:=ops) rfl [o] σ _ β a w hx hf (hY.le hsi.ext) (fun e a w=>match e with
      | .normal=>oF β0 w0 hs w∧wpAnyS F n C.P ⟨ops⟩ Q (oF β0 w0 hs) f0 (listed.setIfInBounds j true) a w
      |e=>Q e a w) fun a2 w2 he=>by
       obtain ⟨σ2,β2,e1,e2,e3⟩:=he;have e4:=ai.trans hs0 hsi e2;obtain ⟨e5,e6⟩:=AU hs0 e1.sat e4.ext e3;exact ⟨e5,n9 hro hF hC hsel Q hpan hs0 hY hQ k _ σ2 β2 a2 w2 f0 e6 hf' e1 e4 e5⟩
     unfold wpListIn at hW;unfold wpOpIn;rw [ho2];simp only;split
     ·rename_i hw;rw [if_pos hw] at hW;refine a3r (fun e a w hne hq=>?_) hW;cases e<;>first|exact absurd rfl hne|exact hq
     ·rename_i hw;rw [if_neg hw] at hW;exact hW
    ·exact hx.elim
theorem JD(hro:F.round=none)(hF:Wd F)(hC:C.Ok)(hsel:Region.noSelect ⟨ops⟩=true)(Q:Exit→Act→World→Prop)(hpan: ∀c a w,¬Q (.panic c) a w) {K:St→Prop} {σ:St}(hs0:Sat β σ.m w)(hY:KC C β)
  (hQ: ∀a' w',Ends bs C σ.m β w K a' w'→Q .normal a' w') {k:Nat} {listed:Array Bool} {w1:World} {fuel:Nat} (h:DO C σ.m hs ops K k listed σ) (hfu:fuel=cP listed) (hf:Fit bs σ β a w1) (hsi:ai σ.m β w σ.m β w1) (hh:w1.heap=w.heap):
  wpAnyIn F n C.P .any ⟨ops⟩ Q fuel listed a w1:=
 Av _ _ _ _ (n9 (hs:=hs) hro hF hC hsel Q hpan hs0 hY hQ k listed σ β a w1 fuel h hfu hf hsi fun x _ k _=>by rw [hh])
theorem Fit.drawn {σ:St}(hf:Fit bs σ β a w):Fit bs σ β a {w with drawn:=w.drawn+1}∧ai σ.m β w σ.m β {w with drawn:=w.drawn+1}:=by
 refine ⟨⟨hf.tm,⟨hf.sat.dz,hf.sat.inj,hf.sat.CC,hf.sat.gl,hf.sat.ng,hf.sat.im⟩,Marks.mono (w:=w) (w':= {w with drawn:=w.drawn+1}) (fun _ h=>h) hf.df⟩,?_⟩;exact ⟨Nm.le_refl β,fun _ _=>rfl,Nat.le_refl _,fun q x h k=>absurd (Al k) (by omega),fun _ _ _ h=>h,rfl,rfl,rfl,Nat.le_refl _,fun _ _ _=>rfl,fun _ _ _ h=> .inl h⟩
end
end Go.Proofs.YtfdmjoddhjmokaaGreatDoor.Rex
namespace Go.Proofs.YtfdmjoddhjmokaaGreatDoor.Rex
open Go.RowKit
set_option linter.unusedVariables false
set_option linter.unusedSimpArgs false
section
variable {F:Fence} {n:Nat} {P:Program} {b:Frame} {a:Act} {k:List Item} {cs:List Frame} {w:World} {Q:Exit→Act→World→Prop}
theorem eM {c:Code}:step P (lone (b.atR a (.code (.scope c)::k)) cs w)= .next (lone (b.atR a (.code c:: .inScope c::k)) cs w):=
 step_lone_go (by simp [stepG,stepG.exec,Frame.atR])
theorem AE {c:Code}:step P (lone (b.atR a (.inScope c::k)) cs w)= .next (lone (b.atR a k) cs w):=
 step_lone_go (by simp [stepG,stepG.exec,Frame.atR])
theorem r9 {c:Code}(h:c.wpIn F n P (Exit.noGoto Q) a w):(Code.scope c).wpIn F n P Q a w:=by
 intro b k cs hro hb hr;have h0:(lone (b.atR a (.code (.scope c)::k)) cs w).fenced P F:=fenced_calm hb hr rfl;obtain ⟨e,a₁,w₁,hq,harr⟩:=h b (.inScope c::k) cs hro hb hr;cases e with
 |normal=>exact ⟨.normal,a₁,w₁,hq,.head h0 eM (StepsIn.trans harr (.one (fenced_calm hb hr rfl) AE))⟩
 |exit id=>
  have hx:exitTo id (.inScope c::k)=exitTo id k:=by simp [exitTo]
  exact ⟨.exit id,a₁,w₁,hq,fun k' hk=> .head h0 eM (harr.1 k' (by rw [hx];exact hk)),
   fun hr' hk=>let ⟨k₁,h1,h2⟩:=harr.2 hr' (by rw [hx];exact hk);⟨k₁,h1,.head h0 eM h2⟩⟩
 |goto l=>exact hq.elim
 |ret=>exact ⟨_,a₁,w₁,hq,.of_steps (.one h0 eM) harr⟩
 |panic ch=>exact ⟨_,a₁,w₁,hq,.of_steps (.one h0 eM) harr⟩
 |outgrown=>exact ⟨_,a₁,w₁,hq,.of_steps (.one h0 eM) harr⟩
end
theorem Sat.drop {β:Nm} {m:Mem} {w w':World}(h:Sat β m w) {x b:Nat} {b0:bG}(hx:m[x]? =some (some b0))(hrw:b0.rw)(hb:β x=some b)(hp:tS w b w'):Sat β (m.set x none) w':=by
 have kx:kw m x:=⟨b0,hx,hrw⟩;have cut: ∀ (y:Nat) (c:bG),(m.set x none)[y]? =some (some c)→y≠x∧m[y]? =some (some c):=by
  intro y c hc;by_cases e:x=y
  ·subst e;rw [List.getElem?_set] at hc;simp at hc
  ·rw [List.getElem?_set_ne e] at hc;exact ⟨fun e'=>e e'.symm,hc⟩
 refine ⟨fun y c hc=>?_,?_,fun y a hy=>by simpa using h.CC y a hy,h.gl.mU fun p hp' hl=>hp.iy p.1 hl fun e=>h.ng x b kx hb p hp' e,fun y a ⟨c,hc,hcr⟩ hy=>h.ng y a ⟨c,(cut y c hc).2,hcr⟩ hy,h.ij (Nm.le_refl β) rfl (fun k hk hn=>hp.iy k hk fun e=>hn x kx (by rw [hb,e])) fun y b _ ⟨c,hc,hcr⟩ e=>⟨y,⟨c,(cut y c hc).2,hcr⟩,e⟩⟩
 ·obtain ⟨hne,hy⟩:=cut y c hc;refine h.lY (Nm.le_refl β) hy fun a hk ha=>hp.iy a (h.lt hk ha) fun e=>hne ?_;exact (h.inj x y a kx hk (by rw [e];exact hb) ha).symm
 ·rintro y z a ⟨c,hc,hcr⟩ ⟨d,hd,hdd⟩ hy hz;exact h.inj y z a ⟨c,(cut y c hc).2,hcr⟩ ⟨d,(cut z d hd).2,hdd⟩ hy hz
theorem KR {β:Nm} {m:Mem} {w w':World} {x b:Nat} {b0:bG}(hx:m[x]? =some (some b0))(hrw:b0.rw)(hb:β x=some b)(hp:tS w b w'):ai m β w (m.set x none) β w':=by
 have kx:kw m x:=⟨b0,hx,hrw⟩;have cut: ∀ (y:Nat) (c:bG),(m.set x none)[y]? =some (some c)→y≠x∧m[y]? =some (some c):=by
  intro y c hc;by_cases e:x=y
  ·subst e;rw [List.getElem?_set] at hc;simp at hc
  ·rw [List.getElem?_set_ne e] at hc;exact ⟨fun e'=>e e'.symm,hc⟩
 refine ⟨Nm.le_refl β,fun _ _=>rfl,by simp,?_,?_,hp.os,hp.tape,hp.output,hp.size,?_,fun _ _ _ h=> .inl h⟩
 ·intro q y hy hk;have:=Al hk;simp at this;omega
 ·rintro q y hy ⟨c,hc,hcr⟩;exact ⟨c,(cut y c hc).2,hcr⟩
 ·intro k hk hf;exact hp.iy k hk fun e=>hf x kx (by rw [hb,e])
structure rJ (bs:Nat) (w w':World):Prop where
 below: ∀k:Nat,k<bs→w'.heap[k]? =w.heap[k]?
 mU: ∀ (k:Nat) (o:Obj),w.heap[k]? =some o→(∀x,o≠ .deferred x)→w'.heap[k]? =some o
 size:w'.heap.size=w.heap.size
 os:w'.os=w.os
 tape:w'.tape=w.tape
 output:w'.output=w.output
theorem rJ.refl(bs:Nat)(w:World):rJ bs w w:=⟨fun _ _=>rfl,fun _ _ h _=>h,rfl,rfl,rfl,rfl⟩
theorem rJ.trans {bs:Nat} {x y z:World}(h:rJ bs x y)(k:rJ bs y z):rJ bs x z:=
 ⟨fun i hi=>(k.below i hi).trans (h.below i hi),fun i o hi ho=>k.mU i o (h.mU i o hi ho) ho,k.size.trans h.size,k.os.trans h.os,k.tape.trans h.tape,k.output.trans h.output⟩
theorem U6 {bs:Nat} {w:World} {D:Nat} {x y:Option (List Deferred)}(hb:bs≤D)(hD:w.heap[D]? =some (.deferred x)):rJ bs w (w.putObj D (.deferred y)):=by
 refine ⟨fun k hk=>World.putObj_heap_other (by omega),fun k o hk ho=>?_,by simp,rfl,rfl,rfl⟩
 rw [World.putObj_heap_other]
 ·exact hk
 ·rintro rfl;rw [hD] at hk;cases hk;exact ho _ rfl
theorem rJ.hasB {bs:Nat} {w w':World}(h:rJ bs w w') {β:Nm} {b:bG} {a:Nat}(k:cw β b w.heap[a]?):cw β b w'.heap[a]? :=by
 cases b with
 |cells l t=>
  obtain ⟨vs,e,hv⟩:=k;exact ⟨vs,h.mU a _ e (fun x e=>by cases e),hv⟩
 |rows=>
  obtain ⟨e0,vs,fz,t',e,h1,h2⟩:=k;exact ⟨e0,vs,fz,t',h.mU a _ e (fun x e=>by cases e),h1,h2⟩
 |map=>exact ⟨h.mU a _ k.1 (fun x e=>by cases e),k.2⟩
 |it=>
  obtain ⟨b,h1,h2⟩:=k;exact ⟨b,h1,h.mU a _ h2 (fun x e=>by cases e)⟩
 |loop=>exact h.mU a _ k (fun x e=>by cases e)
theorem rJ.sat {bs:Nat} {w w':World}(h:rJ bs w w') {β:Nm} {m:Mem}(hs:Sat β m w):Sat β m w':=
 ⟨fun x b hb=>(hs.dz x b hb).imp id fun ⟨a,ha,hB⟩=>⟨a,ha,h.hasB hB⟩,hs.inj,hs.CC,fun p hp=>by obtain ⟨t,fz,hh⟩:=hs.gl p hp;exact ⟨t,fz,h.mU _ _ hh fun x e=>by cases e⟩,hs.ng,fun sh v xs e=>by
  obtain ⟨h0,c,hc,h1⟩:=hs.im sh v xs e;refine ⟨h0,c,hc,h1.imp id ?_⟩;rintro ⟨b,base,vs,t,fz,h2,h3,h4,h5⟩;exact ⟨b,base,vs,t,fz,h2,h.mU _ _ h3 fun x e=>(by cases e),h4,h5⟩⟩
theorem rJ.since {bs:Nat} {w w':World}(h:rJ bs w w') {m0 m:Mem} {β0 β:Nm} {w0:World}(hb:w0.heap.size≤bs)(hs:ai m0 β0 w0 m β w):ai m0 β0 w0 m β w':=
 ⟨hs.ext,hs.same,hs.len,hs.new,hs.sub,h.os.trans hs.os,h.tape.trans hs.tape,h.output.trans hs.output,by rw [h.size];exact hs.size,fun k hk hf=>by rw [h.below k (by omega)];exact hs.frame k hk hf,hs.WR⟩
theorem Marks.put {bs:Nat} {w:World} {D:Nat} {o:Obj}: ∀ {ds:List Deferred},(∀d'∈ds,d'≠ {target:= .collected D,args:= #[]})→Marks bs w ds→Marks bs (w.putObj D o) ds
 | [],_,_=>trivial
 |d::ds,hne,⟨⟨D',h1,h2,h3,h4⟩,k⟩=>by
  refine ⟨⟨D',h1,h2,?_,h4⟩,Marks.put (fun d' hd'=>hne d' (List.mem_cons_of_mem _ hd')) k⟩;rw [World.putObj_heap_other]
  ·exact h3
  ·rintro rfl;exact hne d (by simp) h1
theorem nJ {F:Fence} {n:Nat} {P:Program} {fn:Func} {tmps:Array Value} {R:Ending→World→Prop} {bs:Nat}: ∀ {ds:List Deferred} {w:World},Marks bs w ds→
  (∀w',rJ bs w w'→ ∃v,(results fn tmps).run P w'= .ok v w'∧R (.returned v) w')→LeavesInM F n P fn tmps R ds .returning w
 | [],w,_,h=>h w (rJ.refl bs w)
 |d::ds,w,⟨⟨D,h1,h2,h3,h4⟩,k⟩,h=>by
  subst h1;refine ⟨by simp,.inl ⟨D,w.putObj D (.deferred none),rfl,run_takeDeferred h3,nJ (Marks.put h4 k) fun w' hs=>h w' ((U6 h2 h3).trans hs)⟩⟩
def SH(tm:List SV):List Tmp→List SV→Option (List SV)
 | [],[]=>some tm
 |p::ps,s::ss=>SH (tm.set p s) ps ss
 |_,_=>none
theorem Ey {γ:Nm}: ∀ {ps:List Tmp} {ss:List SV} {tm tm':List SV} {l vs:List Value},SH tm ps ss=some tm'→ae (Has γ) tm l→ae (Has γ) ss vs→
  vs.length=ps.length∧ae (Has γ) tm' ((ps.zip vs).foldl (fun t (x:Tmp×Value)=>t.set x.1 x.2) l)
 | [],[],tm,tm',l,vs,h,ht,hv=>by
  cases h;rw [hv.aI];exact ⟨rfl,ht⟩
 |p::ps,s::ss,tm,tm',l,vs,h,ht,hv=>by
  obtain ⟨v,vs,rfl,h1,h2⟩:=hv.cons_inv;obtain ⟨e1,e2⟩:=Ey (ps:=ps) h (ht.set h1 p) h2;exact ⟨by simp [e1],e2⟩
 | [],_::_,_,_,_,_,h,_,_=>by cases h
 |_::_,[],_,_,_,_,h,_,_=>by cases h
theorem Jc: ∀ (l:List (Tmp×Value)) (t:Array Value),(l.foldl (fun tmps (x:Tmp×Value)=>tmps.setIfInBounds x.1 x.2) t).toList=l.foldl (fun t (x:Tmp×Value)=>t.set x.1 x.2) t.toList
 | [],t=>rfl
 |x::l,t=>by rw [List.foldl_cons,List.foldl_cons,Jc l,Array.toList_setIfInBounds]
def yB(G:Nat)(r:Loop)(X:St→(XE→St→Prop)→Prop)(k:SV→Mem→Prop)(e:XE)(σ1:St):Prop:=match e with
 | .normal=>match σ1.m[G]? with
  |some (some (.loop r1 0))=>r1=r∧X ⟨σ1.tm,σ1.m.set G (some (.loop r 1))⟩ fun e σ'=>match σ'.m[G]? with
   |some (some (.loop r'' 1))=>r''=r∧match e with
    | .normal=>k (lb true true) (σ'.m.set G (some (.loop r 0)))
    | .ret=>k (lb true false) (σ'.m.set G (some (.loop r 2)))
    | .exit id=>k (lb true false) (σ'.m.set G (some (.loop r (id+3))))
   |_=>False
  |_=>False
 |_=>False
def yH(tm0:List SV)(ps:List Tmp)(G l:Nat)(r:Loop)(Xa X:St→(XE→St→Prop)→Prop)(v:Value)(us:List SV)(m:Mem)(k:SV→Mem→Prop):Prop:=
 match v with
 | .func (.yield l') ⟨[]⟩ ⟨[]⟩=>l'=l∧match m[G]? with
  |some (some (.loop r' 0))=>r'=r∧match SH tm0 ps us with
   |some tm'=>Xa ⟨tm',m⟩ (yB G r X k)
   |none=>False
  |_=>False
 |_=>False
def ZD:XE→Exit
 | .normal=> .normal
 | .exit id=> .exit id
 | .ret=> .ret
def UY(C:Ctx)(γ:Nm)(c:Code)(X:St→(XE→St→Prop)→Prop):Prop:= ∀ (σ':St) (K':XE→St→Prop) (β:Nm) (a:Act) (w:World) (F:Fence) (d bs:Nat),Wd F→F.round.isSome=true→γ.le β→bs≤w.heap.size→X σ' K'→Fit bs σ' β a w→
 ∀Q:Exit→Act→World→Prop,(∀e a' w',Ends bs C σ'.m β w (K' e) a' w'→Q (ZD e) a' w')→c.wpIn F d C.P Q a w
theorem Tv {C:Ctx} {γ:Nm} {tm0:List SV} {ps:List Tmp} {G l:Nat} {r:Loop} {Xa X:St→(XE→St→Prop)→Prop}(hG:γ G=some l)(htm:ae (Has γ) tm0 r.tmps.toList)(hps:r.params=⟨ps⟩)
  (hXa:UY C γ r.assign Xa) (hX:UY C γ r.body X):Vy C (yH tm0 ps G l r Xa X) γ:=by
 intro v us m K vals w hy hs hus;unfold yH at hy;split at hy
 case h_2=>exact hy.elim
 rename_i l';obtain ⟨hl,hy⟩:=hy;subst l';split at hy
 ·rename_i r' hmG;obtain ⟨rfl,hy⟩:=hy;split at hy
  ·rename_i tm' htm';obtain ⟨a,ha,hB⟩:=hs.live hmG id;rw [hG] at ha;cases ha;have hheap:w.heap[l]? =some (.loop (ea r' 0)):=hB;obtain ⟨hlen,hset⟩:=Ey htm' htm hus;refine ⟨l,r'.fn,_,r'.assign,r'.body,rfl,run_yield (r:=ea r' 0) hheap (by show vals.length=r'.params.size;rw [hps,hlen];rfl),?_⟩
   intro F n hF;refine roundIn_of_wpIn (hF.fn _) (hXa _ _ γ _ _ (F.inRound l) n w.heap.size (hF.inRound l) rfl (Nm.le_refl γ) (Nat.le_refl _) hy ⟨?_,hs,?_⟩ _ ?_)
   ·have e1:((ea r' 0).params.zip (⟨vals⟩:Array Value))=⟨ps.zip vals⟩:=by
     show r'.params.zip _=_;rw [hps];simp
    show ae (Has γ) tm' _;rw [e1];have e2: ∀ (L:List (Tmp×Value)) (t:Array Value),((⟨L⟩:Array (Tmp×Value)).foldl (fun tmps x=>match x with|(t,a)=>tmps.setIfInBounds t a) t)=L.foldl (fun tmps (x:Tmp×Value)=>tmps.setIfInBounds x.1 x.2) t:=by
     intro L t;rw [List.foldl_toArray]
    simp only [e2,Jc];exact hset
   ·exact trivial
   ·rintro e a1 w1 ⟨σ1,β1,hf1,hsi0,hk1⟩;cases e with
    |exit id=>exact hk1.elim
    |ret=>exact hk1.elim
    |normal=>
     unfold yB at hk1;simp only at hk1;split at hk1
     ·rename_i r1 hmb;obtain ⟨rfl,hk1⟩:=hk1;have hG1:=hsi0.ext _ _ hG;obtain ⟨a2,ha2,hB2⟩:=hf1.sat.live hmb id;rw [hG1] at ha2;cases ha2;have hheap1:w1.heap[l]? =some (.loop (ea r1 0)):=hB2;have hturn:=pB w1 l (.loop (ea r1 1));have hs1:Sat β1 (σ1.m.set G (some (.loop r1 1))) (w1.putObj l (.loop (ea r1 1))):=hf1.sat.jd hmb trivial hG1 hturn (tK hheap1);have hi1:ai m γ w (σ1.m.set G (some (.loop r1 1))) β1 (w1.putObj l (.loop (ea r1 1))):=ai.trans hs hsi0 (cV hmb trivial hG1 hturn);have hsz:(w1.putObj l (.loop (ea r1 1))).heap.size=w1.heap.size:=by simp
      refine ⟨w1.putObj l (.loop (ea r1 1)),run_beginRound (r:=ea r1 0) hheap1 rfl,hX _ _ β1 _ _ (F.inRound l) n w.heap.size (hF.inRound l) rfl hsi0.ext (by rw [hsz];exact hsi0.size) hk1 ⟨hf1.tm,hs1,hf1.df.mono fun D hD=>?_⟩ _ ?_⟩
      ·rw [hturn.iy D (Array.getElem?_eq_some_iff.1 hD).1]
       ·exact hD
       ·rintro rfl;rw [hheap1] at hD;cases hD
      rintro e a' w' ⟨σ',β',hf',hsi,hk⟩;split at hk
      ·rename_i r'' hmG';obtain ⟨rfl,hk⟩:=hk;have hG':=hsi.ext _ _ hG1;obtain ⟨a2,ha2,hB2⟩:=hf'.sat.live hmG' id;rw [hG'] at ha2;cases ha2;have hheap':w'.heap[l]? =some (.loop (ea r'' 1)):=hB2;have fin: ∀ (jump:Option Code) (j:Nat),ea r'' j= {ea r'' 1 with state:=if jump.isNone then .ready else .done,pending:=jump}→K (lb true jump.isNone) (σ'.m.set G (some (.loop r'' j)))→
         ∃v w'',(Instr.endRound l jump).run C.P w'= .ok v w''∧ ∃γ' s m' r0,Ending.returned v= .returned r0∧Sat γ' m' w''∧ai m γ w m' γ' w''∧Has γ' s r0∧K s m':=by
        intro jump j hj hK;have ht:=pB w' l (.loop (ea r'' j));refine ⟨_,_,run_endRound jump hheap',β',lb true jump.isNone,_,_,rfl,?_,?_,.v (.one .bool),hK⟩
        ·rw [←hj];exact hf'.sat.jd hmG' trivial hG' ht (tK hheap')
        ·rw [←hj];exact ai.trans hs (ai.trans hs hi1 hsi) (cV hmG' trivial hG' ht)
       cases e with
       |normal=>exact fin none 0 rfl hk
       |ret=>exact fin (some .ret) 2 rfl hk
       |exit id=>exact fin (some (.exit id)) (id+3) rfl hk
      ·exact hk.elim
     ·exact hk1.elim
  ·exact hy.elim
 ·exact hy.elim
def OQ(P:Program)(σ:St):ResultVar→Option SV
 | .tmp t=>ev σ.tm (.tmp t)
 | .cell a t=>match ev σ.tm (.tmp a) with
  |some (.v (.one (.ptr x off)))=>match bP σ.m x with
   |some (.cells l _)=>match gA P t l off with
    |some v=>some (.v v)
    |none=>none
   |_=>none
  |_=>none
def YK(P:Program)(σ:St):List ResultVar→Option SV
 | [r]=>OQ P σ r
 |rs=>match omap (fun r=>(OQ P σ r).bind asV) rs with
  |some l=>some (.cz l)
  |none=>none
section
variable {bs:Nat} {C:Ctx} {σ:St} {β:Nm} {a:Act} {w:World}
theorem Js {P:Program} {m:Mem} {t:TypeId} {x off k:Nat} {l:List Lf} {e:TypeId} {v:Vv}(hs:Sat β m w)(hm:bP m x=some (.cells l e))(hk:β x=some k)(hp:gA P t l off=some v):
  ∃r,(loadVar t ⟨k,off,none⟩).run P w= .ok r w∧bC β v r:=by
 have hmb:m[x]? =some (some (.cells l e)):=by
  unfold bP at hm;split at hm
  ·cases hm;assumption
  ·cases hm
 obtain ⟨k',hk',vs,hob,hvs⟩:=hs.cells hmb;rw [hk] at hk';cases hk';have hcell: ∀i:Nat,w.cell? ⟨k,i,none⟩=vs[i]? :=fun i=>by simp [World.cell?,hob]
 unfold gA at hp;split at hp
 ·rename_i ha;split at hp
  ·rename_i n hn;split at hp
   ·rename_i hd;cases hp;have hlen:=of_decide_eq_true hd;have hl2:=hvs.length;have hload:(loadCells ⟨k,off,none⟩ n).run P w= .ok ((vs.drop off).take n).toArray w:=by
     have hln:((vs.drop off).take n).length=n:=by simp;omega
     have:=run_loadCells_list (P:=P) w ⟨k,off,none⟩ ((vs.drop off).take n) (fun j v hj=>by
      rw [aO,hcell];rw [List.getElem?_take] at hj;split at hj
      ·rw [List.getElem?_drop] at hj;exact hj
      ·cases hj)
     rw [hln] at this;exact this
    exact ⟨.agg ((vs.drop off).take n).toArray,by simp [loadVar,jy ha,ao hn,hload],.agg ((hvs.drop _).take _)⟩
   ·cases hp
  ·cases hp
 ·rename_i ha;split at hp
  ·rename_i y hy;cases hp;obtain ⟨u,hu,hyu⟩:=hvs.get hy;exact ⟨u,by simp [loadVar,jy ha,hcell,hu],.one hyu⟩
  ·cases hp
 ·cases hp
def TS(tmps:Array Value):ResultVar→Sem Value
 | .tmp t=>pure (tmps.getD t undef)
 | .cell a t=>do loadVar t (←Go.asAddr (tmps.getD a undef))
theorem Ji {P:Program}(hf:Fit bs σ β a w) {r:ResultVar} {s:SV}(h:OQ P σ r=some s): ∃v,(TS a.tmps r).run P w= .ok v w∧Has β s v:=by
 unfold OQ at h;unfold TS;split at h
 ·rename_i t;exact ⟨a.eval (.tmp t),rfl,bh hf.tm h⟩
 ·rename_i p t;split at h
  ·rename_i x off hx;have hv:=bh hf.tm hx;split at h
   ·rename_i l e hm;split at h
    ·rename_i v hp;cases h;cases hv with
     |v hv=>cases hv with
      |one hv=>
       generalize hq:a.eval (.tmp p)=q at hv;cases hv with
       |ptr hb=>
        rename_i k;obtain ⟨r,hr,hh⟩:=Js (P:=P) hf.sat hm hb hp;refine ⟨r,?_,.v hh⟩;have hq':a.tmps.getD p undef= .pointer (some ⟨k,off,none⟩):=hq;simp only [hq',Go.asAddr,Sem.run_bind,Sem.run_pure,Result.andThen_ok];exact hr
    ·cases h
   ·cases h
  ·cases h
theorem It {P:Program}(hf:Fit bs σ β a w): ∀ {rs:List ResultVar} {l:List Vv},omap (fun r=>(OQ P σ r).bind asV) rs=some l→ ∃vs,(rs.mapM (TS a.tmps)).run P w= .ok vs w∧ae (bC β) l vs
 | [],l,h=>by cases h;exact ⟨[],rfl,.nil⟩
 |r::rs,l,h=>by
  unfold omap at h;split at h
  ·cases h
  ·rename_i b hb;split at h
   ·cases h
   ·rename_i bs hbs;cases h;obtain ⟨s,hs,hsb⟩:=Option.bind_eq_some_iff.1 hb;obtain ⟨v,hv,hh⟩:=Ji (P:=P) hf hs;obtain ⟨vs,hvs,hhs⟩:=It hf hbs;refine ⟨v::vs,?_,.cons ?_ hhs⟩
    ·rw [List.mapM_cons];simp only [Sem.run_bind,hv,Result.andThen_ok,hvs,Sem.run_pure]
    ·cases s with
     |v x=>cases hsb;cases hh with
      |v hh=>exact hh
     |_=>cases hsb
theorem Vn {P:Program}(hf:Fit bs σ β a w) {fn:Func} {s:SV}(h:YK P σ fn.results.toList=some s): ∃v,(results fn a.tmps).run P w= .ok v w∧Has β s v:=by
 have hdef:results fn a.tmps=(do
  let vs ←fn.results.mapM (TS a.tmps)
  pure (if h:vs.size=1 then vs[0] else .tuple vs)):=by
  unfold results TS
  congr 1
 rw [hdef,Array.mapM_eq_mapM_toList];unfold YK at h;split at h
 ·rename_i r hr;obtain ⟨v,hv,hh⟩:=Ji (P:=P) hf h;refine ⟨v,?_,hh⟩;rw [hr];simp only [List.mapM_cons,List.mapM_nil,Sem.run_bind,Sem.run_map,hv,Result.andThen_ok,Sem.run_pure];rfl
 ·rename_i hne;split at h
  ·rename_i l hl;cases h;obtain ⟨vs,hvs,hhs⟩:=It (P:=P) hf hl;refine ⟨.tuple ⟨vs⟩,?_,.cz hhs⟩;simp only [Sem.run_bind,Sem.run_map,hvs,Result.andThen_ok,Sem.run_pure];have:vs.length≠1:=by
    have e1:=hhs.length;have e2: ∀ {rs:List ResultVar} {l:List Vv},omap (fun r=>(OQ P σ r).bind asV) rs=some l→l.length=rs.length:=by
     intro rs l h;have:=(c9 (g:=id) (R:=fun _ _=>True) (fun _ _ _=>trivial) h).length;simpa using this.symm
    have e3:=e2 hl;intro h1;have h4:fn.results.toList.length=1:=by omega
    obtain ⟨r,hr⟩:=List.length_eq_one_iff.1 h4;exact hne r hr
   rw [dif_neg (by simpa using this)]
  ·cases h
def fnK(P:Program)(rs:List ResultVar)(K:SV→Mem→Prop)(e:XE)(σ:St):Prop:=match e with
 | .exit _=>False
 |_=>match YK P σ rs with
  |some v=>K v σ.m
  |none=>False
theorem ru {f:FuncId} {fn:Func} {c:Code}(hfn:C.P.funcs[f]? =some fn)(hb:fn.body=some c) {args:List SV} {vals:List Value} {m:Mem} {K:SV→Mem→Prop}(hargs:ae (Has β) args vals)(hs:Sat β m w)
  (hw: ∀a:Act,Fit w.heap.size ⟨args++List.replicate (fn.ntmps-args.length) (.cz []),m⟩ β a w→ ∀Q:Exit→Act→World→Prop,(∀e a' w',Ends w.heap.size C m β w (fnK C.P fn.results.toList K e) a' w'→Q (ZD e) a' w')→c.wpIn Fence.wide 0 C.P Q a w):
  Calls C.P f ⟨vals⟩ w fun e w'=> ∃β' v m' r,Sat β' m' w'∧ai m β w m' β' w'∧e= .returned r∧Has β' v r∧K v m':=by
 have hrep: ∀n,ae (Has β) (List.replicate n (SV.cz [])) (List.replicate n undef):=by
  intro n
  induction n with
  |zero=>exact .nil
  |succ n ih=>exact .cons (.cz .nil) ih
 refine Fl.So (n:=0) (callsIn_of_wp_marks hfn hb trivial ?_);refine hw _ ⟨?_,hs,?_⟩ _ ?_
 rotate_left
 ·exact trivial
 rotate_left
 ·show ae (Has β) _ (({toList:=vals}:Array Value)++Array.replicate (fn.ntmps-vals.length) undef).toList;have e:(({toList:=vals}:Array Value)++Array.replicate (fn.ntmps-vals.length) undef).toList=vals++List.replicate (fn.ntmps-args.length) undef:=by
   rw [hargs.length];simp
  rw [e];exact hargs.append (hrep _)
 ·rintro e a' w' ⟨σ',β',hf',hsin,hk⟩;have fin: ∀ {s:SV},YK C.P σ' fn.results.toList=some s→K s σ'.m→LeavesInM Fence.wide 0 C.P fn a'.tmps (fun e w'=> ∃β' v' m' r,Sat β' m' w'∧ai m β w m' β' w'∧e= .returned r∧Has β' v' r∧K v' m') a'.defers .returning w':=by
   intro s hr hk;refine nJ hf'.df fun w3 hsh=>?_;have hf3:Fit 0 σ' β' ⟨a'.tmps,[]⟩ w3:=⟨hf'.tm,hsh.sat hf'.sat,trivial⟩;obtain ⟨v,hv,hh⟩:=Vn (P:=C.P) (fn:=fn) hf3 hr;exact ⟨v,hv,β',s,σ'.m,v,hf3.sat,hsh.since (Nat.le_refl _) hsin,rfl,hh,hk⟩
  cases e with
  |exit id=>exact hk.elim
  |normal=>
   unfold fnK at hk;simp only at hk;split at hk
   ·rename_i v hr;exact fin hr hk
   ·exact hk.elim
  |ret=>
   unfold fnK at hk;simp only at hk;split at hk
   ·rename_i v hr;exact fin hr hk
   ·exact hk.elim
end
end Go.Proofs.YtfdmjoddhjmokaaGreatDoor.Rex
namespace Go.Proofs.YtfdmjoddhjmokaaGreatDoor.Rex
open Go.RowKit
set_option linter.unusedVariables false
set_option linter.unusedSimpArgs false
def St.yh(σ:St)(c:Operand)(b:Bool):St:=match c with
 | .tmp d=>⟨σ.tm.set d (lb true b),σ.m⟩
 |_=>σ
theorem Fit.a0f {bs:Nat} {σ:St} {β:Nm} {a:Act} {w:World}(hf:Fit bs σ β a w) {c:Operand} {b:Bool}(h:a.eval c= .bool b):Fit bs (σ.yh c b) β a w:=by
 unfold St.yh;split
 ·rename_i d;refine hf.yh ?_;have h':a.tmps.getD d undef= .bool b:=h;cases hq:a.tmps[d]? with
  |none=>simp [hq,undef] at h'
  |some v=>simp [hq] at h';rw [h']
 ·exact hf
theorem St.W0(σ:St)(c:Operand)(b:Bool):(σ.yh c b).m=σ.m:=by
 unfold St.yh;split<;>rfl
def a3w(p:Nat→Prop):Nat→Prop
 |0=>p 0
 |n+1=>a3w p n∧p (n+1)
theorem Dx {p:Nat→Prop}: ∀ {n i:Nat},a3w p n→i≤n→p i
 |0,i,h,hi=>by
  obtain rfl:i=0:=by omega
  exact h
 |n+1,i,h,hi=>by
  by_cases e:i=n+1
  ·subst e;exact h.2
  ·exact Dx h.1 (by omega)
def rfK(σ:St)(K:XE→St→Prop)(e:XE)(σI:St):Prop:=match e with
 | .exit _=>False
 |_=>match σI.m[σ.m.length]? with
  |some (some (.loop _ j))=>match j with
   |0=>K .normal ⟨σ.tm,σI.m.set σ.m.length none⟩
   |1=>False
   |2=>K .ret ⟨σ.tm,σI.m.set σ.m.length none⟩
   |n+3=>K (.exit n) ⟨σ.tm,σI.m.set σ.m.length none⟩
  |_=>False
def rfQ(C:Ctx)(σ:St)(g:Operand):Option (FuncId×Code×Nat×List Lf):=match C.rd with
 |true=>none
 |false=>match C.Y with
  |some _=>none
  |none=>match ev σ.tm g with
   |some (.lO f caps)=>match C.P.funcs[f]? with
    |some fn=>match fn.name== "runtime.NumGoroutine" with
     |true=>none
     |false=>match fn.body with
      |some c=>match fn.results.toList with
       | []=>some (f,c,fn.ntmps,caps)
       |_=>none
      |none=>none
    |none=>none
   |_=>none
theorem T0 {C:Ctx} {σ:St} {g:Operand} {f:FuncId} {c:Code} {nt:Nat} {caps:List Lf}(h:rfQ C σ g=some (f,c,nt,caps)):
  ∃fn,C.rd=false∧C.Y=none∧ev σ.tm g=some (.lO f caps)∧C.P.funcs[f]? =some fn∧(fn.name== "runtime.NumGoroutine")=false∧fn.body=some c∧fn.results= #[]∧nt=fn.ntmps:=by
 unfold rfQ at h;split at h
 ·cases h
 ·rename_i h1;split at h
  ·cases h
  ·rename_i h2;split at h
   ·rename_i f' caps' h3;split at h
    ·rename_i fn h4;split at h
     ·cases h
     ·rename_i h5;split at h
      ·rename_i c' h6;split at h
       ·rename_i h7;cases h;exact ⟨fn,h1,h2,h3,h4,h5,h6,by rw [←Array.toArray_toList (xs:=fn.results),h7],rfl⟩
       ·cases h
      ·cases h
    ·cases h
   ·cases h
theorem Marks.lt {bs:Nat} {w:World}: ∀ {ds:List Deferred},Marks bs w ds→ ∀d∈ds,∃D,d= {target:= .collected D,args:= #[]}∧D<w.heap.size
 | [],_,d,hd=>by simp at hd
 |e::ds,⟨⟨D,h1,h2,h3,h4⟩,k⟩,d,hd=>by
  rcases List.mem_cons.1 hd with rfl|hd
  ·exact ⟨D,h1,(Array.getElem?_eq_some_iff.1 h3).1⟩
  ·exact Marks.lt k d hd
theorem Ad {C:Ctx}(h:C.Y=none)(β:Nm):KC C β:=fun y hy=>by rw [h] at hy;cases hy
def rfI(l n:Nat)(caps:List Lf):List SV:=(.v (.one (.op (.func (.yield l) #[] #[])))::caps.map fun x=> .v (.one x))++List.replicate (n-(1+caps.length)) (.cz [])
def a3s:List SV→List SV→List SV
 | .v (.one (.op v))::l,t::m=> .v (.one (.op v))::a3s l m
 |_::l,t::m=>t::a3s l m
 |_,m=>m
def a3J:Mem→Mem→Mem
 |some (.loop r j)::l,t::m=>some (.loop r j)::a3J l m
 |_::l,t::m=>t::a3J l m
 |_,m=>m
def nn(C:Ctx)(σ τ:St):St:=match C.Y with
 |none=>τ
 |some _=>⟨a3s σ.tm τ.tm,a3J σ.m τ.m⟩
def inQ(C:Ctx)(f:FuncId):Option (Code×List ResultVar×Nat):=match rh f C.N with
 |true=>none
 |false=>match C.P.funcs[f]? with
  |some fn=>match fn.name== "runtime.NumGoroutine" with
   |true=>none
   |false=>match fn.body with
    |some c=>some (c,fn.results.toList,fn.ntmps)
    |none=>none
  |none=>none
theorem V4 {C:Ctx} {f:FuncId} {c:Code} {rs:List ResultVar} {nt:Nat}(h:inQ C f=some (c,rs,nt)): ∃fn,C.P.funcs[f]? =some fn∧(fn.name== "runtime.NumGoroutine")=false∧fn.body=some c∧rs=fn.results.toList∧nt=fn.ntmps:=by
 unfold inQ at h;split at h
 ·cases h
 ·split at h
  ·rename_i fn h4;split at h
   ·cases h
   ·rename_i h5;split at h
    ·rename_i c' h6;cases h;exact ⟨fn,h4,h5,h6,rfl,rfl⟩
    ·cases h
  ·cases h
def inC(C:Ctx)(X:FuncId→Code→List ResultVar→Nat→List SV→Mem→(SV→Mem→Prop)→Prop):Ctx:=⟨C.M,C.P,C.Γ,C.Δ,C.B,C.Y,C.rd,C.N,match C.N with
 | []=>none
 |_=>some fun f us m K=>match inQ C f with
  |some (c,rs,nt)=>X f c rs nt us m K
  |none=>False⟩
def BO:Code→Option Nat
 | .region id _ _=>some id
 | .seq x _=>BO x
 | .scope x=>BO x
 | .block _ x=>BO x
 | .loop x=>BO x
 |_=>none
def a7Z(L:Nat→Option LS)(y:Code):Option LS:=match BO y with
 |some r=>L (500000+r)
 |none=>none
def BB(L:Nat→Option LS):Code→Option (List Code×Code×LS)
 | .seq a b=>match a7Z L (.seq a b) with
  |some l=>some ([],.seq a b,l)
  |none=>match BB L b with
   |some (ps,y,l)=>some (a::ps,y,l)
   |none=>none
 |c=>match a7Z L c with
  |some l=>some ([],c,l)
  |none=>none
def mkSeq:List Code→Code→Code
 | [],y=>y
 |p::ps,y=> .seq p (mkSeq ps y)
theorem I6 {L:Nat→Option LS}: ∀ {c:Code} {ps:List Code} {y:Code} {l:LS},BB L c=some (ps,y,l)→c=mkSeq ps y:=by
 intro c
 induction c with
 |seq a b _ ih=>
  intro ps y l h;unfold BB at h;split at h
  ·cases h;rfl
  ·split at h
   ·rename_i h2;cases h;rw [ih h2];rfl
   ·cases h
 |_=>
  intro ps y l h;unfold BB at h;split at h
  ·cases h;rfl
  ·cases h
def a1T(X:Code→St→(XE→St→Prop)→Prop):List Code→St→(XE→St→Prop)→Prop
 | [],σ,K=>K .normal σ
 |c::cs,σ,K=>X c σ fun e σ'=>match e with
  | .normal=>a1T X cs σ' K
  |e=>K e σ'
def hsL:List SV→List Nat
 | []=> []
 | .v (.one (.ptr x _))::l=>x::hsL l
 |_::l=>hsL l
def acZ(σ:St):List Nat:=hsL σ.tm
def WL(n:Nat)(K:Nat→Prop):Prop:=match n with
 |0=>K 0
 |m+1=>K (m+1)
theorem Kj(n:Nat)(K:Nat→Prop):WL n K=K n:=by cases n<;>rfl
def fcB(n:Bool)(K:Bool→Prop):Prop:=match n with
 |true=>K true
 |false=>K false
theorem UO(n:Bool)(K:Bool→Prop):fcB n K=K n:=by cases n<;>rfl
def fcF(x:Lf)(K:Lf→Prop):Prop:=match x with
 | .int k kn n=>fcB kn fun kn=>K (.int k kn n)
 | .bool kn b=>fcB kn fun kn=>K (.bool kn b)
 | .ptr x o=>WL x fun x=>K (.ptr x o)
 | .cb=>K .cb
 | .sl x o kn n c=>WL x fun x=>K (.sl x o kn n c)
 | .aj=>K .aj
 | .op v=>K (.op v)
 | .bX=>K .bX
 | .rs z tg x base sz o n c=>WL x fun x=>K (.rs z tg x base sz o n c)
 | .rp x base sz i f=>WL x fun x=>K (.rp x base sz i f)
 | .gv sh v xs=>K (.gv sh v xs)
 | .imp sh v xs i f=>K (.imp sh v xs i f)
 | .mp x=>WL x fun x=>K (.mp x)
 | .xW t x o=>WL x fun x=>K (.xW t x o)
theorem Ug(x:Lf)(K:Lf→Prop):fcF x K=K x:=by cases x<;>simp only [fcF,UO,Kj]
def fcL:List Lf→(List Lf→Prop)→Prop
 | [],K=>K []
 |x::l,K=>fcF x fun x=>fcL l fun l=>K (x::l)
theorem Fp: ∀ (l:List Lf) (K:List Lf→Prop),fcL l K=K l
 | [],K=>rfl
 |x::l,K=>by unfold fcL;rw [Ug,Fp l]
def fcV(x:Vv)(K:Vv→Prop):Prop:=match x with
 | .one l=>fcF l fun l=>K (.one l)
 | .agg l=>fcL l fun l=>K (.agg l)
theorem Sb(x:Vv)(K:Vv→Prop):fcV x K=K x:=by cases x<;>simp only [fcV,Ug,Fp]
def Y8:List Vv→(List Vv→Prop)→Prop
 | [],K=>K []
 |x::l,K=>fcV x fun x=>Y8 l fun l=>K (x::l)
theorem NO: ∀ (l:List Vv) (K:List Vv→Prop),Y8 l K=K l
 | [],K=>rfl
 |x::l,K=>by unfold Y8;rw [Sb,NO l]
def a4b(x:SV)(K:SV→Prop):Prop:=match x with
 | .v l=>fcV l fun l=>K (.v l)
 | .cz l=>Y8 l fun l=>K (.cz l)
 | .lO f l=>fcL l fun l=>K (.lO f l)
 | .xX n t x o=>WL x fun x=>K (.xX n t x o)
 | .bX=>K .bX
theorem Yf(x:SV)(K:SV→Prop):a4b x K=K x:=by cases x<;>simp only [a4b,Sb,NO,Fp,Kj]
def fcT:List SV→(List SV→Prop)→Prop
 | [],K=>K []
 |x::l,K=>a4b x fun x=>fcT l fun l=>K (x::l)
theorem SU: ∀ (l:List SV) (K:List SV→Prop),fcT l K=K l
 | [],K=>rfl
 |x::l,K=>by unfold fcT;rw [Yf,SU l]
def fcK(x:Option bG)(K:Option bG→Prop):Prop:=match x with
 |none=>K none
 |some b=>match b with
  | .cells l t=>fcL l fun l=>K (some (.cells l t))
  | .rows ro z sh xs base tot t=>fcB ro fun ro=>K (some (.rows ro z sh xs base tot t))
  | .loop r j=>WL j fun j=>K (some (.loop r j))
  | .map ks ka vs va es clk=>fcB ka fun ka=>fcB va fun va=>K (some (.map ks ka vs va es clk))
  | .it x since seen last=>WL x fun x=>K (some (.it x since seen last))
theorem a24(x:Option bG)(K:Option bG→Prop):fcK x K=K x:=by
 cases x with
 |none=>rfl
 |some b=>cases b<;>simp only [fcK,Fp,UO,Kj]
def fcM:Mem→(Mem→Prop)→Prop
 | [],K=>K []
 |x::l,K=>fcK x fun x=>fcM l fun l=>K (x::l)
theorem SY: ∀ (l:Mem) (K:Mem→Prop),fcM l K=K l
 | [],K=>rfl
 |x::l,K=>by unfold fcM;rw [a24,SY l]
def ZV(σ:St)(K:St→Prop):Prop:=fcT σ.tm fun tm=>fcM σ.m fun m=>K ⟨tm,m⟩
theorem FA(σ:St)(K:St→Prop):ZV σ K=K σ:=by unfold ZV;rw [SU,SY]
theorem Fit.a74 {bs:Nat} {σ:St} {β:Nm} {a:Act} {w:World}(hf:Fit bs σ β a w) {d:Nat} {k:IntKind} {b:Bool} {x:Int}(h:σ.tm[d]? =some (.v (.one (.int k b x)))):Fit bs ⟨σ.tm.set d (.v (.one (.int k true x))),σ.m⟩ β a w:=by
 have hv:=bh (x:= .tmp d) (s:= .v (.one (.int k b x))) hf.tm (by simp [ev,h])
 have hb:a.eval (.tmp d)= .int k x:=by
  cases hv with
  |v hv=>cases hv with
   |one hv=>generalize a.eval (.tmp d)=q at hv ⊢;cases hv;rfl
 have h':a.tmps.getD d undef= .int k x:=hb;have h2:a.tmps[d]? =some (.int k x):=by
  cases hq:a.tmps[d]? with
  |none=>simp [hq,undef] at h'
  |some v=>simp [hq] at h';rw [h']
 refine ⟨?_,hf.sat,hf.df⟩;have:=hf.tm.set (a:= .v (.one (.int k true x))) (b:=Value.int k x) (.v (.one .int)) d;have e:a.tmps.toList.set d (.int k x)=a.tmps.toList:=by
  apply List.ext_getElem?;intro y;rw [List.getElem?_set];split
  ·rename_i e1;subst e1;split
   ·simpa using h2.symm
   ·rename_i hlt;simp at hlt;rw [Array.getElem?_eq_none hlt] at h2;cases h2
  ·rfl
 rw [e] at this;exact this
def knG:List SV→Nat→St→(St→Prop)→Prop
 | [],_,σ,K=>K σ
 | .v (.one (.ptr n _))::l,j,σ,K=>match σ.tm[j]? with
  |some (.v (.one (.int k false x)))=>(0≤x∧x<(n:Int))∧Y4 (fun i=>x=(i:Int)→knG l (j+1) ⟨σ.tm.set j (.v (.one (.int k true (i:Int)))),σ.m⟩ K) n
  |_=>knG l (j+1) σ K
 |_::l,j,σ,K=>knG l (j+1) σ K
theorem Vg {bs:Nat} {β:Nm} {a:Act} {w:World} {K:St→Prop}: ∀ (l:List SV) (j:Nat) (σ:St),knG l j σ K→Fit bs σ β a w→ ∃tm',Fit bs ⟨tm',σ.m⟩ β a w∧K ⟨tm',σ.m⟩:=by
 intro l j σ h hf
 fun_induction knG l j σ K with
 |case1 j σ=>exact ⟨σ.tm,hf,h⟩
 |case2 j σ K n o l k x hq ih=>
  obtain ⟨⟨h0,h1⟩,h2⟩:=h;obtain ⟨i,rfl⟩:=Int.eq_ofNat_of_zero_le h0;exact ih i (vO h2 (by omega) rfl) (hf.a74 hq)
 |case3=>rename_i ih;exact ih h hf
 |case4=>rename_i ih;exact ih h hf
def knQ(L:Nat→Option LS)(rid:Nat)(σ:St)(K:St→Prop):Prop:=match L (600000+rid) with
 |none=>K σ
 |some l=>knG (l.st l.init).tm 0 σ K
theorem Vk {bs:Nat} {β:Nm} {a:Act} {w:World} {K:St→Prop} {L:Nat→Option LS} {rid:Nat} {σ:St}(h:knQ L rid σ K)(hf:Fit bs σ β a w): ∃tm',Fit bs ⟨tm',σ.m⟩ β a w∧K ⟨tm',σ.m⟩:=by
 unfold knQ at h;split at h
 ·exact ⟨σ.tm,hf,h⟩
 ·exact Vg _ _ _ h hf
def xc(C:Ctx)(L:Nat→Option LS)(k:Nat):Nat→Nat→Code→St→(XE→St→Prop)→Prop
 |0,_,_,_,_=>False
 |n+1,bk,c,σ,K=>match c with
  | .skip=>K .normal σ
  | .label _=>K .normal σ
  | .ret=>K .ret σ
  | .exit id=>K (.exit id) σ
  | .seq x y=>match BB L y with
   |none=>xc C L k n bk x σ fun e σ'=>match e with
    | .normal=>xc C L k n bk y σ' K
    |e=>K e σ'
   |some (ps,y2,l)=>(a1T (xc C L k n bk) (x::ps) σ fun e σ'=>match e with
    | .normal=>ZV σ' fun σ'=> ∃s,ye k σ' (nn C σ (l.st s))∧WU l σ s
    |e=>K e σ')∧ ∀s,WU l σ s→xc C L k n bk y2 (nn C σ (l.st s)) K
  | .cond c x y=>match ev σ.tm c with
   |some (.v (.one (.bool kn t)))=>match kn with
    |true=>match t with
     |true=>xc C L k n bk x σ K
     |false=>xc C L k n bk y σ K
    |false=>ZV σ fun σ=>(t=true→xc C L k n bk x (σ.yh c true) K)∧(t=false→xc C L k n bk y (σ.yh c false) K)
   |_=>False
  | .block id body=>xc C L k n id body σ fun e σ'=>match e with
   | .exit j=>match Nat.beq j id with
    |true=>K .normal σ'
    |false=>K (.exit j) σ'
   |e=>K e σ'
  | .scope body=>xc C L k n bk body σ K
  | .region rid ops draw=>knQ L rid σ fun σ=>match draw with
   |false=>oV (inC C (fun f c rs nt us m K'=>xc ⟨C.M,C.P,C.Γ,C.Δ,C.B,none,false,C.N,none⟩ (fun b=>L (1000000*(f+1)+b)) m.length n 0 c ⟨us++List.replicate (nt-us.length) (.cz []),m⟩ (fnK C.P rs K'))) ops.toList ops.toList σ (K .normal)
   |true=>match L (700000+rid) with
    |none=>J3 (inC C (fun f c rs nt us m K'=>xc ⟨C.M,C.P,C.Γ,C.Δ,C.B,none,false,C.N,none⟩ (fun b=>L (1000000*(f+1)+b)) m.length n 0 c ⟨us++List.replicate (nt-us.length) (.cz []),m⟩ (fnK C.P rs K'))) ops.toList σ (K .normal) 60 []
    |some lh=>match !C.rd&&Region.noSelect ops with
     |false=>False
     |true=>DO (inC C (fun f c rs nt us m K'=>xc ⟨C.M,C.P,C.Γ,C.Δ,C.B,none,false,C.N,none⟩ (fun b=>L (1000000*(f+1)+b)) m.length n 0 c ⟨us++List.replicate (nt-us.length) (.cz []),m⟩ (fnK C.P rs K'))) σ.m (acZ (lh.st lh.init)) ops.toList (K .normal) (ops.toList.length+1) (Array.replicate ops.toList.length false) σ
  | .loop body=>match L bk with
   |none=>xc C L k n bk body σ fun e σ'=>match e with
    | .normal=>xc C L k n bk (.loop body) σ' K
    |e=>K e σ'
   |some l=>match l.fin with
    |none=>(match l.ex with
     |false=>ye k σ (nn C σ (l.st l.init))∧WU l σ l.init
     |true=>ZV σ fun σ'=> ∃s,ye k σ' (nn C σ' (l.st s))∧WU l σ' s)∧ ∀s,WU l σ s→xc C L k n bk body (nn C σ (l.st s)) fun e σ'=>match e with
     | .normal=>ZV σ' fun σ'=> ∃s',(ye k σ' (nn C σ (l.st s'))∧WU l σ s')∧l.mu s'<l.mu s
     |e=>K e σ'
    |some (m,g)=>(ye k σ (nn C σ (g 0))∧l.inv 0)∧a3w (fun i=>l.inv i→xc C L k n bk body (nn C σ (g i)) fun e σ'=>match e with
     | .normal=>oy (Nat.ble (i+1) m) (ye k σ' (nn C σ (g (i+1)))∧l.inv (i+1))
     |e=>K e σ') m
  | .rangeFunc g ps assign body=>match rfQ C σ g with
   |some (f,cf,nt,caps)=> ∀ (l:Nat) (r:Loop),xc ⟨C.M,C.P,C.Γ,C.Δ,C.B,some (yH σ.tm ps.toList σ.m.length l r (fun σ' K'=>xc ⟨C.M,C.P,C.Γ,C.Δ,C.B,none,true,C.N,none⟩ L σ'.m.length n bk assign σ' K') (fun σ' K'=>xc ⟨C.M,C.P,C.Γ,C.Δ,C.B,none,true,C.N,none⟩ L σ'.m.length n bk body σ' K')),false,C.N,none⟩
     (fun b=>L (1000+b)) (σ.m.length+1) n 0 cf ⟨rfI l nt caps,σ.m++ [some (.loop r 0)]⟩ (rfK σ K)
   |none=>False
  |_=>False
theorem A6 {C:Ctx} {m0:Mem} {β0:Nm} {w0:World} {F:Fence} {d bs k:Nat} {L:Nat→Option LS} {n bk:Nat} {y2:Code}
  (hx: ∀ (c:Code) (σ:St) (K:XE→St→Prop) (β:Nm) (a:Act) (w:World),xc C L k n bk c σ K→Fit bs σ β a w→ai m0 β0 w0 σ.m β w→
   ∀Q:Exit→Act→World→Prop,(∀e a' w',Ends bs C m0 β0 w0 (K e) a' w'→Q (ZD e) a' w')→c.wpIn F d C.P Q a w):
  ∀ (ps:List Code) (x:Code) (σ:St) (β:Nm) (a:Act) (w:World) (K:XE→St→Prop),a1T (xc C L k n bk) (x::ps) σ K→Fit bs σ β a w→ai m0 β0 w0 σ.m β w→
   ∀Q:Exit→Act→World→Prop,(∀ (σ':St) (β':Nm) (a':Act) (w':World),Fit bs σ' β' a' w'→ai m0 β0 w0 σ'.m β' w'→K .normal σ'→y2.wpIn F d C.P Q a' w')→
   (∀e,e≠ .normal→ ∀a' w',Ends bs C m0 β0 w0 (K e) a' w'→Q (ZD e) a' w')→(Code.seq x (mkSeq ps y2)).wpIn F d C.P Q a w
 | [],x,σ,β,a,w,K,h,hf,hsi,Q,hN,hE=>by
  refine wpIn_seq (hx x σ _ β a w h hf hsi _ ?_);rintro e a' w' ⟨σ',β',hf',hs,hk⟩;cases e with
  |normal=>exact hN σ' β' a' w' hf' hs hk
  |exit id=>exact hE (.exit id) (by simp) a' w' ⟨σ',β',hf',hs,hk⟩
  |ret=>exact hE .ret (by simp) a' w' ⟨σ',β',hf',hs,hk⟩
 |p::ps,x,σ,β,a,w,K,h,hf,hsi,Q,hN,hE=>by
  refine wpIn_seq (hx x σ _ β a w h hf hsi _ ?_);rintro e a' w' ⟨σ',β',hf',hs,hk⟩;cases e with
  |normal=>exact A6 hx ps p σ' β' a' w' K hk hf' hs Q hN hE
  |exit id=>exact hE (.exit id) (by simp) a' w' ⟨σ',β',hf',hs,hk⟩
  |ret=>exact hE .ret (by simp) a' w' ⟨σ',β',hf',hs,hk⟩
mutual
theorem HS: ∀ (n:Nat) {C:Ctx} (hC:C.Ok) {m0:Mem} {β0:Nm} {w0:World} {F:Fence} {d bs:Nat} {L:Nat→Option LS} (hs0:Sat β0 m0 w0) (hbs:bs≤w0.heap.size) (hF:Wd F) (hrd:C.rd=false→F.round=none) (hY:KC C β0) (bk:Nat) (c:Code) (σ:St) (K:XE→St→Prop) (β:Nm) (a:Act) (w:World),L bk=none→xc C L m0.length n bk (.loop c) σ K→Fit bs σ β a w→ai m0 β0 w0 σ.m β w→
  ∀Q:Exit→Act→World→Prop,(∀e a' w',Ends bs C m0 β0 w0 (K e) a' w'→Q (ZD e) a' w')→Code.roundsIn F d C.P c Q n a w
 |0,_,_,_,_,_,_,_,_,_,_,_,_,_,_,_,_,_,_,_,_,_,_,h,_,_,_,_=>h.elim
 |n+1,C,hC,m0,β0,w0,F,d,bs,L,hs0,hbs,hF,hrd,hY,bk,body,σ,K,β,a,w,hn,h,hf,hsi,Q,hQ=>by
  unfold xc at h;simp only [hn] at h;rw [roundsIn_succ];refine c7 n hC hs0 hbs hF hrd hY bk body σ _ β a w h hf hsi _ ?_;rintro e a' w' ⟨σ',β',hf',hs,hk⟩;cases e with
  |normal=>exact HS n hC hs0 hbs hF hrd hY bk body σ' K β' a' w' hn hk hf' hs Q hQ
  |exit id=>exact hQ (.exit id) a' w' ⟨σ',β',hf',hs,hk⟩
  |ret=>exact hQ .ret a' w' ⟨σ',β',hf',hs,hk⟩
theorem c7: ∀ (n:Nat) {C:Ctx} (hC:C.Ok) {m0:Mem} {β0:Nm} {w0:World} {F:Fence} {d bs:Nat} {L:Nat→Option LS} (hs0:Sat β0 m0 w0) (hbs:bs≤w0.heap.size) (hF:Wd F) (hrd:C.rd=false→F.round=none) (hY:KC C β0) (bk:Nat) (c:Code) (σ:St) (K:XE→St→Prop) (β:Nm) (a:Act) (w:World),xc C L m0.length n bk c σ K→Fit bs σ β a w→ai m0 β0 w0 σ.m β w→
  ∀Q:Exit→Act→World→Prop,(∀e a' w',Ends bs C m0 β0 w0 (K e) a' w'→Q (ZD e) a' w')→c.wpIn F d C.P Q a w
 |0,_,_,_,_,_,_,_,_,_,_,_,_,_,_,_,_,_,_,_,_,_,h,_,_,_,_=>h.elim
 |n+1,C,hC,m0,β0,w0,F,d,bs,L,hs0,hbs,hF,hrd,hY,bk,c,σ,K,β,a,w,h,hf,hsi,Q,hQ=>by
  have here: ∀e,K e σ→Q (ZD e) a w:=fun e hk=>hQ e a w ⟨σ,β,hf,hsi,hk⟩;have next: ∀ {K':St→Prop} {a':Act} {w':World},Ends bs C σ.m β w K' a' w'→Ends bs C m0 β0 w0 K' a' w':=by
   rintro K' a' w' ⟨σ2,β2,e1,e2,e3⟩;exact ⟨σ2,β2,e1,ai.trans hs0 hsi e2,e3⟩
  unfold xc at h;split at h
  case h_1=>exact wpIn_skip (here .normal h)
  case h_2=>exact wpIn_label (here .normal h)
  case h_3=>exact wpIn_ret (here .ret h)
  case h_4 id=>exact wpIn_exit (here (.exit id) h)
  case h_5 x y=>
   split at h
   ·refine wpIn_seq (c7 n hC hs0 hbs hF hrd hY bk x σ _ β a w h hf hsi _ ?_);rintro e a' w' ⟨σ',β',hf',hs,hk⟩;cases e with
    |normal=>exact c7 n hC hs0 hbs hF hrd hY bk y σ' K β' a' w' hk hf' hs Q hQ
    |exit id=>exact hQ (.exit id) a' w' ⟨σ',β',hf',hs,hk⟩
    |ret=>exact hQ .ret a' w' ⟨σ',β',hf',hs,hk⟩
   ·rename_i ps y2 l hsp;obtain ⟨h1,h2⟩:=h;have hy:=I6 hsp;subst hy;clear hsp;refine A6 (C:=C) (L:=L) (m0:=m0) (k:=m0.length) (fun c σ K β a w h hf hsi Q hQ=>c7 n hC hs0 hbs hF hrd hY bk c σ K β a w h hf hsi Q hQ) ps x σ β a w _ h1 hf hsi Q ?_ ?_
    ·rintro σ' β' a' w' hf' hs hk;have hk:ZV σ' fun σ'=> ∃s,ye m0.length σ' (nn C σ (l.st s))∧WU l σ s:=hk;rw [FA] at hk;obtain ⟨s,k1,k2⟩:=hk;obtain ⟨β2,hf2,hsi2⟩:=hf'.le rfl hs0 hs k1;exact c7 n hC hs0 hbs hF hrd hY bk y2 (nn C σ (l.st s)) K β2 a' w' (h2 s k2) hf2 hsi2 Q hQ
    ·intro e he a' w' hk;cases e with
     |normal=>exact absurd rfl he
     |exit id=>exact hQ (.exit id) a' w' hk
     |ret=>exact hQ .ret a' w' hk
  case h_6 c x y=>
   split at h
   ·rename_i kn t hc;have hv:=bh hf.tm hc;have hb:a.eval c= .bool t:=by
     cases hv with
     |v hv=>cases hv with
      |one hv=>generalize a.eval c=q at hv ⊢;cases hv;rfl
    split at h
    ·split at h
     ·exact wpIn_cond_true hb (c7 n hC hs0 hbs hF hrd hY bk x σ K β a w h hf hsi Q hQ)
     ·exact wpIn_cond_false hb (c7 n hC hs0 hbs hF hrd hY bk y σ K β a w h hf hsi Q hQ)
    ·rw [FA] at h;exact wpIn_cond_split hb (fun e=>c7 n hC hs0 hbs hF hrd hY bk x _ K β a w (h.1 e) (hf.a0f (by rw [hb,e])) (by rw [St.W0];exact hsi) Q hQ) (fun e=>c7 n hC hs0 hbs hF hrd hY bk y _ K β a w (h.2 e) (hf.a0f (by rw [hb,e])) (by rw [St.W0];exact hsi) Q hQ)
   ·exact h.elim
  case h_7 id body=>
   refine wpIn_block (c7 n hC hs0 hbs hF hrd hY id body σ _ β a w h hf hsi _ ?_);rintro e a' w' ⟨σ',β',hf',hs,hk⟩;cases e with
   |normal=>exact hQ .normal a' w' ⟨σ',β',hf',hs,hk⟩
   |exit j=>
    show (if j=id then Q .normal a' w' else Q (.exit j) a' w');simp only at hk;split at hk
    ·rename_i e;rw [if_pos (Nat.eq_of_beq_eq_true e)];exact hQ .normal a' w' ⟨σ',β',hf',hs,hk⟩
    ·rename_i e;rw [if_neg (Nat.ne_of_beq_eq_false e)];exact hQ (.exit j) a' w' ⟨σ',β',hf',hs,hk⟩
   |ret=>exact hQ .ret a' w' ⟨σ',β',hf',hs,hk⟩
  case h_8 body=>
   refine r9 (c7 n hC hs0 hbs hF hrd hY bk body σ K β a w h hf hsi _ ?_);intro e a' w' he;cases e<;>exact hQ _ a' w' he
  case h_9 rid ops draw=>
   have hCi: ∀ (X:FuncId→Code→List ResultVar→Nat→List SV→Mem→(SV→Mem→Prop)→Prop),(∀f c rs nt us m K',X f c rs nt us m K'→xc ⟨C.M,C.P,C.Γ,C.Δ,C.B,none,false,C.N,none⟩ (fun b=>L (1000000*(f+1)+b)) m.length n 0 c ⟨us++List.replicate (nt-us.length) (.cz []),m⟩ (fnK C.P rs K'))→Ctx.Ok (inC C X):=by
    intro X hX;refine ⟨hC.Γ,hC.Δ,hC.B,hC.mixed,fun h' he=>?_⟩;have he':(match C.N with
     | []=>none
     |_=>some fun f us m K=>match inQ C f with
      |some (c,rs,nt)=>X f c rs nt us m K
      |none=>False)=some h':=he
    split at he'
    ·cases he'
    ·cases he';intro f us m K' hk;split at hk
     ·rename_i c rs nt hq;obtain ⟨fn,h1,h2,h3,rfl,rfl⟩:=V4 hq;refine ⟨⟨fn,h1,h2,by rw [h3];rfl⟩,fun γ vals w hs hv=>?_⟩
      refine ru (C:=C) h1 h3 hv hs fun a hf Q hQ=>?_;exact c7 n (C:=⟨C.M,C.P,C.Γ,C.Δ,C.B,none,false,C.N,none⟩) ⟨hC.Γ,hC.Δ,hC.B,hC.mixed,fun h e=>by cases e⟩ hs (Nat.le_refl _) Fl (fun _=>rfl) (Ad rfl γ) 0 c _ _ γ a w (hX _ _ _ _ _ _ _ hk) hf (ai.refl _ _ _) Q hQ
     ·exact hk.elim
   obtain ⟨tm',hf,h⟩:=Vk h hf;clear here;split at h
   ·exact wpIn_region_list (gZ (hCi _ fun f c rs nt us m K' hx=>hx) hF rfl _ ⟨tm',σ.m⟩ _ β a w h hf (hY.le hsi.ext) Q fun a' w' he=>hQ .normal a' w' (next he))
   ·split at h
    ·exact pj (by intro e;exact hrd e) hF (hCi _ fun f c rs nt us m K' hx=>hx) (hY.le hsi.ext) hf Q (fun a' w' he=>hQ .normal a' w' (next he)) _ _ h
    ·split at h
     ·exact h.elim
     ·rename_i hb;simp only [Bool.and_eq_true,Bool.not_eq_true'] at hb;refine wpIn_mono (Q:=fun e a w=>e= .normal∧Q .normal a w) ?_ (fun e a w hq=>by rw [hq.1];exact hq.2)
      refine wpIn_region_any hC.mixed ?_;exact JD (hrd hb.1) hF (hCi _ fun f c rs nt us m K' hx=>hx) hb.2 _ (fun c a w hq=>by cases hq.1) hf.sat (hY.le hsi.ext) (fun a' w' he=>⟨rfl,hQ .normal a' w' (next he)⟩) h (by unfold cP;simp [List.countP_replicate]) hf.drawn.1 hf.drawn.2 rfl
  case h_10 body=>
   split at h
   ·rename_i hn;refine wpIn_loop_rounds (n+1) ?_;rw [roundsIn_succ];refine c7 n hC hs0 hbs hF hrd hY bk body σ _ β a w h hf hsi _ ?_;rintro e a' w' ⟨σ',β',hf',hs,hk⟩;cases e with
    |normal=>exact HS n hC hs0 hbs hF hrd hY bk body σ' K β' a' w' hn hk hf' hs Q hQ
    |exit id=>exact hQ (.exit id) a' w' ⟨σ',β',hf',hs,hk⟩
    |ret=>exact hQ .ret a' w' ⟨σ',β',hf',hs,hk⟩
   ·rename_i l hl;split at h
    ·obtain ⟨h01,h2⟩:=h;have h01': ∃s,ye m0.length σ (nn C σ (l.st s))∧WU l σ s:=by
      split at h01
      ·exact ⟨_,h01⟩
      ·rw [FA] at h01;exact h01
     obtain ⟨s0,h0,h1⟩:=h01';obtain ⟨β1,hf1,hsi1⟩:=hf.le rfl hs0 hsi h0;refine ES (S:=l.S) (fun s a' w'=>WU l σ s∧ ∃β',Fit bs (nn C σ (l.st s)) β' a' w'∧ai m0 β0 w0 (nn C σ (l.st s)).m β' w') l.mu ⟨h1,β1,hf1,hsi1⟩ ?_;rintro s a1 w1 ⟨hs,β1,hf1,hsi1⟩;refine c7 n hC hs0 hbs hF hrd hY bk body (nn C σ (l.st s)) _ β1 a1 w1 (h2 s hs) hf1 hsi1 _ ?_;rintro e a' w' ⟨σ',β',hf',hsi',hk⟩;cases e with
     |normal=>
      have hk:ZV σ' fun σ'=> ∃s',(ye m0.length σ' (nn C σ (l.st s'))∧WU l σ s')∧l.mu s'<l.mu s:=hk;rw [FA] at hk;obtain ⟨s',⟨k1,k2⟩,k3⟩:=hk;obtain ⟨β2,hf2,hsi2⟩:=hf'.le rfl hs0 hsi' k1;exact ⟨s',⟨k2,β2,hf2,hsi2⟩,k3⟩
     |exit id=>exact hQ (.exit id) a' w' ⟨σ',β',hf',hsi',hk⟩
     |ret=>exact hQ .ret a' w' ⟨σ',β',hf',hsi',hk⟩
    ·rename_i m g _;obtain ⟨⟨h0,h1⟩,h2⟩:=h;obtain ⟨β1,hf1,hsi1⟩:=hf.le rfl hs0 hsi h0;refine ES (S:=Nat) (fun i a' w'=>(i≤m∧l.inv i)∧ ∃β',Fit bs (nn C σ (g i)) β' a' w'∧ai m0 β0 w0 (nn C σ (g i)).m β' w') (fun i=>m-i) (s:=0) ⟨⟨Nat.zero_le _,h1⟩,β1,hf1,hsi1⟩ ?_;rintro i a1 w1 ⟨⟨hi,hv⟩,β1,hf1,hsi1⟩;refine c7 n hC hs0 hbs hF hrd hY bk body (nn C σ (g i)) _ β1 a1 w1 (Dx h2 hi hv) hf1 hsi1 _ ?_;rintro e a' w' ⟨σ',β',hf',hsi',hk⟩;cases e with
     |normal=>
      obtain ⟨k1,k2,k3⟩:=bR hk;have k1:=Nat.le_of_ble_eq_true k1;obtain ⟨β2,hf2,hsi2⟩:=hf'.le rfl hs0 hsi' k2;exact ⟨i+1,⟨⟨k1,k3⟩,β2,hf2,hsi2⟩,by omega⟩
     |exit id=>exact hQ (.exit id) a' w' ⟨σ',β',hf',hsi',hk⟩
     |ret=>exact hQ .ret a' w' ⟨σ',β',hf',hsi',hk⟩
  case h_11 g ps assign body=>
   split at h
   ·rename_i f cf nt caps hq;obtain ⟨fn,hrdf,hYn,hg,hfn,hname,hbody,hres,hnt⟩:=T0 hq;subst hnt;have hro:=hrd hrdf;have hgv:=bh hf.tm hg;generalize hge:a.eval g=q at hgv;cases hgv with
    |lO hcaps=>
     rename_i vs;have hcall:gb C.P f:=⟨fn,hfn,hname,by rw [hbody];rfl⟩
     refine wpIn_rangeFunc fun fn0 _=>?_;have hx0:Ext w (w.alloc (.deferred (some []))):=(Ext.refl w).grow _;have hs1a:Sat β σ.m (w.alloc (.deferred (some []))):=hf.sat.ext hx0;have hsz:(w.alloc (.deferred (some []))).heap.size=w.heap.size+1:=by show (w.heap.push _).size=_;simp
     obtain ⟨r,hr⟩: ∃r:Loop,r= {state:= .ready,pending:=none,fn:=fn0,tmps:=a.tmps,params:=ps,assign:=assign,body:=body,defers:=w.heap.size}:=⟨_,rfl⟩;obtain ⟨w1,hw1⟩: ∃w1,w1=(w.alloc (.deferred (some []))).alloc (.loop r):=⟨_,rfl⟩;have hl0:ea r 0=r:=by rw [hr];rfl
     have hs1:Sat (β.set σ.m.length (w.heap.size+1)) (σ.m++ [some (.loop r 0)]) w1:=by
      rw [←hsz,hw1];exact iu hs1a (by show some _=some _;rw [hl0])
     have hsi1:ai σ.m β w (σ.m++ [some (.loop r 0)]) (β.set σ.m.length (w.heap.size+1)) w1:=by
      rw [←hsz,hw1];exact ai.trans hf.sat (ai.ext' hx0) (er hs1a _ _)
     have hw1sz:w1.heap.size=w.heap.size+2:=by rw [hw1];show ((w.heap.push _).push _).size=_;simp
     have hD1:w1.heap[w.heap.size]? =some (Obj.deferred (some [])):=by
      rw [hw1];show ((w.heap.push _).push _)[w.heap.size]? =_;rw [Array.getElem?_push_lt (by simp),Array.getElem_push_eq]
     have hG1:(β.set σ.m.length (w.heap.size+1)) σ.m.length=some (w.heap.size+1):=by simp [Nm.set]
     refine ⟨w.heap.size+1,[{target:= .collected w.heap.size,args:= #[]}],w1,{target:= .fn (.func f) ⟨vs⟩,args:= #[.func (.yield (w.heap.size+1)) #[] #[]]},w1,f,⟨.func (.yield (w.heap.size+1)) #[] #[]::vs⟩,w1,?_,?_,fun f' _=>hF.fn f',?_,fun e=>hF.depth e,?_⟩
     ·rw [hro,hw1,hr];exact run_enterLoop_outer fn0 a.tmps ps assign body
     ·simp [resolve,rangeCall,hge,Deferred.ofValue,show ∀v,a.eval (.const v)=v from fun _=>rfl]
     ·simp only [invoke];have e1:(#[Value.func (.yield (w.heap.size+1)) #[] #[]]++(⟨vs⟩:Array Value))=⟨.func (.yield (w.heap.size+1)) #[] #[]::vs⟩:=by simp
      rw [e1];exact dH hcall
     ·refine callsIn_of_wp_marks hfn hbody (hF.fn f) ?_ hro;have hx:=h (w.heap.size+1) r;have hlen:σ.m.length+1=(σ.m++ [some (bG.loop r 0)]).length:=by simp
      rw [hlen] at hx;have hCI: ∀y,Ctx.Ok ⟨C.M,C.P,C.Γ,C.Δ,C.B,y,false,C.N,none⟩:=fun y=>⟨hC.Γ,hC.Δ,hC.B,hC.mixed,fun h e=>by cases e⟩
      have hCr:Ctx.Ok ⟨C.M,C.P,C.Γ,C.Δ,C.B,none,true,C.N,none⟩:=⟨hC.Γ,hC.Δ,hC.B,hC.mixed,fun h e=>by cases e⟩
      have walk: ∀ (c0:Code) (γ:Nm) (C':Ctx),C'.P=C.P→UY C' γ c0 (fun σ' K'=>xc ⟨C.M,C.P,C.Γ,C.Δ,C.B,none,true,C.N,none⟩ L σ'.m.length n bk c0 σ' K'):=by
       intro c0 γ C' hP σ' K' β' a' w' F' d' bs' hF' hround hle hb hx' hfit Q' hQ';rw [hP];exact c7 n hCr hfit.sat hb hF' (fun e=>by cases e) (Ad rfl β') bk c0 σ' K' β' a' w' hx' hfit (ai.refl _ _ _) Q' fun e a2 w2 he=>hQ' e a2 w2 he
      refine c7 n (hCI _) hs1 (Nat.le_refl w1.heap.size) hF (fun _=>hro) ?_ 0 cf _ _ _ _ w1 hx ⟨?_,hs1,?_⟩ (ai.refl _ _ _) _ ?_
      ·intro y hy γ hγ;cases hy;refine Tv (hγ _ _ hG1) ?_ ?_ ?_ ?_
       ·rw [hr];exact Has.tt (Nm.le_trans hsi1.ext hγ) hf.tm
       ·rw [hr]
       ·rw [hr];exact walk assign γ _ rfl
       ·rw [hr];exact walk body γ _ rfl
      ·show ae _ (rfI _ _ _) ((⟨_::vs⟩:Array Value)++Array.replicate _ undef).toList;have hrep: ∀k,ae (Has (β.set σ.m.length (w.heap.size+1))) (List.replicate k (SV.cz [])) (List.replicate k undef):=by
        intro k
        induction k with
        |zero=>exact .nil
        |succ k ih=>exact .cons (.cz .nil) ih
       have e1:(({toList:=Value.func (.yield (w.heap.size+1)) #[] #[]::vs}:Array Value)++Array.replicate (fn.ntmps-(⟨Value.func (.yield (w.heap.size+1)) #[] #[]::vs⟩:Array Value).size) undef).toList=(Value.func (.yield (w.heap.size+1)) #[] #[]::vs)++List.replicate (fn.ntmps-(1+caps.length)) undef:=by
        have:=hcaps.length;simp [this,Nat.add_comm]
       rw [e1];refine ae.append (.cons (.v (.one (.op rfl))) (Has.tt hsi1.ext (pE hcaps))) (hrep _)
      ·exact trivial
      ·rintro e a2 w2 ⟨σI,βI,hfI,hsiI,hkI⟩;have core:(match σI.m[σ.m.length]? with
         |some (some (.loop _ j))=>match j with
          |0=>K .normal ⟨σ.tm,σI.m.set σ.m.length none⟩
          |1=>False
          |2=>K .ret ⟨σ.tm,σI.m.set σ.m.length none⟩
          |n+3=>K (.exit n) ⟨σ.tm,σI.m.set σ.m.length none⟩
         |_=>False)→LeavesInM F (d-1) C.P fn a2.tmps (rangePost F d C.P (w.heap.size+1) Q {a with defers:= [{target:= .collected w.heap.size,args:= #[]}]++a.defers}) a2.defers .returning w2:=by
        intro hk;refine nJ hfI.df fun w3 hsh=>⟨.tuple #[],by simp [results,hres],?_⟩
        split at hk
        ·rename_i r' j hm;have hG:=hsiI.ext _ _ hG1;obtain ⟨l',hl',hB⟩:=hfI.sat.live hm id;rw [hG] at hl';cases hl';have hheap:w3.heap[w.heap.size+1]? =some (.loop (ea r' j)):=hsh.hasB hB;have done: ∀ (e':XE) (o:Obj),K e' ⟨σ.tm,σI.m.set σ.m.length none⟩→Q (ZD e') {a with defers:= [{target:= .collected w.heap.size,args:= #[]}]++a.defers} (w3.putObj (w.heap.size+1) o):=by
          intro e' o hk';have ht:=pB w3 (w.heap.size+1) o;have hsiT:ai σ.m β w (σI.m.set σ.m.length none) βI (w3.putObj (w.heap.size+1) o):=ai.trans hf.sat (ai.trans hf.sat hsi1 (hsh.since (Nat.le_refl _) hsiI)) (KR hm trivial hG ht);refine hQ e' _ _ ⟨⟨σ.tm,σI.m.set σ.m.length none⟩,βI,⟨Has.tt hsiT.ext hf.tm,(hsh.sat hfI.sat).drop hm trivial hG ht,⟨⟨w.heap.size,rfl,Nat.le_trans hbs hsi.size,?_,?_⟩,hf.df.mono fun D' hD'=>hsiT.defer hf.sat hD'⟩⟩,ai.trans hs0 hsi hsiT,hk'⟩
          ·rw [ht.iy _ (by rw [hsh.size];have:=hsiI.size;omega) (by omega),hsh.below _ (by omega)]
           exact hsiI.defer hs1 hD1
          ·intro d' hd' e1;obtain ⟨D',h1,h2⟩:=hf.df.lt d' hd';rw [e1] at h1;cases h1;omega
         split at hk
         ·exact ⟨none,_,run_endLoop hheap (by intro e;cases e),done .normal _ hk⟩
         ·exact hk.elim
         ·exact ⟨some .ret,_,run_endLoop hheap (by intro e;cases e),wpIn_ret (done .ret _ hk)⟩
         ·exact ⟨some (.exit _),_,run_endLoop hheap (by intro e;cases e),wpIn_exit (done (.exit _) _ hk)⟩
        ·exact hk.elim
       cases e with
       |exit id=>exact hkI.elim
       |normal=>exact core hkI
       |ret=>exact core hkI
   ·exact h.elim
  case h_12=>exact h.elim
end
def goal(C:Ctx)(L:Nat→Option LS)(fuel:Nat)(fn:Func)(args:List SV)(m:Mem)(K:SV→Mem→Prop):Prop:=match C.Y with
 |some _=>False
 |none=>match fn.body with
 |some c=>xc C L m.length fuel 0 c ⟨args++List.replicate (fn.ntmps-args.length) (.cz []),m⟩ (fnK C.P fn.results.toList K)
 |none=>False
theorem lQ {C:Ctx} {β:Nm} {w:World}(hC:C.Ok) {L:Nat→Option LS} {fuel:Nat} {f:FuncId} {fn:Func}(hfn:C.P.funcs[f]? =some fn) {args:List SV} {vals:List Value} {m:Mem} {K:SV→Mem→Prop}(h:goal C L fuel fn args m K)
  (hargs:ae (Has β) args vals) (hs:Sat β m w):Calls C.P f ⟨vals⟩ w fun e w'=> ∃β' v m' r,Sat β' m' w'∧ai m β w m' β' w'∧e= .returned r∧Has β' v r∧K v m':=by
 unfold goal at h;split at h
 ·exact h.elim
 rename_i hYn;split at h
 ·rename_i c hb;refine ru hfn hb hargs hs fun a hf Q hQ=>?_;exact c7 fuel hC hs (Nat.le_refl _) Fl (fun _=>rfl) (Ad hYn β) 0 c _ _ β a w h hf (ai.refl _ _ _) Q hQ
 ·exact h.elim
def pfL:Lf→Bool
 | .ptr _ _=>false
 | .sl _ _ _ _ _=>false
 | .rs _ _ _ _ _ _ _ _=>false
 | .rp _ _ _ _ _=>false
 | .gv _ _ _=>false
 | .imp _ _ _ _ _=>false
 | .mp _=>false
 | .xW _ _ _=>false
 |_=>true
def pfV:Vv→Bool
 | .one l=>pfL l
 | .agg l=>l.all pfL
def pf:SV→Bool
 | .v x=>pfV x
 | .cz l=>l.all pfV
 | .lO _ l=>l.all pfL
 | .xX _ _ _ _=>false
 | .bX=>true
section
variable {β γ:Nm}
theorem M8 {l:Lf} {v:Value}(h:pfL l=true)(k:aq β l v):aq γ l v:=by
 cases k with
 |ptr=>cases h
 |sl=>cases h
 |int=>exact .int
 |bool=>exact .bool
 |cb=>exact .cb
 |aj=>exact .aj
 |op e=>exact .op e
 |bX e=>exact .bX e
 |rs=>cases h
 |rp=>cases h
 |gv=>cases h
 |imp=>cases h
 |mp=>cases h
 |xW=>cases h
theorem Co: ∀ {l:List Lf} {vs:List Value},l.all pfL=true→ae (aq β) l vs→ae (aq γ) l vs
 | [],_,_,k=>by rw [k.aI];exact .nil
 |a::l,_,h,k=>by
  obtain ⟨v,vs,rfl,hv,k⟩:=k.cons_inv;rw [List.all_cons,Bool.and_eq_true] at h;exact .cons (M8 h.1 hv) (Co h.2 k)
theorem Mm {x:Vv} {v:Value}(h:pfV x=true)(k:bC β x v):bC γ x v:=by
 cases k with
 |one k=>exact .one (M8 h k)
 |agg k=>exact .agg (Co h k)
theorem I5: ∀ {l:List Vv} {vs:List Value},l.all pfV=true→ae (bC β) l vs→ae (bC γ) l vs
 | [],_,_,k=>by rw [k.aI];exact .nil
 |a::l,_,h,k=>by
  obtain ⟨v,vs,rfl,hv,k⟩:=k.cons_inv;rw [List.all_cons,Bool.and_eq_true] at h;exact .cons (Mm h.1 hv) (I5 h.2 k)
theorem TQ {x:SV} {v:Value}(h:pf x=true)(k:Has β x v):Has γ x v:=by
 cases k with
 |v k=>exact .v (Mm h k)
 |cz k=>exact .cz (I5 h k)
 |lO k=>exact .lO (Co h k)
 |bX=>exact .bX
 |xX k=>cases h
theorem M6: ∀ {l:List SV} {vs:List Value},l.all pf=true→ae (Has β) l vs→ae (Has γ) l vs
 | [],_,_,k=>by rw [k.aI];exact .nil
 |a::l,_,h,k=>by
  obtain ⟨v,vs,rfl,hv,k⟩:=k.cons_inv;rw [List.all_cons,Bool.and_eq_true] at h;exact .cons (TQ h.1 hv) (M6 h.2 k)
end
theorem Y0 {w:World}(hg:tC w):Sat ⟨fun _=>none,fun _ _ _=>False⟩ [] w:=
 ⟨fun x b h=>by simp at h,fun x y a ⟨b,h,_⟩=>by simp at h,fun x a h=>(by cases h),hg,fun x a ⟨b,h,_⟩=>by simp at h,fun _ _ _ h=>h.elim⟩
theorem bB {C:Ctx}(hC:C.Ok) {f:FuncId} {fn:Func}(hfn:C.P.funcs[f]? =some fn)(hname:(fn.name== "runtime.NumGoroutine")=false)(hbody:fn.body.isNone=false) {c:FC}
  (h: ∀args p v,c args=some (p,v)→ob p→pf v=true∧ ∃L fuel args',g9 mW args args'∧args'.all pf=true∧goal C L fuel fn args' [] fun r _=>dm mW r v):bf C.P f c:=by
 refine ⟨⟨fn,hfn,hname,hbody⟩,?_⟩;intro β args vals p v w hgl hc hp hv;obtain ⟨hpv,L,fuel,args',hle,hpa,hg⟩:=h args p v hc hp;refine (lQ hC hfn hg (M6 hpa (oU hle hv)) (Y0 hgl)).mono ?_;rintro e w' ⟨β',r,m',u,h1,h2,rfl,h3,h4⟩;exact ⟨u,rfl,TQ hpv (AB h4 h3),h2.a6I⟩
end Go.Proofs.YtfdmjoddhjmokaaGreatDoor.Rex
namespace Go.Proofs.YtfdmjoddhjmokaaGreatDoor.Rex
open Go.RowKit
set_option linter.unusedVariables false
set_option linter.unusedSimpArgs false
def Zb:Lf→Option Value
 | .int k _ n=>some (.int k n)
 | .bool _ b=>some (.bool b)
 | .cb=>some (.pointer none)
 | .aj=>some (.slice none 0 0)
 | .op v=>match v.oneCell' with
  |true=>some v
  |false=>none
 |_=>none
def Zn:Vv→Option Value
 | .one l=>Zb l
 | .agg l=>match omap Zb l with
  |some vs=>some (.agg ⟨vs⟩)
  |none=>none
def Xf:SV→Option Value
 | .v x=>Zn x
 | .cz l=>match omap Zn l with
  |some vs=>some (.tuple ⟨vs⟩)
  |none=>none
 |_=>none
section
variable {β:Nm}
theorem JR {l:Lf} {v:Value}(h:Zb l=some v):aq β l v∧ ∀γ u,aq γ l u→u=v:=by
 unfold Zb at h;split at h
 all_goals first
  |(cases h;done)
  |(cases h;refine ⟨by first|exact .int|exact .bool|exact .cb|exact .aj,?_⟩;intro γ u hu;cases hu;rfl)
  |skip
 split at h
 ·rename_i hv;cases h;refine ⟨.op hv,?_⟩;intro γ u hu;cases hu;rfl
 ·cases h
theorem qL {A:Type} {f:A→Option Value} {R:Nm→A→Value→Prop}(hf: ∀a v,f a=some v→R β a v∧ ∀γ u,R γ a u→u=v): ∀ {l:List A} {vs:List Value},omap f l=some vs→ae (R β) l vs∧ ∀γ us,ae (R γ) l us→us=vs
 | [],vs,h=>by cases h;exact ⟨.nil,fun γ us hu=>hu.aI⟩
 |a::l,vs,h=>by
  unfold omap at h;split at h
  ·cases h
  ·rename_i b hb;split at h
   ·cases h
   ·rename_i bs hbs;cases h;obtain ⟨h1,h2⟩:=hf a b hb;obtain ⟨h3,h4⟩:=qL hf hbs;refine ⟨.cons h1 h3,fun γ us hu=>?_⟩;obtain ⟨u,us,rfl,k1,k2⟩:=hu.cons_inv;rw [h2 γ u k1,h4 γ us k2]
theorem Jk {x:Vv} {v:Value}(h:Zn x=some v):bC β x v∧ ∀γ u,bC γ x u→u=v:=by
 unfold Zn at h;split at h
 ·obtain ⟨h1,h2⟩:=JR (β:=β) h;exact ⟨.one h1,fun γ u hu=>by cases hu with
   |one hu=>exact h2 γ u hu⟩
 ·split at h
  ·rename_i vs hvs;cases h;obtain ⟨h1,h2⟩:=qL (β:=β) (R:=fun γ=>aq γ) (fun a v e=>JR e) hvs;refine ⟨.agg h1,fun γ u hu=>?_⟩;cases hu with
   |agg hu=>rw [h2 γ _ hu]
  ·cases h
theorem HW {x:SV} {v:Value}(h:Xf x=some v):Has β x v∧ ∀γ u,Has γ x u→u=v:=by
 unfold Xf at h;split at h
 ·obtain ⟨h1,h2⟩:=Jk (β:=β) h;exact ⟨.v h1,fun γ u hu=>by cases hu with
   |v hu=>exact h2 γ u hu⟩
 ·split at h
  ·rename_i vs hvs;cases h;obtain ⟨h1,h2⟩:=qL (β:=β) (R:=fun γ=>bC γ) (fun a v e=>Jk e) hvs;refine ⟨.cz h1,fun γ u hu=>?_⟩;cases hu with
   |cz hu=>rw [h2 γ _ hu]
  ·cases h
 ·cases h
end
theorem yr {P:Program} {f:FuncId} {c:FC}(h:bf P f c) {us:List SV} {p:Option Prop} {v:SV}(hc:c us=some (p,v))(hp:ob p) {vals:List Value} {r:Value}(h1:omap Xf us=some vals)(h2:Xf v=some r)(w:World)(hG:tC w):
  Calls P f ⟨vals⟩ w fun e w'=>e= .returned r∧Ext w w':=by
 have hv:=(qL (β:=⟨fun _=>none,fun _ _ _=>False⟩) (R:=fun γ=>Has γ) (fun a v e=>HW e) h1).1;refine (h.2 _ us vals p v w hG hc hp hv).mono ?_;rintro e w' ⟨u,rfl,hu,hx⟩;exact ⟨by rw [(HW (β:=⟨fun _=>none,fun _ _ _=>False⟩) h2).2 _ u hu],hx⟩
def Ci(P:Program)(Γ:List (FuncId×FX)):Prop:= ∀f c,(f,c)∈Γ→sO P f c
theorem Ci.nil(P:Program):Ci P []:=fun f c h=>by simp at h
theorem Ci.cons {P:Program} {Γ:List (FuncId×FX)} {f:FuncId} {c:FX}(h:sO P f c)(k:Ci P Γ):Ci P ((f,c)::Γ):=by
 intro g d hm;rcases List.mem_cons.1 hm with e|hm
 ·cases e;exact h
 ·exact k g d hm
def Mx:Md:=⟨fun _=>true,fun _=>true⟩
def Mw:Md:=⟨fun _=>false,fun _=>false⟩
def bK:Nat→Option LS:=fun _=>none
end Go.Proofs.YtfdmjoddhjmokaaGreatDoor.Rex
namespace Go.Proofs.YtfdmjoddhjmokaaGreatDoor.Rex
open Go.RowKit
set_option linter.unusedVariables false
set_option linter.unusedSimpArgs false
def Lf.uK(f:Nat→Nat):Lf→Lf
 | .ptr x o=> .ptr (f x) o
 | .sl x o kn n c=> .sl (f x) o kn n c
 | .rs z tg x base sz o n c=> .rs z tg (f x) base sz o n c
 | .rp x base sz i g=> .rp (f x) base sz i g
 | .gv sh v xs=> .gv sh v xs
 | .imp sh v xs i g=> .imp sh v xs i g
 | .mp x=> .mp (f x)
 | .xW t x o=> .xW t (f x) o
 | .int k kn n=> .int k kn n
 | .bool kn q=> .bool kn q
 | .cb=> .cb
 | .aj=> .aj
 | .op v=> .op v
 | .bX=> .bX
def Vv.uK(f:Nat→Nat):Vv→Vv
 | .one l=> .one (l.uK f)
 | .agg l=> .agg (l.map (Lf.uK f))
def SV.uK(f:Nat→Nat):SV→SV
 | .v x=> .v (x.uK f)
 | .cz l=> .cz (l.map (Vv.uK f))
 | .lO g l=> .lO g (l.map (Lf.uK f))
 | .xX n t x o=> .xX n t (f x) o
 | .bX=> .bX
def bG.uK(f:Nat→Nat):bG→bG
 | .cells l t=> .cells (l.map (Lf.uK f)) t
 | .rows ro z sh xs base tot t=> .rows ro z sh xs base tot t
 | .loop r j=> .loop r j
 | .map ks ka vs va es clk=> .map ks ka vs va es clk
 | .it x since seen last=> .it (f x) since seen last
def back(ns:List Nat)(d:Nat):Nat→Nat:=fun i=>match ns[i]? with
 |some x=>x
 |none=>d+(i-ns.length)
def Ti(f:Nat→Nat):Option bG→Option bG
 |some b=>some (b.uK f)
 |none=>none
def FL:Mem→List Nat→Mem→Mem
 |m,x::ns,b::l=>FL (m.set x b) ns l
 |m,_,_=>m
def Dd(ns rs:List Nat)(m mem:Mem):Mem:=FL m ns (mem.map (Ti (back (ns++rs) m.length)))++(mem.drop (ns++rs).length).map (Ti (back (ns++rs) m.length))
def ndN:List Nat→List Nat→Bool
 | [],_=>true
 |x::ns,rs=>rh x ns&&(rh x rs&&ndN ns rs)
def Sc(m0:Mem)(n:Nat):Prop:= ∀i b,n≤i→m0[i]? =some (some b)→b.K0=true
def SB(m0:Mem)(n:Nat):Prop:= ∀i b,n≤i→m0[i]? =some (some b)→b.K0=false
section
variable {β γ:Nm} {f:Nat→Nat}
theorem aP.xI(hg: ∀sh v xs,γ.g sh v xs→β.g sh v xs): ∀ {sh:List Kd} {r:Row sh},aP γ sh r→aP β sh r
 | [],_,_=>trivial
 | .im _::l,r,k=>⟨⟨k.1.1.imp (hg _ _ _) id,k.1.2⟩,aP.xI hg (sh:=l) k.2⟩
 | .int _::l,r,k=>aP.xI hg (sh:=l) (r:=r.2) k
 | .bool::l,r,k=>aP.xI hg (sh:=l) (r:=r.2) k
 | .str::l,r,k=>aP.xI hg (sh:=l) (r:=r.2) k
theorem IA(hf: ∀x b,γ x=some b→β (f x)=some b)(hg: ∀sh v xs,γ.g sh v xs→β.g sh v xs) {l:Lf} {v:Value}(h:aq γ l v):aq β (l.uK f) v:=by
 cases h with
 |int=>exact .int
 |bool=>exact .bool
 |ptr e=>exact .ptr (hf _ _ e)
 |cb=>exact .cb
 |sl e=>exact .sl (hf _ _ e)
 |aj=>exact .aj
 |op e=>exact .op e
 |bX e=>exact .bX e
 |rs e=>
  obtain ⟨h1,h2,h3⟩:=e;refine .rs ⟨h1,h2,?_⟩;rcases h3 with h3|⟨hz,b,hb,hv⟩
  ·exact .inl h3
  ·exact .inr ⟨hz,b,hf _ _ hb,hv⟩
 |rp e=>exact .rp (hf _ _ e)
 |gv e k=>exact .gv (e.imp (hg _ _ _) id) k
 |imp e k=>exact .imp (e.imp (hg _ _ _) id) k
 |mp e=>exact .mp (hf _ _ e)
 |xW e=>exact .xW (hf _ _ e)
theorem wO(hf: ∀x b,γ x=some b→β (f x)=some b)(hg: ∀sh v xs,γ.g sh v xs→β.g sh v xs) {l:List Lf} {vs:List Value}(h:ae (aq γ) l vs):ae (aq β) (l.map (Lf.uK f)) vs:=by
 induction h with
 |nil=>exact .nil
 |cons h _ ih=>exact .cons (IA hf hg h) ih
theorem I7(hf: ∀x b,γ x=some b→β (f x)=some b)(hg: ∀sh v xs,γ.g sh v xs→β.g sh v xs) {l:Vv} {v:Value}(h:bC γ l v):bC β (l.uK f) v:=by
 cases h with
 |one h=>exact .one (IA hf hg h)
 |agg h=>exact .agg (wO hf hg h)
theorem R4(hf: ∀x b,γ x=some b→β (f x)=some b)(hg: ∀sh v xs,γ.g sh v xs→β.g sh v xs) {l:List Vv} {vs:List Value}(h:ae (bC γ) l vs):ae (bC β) (l.map (Vv.uK f)) vs:=by
 induction h with
 |nil=>exact .nil
 |cons h _ ih=>exact .cons (I7 hf hg h) ih
theorem Tz(hf: ∀x b,γ x=some b→β (f x)=some b)(hg: ∀sh v xs,γ.g sh v xs→β.g sh v xs) {s:SV} {v:Value}(h:Has γ s v):Has β (s.uK f) v:=by
 cases h with
 |v h=>exact .v (I7 hf hg h)
 |cz h=>exact .cz (R4 hf hg h)
 |lO h=>exact .lO (wO hf hg h)
 |bX=>exact .bX
 |xX h=>exact .xX (hf _ _ h)
theorem Ud(hf: ∀x b,γ x=some b→β (f x)=some b)(hg: ∀sh v xs,γ.g sh v xs→β.g sh v xs) {b:bG} {o:Option Obj}(h:cw γ b o):cw β (b.uK f) o:=by
 cases b with
 |cells l t=>obtain ⟨vs,e,hv⟩:=h;exact ⟨vs,e,wO hf hg hv⟩
 |rows=>
  obtain ⟨hz,vs,fz,t',e,h1,h2,h3⟩:=h;exact ⟨hz,vs,fz,t',e,h1,h2,fun r hr=>(h3 r hr).xI hg⟩
 |loop=>exact h
 |map=>exact ⟨h.1,fun e he=>(h.2 e he).xI hg⟩
 |it=>
  obtain ⟨b,h1,h2⟩:=h;exact ⟨b,hf _ _ h1,h2⟩
theorem tz {b:bG}:(b.uK f).dead↔b.dead:=by cases b<;>exact Iff.rfl
theorem qO {q:Bool} {b:bG}:(b.uK f).can q↔b.can q:=by cases b<;>cases q<;>exact Iff.rfl
end
theorem pz: ∀ {l:List Nat} {i j:Nat} {x:Nat},iV l=true→l[i]? =some x→l[j]? =some x→i=j
 | [],i,j,x,_,h,_=>by simp at h
 |a::l,0,0,x,_,_,_=>rfl
 |a::l,0,j+1,x,hn,h,h'=>by
  simp at h;subst h;simp only [iV,Bool.and_eq_true] at hn;exact absurd rfl (jY hn.1 a (List.mem_of_getElem? (by simpa using h')))
 |a::l,i+1,0,x,hn,h,h'=>by
  simp at h';subst h';simp only [iV,Bool.and_eq_true] at hn;exact absurd rfl (jY hn.1 a (List.mem_of_getElem? (by simpa using h)))
 |a::l,i+1,j+1,x,hn,h,h'=>by
  simp only [iV,Bool.and_eq_true] at hn;have:=pz (i:=i) (j:=j) hn.2 (by simpa using h) (by simpa using h')
  omega
theorem fR: ∀ (m:Mem) (ns:List Nat) (l:Mem),(FL m ns l).length=m.length
 |m,[],l=>by cases l<;>rfl
 |m,x::ns,[]=>rfl
 |m,x::ns,b::l=>by rw [FL,fR,List.length_set]
theorem si: ∀ {m:Mem} {ns:List Nat} {l:Mem} {y:Nat},(∀i:Nat,ns[i]? ≠some y)→(FL m ns l)[y]? =m[y]?
 |m,[],l,y,_=>by cases l<;>rfl
 |m,x::ns,[],y,_=>rfl
 |m,x::ns,b::l,y,h=>by
  rw [FL,si fun i=>by have:=h (i+1);simpa using this,List.getElem?_set_ne]
  intro e;subst e;exact h 0 (by simp)
theorem ME: ∀ {m:Mem} {ns:List Nat} {l:Mem} {i y:Nat} {b:Option bG},iV ns=true→ns[i]? =some y→l[i]? =some b→y<m.length→(FL m ns l)[y]? =some b
 |m,[],l,i,y,b,_,h,_,_=>by simp at h
 |m,x::ns,[],i,y,b,_,_,h,_=>by simp at h
 |m,x::ns,c::l,0,y,b,hn,h,hl,hy=>by
  simp at h hl;subst h;subst hl;rw [FL,si]
  ·rw [List.getElem?_set];simp [hy]
  ·intro i e;simp only [iV,Bool.and_eq_true] at hn;exact jY hn.1 x (List.mem_of_getElem? e) rfl
 |m,x::ns,c::l,i+1,y,b,hn,h,hl,hy=>by
  simp only [iV,Bool.and_eq_true] at hn;rw [FL];exact ME hn.2 (by simpa using h) (by simpa using hl) (by simpa using hy)
theorem vZ: ∀ {ns rs:List Nat},ndN ns rs=true→iV ns=true
 | [],_,_=>rfl
 |x::ns,rs,h=>by
  simp only [ndN,Bool.and_eq_true] at h;simp only [iV,Bool.and_eq_true];exact ⟨h.1,vZ h.2.2⟩
theorem Ec: ∀ {ns rs:List Nat},ndN ns rs=true→ ∀x∈ns,∀y∈rs,x≠y
 | [],_,_,x,hx,_,_=>by simp at hx
 |z::ns,rs,h,x,hx,y,hy=>by
  simp only [ndN,Bool.and_eq_true] at h;rcases List.mem_cons.1 hx with rfl|hx
  ·exact jY h.2.1 y hy
  ·exact Ec h.2.2 x hx y hy
theorem Aa {x:Nat} {r:Bool}: ∀ {l:List (Nat×Bool)},(∀q,(x,q)∈l→r=true∧q=true)→apart x r l=true
 | [],_=>rfl
 |(y,q)::l,h=>by
  unfold apart;split
  ·rename_i e;have:=Nat.eq_of_beq_eq_true e;subst this;obtain ⟨h1,h2⟩:=h q (by simp)
   rw [h1,h2];exact Aa fun q' hq'=>⟨rfl,(h q' (List.mem_cons_of_mem _ hq')).2⟩
  ·exact Aa fun q' hq'=>h q' (List.mem_cons_of_mem _ hq')
theorem sR {ns rs:List Nat}(hn:ndN ns rs=true) {m0:Mem}(hro:Sc m0 ns.length): ∀ (l:Mem) (y:Nat),l=m0.drop y→O0 (cY (fun i=>(ns++rs)[i]?) y l)=true∧ ∀x r,(x,r)∈cY (fun i=>(ns++rs)[i]?) y l→ ∃i,y≤i∧(ns++rs)[i]? =some x∧(ns.length≤i→r=true)
 | [],y,_=>⟨rfl,fun x r h=>by simp [cY] at h⟩
 |none::l,y,hl=>by
  have hl':l=m0.drop (y+1):=by rw [←List.tail_drop,←hl];rfl
  obtain ⟨h1,h2⟩:=sR hn hro l (y+1) hl';refine ⟨h1,fun x r hx=>?_⟩;obtain ⟨i,hi,e⟩:=h2 x r hx;exact ⟨i,by omega,e⟩
 |some b::l,y,hl=>by
  have hl':l=m0.drop (y+1):=by rw [←List.tail_drop,←hl];rfl
  have hb:m0[y]? =some (some b):=by
   have:(m0.drop y)[0]? =some (some b):=by rw [←hl];rfl
   rw [List.getElem?_drop] at this;exact this
  obtain ⟨h1,h2⟩:=sR hn hro l (y+1) hl';unfold cY;split
  ·rename_i x hx;refine ⟨?_,?_⟩
   ·simp only [O0,Bool.and_eq_true];refine ⟨Aa fun q hq=>?_,h1⟩;obtain ⟨i,hi,e,her⟩:=h2 x q hq;rcases Nat.lt_or_ge y ns.length with hy|hy
    ·exfalso;rw [List.getElem?_append_left hy] at hx;rcases Nat.lt_or_ge i ns.length with hi2|hi2
     ·rw [List.getElem?_append_left hi2] at e;have:=pz (vZ hn) hx e;omega
     ·rw [List.getElem?_append_right hi2] at e;exact Ec hn x (List.mem_of_getElem? hx) x (List.mem_of_getElem? e) rfl
    ·exact ⟨hro y b hy hb,her (by omega)⟩
   ·intro z r hz;rcases List.mem_cons.1 hz with e|hz
    ·cases e;exact ⟨y,Nat.le_refl _,hx,fun hy=>hro y b hy hb⟩
    ·obtain ⟨i,hi,e⟩:=h2 z r hz;exact ⟨i,by omega,e⟩
  ·refine ⟨h1,fun x r hx=>?_⟩;obtain ⟨i,hi,e⟩:=h2 x r hx;exact ⟨i,by omega,e⟩
def qq(m:Mem):Prop:= ∀ (i:Nat) (ro z:Bool) (sh:List Kd) (xs:List (Row sh)) (base tot:Nat) (t:TypeId),m[i]? =some (some (.rows ro z sh xs base tot t))→xs.length≤tot∧(z=true→xs.length=0)
theorem Sat.Ng {β:Nm} {m:Mem} {w:World}(h:Sat β m w):qq m:=by
 intro i ro z sh xs base tot t hi;rcases h.dz i _ hi with ⟨_,hx⟩|⟨a,_,hz,vs,fz,t',_,_,hr,_⟩
 ·rw [hx];exact ⟨Nat.zero_le _,fun _=>rfl⟩
 ·exact ⟨hr.1,fun e=>by rw [hz] at e;cases e⟩
def a0k(m0:Mem) {E:Type}(ok:E→Prop)(res:E→SV)(mem:E→Mem)(r:SV)(m':Mem):Prop:= ∀ (β0 β':Nm) (w0 w':World) (v:Value),Sat β0 m0 w0→Sat β' m' w'→ai m0 β0 w0 m' β' w'→Has β' r v→
 ∃e δ,ok e∧Sat δ (mem e) w'∧ai m0 β0 w0 (mem e) δ w'∧Has δ (res e) v
theorem Ht {C:Ctx}(hC:C.Ok) {f:FuncId} {fn:Func}(hfn:C.P.funcs[f]? =some fn)(hname:(fn.name== "runtime.NumGoroutine")=false)(hbody:fn.body.isNone=false) {c:MC}
  (h: ∀us m K,c us m K→ ∃ (E:Type) (ok:E→Prop) (L:Nat→Option LS) (fuel:Nat) (ns rs:List Nat) (args:List SV) (m0:Mem) (res:E→SV) (mem:E→Mem) (R:SV→Mem→Prop),
   (ndN ns rs=true∧(ns++rs).length=m0.length∧Sc m0 ns.length∧ ∀e,SB (mem e) (ns++rs).length)∧(∀ (β:Nm) (vals:List Value),ae (Has β) us vals→ae (Has (β.by fun i=>(ns++rs)[i]?)) args vals)∧BU (fun i=>(ns++rs)[i]?) m 0 m0∧
   (qq m0→goal C L fuel fn args m0 R)∧(∀r m',R r m'→a0k m0 ok res mem r m')∧ ∀e,ok e→K ((res e).uK (back (ns++rs) m.length)) (Dd ns rs m (mem e))):ab C.P f c:=by
 refine ⟨⟨fn,hfn,hname,hbody⟩,?_⟩;intro β args0 vals m w K hc hv hs;obtain ⟨E,ok,L,fuel,ns,rs,args,m0,res,mem,R,⟨hnd,hlen,hro,hrw⟩,hta,hma,hg,hR,hk⟩:=h args0 m K hc;have hnl:ns.length≤(ns++rs).length:=by simp
 have kwl: ∀ {i},kw m0 i→i<ns.length:=by
  rintro i ⟨b,hb,hr⟩;rcases Nat.lt_or_ge i ns.length with h|h
  ·exact h
  ·have:=hro i b h hb;rw [ZP hr] at this;cases this
 let ρ:Rn:=fun i=>(ns++rs)[i]?
 have hρl: ∀y x,ρ y=some x→y<m0.length:=fun y x e=>by rw [←hlen];exact (List.getElem?_eq_some_iff.1 e).1
 have hsat:Sat (β.by ρ) m0 w:=hs.uK hρl (sR hnd hro m0 0 rfl).1 hma;have cal: ∀ {q:Bool} {i:Nat},kq q m0 i→ ∃x a,(ns++rs)[i]? =some x∧kq q m x∧β x=some a∧(β.by ρ) i=some a:=by
  rintro q i ⟨b,hb,hr⟩;have h1:=qm hma hb;rw [Nat.zero_add] at h1;obtain ⟨z,c,hz,hcz,hcd,hrw,a,ha,_⟩:=(yz hs h1).resolve_left hr.alive;refine ⟨z,a,hz,⟨c,hcz,?_⟩,ha,cg hz ha⟩;cases q with
  |true=>exact hrw hr
  |false=>exact hcd
 refine (lQ hC hfn (hg hsat.Ng) (hta β vals hv) hsat).mono ?_;rintro e w' ⟨β',v,m',r,hs',hsi',rfl,hr',hRR⟩;obtain ⟨ex,δ,hok,hδs,hδi,hδr⟩:=hR v m' hRR _ _ _ _ _ hsat hs' hsi' hr';have hK:=hk ex hok;generalize hM:mem ex=M at hδs hδi hK;generalize hγ:(β.by ρ)=γ at hsat hδi cal;have hγ': ∀i,γ i=((ns++rs)[i]?).bind β:=fun i=>by rw [←hγ];rfl
 have hrwM:=hrw ex;rw [hM] at hrwM;have hkM:(ns++rs).length≤M.length:=by rw [hlen];exact hδi.len
 let β2:Nm:=⟨fun y=>if y<m.length then β y else δ ((ns++rs).length+(y-m.length)),δ.g⟩
 have hgδ: ∀sh v xs,δ.g sh v xs→β2.g sh v xs:=fun _ _ _ h=>h;have b2lo: ∀y,y<m.length→β2 y=β y:=fun y hy=>if_pos hy;have b2hi: ∀j,β2 (m.length+j)=δ ((ns++rs).length+j):=fun j=>by
  show (if m.length+j<m.length then _ else _)=_;rw [if_neg (by omega)]
  congr 2;omega
 have hback: ∀x b,δ x=some b→β2 (back (ns++rs) m.length x)=some b:=by
  intro x b hx;unfold back;cases hn:(ns++rs)[x]? with
  |some z=>
   have hxl:x<m0.length:=by rw [←hlen];exact (List.getElem?_eq_some_iff.1 hn).1
   have h1:=hδi.same x hxl;rw [hx,hγ',hn] at h1;have h2:β z=some b:=h1.symm;simp only;rw [b2lo z (hs.CC z b h2)];exact h2
  |none=>
   have hxl:(ns++rs).length≤x:=List.getElem?_eq_none_iff.1 hn;simp only;rw [b2hi,show (ns++rs).length+(x-(ns++rs).length)=x by omega]
   exact hx
 have hle:β.le β2:=⟨fun y b hb=>by rw [b2lo y (hs.CC y b hb)];exact hb,fun sh v xs e=>hδi.ext.g sh v xs (by rw [←hγ];exact e)⟩
 have cut: ∀y b,(Dd ns rs m M)[y]? =some (some b)→(∃i c,M[i]? =some (some c)∧b=c.uK (back (ns++rs) m.length)∧y=back (ns++rs) m.length i∧((y<m.length∧i<ns.length)∨(m.length≤y∧(ns++rs).length≤i)))∨(y<m.length∧(∀i:Nat,ns[i]? ≠some y)∧m[y]? =some (some b)):=by
  intro y b hb;unfold Dd at hb;rcases Nat.lt_or_ge y m.length with hl|hl
  ·rw [List.getElem?_append_left (by rw [fR];exact hl)] at hb
   by_cases hin: ∃i:Nat,ns[i]? =some y
   ·left;obtain ⟨i,hi⟩:=hin;have hil:=(List.getElem?_eq_some_iff.1 hi).1;have hMi:M[i]? =some (M[i]'(by omega)):=List.getElem?_eq_getElem (by omega)
    rw [ME (i:=i) (b:=Ti (back (ns++rs) m.length) (M[i]'(by omega))) (vZ hnd) hi (by rw [List.getElem?_map,hMi];rfl) hl] at hb
    cases hq:M[i]'(by omega) with
    |none=>rw [hq] at hb;cases hb
    |some c=>
     rw [hq] at hb hMi;simp only [Ti,Option.some.injEq] at hb;exact ⟨i,c,hMi,hb.symm,by unfold back;rw [List.getElem?_append_left hil,hi],.inl ⟨hl,hil⟩⟩
   ·right;have hno: ∀i:Nat,ns[i]? ≠some y:=fun i e=>hin ⟨i,e⟩;rw [si hno] at hb;exact ⟨hl,hno,hb⟩
  ·left;rw [List.getElem?_append_right (by rw [fR];exact hl),fR,List.getElem?_map,List.getElem?_drop] at hb
   cases hq:M[(ns++rs).length+(y-m.length)]? with
   |none=>rw [hq] at hb;cases hb
   |some c0=>
    rw [hq] at hb;cases c0 with
    |none=>cases hb
    |some c=>
     simp only [Option.map_some,Ti,Option.some.injEq] at hb;refine ⟨_,c,hq,hb.symm,?_,.inr ⟨hl,by omega⟩⟩
     unfold back;rw [List.getElem?_eq_none (by omega)]
     simp only;omega
 have whr: ∀ {q:Bool} {i:Nat},kq q M i→ ∃a,δ i=some a∧(w.heap.size≤a∨ ∃ (j:Nat) (x:Nat),(ns++rs)[j]? =some x∧kq q m x∧β x=some a∧kq q m0 j):=by
  intro q i hi;rcases Nat.lt_or_ge i m0.length with hl|hl
  ·obtain ⟨x,a,hx,hkx,hbx,hga⟩:=cal (hδi.sub q i hl hi);exact ⟨a,hδi.ext _ _ hga,.inr ⟨i,x,hx,hkx,hbx,hδi.sub q i hl hi⟩⟩
  ·obtain ⟨a,ha,hor⟩:=hδi.new q i hl hi;refine ⟨a,ha,hor.imp id ?_⟩;rintro ⟨y,hy,hya⟩;obtain ⟨x,a',hx,hkx,hbx,hga⟩:=cal hy;rw [hya] at hga;cases hga;exact ⟨y,x,hx,hkx,hbx,hy⟩
 have hframe: ∀y a,(∀i:Nat,ns[i]? ≠some y)→kn m y→β y=some a→w'.heap[a]? =w.heap[a]? :=by
  intro y a hno hky ha;refine hδi.frame a (hs.lt hky ha) fun i hi e=>?_;obtain ⟨x,a',hx,hkx,hbx,hga⟩:=cal (q:=true) hi;rw [e] at hga;cases hga;have:=hs.inj x y a hkx hky hbx ha;subst this;rw [List.getElem?_append_left (kwl hi)] at hx;exact hno i hx
 refine ⟨β2,_,_,r,?_,?_,rfl,Tz hback hgδ hδr,hK⟩
 ·refine ⟨fun y b hb=>?_,?_,fun y a hy=>?_,hδs.gl,?ng,?im⟩
  case im=>
   intro sh v xs e;obtain ⟨h0,c,hc,h1⟩:=hδs.im sh v xs e;refine ⟨fun r hr=>(h0 r hr).xI hgδ,c,hc,?_⟩;by_cases hx0:xs= []
   ·subst hx0;rcases h1 with h1|⟨b,base,vs,t,fz,h2,_⟩
    ·exact .inl h1
    ·exact .inl ⟨rfl,_,h2⟩
   ·refine h1.imp id ?_;rintro ⟨b,base,vs,t,fz,h2,h3,h4,h5⟩;refine ⟨b,base,vs,t,fz,h2,h3,h4,?_⟩;rintro y ⟨d,hd,hdr⟩ hy;rcases cut y d hd with ⟨i,c,hi,rfl,rfl,_⟩|⟨hl,hno,hm1⟩
    ·have k1:kw M i:=⟨c,hi,(qO (q:=true)).1 hdr⟩;obtain ⟨a1,ha1,_⟩:=hδs.zA k1.kn;rw [hback _ _ ha1] at hy;cases hy;exact h5 i k1 ha1
    ·rw [b2lo y hl] at hy;have k2:kw m y:=⟨d,hm1,hdr⟩;rcases hδi.WR sh v xs e with e|e|e
     ·obtain ⟨_,c',_,h1'⟩:=hs.im sh v xs (by rw [←hγ] at e;exact e)
      rcases h1' with ⟨e0,_⟩|⟨b',base',vs',t',fz',h2',h3',h4',h5'⟩
      ·exact hx0 e0
      ·rw [h2] at h2';cases h2';exact h5' y k2 hy
     ·exact hx0 e
     ·rcases e _ _ _ _ h2 with e|⟨j,hj,hjb⟩|⟨sh1,v1,xs1,o1,n1,c1,g1,g2,g3⟩
      ·have:=hs.lt k2.kn hy;omega
      ·obtain ⟨x,a,hx,hkx,hbx,hga⟩:=cal (q:=true) hj;rw [hjb] at hga;cases hga;have:=hs.inj y x b k2 (kq.kn hkx) hy hbx;subst this;rw [List.getElem?_append_left (kwl hj)] at hx;exact hno j hx
      ·obtain ⟨_,c',_,h1'⟩:=hs.im sh1 v1 xs1 (by rw [←hγ] at g1;exact g1)
       rcases h1' with ⟨e0,_⟩|⟨b',base',vs',t',fz',h2',h3',h4',h5'⟩
       ·exact g2 e0
       ·rw [g3] at h2';cases h2';exact h5' y k2 hy
  case ng=>
   rintro y a ⟨b,hb,hbr⟩ hy;rcases cut y b hb with ⟨i,c,hi,rfl,rfl,_⟩|⟨hl,hno,hm1⟩
   ·have k1:kw M i:=⟨c,hi,(qO (q:=true)).1 hbr⟩;obtain ⟨a1,ha1,_⟩:=hδs.zA k1.kn;rw [hback _ _ ha1] at hy;cases hy;exact hδs.ng i a k1 ha1
   ·rw [b2lo y hl] at hy;exact hs.ng y a ⟨b,hm1,hbr⟩ hy
  ·rcases cut y b hb with ⟨i,c,hi,rfl,rfl,_⟩|⟨hl,hno,hy⟩
   ·rcases hδs.dz i c hi with hd|⟨a,ha,hB⟩
    ·exact .inl (tz.2 hd)
    ·exact .inr ⟨a,hback _ _ ha,Ud hback hgδ hB⟩
   ·exact hs.lY hle hy fun a hk ha=>hframe y a hno hk ha
  ·rintro y y' a ⟨b,hb,hbr⟩ ⟨d,hd,hdd⟩ hy hy';rcases cut y b hb with ⟨i,c,hi,rfl,rfl,_⟩|⟨hl,hno,hm1⟩<;>rcases cut y' d hd with ⟨j,c',hj,rfl,rfl,hwj⟩|⟨hl',hno',hm2⟩
   ·have k1:kw M i:=⟨c,hi,(qO (q:=true)).1 hbr⟩;have k2:kn M j:=⟨c',hj,fun e=>hdd (tz.2 e)⟩;obtain ⟨a1,ha1,_⟩:=hδs.zA k1.kn;obtain ⟨a2,ha2,_⟩:=hδs.zA k2;rw [hback _ _ ha1] at hy;cases hy;rw [hback _ _ ha2] at hy';cases hy';rw [hδs.inj i j a k1 k2 ha1 ha2]
   ·exfalso;have k1:kq true M i:=⟨c,hi,(qO (q:=true)).1 hbr⟩;have k2:kn m y':=⟨d,hm2,hdd⟩;rw [b2lo y' hl'] at hy';obtain ⟨a1,ha1,hor⟩:=whr k1;rw [hback _ _ ha1] at hy;cases hy;rcases hor with hge|⟨j,x,hx,hkx,hbx,hkj⟩
    ·have:=hs.lt k2 hy';omega
    ·have:=hs.inj x y' a hkx k2 hbx hy';subst this;rw [List.getElem?_append_left (kwl hkj)] at hx;exact hno' j hx
   ·exfalso;have k1:kq false M j:=⟨c',hj,fun e=>hdd (tz.2 e)⟩;have k2:kw m y:=⟨b,hm1,hbr⟩;rw [b2lo y hl] at hy;rcases hwj with ⟨_,hjn⟩|⟨_,hjn⟩
    ·obtain ⟨x,a1,hx,hkx,hbx,hga⟩:=cal (hδi.sub false j (by rw [←hlen];omega) k1)
     rw [hback _ _ (hδi.ext _ _ hga)] at hy';cases hy';have:=hs.inj y x a k2 hkx hy hbx;subst this;rw [List.getElem?_append_left hjn] at hx;exact hno j hx
    ·have k3:kq true M j:=by
      refine ⟨c',hj,?_⟩;have hro':=hrwM j c' hjn hj;have hnd': ¬c'.dead:=fun e=>hdd (tz.2 e);obtain ⟨_,_,hB⟩:=hδs.live hj hnd';cases c' with
      |cells=>trivial
      |rows=>exact ⟨hro',hB.1⟩
      |loop=>trivial
      |map=>trivial
      |it=>trivial
     obtain ⟨a1,ha1,hor⟩:=whr k3;rw [hback _ _ ha1] at hy';cases hy';rcases hor with hge|⟨j',x,hx,hkx,hbx,hkj⟩
     ·have:=hs.lt k2.kn hy;omega
     ·have:=hs.inj y x a k2 hkx.kn hy hbx;subst this;rw [List.getElem?_append_left (kwl hkj)] at hx;exact hno j' hx
   ·rw [b2lo y hl] at hy;rw [b2lo y' hl'] at hy';exact hs.inj y y' a ⟨b,hm1,hbr⟩ ⟨d,hm2,hdd⟩ hy hy'
  ·unfold Dd;rw [List.length_append,fR,List.length_map,List.length_drop];rcases Nat.lt_or_ge y m.length with hl|hl
   ·omega
   ·have e:β2 y=δ ((ns++rs).length+(y-m.length)):=if_neg (by omega)
    rw [e] at hy;have:=hδs.CC _ _ hy;omega
 ·refine ⟨hle,fun y hy=>b2lo y hy,by unfold Dd;rw [List.length_append,fR];omega,?_,?_,hδi.os,hδi.tape,hδi.output,hδi.size,?_,?_⟩
  rotate_left 3
  ·intro sh v xs e;rcases hδi.WR sh v xs e with e|e|e
   ·exact .inl (by rw [←hγ] at e;exact e)
   ·exact .inr (.inl e)
   ·refine .inr (.inr fun b o n c hv=>?_);rcases e b o n c hv with e|⟨j,hj,hjb⟩|e
    ·exact .inl e
    ·obtain ⟨x,a,hx,hkx,hbx,hga⟩:=cal (q:=true) hj;rw [hjb] at hga;cases hga;exact .inr (.inl ⟨x,hkx,hbx⟩)
    ·exact .inr (.inr (by rw [←hγ] at e;exact e))
  ·rintro q y hy ⟨b,hb,hr⟩;rcases cut y b hb with ⟨i,c,hi,rfl,hyi,_⟩|⟨hl,_,_⟩
   ·obtain ⟨a,ha,hor⟩:=whr (q:=q) (i:=i) ⟨c,hi,qO.1 hr⟩;refine ⟨a,by rw [hyi];exact hback _ _ ha,hor.imp id ?_⟩
    rintro ⟨j,x,_,hkx,hbx,_⟩;exact ⟨x,hkx,hbx⟩
   ·omega
  ·rintro q y hy ⟨b,hb,hr⟩;rcases cut y b hb with ⟨i,c,hi,rfl,hyi,hiff⟩|⟨_,_,hm1⟩
   ·have hil:i<(ns++rs).length:=by omega
    obtain ⟨x,a,hx,hkx,_,_⟩:=cal (hδi.sub q i (by rw [←hlen];exact hil) ⟨c,hi,qO.1 hr⟩)
    have:y=x:=by rw [hyi];unfold back;rw [hx]
    rw [this];exact hkx
   ·exact ⟨b,hm1,hr⟩
  ·intro k0 hk0 hf;refine hδi.frame k0 hk0 fun i hi e=>?_;obtain ⟨x,a,hx,hkx,hbx,hga⟩:=cal (q:=true) hi;rw [e] at hga;cases hga;exact hf x hkx hbx
def CX(P:Program)(Δ:List (FuncId×MC)):Prop:= ∀f c,(f,c)∈Δ→ab P f c
theorem CX.nil(P:Program):CX P []:=fun f c h=>by simp at h
theorem CX.cons {P:Program} {Δ:List (FuncId×MC)} {f:FuncId} {c:MC}(h:ab P f c)(k:CX P Δ):CX P ((f,c)::Δ):=by
 intro g d hm;rcases List.mem_cons.1 hm with e|hm
 ·cases e;exact h
 ·exact k g d hm
def BOk(P:Program)(B:List (FuncId×BC)):Prop:= ∀f c,(f,c)∈B→UP P f c
theorem BOk.nil(P:Program):BOk P []:=fun f c h=>by simp at h
theorem Ctx.a3a {M:Md} {P:Program} {Γ:List (FuncId×FX)} {Δ:List (FuncId×MC)} {B:List (FuncId×BC)} {N:List FuncId}(hm:P.follows .mixedOrders=true)(h:Ci P Γ)(k:CX P Δ)(b:BOk P B):Ctx.Ok ⟨M,P,Γ,Δ,B,none,false,N,none⟩:=
 ⟨h,k,b,hm,fun h e=>by cases e⟩
end Go.Proofs.YtfdmjoddhjmokaaGreatDoor.Rex
namespace Go.Proofs.YtfdmjoddhjmokaaGreatDoor.Rex
open Go.RowKit
set_option linter.unusedVariables false
set_option linter.unusedSimpArgs false
structure Gl (p:Prop):Prop where
 out:p
theorem af {p q:Prop}(h:p=q)(k:q):Gl p:=⟨by rw [h];exact k⟩
end Go.Proofs.YtfdmjoddhjmokaaGreatDoor.Rex
