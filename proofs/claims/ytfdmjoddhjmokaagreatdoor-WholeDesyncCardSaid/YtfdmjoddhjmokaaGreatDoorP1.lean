/- Part of the proof of WholeDesync (see the last text). Conditions: none. Own work; printed by programs of mine. -/
import Derived.Handy
import Derived.Laws.Rows
import Derived.Scope
import Derived.Orders
import Derived.DeepKeys
import Derived.OrdersIn
import Derived.TacticsIn
import Derived.Laws.MakeOwn
import Derived.Laws.Slices
import Derived.Laws.Append
import Derived.Laws.AppendOwn
import Derived.Lib.SlBytesRow
import Derived.RangeFuncRecord
import Derived.Lib.ConvBytes
import Derived.Maps.RangeRun
namespace Go.Proofs.YtfdmjoddhjmokaaGreatDoor
open Go.RowKit
def Ext(w w':World):Prop:=Below w.heap.size w w'
theorem Ext.refl(w:World):Ext w w:=Below.refl _ _
theorem Ext.grow {a b:World}(h:Ext a b)(o:Obj):Ext a (b.alloc o):=Below.alloc h h.size o
theorem Ext.drew {a b:World}(h:Ext a b):Ext a b.drew:=Below.drew h
theorem Ext.size {a b:World}(h:Ext a b):a.heap.size≤b.heap.size:=Below.size h
end Go.Proofs.YtfdmjoddhjmokaaGreatDoor
namespace Go.Proofs.YtfdmjoddhjmokaaGreatDoor.Rex
open Go.RowKit
def ggV:List Value:= [.int .i64 0,.int .i64 0,.int .i64 0,.int .i64 0,.int .i64 0,.int .i64 6000,.int .i64 3,.int .i64 0,.int .i64 24000,.int .i64 12000,.int .i64 12,.int .i64 6,.int .i64 8000,.int .i64 0,.int .i64 4,.int .i64 0,.int .i64 16000,.int .i64 8000,.int .i64 8,.int .i64 4,.int .i64 32768,.int .i64 32768,.int .i64 30,.int .i64 24,.int .i64 0,.int .i64 4000,.int .i64 6,.int .i64 8,.int .i64 0,.int .i64 0,.int .i64 0,.int .i64 0,.int .i64 0,.int .i64 0,.int .i64 0,.int .i64 0,.int .i64 0,.int .i64 0,.int .i64 0,.int .i64 0]
def ggK:List (Option IntKind):= [some .i64,some .i64,some .i64,some .i64,some .i64,some .i64,some .i64,some .i64,some .i64,some .i64,some .i64,some .i64,some .i64,some .i64,some .i64,some .i64,some .i64,some .i64,some .i64,some .i64,some .i64,some .i64,some .i64,some .i64,some .i64,some .i64,some .i64,some .i64,some .i64,some .i64,some .i64,some .i64,some .i64,some .i64,some .i64,some .i64,some .i64,some .i64,some .i64,some .i64]
def GG:List (Nat×List Value):= [(0,ggV)]
end Go.Proofs.YtfdmjoddhjmokaaGreatDoor.Rex
namespace Go.Proofs.YtfdmjoddhjmokaaGreatDoor.Rex
open Go.RowKit
set_option linter.unusedVariables false
set_option linter.unusedSimpArgs false
inductive Kd where
 |int (k:IntKind)
 |bool
 |str
 |im (sh:List Kd)
mutual
@[reducible] def Kd.T:Kd→Type
 | .int _=>Int
 | .bool=>Bool
 | .str=>List UInt8
 | .im sh=>Value×List (Row sh)
@[reducible] def Row:List Kd→Type
 | []=>Unit
 |k::l=>k.T×Row l
end
mutual
def ab5:(a b:Kd)→Option (PLift (a=b))
 | .int k,.int k'=>if h:k=k' then some ⟨by rw [h]⟩ else none
 | .bool,.bool=>some ⟨rfl⟩
 | .str,.str=>some ⟨rfl⟩
 | .im a,.im b=>match iM a b with
  |some ⟨h⟩=>some ⟨by rw [h]⟩
  |none=>none
 |_,_=>none
def iM:(a b:List Kd)→Option (PLift (a=b))
 | [],[]=>some ⟨rfl⟩
 |a::l,b::m=>match ab5 a b,iM l m with
  |some ⟨h⟩,some ⟨h'⟩=>some ⟨by rw [h,h']⟩
  |_,_=>none
 |_,_=>none
end
def eA {sh sh':List Kd}(h:sh'=sh)(xs:List (Row sh')):List (Row sh):=h▸xs
def dc(l:List UInt8):Value:= .string ⟨⟨l⟩⟩
inductive Lf where
 |int (k:IntKind) (kn:Bool) (n:Int)
 |bool (kn:Bool) (b:Bool)
 |ptr (x off:Nat)
 |cb
 |sl (x off:Nat) (kn:Bool) (len cap:Nat)
 |aj
 |op (v:Value)
 |bX
 |rs (z:Bool) (tg x base sz o n c:Nat)
 |rp (x base sz i f:Nat)
 |gv (sh:List Kd) (v:Value) (xs:List (Row sh))
 |imp (sh:List Kd) (v:Value) (xs:List (Row sh)) (i f:Nat)
 |mp (x:Nat)
 |xW (t:TypeId) (x off:Nat)
def Kd.val:(k:Kd)→k.T→Value
 | .int k,n=> .int k n
 | .bool,q=> .bool q
 | .str,l=>dc l
 | .im _,p=>p.1
def Kd.lf:(k:Kd)→k.T→Lf
 | .int k,n=> .int k false n
 | .bool,q=> .bool false q
 | .str,l=> .op (dc l)
 | .im sh,p=> .gv sh p.1 p.2
def Kd.z:(k:Kd)→k.T
 | .int _=>(0:Int)
 | .bool=>false
 | .str=> []
 | .im _=>(.slice none 0 0,[])
def Kd.of:(k:Kd)→Lf→Option k.T
 | .int k,.int k' _ n=>match decide (k=k') with
  |true=>some n
  |false=>none
 | .bool,.bool _ q=>some q
 | .str,.op v=>match v with
  | .string b=>some b.data.toList
  |_=>none
 | .im sh,.gv sh' v xs=>match iM sh' sh with
  |some ⟨h⟩=>some (v,eA h xs)
  |none=>none
 | .im _,.aj=>some (.slice none 0 0,[])
 |_,_=>none
def bA:(sh:List Kd)→Row sh→List Value
 | [],_=> []
 |k::l,r=>k.val r.1::bA l r.2
def KP:(sh:List Kd)→Row sh→List Lf
 | [],_=> []
 |k::l,r=>k.lf r.1::KP l r.2
def kj:(sh:List Kd)→Row sh
 | []=>()
 |k::l=>(k.z,kj l)
def rowOf:(sh:List Kd)→List Lf→Option (Row sh)
 | [],[]=>some ()
 |k::l,x::m=>match k.of x with
  |some a=>match rowOf l m with
   |some r=>some (a,r)
   |none=>none
  |none=>none
 |_,_=>none
def al {sh:List Kd}(xs:List (Row sh))(i:Nat):Row sh:=xs.getD i (kj sh)
inductive Vv where
 |one (l:Lf)
 |agg (l:List Lf)
inductive SV where
 |v (x:Vv)
 |cz (l:List Vv)
 |lO (f:FuncId) (caps:List Lf)
 |bX
 |xX (name:String) (t:TypeId) (x off:Nat)
structure Nm where
 nm:Nat→Option Nat
 g:(sh:List Kd)→Value→List (Row sh)→Prop
instance:CoeFun Nm fun _=>Nat→Option Nat:=⟨Nm.nm⟩
structure Nm.le (β γ:Nm):Prop where
 nm: ∀x b,β x=some b→γ x=some b
 g: ∀sh v xs,β.g sh v xs→γ.g sh v xs
instance(β γ:Nm):CoeFun (β.le γ) fun _=> ∀x b,β x=some b→γ x=some b:=⟨Nm.le.nm⟩
theorem Nm.le_refl(β:Nm):β.le β:=⟨fun _ _ h=>h,fun _ _ _ h=>h⟩
theorem Nm.le_trans {α β γ:Nm}(h:α.le β)(k:β.le γ):α.le γ:=⟨fun x b e=>k x b (h x b e),fun sh v xs e=>k.g sh v xs (h.g sh v xs e)⟩
def Nm.im(β:Nm)(sh:List Kd)(v:Value)(xs:List (Row sh)):Prop:=β.g sh v xs∨(v= .slice none 0 0∧xs= [])
theorem Nm.im.mono {β γ:Nm}(h:β.le γ) {sh:List Kd} {v:Value} {xs:List (Row sh)}(k:β.im sh v xs):γ.im sh v xs:=k.imp (h.g sh v xs) id
def yj(β:Nm)(z:Bool)(tg x base sz o n c:Nat)(v:Value):Prop:=
 (tg=0→o=0)∧n≤c∧((z=true∧n=0∧ ∃q,v= .slice q 0 c)∨(z=false∧ ∃b,β x=some b∧v= .slice (some ⟨b,base+o*sz,none⟩) n c))
inductive aq (β:Nm):Lf→Value→Prop where
 |int {k kn n}:aq β (.int k kn n) (.int k n)
 |bool {kn b}:aq β (.bool kn b) (.bool b)
 |ptr {x o b} (h:β x=some b):aq β (.ptr x o) (.pointer (some ⟨b,o,none⟩))
 |cb:aq β .cb (.pointer none)
 |sl {x o kn n c b} (h:β x=some b):aq β (.sl x o kn n c) (.slice (some ⟨b,o,none⟩) n c)
 |aj:aq β .aj (.slice none 0 0)
 |op {v} (h:v.oneCell'=true):aq β (.op v) v
 |bX {v} (h:v.oneCell'=true):aq β .bX v
 |rs {z tg x base sz o n c v} (h:yj β z tg x base sz o n c v):aq β (.rs z tg x base sz o n c) v
 |rp {x base sz i f b} (h:β x=some b):aq β (.rp x base sz i f) (.pointer (some ⟨b,base+i*sz+f,none⟩))
 |gv {sh v xs} (h:β.im sh v xs) (hs:v.oneCell'=true):aq β (.gv sh v xs) v
 |imp {sh v xs i f b o n c} (h:β.im sh v xs) (hv:v= .slice (some ⟨b,o,none⟩) n c):aq β (.imp sh v xs i f) (.pointer (some ⟨b,o+i*sh.length+f,none⟩))
 |mp {x b} (h:β x=some b):aq β (.mp x) (.map (some b))
 |xW {t x o b} (h:β x=some b):aq β (.xW t x o) (.iface t (.pointer (some ⟨b,o,none⟩)))
inductive ae {α β:Type} (R:α→β→Prop):List α→List β→Prop where
 |nil:ae R [] []
 |cons {a b l m} (h:R a b) (t:ae R l m):ae R (a::l) (b::m)
inductive bC (β:Nm):Vv→Value→Prop where
 |one {l v} (h:aq β l v):bC β (.one l) v
 |agg {ls vs} (h:ae (aq β) ls vs):bC β (.agg ls) (.agg ⟨vs⟩)
inductive Has (β:Nm):SV→Value→Prop where
 |v {x u} (h:bC β x u):Has β (.v x) u
 |cz {ls vs} (h:ae (bC β) ls vs):Has β (.cz ls) (.tuple ⟨vs⟩)
 |lO {f ls vs} (h:ae (aq β) ls vs):Has β (.lO f ls) (.func (.func f) #[] ⟨vs⟩)
 |bX {v}:Has β .bX v
 |xX {n t x o b} (h:β x=some b):Has β (.xX n t x o) (.func (.method n) #[.iface t (.pointer (some ⟨b,o,none⟩))] #[])
section
variable {A B:Type} {R S:A→B→Prop}
theorem ae.mono {l:List A} {m:List B}(h:ae R l m)(k: ∀a b,R a b→S a b):ae S l m:=by
 induction h with
 |nil=>exact .nil
 |cons h _ ih=>exact .cons (k _ _ h) ih
theorem ae.length {l:List A} {m:List B}(h:ae R l m):m.length=l.length:=by
 induction h with
 |nil=>rfl
 |cons h _ ih=>simp [ih]
theorem ae.append {l l':List A} {m m':List B}(h:ae R l m)(k:ae R l' m'):ae R (l++l') (m++m'):=by
 induction h with
 |nil=>exact k
 |cons h _ ih=>exact .cons h ih
theorem ae.drop {l:List A} {m:List B}(h:ae R l m): ∀n,ae R (l.drop n) (m.drop n):=by
 induction h with
 |nil=>intro n;simpa using ae.nil
 |cons h t ih=>intro n;cases n with
  |zero=>exact .cons h t
  |succ n=>exact ih n
theorem ae.take {l:List A} {m:List B}(h:ae R l m): ∀n,ae R (l.take n) (m.take n):=by
 induction h with
 |nil=>intro n;simpa using ae.nil
 |cons h t ih=>intro n;cases n with
  |zero=>exact .nil
  |succ n=>exact .cons h (ih n)
theorem ae.get {l:List A} {m:List B}(h:ae R l m): ∀ {i:Nat} {a:A},l[i]? =some a→ ∃b,m[i]? =some b∧R a b:=by
 induction h with
 |nil=>intro i a h;simp at h
 | @cons a b l1 m1 h t ih=>
  intro i x hx;cases i with
  |zero=>simp at hx;subst hx;exact ⟨_,by simp,h⟩
  |succ i=>simp at hx;obtain ⟨y,hy,hr⟩:=ih hx;exact ⟨y,by simpa using hy,hr⟩
theorem ae.get' {l:List A} {m:List B}(h:ae R l m): ∀ {i:Nat} {b:B},m[i]? =some b→ ∃a,l[i]? =some a∧R a b:=by
 induction h with
 |nil=>intro i a h;simp at h
 | @cons a b l1 m1 h t ih=>
  intro i x hx;cases i with
  |zero=>simp at hx;subst hx;exact ⟨_,by simp,h⟩
  |succ i=>simp at hx;obtain ⟨y,hy,hr⟩:=ih hx;exact ⟨y,by simpa using hy,hr⟩
theorem ae.set {l:List A} {m:List B}(h:ae R l m) {a:A} {b:B}(k:R a b): ∀n,ae R (l.set n a) (m.set n b):=by
 induction h with
 |nil=>intro n;simpa using ae.nil
 |cons h t ih=>intro n;cases n with
  |zero=>exact .cons k t
  |succ n=>exact .cons h (ih n)
theorem ae.aI {m:List B}(h:ae R [] m):m= []:=by cases h;rfl
theorem ae.cons_inv {a:A} {l:List A} {m:List B}(h:ae R (a::l) m): ∃b bs,m=b::bs∧R a b∧ae R l bs:=by
 cases h with
 |cons h t=>exact ⟨_,_,rfl,h,t⟩
end
theorem yj.mono {β γ:Nm}(h:β.le γ) {z tg x base sz o n c v}(k:yj β z tg x base sz o n c v):yj γ z tg x base sz o n c v:=by
 obtain ⟨h1,h2,k⟩:=k;refine ⟨h1,h2,?_⟩;rcases k with k|⟨hz,b,hb,hv⟩
 ·exact .inl k
 ·exact .inr ⟨hz,b,h _ _ hb,hv⟩
theorem yj.isSlice {β:Nm} {z tg x base sz o n c v}(k:yj β z tg x base sz o n c v): ∃q,v= .slice q n c:=by
 rcases k.2.2 with ⟨_,rfl,q,rfl⟩|⟨_,b,_,rfl⟩
 ·exact ⟨q,rfl⟩
 ·exact ⟨_,rfl⟩
theorem aq.mono {β γ:Nm}(h:β.le γ) {l:Lf} {v:Value}(k:aq β l v):aq γ l v:=by
 cases k with
 |int=>exact .int
 |bool=>exact .bool
 |ptr e=>exact .ptr (h _ _ e)
 |cb=>exact .cb
 |sl e=>exact .sl (h _ _ e)
 |aj=>exact .aj
 |op e=>exact .op e
 |bX e=>exact .bX e
 |rs e=>exact .rs (e.mono h)
 |rp e=>exact .rp (h _ _ e)
 |gv e k=>exact .gv (e.mono h) k
 |imp e k=>exact .imp (e.mono h) k
 |mp e=>exact .mp (h _ _ e)
 |xW e=>exact .xW (h _ _ e)
theorem bC.mono {β γ:Nm}(h:β.le γ) {l:Vv} {v:Value}(k:bC β l v):bC γ l v:=by
 cases k with
 |one e=>exact .one (e.mono h)
 |agg e=>exact .agg (e.mono fun _ _=>aq.mono h)
theorem Has.mono {β γ:Nm}(h:β.le γ) {l:SV} {v:Value}(k:Has β l v):Has γ l v:=by
 cases k with
 |v e=>exact .v (e.mono h)
 |cz e=>exact .cz (e.mono fun _ _=>bC.mono h)
 |lO e=>exact .lO (e.mono fun _ _=>aq.mono h)
 |bX=>exact .bX
 |xX e=>exact .xX (h _ _ e)
theorem aq.kT {β:Nm} {l:Lf} {v:Value}(k:aq β l v):v.oneCell'=true:=by
 cases k with
 |rs h=>obtain ⟨q,rfl⟩:=h.isSlice;rfl
 |_=>first|rfl|assumption
theorem aq.cells {β:Nm} {l:Lf} {v:Value}(k:aq β l v):v.cells= #[v]:=by
 have:=k.kT;cases v<;>first|rfl|(simp [Value.oneCell'] at this)
def Vv.cells:Vv→List Lf
 | .one l=> [l]
 | .agg l=>l
theorem bC.cells {β:Nm} {x:Vv} {v:Value}(k:bC β x v): ∃vs,v.cells=⟨vs⟩∧ae (aq β) x.cells vs:=by
 cases k with
 |one e=>exact ⟨[v],by rw [e.cells],.cons e .nil⟩
 |agg e=>exact ⟨_,rfl,e⟩
def aP(β:Nm):(sh:List Kd)→Row sh→Prop
 | [],_=>True
 | .im sh'::l,r=>(β.im sh' r.1.1 r.1.2∧r.1.1.oneCell'=true)∧aP β l r.2
 | .int _::l,r=>aP β l r.2
 | .bool::l,r=>aP β l r.2
 | .str::l,r=>aP β l r.2
def aN(β:Nm)(sh:List Kd)(xs:List (Row sh)):Prop:= ∀r∈xs,aP β sh r
theorem aP.mono {β γ:Nm}(h:β.le γ): ∀ {sh:List Kd} {r:Row sh},aP β sh r→aP γ sh r
 | [],_,_=>trivial
 | .im _::l,r,k=>⟨⟨k.1.1.mono h,k.1.2⟩,aP.mono h (sh:=l) k.2⟩
 | .int _::l,r,k=>aP.mono h (sh:=l) (r:=r.2) k
 | .bool::l,r,k=>aP.mono h (sh:=l) (r:=r.2) k
 | .str::l,r,k=>aP.mono h (sh:=l) (r:=r.2) k
theorem aN.mono {β γ:Nm}(h:β.le γ) {sh:List Kd} {xs:List (Row sh)}(k:aN β sh xs):aN γ sh xs:=fun r hr=>(k r hr).mono h
theorem nA {β:Nm}: ∀ {sh:List Kd},aP β sh (kj sh)
 | []=>trivial
 | .im _::l=>⟨⟨.inr ⟨rfl,rfl⟩,rfl⟩,nA (sh:=l)⟩
 | .int _::l=>nA (sh:=l)
 | .bool::l=>nA (sh:=l)
 | .str::l=>nA (sh:=l)
theorem aN.get {β:Nm} {sh:List Kd} {xs:List (Row sh)}(h:aN β sh xs)(i:Nat):aP β sh (al xs i):=by
 unfold al;rw [List.getD_eq_getElem?_getD];rcases Nat.lt_or_ge i xs.length with hl|hl
 ·rw [List.getElem?_eq_getElem hl];exact h _ (List.getElem_mem hl)
 ·rw [List.getElem?_eq_none hl];exact nA
def A8:List Kd→Bool
 | []=>true
 | .im _::_=>false
 | .int _::l=>A8 l
 | .bool::l=>A8 l
 | .str::l=>A8 l
theorem mT {β:Nm}: ∀ {sh:List Kd} {r:Row sh},A8 sh=true→aP β sh r
 | [],_,_=>trivial
 | .im _::l,r,k=>by cases k
 | .int _::l,r,k=>mT (sh:=l) (r:=r.2) k
 | .bool::l,r,k=>mT (sh:=l) (r:=r.2) k
 | .str::l,r,k=>mT (sh:=l) (r:=r.2) k
theorem aN.nil {β:Nm} {sh:List Kd}:aN β sh []:=fun _ h=>by cases h
theorem aN.append {β:Nm} {sh:List Kd} {xs ys:List (Row sh)}(h:aN β sh xs)(k:aN β sh ys):aN β sh (xs++ys):=fun r hr=>(List.mem_append.1 hr).elim (h r) (k r)
theorem aN.take {β:Nm} {sh:List Kd} {xs:List (Row sh)}(h:aN β sh xs)(n:Nat):aN β sh (xs.take n):=fun r hr=>h r (List.mem_of_mem_take hr)
theorem aN.drop {β:Nm} {sh:List Kd} {xs:List (Row sh)}(h:aN β sh xs)(n:Nat):aN β sh (xs.drop n):=fun r hr=>h r (List.mem_of_mem_drop hr)
theorem aN.set {β:Nm} {sh:List Kd} {xs:List (Row sh)} {r:Row sh}(h:aN β sh xs)(k:aP β sh r)(n:Nat):aN β sh (xs.set n r):=fun q hq=>(List.mem_or_eq_of_mem_set hq).elim (h q) fun e=>by rw [e];exact k
theorem aN.rep {β:Nm} {sh:List Kd}(n:Nat):aN β sh (List.replicate n (kj sh)):=fun r hr=>by rw [List.eq_of_mem_replicate hr];exact nA
theorem eo {β:Nm}: ∀ {sh:List Kd} {r:Row sh},aP β sh r→ae (aq β) (KP sh r) (bA sh r)
 | [],_,_=> .nil
 | .int _::l,r,h=> .cons .int (eo (sh:=l) (r:=r.2) h)
 | .bool::l,r,h=> .cons .bool (eo (sh:=l) (r:=r.2) h)
 | .str::l,r,h=> .cons (.op rfl) (eo (sh:=l) (r:=r.2) h)
 | .im _::l,r,h=> .cons (.gv h.1.1 h.1.2) (eo (sh:=l) (r:=r.2) h.2)
theorem bM: ∀ {sh:List Kd} {r:Row sh},(bA sh r).length=sh.length
 | [],_=>rfl
 |k::l,r=>by simp [bA,bM (sh:=l)]
theorem my {β:Nm}: ∀ {sh:List Kd} {l:List Lf} {r:Row sh} {vs:List Value},rowOf sh l=some r→ae (aq β) l vs→vs=bA sh r∧aP β sh r
 | [],[],r,vs,h,k=>by rw [k.aI];exact ⟨rfl,trivial⟩
 |d::sh,x::l,r,vs,h,k=>by
  obtain ⟨v,vs,rfl,hv,k⟩:=k.cons_inv;unfold rowOf at h;split at h
  ·rename_i a ha;split at h
   ·rename_i r' hr;cases h;have ih:=my hr k;obtain ⟨ih,ho⟩:=ih;subst ih;have key:v=d.val a∧(∀r:Row sh,aP β sh r→aP β (d::sh) (a,r)):=by
     unfold Kd.of at ha;split at ha
     ·split at ha
      ·rename_i e;have:=of_decide_eq_true e;subst this;cases ha;cases hv;exact ⟨rfl,fun r h=>h⟩
      ·cases ha
     ·cases ha;cases hv;exact ⟨rfl,fun r h=>h⟩
     ·split at ha
      ·cases ha;cases hv;exact ⟨rfl,fun r h=>h⟩
      ·cases ha
     ·split at ha
      ·rename_i e h0;subst e;cases ha;cases hv;exact ⟨rfl,fun r h=>⟨⟨by assumption,by assumption⟩,h⟩⟩
      ·cases ha
     ·cases ha;cases hv;exact ⟨rfl,fun r h=>⟨⟨.inr ⟨rfl,rfl⟩,rfl⟩,h⟩⟩
     ·cases ha
    exact ⟨by rw [key.1];rfl,key.2 r' ho⟩
   ·cases h
  ·cases h
 | [],_::_,_,_,h,_=>by cases h
 |_::_,[],_,_,h,_=>by cases h
theorem bN {sh:List Kd}: ∀ {xs:List (Row sh)},(xs.flatMap (bA sh)).length=xs.length*sh.length
 | []=>by simp
 |x::xs=>by rw [List.flatMap_cons,List.length_append,bM,bN (xs:=xs),List.length_cons,Nat.add_mul];omega
inductive bG where
 |cells (l:List Lf) (t:TypeId)
 |rows (ro z:Bool) (sh:List Kd) (xs:List (Row sh)) (base tot:Nat) (t:TypeId)
 |loop (r:Loop) (j:Nat)
 |map (ks:List Kd) (ka:Bool) (vs:List Kd) (va:Bool) (es:List (Row ks×Row vs×Nat)) (clk:Nat)
 |it (x since:Nat) (seen:List Nat) (last:Nat)
def bG.dead:bG→Prop
 | .cells _ _=>False
 | .rows _ z _ xs _ _ _=>z=true∧xs= []
 | .loop _ _=>False
 | .map _ _ _ _ _ _=>False
 | .it _ _ _ _=>False
def bG.rw:bG→Prop
 | .cells _ _=>True
 | .rows ro z _ _ _ _ _=>ro=false∧z=false
 | .loop _ _=>True
 | .map _ _ _ _ _ _=>True
 | .it _ _ _ _=>True
theorem bG.rw.alive {b:bG}(h:b.rw): ¬b.dead:=by
 cases b with
 |cells=>exact id
 |loop=>exact id
 |map=>exact id
 |it=>exact id
 |rows=>intro k;have h1:=h.2;rw [k.1] at h1;cases h1
abbrev Mem:=List (Option bG)
def dT(sh:List Kd)(xs:List (Row sh))(base tot:Nat)(vs:List Value):Prop:=
 xs.length≤tot∧base+tot*sh.length≤vs.length∧(vs.drop base).take (xs.length*sh.length)=xs.flatMap (bA sh)
def ea(r:Loop):Nat→Loop
 |0=> {r with state:= .ready,pending:=none}
 |1=> {r with state:= .busy,pending:=none}
 |2=> {r with state:= .done,pending:=some .ret}
 |n+3=> {r with state:= .done,pending:=some (.exit n)}
def vS(a:Bool)(sh:List Kd)(r:Row sh):Value:=match a with
 |true=> .agg ⟨bA sh r⟩
 |false=>(bA sh r).headD undef
def e8(ks:List Kd)(ka:Bool)(vs:List Kd)(va:Bool)(e:Row ks×Row vs×Nat):MapEntry:= {key:=vS ka ks e.1,val:=vS va vs e.2.1,born:=e.2.2}
def cw(β:Nm):bG→Option Obj→Prop
 | .cells l t,o=> ∃vs,o=some (.cells ⟨vs⟩ t (0,0))∧ae (aq β) l vs
 | .rows ro z sh xs base tot t,o=>z=false∧ ∃vs fz t',o=some (.cells ⟨vs⟩ t' fz)∧(ro=false→fz=(0,0)∧t'=t)∧dT sh xs base tot vs∧aN β sh xs
 | .loop r j,o=>o=some (.loop (ea r j))
 | .map ks ka vs va es clk,o=>o=some (.map ⟨es.map (e8 ks ka vs va)⟩ clk)∧ ∀e∈es,aP β vs e.2.1
 | .it x since seen last,o=> ∃b,β x=some b∧o=some (.mapIter (some b) since ⟨seen⟩ last)
def bG.can:Bool→bG→Prop
 |true,b=>b.rw
 |false,b=> ¬b.dead
theorem bG.can.alive {q:Bool} {b:bG}(h:b.can q): ¬b.dead:=by
 cases q with
 |false=>exact h
 |true=>exact bG.rw.alive h
def kq(q:Bool)(m:Mem)(x:Nat):Prop:= ∃b,m[x]? =some (some b)∧b.can q
def kn(m:Mem)(x:Nat):Prop:= ∃b,m[x]? =some (some b)∧ ¬b.dead
def kw(m:Mem)(x:Nat):Prop:= ∃b,m[x]? =some (some b)∧b.rw
theorem kq.kn {q:Bool} {m:Mem} {x:Nat}(h:kq q m x):kn m x:=by
 obtain ⟨b,h1,h2⟩:=h;exact ⟨b,h1,h2.alive⟩
theorem kw.kn {m:Mem} {x:Nat}(h:kw m x):kn m x:=by
 obtain ⟨b,h1,h2⟩:=h;exact ⟨b,h1,h2.alive⟩
def NG(a:Nat):Prop:= ∀p∈GG,p.1≠a
def tC(w:World):Prop:= ∀p∈GG,∃t fz,w.heap[p.1]? =some (.cells ⟨p.2⟩ t fz)
theorem tC.lt {w:World}(h:tC w) {a:Nat}(ha:w.heap.size≤a):NG a:=by
 intro p hp e;obtain ⟨t,fz,hh⟩:=h p hp;rw [e,Array.getElem?_eq_none ha] at hh;cases hh
theorem tC.mU {w w':World}(h:tC w)(k: ∀p∈GG,p.1<w.heap.size→w'.heap[p.1]? =w.heap[p.1]?):tC w':=by
 intro p hp;obtain ⟨t,fz,hh⟩:=h p hp;exact ⟨t,fz,by rw [k p hp (Array.getElem?_eq_some_iff.1 hh).1];exact hh⟩
def kr(β:Nm)(m:Mem)(w:World)(sh:List Kd)(v:Value)(xs:List (Row sh)):Prop:=aN β sh xs∧ ∃c,xs.length≤c∧
 ((xs= []∧ ∃q,v= .slice q 0 c)∨ ∃ (b base:Nat) (vs:List Value) (t:TypeId) (fz:Nat×Nat),v= .slice (some ⟨b,base,none⟩) xs.length c∧w.heap[b]? =some (.cells ⟨vs⟩ t fz)∧dT sh xs base xs.length vs∧ ∀y,kw m y→β y≠some b)
structure Sat (β:Nm) (m:Mem) (w:World):Prop where
 dz: ∀x b,m[x]? =some (some b)→b.dead∨ ∃a,β x=some a∧cw β b w.heap[a]?
 inj: ∀x y a,kw m x→kn m y→β x=some a→β y=some a→x=y
 CC: ∀x a,β x=some a→x<m.length
 gl:tC w
 ng: ∀x a,kw m x→β x=some a→NG a
 im: ∀sh v xs,β.g sh v xs→kr β m w sh v xs
theorem Sat.live {β:Nm} {m:Mem} {w:World}(h:Sat β m w) {x:Nat} {b:bG}(hb:m[x]? =some (some b))(hd: ¬b.dead): ∃a,β x=some a∧cw β b w.heap[a]? :=(h.dz x b hb).resolve_left hd
theorem Sat.cells {β:Nm} {m:Mem} {w:World}(h:Sat β m w) {x:Nat} {l:List Lf} {t:TypeId}(hb:m[x]? =some (some (.cells l t))): ∃a,β x=some a∧cw β (.cells l t) w.heap[a]? :=h.live hb id
def imb(β:Nm)(b:Nat):Prop:= ∃sh v xs o n c,β.g sh v xs∧xs≠ []∧v= .slice (some ⟨b,o,none⟩) n c
structure ai (m0:Mem) (β0:Nm) (w0:World) (m:Mem) (β:Nm) (w:World):Prop where
 ext:β0.le β
 same: ∀x,x<m0.length→β x=β0 x
 len:m0.length≤m.length
 new: ∀q x,m0.length≤x→kq q m x→ ∃a,β x=some a∧(w0.heap.size≤a∨ ∃y,kq q m0 y∧β0 y=some a)
 sub: ∀q x,x<m0.length→kq q m x→kq q m0 x
 os:w.os=w0.os
 tape:w.tape=w0.tape
 output:w.output=w0.output
 size:w0.heap.size≤w.heap.size
 frame: ∀k,k<w0.heap.size→(∀x,kw m0 x→β0 x≠some k)→w.heap[k]? =w0.heap[k]?
 WR: ∀sh v xs,β.g sh v xs→β0.g sh v xs∨xs= []∨ ∀b o n c,v= .slice (some ⟨b,o,none⟩) n c→w0.heap.size≤b∨(∃y,kw m0 y∧β0 y=some b)∨imb β0 b
theorem a1K {m:Mem} {x:Nat}(h:kn m x):x<m.length:=by
 obtain ⟨b,h,_⟩:=h;exact (List.getElem?_eq_some_iff.1 h).1
theorem TO {m:Mem} {x:Nat}(h:kw m x):x<m.length:=a1K h.kn
theorem Al {q:Bool} {m:Mem} {x:Nat}(h:kq q m x):x<m.length:=a1K h.kn
theorem ai.refl(m:Mem)(β:Nm)(w:World):ai m β w m β w:=
 ⟨Nm.le_refl β,fun _ _=>rfl,Nat.le_refl _,fun q x h k=>absurd (Al k) (by omega),fun _ _ _ h=>h,rfl,rfl,rfl,Nat.le_refl _,fun _ _ _=>rfl,fun _ _ _ h=> .inl h⟩
theorem Sat.zA {β:Nm} {m:Mem} {w:World}(h:Sat β m w) {x:Nat}(k:kn m x): ∃a,β x=some a∧a<w.heap.size:=by
 obtain ⟨b,hb,hd⟩:=k;obtain ⟨a,ha,hB⟩:=h.live hb hd;refine ⟨a,ha,?_⟩;rcases Nat.lt_or_ge a w.heap.size with h|h
 ·exact h
 ·rw [Array.getElem?_eq_none h] at hB;cases b with
  |cells=>obtain ⟨vs,e,_⟩:=hB;cases e
  |rows=>obtain ⟨_,vs,fz,t',e,_⟩:=hB;cases e
  |loop=>cases hB
  |map=>have e:=hB.1;cases e
  |it=>obtain ⟨_,_,e⟩:=hB;cases e
theorem ai.trans {m0 m1 m2:Mem} {β0 β1 β2:Nm} {w0 w1 w2:World}(hs:Sat β0 m0 w0)(h:ai m0 β0 w0 m1 β1 w1)(k:ai m1 β1 w1 m2 β2 w2):ai m0 β0 w0 m2 β2 w2:=by
 have uO: ∀q x a,kq q m1 x→β1 x=some a→w0.heap.size≤a∨ ∃y,kq q m0 y∧β0 y=some a:=by
  intro q x a hx ha;by_cases h1:x<m0.length
  ·have k0:=h.sub q x h1 hx;obtain ⟨a',ha',_⟩:=hs.zA k0.kn;have:=h.ext _ _ ha';rw [this] at ha;cases ha;exact .inr ⟨x,k0,ha'⟩
  ·obtain ⟨a',ha',hor⟩:=h.new q x (by omega) hx
   rw [ha'] at ha;cases ha;exact hor
 refine ⟨Nm.le_trans h.ext k.ext,fun x hx=>by rw [k.same x (by have:=h.len;omega),h.same x hx],Nat.le_trans h.len k.len,?_,?_,k.os.trans h.os,k.tape.trans h.tape,k.output.trans h.output,Nat.le_trans h.size k.size,?_,?_⟩
 rotate_left 3
 ·intro sh v xs e;rcases k.WR sh v xs e with e|e|e
  ·exact h.WR sh v xs e
  ·exact .inr (.inl e)
  ·refine .inr (.inr fun b o n c hv=>?_);rcases e b o n c hv with e|⟨y,hy,hyb⟩|⟨sh1,v1,xs1,o1,n1,c1,g1,g2,g3⟩
   ·exact .inl (Nat.le_trans h.size e)
   ·exact (uO true y b hy hyb).imp id .inl
   ·rcases h.WR _ _ _ g1 with e|e|e
    ·exact .inr (.inr ⟨sh1,v1,xs1,o1,n1,c1,e,g2,g3⟩)
    ·exact absurd e g2
    ·exact e _ _ _ _ g3
 ·intro q x hx hk;by_cases h1:m1.length≤x
  ·obtain ⟨a,ha,hl⟩:=k.new q x h1 hk;refine ⟨a,ha,?_⟩;rcases hl with hl|⟨y,hy,hya⟩
   ·exact .inl (Nat.le_trans h.size hl)
   ·exact uO q y a hy hya
  ·have hk1:=k.sub q x (by omega) hk
   obtain ⟨a,ha,hl⟩:=h.new q x hx hk1;exact ⟨a,k.ext _ _ ha,hl⟩
 ·intro q x hx hk;exact h.sub q x hx (k.sub q x (by have:=h.len;omega) hk)
 ·intro i hi hf;rw [k.frame i (by have:=h.size;omega) ?_,h.frame i hi hf]
  intro x hx he;rcases uO true x i hx he with hl|⟨y,hy,hya⟩
  ·omega
  ·exact hf y hy hya
theorem cw.mono {β γ:Nm}(h:β.le γ) {b:bG} {o:Option Obj}(k:cw β b o):cw γ b o:=by
 cases b with
 |cells l t=>obtain ⟨vs,e,hv⟩:=k;exact ⟨vs,e,hv.mono fun _ _=>aq.mono h⟩
 |rows=>obtain ⟨hz,vs,fz,t',e,h1,h2,h3⟩:=k;exact ⟨hz,vs,fz,t',e,h1,h2,h3.mono h⟩
 |loop=>exact k
 |map=>exact ⟨k.1,fun e he=>(k.2 e he).mono h⟩
 |it=>obtain ⟨b,h1,h2⟩:=k;exact ⟨b,h _ _ h1,h2⟩
theorem Sat.lt {β:Nm} {m:Mem} {w:World}(h:Sat β m w) {x a:Nat}(hk:kn m x)(ha:β x=some a):a<w.heap.size:=by
 obtain ⟨a',ha',hl⟩:=h.zA hk;rw [ha] at ha';cases ha';exact hl
theorem Sat.lY {β γ:Nm} {m:Mem} {w w':World}(h:Sat β m w)(hle:β.le γ) {x:Nat} {b:bG}(hb:m[x]? =some (some b))(hk: ∀a,kn m x→β x=some a→w'.heap[a]? =w.heap[a]?):b.dead∨ ∃a,γ x=some a∧cw γ b w'.heap[a]? :=by
 rcases h.dz x b hb with hd|⟨a,ha,hB⟩
 ·exact .inl hd
 ·by_cases hd:b.dead
  ·exact .inl hd
  ·exact .inr ⟨a,hle _ _ ha,by rw [hk a ⟨b,hb,hd⟩ ha];exact hB.mono hle⟩
theorem kr.mU {β γ:Nm} {m m':Mem} {w w':World}(hle:β.le γ)(hw: ∀b,b<w.heap.size→(∀y,kw m y→β y≠some b)→w'.heap[b]? =w.heap[b]?)(ho: ∀y b,b<w.heap.size→kw m' y→γ y=some b→ ∃z,kw m z∧β z=some b) {sh:List Kd} {v:Value} {xs:List (Row sh)}(h:kr β m w sh v xs):kr γ m' w' sh v xs:=by
 obtain ⟨h0,c,hc,h⟩:=h;refine ⟨h0.mono hle,c,hc,?_⟩;rcases h with h|⟨b,base,vs,t,fz,h1,h2,h3,h4⟩
 ·exact .inl h
 ·have hb:b<w.heap.size:=(Array.getElem?_eq_some_iff.1 h2).1;refine .inr ⟨b,base,vs,t,fz,h1,by rw [hw b hb h4];exact h2,h3,fun y hy e=>?_⟩
  obtain ⟨z,hz,hzb⟩:=ho y b hb hy e;exact h4 z hz hzb
theorem Sat.ij {β γ:Nm} {m m':Mem} {w w':World}(h:Sat β m w)(hle:β.le γ)(hg:γ.g=β.g)(hw: ∀b,b<w.heap.size→(∀y,kw m y→β y≠some b)→w'.heap[b]? =w.heap[b]?)(ho: ∀y b,b<w.heap.size→kw m' y→γ y=some b→ ∃z,kw m z∧β z=some b): ∀sh v xs,γ.g sh v xs→kr γ m' w' sh v xs:=by
 intro sh v xs e;rw [hg] at e;exact (h.im sh v xs e).mU hle hw ho
theorem Sat.ext {β:Nm} {m:Mem} {w w':World}(h:Sat β m w)(k:Ext w w'):Sat β m w':=
 ⟨fun x b hb=>h.lY (Nm.le_refl β) hb fun a hk ha=>Below.block k a (h.lt hk ha),h.inj,h.CC,h.gl.mU fun p _ hl=>Below.block k p.1 hl,h.ng,h.ij (Nm.le_refl β) rfl (fun b hb _=>Below.block k b hb) fun y b _ hy e=>⟨y,hy,e⟩⟩
theorem ai.ext' {m:Mem} {β:Nm} {w w':World}(k:Ext w w'):ai m β w m β w':=
 ⟨Nm.le_refl β,fun _ _=>rfl,Nat.le_refl _,fun q x h k=>absurd (Al k) (by omega),fun _ _ _ h=>h,k.os,k.tape,k.output,k.size,fun i hi _=>k.block i hi,fun _ _ _ h=> .inl h⟩
theorem ai.defer {m0 m:Mem} {β0 β:Nm} {w0 w:World}(hs:Sat β0 m0 w0)(h:ai m0 β0 w0 m β w) {D:Nat} {x:Option (List Deferred)}(hD:w0.heap[D]? =some (.deferred x)):w.heap[D]? =some (.deferred x):=by
 rw [h.frame D (Array.getElem?_eq_some_iff.1 hD).1 ?_,hD];rintro y ⟨b,hb,hr⟩ hy;obtain ⟨a,ha,hB⟩:=hs.live hb hr.alive;rw [hy] at ha;cases ha;rw [hD] at hB;cases b with
 |cells=>obtain ⟨vs,e,_⟩:=hB;cases e
 |rows=>obtain ⟨_,vs,fz,t',e,_⟩:=hB;cases e
 |loop=>cases hB
 |map=>have e:=hB.1;cases e
 |it=>obtain ⟨_,_,e⟩:=hB;cases e
theorem ai.a3Q {m0 m:Mem} {β0 β:Nm} {w0 w w':World}(h:ai m0 β0 w0 m β w)(k:ai m β w m β w')(hf: ∀i,i<w.heap.size→w'.heap[i]? =w.heap[i]?):ai m0 β0 w0 m β w':=
 ⟨h.ext,h.same,h.len,h.new,h.sub,k.os.trans h.os,k.tape.trans h.tape,k.output.trans h.output,Nat.le_trans h.size k.size,fun i hi hg=>by rw [hf i (by have:=h.size;omega)];exact h.frame i hi hg,h.WR⟩
theorem ai.a3T {β:Nm} {m0 m:Mem} {w w':World} {β':Nm}(h0: ∀x,¬kw m0 x)(h:ai m0 β w m β' w'):Ext w w':=
 ⟨h.os,h.tape,h.output,h.size,fun i hi=>h.frame i hi fun x hx=>absurd hx (h0 x)⟩
theorem ai.a6I {β:Nm} {m:Mem} {w w':World} {β':Nm}(h:ai [] β w m β' w'):Ext w w':=
 h.a3T fun x hx=>by have:=TO hx;simp at this
def Nm.set(β:Nm)(x a:Nat):Nm:=⟨fun y=>if y=x then some a else β y,β.g⟩
theorem Nm.pW(β:Nm)(x a y:Nat):(β.set x a) y=if y=x then some a else β y:=rfl
theorem Nm.jf {β:Nm} {x a:Nat}(h:β x=none):β.le (β.set x a):=by
 refine ⟨fun y b e=>?_,fun _ _ _ h=>h⟩;rw [Nm.pW];split
 ·rename_i hy;rw [hy,h] at e;cases e
 ·exact e
theorem bu {m:Mem} {n x:Nat} {b c:bG}(h:(m.set n (some b))[x]? =some (some c)):(x=n∧c=b)∨(x≠n∧m[x]? =some (some c)):=by
 by_cases e:n=x
 ·subst e;rw [List.getElem?_set] at h;simp at h;exact .inl ⟨rfl,h.2.symm⟩
 ·rw [List.getElem?_set_ne e] at h;exact .inr ⟨fun h=>e h.symm,h⟩
theorem Sat.alloc {β:Nm} {m:Mem} {w:World}(h:Sat β m w) {nm:Nat}(hn:m[nm]? =some none)(hb:β nm=none) {b:bG} {o:Obj}(hB:cw (β.set nm w.heap.size) b (some o)):
  Sat (β.set nm w.heap.size) (m.set nm (some b)) (w.alloc o):=by
 have hle:=Nm.jf (a:=w.heap.size) hb;have hnl:nm<m.length:=(List.getElem?_eq_some_iff.1 hn).1;have old: ∀x a,x≠nm→kn (m.set nm (some b)) x→(β.set nm w.heap.size) x=some a→a<w.heap.size∧β x=some a∧kn m x:=by
  rintro x a hne ⟨c,hc,hd⟩ hx;rcases bu hc with ⟨rfl,rfl⟩|⟨_,hxm⟩
  ·exact absurd rfl hne
  ·simp [Nm.set,hne] at hx;exact ⟨h.lt ⟨c,hxm,hd⟩ hx,hx,c,hxm,hd⟩
 refine ⟨fun x c hc=>?_,?_,?_,h.gl.mU fun p _ hl=>Below.heap_alloc _ _ _ hl,?_,?_⟩
 ·rcases bu hc with ⟨rfl,rfl⟩|⟨hne,hx⟩
  ·exact .inr ⟨w.heap.size,by simp [Nm.set],by rw [heap_alloc_new];exact hB⟩
  ·exact h.lY hle hx fun a hk ha=>Below.heap_alloc _ _ _ (h.lt hk ha)
 ·rintro x y a hkx hky hx hy;by_cases ex:x=nm
  ·by_cases ey:y=nm
   ·rw [ex,ey]
   ·obtain ⟨hl,_,_⟩:=old y a ey hky hy;subst ex;simp [Nm.set] at hx;omega
  ·obtain ⟨hl,hx',_⟩:=old x a ex hkx.kn hx;by_cases ey:y=nm
   ·subst ey;simp [Nm.set] at hy;omega
   ·obtain ⟨_,hy',hky'⟩:=old y a ey hky hy;have hkx':kw m x:=by
     obtain ⟨c,hc,hd⟩:=hkx;rcases bu hc with ⟨e,_⟩|⟨_,hxm⟩
     ·exact absurd e ex
     ·exact ⟨c,hxm,hd⟩
    exact h.inj x y a hkx' hky' hx' hy'
 ·intro x a hx;simp only [List.length_set];rw [Nm.pW] at hx;split at hx
  ·rename_i e;rw [e];exact hnl
  ·exact h.CC x a hx
 ·intro x a hkx hx;by_cases ex:x=nm
  ·subst ex;simp [Nm.set] at hx;subst hx;exact h.gl.lt (Nat.le_refl _)
  ·obtain ⟨_,hx',_⟩:=old x a ex hkx.kn hx;have hkx':kw m x:=by
    obtain ⟨c,hc,hd⟩:=hkx;rcases bu hc with ⟨e,_⟩|⟨_,hxm⟩
    ·exact absurd e ex
    ·exact ⟨c,hxm,hd⟩
   exact h.ng x a hkx' hx'
 ·refine h.ij hle rfl (fun b hb _=>Below.heap_alloc _ _ _ hb) fun y b hb hy e=>?_;by_cases ey:y=nm
  ·subst ey;simp [Nm.set] at e;omega
  ·obtain ⟨_,e',_⟩:=old y b ey hy.kn e;refine ⟨y,?_,e'⟩;obtain ⟨c,hc,hd⟩:=hy;rcases bu hc with ⟨e,_⟩|⟨_,hxm⟩
   ·exact absurd e ey
   ·exact ⟨c,hxm,hd⟩
theorem ai.alloc {m0:Mem} {β0:Nm} {w0:World} {β:Nm} {m:Mem} {w:World}(h:ai m0 β0 w0 m β w) {nm:Nat}(hl:m0.length≤nm)(hb:β nm=none)(b:bG)(o:Obj):
  ai m0 β0 w0 (m.set nm (some b)) (β.set nm w.heap.size) (w.alloc o):=by
 have hle:=Nm.jf (a:=w.heap.size) hb;refine ⟨Nm.le_trans h.ext hle,fun x hx=>by rw [Nm.pW,if_neg (by omega)];exact h.same x hx,by simpa using h.len,?_,?_,h.os,h.tape,h.output,?_,?_,h.WR⟩
 ·rintro q x hx ⟨c,hc,hd⟩;rcases bu hc with ⟨rfl,rfl⟩|⟨hne,hxm⟩
  ·exact ⟨_,by simp [Nm.set],.inl h.size⟩
  ·obtain ⟨a,ha,hs⟩:=h.new q x hx ⟨c,hxm,hd⟩;exact ⟨a,hle _ _ ha,hs⟩
 ·rintro q x hx ⟨c,hc,hd⟩;rcases bu hc with ⟨rfl,rfl⟩|⟨hne,hxm⟩
  ·omega
  ·exact h.sub q x hx ⟨c,hxm,hd⟩
 ·have:=h.size;show _≤(w.heap.push o).size;simp;omega
 ·intro i hi hf;rw [Below.heap_alloc _ _ _ (by have:=h.size;omega)]
  exact h.frame i hi hf
end Go.Proofs.YtfdmjoddhjmokaaGreatDoor.Rex
namespace Go.Proofs.YtfdmjoddhjmokaaGreatDoor.Rex
open Go.RowKit
set_option linter.unusedVariables false
set_option linter.unusedSimpArgs false
structure Md where
 ar:IntKind→Bool
 cv:IntKind→Bool
def aT:IntKind→Int
 | .i8=> -128| .i16=> -32768| .i32=> -2147483648| .i64=> -9223372036854775808|_=>0
def aU:IntKind→Int
 | .i8=>127| .i16=>32767| .i32=>2147483647| .i64=>9223372036854775807
 | .u8=>255| .u16=>65535| .u32=>4294967295| .u64=>18446744073709551615
def aL(k:IntKind)(n:Int):Prop:=aT k≤n∧n≤aU k
theorem dn {k:IntKind} {n:Int}(h:aL k n):k.wrap n=n:=by
 unfold aL at h;cases k<;>simp only [aT,aU] at h<;>simp [IntKind.wrap,IntKind.bits,IntKind.signed]<;>omega
def omap {A B:Type}(f:A→Option B):List A→Option (List B)
 | []=>some []
 |a::l=>match f a with
  |none=>none
  |some b=>match omap f l with
   |none=>none
   |some bs=>some (b::bs)
theorem c9 {A B C:Type} {f:A→Option B} {g:A→C} {R:B→C→Prop}(hf: ∀a b,f a=some b→R b (g a)): ∀ {l:List A} {m:List B},omap f l=some m→ae R m (l.map g)
 | [],m,h=>by cases h;exact .nil
 |a::l,m,h=>by
  unfold omap at h;split at h
  ·cases h
  ·rename_i b hb;split at h
   ·cases h
   ·rename_i bs hbs;cases h;exact .cons (hf a b hb) (c9 hf hbs)
def vk:Value→Option Lf
 | .bool b=>some (.bool true b)
 | .int k n=>some (.int k true n)
 | .pointer none=>some .cb
 | .slice none 0 0=>some .aj
 | .agg _=>none
 | .tuple _=>none
 |v=>some (.op v)
theorem nZ {β:Nm} {v:Value} {l:Lf}(h:vk v=some l):aq β l v:=by
 unfold vk at h;split at h
 all_goals first
  |(cases h;done)
  |(cases h;first|exact .bool|exact .int|exact .cb|exact .aj)
  |(cases h;refine .op ?_;cases v<;>first|rfl|(exfalso;simp_all))
def ofValue:Value→Option SV
 | .agg cs=>match omap vk cs.toList with
  |some l=>some (.v (.agg l))
  |none=>none
 |v=>match vk v with
  |some l=>some (.v (.one l))
  |none=>none
theorem pZ {β:Nm} {v:Value} {s:SV}(h:ofValue v=some s):Has β s v:=by
 unfold ofValue at h;split at h
 ·rename_i cs;split at h
  ·rename_i l hl;cases h;have:=c9 (g:=id) (R:=aq β) (fun a b e=>nZ e) hl;rw [List.map_id] at this;exact .v (.agg this)
  ·cases h
 ·split at h
  ·rename_i l hl;cases h;exact .v (.one (nZ hl))
  ·cases h
def ev(tm:List SV):Operand→Option SV
 | .tmp t=>match tm[t]? with
  |some .bX=>none
  |r=>r
 | .const v=>ofValue v
 | .global g=>some (.v (.one (.op (.pointer (some ⟨g,0,none⟩)))))
 | .func f=>some (.lO f [])
def RY(P:Program)(t:TypeId):Option Bool:=match P.underlying t with
 |some (.struct _)=>some true
 |some (.array _ _)=>some true
 |some _=>some false
 |none=>none
def bI(P:Program)(t:TypeId):Option Nat:=match P.info? t with
 |some i=>some i.size
 |none=>none
section
variable {P:Program} {w:World}
theorem jy {t:TypeId} {b:Bool}(h:RY P t=some b):(isAgg t).run P w= .ok b w:=by
 unfold RY at h;unfold isAgg;split at h
 ·rename_i hu;cases h;simp [run_underlying hu]
 ·rename_i hu;cases h;simp [run_underlying hu]
 ·rename_i d h1 h2 hu;cases h;rw [Sem.run_bind,run_underlying hu];cases d<;>first|rfl|(exact absurd rfl (h1 _))|(exact absurd rfl (h2 _ _))
 ·cases h
theorem ao {t:TypeId} {n:Nat}(h:bI P t=some n):(sizeOf t).run P w= .ok n w:=by
 unfold bI at h;split at h
 ·rename_i i hi;cases h;simp [sizeOf,typeInfo,hi]
 ·cases h
end
def gA(P:Program)(t:TypeId)(l:List Lf)(off:Nat):Option Vv:=match RY P t with
 |some true=>match bI P t with
  |some n=>match decide (off+n≤l.length) with
   |true=>some (.agg ((l.drop off).take n))
   |false=>none
  |none=>none
 |some false=>match l[off]? with
  |some x=>some (.one x)
  |none=>none
 |none=>none
theorem jB {P:Program} {w:World} {β:Nm} {t:TypeId} {l:List Lf} {off:Nat} {x:Vv} {vs:List Value}(h:gA P t l off=some x)(hv:ae (aq β) l vs):
  ∃u,(part t ⟨vs⟩ off).run P w= .ok u w∧bC β x u:=by
 unfold gA at h;unfold part;split at h
 ·rename_i ha;split at h
  ·rename_i n hn;split at h
   ·cases h;refine ⟨_,by simp [jy ha,ao hn];rfl,?_⟩
    have:=bC.agg ((hv.drop off).take n);exact this
   ·cases h
  ·cases h
 ·rename_i ha;split at h
  ·rename_i y hy;cases h;obtain ⟨u,hu,hr⟩:=hv.get hy;exact ⟨u,by simp [jy ha,hu],.one hr⟩
  ·cases h
 ·cases h
def YG(P:Program)(g:TypeId→Vv→Vv→Option Bool)(xs ys:List Lf):List Field→Option Bool
 | []=>some true
 |f::fs=>match decide (f.name= "_") with
  |true=>none
  |false=>match gA P f.type xs f.offset,gA P f.type ys f.offset with
   |some a,some b=>match g f.type a b with
    |some r=>match YG P g xs ys fs with
     |some q=>some (r&&q)
     |none=>none
    |none=>none
   |_,_=>none
def YF(P:Program)(g:TypeId→Vv→Vv→Option Bool)(e:TypeId)(c:Nat)(xs ys:List Lf):List Nat→Option Bool
 | []=>some true
 |i::is=>match gA P e xs (i*c),gA P e ys (i*c) with
  |some a,some b=>match g e a b with
   |some r=>match YF P g e c xs ys is with
    |some q=>some (r&&q)
    |none=>none
   |none=>none
  |_,_=>none
def eqT(P:Program):Nat→TypeId→Vv→Vv→Option Bool
 |0,_,_,_=>none
 |n+1,t,x,y=>match P.underlying t with
  |some .bool=>match x,y with
   | .one (.bool _ a),.one (.bool _ b)=>some (a==b)
   |_,_=>none
  |some (.int _)=>match x,y with
   | .one (.int k _ a),.one (.int k' _ b)=>match decide (k=k') with
    |true=>some (a==b)
    |false=>none
   |_,_=>none
  |some (.struct fs)=>match x,y with
   | .agg xs,.agg ys=>match P.stoodInHeld t with
    |true=>none
    |false=>YG P (eqT P n) xs ys fs.toList
   |_,_=>none
  |some (.array m e)=>match x,y with
   | .agg xs,.agg ys=>match P.info? e with
    |some i=>YF P (eqT P n) e (P.cellsOf e) xs ys (List.range m)
    |none=>none
   |_,_=>none
  |_=>none
theorem Hy {P:Program} {w:World} {β:Nm} {d:Nat} {g:TypeId→Vv→Vv→Option Bool}(hg: ∀t x y r u v,g t x y=some r→bC β x u→bC β y v→(Op.equalIn d t u v).run P w= .ok r w)
  {xs ys:List Lf} {us vs:List Value} (hx:ae (aq β) xs us) (hy:ae (aq β) ys vs): ∀ {fs:List Field} {r:Bool},YG P g xs ys fs=some r→(Op.eqFields d ⟨us⟩ ⟨vs⟩ fs).run P w= .ok r w
 | [],r,h=>by cases h;rfl
 |f::fs,r,h=>by
  unfold YG at h;unfold Op.eqFields;split at h
  ·cases h
  ·rename_i hf;have hf':f.name≠ "_" :=of_decide_eq_false hf;split at h
   ·rename_i a b ha hb;split at h
    ·rename_i q hq;split at h
     ·rename_i z hz;cases h;obtain ⟨u,hu,hau⟩:=jB (P:=P) (w:=w) ha hx;obtain ⟨v,hv,hbv⟩:=jB (P:=P) (w:=w) hb hy;have:=hg _ _ _ _ _ _ hq hau hbv;have ih:=Hy hg hx hy hz;simp only [hf',ne_eq,not_false_eq_true,if_true,Sem.run_bind,hu,hv,this,Result.andThen_ok];cases q
      ·rfl
      ·simpa using ih
     ·cases h
    ·cases h
   ·cases h
theorem Jq {P:Program} {w:World} {β:Nm} {d:Nat} {g:TypeId→Vv→Vv→Option Bool}(hg: ∀t x y r u v,g t x y=some r→bC β x u→bC β y v→(Op.equalIn d t u v).run P w= .ok r w)
  {e:TypeId} {c:Nat} {xs ys:List Lf} {us vs:List Value} (hx:ae (aq β) xs us) (hy:ae (aq β) ys vs): ∀ {is:List Nat} {r:Bool},YF P g e c xs ys is=some r→(Op.eqItems d e c ⟨us⟩ ⟨vs⟩ is).run P w= .ok r w
 | [],r,h=>by cases h;rfl
 |i::is,r,h=>by
  unfold YF at h;unfold Op.eqItems;split at h
  ·rename_i a b ha hb;split at h
   ·rename_i q hq;split at h
    ·rename_i z hz;cases h;obtain ⟨u,hu,hau⟩:=jB (P:=P) (w:=w) ha hx;obtain ⟨v,hv,hbv⟩:=jB (P:=P) (w:=w) hb hy;have:=hg _ _ _ _ _ _ hq hau hbv;have ih:=Jq hg hx hy hz;simp only [Sem.run_bind,hu,hv,this,Result.andThen_ok];cases q
     ·rfl
     ·simpa using ih
    ·cases h
   ·cases h
  ·cases h
theorem Mj {P:Program} {w:World} {β:Nm}: ∀ (n d:Nat),n≤d→ ∀t x y r u v,eqT P n t x y=some r→bC β x u→bC β y v→(Op.equalIn d t u v).run P w= .ok r w
 |0,_,_,_,_,_,_,_,_,h,_,_=>by cases h
 |n+1,0,hle,_,_,_,_,_,_,_,_,_=>by omega
 |n+1,d+1,hle,t,x,y,r,u,v,h,hu,hv=>by
  have hg:=Mj (P:=P) (w:=w) (β:=β) n d (by omega)
  unfold eqT at h;split at h
  ·rename_i ht;split at h
   ·cases h;cases hu with
    |one hu=>cases hu;cases hv with
     |one hv=>cases hv;simp [Op.equalIn,run_underlying ht]
   ·cases h
  ·rename_i ht;split at h
   ·split at h
    ·rename_i hk;cases h;have:=of_decide_eq_true hk;cases hu with
     |one hu=>cases hu;cases hv with
      |one hv=>cases hv;simp [Op.equalIn,run_underlying ht,this]
    ·cases h
   ·cases h
  ·rename_i fs ht;split at h
   ·split at h
    ·cases h
    ·rename_i hs;cases hu with
     |agg hu=>cases hv with
      |agg hv=>
       have e:P.fieldsOf t=fs:=by unfold Program.fieldsOf;rw [ht]
       rw [run_equalIn_struct w d t _ _ (by rw [e];exact ht) hs,e]
       exact Hy hg hu hv h
   ·cases h
  ·rename_i m e ht;split at h
   ·split at h
    ·rename_i i hi;cases hu with
     |agg hu=>cases hv with
      |agg hv=>
       rw [run_equalIn_array w d _ _ ht hi];exact Jq hg hu hv h
    ·cases h
   ·cases h
  ·cases h
def ob:Option Prop→Prop
 |none=>True
 |some p=>p
def Vb(q:Prop):Option Prop→Option Prop
 |none=>some q
 |some p=>some (q∧p)
theorem z8 {q:Prop} {p:Option Prop}(h:ob (Vb q p)):q∧ob p:=by
 cases p with
 |none=>exact ⟨h,trivial⟩
 |some p=>exact h
def ln(k:IntKind)(kn:Bool)(n:Int):SV:= .v (.one (.int k kn n))
def lb(kn:Bool)(b:Bool):SV:= .v (.one (.bool kn b))
def num(c:Bool)(k:IntKind)(kn:Bool)(n:Int):Option Prop×SV:=match kn with
 |true=>(none,ln k true (k.wrap n))
 |false=>match c with
  |true=>(some (aL k n),ln k false n)
  |false=>(none,ln k false (k.wrap n))
theorem NW {c:Bool} {k:IntKind} {kn:Bool} {n:Int} {p:Option Prop} {s:SV} {β:Nm}(h:num c k kn n=(p,s))(hp:ob p):Has β s (.int k (k.wrap n)):=by
 unfold num at h;split at h
 ·cases h;exact .v (.one .int)
 ·split at h
  ·cases h;rw [dn hp];exact .v (.one .int)
  ·cases h;exact .v (.one .int)
def a2l(M:Md)(op:BinOp)(k:IntKind)(ka:Bool)(a:Int)(kb:Bool)(b:Int):Option (Option Prop×SV):=match op with
 | .add=>some (num (M.ar k) k (ka&&kb) (a+b))
 | .sub=>some (num (M.ar k) k (ka&&kb) (a-b))
 | .mul=>some (num (M.ar k) k (ka&&kb) (a*b))
 | .quo=>match kb with
  |true=>match decide (b=0) with
   |true=>none
   |false=>some (num (M.ar k) k ka (a.tdiv b))
  |false=>some (Vb (b≠0) (num (M.ar k) k false (a.tdiv b)).1,(num (M.ar k) k false (a.tdiv b)).2)
 | .rem=>match kb with
  |true=>match decide (b=0) with
   |true=>none
   |false=>some (none,ln k ka (a.tmod b))
  |false=>some (some (b≠0),ln k false (a.tmod b))
 | .and=>some (none,ln k (ka&&kb) (k.wrap (BitVec.ofInt k.bits a &&& BitVec.ofInt k.bits b).toNat))
 | .or=>some (none,ln k (ka&&kb) (k.wrap (BitVec.ofInt k.bits a ||| BitVec.ofInt k.bits b).toNat))
 | .xor=>some (none,ln k (ka&&kb) (k.wrap (BitVec.ofInt k.bits a ^^^ BitVec.ofInt k.bits b).toNat))
 | .andNot=>some (none,ln k (ka&&kb) (k.wrap (BitVec.ofInt k.bits a &&& ~~~BitVec.ofInt k.bits b).toNat))
 | .eql=>some (none,lb (ka&&kb) (a==b))
 | .neq=>some (none,lb (ka&&kb) (a !=b))
 | .lss=>some (none,lb (ka&&kb) (decide (a<b)))
 | .leq=>some (none,lb (ka&&kb) (decide (a≤b)))
 | .gtr=>some (none,lb (ka&&kb) (decide (b<a)))
 | .geq=>some (none,lb (ka&&kb) (decide (b≤a)))
 |_=>none
def shQ(M:Md)(op:BinOp)(k:IntKind)(ka:Bool)(a:Int)(b:Int):Option (Option Prop×SV):=match decide (b<0) with
 |true=>none
 |false=>match op with
  | .shl=>some (num (M.ar k) k ka (a*2^min b.toNat k.bits))
  | .shr=>some (none,ln k ka (a / 2^min b.toNat k.bits))
  |_=>none
def pN(op:BinOp)(r:Bool):Option Bool:=match op with
 | .eql=>some r
 | .neq=>some (!r)
 |_=>none
def lKn:Lf→Bool
 | .int _ kn _=>kn
 | .bool kn _=>kn
 |_=>false
def a8j:Vv→Bool
 | .one l=>lKn l
 | .agg ls=>ls.all lKn
def eqQ(P:Program)(op:BinOp)(t:TypeId)(x y:Vv):Option (Option Prop×SV):=match P.eqGuardType P.depth t with
 |true=>none
 |false=>match eqT P 40 t x y with
  |some r=>match pN op r with
   |some q=>some (none,lb (a8j x&&a8j y) q)
   |none=>none
  |none=>none
def a2Q(P:Program)(op:BinOp)(t:TypeId)(x y:Lf):Option (Option Prop×SV):=match P.underlying t with
 |some (.pointer _)=>match x,y with
  | .cb,.cb=>match pN op true with
   |some q=>some (none,lb true q)
   |none=>none
  | .cb,.ptr _ _=>match pN op false with
   |some q=>some (none,lb true q)
   |none=>none
  | .ptr _ _,.cb=>match pN op false with
   |some q=>some (none,lb true q)
   |none=>none
  | .rp _ _ _ _ _,.cb=>match pN op false with
   |some q=>some (none,lb true q)
   |none=>none
  | .imp _ _ _ _ _,.cb=>match pN op false with
   |some q=>some (none,lb true q)
   |none=>none
  |_,_=>none
 |some (.slice _)=>match x,y with
  | .aj,.aj=>match pN op true with
   |some q=>some (none,lb true q)
   |none=>none
  | .aj,.sl _ _ _ _ _=>match pN op false with
   |some q=>some (none,lb true q)
   |none=>none
  | .sl _ _ _ _ _,.aj=>match pN op false with
   |some q=>some (none,lb true q)
   |none=>none
  |_,_=>none
 |_=>none
def a1S(M:Md)(P:Program)(op:BinOp)(t:TypeId)(x y:SV):Option (Option Prop×SV):=match x,y with
 | .v (.one (.int k ka a)),.v (.one (.int k' kb b))=>match op with
  | .shl=>match kb with
   |true=>shQ M .shl k ka a b
   |false=>none
  | .shr=>match kb with
   |true=>shQ M .shr k ka a b
   |false=>none
  |op=>match decide (k=k') with
   |true=>a2l M op k ka a kb b
   |false=>none
 | .v (.one (.bool ka a)),.v (.one (.bool kb b))=>match P.underlying t with
  |some .bool=>match pN op (a==b) with
   |some q=>some (none,lb (ka&&kb) q)
   |none=>none
  |_=>none
 | .v (.agg a),.v (.agg b)=>eqQ P op t (.agg a) (.agg b)
 | .v (.one a),.v (.one b)=>a2Q P op t a b
 |_,_=>none
def unQ(M:Md)(op:UnOp)(x:SV):Option (Option Prop×SV):=match op,x with
 | .neg,.v (.one (.int k ka a))=>some (num (M.ar k) k ka (-a))
 | .not,.v (.one (.bool ka a))=>some (none,lb ka (!a))
 |_,_=>none
def SJ(M:Md)(P:Program)(src dst:TypeId)(x:SV):Option (Option Prop×SV):=match P.underlying src,P.underlying dst,x with
 |some _,some (.int k),.v (.one (.int _ ka a))=>some (num (M.cv k) k ka a)
 |_,_,_=>none
end Go.Proofs.YtfdmjoddhjmokaaGreatDoor.Rex
namespace Go.Proofs.YtfdmjoddhjmokaaGreatDoor.Rex
open Go.RowKit
set_option linter.unusedVariables false
set_option linter.unusedSimpArgs false
section
variable {P:Program} {w:World} {β:Nm}
theorem kp {c:Bool} {k:IntKind} {kn:Bool} {n:Int} {p:Option Prop} {s:SV}(h:some (num c k kn n)=some (p,s))(hp:ob p):Has β s (.int k (k.wrap n)):=
 NW (by simpa using h) hp
theorem gY {op:BinOp} {t:TypeId} {k:IntKind} {a b:Int}(h1:op≠ .shl)(h2:op≠ .shr):binOp op t (.int k a) (.int k b)=(match op with
  | .add| .sub| .mul=>Op.intArith op k a b
  | .quo| .rem=>Op.intDiv op k a b
  | .and| .or| .xor| .andNot=>Op.intBits op k a b
  |_=>Op.intCmp op a b):=by
 cases op<;>first|(exact absurd rfl h1)|(exact absurd rfl h2)|simp only [binOp,ne_eq,not_true_eq_false,if_false]
theorem TM {M:Md} {op:BinOp} {k:IntKind} {ka:Bool} {a:Int} {kb:Bool} {b:Int} {p:Option Prop} {s:SV}(t:TypeId)(h:a2l M op k ka a kb b=some (p,s))(hp:ob p):
  ∃r,(binOp op t (.int k a) (.int k b)).run P w= .ok r w∧Has β s r:=by
 unfold a2l at h;split at h
 case h_1=>rw [gY (by simp) (by simp)];exact ⟨_,rfl,kp h hp⟩
 case h_2=>rw [gY (by simp) (by simp)];exact ⟨_,rfl,kp h hp⟩
 case h_3=>rw [gY (by simp) (by simp)];exact ⟨_,rfl,kp h hp⟩
 case h_4=>
  rw [gY (by simp) (by simp)]
  split at h
  ·split at h
   ·cases h
   ·rename_i hb;have hb':=of_decide_eq_false hb;exact ⟨.int k (k.wrap (a.tdiv b)),by simp [Op.intDiv,hb'],kp h hp⟩
  ·cases h;obtain ⟨hb,hp⟩:=z8 hp;exact ⟨.int k (k.wrap (a.tdiv b)),by simp [Op.intDiv,hb],NW (c:=M.ar k) (kn:=false) (p:=(num (M.ar k) k false (a.tdiv b)).1) rfl hp⟩
 case h_5=>
  rw [gY (by simp) (by simp)]
  split at h
  ·split at h
   ·cases h
   ·rename_i hb;have hb':=of_decide_eq_false hb;cases h;exact ⟨.int k (a.tmod b),by simp [Op.intDiv,hb'],.v (.one .int)⟩
  ·cases h;exact ⟨.int k (a.tmod b),by have hp':b≠0:=hp;simp [Op.intDiv,hp'],.v (.one .int)⟩
 case h_16=>cases h
 all_goals
  rw [gY (by simp) (by simp)]
  cases h;exact ⟨_,rfl,by first|exact .v (.one .int)|exact .v (.one .bool)⟩
theorem NB {M:Md} {op:BinOp} {k:IntKind} {ka:Bool} {a:Int} {b:Int} {p:Option Prop} {s:SV}(yk:IntKind)(h:shQ M op k ka a b=some (p,s))(hp:ob p):
  ∃r,(Op.shift op k a yk b).run P w= .ok r w∧Has β s r:=by
 unfold shQ at h;split at h
 ·cases h
 ·rename_i hb;have hb':=of_decide_eq_false hb;split at h
  ·exact ⟨.int k (k.wrap (a*2^min b.toNat k.bits)),by simp [Op.shift,hb'],kp h hp⟩
  ·cases h;refine ⟨.int k (a.fdiv (2^min b.toNat k.bits)),by simp [Op.shift,hb'],?_⟩
   rw [Int.fdiv_eq_ediv_of_nonneg _ (Int.pow_nonneg (by decide))]
   exact .v (.one .int)
  ·cases h
theorem P5 {op:BinOp} {r q:Bool}(h:pN op r=some q):(op= .eql∧q=r)∨(op= .neq∧q= !r):=by
 unfold pN at h;split at h
 ·cases h;exact .inl ⟨rfl,rfl⟩
 ·cases h;exact .inr ⟨rfl,rfl⟩
 ·cases h
theorem oa {op:BinOp} {t:TypeId} {u v:Value} {r q:Bool}(h:pN op r=some q)(hq:(Op.equal t u v).run P w= .ok r w)
  (hu: ∀k n,u≠ .int k n) (hs: ∀s,u≠ .string s) (hf: ∀k n,u≠ .float k n) (hc: ∀k n m,u≠ .complex k n m):(binOp op t u v).run P w= .ok (.bool q) w:=by
 rcases P5 h with ⟨rfl,rfl⟩|⟨rfl,rfl⟩
 ·cases u<;>first|(exact absurd rfl (hu _ _))|(exact absurd rfl (hs _))|(exact absurd rfl (hf _ _))|(exact absurd rfl (hc _ _ _))|(cases v<;>simp [binOp,hq])
 ·cases u<;>first|(exact absurd rfl (hu _ _))|(exact absurd rfl (hs _))|(exact absurd rfl (hf _ _))|(exact absurd rfl (hc _ _ _))|(cases v<;>simp [binOp,hq])
theorem iG {op:BinOp} {t:TypeId} {X Y:Operand} {u v:Value}(h: ∀cs,u≠ .agg cs)(h':u≠ .nilIface):(eqGuard op t X Y u v).run P w= .ok () w:=by
 unfold eqGuard;cases op<;>simp<;>(cases u<;>first|(exact absurd rfl (h _))|(exact absurd rfl h')|rfl)
theorem OR {op:BinOp} {t:TypeId} {X Y:Operand} {xs ys:Array Value}(h:P.eqGuardType P.depth t=false):(eqGuard op t X Y (.agg xs) (.agg ys)).run P w= .ok () w:=by
 unfold eqGuard;cases op<;>simp [h]
theorem eqq {t:TypeId} {u v:Value} {r:Bool}(h: ∀d,(Op.equalIn (d+1) t u v).run P w= .ok r w):(Op.equal t u v).run P w= .ok r w:=h 9999
theorem Se {op:BinOp} {t:TypeId} {x y:Lf} {u v:Value} {p:Option Prop} {s:SV}(h:a2Q P op t x y=some (p,s))(hx:aq β x u)(hy:aq β y v)(X Y:Operand):
  ∃r,(do eqGuard op t X Y u v;binOp op t u v:Sem Value).run P w= .ok r w∧Has β s r:=by
 have fin: ∀ {r q:Bool},pN op r=some q→(Op.equal t u v).run P w= .ok r w→(∀k n,u≠ .int k n)→(∀s,u≠ .string s)→(∀k n,u≠ .float k n)→(∀k n m,u≠ .complex k n m)→(∀cs,u≠ .agg cs)→u≠ .nilIface→some (none,lb true q)=some (p,s)→
   ∃r,(do eqGuard op t X Y u v;binOp op t u v:Sem Value).run P w= .ok r w∧Has β s r:=by
  intro r q hq he a1 a2 a3 a4 a5 a6 e;cases e;exact ⟨.bool q,by rw [Sem.run_bind,iG a5 a6];exact oa hq he a1 a2 a3 a4,.v (.one .bool)⟩
 unfold a2Q at h;split at h
 ·rename_i e ht;split at h
  all_goals first|(cases h;done)|(split at h<;>first|(cases h;done)|skip)
  all_goals
   rename_i q hq;cases hx;cases hy;refine fin hq (eqq fun d=>by simp [Op.equalIn,run_underlying ht]) ?_ ?_ ?_ ?_ ?_ ?_ h<;>(intros;simp)
 ·rename_i e ht;split at h
  all_goals first|(cases h;done)|(split at h<;>first|(cases h;done)|skip)
  all_goals
   rename_i q hq;cases hx;cases hy;refine fin hq (eqq fun d=>by simp [Op.equalIn,run_underlying ht]) ?_ ?_ ?_ ?_ ?_ ?_ h<;>(intros;simp)
 ·cases h
theorem Hj {M:Md} {op:BinOp} {t:TypeId} {x y:SV} {u v:Value} {p:Option Prop} {s:SV}(h:a1S M P op t x y=some (p,s))(hp:ob p)(hx:Has β x u)(hy:Has β y v)(X Y:Operand):
  ∃r,(do eqGuard op t X Y u v;binOp op t u v:Sem Value).run P w= .ok r w∧Has β s r:=by
 unfold a1S at h;split at h
 ·cases hx with
  |v hx=>cases hx with
   |one hx=>cases hx with
    |int=>cases hy with
     |v hy=>cases hy with
      |one hy=>cases hy with
       |int=>
        rw [Sem.run_bind,iG (by intros;simp) (by simp),Result.andThen_ok]
        split at h
        ·split at h
         ·simp only [binOp];exact NB _ h hp
         ·cases h
        ·split at h
         ·simp only [binOp];exact NB _ h hp
         ·cases h
        ·split at h
         ·rename_i hk;have:=of_decide_eq_true hk;subst this;exact TM t h hp
         ·cases h
 ·cases hx with
  |v hx=>cases hx with
   |one hx=>cases hx with
    |bool=>cases hy with
     |v hy=>cases hy with
      |one hy=>cases hy with
       |bool=>
        split at h
        ·rename_i ht;split at h
         ·rename_i q hq;cases h;refine ⟨.bool q,?_,.v (.one .bool)⟩;rw [Sem.run_bind,iG (by intros;simp) (by simp),Result.andThen_ok]
          exact oa hq (eqq fun d=>by simp [Op.equalIn,run_underlying ht]) (by intros;simp) (by intros;simp) (by intros;simp) (by intros;simp)
         ·cases h
        ·cases h
 ·cases hx with
  |v hx=>cases hx with
   |agg hx=>cases hy with
    |v hy=>cases hy with
     |agg hy=>
      unfold eqQ at h;split at h
      ·cases h
      ·rename_i hg;split at h
       ·rename_i r hr;split at h
        ·rename_i q hq;cases h;refine ⟨.bool q,?_,.v (.one .bool)⟩;rw [Sem.run_bind,OR hg,Result.andThen_ok];exact oa hq (Mj 40 10000 (by omega) t _ _ r _ _ hr (.agg hx) (.agg hy)) (by intros;simp) (by intros;simp) (by intros;simp) (by intros;simp)
        ·cases h
       ·cases h
 ·cases hx with
  |v hx=>cases hx with
   |one hx=>cases hy with
    |v hy=>cases hy with
     |one hy=>exact Se h hx hy X Y
 ·cases h
theorem MS {M:Md} {op:UnOp} {x:SV} {u:Value} {p:Option Prop} {s:SV}(h:unQ M op x=some (p,s))(hp:ob p)(hx:Has β x u):
  ∃r,(Op.unary op u).run P w= .ok r w∧Has β s r:=by
 unfold unQ at h;split at h
 ·cases hx with
  |v hx=>cases hx with
   |one hx=>cases hx with
    |int=>exact ⟨.int _ (IntKind.wrap _ (-_)),by simp [Op.unary,Op.intArith],kp h hp⟩
 ·cases hx with
  |v hx=>cases hx with
   |one hx=>cases hx with
    |bool=>cases h;exact ⟨_,rfl,.v (.one .bool)⟩
 ·cases h
theorem DS {M:Md} {src dst:TypeId} {x:SV} {u:Value} {p:Option Prop} {s:SV}(h:SJ M P src dst x=some (p,s))(hp:ob p)(hx:Has β x u):
  ∃r,(convert src dst u).run P w= .ok r w∧Has β s r:=by
 unfold SJ at h;split at h
 ·rename_i d k j ka a hs hd;cases hx with
  |v hx=>cases hx with
   |one hx=>cases hx with
    |int=>exact ⟨.int k (k.wrap a),by simp [convert,run_underlying hs,run_underlying hd,Conv.intToInt],kp h hp⟩
 ·cases h
end
end Go.Proofs.YtfdmjoddhjmokaaGreatDoor.Rex
namespace Go.Proofs.YtfdmjoddhjmokaaGreatDoor.Rex
open Go.RowKit
set_option linter.unusedVariables false
set_option linter.unusedSimpArgs false
abbrev FC:=List SV→Option (Option Prop×SV)
def gb(P:Program)(f:FuncId):Prop:= ∃fn,P.funcs[f]? =some fn∧(fn.name== "runtime.NumGoroutine")=false∧fn.body.isNone=false
def bf(P:Program)(f:FuncId)(c:FC):Prop:=gb P f∧ ∀β args vals p v w,tC w→c args=some (p,v)→ob p→ae (Has β) args vals→
 Calls P f ⟨vals⟩ w (fun e w'=> ∃r,e= .returned r∧Has β v r∧Ext w w')
def find {A:Type}:List (Nat×A)→Nat→Option A
 | [],_=>none
 |(g,c)::l,f=>match Nat.beq g f with
  |true=>some c
  |false=>find l f
theorem ma {A:Type} {l:List (Nat×A)} {f:Nat} {c:A}(h:find l f=some c):(f,c)∈l:=by
 induction l with
 |nil=>cases h
 |cons x l ih=>
  obtain ⟨g,d⟩:=x;unfold find at h;split at h
  ·rename_i e;cases h;rw [Nat.eq_of_beq_eq_true e];simp
  ·exact List.mem_cons_of_mem _ (ih h)
abbrev RC:=(Nat→Option bG)→List SV→Option (Option Prop×SV)
def aB(P:Program)(f:FuncId)(c:RC):Prop:=gb P f∧ ∀β mm args vals p v w,tC w→(∀x b,mm x=some b→b.dead∨ ∃k,β x=some k∧cw β b w.heap[k]?)→(∀x l t k,mm x=some (.cells l t)→β x=some k→NG k)→(∃M,Sat β M w∧ ∀x b,mm x=some b→M[x]? =some (some b))→c mm args=some (p,v)→ob p→ae (Has β) args vals→
 Calls P f ⟨vals⟩ w (fun e w'=> ∃r,e= .returned r∧Has β v r∧Ext w w')
inductive FX where
 |pure (c:FC)
 |read (c:RC)
instance:Coe FC FX:=⟨.pure⟩
instance:Coe RC FX:=⟨.read⟩
def FX.run(c:FX)(mm:Nat→Option bG)(us:List SV):Option (Option Prop×SV):=match c with
 | .pure c=>c us
 | .read c=>c mm us
def sO(P:Program)(f:FuncId):FX→Prop
 | .pure c=>bf P f c
 | .read c=>aB P f c
theorem sO.run {P:Program} {f:FuncId} {c:FX}(h:sO P f c):gb P f∧ ∀β mm args vals p v w,tC w→(∀x b,mm x=some b→b.dead∨ ∃k,β x=some k∧cw β b w.heap[k]?)→(∀x l t k,mm x=some (.cells l t)→β x=some k→NG k)→(∃M,Sat β M w∧ ∀x b,mm x=some b→M[x]? =some (some b))→c.run mm args=some (p,v)→ob p→ae (Has β) args vals→
  Calls P f ⟨vals⟩ w (fun e w'=> ∃r,e= .returned r∧Has β v r∧Ext w w'):=by
 cases c with
 |pure c=>exact ⟨h.1,fun β mm args vals p v w hg _ _ _ hc hp hv=>h.2 β args vals p v w hg hc hp hv⟩
 |read c=>exact h
structure Env where
 ev:Operand→Option SV
 mm:Nat→Option bG
def a6A:SV→Option Lf
 | .v (.one l)=>some l
 |_=>none
def asV:SV→Option Vv
 | .v x=>some x
 |_=>none
def gm(cs:List Lf)(off:Nat)(vs:List Lf):List Lf:=cs.take off++(vs++cs.drop (off+vs.length))
def EO(place:Nat→Option (Nat×Nat))(cs:List Lf):List (Nat×Vv)→Option (List Lf)
 | []=>some cs
 |(i,v)::rest=>match place i with
  |none=>none
  |some (off,size)=>match (decide (v.cells.length≠size)||decide (off+v.cells.length>cs.length)) with
   |true=>none
   |false=>EO place (gm cs off v.cells) rest
def Bf(P:Program)(t:TypeId):Option (List Lf):=match P.info? t with
 |some i=>match i.zero with
  |some z=>omap vk z.cells.toList
  |none=>none
 |none=>none
def z6(P:Program):List Field→Option (List (Nat×Nat))
 | []=>some []
 |f::fs=>match bI P f.type with
  |some n=>match z6 P fs with
   |some l=>some ((f.offset,n)::l)
   |none=>none
  |none=>none
def L5(P:Program)(t:TypeId)(parts:List (Nat×Vv)):Option (List Lf):=match Bf P t with
 |none=>none
 |some z=>match P.underlying t with
  |some (.struct fs)=>match z6 P fs.toList with
   |some pl=>EO (fun i=>pl[i]?) z parts
   |none=>none
  |some (.array _ e)=>match bI P e with
   |some n=>EO (fun i=>some (i*n,n)) z parts
   |none=>none
  |_=>none
def yW(P:Program)(e:TypeId)(m:Nat):Option (List Lf):=match m with
 |0=>some []
 |m+1=>match Bf P e with
  |some (a::z)=>some ((List.range (m+1)).map fun i=>(a::z).getD (i %(a::z).length) .cb)
  |_=>none
def qT(mx:Bool)(k:IntKind):Bool→Int→List SV→Option SV
 |ka,a,[]=>some (ln k ka a)
 |ka,a,s::l=>match s with
  | .v (.one (.int _ kb b))=>match mx with
   |true=>qT mx k (ka&&kb) (if a<b then b else a) l
   |false=>qT mx k (ka&&kb) (if b<a then b else a) l
  |_=>none
def WS(im:List Kd):List Lf→Option (List Kd)
 | []=>some []
 | .int k _ n::l=>match decide (n=0) with
  |true=>match WS im l with
   |some sh=>some (.int k::sh)
   |none=>none
  |false=>none
 | .bool _ q::l=>match q with
  |false=>match WS im l with
   |some sh=>some (.bool::sh)
   |none=>none
  |true=>none
 | .op v::l=>match v with
  | .string ⟨⟨[]⟩⟩=>match WS im l with
   |some sh=>some (.str::sh)
   |none=>none
  |_=>none
 | .aj::l=>match WS im l with
  |some sh=>some (.im im::sh)
  |none=>none
 |_=>none
def ad7(n:Nat):List Kd:=match n with
 |7=> [.int .u8]
 |_=> [.int .i64,.int .i64,.int .i64,.int .i64,.int .i64,.int .i64,.int .i64,.int .i64,.int .i64]
def IZ(P:Program)(e:TypeId):Option (List Kd):=match Bf P e with
 |some l=>WS (ad7 l.length) l
 |none=>none
def zK(P:Program)(e:TypeId):Option Nat:=match P.info? e with
 |some i=>some i.bytes
 |none=>none
def TC(P:Program)(t:TypeId)(base sz i f:Nat):bG→Option (Option Prop×Vv)
 | .rows ro _ sh xs base' _ _=>match Nat.beq sz sh.length with
  |true=>match gA P t (KP sh (al xs i)) f with
   |some v=>match ro with
    |true=>some (some (base=base'∧i<xs.length),v)
    |false=>match Nat.beq base base' with
     |true=>some (some (i<xs.length),v)
     |false=>none
   |none=>none
  |false=>none
 |_=>none
def sK:SV→Option (Bool×Int)
 | .v (.one (.int _ kn i))=>some (kn,i)
 |_=>none
def a83(z:Bool)(tg y base sz o n c:Nat):Option (Bool×Int)→Option (Bool×Int)→Option (Bool×Int)→Option (Option Prop×SV)
 |none,some (_,h),none=>some (some (0≤h∧h≤(n:Int)),.v (.one (.rs z 1 y base sz o h.toNat c)))
 |some (_,l),none,none=>some (some (0≤l∧l≤(n:Int)),.v (.one (.rs (z||decide (c=l.toNat)) 1 y base sz (o+l.toNat) (n-l.toNat) (c-l.toNat))))
 |some (_,l),some (_,h),none=>match Nat.beq tg 1 with
  |true=>some (some (0≤l∧l≤h∧h≤(c:Int)∧z=false),.v (.one (.rs (z||decide (c=l.toNat)) 1 y base sz (o+l.toNat) (h.toNat-l.toNat) (c-l.toNat))))
  |false=>some (some (0≤l∧l≤h∧h≤(n:Int)),.v (.one (.rs (z||decide (c=l.toNat)) 1 y base sz (o+l.toNat) (h.toNat-l.toNat) (c-l.toNat))))
 |none,some (_,h),some (km,m)=>match km&&decide (m=0) with
  |true=>some (some (0≤h∧h≤m∧m≤(n:Int)),.v (.one (.rs z 2 y base sz o h.toNat 0)))
  |false=>some (some (0≤h∧h≤m∧m≤(n:Int)),.v (.one (.rs z 1 y base sz o h.toNat m.toNat)))
 |some (_,l),some (_,h),some (_,m)=>some (some (0≤l∧l≤h∧h≤m∧m≤(n:Int)),.v (.one (.rs (z||decide (m.toNat=l.toNat)) 1 y base sz (o+l.toNat) (h.toNat-l.toNat) (m.toNat-l.toNat))))
 |_,_,_=>none
def V8:Option (Bool×Int)→Nat→Option Nat
 |none,d=>some d
 |some (true,i),_=>match decide (0≤i) with
  |true=>some i.toNat
  |false=>none
 |some (false,_),_=>none
def Pr(len cap:Nat)(lo hi mx:Option (Bool×Int)):Option (Nat×Nat×Nat):=match V8 lo 0,V8 hi len,V8 mx cap with
 |some l,some h,some m=>match hi,mx with
  |none,some _=>none
  |_,_=>match Nat.ble l h&&(Nat.ble h m&&Nat.ble m cap) with
   |true=>some (l,h,m)
   |false=>none
 |_,_,_=>none
def ZF(lo hi mx:Option (Bool×Int)):Option (Option Prop×SV):=match Pr 0 0 lo hi mx with
 |some _=>some (none,.v (.one .aj))
 |none=>none
def DH(off l m size:Nat):Nat:=match Nat.beq m l with
 |true=>off
 |false=>off+l*size
def Fg(P:Program)(t:TypeId)(x:SV)(lo hi mx:Option (Bool×Int)):Option (Option Prop×SV):=match P.underlying t with
 |some (.slice e)=>match bI P e with
  |some size=>match x with
   | .v (.one (.rs z tg y base sz o n c))=>match Nat.beq size sz with
    |true=>a83 z tg y base sz o n c lo hi mx
    |false=>none
   | .v (.one .aj)=>ZF lo hi mx
   | .v (.one (.sl y off _ len cap))=>match Pr len cap lo hi mx with
    |some (l,h,m)=>some (none,.v (.one (.sl y (DH off l m size) true (h-l) (m-l))))
    |none=>none
   |_=>none
  |none=>none
 |some (.array len e)=>match bI P e with
  |some size=>match x with
   | .v (.one (.ptr y off))=>match Pr len len lo hi mx with
    |some (l,h,m)=>some (none,.v (.one (.sl y (DH off l m size) true (h-l) (m-l))))
    |none=>none
   | .v (.one (.op (.pointer (some ⟨g,off,none⟩))))=>match Pr len len lo hi mx with
    |some (l,h,m)=>some (none,.v (.one (.op (.slice (some ⟨g,DH off l m size,none⟩) (h-l) (m-l)))))
    |none=>none
   |_=>none
  |none=>none
 |_=>none
def a2s(P:Program)(t:TypeId)(x:SV):Option SV:=match P.underlying t with
 |some (.array n _)=>some (ln .i64 true n)
 |some (.pointer arr)=>match P.underlying arr with
  |some (.array n _)=>some (ln .i64 true n)
  |_=>none
 |some (.slice _)=>match x with
  | .v (.one (.sl _ _ kn n _))=>some (ln .i64 kn n)
  | .v (.one (.rs _ _ _ _ _ _ n _))=>some (ln .i64 false n)
  | .v (.one .aj)=>some (ln .i64 true 0)
  | .v (.one (.op (.slice _ n _)))=>some (ln .i64 true n)
  |_=>none
 |_=>none
def LJ(P:Program)(b:Builtin)(ts:Array TypeId)(xs:List SV):Option SV:=match b with
 | .len=>match ts[0]?,xs with
  |some t,[x]=>a2s P t x
  |_,_=>none
 | .min=>match xs with
  | .v (.one (.int k ka a))::l=>qT false k ka a l
  |_=>none
 | .max=>match xs with
  | .v (.one (.int k ka a))::l=>qT true k ka a l
  |_=>none
 |_=>none
def Gr(c:Bool):Lf→Lf→Option Lf
 | .int k _ a,.int k' _ b=>match decide (k=k') with
  |true=>some (.int k false (if c=true then a else b))
  |false=>none
 | .bool _ a,.bool _ b=>some (.bool false (if c=true then a else b))
 |_,_=>none
def yw(c:Bool):List Lf→List Lf→Option (List Lf)
 | [],[]=>some []
 |a::l,b::m=>match Gr c a b with
  |some x=>match yw c l m with
   |some xs=>some (x::xs)
   |none=>none
  |none=>none
 |_,_=>none
def Ks(c:Bool):SV→SV→Option SV
 | .v (.one a),.v (.one b)=>match Gr c a b with
  |some x=>some (.v (.one x))
  |none=>none
 | .v (.agg a),.v (.agg b)=>match yw c a b with
  |some x=>some (.v (.agg x))
  |none=>none
 |_,_=>none
def OZ(P:Program)(t:TypeId)(x i:SV):Option (Option Prop×SV):=match i with
 | .v (.one (.int _ kn i))=>match P.underlying t,x with
  |some (.array len e),.v (.one (.ptr b off))=>match bI P e with
   |some n=>match kn with
    |true=>match (decide (0≤i)&&decide (i<(len:Int))) with
     |true=>some (none,.v (.one (.ptr b (off+i.toNat*n))))
     |false=>none
    |false=>some (some (0≤i∧i<(len:Int)),.v (.one (.ptr b (off+i.toNat*n))))
   |none=>none
  |some (.slice e),.v (.one (.sl b off kl len _))=>match bI P e with
   |some n=>match (kn&&kl) with
    |true=>match (decide (0≤i)&&decide (i<(len:Int))) with
     |true=>some (none,.v (.one (.ptr b (off+i.toNat*n))))
     |false=>none
    |false=>some (some (0≤i∧i<(len:Int)),.v (.one (.ptr b (off+i.toNat*n))))
   |none=>none
  |some (.slice e),.v (.one (.rs _ tg b base sz o len _))=>match bI P e with
   |some n=>match Nat.beq n sz with
    |true=>match Nat.beq tg 0 with
     |true=>some (some (0≤i∧i<(len:Int)),.v (.one (.rp b base sz i.toNat 0)))
     |false=>some (some (0≤i∧i<(len:Int)),.v (.one (.rp b base sz (o+i.toNat) 0)))
    |false=>none
   |none=>none
  |some (.array len e),.v (.one (.rp b base sz j f))=>match bI P e with
   |some n=>match kn&&(decide (0≤i)&&decide (i<(len:Int))) with
    |true=>some (none,.v (.one (.rp b base sz j (f+i.toNat*n))))
    |false=>none
   |none=>none
  |some (.array len e),.v (.one (.op (.pointer (some ⟨g,off,none⟩))))=>match bI P e with
   |some n=>match kn with
    |true=>match (decide (0≤i)&&decide (i<(len:Int))) with
     |true=>some (none,.v (.one (.op (.pointer (some ⟨g,off+i.toNat*n,none⟩)))))
     |false=>none
    |false=>some (some (0≤i∧i<(len:Int)),.v (.one (.op (.pointer (some ⟨g,off+i.toNat*n,none⟩)))))
   |none=>none
  |some (.slice e),.v (.one (.op (.slice (some ⟨g,off,none⟩) len _)))=>match bI P e with
   |some n=>match kn with
    |true=>match (decide (0≤i)&&decide (i<(len:Int))) with
     |true=>some (none,.v (.one (.op (.pointer (some ⟨g,off+i.toNat*n,none⟩)))))
     |false=>none
    |false=>some (some (0≤i∧i<(len:Int)),.v (.one (.op (.pointer (some ⟨g,off+i.toNat*n,none⟩)))))
   |none=>none
  |_,_=>none
 |_=>none
def kg(P:Program)(t:TypeId)(f:Nat):Option Field:=match P.underlying t with
 |some (.struct fs)=>fs[f]?
 |_=>none
def r0(x:Option SV):Option (Option Prop×SV×Option bG):=x.bind fun s=>some (none,s,none)
def r1(x:Option (Option Prop×SV)):Option (Option Prop×SV×Option bG):=x.bind fun s=>some (s.1,s.2,none)
def Gh(E:Env):Option Operand→Option (Option (Bool×Int))
 |none=>some none
 |some x=>match E.ev x with
  |some s=>match sK s with
   |some i=>some (some i)
   |none=>none
  |none=>none
def T6(P:Program)(nm:Nat)(t:TypeId)(l c:Bool×Int):Option (Option Prop×SV×Option bG):=match P.underlying t with
 |some (.slice e)=>match bI P e,zK P e with
  |some n,some by_=>match l.1&&c.1 with
   |true=>match (decide (0≤l.2)&&(decide (l.2≤c.2)&&decide (c.2≤1048576)))&&decide (by_≤65536) with
    |true=>match yW P e (c.2.toNat*n) with
     |some z=>some (none,.v (.one (.sl nm 0 true l.2.toNat c.2.toNat)),some (.cells z e))
     |none=>none
    |false=>none
   |false=>match IZ P e with
    |some sh=>match Nat.beq n sh.length with
     |true=>some (some (0≤l.2∧l.2≤c.2∧(by_:Int)*c.2≤140737488355328∧c.2≤140737488355328),.v (.one (.rs false 0 nm 0 n 0 l.2.toNat c.2.toNat)),some (.rows false false sh (List.replicate l.2.toNat (kj sh)) 0 c.2.toNat e))
     |false=>none
    |none=>none
  |_,_=>none
 |_=>none
def a0r(P:Program)(t:TypeId)(g off:Nat):Option Vv:=match find GG g with
 |some vs=>match omap vk vs with
  |some l=>gA P t l off
  |none=>none
 |none=>none
def nh(M:Md)(P:Program)(Γ:List (FuncId×FX))(E:Env)(nm:Nat)(o:Op):Option (Option Prop×SV×Option bG):=match o with
 | .move x=>r0 (E.ev x)
 | .assign x=>r0 (E.ev x)
 | .pick c a b=>(E.ev c).bind fun c=>match c with
  | .v (.one (.bool kn t))=>match kn with
   |true=>match t with
    |true=>r0 (E.ev a)
    |false=>r0 (E.ev b)
   |false=>(E.ev a).bind fun a=>(E.ev b).bind fun b=>r0 (Ks t a b)
  |_=>none
 | .alloc e=>(Bf P e).bind fun l=>some (none,.v (.one (.ptr nm 0)),some (.cells l e))
 | .box e x=>(E.ev x).bind fun a=>(asV a).bind fun a=>some (none,.v (.one (.ptr nm 0)),some (.cells a.cells e))
 | .build t parts=>(omap (fun ix:Nat×Operand=>(E.ev ix.2).bind fun s=>(asV s).bind fun x=>some (ix.1,x)) parts.toList).bind fun ps=>(L5 P t ps).bind fun l=>some (none,.v (.agg l),none)
 | .buildSlice t len parts=>match P.underlying t with
  |some (.slice e)=>match bI P e with
   |some n=>match decide (len*n≤2^24) with
    |true=>(yW P e (len*n)).bind fun z=>(omap (fun ix:Nat×Operand=>(E.ev ix.2).bind fun s=>(asV s).bind fun x=>some (ix.1,x)) parts.toList).bind fun ps=>
     (EO (fun i=>some (i*n,n)) z ps).bind fun l=>some (none,.v (.one (.sl nm 0 true len len)),some (.cells l e))
    |false=>none
   |none=>none
  |_=>none
 | .load t a=>(E.ev a).bind fun a=>match a with
  | .v (.one (.ptr x off))=>(E.mm x).bind fun b=>match b with
   | .cells l _=>(gA P t l off).bind fun v=>some (none,.v v,none)
   |_=>none
  | .v (.one (.rp x base sz i f))=>(E.mm x).bind fun b=>(TC P t base sz i f b).bind fun r=>some (r.1,.v r.2,none)
  | .v (.one (.op (.pointer (some ⟨g,off,none⟩))))=>(a0r P t g off).bind fun v=>some (none,.v v,none)
  |_=>none
 | .nilCheck x=>(E.ev x).bind fun a=>match a with
  | .v (.one (.ptr b o))=>some (none,.v (.one (.ptr b o)),none)
  | .v (.one (.rp b base sz i f))=>some (none,.v (.one (.rp b base sz i f)),none)
  | .v (.one (.op (.pointer (some ad))))=>some (none,.v (.one (.op (.pointer (some ad)))),none)
  |_=>none
 | .binOp op t x y _=>(E.ev x).bind fun a=>(E.ev y).bind fun b=>r1 (a1S M P op t a b)
 | .unOp op _ x=>(E.ev x).bind fun a=>r1 (unQ M op a)
 | .convert s d x=>(E.ev x).bind fun a=>r1 (SJ M P s d a)
 | .makeFunc fn first captured=>match fn with
  | .func f=>match first.toList with
   | []=>(omap (fun x=>(E.ev x).bind a6A) captured.toList).bind fun l=>some (none,.lO f l,none)
   |_=>none
  |_=>none
 | .fieldAddr t x f=>(E.ev x).bind fun a=>match a with
  | .v (.one (.ptr b off))=>(kg P t f).bind fun fd=>match bI P fd.type with
   |some (n+1)=>some (none,.v (.one (.ptr b (off+fd.offset))),none)
   |_=>none
  | .v (.one (.rp b base sz i off))=>(kg P t f).bind fun fd=>match bI P fd.type with
   |some (n+1)=>some (none,.v (.one (.rp b base sz i (off+fd.offset))),none)
   |_=>none
  | .v (.one (.op (.pointer (some ⟨g,off,none⟩))))=>(kg P t f).bind fun fd=>match bI P fd.type with
   |some (n+1)=>some (none,.v (.one (.op (.pointer (some ⟨g,off+fd.offset,none⟩)))),none)
   |_=>none
  |_=>none
 | .field t x f=>(E.ev x).bind fun a=>match a with
  | .v (.agg l)=>(kg P t f).bind fun fd=>(gA P fd.type l fd.offset).bind fun v=>some (none,.v v,none)
  |_=>none
 | .indexAddr t x i=>(E.ev x).bind fun a=>(E.ev i).bind fun i=>r1 (OZ P t a i)
 | .index t x i=>(E.ev x).bind fun a=>(E.ev i).bind fun i=>match a,i with
  | .v (.agg l),.v (.one (.int _ true i))=>match P.underlying t with
   |some (.array len e)=>match bI P e with
    |some n=>match (decide (0≤i)&&decide (i<(len:Int))) with
     |true=>(gA P e l (i.toNat*n)).bind fun v=>some (none,.v v,none)
     |false=>none
    |none=>none
   |_=>none
  |_,_=>none
 | .slice t x lo hi mx=>(E.ev x).bind fun a=>(Gh E lo).bind fun l=>(Gh E hi).bind fun h=>(Gh E mx).bind fun m=>r1 (Fg P t a l h m)
 | .makeSlice t l c=>(E.ev l).bind fun l=>(E.ev c).bind fun c=>(sK l).bind fun l=>(sK c).bind fun c=>T6 P nm t l c
 | .extract t i=>(E.ev t).bind fun a=>match a with
  | .cz l=>(l[i]?).bind fun x=>some (none,.v x,none)
  |_=>none
 | .call c=>match c.callee with
  | .value f=>(E.ev f).bind fun fv=>match fv with
   | .lO id caps=>(omap E.ev c.args.toList).bind fun us=>(find Γ id).bind fun fc=>r1 (fc.run E.mm (us++caps.map fun l=> .v (.one l)))
   |_=>none
  | .builtin b=>(omap E.ev c.args.toList).bind fun us=>r0 (LJ P b c.argTypes us)
  |_=>none
 |_=>none
end Go.Proofs.YtfdmjoddhjmokaaGreatDoor.Rex
namespace Go.Proofs.YtfdmjoddhjmokaaGreatDoor.Rex
open Go.RowKit
set_option linter.unusedVariables false
set_option linter.unusedSimpArgs false
def Wd(F:Fence):Prop:=F.plain=Fence.wide
theorem Fl:Wd Fence.wide:=rfl
section
variable {F:Fence} (h:Wd F)
include h
theorem Wd.inRound(l:Nat):Wd (F.inRound l):=h
theorem Wd.fn(f:FuncId):F.fn f:=by
 have:F.plain.fn=Fence.wide.fn:=congrArg Fence.fn (show F.plain=Fence.wide from h);show F.plain.fn f;rw [this];exact trivial
theorem Wd.depth:F.depth.isSome=true→ ∀ {n:Nat},1≤n:=by
 have:F.plain.depth=Fence.wide.depth:=congrArg Fence.depth (show F.plain=Fence.wide from h);show F.plain.depth.isSome=true→_;rw [this];intro e;cases e
theorem Wd.calls {n:Nat} {P:Program} {f:FuncId} {args:Array Value} {w:World} {R:Ending→World→Prop}(hc:Calls P f args w R):CallsIn F n P f args w R:=by
 have:CallsIn F.plain n P f args w R:=by rw [show F.plain=Fence.wide from h];exact callsIn_wide.2 hc
 exact this
theorem Wd.So {n:Nat} {P:Program} {f:FuncId} {args:Array Value} {w:World} {R:Ending→World→Prop}(hc:CallsIn F n P f args w R):Calls P f args w R:=by
 have h1:CallsIn F.plain n P f args w R:=hc;rw [show F.plain=Fence.wide from h] at h1;exact callsIn_wide.1 h1
end
def tI(P:Program)(o:Oper)(a:Act)(w:World)(R:Value→World→Prop):Prop:=
 ∀ (F:Fence) (n:Nat),Wd F→ ∀ (next:Act→World→Prop) (Q:Exit→Act→World→Prop),(∀v w',R v w'→next (a.put o.dst v) w')→o.wpIn F n P a w next Q
section
variable {P:Program} {o:Oper} {a:Act} {w:World} {R:Value→World→Prop}
theorem semAt_eq {r:Option Nat} {ρ:Operand→Value} {x:Next} {w':World}(h:(execOp ρ o).run P w= .ok x w')(hx: ∀d,x≠ .defer d):o.semAt r ρ=execOp ρ o:=by
 cases r with
 |none=>exact Oper.semAt_none ..
 |some l=>
  apply Oper.semAt_some;intro c hc;rw [execOp,hc] at h;simp only [Sem.run_bind] at h;cases hr:(resolve ρ c o.type).run P w with
  |ok d w1=>
   rw [hr] at h;simp only [Result.andThen_ok,Sem.run_pure] at h;cases h;exact hx _ rfl
  |halt x w1=>
   rw [hr] at h;cases h
theorem Fk {F:Fence} {n:Nat}(hF:Wd F) {x:Next} {w':World}(h:(execOp a.eval o).run P w= .ok x w')(hx: ∀d,x≠ .defer d) {next:Act→World→Prop} {Q:Exit→Act→World→Prop}(hk:o.uponIn F n P a next Q (.ok x w')):o.wpIn F n P a w next Q:=by
 refine ⟨fun f _=>hF.fn f,?_⟩;rw [semAt_eq h hx,h];exact hk
theorem eU {v:Value} {w':World}(h:(execOp a.eval o).run P w= .ok (.value v) w')(hR:R v w'):tI P o a w R:=
 fun F n hF next Q hn=>Fk hF h (fun d e=>by cases e) (hn _ _ hR)
theorem uw {w':World}(h:(execOp a.eval o).run P w= .ok .skip w')(hR:R undef w'):tI P o a w R:=
 fun F n hF next Q hn=>Fk hF h (fun d e=>by cases e) (hn _ _ hR)
theorem kd {f:FuncId} {args:Array Value}(h:(execOp a.eval o).run P w= .ok (.enter f args) w)(hc:Calls P f args w fun e w'=> ∃r,e= .returned r∧R r w'):tI P o a w R:=by
 intro F n hF next Q hn;refine Fk hF h (fun d e=>by cases e) ⟨fun e=>hF.depth e,hF.calls (hc.mono ?_)⟩
 rintro e w' ⟨r,rfl,hr⟩;exact hn _ _ hr
theorem eX {s:Sem Value}(he:execOp a.eval o=(do let x ←s;pure (.value x))) {v:Value} {w':World}(hs:s.run P w= .ok v w')(hR:R v w'):tI P o a w R:=
 eU (by rw [he,Sem.run_bind,hs];rfl) hR
end
structure P8 (β:Nm) (E:Env) (a:Act) (w:World):Prop where
 ev: ∀x s,E.ev x=some s→Has β s (a.eval x)
 mm: ∀x b,E.mm x=some b→b.dead∨ ∃k,β x=some k∧cw β b w.heap[k]?
 gl:tC w
 ng: ∀x l t k,E.mm x=some (.cells l t)→β x=some k→NG k
 im: ∀sh v xs,β.g sh v xs→ ∃m,kr β m w sh v xs
 sat: ∃M,Sat β M w∧ ∀x b,E.mm x=some b→M[x]? =some (some b)
theorem P8.cells {β:Nm} {E:Env} {a:Act} {w:World}(h:P8 β E a w) {x:Nat} {l:List Lf} {t:TypeId}(e:E.mm x=some (.cells l t)): ∃k,β x=some k∧cw β (.cells l t) w.heap[k]? :=(h.mm x _ e).resolve_left id
def Left(β:Nm)(w:World)(nm:Nat)(s:SV)(r:Value)(w':World):Option bG→Prop
 |none=>Has β s r∧Ext w w'
 |some b=> ∃obj,w'=w.alloc obj∧cw (β.set nm w.heap.size) b (some obj)∧Has (β.set nm w.heap.size) s r
section
variable {M:Md} {P:Program} {Γ:List (FuncId×FX)} {E:Env} {nm:Nat} {o:Oper} {p:Option Prop} {s:SV} {bl:Option bG} {β:Nm} {a:Act} {w:World}
theorem aO(b off n:Nat):(⟨b,off,none⟩:Addr).add n=⟨b,off+n,none⟩:=by
 unfold Addr.add;split<;>simp_all
theorem qU {t:TypeId} {l:List Lf}(h:Bf P t=some l): ∃z vs,(zeroValue t).run P w= .ok z w∧z.cells=⟨vs⟩∧ae (aq β) l vs:=by
 unfold Bf at h;split at h
 ·rename_i i hi;split at h
  ·rename_i z hz;have:=c9 (g:=id) (R:=aq β) (fun a b e=>nZ e) h;rw [List.map_id] at this;exact ⟨z,z.cells.toList,by simp [zeroValue,typeInfo,hi,hz],rfl,this⟩
  ·cases h
 ·cases h
theorem oX: ∀ {fs:List Field} {l:List (Nat×Nat)},z6 P fs=some l→(fs.mapM fun f=>(do pure (f.offset,←sizeOf f.type):Sem (Nat×Nat))).run P w= .ok l w
 | [],l,h=>by cases h;rfl
 |f::fs,l,h=>by
  unfold z6 at h;split at h
  ·rename_i n hn;split at h
   ·rename_i l' hl;cases h;rw [List.mapM_cons];simp only [Sem.run_bind,ao hn,Result.andThen_ok,oX hl,Sem.run_pure]
   ·cases h
  ·cases h
theorem zB {A B D:Type} {R:A→B→Prop} {f:D→A} {g:D→B}: ∀ {l:List D},(∀i∈l,R (f i) (g i))→ae R (l.map f) (l.map g)
 | [],_=> .nil
 |i::l,h=> .cons (h i (by simp)) (zB fun j hj=>h j (by simp [hj]))
theorem wX {e:TypeId} {m:Nat} {l:List Lf}(h:yW P e m=some l): ∃zs:Array Value,((if m=0 then pure #[] else do pure (←zeroValue e).cells:Sem (Array Value)).run P w= .ok zs w)∧ae (aq β) l ((Array.range m).map (fun i=>zs[i %zs.size]!)).toList:=by
 cases m with
 |zero=>
  cases h;exact ⟨#[],by simp,by simpa using ae.nil⟩
 |succ m=>
  unfold yW at h;simp only at h;split at h
  ·rename_i a z hz;cases h;obtain ⟨zv,vs,hr,hc,hv⟩:=qU (P:=P) (w:=w) (β:=β) hz;refine ⟨⟨vs⟩,by simp [hr,hc],?_⟩
   have e1:((Array.range (m+1)).map (fun i=>(⟨vs⟩:Array Value)[i %(⟨vs⟩:Array Value).size]!)).toList=(List.range (m+1)).map (fun i=>(⟨vs⟩:Array Value)[i %(⟨vs⟩:Array Value).size]!):=by simp [Array.toList_range]
   rw [e1];refine zB fun i _=>?_;have hl:=hv.length;have hlt:i %(a::z).length<(a::z).length:=Nat.mod_lt _ (by simp)
   obtain ⟨v,hv1,hv2⟩:=hv.get (List.getElem?_eq_getElem hlt);have e2:(a::z).getD (i %(a::z).length) .cb=(a::z)[i %(a::z).length]:=by
    rw [List.getD_eq_getElem?_getD,List.getElem?_eq_getElem hlt];rfl
   rw [e2];have e3:(⟨vs⟩:Array Value)[i %(⟨vs⟩:Array Value).size]! =v:=by
    have:(⟨vs⟩:Array Value).size=(a::z).length:=by simpa using hl
    rw [this];have hlt':i %(a::z).length<(⟨vs⟩:Array Value).size:=by rw [this];exact hlt
    rw [getElem!_pos (⟨vs⟩:Array Value) (i %(a::z).length) hlt'];have:=hv1;rw [List.getElem?_eq_some_iff] at this;obtain ⟨_,h3⟩:=this;exact h3
   rw [e3];exact hv2
  ·cases h
theorem tV(off:Nat): ∀ (vs:List Value) (j:Nat) (cs:List Value),off+j+vs.length≤cs.length→
  ((vs.zipIdx j).foldl (fun (cs:Array Value) (x:Value×Nat)=>cs.setIfInBounds (off+x.2) x.1) ⟨cs⟩)=⟨cs.take (off+j)++(vs++cs.drop (off+j+vs.length))⟩
 | [],j,cs,h=>by simp
 |v::vs,j,cs,h=>by
  simp only [List.zipIdx_cons,List.foldl_cons,List.setIfInBounds_toArray];simp only [List.length_cons] at h;rw [tV off vs (j+1) (cs.set (off+j) v) (by simp;omega)]
  congr 1
  have hlt:off+j<cs.length:=by omega
  rw [←Nat.add_assoc,List.take_set,List.take_add_one,List.drop_set_of_lt (by omega)]
  simp only [List.getElem?_eq_getElem hlt,Option.toList_some,List.length_cons];rw [List.set_append_right _ _ (by simp;omega)]
  have:off+j-(List.take (off+j) cs).length=0:=by simp;omega
  rw [this];simp
  congr 1
  omega
theorem nr {place:Nat→Option (Nat×Nat)}: ∀ {parts:List (Nat×Vv)} {cs l:List Lf} {us:List Value} {qs:List (Nat×Value)},EO place cs parts=some l→ae (aq β) cs us→
  ae (fun (x:Nat×Vv) (y:Nat×Value)=>x.1=y.1∧bC β x.2 y.2) parts qs→ ∃vs,Instr.fill place ⟨us⟩ qs=some ⟨vs⟩∧ae (aq β) l vs
 | [],cs,l,us,qs,h,hc,hq=>by
  cases h;rw [hq.aI];exact ⟨us,rfl,hc⟩
 |(i,v)::rest,cs,l,us,qs,h,hc,hq=>by
  obtain ⟨⟨j,u⟩,qs',rfl,⟨e,hv⟩,hq'⟩:=hq.cons_inv;simp only at e hv;subst e;unfold EO at h;unfold Instr.fill;split at h
  ·cases h
  ·rename_i off size hpl;split at h
   ·cases h
   ·rename_i hb;simp only [Bool.or_eq_false_iff,decide_eq_false_iff_not,Decidable.not_not,Nat.not_lt] at hb;obtain ⟨b1,b2⟩:=hb;obtain ⟨vs,hvs,hav⟩:=hv.cells;have l1:=hav.length;have l2:=hc.length;simp only [hpl,hvs,List.size_toArray];rw [if_neg (by simp;omega)]
    have hz:(Array.zipIdx (⟨vs⟩:Array Value))=⟨vs.zipIdx⟩:=by simp
    rw [hz];have:=tV off vs 0 us (by omega)
    simp only [List.foldl_toArray] at this ⊢;rw [this];refine nr h ?_ hq';unfold gm;rw [←l1];exact (hc.take _).append (hav.append (hc.drop _))
theorem Kz {t:TypeId} {parts:List (Nat×Vv)} {qs:List (Nat×Value)} {l:List Lf}(h:L5 P t parts=some l)(hq:ae (fun (x:Nat×Vv) (y:Nat×Value)=>x.1=y.1∧bC β x.2 y.2) parts qs):
  ∃vs,(Instr.build t ⟨qs⟩).run P w= .ok (.agg ⟨vs⟩) w∧ae (aq β) l vs:=by
 unfold L5 at h;split at h
 ·cases h
 ·rename_i z hz;obtain ⟨zv,zs,hzr,hzc,hza⟩:=qU (P:=P) (w:=w) (β:=β) hz;split at h
  ·rename_i fs hu;split at h
   ·rename_i pl hpl;obtain ⟨vs,hf,hv⟩:=nr h hza hq;refine ⟨vs,?_,hv⟩;simp only [Instr.build,Sem.run_bind,hzr,Result.andThen_ok,run_underlying hu,Array.mapM_eq_mapM_toList,Sem.run_map,oX hpl];simp only [Sem.run_bind,oX hpl,Result.andThen_ok,hzc,Sem.run_map,List.getElem?_toArray,hf,Sem.run_pure]
   ·cases h
  ·rename_i n e hu;split at h
   ·rename_i n hn;obtain ⟨vs,hf,hv⟩:=nr h hza hq;refine ⟨vs,?_,hv⟩;simp only [Instr.build,Sem.run_bind,hzr,Result.andThen_ok,run_underlying hu,ao hn,hzc,hf,Sem.run_pure]
   ·cases h
  ·cases h
end
end Go.Proofs.YtfdmjoddhjmokaaGreatDoor.Rex
namespace Go.Proofs.YtfdmjoddhjmokaaGreatDoor.Rex
open Go.RowKit
set_option linter.unusedVariables false
set_option linter.unusedSimpArgs false
theorem jL {sh:List Kd}: ∀ {xs:List (Row sh)} {i j:Nat} {r:Row sh},xs[i]? =some r→j<sh.length→(xs.flatMap (bA sh))[i*sh.length+j]? =(bA sh r)[j]?
 | [],i,j,r,h,_=>by simp at h
 |x::xs,0,j,r,h,hj=>by
  simp at h;subst h;rw [List.flatMap_cons,Nat.zero_mul,Nat.zero_add,List.getElem?_append_left (by rw [bM];exact hj)]
 |x::xs,i+1,j,r,h,hj=>by
  have h':xs[i]? =some r:=by simpa using h
  rw [List.flatMap_cons,List.getElem?_append_right (by rw [bM,Nat.add_mul];omega),bM,show (i+1)*sh.length+j-sh.length=i*sh.length+j by rw [Nat.add_mul];omega]
  exact jL h' hj
theorem gP {sh:List Kd} {xs:List (Row sh)} {i:Nat}(h:i<xs.length):xs[i]? =some (al xs i):=by
 unfold al;rw [List.getD_eq_getElem?_getD,List.getElem?_eq_getElem h];rfl
theorem dT.get {sh:List Kd} {xs:List (Row sh)} {base tot:Nat} {vs:List Value}(h:dT sh xs base tot vs) {i:Nat}(hi:i<xs.length) {j:Nat} {u:Value}(hu:(bA sh (al xs i))[j]? =some u):vs[base+i*sh.length+j]? =some u:=by
 obtain ⟨h1,h2,h3⟩:=h;have hj:j<sh.length:=by
  have:=(List.getElem?_eq_some_iff.1 hu).1
  rwa [bM] at this
 have h4:=jL (gP hi) hj;rw [←h3,hu,List.getElem?_take] at h4;split at h4
 ·rw [List.getElem?_drop] at h4;rw [Nat.add_assoc];exact h4
 ·cases h4
section
variable {P:Program} {w:World} {β:Nm}
theorem mI {t:TypeId} {l:List Lf} {off:Nat} {v:Vv} {us:List Value} {k base:Nat}(hp:gA P t l off=some v)(hl:ae (aq β) l us)(hc: ∀ (j:Nat) u,us[j]? =some u→w.cell? ⟨k,base+j,none⟩=some u):
  ∃r,(loadVar t ⟨k,base+off,none⟩).run P w= .ok r w∧bC β v r:=by
 unfold gA at hp;split at hp
 ·rename_i ha;split at hp
  ·rename_i n hn;split at hp
   ·rename_i hd;cases hp;have hlen:=of_decide_eq_true hd;have hl2:=hl.length;have hload:(loadCells ⟨k,base+off,none⟩ n).run P w= .ok ((us.drop off).take n).toArray w:=by
     have hln:((us.drop off).take n).length=n:=by simp;omega
     have:=run_loadCells_list (P:=P) w ⟨k,base+off,none⟩ ((us.drop off).take n) (fun j v hj=>by
      rw [aO,Nat.add_assoc];rw [List.getElem?_take] at hj;split at hj
      ·rw [List.getElem?_drop] at hj;exact hc _ _ hj
      ·cases hj)
     rw [hln] at this;exact this
    exact ⟨.agg ((us.drop off).take n).toArray,by simp [loadVar,jy ha,ao hn,hload],.agg ((hl.drop _).take _)⟩
   ·cases hp
  ·cases hp
 ·rename_i ha;split at hp
  ·rename_i y hy;cases hp;obtain ⟨u,hu,hyu⟩:=hl.get hy;exact ⟨u,by simp [loadVar,jy ha,hc _ _ hu],.one hyu⟩
  ·cases hp
 ·cases hp
theorem Py {t:TypeId} {base sz i f x:Nat} {b:bG} {p:Option Prop} {v:Vv}(h:TC P t base sz i f b=some (p,v))(hp:ob p)(hb:b.dead∨ ∃k,β x=some k∧cw β b w.heap[k]?):
  ∃k u,β x=some k∧(loadVar t ⟨k,base+i*sz+f,none⟩).run P w= .ok u w∧bC β v u:=by
 unfold TC at h;split at h
 ·rename_i ro z sh xs base' tot e;split at h
  ·rename_i hsz;have hsz':=Nat.eq_of_beq_eq_true hsz;subst hsz';split at h
   ·rename_i v' hv;have fin:base=base'∧i<xs.length→ ∃k u,β x=some k∧(loadVar t ⟨k,base+i*sh.length+f,none⟩).run P w= .ok u w∧bC β v' u:=by
     rintro ⟨rfl,hi⟩;obtain ⟨k,hk,_,vs,fz,t',hob,_,hR⟩:=hb.resolve_left (fun hd=>by have h2:xs= []:=hd.2;rw [h2] at hi;simp at hi)
     have hcell: ∀i:Nat,w.cell? ⟨k,i,none⟩=vs[i]? :=fun i=>by simp [World.cell?,hob]
     obtain ⟨r,hr,hh⟩:=mI (P:=P) (w:=w) (k:=k) (base:=base+i*sh.length) hv (eo (hR.2.get i)) (fun j u hu=>by rw [hcell];exact hR.1.get hi hu)
     exact ⟨k,r,hk,hr,hh⟩
    split at h
    ·cases h;exact fin hp
    ·split at h
     ·rename_i hbb;cases h;exact fin ⟨Nat.eq_of_beq_eq_true hbb,hp⟩
     ·cases h
   ·cases h
  ·cases h
 ·cases h
def BV(d:Nat):Option (Bool×Int)→Option Value→Nat→Prop
 |none,none,n=>n=d
 |some (_,i),some v,n=> ∃k,v= .int k i∧0≤i∧n=i.toNat
 |_,_,_=>False
theorem cZ {isSlice:Bool} {len cap l h m:Nat} {lo hi mx:Option (Bool×Int)} {vl vh vm:Option Value}(hm:BV cap mx vm m)(hh:BV len hi vh h)(hl:BV 0 lo vl l)(h1:l≤h)(h2:h≤m)(h3:m≤cap)(hx:hi=none→mx=none):
  (Instr.sliceBounds isSlice len cap vl vh vm).run P w= .ok (l,h,m) w:=by
 have sb: ∀ (k:IntKind) (i:Int) (y:Nat) (code:BoundsCode),0≤i→i.toNat≤y→(Instr.sliceBound (.int k i) y code).run P w= .ok i.toNat w:=by
  intro k i y code h0 hy;have:i≤(y:Int):=by omega
  simp [Instr.sliceBound,asIntOf,h0,this]
 cases mx with
 |none=>
  cases vm with
  |some v=>exact hm.elim
  |none=>
   obtain rfl:m=cap:=hm;cases hi with
   |none=>
    cases vh with
    |some v=>exact hh.elim
    |none=>
     obtain rfl:h=len:=hh;cases lo with
     |none=>
      cases vl with
      |some v=>exact hl.elim
      |none=>obtain rfl:l=0:=hl;simp [Instr.sliceBounds]
     |some i=>
      cases vl with
      |none=>exact hl.elim
      |some v=>obtain ⟨k,rfl,h0,rfl⟩:=hl;simp [Instr.sliceBounds,sb _ _ _ _ h0 h1]
   |some j=>
    cases vh with
    |none=>exact hh.elim
    |some v=>
     obtain ⟨kh,rfl,hh0,rfl⟩:=hh;cases lo with
     |none=>
      cases vl with
      |some v=>exact hl.elim
      |none=>obtain rfl:l=0:=hl;simp [Instr.sliceBounds,sb _ _ _ _ hh0 h2]
     |some i=>
      cases vl with
      |none=>exact hl.elim
      |some v=>obtain ⟨k,rfl,h0,rfl⟩:=hl;simp [Instr.sliceBounds,sb _ _ _ _ hh0 h2,sb _ _ _ _ h0 h1]
 |some q=>
  cases vm with
  |none=>exact hm.elim
  |some v=>
   obtain ⟨km,rfl,hm0,rfl⟩:=hm;cases hi with
   |none=>exact absurd (hx rfl) (by simp)
   |some j=>
    cases vh with
    |none=>exact hh.elim
    |some v=>
     obtain ⟨kh,rfl,hh0,rfl⟩:=hh;cases lo with
     |none=>
      cases vl with
      |some v=>exact hl.elim
      |none=>obtain rfl:l=0:=hl;simp [Instr.sliceBounds,sb _ _ _ _ hm0 h3,sb _ _ _ _ hh0 h2]
     |some i=>
      cases vl with
      |none=>exact hl.elim
      |some v=>obtain ⟨k,rfl,h0,rfl⟩:=hl;simp [Instr.sliceBounds,sb _ _ _ _ hm0 h3,sb _ _ _ _ hh0 h2,sb _ _ _ _ h0 h1]
theorem bQ {t e:TypeId} {size:Nat}(hu:P.underlying t=some (.slice e))(hs:bI P e=some size) {a:Option Addr} {len cap l h m:Nat} {vl vh vm:Option Value}(hb:(Instr.sliceBounds true len cap vl vh vm).run P w= .ok (l,h,m) w):
  (Instr.sliceAt t (.slice a len cap) vl vh vm).run P w= .ok (.slice (if m=l then a else a.map (·.add (l*size))) (h-l) (m-l)) w:=by
 simp [Instr.sliceAt,Instr.slice,run_underlying hu,hb,ao hs]
theorem rk {t e:TypeId} {n size:Nat}(hu:P.underlying t=some (.array n e))(hs:bI P e=some size) {a:Addr} {l h m:Nat} {vl vh vm:Option Value}(hb:(Instr.sliceBounds false n n vl vh vm).run P w= .ok (l,h,m) w):
  (Instr.sliceAt t (.pointer (some a)) vl vh vm).run P w= .ok (.slice (some (if m=l then a else a.add (l*size))) (h-l) (m-l)) w:=by
 simp [Instr.sliceAt,run_underlying hu,Instr.sureAddr,hb,ao hs]
def BH(b:Option (Bool×Int))(v:Option Value):Prop:=match b,v with
 |none,none=>True
 |some (_,i),some v=> ∃k,v= .int k i
 |_,_=>False
theorem vI {b:Option (Bool×Int)} {d n:Nat} {v:Option Value}(h:V8 b d=some n)(hv:BH b v):BV d b v n:=by
 cases b with
 |none=>
  cases h;cases v with
  |none=>rfl
  |some v=>exact hv.elim
 |some q=>
  obtain ⟨kn,i⟩:=q;cases kn with
  |false=>cases h
  |true=>
   unfold V8 at h;simp only at h;cases hd:decide (0≤i) with
   |false=>rw [hd] at h;cases h
   |true=>
    rw [hd] at h;cases h;cases v with
    |none=>exact hv.elim
    |some v=>obtain ⟨k,rfl⟩:=hv;exact ⟨k,rfl,of_decide_eq_true hd,rfl⟩
theorem BH.bv {i:Int} {kn:Bool} {v:Option Value}(h:BH (some (kn,i)) v)(h0:0≤i)(d:Nat):BV d (some (kn,i)) v i.toNat:=by
 cases v with
 |none=>exact h.elim
 |some v=>obtain ⟨k,rfl⟩:=h;exact ⟨k,rfl,h0,rfl⟩
theorem BH.none {v:Option Value}(h:BH none v)(d:Nat):BV d none v d:=by
 cases v with
 |none=>rfl
 |some v=>exact h.elim
theorem fN {len cap l h m:Nat} {lo hi mx:Option (Bool×Int)} {vl vh vm:Option Value}(hk:Pr len cap lo hi mx=some (l,h,m))(h1:BH lo vl)(h2:BH hi vh)(h3:BH mx vm)(isSlice:Bool):
  (Instr.sliceBounds isSlice len cap vl vh vm).run P w= .ok (l,h,m) w∧l≤h∧h≤m∧m≤cap:=by
 unfold Pr at hk;split at hk
 ·rename_i l' h' m' e1 e2 e3;have fin:(match Nat.ble l' h'&&(Nat.ble h' m'&&Nat.ble m' cap) with
   |true=>some (l',h',m')
   |false=>Option.none)=some (l,h,m)→(hi=Option.none→mx=Option.none)→(Instr.sliceBounds isSlice len cap vl vh vm).run P w= .ok (l,h,m) w∧l≤h∧h≤m∧m≤cap:=by
   intro hk hx;split at hk
   ·rename_i hb;cases hk;simp only [Bool.and_eq_true,Nat.ble_eq] at hb;obtain ⟨b1,b2,b3⟩:=hb;exact ⟨cZ (vI e3 h3) (vI e2 h2) (vI e1 h1) b1 b2 b3 hx,b1,b2,b3⟩
   ·cases hk
  split at hk
  ·cases hk
  ·rename_i hne;refine fin hk ?_;intro e;cases mx with
   |none=>rfl
   |some q=>exact absurd rfl (hne _ e)
 ·cases hk
theorem uB {z:Bool} {tg x base sz o n c:Nat} {v:Value}(h:yj β z tg x base sz o n c v) {l hh m:Nat}(h1:l≤hh)(h2:hh≤n∨z=false)(h3:hh≤m)(h4:m≤c):
  ∃a,v= .slice a n c∧yj β (z||decide (m=l)) 1 x base sz (o+l) (hh-l) (m-l) (.slice (if m=l then a else a.map (·.add (l*sz))) (hh-l) (m-l)):=by
 obtain ⟨k1,k2,k3⟩:=h;rcases k3 with ⟨rfl,rfl,q,rfl⟩|⟨rfl,b,hb,rfl⟩
 ·have h2:hh≤0:=h2.resolve_right (by simp)
  have e0:hh-l=0:=by omega
  rw [e0];exact ⟨q,rfl,fun e=>(by cases e),by omega,.inl ⟨rfl,rfl,_,rfl⟩⟩
 ·refine ⟨_,rfl,fun e=>(by cases e),by omega,?_⟩
  by_cases e:m=l
  ·left;have e0:hh-l=0:=by omega
   rw [e0];exact ⟨by simp [e],rfl,_,rfl⟩
  ·right;refine ⟨by simp [e],b,hb,?_⟩
   rw [if_neg e];simp only [Option.map_some,aO]
   congr 3
   rw [Nat.add_mul];omega
theorem vK {z:Bool} {tg x base sz o n c tg':Nat} {v:Value}(h:yj β z tg x base sz o n c v)(ht:tg'≠0) {hh m:Nat}(h2:hh≤n)(h3:hh≤m)(h4:m≤c):
  ∃a,v= .slice a n c∧yj β z tg' x base sz o hh m (.slice (if m=0 then a else a.map (·.add (0*sz))) (hh-0) (m-0)):=by
 obtain ⟨k1,k2,k3⟩:=h;rcases k3 with ⟨rfl,rfl,q,rfl⟩|⟨rfl,b,hb,rfl⟩
 ·have e0:hh=0:=by omega
  subst e0;exact ⟨q,rfl,fun e=>absurd e ht,by omega,.inl ⟨rfl,rfl,_,rfl⟩⟩
 ·refine ⟨_,rfl,fun e=>absurd e ht,by omega,?_⟩
  right;refine ⟨rfl,b,hb,?_⟩;simp [aO]
theorem x8(w:World) {t:TypeId} {x:SV} {lo hi mx:Option (Bool×Int)} {u:Value} {vl vh vm:Option Value} {p:Option Prop} {s:SV}(h:Fg P t x lo hi mx=some (p,s))(hp:ob p)(hx:Has β x u)(h1:BH lo vl)(h2:BH hi vh)(h3:BH mx vm):
  ∃r,(∀w:World,(Instr.sliceAt t u vl vh vm).run P w= .ok r w)∧Has β s r:=by
 unfold Fg at h;split at h
 ·rename_i e hu;split at h
  ·rename_i size hs;split at h
   ·rename_i z tg y base sz o n c;split at h
    ·rename_i hsz;have:=Nat.eq_of_beq_eq_true hsz;subst this;cases hx with
     |v hx=>cases hx with
      |one hx=>cases hx with
       |rs hx=>
        have hnc:=hx.2.1;unfold a83 at h;split at h
        ·rename_i kh hh;cases h;obtain ⟨p1,p2⟩:=hp;obtain ⟨a,rfl,hr⟩:=vK hx (tg':=1) (by decide) (hh:=hh.toNat) (m:=c) (by omega) (by omega) (Nat.le_refl _)
         exact ⟨_,fun w=>bQ hu hs (cZ (h3.none c) (h2.bv p1 n) (h1.none 0) (by omega) (by omega) (Nat.le_refl _) (by simp)),.v (.one (.rs hr))⟩
        ·rename_i kl l;cases h;obtain ⟨p1,p2⟩:=hp;obtain ⟨a,rfl,hr⟩:=uB hx (l:=l.toNat) (hh:=n) (m:=c) (by omega) (.inl (Nat.le_refl _)) hnc (Nat.le_refl _)
         exact ⟨_,fun w=>bQ hu hs (cZ (h3.none c) (h2.none n) (h1.bv p1 0) (by omega) hnc (Nat.le_refl _) (by simp)),.v (.one (.rs hr))⟩
        ·rename_i kl l kh hh;split at h
         ·cases h;obtain ⟨p1,p2,p3,p4⟩:=hp;obtain ⟨a,rfl,hr⟩:=uB hx (l:=l.toNat) (hh:=hh.toNat) (m:=c) (by omega) (.inr p4) (by omega) (Nat.le_refl _)
          exact ⟨_,fun w=>bQ hu hs (cZ (h3.none c) (h2.bv (by omega) n) (h1.bv p1 0) (by omega) (by omega) (Nat.le_refl _) (by simp)),.v (.one (.rs hr))⟩
         ·cases h;obtain ⟨p1,p2,p3⟩:=hp;obtain ⟨a,rfl,hr⟩:=uB hx (l:=l.toNat) (hh:=hh.toNat) (m:=c) (by omega) (.inl (by omega)) (by omega) (Nat.le_refl _)
          exact ⟨_,fun w=>bQ hu hs (cZ (h3.none c) (h2.bv (by omega) n) (h1.bv p1 0) (by omega) (by omega) (Nat.le_refl _) (by simp)),.v (.one (.rs hr))⟩
        ·rename_i kh hh km m;split at h
         ·rename_i hd;simp only [Bool.and_eq_true,decide_eq_true_eq] at hd;obtain ⟨_,rfl⟩:=hd;cases h;obtain ⟨p1,p2,p3⟩:=hp;obtain ⟨a,rfl,hr⟩:=vK hx (tg':=2) (by decide) (hh:=hh.toNat) (m:=0) (by omega) (by omega) (by omega)
          exact ⟨_,fun w=>bQ hu hs (cZ (h3.bv (Int.le_refl _) c) (h2.bv p1 n) (h1.none 0) (by omega) (by omega) (by omega) (by simp)),.v (.one (.rs hr))⟩
         ·cases h;obtain ⟨p1,p2,p3⟩:=hp;obtain ⟨a,rfl,hr⟩:=vK hx (tg':=1) (by decide) (hh:=hh.toNat) (m:=m.toNat) (by omega) (by omega) (by omega)
          exact ⟨_,fun w=>bQ hu hs (cZ (h3.bv (by omega) c) (h2.bv p1 n) (h1.none 0) (by omega) (by omega) (by omega) (by simp)),.v (.one (.rs hr))⟩
        ·rename_i kl l kh hh km m;cases h;obtain ⟨p1,p2,p3,p4⟩:=hp;obtain ⟨a,rfl,hr⟩:=uB hx (l:=l.toNat) (hh:=hh.toNat) (m:=m.toNat) (by omega) (.inl (by omega)) (by omega) (by omega)
         exact ⟨_,fun w=>bQ hu hs (cZ (h3.bv (by omega) c) (h2.bv (by omega) n) (h1.bv p1 0) (by omega) (by omega) (by omega) (by simp)),.v (.one (.rs hr))⟩
        ·cases h
    ·cases h
   ·cases hx with
    |v hx=>cases hx with
     |one hx=>cases hx with
      |aj=>
       unfold ZF at h;split at h
       ·rename_i lhm hk;obtain ⟨l,hh,m⟩:=lhm;cases h;obtain ⟨_,b1,b2,b3⟩:=fN (P:=P) (w:=w) hk h1 h2 h3 true;have hr:=fun w=>(fN (P:=P) (w:=w) hk h1 h2 h3 true).1;obtain rfl:m=0:=by omega
        obtain rfl:hh=0:=by omega
        obtain rfl:l=0:=by omega
        exact ⟨_,fun w=>bQ hu hs (hr w),.v (.one .aj)⟩
       ·cases h
   ·rename_i y off kn len cap;split at h
    ·rename_i l hh m hk;cases h;obtain ⟨_,b1,b2,b3⟩:=fN (P:=P) (w:=w) hk h1 h2 h3 true;have hr:=fun w=>(fN (P:=P) (w:=w) hk h1 h2 h3 true).1;cases hx with
     |v hx=>cases hx with
      |one hx=>cases hx with
       |sl hb=>
        refine ⟨_,fun w=>bQ hu hs (hr w),.v (.one ?_)⟩;unfold DH;split
        ·rename_i e;rw [if_pos (Nat.eq_of_beq_eq_true e)];exact .sl hb
        ·rename_i e;rw [if_neg (Nat.ne_of_beq_eq_false e)];simp only [Option.map_some,aO];exact .sl hb
    ·cases h
   ·cases h
  ·cases h
 ·rename_i len e hu;split at h
  ·rename_i size hs;split at h
   ·rename_i y off;split at h
    ·rename_i l hh m hk;cases h;obtain ⟨_,b1,b2,b3⟩:=fN (P:=P) (w:=w) hk h1 h2 h3 false;have hr:=fun w=>(fN (P:=P) (w:=w) hk h1 h2 h3 false).1;cases hx with
     |v hx=>cases hx with
      |one hx=>cases hx with
       |ptr hb=>
        refine ⟨_,fun w=>rk hu hs (hr w),.v (.one ?_)⟩;unfold DH;split
        ·rename_i e;rw [if_pos (Nat.eq_of_beq_eq_true e)];exact .sl hb
        ·rename_i e;rw [if_neg (Nat.ne_of_beq_eq_false e),aO];exact .sl hb
    ·cases h
   ·rename_i g off;split at h
    ·rename_i l hh m hk;cases h;obtain ⟨_,b1,b2,b3⟩:=fN (P:=P) (w:=w) hk h1 h2 h3 false;have hr:=fun w=>(fN (P:=P) (w:=w) hk h1 h2 h3 false).1;cases hx with
     |v hx=>cases hx with
      |one hx=>cases hx with
       |op hb=>
        refine ⟨_,fun w=>rk hu hs (hr w),.v (.one ?_)⟩;unfold DH;split
        ·rename_i e;rw [if_pos (Nat.eq_of_beq_eq_true e)];exact .op rfl
        ·rename_i e;rw [if_neg (Nat.ne_of_beq_eq_false e),aO];exact .op rfl
    ·cases h
   ·cases h
  ·cases h
 ·cases h
theorem LF {t:TypeId} {x:SV} {lo hi mx:Option (Bool×Int)} {u:Value} {vl vh vm:Option Value} {p:Option Prop} {s:SV}(h:Fg P t x lo hi mx=some (p,s))(hp:ob p)(hx:Has β x u)(h1:BH lo vl)(h2:BH hi vh)(h3:BH mx vm):
  ∃r,(Instr.sliceAt t u vl vh vm).run P w= .ok r w∧Has β s r:=by
 obtain ⟨r,h4,h5⟩:=x8 w h hp hx h1 h2 h3;exact ⟨r,h4 w,h5⟩
theorem pK {β:Nm} {im:List Kd}: ∀ {l:List Lf} {sh:List Kd} {vs:List Value},WS im l=some sh→ae (aq β) l vs→vs=bA sh (kj sh)
 | [],sh,vs,h,k=>by cases h;rw [k.aI];rfl
 | .int k kn n::l,sh,vs0,h,hv0=>by
  obtain ⟨v,vs,rfl,h1,hv⟩:=hv0.cons_inv;unfold WS at h;split at h
  ·rename_i hd;have:=of_decide_eq_true hd;subst this;split at h
   ·rename_i sh' hs;cases h;cases h1;rw [pK hs hv];rfl
   ·cases h
  ·cases h
 | .bool kn q::l,sh,vs0,h,hv0=>by
  obtain ⟨v,vs,rfl,h1,hv⟩:=hv0.cons_inv;cases q with
  |true=>cases h
  |false=>
   unfold WS at h;simp only at h;split at h
   ·rename_i sh' hs;cases h;cases h1;rw [pK hs hv];rfl
   ·cases h
 | .ptr _ _::_,_,_,h,_=>by cases h
 | .cb::_,_,_,h,_=>by cases h
 | .sl _ _ _ _ _::_,_,_,h,_=>by cases h
 | .aj::l,sh,vs0,h,hv0=>by
  obtain ⟨v,vs,rfl,h1,hv⟩:=hv0.cons_inv;unfold WS at h;split at h
  ·rename_i sh' hs;cases h;cases h1;rw [pK hs hv];rfl
  ·cases h
 | .op u::l,sh,vs0,h,hv0=>by
  obtain ⟨v,vs,rfl,h1,hv⟩:=hv0.cons_inv;unfold WS at h;split at h
  ·split at h
   ·rename_i sh' hs;cases h;cases h1;rw [pK hs hv];rfl
   ·cases h
  ·cases h
 | .bX::_,_,_,h,_=>by cases h
 | .rs .. ::_,_,_,h,_=>by cases h
 | .rp .. ::_,_,_,h,_=>by cases h
 | .gv .. ::_,_,_,h,_=>by cases h
 | .imp .. ::_,_,_,h,_=>by cases h
 | .mp .. ::_,_,_,h,_=>by cases h
 | .xW .. ::_,_,_,h,_=>by cases h
theorem qI {e:TypeId} {sh:List Kd}(h:IZ P e=some sh): ∃i z,P.info? e=some i∧i.zero=some z∧z.cells=⟨bA sh (kj sh)⟩:=by
 unfold IZ at h;split at h
 ·rename_i l hl;have hl':=hl;unfold Bf at hl';split at hl'
  ·rename_i i hi;split at hl'
   ·rename_i z hz;obtain ⟨z',vs,hr,hc,hv⟩:=qU (P:=P) (w:=default) (β:=⟨fun _=>none,fun _ _ _=>False⟩) hl;have:z'=z:=by
     simp [zeroValue,typeInfo,hi,hz] at hr;exact hr.symm
    subst this;exact ⟨i,z',hi,hz,by rw [hc,pK h hv]⟩
   ·cases hl'
  ·cases hl'
 ·cases h
theorem pG {sh:List Kd} {r:Row sh}(h0:0<sh.length): ∀ (n m:Nat),n*sh.length≤m→(((List.range m).map fun i=>(⟨bA sh r⟩:Array Value)[i %(⟨bA sh r⟩:Array Value).size]!).take (n*sh.length))=(List.replicate n r).flatMap (bA sh)
 |n,m,hm=>by
  apply List.ext_getElem?;intro j;have hl:(bA sh r).length=sh.length:=bM;rw [List.getElem?_take];split
  ·rename_i hj;have hq:j / sh.length<n:=by rw [Nat.div_lt_iff_lt_mul h0];exact hj
   have hm':j %sh.length<sh.length:=Nat.mod_lt _ h0;have hjj:j=j / sh.length*sh.length+j %sh.length:=by rw [Nat.mul_comm];exact (Nat.div_add_mod j sh.length).symm
   have h1:(List.replicate n r)[j / sh.length]? =some r:=by rw [List.getElem?_replicate,if_pos hq]
   have h2:=jL h1 hm';rw [←hjj] at h2;rw [h2,List.getElem?_map,List.getElem?_range (by omega)]
   have h3:(⟨bA sh r⟩:Array Value).size=sh.length:=hl;simp only [Option.map_some,h3];rw [getElem!_pos (⟨bA sh r⟩:Array Value) (j %sh.length) (by rw [h3];exact hm')]
   exact (List.getElem?_eq_getElem (by rw [hl];exact hm')).symm
  ·rename_i hj;rw [List.getElem?_eq_none];rw [bN,List.length_replicate];omega
theorem OD {nm:Nat} {t:TypeId} {l c:Bool×Int} {kl kc:IntKind} {p:Option Prop} {s:SV} {bl:Option bG}(h:T6 P nm t l c=some (p,s,bl))(hp:ob p)(hnm:β nm=none):
  ∃r w',(Instr.makeSlice t (.int kl l.2) (.int kc c.2)).run P w= .ok r w'∧Left β w nm s r w' bl:=by
 unfold T6 at h;split at h
 ·rename_i e hu;split at h
  ·rename_i n by_ hn hby;have hby': ∃i,P.info? e=some i∧i.bytes=by_∧i.size=n:=by
    unfold zK at hby;unfold bI at hn;split at hby
    ·rename_i i hi;rw [hi] at hn;cases hn;cases hby;exact ⟨i,hi,rfl,rfl⟩
    ·cases hby
   obtain ⟨i,hi,rfl,rfl⟩:=hby';split at h
   ·split at h
    ·rename_i hd;simp only [Bool.and_eq_true,decide_eq_true_eq] at hd;obtain ⟨⟨d1,d2,d3⟩,d4⟩:=hd;split at h
     ·rename_i z hz;cases h;obtain ⟨zs,hzr,hzv⟩:=wX (P:=P) (w:=w) (β:=β) hz;have hle:=Nm.jf (a:=w.heap.size) hnm;have hb:(i.bytes:Int)*c.2≤281474976710656:=by
       have h1:(i.bytes:Int)*c.2≤65536*c.2:=Int.mul_le_mul_of_nonneg_right (by omega) (by omega)
       omega
      by_cases h0:c.2.toNat*i.size=0
      ·rw [if_pos h0] at hzr;cases hzr;refine ⟨.slice (some ⟨w.heap.size,0,none⟩) l.2.toNat c.2.toNat,w.alloc (.cells #[] e),?_,_,rfl,⟨[],rfl,?_⟩,.v (.one (.sl (by simp [Nm.set])))⟩
       ·have wl:IntKind.i64.wrap l.2=l.2:=by rw [IntKind.wrap_i64];omega
        have wc:IntKind.i64.wrap c.2=c.2:=by rw [IntKind.wrap_i64];omega
        have n1: ¬c.2<0:=by omega
        have n2: ¬(281474976710656<(i.bytes:Int)*c.2):=by omega
        have n3: ¬l.2<0:=by omega
        have n4: ¬c.2<l.2:=by omega
        simp [Instr.makeSlice,run_underlying hu,asInt,asIntOf,typeInfo,hi,sizeOf,wl,wc,n1,n2,n3,n4,h0,newRow,Array.range_zero']
       ·rw [h0] at hzv;simpa using hzv.mono fun _ _=>aq.mono hle
      ·rw [if_neg h0] at hzr;rw [Sem.run_bind] at hzr;cases hz0:i.zero with
       |none=>simp [zeroValue,typeInfo,hi,hz0] at hzr
       |some z0=>
        have hzz:zs=z0.cells:=by simp [zeroValue,typeInfo,hi,hz0] at hzr;exact hzr.symm
        subst hzz;exact ⟨_,_,run_make w t e i z0 hu hi hz0 kl kc l.2 c.2 d1 d2 hb (by omega),_,rfl,⟨_,rfl,hzv.mono fun _ _=>aq.mono hle⟩,.v (.one (.sl (by simp [Nm.set])))⟩
     ·cases h
    ·cases h
   ·split at h
    ·rename_i sh hsh;split at h
     ·rename_i hsz;have hsz:=Nat.eq_of_beq_eq_true hsz;cases h;obtain ⟨q1,q2,q3,q4⟩:=hp;obtain ⟨i',z0,hi',hz0,hzc⟩:=qI hsh;rw [hi] at hi';cases hi';refine ⟨_,_,run_make w t e i z0 hu hi hz0 kl kc l.2 c.2 q1 q2 (by omega) (by omega),_,rfl,?_,.v (.one (.rs ⟨fun _=>rfl,by omega,.inr ⟨rfl,w.heap.size,by simp [Nm.set],by simp⟩⟩))⟩
      refine ⟨rfl,((madeCells z0.cells (c.2.toNat*i.size))).toList,(0,0),_,rfl,fun _=>⟨rfl,rfl⟩,⟨by simp;omega,by simp [size_madeCells,hsz],?_⟩,fun r hr=>by rw [List.eq_of_mem_replicate hr];exact nA⟩
      rcases Nat.eq_zero_or_pos sh.length with e0|h0
      ·rw [e0];have:sh= []:=List.eq_nil_of_length_eq_zero e0;subst this;simp [bA]
      ·rw [←pG h0 l.2.toNat (c.2.toNat*i.size) (by rw [hsz];exact Nat.mul_le_mul_right _ (by omega)),hzc,List.drop_zero,List.length_replicate]
       unfold madeCells;simp [Array.toList_range]
     ·cases h
    ·cases h
  ·cases h
 ·cases h
end
end Go.Proofs.YtfdmjoddhjmokaaGreatDoor.Rex
namespace Go.Proofs.YtfdmjoddhjmokaaGreatDoor.Rex
open Go.RowKit
set_option linter.unusedVariables false
set_option linter.unusedSimpArgs false
def rowsOf(sh:List Kd):Nat→List Lf→Option (List (Row sh))
 |0,_=>some []
 |n+1,l=>match rowOf sh (l.take sh.length),rowsOf sh n (l.drop sh.length) with
  |some r,some rs=>some (r::rs)
  |_,_=>none
theorem Ca {β:Nm} {sh:List Kd}: ∀ {n:Nat} {l:List Lf} {rs:List (Row sh)} {vs:List Value},rowsOf sh n l=some rs→ae (aq β) l vs→vs.take (n*sh.length)=rs.flatMap (bA sh)∧rs.length=n∧aN β sh rs
 |0,l,rs,vs,h,_=>by cases h;simp [aN]
 |n+1,l,rs,vs,h,hv=>by
  unfold rowsOf at h;split at h
  ·rename_i r rs' h1 h2;cases h;obtain ⟨e2,e3,e4⟩:=Ca h2 (hv.drop sh.length);obtain ⟨e1,e0⟩:=my h1 (hv.take sh.length);refine ⟨?_,by simp [e3],fun q hq=>?_⟩
   rotate_left
   ·rcases List.mem_cons.1 hq with rfl|hq
    ·exact e0
    ·exact e4 q hq
   rw [List.flatMap_cons,←e1,←e2,Nat.add_mul,Nat.one_mul,Nat.add_comm,List.take_add]
  ·cases h
theorem dT.iff {sh:List Kd} {xs:List (Row sh)} {base tot:Nat} {vs:List Value}:dT sh xs base tot vs↔xs.length≤tot∧base+tot*sh.length≤vs.length∧ ∀i r,xs[i]? =some r→ ∀j,j<sh.length→vs[base+i*sh.length+j]? =(bA sh r)[j]? :=by
 constructor
 ·rintro ⟨h1,h2,h3⟩;refine ⟨h1,h2,fun i r hi j hj=>?_⟩;have h4:=jL hi hj;have hl:(bA sh r).length=sh.length:=bM;rw [←h3,List.getElem?_take] at h4;split at h4
  ·rw [List.getElem?_drop] at h4;rw [Nat.add_assoc];exact h4
  ·rename_i hq;have hil:=(List.getElem?_eq_some_iff.1 hi).1;have:(i+1)*sh.length≤xs.length*sh.length:=Nat.mul_le_mul_right _ hil;rw [Nat.add_mul] at this;omega
 ·rintro ⟨h1,h2,h3⟩;refine ⟨h1,h2,?_⟩;apply List.ext_getElem?;intro q;rw [List.getElem?_take];split
  ·rename_i hq;have h0:0<sh.length:=by
    rcases Nat.eq_zero_or_pos sh.length with e|h
    ·rw [e] at hq;simp at hq
    ·exact h
   have hi:q / sh.length<xs.length:=by rw [Nat.div_lt_iff_lt_mul h0];exact hq
   have hj:q %sh.length<sh.length:=Nat.mod_lt _ h0;have hqq:q=q / sh.length*sh.length+q %sh.length:=by rw [Nat.mul_comm];exact (Nat.div_add_mod q sh.length).symm
   have h4:=jL (gP hi) hj;have h5:=h3 _ _ (gP hi) _ hj;rw [←hqq] at h4;rw [h4,←h5,List.getElem?_drop]
   congr 1
   omega
  ·rw [List.getElem?_eq_none];rw [bN];omega
theorem FB(vs cs:List Value)(off p:Nat)(h:off+cs.length≤vs.length):(vs.take off++(cs++vs.drop (off+cs.length)))[p]? =if p<off then vs[p]? else if p<off+cs.length then cs[p-off]? else vs[p]? :=by
 have hl:(vs.take off).length=off:=by simp;omega
 split
 ·rename_i hp;rw [List.getElem?_append_left (by omega),List.getElem?_take,if_pos hp]
 ·rename_i hp;rw [List.getElem?_append_right (by omega),hl]
  split
  ·rename_i hq;rw [List.getElem?_append_left (by omega)]
  ·rename_i hq;rw [List.getElem?_append_right (by omega),List.getElem?_drop]
   congr 1;omega
theorem zG(vs cs:List Value)(off:Nat)(h:off+cs.length≤vs.length):(vs.take off++(cs++vs.drop (off+cs.length))).length=vs.length:=by
 simp;omega
theorem dT.write {sh:List Kd} {xs ys:List (Row sh)} {base tot a:Nat} {vs:List Value}(h:dT sh xs base tot vs)(ha:a≤xs.length)(hk:a+ys.length≤tot):
  dT sh (xs.take a++(ys++xs.drop (a+ys.length))) base tot (vs.take (base+a*sh.length)++(ys.flatMap (bA sh)++vs.drop (base+a*sh.length+(ys.flatMap (bA sh)).length))):=by
 rw [dT.iff] at h ⊢;obtain ⟨h1,h2,h3⟩:=h;have hm:(a+ys.length)*sh.length≤tot*sh.length:=Nat.mul_le_mul_right _ hk;rw [Nat.add_mul] at hm;have hfl:(ys.flatMap (bA sh)).length=ys.length*sh.length:=bN;have hfit:base+a*sh.length+(ys.flatMap (bA sh)).length≤vs.length:=by rw [hfl];omega
 refine ⟨by simp;omega,by rw [zG _ _ _ hfit];exact h2,?_⟩
 intro i r hi j hj;rw [FB _ _ _ _ hfit,hfl];have hta:(xs.take a).length=a:=by simp;omega
 rcases Nat.lt_or_ge i a with hia|hia
 ·have hmul:(i+1)*sh.length≤a*sh.length:=Nat.mul_le_mul_right _ hia;rw [Nat.add_mul] at hmul;rw [List.getElem?_append_left (by omega),List.getElem?_take,if_pos hia] at hi
  rw [if_pos (by omega)]
  exact h3 i r hi j hj
 ·have hmul:a*sh.length≤i*sh.length:=Nat.mul_le_mul_right _ hia;rw [if_neg (by omega)]
  rw [List.getElem?_append_right (by omega),hta] at hi
  rcases Nat.lt_or_ge (i-a) ys.length with hib|hib
  ·rw [List.getElem?_append_left hib] at hi;have hmul2:(i-a+1)*sh.length≤ys.length*sh.length:=Nat.mul_le_mul_right _ hib;have e1:i*sh.length=(i-a)*sh.length+a*sh.length:=by rw [←Nat.add_mul];congr 1;omega
   rw [Nat.add_mul] at hmul2;rw [if_pos (by omega),←jL hi hj]
   congr 1;omega
  ·rw [List.getElem?_append_right hib,List.getElem?_drop] at hi;have hmul2:ys.length*sh.length≤(i-a)*sh.length:=Nat.mul_le_mul_right _ hib;have e1:i*sh.length=(i-a)*sh.length+a*sh.length:=by rw [←Nat.add_mul];congr 1;omega
   rw [if_neg (by omega)]
   refine h3 i r ?_ j hj;rw [←hi];congr 1;omega
theorem dT.put {sh:List Kd} {xs:List (Row sh)} {base tot i f:Nat} {vs cs:List Value} {r:Row sh}(h:dT sh xs base tot vs)(hi:i<xs.length)(hf:f+cs.length≤sh.length)
  (hr:bA sh r=(bA sh (al xs i)).take f++(cs++(bA sh (al xs i)).drop (f+cs.length))):
  dT sh (xs.set i r) base tot (vs.take (base+i*sh.length+f)++(cs++vs.drop (base+i*sh.length+f+cs.length))):=by
 rw [dT.iff] at h ⊢;obtain ⟨h1,h2,h3⟩:=h;have hm:(i+1)*sh.length≤tot*sh.length:=Nat.mul_le_mul_right _ (by omega)
 rw [Nat.add_mul] at hm;have hfit:base+i*sh.length+f+cs.length≤vs.length:=by omega
 refine ⟨by simpa using h1,by rw [zG _ _ _ hfit];exact h2,?_⟩
 intro q s hq j hj;rw [FB _ _ _ _ hfit];by_cases e:i=q
 ·subst e;rw [List.getElem?_set_self hi] at hq;cases hq;have hl:(bA sh (al xs i)).length=sh.length:=bM;rw [hr,FB _ _ _ _ (by omega)]
  have hg:=h3 i _ (gP hi) j hj;by_cases h5:j<f
  ·rw [if_pos (by omega),if_pos h5];exact hg
  ·rw [if_neg (by omega),if_neg h5]
   by_cases h6:j<f+cs.length
   ·rw [if_pos (by omega),if_pos h6];congr 1;omega
   ·rw [if_neg (by omega),if_neg h6];exact hg
 ·rw [List.getElem?_set_ne e] at hq;have hg:=h3 q s hq j hj;rcases Nat.lt_or_gt_of_ne e with hlt|hgt
  ·have:(i+1)*sh.length≤q*sh.length:=Nat.mul_le_mul_right _ hlt;rw [Nat.add_mul] at this;rw [if_neg (by omega),if_neg (by omega)];exact hg
  ·have:(q+1)*sh.length≤i*sh.length:=Nat.mul_le_mul_right _ hgt;rw [Nat.add_mul] at this;rw [if_pos (by omega)];exact hg
section
variable {P:Program} {w:World}
theorem Xw(need old:Nat)(e:TypeId)(x:Nat)(h:need≤140737488355328):need≤(Question.appendCap need old e).cut x:=by
 simp only [Question.cut];omega
def LW:TypeDesc→Bool
 | .slice _=>true
 | .string=>true
 |_=>false
theorem Ga {u:TypeDesc}(h:LW u=true):u= .string∨ ∃e,u= .slice e:=by
 cases u with
 |string=>exact .inl rfl
 |slice e=>exact .inr ⟨e,rfl⟩
 |_=>cases h
theorem jH {t t2 ty e:TypeId} {u2:TypeDesc} {i:TypeInfo} {z:Value}(ht:P.underlying t=some (.slice e))(ht2:P.underlying t2=some u2)(hz2:LW u2=true)(hi:P.info? e=some i)(hz:i.zero=some z)
  {base:Option Addr} {sLen sCap n:Nat} {x:Value} {old new:List Value} (hn: ∀v:World,(Builtin.lenOf x).run P v= .ok n v)
  (hold: ∀v:World,v.heap=w.heap→(Builtin.firstCells i.size sLen (.slice base sLen sCap)).run P v= .ok ⟨old⟩ v) (hnew: ∀v:World,v.heap=w.heap→(Builtin.firstCells i.size n x).run P v= .ok ⟨new⟩ v)
  (hg:sCap<sLen+n) (hb:(sLen+n)*i.bytes≤140737488355328) (h63:sLen+n≤140737488355328):
  ∃rest c,sLen+n≤c∧rest.length=(c-(sLen+n))*z.cells.size∧(Builtin.append_ #[t,t2] ty #[.slice base sLen sCap,x]).run P w= .ok (.slice (some ⟨w.heap.size,0,none⟩) (sLen+n) c) (w.drew.alloc (.cells ⟨old++new++rest⟩ e)):=by
 have hfit:=growslice_fits hg hb;have h1: ¬(sLen+n≤sCap):=by omega
 have h2: ¬(9223372036854775807<((sLen:Int)+(n:Int))):=by omega
 have h3: ¬(281474976710656<Builtin.nextslicecap (sLen+n) sCap*i.bytes):=by omega
 refine ⟨(Builtin.zeroCells z.cells (grownCap w (sLen+n) sCap e-(sLen+n))).toList,grownCap w (sLen+n) sCap e,Xw _ _ _ _ h63,by simp [size_zeroCells],?_⟩
 have e1:=hold w.drew rfl;have e2':=hnew w.drew rfl;have e3:=hn w;rcases Ga hz2 with rfl|⟨e2,rfl⟩
 all_goals
  (simp [Builtin.append_,run_underlying ht,run_underlying ht2,sizeOf,typeInfo,zeroValue,hi,hz,e3,h1,h2,h3,Question.forced,e1,e2',newRow,grownCap]
   congr 2
   apply Array.ext';simp [List.append_assoc])
theorem rD {t t2 ty e:TypeId} {u2:TypeDesc} {i:TypeInfo}(ht:P.underlying t=some (.slice e))(ht2:P.underlying t2=some u2)(hz2:LW u2=true)(hi:P.info? e=some i)
  {a:Addr} {sLen sCap n:Nat} {x:Value} {new:List Value} (hn: ∀v:World,(Builtin.lenOf x).run P v= .ok n v) (hnew:(Builtin.firstCells i.size n x).run P w= .ok ⟨new⟩ w) (hg:sLen+n≤sCap) {w':World}
  (hs:(storeCells (a.add (sLen*i.size)) new).run P w= .ok () w'):
  (Builtin.append_ #[t,t2] ty #[.slice (some a) sLen sCap,x]).run P w= .ok (.slice (some a) (sLen+n) sCap) w':=by
 have e3:=hn w;rcases Ga hz2 with rfl|⟨e2,rfl⟩<;>
  simp [Builtin.append_,run_underlying ht,run_underlying ht2,sizeOf,typeInfo,hi,e3,hg,hnew,hs]
theorem iY {t t2 ty e:TypeId} {u2:TypeDesc} {i:TypeInfo}(ht:P.underlying t=some (.slice e))(ht2:P.underlying t2=some u2)(hz2:LW u2=true)(hi:P.info? e=some i)
  {base:Option Addr} {sLen sCap:Nat} {x:Value} (hn: ∀v:World,(Builtin.lenOf x).run P v= .ok 0 v) (hnew:(Builtin.firstCells i.size 0 x).run P w= .ok #[] w) (hg:sLen≤sCap):
  (Builtin.append_ #[t,t2] ty #[.slice base sLen sCap,x]).run P w= .ok (.slice base sLen sCap) w:=by
 have e3:=hn w;rcases Ga hz2 with rfl|⟨e2,rfl⟩<;>
  (cases base with
   |none=>simp [Builtin.append_,run_underlying ht,run_underlying ht2,sizeOf,typeInfo,hi,e3,hg,hnew]
   |some a=>simp [Builtin.append_,run_underlying ht,run_underlying ht2,sizeOf,typeInfo,hi,e3,hg,hnew,storeCells])
end
end Go.Proofs.YtfdmjoddhjmokaaGreatDoor.Rex
namespace Go.Proofs.YtfdmjoddhjmokaaGreatDoor.Rex
open Go.RowKit
set_option linter.unusedVariables false
set_option linter.unusedSimpArgs false
section
variable {M:Md} {P:Program} {Γ:List (FuncId×FX)} {E:Env} {nm:Nat} {o:Oper} {p:Option Prop} {s:SV} {bl:Option bG} {β:Nm} {a:Act} {w:World}
theorem B4 {c:Bool} {x y z:Lf} {u v:Value}(h:Gr c x y=some z)(hx:aq β x u)(hy:aq β y v):aq β z (if c=true then u else v):=by
 unfold Gr at h;split at h
 ·split at h
  ·rename_i hk;have:=of_decide_eq_true hk;subst this;cases h;cases hx;cases hy;cases c
   ·exact .int
   ·exact .int
  ·cases h
 ·cases h;cases hx;cases hy;cases c
  ·exact .bool
  ·exact .bool
 ·cases h
theorem xJ {c:Bool}: ∀ {xs ys zs:List Lf} {us vs:List Value},yw c xs ys=some zs→ae (aq β) xs us→ae (aq β) ys vs→ae (aq β) zs (if c=true then us else vs)
 | [],[],zs,us,vs,h,hx,hy=>by
  cases h;rw [hx.aI,hy.aI];split<;>exact .nil
 |x::xs,y::ys,zs,us,vs,h,hx,hy=>by
  obtain ⟨u,us,rfl,hu,hx⟩:=hx.cons_inv;obtain ⟨v,vs,rfl,hv,hy⟩:=hy.cons_inv;unfold yw at h;split at h
  ·rename_i z hz;split at h
   ·rename_i zs hzs;cases h;have h1:=B4 hz hu hv;have h2:=xJ hzs hx hy;cases c
    ·exact .cons h1 h2
    ·exact .cons h1 h2
   ·cases h
  ·cases h
 | [],_::_,_,_,_,h,_,_=>by cases h
 |_::_,[],_,_,_,h,_,_=>by cases h
theorem C9 {c:Bool} {x y z:SV} {u v:Value}(h:Ks c x y=some z)(hx:Has β x u)(hy:Has β y v):Has β z (if c=true then u else v):=by
 unfold Ks at h;split at h
 ·split at h
  ·rename_i x hx';cases h;cases hx with
   |v hx=>cases hx with
    |one hx=>cases hy with
     |v hy=>cases hy with
      |one hy=>exact .v (.one (B4 hx' hx hy))
  ·cases h
 ·split at h
  ·rename_i x hx';cases h;cases hx with
   |v hx=>cases hx with
    |agg hx=>cases hy with
     |v hy=>cases hy with
      |agg hy=>
       have:=xJ hx' hx hy;cases c
       ·exact .v (.agg this)
       ·exact .v (.agg this)
  ·cases h
 ·cases h
theorem l9 {mx:Bool} {k:IntKind}: ∀ {l:List SV} {ka:Bool} {n:Int} {vs:List Value} {s:SV},qT mx k ka n l=some s→ae (Has β) l vs→
  ∃r,(vs.foldlM (if mx=true then Builtin.max2 else Builtin.min2) (.int k n)).run P w= .ok r w∧Has β s r
 | [],ka,n,vs,s,h,hv=>by
  cases h;rw [hv.aI];exact ⟨_,rfl,.v (.one .int)⟩
 |x::l,ka,n,vs,s,h,hv=>by
  obtain ⟨v,vs,rfl,hx,hv'⟩:=hv.cons_inv;clear hv;unfold qT at h;split at h
  ·cases hx with
   |v hx=>cases hx with
    |one hx=>cases hx with
     |int=>
      rw [List.foldlM_cons];split at h
      ·obtain ⟨r,hr,hs⟩:=l9 h hv';refine ⟨r,?_,hs⟩;simp only [if_true] at hr ⊢;rw [Sem.run_bind];simp only [Builtin.max2,Sem.run_pure,Result.andThen_ok];exact hr
      ·obtain ⟨r,hr,hs⟩:=l9 h hv';refine ⟨r,?_,hs⟩;simp only [Bool.false_eq_true,if_false] at hr ⊢;rw [Sem.run_bind];simp only [Builtin.min2,Sem.run_pure,Result.andThen_ok];exact hr
  ·cases h
theorem US {t:TypeId} {x:SV} {ts:Array TypeId} {T:TypeId} {v:Value}(ht:ts[0]? =some t)(h:a2s P t x=some s)(hx:Has β x v):
  ∃r,(Builtin.len_ ts T #[v]).run P w= .ok r w∧Has β s r:=by
 unfold a2s at h;unfold Builtin.len_;simp only [ht];split at h
 ·rename_i n e hu;cases h;exact ⟨.int .i64 n,by simp [run_underlying hu,goInt],.v (.one .int)⟩
 ·rename_i arr hu;split at h
  ·rename_i n e hu';cases h;exact ⟨.int .i64 n,by simp [run_underlying hu,run_underlying hu',goInt],.v (.one .int)⟩
  ·cases h
 ·rename_i e hu;split at h
  ·cases h;cases hx with
   |v hx=>cases hx with
    |one hx=>cases hx with
     |sl hb=>exact ⟨.int .i64 _,by simp [run_underlying hu,goInt],.v (.one .int)⟩
  ·cases h;cases hx with
   |v hx=>cases hx with
    |one hx=>cases hx with
     |rs hb=>
      obtain ⟨q,rfl⟩:=hb.isSlice;exact ⟨.int .i64 _,by simp [run_underlying hu,goInt],.v (.one .int)⟩
  ·cases h;cases hx with
   |v hx=>cases hx with
    |one hx=>cases hx with
     |aj=>exact ⟨.int .i64 _,by simp [run_underlying hu,goInt],.v (.one .int)⟩
  ·cases h;cases hx with
   |v hx=>cases hx with
    |one hx=>cases hx with
     |op hb=>exact ⟨.int .i64 _,by simp [run_underlying hu,goInt],.v (.one .int)⟩
  ·cases h
 ·cases h
theorem At {b:Builtin} {ts:Array TypeId} {xs:List SV} {T:TypeId} {cs:Array Bool} {vs:List Value}(h:LJ P b ts xs=some s)(hv:ae (Has β) xs vs):
  ∃r,(builtin b ts T cs ⟨vs⟩).run P w= .ok (.value r) w∧Has β s r:=by
 unfold LJ at h;split at h
 ·split at h
  ·rename_i t x ht;obtain ⟨v,vs,rfl,hx,hv⟩:=hv.cons_inv;rw [hv.aI];obtain ⟨r,hr,hs⟩:=US (P:=P) (w:=w) (T:=T) ht h hx;exact ⟨r,by simp only [builtin,Sem.run_bind,hr,Result.andThen_ok,Sem.run_pure],hs⟩
  ·cases h
 ·split at h
  ·obtain ⟨v,vs,rfl,hx,hv'⟩:=hv.cons_inv;clear hv;cases hx with
   |v hx=>cases hx with
    |one hx=>cases hx with
     |int=>
      obtain ⟨r,hr,hs⟩:=l9 (P:=P) (w:=w) h hv';simp only [Bool.false_eq_true,if_false] at hr;exact ⟨r,by simp only [builtin,Builtin.min_,Sem.run_bind,hr,Result.andThen_ok,Sem.run_pure],hs⟩
  ·cases h
 ·split at h
  ·obtain ⟨v,vs,rfl,hx,hv'⟩:=hv.cons_inv;clear hv;cases hx with
   |v hx=>cases hx with
    |one hx=>cases hx with
     |int=>
      obtain ⟨r,hr,hs⟩:=l9 (P:=P) (w:=w) h hv';simp only [if_true] at hr;exact ⟨r,by simp only [builtin,Builtin.max_,Sem.run_bind,hr,Result.andThen_ok,Sem.run_pure],hs⟩
  ·cases h
 ·cases h
theorem c8 {t:TypeId} {f:Nat} {fd:Field}(h:kg P t f=some fd): ∃fs,P.underlying t=some (.struct fs)∧fs[f]? =some fd:=by
 unfold kg at h;split at h
 ·exact ⟨_,by assumption,h⟩
 ·cases h
theorem dH {f:FuncId} {args:Array Value}(h:gb P f):(callFunc f args).run P w= .ok (.enter f args) w:=by
 obtain ⟨fn,h1,h2,h3⟩:=h;unfold callFunc;simp only [Sem.run_bind,run_program,Result.andThen_ok,h1,h2,h3,Bool.false_eq_true,if_false,Sem.run_pure]
theorem fC {x:Option SV} {r:Option Prop×SV×Option bG}(h:r0 x=some r): ∃s,x=some s∧r=(none,s,none):=by
 obtain ⟨s,hs,h⟩:=Option.bind_eq_some_iff.1 h;cases h;exact ⟨s,hs,rfl⟩
theorem dX {x:Option (Option Prop×SV)} {r:Option Prop×SV×Option bG}(h:r1 x=some r): ∃p s,x=some (p,s)∧r=(p,s,none):=by
 obtain ⟨⟨p,s⟩,hs,h⟩:=Option.bind_eq_some_iff.1 h;cases h;exact ⟨p,s,hs,rfl⟩
theorem HO {t:TypeId} {x i:SV} {u v:Value}(h:OZ P t x i=some (p,s))(hp:ob p)(hx:Has β x u)(hi:Has β i v):
  ∃r,(Instr.indexAt t u v).run P w= .ok r w∧Has β s r:=by
 unfold OZ at h;split at h
 ·rename_i k kn i;cases hi with
  |v hi=>cases hi with
   |one hi=>cases hi with
    |int=>
     split at h
     ·rename_i len e b off hu;cases hx with
      |v hx=>cases hx with
       |one hx=>cases hx with
        |ptr hb=>
         rename_i B;split at h
         ·rename_i n hn;have fin:(0≤i∧i<(len:Int))→ ∃r,(Instr.indexAt t (.pointer (some ⟨B,off,none⟩)) (.int k i)).run P w= .ok r w∧Has β (.v (.one (.ptr b (off+i.toNat*n)))) r:=by
           intro hr;refine ⟨.pointer (some ⟨B,off+i.toNat*n,none⟩),?_,.v (.one (.ptr hb))⟩;simp [Instr.indexAt,asIntOf,run_underlying hu,Instr.sureAddr,hr,ao hn,aO]
          split at h
          ·split at h
           ·rename_i hd;simp only [Bool.and_eq_true,decide_eq_true_eq] at hd;cases h;exact fin hd
           ·cases h
          ·cases h;exact fin hp
         ·cases h
     ·rename_i e b off kl len cp hu;cases hx with
      |v hx=>cases hx with
       |one hx=>cases hx with
        |sl hb=>
         rename_i B;split at h
         ·rename_i n hn;have fin:(0≤i∧i<(len:Int))→ ∃r,(Instr.indexAt t (.slice (some ⟨B,off,none⟩) len cp) (.int k i)).run P w= .ok r w∧Has β (.v (.one (.ptr b (off+i.toNat*n)))) r:=by
           intro hr;refine ⟨.pointer (some ⟨B,off+i.toNat*n,none⟩),?_,.v (.one (.ptr hb))⟩;simp [Instr.indexAt,asIntOf,run_underlying hu,Instr.sureAddr,hr,ao hn,aO]
          split at h
          ·split at h
           ·rename_i hd;simp only [Bool.and_eq_true,decide_eq_true_eq] at hd;cases h;exact fin hd
           ·cases h
          ·cases h;exact fin hp
         ·cases h
     ·rename_i e z tg b base sz o len cp hu;cases hx with
      |v hx=>cases hx with
       |one hx=>cases hx with
        |rs hb=>
         split at h
         ·rename_i n hn;split at h
          ·rename_i hsz;have:=Nat.eq_of_beq_eq_true hsz;subst this;obtain ⟨k1,k2,k3⟩:=hb;have fin:(0≤i∧i<(len:Int))→ ∃r,(Instr.indexAt t u (.int k i)).run P w= .ok r w∧Has β (.v (.one (.rp b base n (o+i.toNat) 0))) r:=by
            intro hr;rcases k3 with ⟨_,h0,_⟩|⟨_,B,hB,rfl⟩
            ·omega
            ·refine ⟨.pointer (some ⟨B,base+(o+i.toNat)*n+0,none⟩),?_,.v (.one (.rp hB))⟩;simp [Instr.indexAt,asIntOf,run_underlying hu,Instr.sureAddr,hr,ao hn,aO];rw [Nat.add_mul];omega
           split at h
           ·rename_i ht;cases h;have h0:=k1 (Nat.eq_of_beq_eq_true ht);rw [h0,Nat.zero_add] at fin;exact fin hp
           ·cases h;exact fin hp
          ·cases h
         ·cases h
     ·rename_i len e b base sz j f hu;cases hx with
      |v hx=>cases hx with
       |one hx=>cases hx with
        |rp hb=>
         rename_i B;split at h
         ·rename_i n hn;split at h
          ·rename_i hd;simp only [Bool.and_eq_true,decide_eq_true_eq] at hd;cases h;refine ⟨.pointer (some ⟨B,base+j*sz+(f+i.toNat*n),none⟩),?_,.v (.one (.rp hb))⟩;simp [Instr.indexAt,asIntOf,run_underlying hu,Instr.sureAddr,hd.2,ao hn,aO,Nat.add_assoc]
          ·cases h
         ·cases h
     ·rename_i len e g off hu;cases hx with
      |v hx=>cases hx with
       |one hx=>cases hx with
        |op hb=>
         split at h
         ·rename_i n hn;have fin:(0≤i∧i<(len:Int))→ ∃r,(Instr.indexAt t (.pointer (some ⟨g,off,none⟩)) (.int k i)).run P w= .ok r w∧Has β (.v (.one (.op (.pointer (some ⟨g,off+i.toNat*n,none⟩))))) r:=by
           intro hr;refine ⟨.pointer (some ⟨g,off+i.toNat*n,none⟩),?_,.v (.one (.op rfl))⟩;simp [Instr.indexAt,asIntOf,run_underlying hu,Instr.sureAddr,hr,ao hn,aO]
          split at h
          ·split at h
           ·rename_i hd;simp only [Bool.and_eq_true,decide_eq_true_eq] at hd;cases h;exact fin hd
           ·cases h
          ·cases h;exact fin hp
         ·cases h
     ·rename_i e g off len cp hu;cases hx with
      |v hx=>cases hx with
       |one hx=>cases hx with
        |op hb=>
         split at h
         ·rename_i n hn;have fin:(0≤i∧i<(len:Int))→ ∃r,(Instr.indexAt t (.slice (some ⟨g,off,none⟩) len cp) (.int k i)).run P w= .ok r w∧Has β (.v (.one (.op (.pointer (some ⟨g,off+i.toNat*n,none⟩))))) r:=by
           intro hr;refine ⟨.pointer (some ⟨g,off+i.toNat*n,none⟩),?_,.v (.one (.op rfl))⟩;simp [Instr.indexAt,asIntOf,run_underlying hu,Instr.sureAddr,hr,ao hn,aO]
          split at h
          ·split at h
           ·rename_i hd;simp only [Bool.and_eq_true,decide_eq_true_eq] at hd;cases h;exact fin hd
           ·cases h
          ·cases h;exact fin hp
         ·cases h
     ·cases h
 ·cases h
theorem C6 {l:List Operand} {xs:List SV}(hE:P8 β E a w)(h:omap E.ev l=some xs):ae (Has β) xs (l.map a.eval):=
 c9 (fun x s e=>hE.ev x s e) h
theorem pE {l:List Lf} {vs:List Value}(h:ae (aq β) l vs):ae (Has β) (l.map fun x=> .v (.one x)) vs:=by
 induction h with
 |nil=>exact .nil
 |cons h _ ih=>exact .cons (.v (.one h)) ih
theorem jQ {s:SV} {q:Bool×Int} {v:Value}(h:sK s=some q)(hv:Has β s v): ∃k,v= .int k q.2:=by
 unfold sK at h;split at h
 ·cases h;cases hv with
  |v hv=>cases hv with
   |one hv=>cases hv;exact ⟨_,rfl⟩
 ·cases h
theorem dW {x:Option Operand} {q:Option (Bool×Int)}(hE:P8 β E a w)(h:Gh E x=some q):BH q (x.map a.eval):=by
 cases x with
 |none=>cases h;trivial
 |some x=>
  unfold Gh at h;simp only at h;split at h
  ·rename_i s hs;split at h
   ·rename_i i hi;cases h;obtain ⟨k,e⟩:=jQ hi (hE.ev _ _ hs);exact ⟨k,e⟩
   ·cases h
  ·cases h
set_option maxHeartbeats 2000000 in
theorem LH(hΓ: ∀f c,(f,c)∈Γ→sO P f c)(h:nh M P Γ E nm o.op=some (p,s,bl))(hp:ob p)(hE:P8 β E a w)(hnm:β nm=none):
  tI P o a w fun r w'=>Left β w nm s r w' bl:=by
 have xe:=Ext.refl w;unfold nh at h;split at h
 case h_1 ho=>
  obtain ⟨s',h',e⟩:=fC h;clear h;cases e;have h:=h';exact eU (by rw [execOp,ho];rfl) ⟨hE.ev _ _ h,xe⟩
 case h_2 ho=>
  obtain ⟨s',h',e⟩:=fC h;clear h;cases e;have h:=h';exact eU (by rw [execOp,ho];rfl) ⟨hE.ev _ _ h,xe⟩
 case h_3 c x y ho=>
  obtain ⟨c',hc,h⟩:=Option.bind_eq_some_iff.1 h;have hcv:=hE.ev _ _ hc;split at h
  ·rename_i kn t;have hbv:a.eval c= .bool t:=by
    cases hcv with
    |v hcv=>cases hcv with
     |one hcv=>generalize a.eval c=q at hcv ⊢;cases hcv;rfl
   have hrun:(execOp a.eval o).run P w= .ok (.value (if t=true then a.eval x else a.eval y)) w:=by
    rw [execOp,ho];simp [hbv,asBool]
   split at h
   ·split at h
    ·obtain ⟨s',h',e⟩:=fC h;clear h;cases e;have h:=h';exact eU hrun ⟨hE.ev _ _ h,xe⟩
    ·obtain ⟨s',h',e⟩:=fC h;clear h;cases e;have h:=h';exact eU hrun ⟨hE.ev _ _ h,xe⟩
   ·obtain ⟨x',hx,h⟩:=Option.bind_eq_some_iff.1 h;obtain ⟨y',hy,h⟩:=Option.bind_eq_some_iff.1 h;obtain ⟨s',h',e⟩:=fC h;clear h;cases e;have h:=h';exact eU hrun ⟨C9 h (hE.ev _ _ hx) (hE.ev _ _ hy),xe⟩
  ·cases h
 case h_4 e ho=>
  obtain ⟨l,hl,h⟩:=Option.bind_eq_some_iff.1 h;cases h;obtain ⟨z,vs,hz,hc,hv⟩:=qU (P:=P) (w:=w) (β:=β) hl;have hle:=Nm.jf (a:=w.heap.size) hnm;refine eX (by rw [execOp,ho]) (v:= .pointer (some ⟨w.heap.size,0,none⟩)) (w':=w.alloc (.cells ⟨vs⟩ e (0,0))) ?_ ⟨_,rfl,⟨vs,rfl,hv.mono fun _ _=>aq.mono hle⟩,.v (.one (.ptr (by simp [Nm.set])))⟩
  simp only [Instr.alloc,Sem.run_bind,hz,Result.andThen_ok,newVar,newRow,hc];rfl
 case h_5 e x ho=>
  obtain ⟨x',hx,h⟩:=Option.bind_eq_some_iff.1 h;obtain ⟨y,hy,h⟩:=Option.bind_eq_some_iff.1 h;cases h;have hxv:=hE.ev _ _ hx;have hle:=Nm.jf (a:=w.heap.size) hnm;cases x' with
  |v x'=>
   cases hy;cases hxv with
   |v hxv=>
    obtain ⟨vs,hc,hv⟩:=hxv.cells;refine eX (by rw [execOp,ho]) (v:= .pointer (some ⟨w.heap.size,0,none⟩)) (w':=w.alloc (.cells ⟨vs⟩ e (0,0))) ?_ ⟨_,rfl,⟨vs,rfl,hv.mono fun _ _=>aq.mono hle⟩,.v (.one (.ptr (by simp [Nm.set])))⟩
    simp only [Instr.box,Sem.run_bind,newVar,newRow,hc];rfl
  |_=>cases hy
 case h_6 t parts ho=>
  obtain ⟨ps,hps,h⟩:=Option.bind_eq_some_iff.1 h;obtain ⟨l,hl,h⟩:=Option.bind_eq_some_iff.1 h;cases h;have hq:=c9 (g:=fun ix:Nat×Operand=>(ix.1,a.eval ix.2)) (R:=fun (x:Nat×Vv) (y:Nat×Value)=>x.1=y.1∧bC β x.2 y.2) (fun ix b e=>by
   obtain ⟨s1,h1,e⟩:=Option.bind_eq_some_iff.1 e;obtain ⟨s2,h2,e⟩:=Option.bind_eq_some_iff.1 e;cases e;refine ⟨rfl,?_⟩;have:=hE.ev _ _ h1;cases s1 with
   |v x=>cases h2;cases this with
    |v this=>exact this
   |_=>cases h2) hps
  obtain ⟨vs,hr,hv⟩:=Kz (P:=P) (w:=w) hl hq;refine eX (by rw [execOp,ho]) (v:= .agg ⟨vs⟩) (w':=w) ?_ ⟨.v (.agg hv),xe⟩
  rw [←hr]
  congr 2
  exact Array.ext' (by simp)
 case h_7 t len parts ho=>
  split at h
  ·rename_i e hu;split at h
   ·rename_i n hn;split at h
    ·rename_i hd;have hd':=of_decide_eq_true hd;obtain ⟨z,hz,h⟩:=Option.bind_eq_some_iff.1 h;obtain ⟨ps,hps,h⟩:=Option.bind_eq_some_iff.1 h;obtain ⟨l,hl,h⟩:=Option.bind_eq_some_iff.1 h;cases h;have hq:=c9 (g:=fun ix:Nat×Operand=>(ix.1,a.eval ix.2)) (R:=fun (x:Nat×Vv) (y:Nat×Value)=>x.1=y.1∧bC β x.2 y.2) (fun ix b e=>by
      obtain ⟨s1,h1,e⟩:=Option.bind_eq_some_iff.1 e;obtain ⟨s2,h2,e⟩:=Option.bind_eq_some_iff.1 e;cases e;refine ⟨rfl,?_⟩;have:=hE.ev _ _ h1;cases s1 with
      |v x=>cases h2;cases this with
       |v this=>exact this
      |_=>cases h2) hps
     obtain ⟨zs,hzr,hzv⟩:=wX (P:=P) (w:=w) (β:=β) hz;obtain ⟨vs,hf,hvs⟩:=nr hl hzv hq;have hle:=Nm.jf (a:=w.heap.size) hnm;refine eX (by rw [execOp,ho]) (v:= .slice (some ⟨w.heap.size,0,none⟩) len len) (w':=w.alloc (.cells ⟨vs⟩ e (0,0))) ?_ ⟨_,rfl,⟨vs,rfl,hvs.mono fun _ _=>aq.mono hle⟩,.v (.one (.sl (by simp [Nm.set])))⟩
     have ep:(parts.map fun x:Nat×Operand=>(x.1,a.eval x.2)).toList=parts.toList.map fun ix:Nat×Operand=>(ix.1,a.eval ix.2):=by simp
     have ez:(⟨((Array.range (len*n)).map (fun i=>zs[i %zs.size]!)).toList⟩:Array Value)=(Array.range (len*n)).map (fun i=>zs[i %zs.size]!):=rfl;rw [ez] at hf;unfold Instr.buildSlice;simp only [Sem.run_bind,run_underlying hu,Result.andThen_ok,ao hn];rw [if_neg (by omega)]
     by_cases h0:len*n=0
     ·rw [if_pos h0];rw [if_pos h0] at hzr;cases hzr;simp only [Sem.run_bind,Sem.run_pure,Result.andThen_ok,ep,hf,newRow,run_newObj];rfl
     ·rw [if_neg h0];rw [if_neg h0] at hzr;rw [Sem.run_bind] at hzr ⊢;cases hz0:(zeroValue e).run P w with
      |halt hh ww=>rw [hz0] at hzr;cases hzr
      |ok zv ww=>
       rw [hz0] at hzr;simp only [Result.andThen_ok,Sem.run_pure] at hzr ⊢;cases hzr;simp only [Sem.run_bind,Sem.run_pure,Result.andThen_ok,ep,hf,newRow,run_newObj];rfl
    ·cases h
   ·cases h
  ·cases h
 case h_8 t x ho=>
  obtain ⟨x',hx,h⟩:=Option.bind_eq_some_iff.1 h;have hxv:=hE.ev _ _ hx;split at h
  ·rename_i b off;obtain ⟨B,hB,h⟩:=Option.bind_eq_some_iff.1 h;split at h
   ·rename_i l e;obtain ⟨k,hk,hb⟩:=hE.cells hB;obtain ⟨v,hv,h⟩:=Option.bind_eq_some_iff.1 h;cases h;obtain ⟨vs,hob,hvs⟩:=hb;have hav:a.eval x= .pointer (some ⟨k,off,none⟩):=by
     cases hxv with
     |v hxv=>cases hxv with
      |one hxv=>generalize a.eval x=q at hxv ⊢;cases hxv;rename_i h1;rw [hk] at h1;cases h1;rfl
    have hcell: ∀i:Nat,w.cell? ⟨k,i,none⟩=vs[i]? :=fun i=>by simp [World.cell?,hob]
    obtain ⟨r,hr,hh⟩:=mI (P:=P) (w:=w) (k:=k) (base:=0) hv hvs (fun j u hu=>by rw [hcell,Nat.zero_add];exact hu)
    rw [Nat.zero_add] at hr;refine eX (by rw [execOp,ho]) (v:=r) (w':=w) ?_ ⟨.v hh,xe⟩
    simp only [hav,Instr.loadAt,Instr.sureAddr,Sem.run_bind,Sem.run_pure,Result.andThen_ok];exact hr
   ·cases h
  ·rename_i b base sz i f;obtain ⟨B,hB,h⟩:=Option.bind_eq_some_iff.1 h;obtain ⟨⟨p',v⟩,hv,h⟩:=Option.bind_eq_some_iff.1 h;cases h;obtain ⟨k,r,hk,hr,hh⟩:=Py (P:=P) hv hp (hE.mm _ _ hB);have hav:a.eval x= .pointer (some ⟨k,base+i*sz+f,none⟩):=by
    cases hxv with
    |v hxv=>cases hxv with
     |one hxv=>generalize a.eval x=q at hxv ⊢;cases hxv;rename_i h1;rw [hk] at h1;cases h1;rfl
   refine eX (by rw [execOp,ho]) (v:=r) (w':=w) ?_ ⟨.v hh,xe⟩
   simp only [hav,Instr.loadAt,Instr.sureAddr,Sem.run_bind,Sem.run_pure,Result.andThen_ok];exact hr
  ·rename_i g off;obtain ⟨v,hv,h⟩:=Option.bind_eq_some_iff.1 h;cases h;unfold a0r at hv;split at hv
   ·rename_i vs hf;split at hv
    ·rename_i l hl;have hls:=c9 (g:=id) (R:=aq β) (fun a b e=>nZ e) hl;rw [List.map_id] at hls;obtain ⟨t',fz,hob⟩:=hE.gl _ (ma hf);have hav:a.eval x= .pointer (some ⟨g,off,none⟩):=by
      cases hxv with
      |v hxv=>cases hxv with
       |one hxv=>generalize a.eval x=q at hxv ⊢;cases hxv;rfl
     have hcell: ∀i:Nat,w.cell? ⟨g,i,none⟩=vs[i]? :=fun i=>by simp [World.cell?,hob]
     obtain ⟨r,hr,hh⟩:=mI (P:=P) (w:=w) (k:=g) (base:=0) hv hls (fun j u hu=>by rw [hcell,Nat.zero_add];exact hu)
     rw [Nat.zero_add] at hr;refine eX (by rw [execOp,ho]) (v:=r) (w':=w) ?_ ⟨.v hh,xe⟩
     simp only [hav,Instr.loadAt,Instr.sureAddr,Sem.run_bind,Sem.run_pure,Result.andThen_ok];exact hr
    ·cases hv
   ·cases hv
  ·cases h
 case h_9 x ho=>
  obtain ⟨x',hx,h⟩:=Option.bind_eq_some_iff.1 h;have hxv:=hE.ev _ _ hx;split at h
  ·cases h;refine eU (v:=a.eval x) (w':=w) ?_ ⟨hxv,xe⟩;cases hxv with
   |v hxv=>cases hxv with
    |one hxv=>rw [execOp,ho];simp only;generalize a.eval x=q at hxv ⊢;cases hxv;rfl
  ·cases h;refine eU (v:=a.eval x) (w':=w) ?_ ⟨hxv,xe⟩;cases hxv with
   |v hxv=>cases hxv with
    |one hxv=>rw [execOp,ho];simp only;generalize a.eval x=q at hxv ⊢;cases hxv;rfl
  ·cases h;refine eU (v:=a.eval x) (w':=w) ?_ ⟨hxv,xe⟩;cases hxv with
   |v hxv=>cases hxv with
    |one hxv=>rw [execOp,ho];simp only;generalize a.eval x=q at hxv ⊢;cases hxv;rfl
  ·cases h
 case h_10 op t x y yt ho=>
  obtain ⟨x',hx,h⟩:=Option.bind_eq_some_iff.1 h;obtain ⟨y',hy,h⟩:=Option.bind_eq_some_iff.1 h;obtain ⟨p',s',h',e⟩:=dX h;clear h;cases e;have h:=h';obtain ⟨r,hr,hs⟩:=Hj (P:=P) (w:=w) h hp (hE.ev _ _ hx) (hE.ev _ _ hy) x y;exact eX (by rw [execOp,ho]) hr ⟨hs,xe⟩
 case h_11 op t x ho=>
  obtain ⟨x',hx,h⟩:=Option.bind_eq_some_iff.1 h;obtain ⟨p',s',h',e⟩:=dX h;clear h;cases e;have h:=h';obtain ⟨r,hr,hs⟩:=MS (P:=P) (w:=w) h hp (hE.ev _ _ hx);exact eX (by rw [execOp,ho]) hr ⟨hs,xe⟩
 case h_12 sr d x ho=>
  obtain ⟨x',hx,h⟩:=Option.bind_eq_some_iff.1 h;obtain ⟨p',s',h',e⟩:=dX h;clear h;cases e;have h:=h';obtain ⟨r,hr,hs⟩:=DS (P:=P) (w:=w) h hp (hE.ev _ _ hx);exact eX (by rw [execOp,ho]) hr ⟨hs,xe⟩
 case h_13 fn first captured ho=>
  split at h
  ·rename_i f;split at h
   ·rename_i hf;obtain ⟨l,hl,h⟩:=Option.bind_eq_some_iff.1 h;cases h;have hl':=c9 (g:=a.eval) (R:=aq β) (fun x b e=>by
     obtain ⟨s1,h1,e⟩:=Option.bind_eq_some_iff.1 e;have:=hE.ev _ _ h1;unfold a6A at e;split at e
     ·cases e;cases this with
      |v this=>cases this with
       |one this=>exact this
     ·cases e) hl
    have hf':first= #[]:=by cases first;simp_all
    refine eX (by rw [execOp,ho]) (v:= .func (.func f) #[] ⟨captured.toList.map a.eval⟩) (w':=w) ?_ ⟨.lO hl',xe⟩
    subst hf';simp only [Instr.makeFunc,Sem.run_pure]
    congr 2<;>exact Array.ext' (by simp)
   ·cases h
  ·cases h
 case h_14 t x f ho=>
  obtain ⟨x',hx,h⟩:=Option.bind_eq_some_iff.1 h;have hxv:=hE.ev _ _ hx;split at h
  ·rename_i b off;obtain ⟨fd,hfd,h⟩:=Option.bind_eq_some_iff.1 h;obtain ⟨fs,hu,hfs⟩:=c8 hfd;split at h
   ·rename_i n hn;cases h;cases hxv with
    |v hxv=>cases hxv with
     |one hxv=>
      generalize hq:a.eval x=q at hxv;cases hxv with
      |ptr hb=>
       rename_i B;refine eX (by rw [execOp,ho]) (v:= .pointer (some ⟨B,off+fd.offset,none⟩)) (w':=w) ?_ ⟨.v (.one (.ptr hb)),xe⟩
       simp [hq,Instr.fieldAt,run_underlying hu,hfs,Instr.sureAddr,fieldPlace,ao hn,aO]
   ·cases h
  ·rename_i b base sz i off;obtain ⟨fd,hfd,h⟩:=Option.bind_eq_some_iff.1 h;obtain ⟨fs,hu,hfs⟩:=c8 hfd;split at h
   ·rename_i n hn;cases h;cases hxv with
    |v hxv=>cases hxv with
     |one hxv=>
      generalize hq:a.eval x=q at hxv;cases hxv with
      |rp hb=>
       rename_i B;refine eX (by rw [execOp,ho]) (v:= .pointer (some ⟨B,base+i*sz+(off+fd.offset),none⟩)) (w':=w) ?_ ⟨.v (.one (.rp hb)),xe⟩
       simp [hq,Instr.fieldAt,run_underlying hu,hfs,Instr.sureAddr,fieldPlace,ao hn,aO,Nat.add_assoc]
   ·cases h
  ·rename_i g off;obtain ⟨fd,hfd,h⟩:=Option.bind_eq_some_iff.1 h;obtain ⟨fs,hu,hfs⟩:=c8 hfd;split at h
   ·rename_i n hn;cases h;cases hxv with
    |v hxv=>cases hxv with
     |one hxv=>
      generalize hq:a.eval x=q at hxv;cases hxv with
      |op hb=>
       refine eX (by rw [execOp,ho]) (v:= .pointer (some ⟨g,off+fd.offset,none⟩)) (w':=w) ?_ ⟨.v (.one (.op rfl)),xe⟩
       simp [hq,Instr.fieldAt,run_underlying hu,hfs,Instr.sureAddr,fieldPlace,ao hn,aO]
   ·cases h
  ·cases h
 case h_15 t x f ho=>
  obtain ⟨x',hx,h⟩:=Option.bind_eq_some_iff.1 h;have hxv:=hE.ev _ _ hx;split at h
  ·rename_i l;obtain ⟨fd,hfd,h⟩:=Option.bind_eq_some_iff.1 h;obtain ⟨v,hv,h⟩:=Option.bind_eq_some_iff.1 h;cases h;obtain ⟨fs,hu,hfs⟩:=c8 hfd;cases hxv with
   |v hxv=>
    generalize hq:a.eval x=q at hxv;cases hxv with
    |agg hl=>
     obtain ⟨u,hu',hr⟩:=jB (P:=P) (w:=w) hv hl;refine eX (by rw [execOp,ho]) (v:=u) (w':=w) ?_ ⟨.v hr,xe⟩
     simp [hq,Instr.field,run_underlying hu,hfs,asAgg,hu']
  ·cases h
 case h_16 t x i ho=>
  obtain ⟨x',hx,h⟩:=Option.bind_eq_some_iff.1 h;obtain ⟨y',hy,h⟩:=Option.bind_eq_some_iff.1 h;obtain ⟨p',s',h',e⟩:=dX h;clear h;cases e;have h:=h';obtain ⟨r,hr,hs⟩:=HO (P:=P) (w:=w) h hp (hE.ev _ _ hx) (hE.ev _ _ hy);exact eX (by rw [execOp,ho]) hr ⟨hs,xe⟩
 case h_17 t x i ho=>
  obtain ⟨x',hx,h⟩:=Option.bind_eq_some_iff.1 h;obtain ⟨y',hy,h⟩:=Option.bind_eq_some_iff.1 h;have hxv:=hE.ev _ _ hx;have hyv:=hE.ev _ _ hy;split at h
  ·rename_i l k j;split at h
   ·rename_i len e hu;split at h
    ·rename_i n hn;split at h
     ·rename_i hd;simp only [Bool.and_eq_true,decide_eq_true_eq] at hd;obtain ⟨v,hv,h⟩:=Option.bind_eq_some_iff.1 h;cases h;cases hxv with
      |v hxv=>
       generalize hq:a.eval x=q at hxv;cases hxv with
       |agg hl=>
        cases hyv with
        |v hyv=>cases hyv with
         |one hyv=>
          generalize hq':a.eval i=q' at hyv;cases hyv;obtain ⟨u,hu',hr⟩:=jB (P:=P) (w:=w) hv hl;refine eX (by rw [execOp,ho]) (v:=u) (w':=w) ?_ ⟨.v hr,xe⟩
          simp [hq,hq',Instr.index,asIntOf,run_underlying hu,hd,ao hn,hu']
     ·cases h
    ·cases h
   ·cases h
  ·cases h
 case h_18 t x lo hi mx ho=>
  obtain ⟨x',hx,h⟩:=Option.bind_eq_some_iff.1 h;obtain ⟨l,hl,h⟩:=Option.bind_eq_some_iff.1 h;obtain ⟨hh,hhi,h⟩:=Option.bind_eq_some_iff.1 h;obtain ⟨m,hm,h⟩:=Option.bind_eq_some_iff.1 h;obtain ⟨p',s',h',e⟩:=dX h;clear h;cases e;obtain ⟨r,hr,hs⟩:=LF (P:=P) (w:=w) h' hp (hE.ev _ _ hx) (dW hE hl) (dW hE hhi) (dW hE hm);exact eX (by rw [execOp,ho]) hr ⟨hs,xe⟩
 case h_19 t l c ho=>
  obtain ⟨l',hl,h⟩:=Option.bind_eq_some_iff.1 h;obtain ⟨c',hc,h⟩:=Option.bind_eq_some_iff.1 h;obtain ⟨li,hli,h⟩:=Option.bind_eq_some_iff.1 h;obtain ⟨ci,hci,h⟩:=Option.bind_eq_some_iff.1 h;obtain ⟨kl,el⟩:=jQ hli (hE.ev _ _ hl);obtain ⟨kc,ec⟩:=jQ hci (hE.ev _ _ hc);obtain ⟨r,w',hr,hL⟩:=OD (P:=P) (w:=w) (kl:=kl) (kc:=kc) h hp hnm;rw [←el,←ec] at hr;exact eX (by rw [execOp,ho]) hr hL
 case h_20 t i ho=>
  obtain ⟨x',hx,h⟩:=Option.bind_eq_some_iff.1 h;have hxv:=hE.ev _ _ hx;split at h
  ·obtain ⟨v,hv,h⟩:=Option.bind_eq_some_iff.1 h;cases h;generalize hq:a.eval t=q at hxv;cases hxv with
   |cz hl=>
    obtain ⟨u,hu,hr⟩:=hl.get hv;refine eX (by rw [execOp,ho]) (v:=u) (w':=w) ?_ ⟨.v hr,xe⟩
    simp [hq,Instr.extract,hu]
  ·cases h
 case h_21 c ho=>
  split at h
  ·rename_i f hf;obtain ⟨fv,hfv,h⟩:=Option.bind_eq_some_iff.1 h;have hfh:=hE.ev _ _ hfv;split at h
   ·rename_i id caps;obtain ⟨us,hus,h⟩:=Option.bind_eq_some_iff.1 h;obtain ⟨fc,hfc,h⟩:=Option.bind_eq_some_iff.1 h;obtain ⟨p',s',h',e⟩:=dX h;clear h;cases e;have h:=h';obtain ⟨hcall,hsound⟩:=(hΓ id fc (ma hfc)).run;generalize hq:a.eval f=q at hfh;cases hfh with
    |lO hcaps=>
     rename_i vs;have hargs:=(C6 hE hus).append (pE hcaps);refine kd (f:=id) (args:=⟨c.args.toList.map a.eval++vs⟩) ?_ ((hsound β _ _ _ _ _ w hE.gl hE.mm hE.ng hE.sat h hp hargs).mono ?_)
     ·rw [execOp,ho];have e1:(c.args.map a.eval)=⟨c.args.toList.map a.eval⟩:=by apply Array.ext';simp
      simp only [resolve,hf,hq,Deferred.ofValue,Sem.run_bind,Sem.run_pure,Result.andThen_ok,invoke,e1];rw [dH hcall];simp
     ·rintro e w' ⟨r,rfl,hr,hx⟩;exact ⟨r,rfl,hr,hx⟩
   ·cases h
  ·rename_i b hf;obtain ⟨us,hus,h⟩:=Option.bind_eq_some_iff.1 h;obtain ⟨s',h',e⟩:=fC h;clear h;cases e;have h:=h';have hargs:=C6 hE hus;obtain ⟨r,hr,hs⟩:=At (P:=P) (w:=w) (T:=o.type) (cs:=c.args.map fun| .const _=>true|_=>false) h hargs;refine eU (v:=r) (w':=w) ?_ ⟨hs,xe⟩;rw [execOp,ho];have e1:(c.args.map a.eval)=⟨c.args.toList.map a.eval⟩:=by apply Array.ext';simp
   simp only [resolve,hf,Sem.run_bind,Sem.run_pure,Result.andThen_ok,invoke,e1];exact hr
  ·cases h
 case h_22=>cases h
end
end Go.Proofs.YtfdmjoddhjmokaaGreatDoor.Rex
namespace Go.Proofs.YtfdmjoddhjmokaaGreatDoor.Rex
open Go.RowKit
set_option linter.unusedVariables false
set_option linter.unusedSimpArgs false
theorem dN {sh:List Kd}(h:sh=sh)(xs:List (Row sh)):eA h xs=xs:=rfl
def Xt(mm:Nat→Option bG)(sh:List Kd)(s:SV):Option (Option Prop×List (Row sh)×Nat):=match s with
 | .v (.one .aj)=>some (none,[],0)
 | .v (.one (.sl y off _ len _))=>match mm y with
  |some (.cells l _)=>match decide (off+len*sh.length≤l.length) with
   |true=>match rowsOf sh len (l.drop off) with
    |some ys=>some (none,ys,len)
    |none=>none
   |false=>none
  |_=>none
 | .v (.one (.gv sh' v ys))=>match iM sh' sh with
  |some ⟨h⟩=>some (none,eA h ys,ys.length)
  |none=>none
 | .v (.one (.rs z tg y base sz o n c))=>match mm y with
  |some (.rows ro z' sh' ys base' tot e)=>match iM sh' sh,Nat.beq sz sh.length with
   |some ⟨h⟩,true=>match tg with
    |0=>match ro with
     |true=>some (some (base=base'∧n=ys.length),eA h ys,n)
     |false=>match Nat.beq base base' with
      |true=>some (some (n=ys.length),eA h ys,n)
      |false=>none
    |_=>match ro with
     |true=>some (some (base=base'∧o+n≤ys.length),((eA h ys).drop o).take n,n)
     |false=>match Nat.beq base base' with
      |true=>some (some (o+n≤ys.length),((eA h ys).drop o).take n,n)
      |false=>none
   |_,_=>none
  |_=>none
 |_=>none
section
variable {P:Program} {β:Nm} {w:World}
theorem C4 {k base size n:Nat} {vs cs:List Value}(hc: ∀i:Nat,w.cell? ⟨k,i,none⟩=vs[i]?)(hl:cs.length=n*size)(h: ∀ (j:Nat) v,cs[j]? =some v→vs[base+j]? =some v)(len cap:Nat):
  (Builtin.firstCells size n (.slice (some ⟨k,base,none⟩) len cap)).run P w= .ok ⟨cs⟩ w:=by
 refine run_firstCells_some w size n ⟨k,base,none⟩ len cap cs hl fun j v hj=>?_;rw [aO,hc];exact h j v hj
def S9(w:World)(sh:List Kd)(x:Value)(ys:List (Row sh)):Prop:= ∃ (c:Nat),(ys.length=0∧ ∃q,x= .slice q 0 c)∨ ∃ (B o:Nat) (vs:List Value) (e:TypeId) (fz:Nat×Nat),x= .slice (some ⟨B,o,none⟩) ys.length c∧w.heap[B]? =some (.cells ⟨vs⟩ e fz)∧ ∀ (j:Nat) u,(ys.flatMap (bA sh))[j]? =some u→vs[o+j]? =some u
theorem S9.first {sh:List Kd} {x:Value} {ys:List (Row sh)}(h:S9 w sh x ys):(∀v:World,(Builtin.lenOf x).run P v= .ok ys.length v)∧ ∀v:World,v.heap=w.heap→(Builtin.firstCells sh.length ys.length x).run P v= .ok ⟨ys.flatMap (bA sh)⟩ v:=by
 obtain ⟨c,⟨h0,q,rfl⟩|⟨B,o,vs,e,fz,rfl,hob,hr⟩⟩:=h
 ·have:ys= []:=List.eq_nil_of_length_eq_zero h0;subst this;refine ⟨fun v=>rfl,fun v _=>?_⟩;cases q<;>simp [Builtin.firstCells,loadCells,loadCellsFrom]
 ·refine ⟨fun v=>rfl,fun v hv=>C4 (vs:=vs) (fun i=>by simp [World.cell?,hv,hob]) (by rw [bN]) hr _ _⟩
theorem IY {mm:Nat→Option bG} {sh:List Kd} {s:SV} {x:Value} {q:Option Prop} {ys:List (Row sh)} {k:Nat}(hq:Xt mm sh s=some (q,ys,k))(hp:ob q)
  (hmm: ∀x b,mm x=some b→b.dead∨ ∃k,β x=some k∧cw β b w.heap[k]?) (him: ∀sh v xs,β.g sh v xs→ ∃m,kr β m w sh v xs) (hx:Has β s x):
  ys.length=k∧S9 w sh x ys∧aN β sh ys:=by
 unfold Xt at hq;split at hq
 ·cases hq;cases hx with
  |v hx=>cases hx with
   |one hx=>cases hx with
    |aj=>exact ⟨rfl,⟨0,.inl ⟨rfl,none,rfl⟩⟩,.nil⟩
 ·rename_i y off kn len cap;split at hq
  ·rename_i l e hm;split at hq
   ·rename_i hd;have hd:=of_decide_eq_true hd;split at hq
    ·rename_i ys' hys;cases hq;obtain ⟨B,hB,vs,hob,hus⟩:=(hmm _ _ hm).resolve_left id;obtain ⟨h1,h2,h3⟩:=Ca hys (hus.drop off);cases hx with
     |v hx=>cases hx with
      |one hx=>cases hx with
       |sl hb=>
        rw [hB] at hb;cases hb;refine ⟨h2,⟨cap,.inr ⟨B,off,vs,e,_,by rw [h2],hob,fun j u hj=>?_⟩⟩,h3⟩
        rw [←h1,List.getElem?_take] at hj;split at hj
        ·rw [List.getElem?_drop] at hj;exact hj
        ·cases hj
    ·cases hq
   ·cases hq
  ·cases hq
 ·rename_i sh' v ys';split at hq
  ·rename_i hE hsh;clear hsh;subst hE;rw [dN] at hq;cases hq;cases hx with
   |v hx=>cases hx with
    |one hx=>cases hx with
     |gv hi hone=>
      rcases hi with hi|⟨rfl,rfl⟩
      ·obtain ⟨m,h0,c,hc,h1⟩:=him _ _ _ hi;rcases h1 with ⟨rfl,q,rfl⟩|⟨b,base,vs,t,fz,rfl,hob,hR,_⟩
       ·exact ⟨rfl,⟨c,.inl ⟨rfl,q,rfl⟩⟩,.nil⟩
       ·refine ⟨rfl,⟨c,.inr ⟨b,base,vs,t,fz,rfl,hob,fun j u hj=>?_⟩⟩,h0⟩;have h3:=hR.2.2;rw [←h3,List.getElem?_take] at hj;split at hj
        ·rw [List.getElem?_drop] at hj;exact hj
        ·cases hj
      ·exact ⟨rfl,⟨0,.inl ⟨rfl,none,rfl⟩⟩,.nil⟩
  ·cases hq
 ·rename_i z tg y base sz o n c;split at hq
  ·rename_i ro z' sh' rs base' tot e hm;split at hq
   ·rename_i hE hsh hsz;clear hsh;have hsz:=Nat.eq_of_beq_eq_true hsz;subst hsz;subst hE;rw [dN] at hq;have key: ∀zs:List (Row sh'),base=base'→zs.length=n→(n≠0→o+n≤rs.length∧zs=(rs.drop o).take n)→ys=zs→k=n→ys.length=k∧S9 w sh' x ys∧aN β sh' ys:=by
     rintro zs rfl hzl hin rfl rfl;cases hx with
     |v hx=>cases hx with
      |one hx=>cases hx with
       |rs hx=>
        obtain ⟨qa,hqa⟩:=hx.isSlice;by_cases h0:k=0
        ·subst h0;have:ys= []:=List.eq_nil_of_length_eq_zero hzl;subst this;exact ⟨rfl,⟨c,.inl ⟨rfl,qa,hqa⟩⟩,.nil⟩
        ·obtain ⟨hin,rfl⟩:=hin h0;obtain ⟨B',hB',_,vs,fz,t',hob,_,hR,hRo⟩:=(hmm _ _ hm).resolve_left (fun hd=>by have h2:rs= []:=hd.2;rw [h2] at hin;simp at hin;omega)
         refine ⟨hzl,?_,(hRo.drop _).take _⟩;rcases hx.2.2 with ⟨_,e0,_⟩|⟨_,B,hB,rfl⟩
         ·exact absurd e0 h0
         ·rw [hB] at hB';cases hB';refine ⟨c,.inr ⟨_,base+o*sh'.length,vs,t',fz,by rw [hzl],hob,fun j u hj=>?_⟩⟩
          have hsl:0<sh'.length:=by
           have:=(List.getElem?_eq_some_iff.1 hj).1;rw [bN] at this;rcases Nat.eq_zero_or_pos sh'.length with e|h
           ·rw [e] at this;simp at this
           ·exact h
          have hjl:j<k*sh'.length:=by
           have:=(List.getElem?_eq_some_iff.1 hj).1
           rwa [bN,hzl] at this
          have hi:j / sh'.length<k:=by rw [Nat.div_lt_iff_lt_mul hsl];exact hjl
          have hm:j %sh'.length<sh'.length:=Nat.mod_lt _ hsl;have hjj:j=j / sh'.length*sh'.length+j %sh'.length:=by rw [Nat.mul_comm];exact (Nat.div_add_mod j sh'.length).symm
          have g1:((rs.drop o).take k)[j / sh'.length]? =some (al rs (o+j / sh'.length)):=by
           rw [List.getElem?_take,if_pos hi,List.getElem?_drop];exact gP (by omega)
          have g2:=jL g1 hm;rw [←hjj,hj] at g2;have g3:=hR.get (i:=o+j / sh'.length) (by omega) g2.symm
          rw [←g3]
          congr 1
          rw [Nat.add_mul];omega
    split at hq
    ·have h0:o=0:=by
      cases hx with
      |v hx=>cases hx with
       |one hx=>cases hx with
        |rs hx=>exact hx.1 rfl
     subst h0;split at hq
     ·cases hq;exact key rs hp.1 hp.2.symm (fun _=>⟨by rw [hp.2];omega,by rw [List.drop_zero,hp.2,List.take_length]⟩) rfl rfl
     ·split at hq
      ·rename_i hb;cases hq;have hp:k=rs.length:=hp;exact key rs (Nat.eq_of_beq_eq_true hb) hp.symm (fun _=>⟨by rw [hp];omega,by rw [List.drop_zero,hp,List.take_length]⟩) rfl rfl
      ·cases hq
    ·split at hq
     ·cases hq;exact key _ hp.1 (by simp;have:=hp.2;omega) (fun _=>⟨hp.2,rfl⟩) rfl rfl
     ·split at hq
      ·rename_i hb;cases hq;have hp:o+k≤rs.length:=hp;exact key _ (Nat.eq_of_beq_eq_true hb) (by simp;omega) (fun _=>⟨hp,rfl⟩) rfl rfl
      ·cases hq
   ·cases hq
  ·cases hq
 ·cases hq
end
def strOf:SV→Option (List UInt8)
 | .v (.one (.op v))=>match v with
  | .string b=>some b.data.toList
  |_=>none
 |_=>none
def YE(l:List UInt8):SV:= .v (.one (.op (dc l)))
def XA(op:BinOp)(a b:List UInt8):Option (Option Prop×SV):=match op with
 | .add=>some (some (a.length+b.length≤9223372036854775807),YE (a++b))
 | .eql=>some (none,lb false (a==b))
 | .neq=>some (none,lb false (!(a==b)))
 |_=>none
def Jh(l:List UInt8)(lo hi:Option (Bool×Int)):Option Prop×List UInt8:=match lo,hi with
 |none,none=>(none,l)
 |none,some (_,h)=>(some (0≤h∧h≤(l.length:Int)),l.take h.toNat)
 |some (_,a),none=>(some (0≤a∧a≤(l.length:Int)),l.drop a.toNat)
 |some (_,a),some (_,h)=>(some (0≤a∧a≤h∧h≤(l.length:Int)),(l.drop a.toNat).take (h.toNat-a.toNat))
def oM(r:Row [.int .u8]):UInt8:=UInt8.ofNat r.1.toNat
def bw(ys:List (Row [.int .u8])):List UInt8:=ys.map oM
def cG(l:List UInt8)(i:Nat):Int:=((l.getD i 0).toNat:Int)
def Ps(P:Program)(t:TypeId)(name:String):Option FuncId:=match P.info? t with
 |some i=>match i.methods.toList.find? (fun m=>m.name==name) with
  |some m=>match m.path.toList,m.func with
   | [],some (f,true)=>match P.underlying t with
    |some (.pointer _)=>some f
    |_=>none
   |_,_=>none
  |none=>none
 |none=>none
def ifQ(P:Program)(t:TypeId):SV→Option SV
 | .v (.one (.ptr x o))=>match P.underlying t with
  |some (.interface _)=>none
  |some _=>some (.v (.one (.xW t x o)))
  |none=>none
 |_=>none
def qX(P:Program)(E:Env)(o:Op):Option (Option Prop×SV):=match o with
 | .binOp op t x y _=>(E.ev x).bind fun a=>(E.ev y).bind fun b=>match strOf a,strOf b with
  |some a,some b=>XA op a b
  |_,_=>none
 | .convert s d x=>match P.underlying s,P.underlying d with
  |some (.slice e),some .string=>match P.underlying e with
   |some (.int .u8)=>(E.ev x).bind fun a=>match Xt E.mm [.int .u8] a with
    |some (p,ys,_)=>some (p,YE (bw ys))
    |none=>none
   |_=>none
  |_,_=>none
 | .index t x i=>match P.underlying t with
  |some .string=>(E.ev x).bind fun a=>(E.ev i).bind fun i=>match strOf a,sK i with
   |some l,some (_,i)=>some (some (0≤i∧i<(l.length:Int)),ln .u8 false (cG l i.toNat))
   |_,_=>none
  |_=>none
 | .slice t x lo hi mx=>match P.underlying t with
  |some .string=>(E.ev x).bind fun a=>(Gh E lo).bind fun l=>(Gh E hi).bind fun h=>match strOf a with
   |some s=>match mx with
    |none=>some ((Jh s l h).1,YE (Jh s l h).2)
    |some _=>none
   |none=>none
  |_=>none
 | .indexAddr t x i=>match P.underlying t with
  |some (.slice e)=>(E.ev x).bind fun a=>(E.ev i).bind fun i=>(sK i).bind fun i=>(bI P e).bind fun n=>match a with
   | .v (.one (.gv sh v xs))=>match Nat.beq n sh.length with
    |true=>some (some (0≤i.2∧i.2<(xs.length:Int)),.v (.one (.imp sh v xs i.2.toNat 0)))
    |false=>none
   |_=>none
  |_=>none
 | .load t a=>(E.ev a).bind fun a=>match a with
  | .v (.one (.imp sh v xs i f))=>(gA P t (KP sh (al xs i)) f).bind fun u=>some (some (i<xs.length),.v u)
  |_=>none
 | .fieldAddr t x f=>(E.ev x).bind fun a=>match a with
  | .v (.one (.imp sh v xs i off))=>(kg P t f).bind fun fd=>match bI P fd.type with
   |some (n+1)=>some (none,.v (.one (.imp sh v xs i (off+fd.offset))))
   |_=>none
  |_=>none
 | .nilCheck x=>(E.ev x).bind fun a=>match a with
  | .v (.one (.imp sh v xs i f))=>some (none,.v (.one (.imp sh v xs i f)))
  | .xX n t y o=>match Ps P t n with
   |some _=>some (none,.xX n t y o)
   |none=>none
  |_=>none
 | .makeInterface t x=>(E.ev x).bind fun a=>(ifQ P t a).bind fun s=>some (none,s)
 | .makeFunc fn first captured=>match fn,first.toList,captured.toList with
  | .method n,[r],[]=>(E.ev r).bind fun a=>match a with
   | .v (.one (.xW t x o))=>some (none,.xX n t x o)
   |_=>none
  |_,_,_=>none
 | .call c=>match c.callee with
  | .builtin .len=>match c.argTypes[0]?,c.args.toList with
   |some t,[x]=>(E.ev x).bind fun a=>match P.underlying t with
    |some .string=>match strOf a with
     |some l=>some (none,ln .i64 false (l.length:Int))
     |none=>none
    |some (.slice _)=>match a with
     | .v (.one (.gv _ _ xs))=>some (none,ln .i64 false (xs.length:Int))
     |_=>none
    |_=>none
   |_,_=>none
  |_=>none
 |_=>none
def Mg(M:Md)(P:Program)(Γ:List (FuncId×FX))(E:Env)(nm:Nat)(o:Op):Option (Option Prop×SV×Option bG):=match nh M P Γ E nm o with
 |some r=>some r
 |none=>r1 (qX P E o)
section
variable {P:Program} {E:Env} {o:Oper} {p:Option Prop} {s:SV} {β:Nm} {a:Act} {w:World}
theorem dq {s:SV} {l:List UInt8} {v:Value}(h:strOf s=some l)(k:Has β s v):v=dc l:=by
 unfold strOf at h;split at h
 ·split at h
  ·cases h;cases k with
   |v k=>cases k with
    |one k=>cases k;rfl
  ·cases h
 ·cases h
theorem tA(l:List UInt8):Has β (YE l) (dc l):= .v (.one (.op rfl))
theorem Bd {op:BinOp} {x y:List UInt8}(t:TypeId)(h:XA op x y=some (p,s))(hp:ob p)(X Y:Operand)(w:World): ∃r,(do eqGuard op t X Y (dc x) (dc y);binOp op t (dc x) (dc y):Sem Value).run P w= .ok r w∧Has β s r:=by
 have hg:(eqGuard op t X Y (dc x) (dc y)).run P w= .ok () w:=iG (by intro cs e;cases e) (by intro e;cases e)
 rw [Sem.run_bind,hg];simp only [Result.andThen_ok];unfold XA at h;split at h
 ·cases h;refine ⟨dc (x++y),?_,tA _⟩;have hp:x.length+y.length≤9223372036854775807:=hp;have e1: ¬(((((⟨⟨x⟩⟩:ByteArray).size+(⟨⟨y⟩⟩:ByteArray).size:Nat):Int))>IntKind.i64.max):=by
   simp [ByteArray.size,IntKind.max,IntKind.bits,IntKind.signed] at*;omega
  show (Op.stringOp .add ⟨⟨x⟩⟩ ⟨⟨y⟩⟩).run P w=_;unfold Op.stringOp;simp only [if_neg e1];rfl
 ·cases h;refine ⟨.bool (x==y),?_,.v (.one .bool)⟩;show (Op.stringOp .eql ⟨⟨x⟩⟩ ⟨⟨y⟩⟩).run P w=_;unfold Op.stringOp;simp only [ByteArray.toList_eq];rfl
 ·cases h;refine ⟨.bool (!(x==y)),?_,.v (.one .bool)⟩;show (Op.stringOp .neq ⟨⟨x⟩⟩ ⟨⟨y⟩⟩).run P w=_;unfold Op.stringOp;simp only [ByteArray.toList_eq];rfl
 ·cases h
theorem R3 {sr e d:TypeId}(hs:P.underlying sr=some (.slice e))(he:P.underlying e=some (.int .u8))(hd:P.underlying d=some .string) {x:Value} {ys:List (Row [.int .u8])}(h:S9 w [.int .u8] x ys):
  (convert sr d x).run P w= .ok (dc (ys.map oM)) w:=by
 have flat: ∀l:List (Row [.int .u8]),l.flatMap (bA [.int .u8])=l.map fun r=>Value.int .u8 r.1:=by
  intro l
  induction l with
  |nil=>rfl
  |cons a l ih=>rw [List.flatMap_cons,ih];rfl
 have fin: ∀ (B o c:Nat),(∀i,i<ys.length→w.cell? ⟨B,o+i,none⟩=some (.int .u8 ((ys.map fun r=>r.1).getD i 0)))→(convert sr d (.slice (some ⟨B,o,none⟩) ys.length c)).run P w= .ok (dc (ys.map oM)) w:=by
  intro B o c hc;rw [run_convert_bytes_arg w sr e hs he B o ys.length c (ys.map fun r=>r.1) (by simp) hc d hd]
  simp only [strOfNums,List.map_map,dc];rfl
 obtain ⟨c,⟨h0,q,rfl⟩|⟨B,o,vs,te,fz,rfl,hob,hr⟩⟩:=h
 ·have:ys= []:=List.eq_nil_of_length_eq_zero h0;subst this;cases q with
  |none=>
   rw [run_convert_bytes_nil w sr e hs he 0 c d hd];rfl
  |some q=>
   obtain ⟨B,o,sp⟩:=q;cases sp with
   |none=>exact fin B o c (fun i hi=>by simp at hi)
   |some sp=>
    simp [convert,run_underlying hs,run_underlying hd,run_underlying he,Conv.bytesToString,loadCells,loadCellsFrom];rfl
 ·refine fin B o c fun i hi=>?_;have h1:=hr i (.int .u8 ys[i].1) (by rw [flat];simp [hi])
  simp [World.cell?,hob,h1,hi]
theorem Ip {t:TypeId}(hu:P.underlying t=some .string) {l:List UInt8} {vl vh:Option Value} {a b m:Nat}(hb:(Instr.sliceBounds false l.length l.length vl vh none).run P w= .ok (a,b,m) w):
  (Instr.sliceAt t (dc l) vl vh none).run P w= .ok (dc ((l.drop a).take (b-a))) w:=by
 have e1:(⟨⟨l⟩⟩:ByteArray).size=l.length:=rfl;simp only [Instr.sliceAt,Instr.slice,dc,Sem.run_bind,run_underlying hu,Result.andThen_ok,e1,hb,Option.isSome_none,Bool.false_eq_true,if_false,Sem.run_pure]
 congr 2
 apply ByteArray.ext;apply Array.toList_inj.1;rw [Lib.extract_data]
theorem DU {t:TypeId}(hu:P.underlying t=some .string) {l:List UInt8} {lo hi:Option (Bool×Int)} {vl vh:Option Value}(h1:BH lo vl)(h2:BH hi vh)(hp:ob (Jh l lo hi).1)(w:World):
  (Instr.sliceAt t (dc l) vl vh none).run P w= .ok (dc (Jh l lo hi).2) w:=by
 have bd: ∀ (a b:Nat),BV 0 lo vl a→BV l.length hi vh b→a≤b→b≤l.length→(Instr.sliceAt t (dc l) vl vh none).run P w= .ok (dc ((l.drop a).take (b-a))) w:=fun a b ha hb h1 h2=>
  Ip hu (cZ (BH.none (v:=none) trivial l.length) hb ha h1 h2 (Nat.le_refl _) (fun _=>rfl))
 unfold Jh at hp ⊢;split at hp
 ·rw [bd 0 l.length (BH.none h1 0) (BH.none h2 _) (Nat.zero_le _) (Nat.le_refl _)];simp
 ·rename_i kn h;have hp:0≤h∧h≤(l.length:Int):=hp;rw [bd 0 h.toNat (BH.none h1 0) (h2.bv hp.1 _) (Nat.zero_le _) (by omega)]
  simp
 ·rename_i kn h;have hp:0≤h∧h≤(l.length:Int):=hp;rw [bd h.toNat l.length (h1.bv hp.1 _) (BH.none h2 _) (by omega) (Nat.le_refl _)]
  simp only;rw [List.take_of_length_le (by simp)]
 ·rename_i kn a kn' h;have hp:0≤a∧a≤h∧h≤(l.length:Int):=hp;rw [bd a.toNat h.toNat (h1.bv hp.1 _) (h2.bv (by omega) _) (by omega) (by omega)]
theorem EE {t:TypeId} {n:String} {f:FuncId}(h:Ps P t n=some f): ∃i m,P.info? t=some i∧i.methods.find? (fun m=>m.name==n)=some m∧m.path= #[]∧m.func=some (f,true)∧ ∃e,P.underlying t=some (.pointer e):=by
 unfold Ps at h;split at h
 ·rename_i i hi;split at h
  ·rename_i m hm;split at h
   ·rename_i hpa hf;split at h
    ·rename_i e hu;cases h;refine ⟨i,m,hi,?_,by cases hq:m.path;simp_all,hf,e,hu⟩
     rw [←hm,Array.find?_toList]
    ·cases h
   ·cases h
  ·cases h
 ·cases h
theorem uE {t:TypeId} {n:String} {f:FuncId}(h:Ps P t n=some f)(v:Value)(k:Nat)(w:World):(nilAhead (k+1) t v n).run P w= .ok (some false) w:=by
 obtain ⟨i,m,hi,hm,hpa,hf,e,hu⟩:=EE h;simp [nilAhead,typeInfo,hi,hm,hpa,hf,followBlind]
theorem KH {t:TypeId} {n:String} {f:FuncId}(h:Ps P t n=some f)(v:Value)(k:Nat)(w:World):(method (k+1) t v n).run P w= .ok (f,v) w:=by
 obtain ⟨i,m,hi,hm,hpa,hf,e,hu⟩:=EE h;simp [method,typeInfo,hi,hm,hpa,hf,follow,receiverAt,run_underlying hu,Place.get]
set_option maxHeartbeats 1000000 in
theorem SN(h:qX P E o.op=some (p,s))(hp:ob p)(hE:P8 β E a w): ∃r,Has β s r∧(execOp a.eval o).run P w= .ok (.value r) w:=by
 have fin: ∀ {sm:Sem Value} {r:Value},execOp a.eval o=(do let x ←sm;pure (.value x))→sm.run P w= .ok r w→Has β s r→ ∃r,Has β s r∧(execOp a.eval o).run P w= .ok (.value r) w:=by
  intro sm r h1 h2 h3;exact ⟨r,h3,by rw [h1,Sem.run_bind,h2];rfl⟩
 unfold qX at h;split at h
 ·rename_i op t x y yt ho;obtain ⟨x',hx,h⟩:=Option.bind_eq_some_iff.1 h;obtain ⟨y',hy,h⟩:=Option.bind_eq_some_iff.1 h;split at h
  ·rename_i l m hl hm;obtain ⟨r,h1,h2⟩:=Bd t h hp x y w;rw [←dq hl (hE.ev _ _ hx),←dq hm (hE.ev _ _ hy)] at h1;exact fin (by rw [execOp,ho]) h1 h2
  ·cases h
 ·rename_i sr d x ho;split at h
  ·rename_i e hs hd;split at h
   ·rename_i he;obtain ⟨x',hx,h⟩:=Option.bind_eq_some_iff.1 h;split at h
    ·rename_i q ys k hq;cases h;obtain ⟨_,h1,_⟩:=IY hq hp hE.mm hE.im (hE.ev _ _ hx);exact fin (by rw [execOp,ho]) (R3 hs he hd h1) (tA _)
    ·cases h
   ·cases h
  ·cases h
 ·rename_i t x i ho;split at h
  ·rename_i hu;obtain ⟨x',hx,h⟩:=Option.bind_eq_some_iff.1 h;obtain ⟨i',hi,h⟩:=Option.bind_eq_some_iff.1 h;split at h
   ·rename_i l kn j hl hj;cases h;have hp:0≤j∧j<(l.length:Int):=hp;obtain ⟨ki,hki⟩:=jQ hj (hE.ev _ _ hi);have hxv:=dq hl (hE.ev _ _ hx);have hjl:j.toNat<l.length:=by omega
    refine fin (sm:=Instr.index t (a.eval x) (a.eval i)) (r:= .int .u8 ((l.getD j.toNat 0).toNat:Int)) (by rw [execOp,ho]) ?_ (.v (.one .int))
    have e1:(⟨⟨l⟩⟩:ByteArray)[j.toNat]? =some (l[j.toNat]):=by
     show (if h:j.toNat<l.length then some _ else none)=_;rw [dif_pos hjl];rfl
    have e2:l.getD j.toNat 0=l[j.toNat]:=by simp [List.getD,hjl]
    rw [hxv,hki,e2];simp [Instr.index,asIntOf,run_underlying hu,dc,hp.1,e1]
   ·cases h
  ·cases h
 ·rename_i t x lo hi mx ho;split at h
  ·rename_i hu;obtain ⟨x',hx,h⟩:=Option.bind_eq_some_iff.1 h;obtain ⟨l,hl,h⟩:=Option.bind_eq_some_iff.1 h;obtain ⟨hh,hhi,h⟩:=Option.bind_eq_some_iff.1 h;split at h
   ·rename_i l' hl';cases mx with
    |some _=>cases h
    |none=>
    cases h;have hxv:=dq hl' (hE.ev _ _ hx);refine fin (sm:=Instr.sliceAt t (a.eval x) (lo.map a.eval) (hi.map a.eval) none) (by rw [execOp,ho];rfl) ?_ (tA _)
    rw [hxv];exact DU hu (dW hE hl) (dW hE hhi) hp w
   ·cases h
  ·cases h
 ·rename_i t x i ho;split at h
  ·rename_i e hu;obtain ⟨x',hx,h1⟩:=Option.bind_eq_some_iff.1 h;clear h;obtain ⟨i',hi,h2⟩:=Option.bind_eq_some_iff.1 h1;clear h1;obtain ⟨⟨kn,j⟩,hj,h3⟩:=Option.bind_eq_some_iff.1 h2;clear h2;obtain ⟨n,hn,h⟩:=Option.bind_eq_some_iff.1 h3;clear h3;split at h
   ·rename_i sh v xs;split at h
    ·rename_i hb;have:=Nat.eq_of_beq_eq_true hb;subst this;cases h;have hp:0≤j∧j<(xs.length:Int):=hp;obtain ⟨ki,hki⟩:=jQ hj (hE.ev _ _ hi);have hxv:=hE.ev _ _ hx;generalize hq:a.eval x=q at hxv;cases hxv with
     |v hxv=>cases hxv with
      |one hxv=>cases hxv with
       |gv him hone=>
        have him0:=him;rcases him with him|⟨rfl,rfl⟩
        ·obtain ⟨m,_,c,hc,h1⟩:=hE.im _ _ _ him;rcases h1 with ⟨rfl,_⟩|⟨b,base,vs,t',fz,rfl,hob,hR,_⟩
         ·simp at hp;omega
         ·refine fin (sm:=Instr.indexAt t (a.eval x) (a.eval i)) (r:= .pointer (some ⟨b,base+j.toNat*sh.length+0,none⟩)) (by rw [execOp,ho]) ?_ (.v (.one (.imp him0 rfl)))
          rw [hq,hki];simp [Instr.indexAt,asIntOf,run_underlying hu,hp,ao hn,aO]
        ·simp at hp;omega
    ·cases h
   ·cases h
  ·cases h
 ·rename_i t x ho;obtain ⟨x',hx,h⟩:=Option.bind_eq_some_iff.1 h;split at h
  ·rename_i sh v xs i f;obtain ⟨u,hu,h⟩:=Option.bind_eq_some_iff.1 h;cases h;have hp:i<xs.length:=hp;have hxv:=hE.ev _ _ hx;generalize hq:a.eval x=q at hxv;cases hxv with
   |v hxv=>cases hxv with
    |one hxv=>cases hxv with
     |imp him hv=>
      rename_i b o n c;rcases him with him|⟨rfl,rfl⟩
      ·obtain ⟨m,h0,c',hc,h1⟩:=hE.im _ _ _ him;rcases h1 with ⟨rfl,_⟩|⟨b',base,vs,t',fz,hv',hob,hR,_⟩
       ·simp at hp
       ·rw [hv] at hv';cases hv';have hcell: ∀i:Nat,w.cell? ⟨b,i,none⟩=vs[i]? :=fun i=>by simp [World.cell?,hob]
        obtain ⟨r,hr,hh⟩:=mI (P:=P) (w:=w) (k:=b) (base:=o+i*sh.length) hu (eo (h0.get i)) (fun j u hu=>by rw [hcell];exact hR.get hp hu)
        refine fin (sm:=Instr.loadAt t (a.eval x)) (r:=r) (by rw [execOp,ho]) ?_ (.v hh)
        rw [hq];simp only [Instr.loadAt,Instr.sureAddr,Sem.run_bind,Sem.run_pure,Result.andThen_ok];exact hr
      ·simp at hp
  ·cases h
 ·rename_i t x f ho;obtain ⟨x',hx,h⟩:=Option.bind_eq_some_iff.1 h;split at h
  ·rename_i sh v xs i off;obtain ⟨fd,hfd,h⟩:=Option.bind_eq_some_iff.1 h;obtain ⟨fs,hu,hfs⟩:=c8 hfd;split at h
   ·rename_i n hn;cases h;have hxv:=hE.ev _ _ hx;generalize hq:a.eval x=q at hxv;cases hxv with
    |v hxv=>cases hxv with
     |one hxv=>cases hxv with
      |imp him hv=>
       rename_i b o m c;refine fin (sm:=Instr.fieldAt t (a.eval x) f) (r:= .pointer (some ⟨b,o+i*sh.length+(off+fd.offset),none⟩)) (by rw [execOp,ho]) ?_ (.v (.one (.imp him hv)))
       simp [hq,Instr.fieldAt,run_underlying hu,hfs,Instr.sureAddr,fieldPlace,ao hn,aO,Nat.add_assoc]
   ·cases h
  ·cases h
 ·rename_i x ho;obtain ⟨x',hx,h⟩:=Option.bind_eq_some_iff.1 h;have hxv:=hE.ev _ _ hx;split at h
  ·cases h;refine ⟨a.eval x,hxv,?_⟩;cases hxv with
   |v hxv=>cases hxv with
    |one hxv=>rw [execOp,ho];simp only;generalize a.eval x=q at hxv ⊢;cases hxv;rfl
  ·split at h
   ·rename_i f hf;cases h;refine ⟨a.eval x,hxv,?_⟩;rw [execOp,ho];simp only;generalize a.eval x=q at hxv ⊢;cases hxv;simp only [List.getElem?_toArray,List.getElem?_cons_zero];have e1: ∃k,P.types.size+Made.depth=k+1:=⟨P.types.size+Made.depth-1,by simp [Made.depth]⟩
    obtain ⟨k,hk⟩:=e1;simp [hk,uE hf]
   ·cases h
  ·cases h
 ·rename_i t x ho;obtain ⟨x',hx,h⟩:=Option.bind_eq_some_iff.1 h;obtain ⟨s',hs,h⟩:=Option.bind_eq_some_iff.1 h;cases h;have hxv:=hE.ev _ _ hx;unfold ifQ at hs;split at hs
  ·split at hs
   ·cases hs
   ·rename_i u hu hni;cases hs;generalize hq:a.eval x=q at hxv;cases hxv with
    |v hxv=>cases hxv with
     |one hxv=>cases hxv with
      |ptr hb=>
       refine fin (sm:=Instr.makeInterface t (a.eval x)) (by rw [execOp,ho]) ?_ (.v (.one (.xW hb)))
       rw [hq];simp only [Instr.makeInterface,Sem.run_bind,run_underlying hni,Result.andThen_ok];cases u<;>first|rfl|(exact absurd rfl (hu _))
   ·cases hs
  ·cases hs
 ·rename_i fn first captured ho;split at h
  ·rename_i n r hf hcap;obtain ⟨x',hx,h⟩:=Option.bind_eq_some_iff.1 h;split at h
   ·rename_i t y off;cases h;have hxv:=hE.ev _ _ hx;generalize hq:a.eval r=q at hxv;have hf':first= #[r]:=by cases first;simp_all
    have hc':captured= #[]:=by cases captured;simp_all
    subst hf';subst hc';cases hxv with
    |v hxv=>cases hxv with
     |one hxv=>cases hxv with
      |xW hb=>
       refine fin (sm:=Instr.makeFunc (.method n) (#[r].map a.eval) (#[].map a.eval)) (by rw [execOp,ho]) ?_ (.xX hb)
       simp [Instr.makeFunc,hq]
   ·cases h
  ·cases h
 ·rename_i c ho;split at h
  ·rename_i hcl;split at h
   ·rename_i t x ht hargs;obtain ⟨x',hx,h⟩:=Option.bind_eq_some_iff.1 h;have hxv:=hE.ev _ _ hx;have ha':c.args= #[x]:=by cases hq:c.args;simp_all
    have run: ∀ {r:Value},(Builtin.len_ c.argTypes o.type #[a.eval x]).run P w= .ok r w→(execOp a.eval o).run P w= .ok (.value r) w:=by
     intro r hr;rw [execOp,ho];simp only [resolve,hcl,ha',Sem.run_bind,Sem.run_pure,Result.andThen_ok,invoke,builtin];simp [hr]
    split at h
    ·rename_i hu;split at h
     ·rename_i l hl;cases h;refine ⟨_,.v (.one .int),run ?_⟩;rw [dq hl hxv];simp [Builtin.len_,ht,run_underlying hu,dc];rfl
     ·cases h
    ·rename_i e hu;split at h
     ·rename_i sh v xs;cases h;refine ⟨_,.v (.one .int),run ?_⟩;generalize a.eval x=q at hxv;cases hxv with
      |v hxv=>cases hxv with
       |one hxv=>cases hxv with
        |gv him hone=>
         have e1: ∃q c,v= .slice q xs.length c:=by
          rcases him with him|⟨rfl,rfl⟩
          ·obtain ⟨m,_,c,hc,h1⟩:=hE.im _ _ _ him;rcases h1 with ⟨rfl,q,rfl⟩|⟨b,base,vs,t',fz,rfl,_⟩
           ·exact ⟨q,c,rfl⟩
           ·exact ⟨_,c,rfl⟩
          ·exact ⟨none,0,rfl⟩
         obtain ⟨q,c,rfl⟩:=e1;simp [Builtin.len_,ht,run_underlying hu]
         try rfl
     ·cases h
    ·cases h
   ·cases h
  ·cases h
 ·cases h
theorem qN {M:Md} {Γ:List (FuncId×FX)} {nm:Nat} {bl:Option bG}(hΓ: ∀f c,(f,c)∈Γ→sO P f c)(h:Mg M P Γ E nm o.op=some (p,s,bl))(hp:ob p)(hE:P8 β E a w)(hnm:β nm=none):
  tI P o a w fun r w'=>Left β w nm s r w' bl:=by
 unfold Mg at h;split at h
 ·rename_i r hq;cases h;exact LH hΓ hq hp hE hnm
 ·obtain ⟨p',s',h',e⟩:=dX h;cases e;obtain ⟨r,h1,h2⟩:=SN h' hp hE;exact eU h2 ⟨h1,Ext.refl w⟩
end
end Go.Proofs.YtfdmjoddhjmokaaGreatDoor.Rex
namespace Go.Proofs.YtfdmjoddhjmokaaGreatDoor.Rex
open Go.RowKit
set_option linter.unusedVariables false
set_option linter.unusedSimpArgs false
structure St where
 tm:List SV
 m:Mem
inductive XE where
 |normal
 |exit (id:Nat)
 |ret
def bP(m:Mem)(x:Nat):Option bG:=match m[x]? with
 |some (some b)=>some b
 |_=>none
def St.env(σ:St):Env:=⟨ev σ.tm,bP σ.m⟩
def oL(tm:List SV)(dst:Option Tmp)(s:SV):List SV:=match dst with
 |some d=>tm.set d s
 |none=>tm
abbrev MC:=List SV→Mem→(SV→Mem→Prop)→Prop
def ab(P:Program)(f:FuncId)(c:MC):Prop:=gb P f∧ ∀β args vals m w (K:SV→Mem→Prop),c args m K→ae (Has β) args vals→Sat β m w→
 Calls P f ⟨vals⟩ w fun e w'=> ∃β' v m' r,Sat β' m' w'∧ai m β w m' β' w'∧e= .returned r∧Has β' v r∧K v m'
def stQ(P:Program)(m:Mem)(t:TypeId)(addr val:SV):Option Mem:=match addr,val with
 | .v (.one (.ptr x off)),.v u=>match bP m x with
  |some (.cells l e)=>match bI P t with
   |some n=>match (decide (u.cells.length=n)&&decide (off+n≤l.length)) with
    |true=>some (m.set x (some (.cells (gm l off u.cells) e)))
    |false=>none
   |none=>none
  |_=>none
 |_,_=>none
abbrev BC:=List SV→List Lf→TypeId→Option (Option Prop×SV×List Lf)
structure Ctx where
 M:Md
 P:Program
 Γ:List (FuncId×FX)
 Δ:List (FuncId×MC)
 B:List (FuncId×BC)
 Y:Option (Value→List SV→Mem→(SV→Mem→Prop)→Prop):=none
 rd:Bool:=false
 N:List FuncId:= []
 I:Option (FuncId→List SV→Mem→(SV→Mem→Prop)→Prop):=none
def IQ(p:Option Prop)(q:Prop):Prop:=match p with
 |none=>q
 |some p=>p∧q
def stR(P:Program)(m:Mem)(t:TypeId)(addr val:SV):Option (Prop×Mem):=match addr,val with
 | .v (.one (.rp x base sz i f)),.v u=>match bP m x with
  |some (.rows ro z sh xs base' tot e)=>match ro with
   |true=>none
   |false=>match Nat.beq base base'&&Nat.beq sz sh.length with
    |true=>match bI P t with
     |some n=>match (decide (u.cells.length=n)&&decide (f+n≤sh.length)) with
      |true=>match rowOf sh (gm (KP sh (al xs i)) f u.cells) with
       |some r=>some (i<xs.length,m.set x (some (.rows false z sh (xs.set i r) base' tot e)))
       |none=>none
      |false=>none
     |none=>none
    |false=>none
  |_=>none
 |_,_=>none
def UI(b:UInt8):Row [.int .u8]:=((b.toNat:Int),())
def a7m:(sh:List Kd)→SV→Option (List (Row sh)×Nat)
 | [.int .u8],s=>match strOf s with
  |some l=>some (l.map UI,l.length)
  |none=>none
 |_,_=>none
def Ze(m:Mem)(sh:List Kd)(s:SV):Option (Option Prop×List (Row sh)×Nat):=match Xt (bP m) sh s with
 |some r=>some r
 |none=>match a7m sh s with
  |some (ys,k)=>some (none,ys,k)
  |none=>none
def Sz(m:Mem)(sh:List Kd)(size by_:Nat)(e:TypeId)(ys:List (Row sh))(k:Nat)(K:SV→Mem→Prop):Prop:=
 (k*by_≤140737488355328)∧ ∀c':Nat,k≤c'∧(k=0→c'=0)→K (.v (.one (.rs (decide (k=0)) 0 m.length 0 size 0 k c'))) (m++ [some (.rows false (decide (k=0)) sh ys 0 c' e)])
def a0j(m:Mem)(sh:List Kd)(size by_:Nat)(e:TypeId)(xs ys:List (Row sh))(n k:Nat)(K:SV→Mem→Prop):Prop:=
 (0<k∧(n+k)*by_≤140737488355328)∧ ∀c':Nat,n+k≤c'→K (.v (.one (.rs false 0 m.length 0 size 0 (n+k) c'))) (m++ [some (.rows false false sh (xs++ys) 0 c' e)])
def a6P(m:Mem)(sh:List Kd)(size by_:Nat)(e:TypeId)(ys:List (Row sh))(k:Nat)(d:SV)(K:SV→Mem→Prop):Prop:=match d with
 | .v (.one .aj)=>Sz m sh size by_ e ys k K
 | .v (.one (.sl y off kn len cap))=>match Nat.beq len 0&&Nat.beq cap 0 with
  |true=>Sz m sh size by_ e ys k K
  |false=>match Nat.beq len cap with
   |true=>match Ze m sh (.v (.one (.sl y off kn len cap))) with
    |some (q,xs,n)=>IQ q ((n=len)∧a0j m sh size by_ e xs ys len k K)
    |none=>False
   |false=>False
 | .v (.one (.rs z tg x base sz o n c))=>match tg with
  |2=>(n=0∧c=0)∧Sz m sh size by_ e ys k K
  |tg=>match bP m x with
   |some (.rows ro z' sh' xs base' tot e')=>match ro with
    |true=>False
    |false=>match iM sh' sh,Nat.beq base 0&&(Nat.beq base' 0&&(Nat.beq sz size&&Nat.beq e' e)) with
     |some ⟨h⟩,true=>match tg with
      |0=>(n=xs.length∧c=tot∧z=z'∧(z=true→c=0)∧(n+k)*by_≤140737488355328)∧
       ∀c':Nat,n+k≤c'→(k=0→c'=c)→K (.v (.one (.rs (decide (k=0)&&z) 0 m.length 0 size 0 (n+k) c'))) (m.set x none++ [some (.rows false (decide (k=0)&&z) sh (eA h xs++ys) 0 c' e)])
      |_=>(z=false∧z'=false∧o+n≤xs.length∧n+k≤c∧o+c≤tot)∧
       K (.v (.one (.rs z 1 x 0 size o (n+k) c))) (m.set x (some (.rows false z' sh ((eA h xs).take (o+n)++(ys++(eA h xs).drop (o+n+k))) 0 tot e)))
     |_,_=>False
   |_=>False
 |_=>False
def Vo(P:Program)(m:Mem)(ts:Array TypeId)(us:List SV)(K:SV→Mem→Prop):Prop:=match us with
 | [d,s]=>match ts[0]?,ts[1]?,ts[2]? with
  |some t,some t2,none=>match P.underlying t,P.underlying t2 with
   |some (.slice e),some u2=>match IZ P e,bI P e,zK P e with
    |some sh,some size,some by_=>match Nat.beq size sh.length&&(Nat.blt 0 by_&&LW u2) with
     |true=>match Ze m sh s with
      |some (q,ys,k)=>IQ q (a6P m sh size by_ e ys k d K)
      |none=>False
     |false=>False
    |_,_,_=>False
   |_,_=>False
  |_,_,_=>False
 |_=>False
def a4s(P:Program)(m:Mem)(ts:Array TypeId)(us:List SV)(K:SV→Mem→Prop):Prop:=match us with
 | [.v (.one .aj),.v (.one .aj)]=>match ts[0]?,ts[1]?,ts[2]? with
  |some t,some t2,none=>match P.underlying t,P.underlying t2 with
   |some (.slice e),some (.slice _)=>match IZ P e with
    |some _=>K (.v (.one .aj)) m
    |none=>False
   |_,_=>False
  |_,_,_=>False
 |us=>Vo P m ts us K
def a40(P:Program)(m:Mem)(ts:Array TypeId)(us:List SV)(K:SV→Mem→Prop):Prop:=match us with
 | [.v (.one (.rs z tg x base sz o n c))]=>match ts[0]? with
  |some t=>match P.underlying t with
   |some (.slice e)=>match IZ P e,bP m x with
    |some sh,some (.rows ro z' sh' xs base' tot e')=>match ro with
     |true=>False
     |false=>match iM sh' sh,Nat.beq base base'&&Nat.beq sz sh.length with
      |some ⟨h⟩,true=>(o+n≤xs.length)∧K (.cz []) (m.set x (some (.rows false z' sh ((eA h xs).take o++(List.replicate n (kj sh)++(eA h xs).drop (o+n))) base' tot e')))
      |_,_=>False
    |_,_=>False
   |_=>False
  |none=>False
 |_=>False
def bcQ(bc:BC)(us:List SV)(m:Mem)(K:SV→Mem→Prop):Prop:=match us with
 | .v (.one (.ptr y 0))::rest=>match bP m y with
  |some (.cells l t)=>match bc rest l t with
   |some (p,s,new)=>match Nat.beq new.length l.length with
    |true=>IQ p (K s (m.set y (some (.cells new t))))
    |false=>False
   |none=>False
  |_=>False
 |_=>False
def nlQ(P:Program)(op:BinOp)(t:TypeId)(x y:Option SV)(m:Mem)(K:SV→Mem→Prop):Prop:=match x,y with
 |some (.v (.one (.rs z _ _ _ _ _ _ _))),some (.v (.one .aj))=>match P.underlying t with
  |some (.slice _)=>match pN op true,pN op false with
   |some p,some q=>(z=true→K (lb true p) m)∧K (lb true q) m
   |_,_=>False
  |_=>False
 |_,_=>False
def LG {A:Type}(p:A→Bool):List A→Nat→Option (Nat×A)
 | [],_=>none
 |a::l,i=>match p a with
  |true=>some (i,a)
  |false=>LG p l (i+1)
def Vi:(ks:List Kd)→Int→Row ks→Bool
 | [.int _],k,r=>decide (k=r.1)
 |_,_,_=>false
def kOk(kk:IntKind):List Kd→Bool
 | [.int k]=>decide (k=kk)
 |_=>false
def a2C:(ks:List Kd)→Int→Row ks
 | [.int _],k=>(k,())
 |ks,_=>kj ks
abbrev ca(ks vs:List Kd):=List (Row ks×Row vs×Nat)
def p9 {ks vs:List Kd}(es:ca ks vs)(k:Int):Option (Row vs):=(LG (fun e=>Vi ks k e.1) es 0).map fun e=>e.2.2.1
def kC {ks vs:List Kd}(es:ca ks vs)(k:Int)(v:Row vs)(clk:Nat):ca ks vs×Nat:=match LG (fun e=>Vi ks k e.1) es 0 with
 |some (i,_)=>(es.modify i fun e=>(e.1,v,e.2.2),clk)
 |none=>(es++ [(a2C ks k,v,clk)],clk+1)
def nW {ks vs:List Kd}(es:ca ks vs)(k:Int):ca ks vs:=match LG (fun e=>Vi ks k e.1) es 0 with
 |some (i,_)=>es.eraseIdx i
 |none=>es
def Ii(a:Bool)(sh:List Kd)(r:Row sh):Option Vv:=match a with
 |true=>some (.agg (KP sh r))
 |false=>match KP sh r with
  | [l]=>some (.one l)
  |_=>none
def a2P(a:Bool)(sh:List Kd):SV→Option (Row sh)
 | .v (.agg l)=>match a with
  |true=>rowOf sh l
  |false=>none
 | .v (.one l)=>match a with
  |true=>none
  |false=>match sh with
   | [k]=>rowOf [k] [l]
   |_=>none
 |_=>none
def Vd(P:Program)(m:Mem)(t:TypeId):SV→Option (Nat×IntKind×TypeId)
 | .v (.one (.mp y))=>match P.underlying t with
  |some (.map kt et)=>match P.underlying kt with
   |some (.int kk)=>some (y,kk,et)
   |_=>none
  |_=>none
 |_=>none
def lkK(ok:Bool)(m:Mem)(K:SV→Mem→Prop)(v:Vv)(b:Bool):Prop:=match ok with
 |true=>K (.cz [v,.one (.bool true b)]) m
 |false=>K (.v v) m
def Ls(P:Program)(t:TypeId):Option Vv:=match P.info? t with
 |some i=>match i.zero with
  |some z=>match ofValue z with
   |some (.v x)=>some x
   |_=>none
  |none=>none
 |none=>none
def qb(v:Value)(size l h:Nat):Value:=match v with
 | .slice a n c=> .slice (if c=l then a else a.map (·.add (l*size))) (h-l) (c-l)
 |v=>v
def lX(C:Ctx)(σ:St)(o:Oper):Option ((SV→Mem→Prop)→Prop):=match o.op with
 | .makeMap t none=>match C.P.underlying t with
  |some (.map kt et)=>match IZ C.P kt,IZ C.P et,RY C.P kt,RY C.P et with
   |some ks,some vs,some ka,some va=>some fun K=>K (.v (.one (.mp σ.m.length))) (σ.m++ [some (.map ks ka vs va [] 0)])
   |_,_,_,_=>none
  |_=>none
 | .lookup t x i ok=>match ev σ.tm x,ev σ.tm i with
  |some a,some (.v (.one (.int kk _ k)))=>match Vd C.P σ.m t a with
   |some (y,kk',et)=>match bP σ.m y with
    |some (.map ks ka vs va es clk)=>match !ka&&(kOk kk ks&&decide (kk=kk')),Ls C.P et with
     |true,some z=>some fun K=>(∀r,p9 es k=some r→match Ii va vs r with
       |some v=>lkK ok σ.m K v true
       |none=>False)∧(p9 es k=none→lkK ok σ.m K z false)
     |_,_=>none
    |_=>none
   |none=>none
  |_,_=>none
 | .mapUpdate t x i v=>match ev σ.tm x,ev σ.tm i,ev σ.tm v with
  |some a,some (.v (.one (.int kk _ k))),some v=>match Vd C.P σ.m t a with
   |some (y,kk',et)=>match bP σ.m y with
    |some (.map ks ka vs va es clk)=>match !ka&&(kOk kk ks&&decide (kk=kk')),a2P va vs v with
     |true,some r=>some fun K=>K (.cz []) (σ.m.set y (some (.map ks ka vs va (kC es k r clk).1 (kC es k r clk).2)))
     |_,_=>none
    |_=>none
   |none=>none
  |_,_,_=>none
 | .slice t x lo hi none=>match C.P.underlying t with
  |some (.slice e)=>match ev σ.tm x,Gh σ.env lo,Gh σ.env hi,bI C.P e with
   |some (.v (.one (.gv sh v xs))),some l,some h,some n=>match Nat.beq n sh.length with
    |true=>match l,h with
     |some (_,a),none=>some fun K=>(0≤a∧a≤(xs.length:Int))∧K (.v (.one (.gv sh (qb v sh.length a.toNat xs.length) (xs.drop a.toNat)))) σ.m
     |none,some (_,b)=>some fun K=>(0≤b∧b≤(xs.length:Int))∧K (.v (.one (.gv sh (qb v sh.length 0 b.toNat) (xs.take b.toNat)))) σ.m
     |_,_=>none
    |false=>none
   |_,_,_,_=>none
  |_=>none
 | .convert s d x=>match C.P.underlying s,C.P.underlying d with
  |some .string,some (.slice e)=>match C.P.underlying e with
   |some (.int .u8)=>match (ev σ.tm x).bind strOf with
    |some l=>some fun K=> ∀c':Nat,l.length≤c'→K (.v (.one (.rs false 0 σ.m.length 0 1 0 l.length c'))) (σ.m++ [some (.rows true false [.int .u8] (l.map UI) 0 l.length e)])
    |none=>none
   |_=>none
  |_,_=>none
 | .range t x=>match ev σ.tm x with
  |some (.v (.one (.mp y)))=>match C.P.underlying t,bP σ.m y with
   |some (.map _ _),some (.map _ _ _ _ _ clk)=>some fun K=>K (.v (.one (.ptr σ.m.length 0))) (σ.m++ [some (.it y clk [] clk)])
   |_,_=>none
  |_=>none
 | .next i false=>match ev σ.tm i with
  |some (.v (.one (.ptr z 0)))=>match bP σ.m z with
   |some (.it y since seen last)=>match bP σ.m y with
    |some (.map ks ka vs va es clk)=>match A8 ks with
     |false=>none
     |true=>some fun K=>
     (es.all (fun e=>decide (e.2.2<since))=true∧since≤last)∧
     ((es.filter fun e=> !seen.contains e.2.2)= []→K (.cz [.one (.bool true false)]) σ.m)∧
     ∀e,e∈es.filter (fun e=> !seen.contains e.2.2)→match Ii ka ks e.1,Ii va vs e.2.1 with
      |some k,some v=>K (.cz [.one (.bool true true),k,v]) (σ.m.set z (some (.it y since (seen++ [e.2.2]) clk)))
      |_,_=>False
    |_=>none
   |_=>none
  |_=>none
 | .call c=>match c.callee with
  | .invoke r n=>match ev σ.tm r,omap (ev σ.tm) c.args.toList with
   |some (.v (.one (.xW t x off))),some us=>match Ps C.P t n with
    |some f=>match find C.Δ f with
     |some mc=>some fun K=>mc (.v (.one (.ptr x off))::us) σ.m K
     |none=>match C.I with
      |some h=>some fun K=>h f (.v (.one (.ptr x off))::us) σ.m K
      |none=>none
    |none=>none
   |_,_=>none
  | .builtin b=>match omap (ev σ.tm) c.args.toList,c.argTypes[0]? with
   |some us,some t=>match b,us with
    | .len,[.v (.one (.mp y))]=>match C.P.underlying t,bP σ.m y with
     |some (.map _ _),some (.map _ _ _ _ es _)=>some fun K=>K (ln .i64 false (es.length:Int)) σ.m
     |_,_=>none
    | .clear,[.v (.one (.mp y))]=>match C.P.underlying t,bP σ.m y with
     |some (.map _ _),some (.map ks ka vs va es clk)=>some fun K=>K (.cz []) (σ.m.set y (some (.map ks ka vs va [] clk)))
     |_,_=>none
    | .delete,[a,.v (.one (.int kk _ k))]=>match Vd C.P σ.m t a with
     |some (y,kk',et)=>match bP σ.m y with
      |some (.map ks ka vs va es clk)=>match !ka&&(kOk kk ks&&decide (kk=kk')) with
       |true=>some fun K=>K (.cz []) (σ.m.set y (some (.map ks ka vs va (nW es k) clk)))
       |false=>none
      |_=>none
     |none=>none
    |_,_=>none
   |_,_=>none
  |_=>none
 |_=>none
def a2n(C:Ctx)(σ:St)(o:Oper)(K:SV→Mem→Prop):Prop:=match o.op with
 | .store t a x=>match ev σ.tm a,ev σ.tm x with
  |some a,some x=>match stQ C.P σ.m t a x with
   |some m'=>K (.cz []) m'
   |none=>match stR C.P σ.m t a x with
    |some (q,m')=>q∧K (.cz []) m'
    |none=>False
  |_,_=>False
 | .call c=>match c.callee with
  | .value f=>match ev σ.tm f with
   |some (.lO id caps)=>match omap (ev σ.tm) c.args.toList with
    |some us=>match find C.Δ id with
     |some mc=>mc (us++caps.map fun l=> .v (.one l)) σ.m K
     |none=>match find C.B id with
      |some bc=>bcQ bc (us++caps.map fun l=> .v (.one l)) σ.m K
      |none=>match C.I with
       |some h=>h id (us++caps.map fun l=> .v (.one l)) σ.m K
       |none=>False
    |none=>False
   |some (.v (.one (.op v)))=>match C.Y with
    |some y=>match omap (ev σ.tm) c.args.toList with
     |some us=>y v us σ.m K
     |none=>False
    |none=>False
   |_=>False
  | .builtin b=>match omap (ev σ.tm) c.args.toList with
   |some us=>match b with
    | .append=>a4s C.P σ.m c.argTypes us K
    | .clear=>a40 C.P σ.m c.argTypes us K
    |_=>False
   |none=>False
  |_=>False
 | .binOp op t x y _=>nlQ C.P op t (ev σ.tm x) (ev σ.tm y) σ.m K
 |_=>False
def lOp(C:Ctx)(σ:St)(o:Oper)(K:SV→Mem→Prop):Prop:=match lX C σ o with
 |some F=>F K
 |none=>a2n C σ o K
def L0(P:Program)(σ:St)(o:Op):Option (Nat×(Nat→SV)×Int):=match o with
 | .indexAddr t x i=>match ev σ.tm i with
  |some (.v (.one (.int _ false i)))=>match ev σ.tm x with
   |some (.v (.one (.ptr b off)))=>match P.underlying t with
    |some (.array len e)=>match bI P e with
     |some n=>match Nat.ble len 16 with
      |true=>some (len,fun j=> .v (.one (.ptr b (off+j*n))),i)
      |false=>none
     |none=>none
    |_=>none
   |some (.v (.one (.op (.pointer (some ⟨g,off,none⟩)))))=>match P.underlying t with
    |some (.array len e)=>match bI P e with
     |some n=>match Nat.ble len 16 with
      |true=>some (len,fun j=> .v (.one (.op (.pointer (some ⟨g,off+j*n,none⟩)))),i)
      |false=>none
     |none=>none
    |_=>none
   |some (.v (.one (.sl b off _ len _)))=>match P.underlying t with
    |some (.slice e)=>match bI P e with
     |some n=>match Nat.ble len 16 with
      |true=>some (len,fun j=> .v (.one (.ptr b (off+j*n))),i)
      |false=>none
     |none=>none
    |_=>none
   |_=>none
  |_=>none
 |_=>none
theorem Hw {M:Md} {P:Program} {Γ:List (FuncId×FX)} {nm:Nat} {σ:St} {o:Op} {len:Nat} {p:Nat→SV} {i:Int}(h:L0 P σ o=some (len,p,i)):Mg M P Γ σ.env nm o=some (some (0≤i∧i<(len:Int)),p i.toNat,none):=by
 unfold L0 at h;split at h
 ·split at h
  ·rename_i hi;split at h
   ·rename_i hx;split at h
    ·rename_i hu;split at h
     ·rename_i hn;split at h
      ·cases h;simp only [Mg,nh,St.env,hx,hi,Option.bind_some,OZ,hu,hn,r1]
      ·cases h
     ·cases h
    ·cases h
   ·rename_i hx;split at h
    ·rename_i hu;split at h
     ·rename_i hn;split at h
      ·cases h;simp only [Mg,nh,St.env,hx,hi,Option.bind_some,OZ,hu,hn,r1]
      ·cases h
     ·cases h
    ·cases h
   ·rename_i hx;split at h
    ·rename_i hu;split at h
     ·rename_i hn;split at h
      ·cases h;simp only [Mg,nh,St.env,hx,hi,Option.bind_some,OZ,hu,hn,r1,Bool.false_and]
      ·cases h
     ·cases h
    ·cases h
   ·cases h
  ·cases h
 ·cases h
def Y4(p:Nat→Prop):Nat→Prop
 |0=>True
 |1=>p 0
 |n+2=>Y4 p (n+1)∧p (n+1)
theorem vO {p:Nat→Prop}: ∀ {n j:Nat},Y4 p n→j<n→p j
 |0,j,_,h=>by omega
 |1,j,k,h=>by
  obtain rfl:j=0:=by omega
  exact k
 |n+2,j,k,h=>by
  by_cases e:j=n+1
  ·subst e;exact k.2
  ·exact vO k.1 (by omega)
def xOp(C:Ctx)(σ:St)(o:Oper)(K:SV→Mem→Prop):Prop:=match L0 C.P σ o.op with
 |some (len,p,i)=>(0≤i∧i<(len:Int))∧Y4 (fun j=>i=(j:Int)→K (p j) σ.m) len
 |none=>match Mg C.M C.P C.Γ σ.env σ.m.length o.op with
 |some (p,s,none)=>IQ p (K s σ.m)
 |some (p,s,some b)=>IQ p (K s (σ.m++ [some b]))
 |none=>lOp C σ o K
def Am(ops:List Oper)(tm:List SV)(j:Nat):Option (Tmp×SV):=match ops[j]? with
 |some o=>match o.dst with
  |some t=>match tm[t]? with
   |some s=>some (t,s)
   |none=>none
  |none=>none
 |none=>none
def oV(C:Ctx)(all:List Oper):List Oper→St→(St→Prop)→Prop
 | [],σ,K=>K σ
 |o::rest,σ,K=>match o.guard with
  |none=>xOp C σ o fun s m=>oV C all rest ⟨oL σ.tm o.dst s,m⟩ K
  |some (j,want)=>match Am all σ.tm j with
   |some (d,.v (.one (.bool kn t)))=>match kn with
    |true=>match decide (t=want) with
     |true=>xOp C σ o fun s m=>oV C all rest ⟨oL σ.tm o.dst s,m⟩ K
     |false=>oV C all rest ⟨oL σ.tm o.dst (.cz []),σ.m⟩ K
    |false=>(t=want→xOp C ⟨σ.tm.set d (lb true want),σ.m⟩ o fun s m=>oV C all rest ⟨oL (σ.tm.set d (lb true want)) o.dst s,m⟩ K)
     ∧(t= !want→oV C all rest ⟨oL (σ.tm.set d (lb true (!want))) o.dst (.cz []),σ.m⟩ K)
   |some (_,.cz [])=>oV C all rest ⟨oL σ.tm o.dst (.cz []),σ.m⟩ K
   |_=>False
def Marks(bs:Nat)(w:World):List Deferred→Prop
 | []=>True
 |d::ds=>(∃D,d= {target:= .collected D,args:= #[]}∧bs≤D∧w.heap[D]? =some (Obj.deferred (some []))∧ ∀d'∈ds,d'≠d)∧Marks bs w ds
theorem Marks.mono {bs:Nat} {w w':World}(h: ∀D:Nat,w.heap[D]? =some (Obj.deferred (some []))→w'.heap[D]? =some (Obj.deferred (some []))): ∀ {ds:List Deferred},Marks bs w ds→Marks bs w' ds
 | [],_=>trivial
 |d::ds,⟨⟨D,h1,h2,h3,h4⟩,k⟩=>⟨⟨D,h1,h2,h D h3,h4⟩,Marks.mono h k⟩
structure Fit (bs:Nat) (σ:St) (β:Nm) (a:Act) (w:World):Prop where
 tm:ae (Has β) σ.tm a.tmps.toList
 sat:Sat β σ.m w
 df:Marks bs w a.defers
theorem bh {β:Nm} {tm:List SV} {a:Act}(h:ae (Has β) tm a.tmps.toList) {x:Operand} {s:SV}(e:ev tm x=some s):Has β s (a.eval x):=by
 unfold ev at e;split at e
 ·rename_i t;split at e
  ·cases e
  ·rename_i r hr;obtain ⟨v,hv,hs⟩:=h.get e;have:a.eval (.tmp t)=v:=by
    have hv':a.tmps[t]? =some v:=by simpa using hv
    simp [Act.eval,hv']
   rw [this];exact hs
 ·exact pZ e
 ·cases e;exact .v (.one (.op rfl))
 ·cases e;exact .lO .nil
theorem gX {m:Mem} {x:Nat} {b:bG}(h:bP m x=some b):m[x]? =some (some b):=by
 unfold bP at h;split at h
 ·rename_i b' hb;cases h;exact hb
 ·cases h
theorem Fit.env {bs:Nat} {σ:St} {β:Nm} {a:Act} {w:World}(h:Fit bs σ β a w):P8 β σ.env a w:=by
 refine ⟨fun x s e=>bh h.tm e,fun x b e=>?_,h.sat.gl,fun x l t k e hk=>h.sat.ng x k ⟨_,gX e,trivial⟩ hk,fun sh v xs e=>⟨_,h.sat.im sh v xs e⟩,σ.m,h.sat,fun x b e=>gX e⟩;show b.dead∨ ∃k,β x=some k∧_;have e':bP σ.m x=some b:=e;unfold bP at e';split at e'
 ·rename_i b' hb;cases e';exact h.sat.dz x b hb
 ·cases e'
theorem p7 {β:Nm} {tm:List SV} {a:Act}(h:ae (Has β) tm a.tmps.toList) {s:SV} {v:Value}(k:Has β s v)(dst:Option Tmp):ae (Has β) (oL tm dst s) (a.put dst v).tmps.toList:=by
 cases dst with
 |none=>exact h
 |some d=>
  show ae (Has β) (tm.set d s) (a.tmps.setIfInBounds d v).toList;rw [Array.toList_setIfInBounds];exact h.set k d
theorem Has.tt {β γ:Nm}(h:β.le γ) {tm:List SV} {l:List Value}(k:ae (Has β) tm l):ae (Has γ) tm l:=k.mono fun _ _=>Has.mono h
theorem Bz {A:Type}(l:List A)(x y:A):(l++ [x]).set l.length y=l++ [y]:=by
 rw [List.set_append_right _ _ (Nat.le_refl _)];simp
theorem Sat.fresh {β:Nm} {m:Mem} {w:World}(h:Sat β m w):β m.length=none:=by
 cases e:β m.length with
 |none=>rfl
 |some a=>have:=h.CC _ _ e;omega
theorem hJ {m:Mem} {x:Nat} {b:bG}(hb:(m++ [none])[x]? =some (some b)):m[x]? =some (some b):=by
 rcases Nat.lt_or_ge x m.length with hl|hl
 ·rwa [List.getElem?_append_left hl] at hb
 ·rw [List.getElem?_append_right hl] at hb;cases hx:x-m.length with
  |zero=>rw [hx] at hb;simp at hb
  |succ n=>rw [hx] at hb;simp at hb
theorem Sat.grow {β:Nm} {m:Mem} {w:World}(h:Sat β m w):Sat β (m++ [none]) w:=by
 refine ⟨fun x b hb=>h.dz x b (hJ hb),?_,fun x a hx=>?_,h.gl,fun x a ⟨b,hb,hr⟩ hx=>h.ng x a ⟨b,hJ hb,hr⟩ hx,h.ij (Nm.le_refl β) rfl (fun _ _ _=>rfl) fun y b _ ⟨c,hc,hr⟩ e=>⟨y,⟨c,hJ hc,hr⟩,e⟩⟩
 ·rintro x y a ⟨b,hb,hd⟩ ⟨c,hc,he⟩ hx hy;exact h.inj x y a ⟨b,hJ hb,hd⟩ ⟨c,hJ hc,he⟩ hx hy
 ·have:=h.CC x a hx;simp;omega
theorem er {β:Nm} {m:Mem} {w:World}(h:Sat β m w)(b:bG)(obj:Obj):ai m β w (m++ [some b]) (β.set m.length w.heap.size) (w.alloc obj):=by
 have:=ai.alloc (m0:=m) (β0:=β) (w0:=w) (m:=m++ [none]) (w:=w) ⟨Nm.le_refl β,fun _ _=>rfl,by simp,?_,?_,rfl,rfl,rfl,Nat.le_refl _,fun _ _ _=>rfl,fun _ _ _ h=> .inl h⟩ (Nat.le_refl m.length) h.fresh b obj
 ·rwa [Bz] at this
 ·rintro q x hx ⟨c,hc,hd⟩;have:=(List.getElem?_eq_some_iff.1 (hJ hc)).1;omega
 ·rintro q x hx ⟨c,hc,hd⟩;exact ⟨c,hJ hc,hd⟩
theorem iu {β:Nm} {m:Mem} {w:World}(h:Sat β m w) {b:bG} {obj:Obj}(hB:cw (β.set m.length w.heap.size) b (some obj)):Sat (β.set m.length w.heap.size) (m++ [some b]) (w.alloc obj):=by
 have:=Sat.alloc h.grow (nm:=m.length) (by simp) h.fresh hB
 rwa [Bz] at this
theorem kw.kq {m:Mem} {x:Nat}(h:kw m x)(q:Bool):kq q m x:=by
 cases q with
 |true=>exact h
 |false=>exact h.kn
structure tS (w:World) (b:Nat) (w':World):Prop where
 iy: ∀k,k<w.heap.size→k≠b→w'.heap[k]? =w.heap[k]?
 size:w.heap.size≤w'.heap.size
 os:w'.os=w.os
 tape:w'.tape=w.tape
 output:w'.output=w.output
theorem qS {m:Mem} {x y:Nat} {b c:bG}(h:(m.set x (some b))[y]? =some (some c)):(y=x∧c=b)∨(y≠x∧m[y]? =some (some c)):=bu h
theorem Sat.jd {β:Nm} {m:Mem} {w w':World}(h:Sat β m w) {x b:Nat} {b0 b1:bG}(hx:m[x]? =some (some b0))(hrw:b0.rw)(hb:β x=some b)(hp:tS w b w')(hB:cw β b1 w'.heap[b]?):
  Sat β (m.set x (some b1)) w':=by
 have kx:kw m x:=⟨b0,hx,hrw⟩;refine ⟨fun y c hc=>?_,?_,fun y a hy=>by simpa using h.CC y a hy,h.gl.mU fun p hp' hl=>hp.iy p.1 hl fun e=>h.ng x b kx hb p hp' e,?_,h.ij (Nm.le_refl β) rfl (fun k hk hn=>hp.iy k hk fun e=>hn x kx (by rw [hb,e])) ?_⟩
 rotate_left 3
 ·rintro y a _ ⟨c,hc,hcr⟩ hy;rcases qS hc with ⟨rfl,rfl⟩|⟨hne,hy'⟩
  ·exact ⟨_,kx,hy⟩
  ·exact ⟨y,⟨c,hy',hcr⟩,hy⟩
 ·rcases qS hc with ⟨rfl,rfl⟩|⟨hne,hy⟩
  ·exact .inr ⟨b,hb,hB⟩
  ·refine h.lY (Nm.le_refl β) hy fun a hk ha=>hp.iy a (h.lt hk ha) fun e=>hne ?_;exact (h.inj x y a kx hk (by rw [e];exact hb) ha).symm
 ·rintro y z a ⟨c,hc,hcr⟩ ⟨d,hd,hdd⟩ hy hz;have k1:kw m y:=by
   rcases qS hc with ⟨rfl,rfl⟩|⟨hne,hy⟩
   ·exact kx
   ·exact ⟨c,hy,hcr⟩
  have k2:kn m z:=by
   rcases qS hd with ⟨rfl,rfl⟩|⟨hne,hz⟩
   ·exact kx.kn
   ·exact ⟨d,hz,hdd⟩
  exact h.inj y z a k1 k2 hy hz
 ·rintro y a ⟨c,hc,hcr⟩ hy;have k1:kw m y:=by
   rcases qS hc with ⟨rfl,rfl⟩|⟨hne,hy⟩
   ·exact kx
   ·exact ⟨c,hy,hcr⟩
  exact h.ng y a k1 hy
theorem cV {β:Nm} {m:Mem} {w w':World} {x b:Nat} {b0 b1:bG}(hx:m[x]? =some (some b0))(hrw:b0.rw)(hb:β x=some b)(hp:tS w b w'):ai m β w (m.set x (some b1)) β w':=by
 have kx:kw m x:=⟨b0,hx,hrw⟩;refine ⟨Nm.le_refl β,fun _ _=>rfl,by simp,?_,?_,hp.os,hp.tape,hp.output,hp.size,?_,fun _ _ _ h=> .inl h⟩
 ·intro q y hy hk;have:=Al hk;simp at this;omega
 ·rintro q y hy ⟨c,hc,hcr⟩;rcases qS hc with ⟨rfl,rfl⟩|⟨hne,hy⟩
  ·exact kx.kq q
  ·exact ⟨c,hy,hcr⟩
 ·intro k hk hf;exact hp.iy k hk fun e=>hf x kx (by rw [hb,e])
theorem Sat.move {β:Nm} {m:Mem} {w w':World}(h:Sat β m w) {x b:Nat} {b0 b1:bG}(hx:m[x]? =some (some b0))(hrw:b0.rw)(hb:β x=some b)(hp:tS w b w')(hB:cw β b1 w'.heap[b]?):
  Sat (β.set m.length b) (m.set x none++ [some b1]) w':=by
 have kx:kw m x:=⟨b0,hx,hrw⟩;have hle:=Nm.jf (a:=b) h.fresh;have cut: ∀ (y:Nat) (c:bG),(m.set x none++ [some b1])[y]? =some (some c)→(y=m.length∧c=b1)∨(y<m.length∧y≠x∧m[y]? =some (some c)):=by
  intro y c hc;rcases Nat.lt_or_ge y m.length with hl|hl
  ·right;rw [List.getElem?_append_left (by simpa using hl)] at hc
   by_cases e:x=y
   ·subst e;rw [List.getElem?_set] at hc;simp at hc
   ·rw [List.getElem?_set_ne e] at hc;exact ⟨hl,fun e'=>e e'.symm,hc⟩
  ·left;rw [List.getElem?_append_right (by simpa using hl)] at hc
   simp only [List.length_set] at hc;cases hy:y-m.length with
   |zero=>rw [hy] at hc;simp at hc;exact ⟨by omega,hc.symm⟩
   |succ n=>rw [hy] at hc;simp at hc
 have old: ∀y a,y<m.length→(β.set m.length b) y=some a→β y=some a:=by
  intro y a hl hy;rw [Nm.pW] at hy
  rwa [if_neg (by omega)] at hy
 refine ⟨fun y c hc=>?_,?_,fun y a hy=>?_,h.gl.mU fun p hp' hl=>hp.iy p.1 hl fun e=>h.ng x b kx hb p hp' e,?_,h.ij hle rfl (fun k hk hn=>hp.iy k hk fun e=>hn x kx (by rw [hb,e])) ?_⟩
 rotate_left 4
 ·rintro y a _ ⟨c,hc,hcr⟩ hy;rcases cut y c hc with ⟨rfl,rfl⟩|⟨hl,hne,hy'⟩
  ·simp [Nm.set] at hy;subst hy;exact ⟨x,kx,hb⟩
  ·exact ⟨y,⟨c,hy',hcr⟩,old y a hl hy⟩
 ·rcases cut y c hc with ⟨rfl,rfl⟩|⟨hl,hne,hy⟩
  ·exact .inr ⟨b,by simp [Nm.set],hB.mono hle⟩
  ·refine h.lY hle hy fun a hk ha=>hp.iy a (h.lt hk ha) fun e=>hne ?_;exact (h.inj x y a kx hk (by rw [e];exact hb) ha).symm
 ·rintro y z a ⟨c,hc,hcr⟩ ⟨d,hd,hdd⟩ hy hz;rcases cut y c hc with ⟨rfl,rfl⟩|⟨hl,hne,hy'⟩<;>rcases cut z d hd with ⟨rfl,rfl⟩|⟨hl',hne',hz'⟩
  ·rfl
  ·simp [Nm.set] at hy;subst hy;exact absurd (h.inj x z b kx ⟨d,hz',hdd⟩ hb (old z b hl' hz)).symm hne'
  ·simp [Nm.set] at hz;subst hz;exact absurd (h.inj x y b kx ⟨c,hy',hcr.alive⟩ hb (old y b hl hy)).symm hne
  ·exact h.inj y z a ⟨c,hy',hcr⟩ ⟨d,hz',hdd⟩ (old y a hl hy) (old z a hl' hz)
 ·simp only [List.length_append,List.length_set,List.length_cons,List.length_nil];rw [Nm.pW] at hy;split at hy
  ·omega
  ·have:=h.CC y a hy;omega
 ·rintro y a ⟨c,hc,hcr⟩ hy;rcases cut y c hc with ⟨rfl,rfl⟩|⟨hl,hne,hy'⟩
  ·simp [Nm.set] at hy;subst hy;exact h.ng x b kx hb
  ·exact h.ng y a ⟨c,hy',hcr⟩ (old y a hl hy)
theorem LM {β:Nm} {m:Mem} {w w':World}(h:Sat β m w) {x b:Nat} {b0 b1:bG}(hx:m[x]? =some (some b0))(hrw:b0.rw)(hb:β x=some b)(hp:tS w b w'):ai m β w (m.set x none++ [some b1]) (β.set m.length b) w':=by
 have kx:kw m x:=⟨b0,hx,hrw⟩;refine ⟨Nm.jf h.fresh,fun y hy=>by rw [Nm.pW,if_neg (by omega)],by simp,?_,?_,hp.os,hp.tape,hp.output,hp.size,?_,fun _ _ _ h=> .inl h⟩
 ·intro q y hy hk;have:=Al hk;simp at this;have:y=m.length:=by omega
  subst this;exact ⟨b,by simp [Nm.set],.inr ⟨x,kx.kq q,hb⟩⟩
 ·rintro q y hy ⟨c,hc,hcr⟩;rw [List.getElem?_append_left (by simpa using hy)] at hc
  by_cases e:x=y
  ·subst e;exact kx.kq q
  ·rw [List.getElem?_set_ne e] at hc;exact ⟨c,hc,hcr⟩
 ·intro k hk hf;exact hp.iy k hk fun e=>hf x kx (by rw [hb,e])
section
variable {P:Program}
structure Put (w:World) (b:Nat) (us:List Value) (e:TypeId) (w':World):Prop where
 here:w'.heap[b]? =some (.cells ⟨us⟩ e (0,0))
 iy: ∀k,k≠b→w'.heap[k]? =w.heap[k]?
 size:w'.heap.size=w.heap.size
 os:w'.os=w.os
 tape:w'.tape=w.tape
 output:w'.output=w.output
theorem cL {b off:Nat} {e:TypeId}: ∀ (vs:List Value) (i:Nat) (us:List Value) (w:World),w.heap[b]? =some (.cells ⟨us⟩ e (0,0))→(∀v∈vs,v.oneCell'=true)→off+i+vs.length≤us.length→
  ∃w',(storeCells ⟨b,off,none⟩ vs i).run P w= .ok () w'∧Put w b (us.take (off+i)++(vs++us.drop (off+i+vs.length))) e w'
 | [],i,us,w,h,_,hl=>⟨w,rfl,by simpa using h,fun _ _=>rfl,rfl,rfl,rfl,rfl⟩
 |v::vs,i,us,w,h,hv,hl=>by
  simp only [List.length_cons] at hl;have hlt:off+i<us.length:=by omega
  have h1:(w.setCell ⟨b,off+i,none⟩ v).heap[b]? =some (.cells ⟨us.set (off+i) v⟩ e (0,0)):=by
   rw [heap_setCell_same w b (off+i) ⟨us⟩ e v h];simp
  obtain ⟨w',hr,hp⟩:=cL (b:=b) (off:=off) (e:=e) vs (i+1) (us.set (off+i) v) (w.setCell ⟨b,off+i,none⟩ v) h1 (fun x hx=>hv x (by simp [hx])) (by simp;omega)
  refine ⟨w',?_,?_,?_,?_,?_,?_,?_⟩
  ·unfold storeCells;rw [Sem.run_bind,aO,run_store P w _ v _ (hv v (by simp))]
   have hc:w.cell? ⟨b,off+i,none⟩=us[off+i]? :=by simp [World.cell?,h]
   rw [hc,List.getElem?_eq_getElem hlt];simp only [frozen_of_row w b (off+i) ⟨us⟩ e h,Bool.false_eq_true,if_false,Result.andThen_ok];exact hr
  ·rw [hp.here]
   congr 3
   rw [←Nat.add_assoc,List.take_set,List.take_add_one,List.drop_set_of_lt (by omega)]
   simp only [List.getElem?_eq_getElem hlt,Option.toList_some,List.length_cons];rw [List.set_append_right _ _ (by simp;omega)]
   have:off+i-(List.take (off+i) us).length=0:=by simp;omega
   rw [this];simp
   congr 1
   omega
  ·intro k hk;rw [hp.iy k hk,heap_setCell_other _ _ _ _ hk]
  ·rw [hp.size];simp [World.setCell]
  ·exact hp.os
  ·exact hp.tape
  ·exact hp.output
theorem Put.jd {w w':World} {b:Nat} {us:List Value} {e:TypeId}(h:Put w b us e w'):tS w b w':=⟨fun k _=>h.iy k,Nat.le_of_eq h.size.symm,h.os,h.tape,h.output⟩
theorem Sat.put {β:Nm} {m:Mem} {w w':World}(h:Sat β m w) {x b:Nat} {l l':List Lf} {e:TypeId} {us:List Value}(hx:m[x]? =some (some (.cells l e)))(hb:β x=some b)(hp:Put w b us e w')(hu:ae (aq β) l' us):
 Sat β (m.set x (some (.cells l' e))) w':=h.jd hx trivial hb hp.jd ⟨us,hp.here,hu⟩
theorem DV {β:Nm} {m:Mem} {w w':World} {x b:Nat} {l l':List Lf} {e:TypeId} {us:List Value}(hx:m[x]? =some (some (.cells l e)))(hb:β x=some b)(hp:Put w b us e w'):
 ai m β w (m.set x (some (.cells l' e))) β w':=cV hx trivial hb hp.jd
end
def UP(P:Program)(f:FuncId)(c:BC):Prop:=gb P f∧ ∀β args vals l t p s new w k us,tC w→NG k→c args l t=some (p,s,new)→ob p→ae (Has β) args vals→
 w.heap[k]? =some (.cells ⟨us⟩ t (0,0))→ae (aq β) l us→Calls P f ⟨.pointer (some ⟨k,0,none⟩)::vals⟩ w fun e w'=> ∃r us',e= .returned r∧Has β s r∧ae (aq β) new us'∧w'.heap[k]? =some (.cells ⟨us'⟩ t (0,0))∧tS w k w'
def a3c(P:Program)(h:FuncId→List SV→Mem→(SV→Mem→Prop)→Prop):Prop:= ∀f us m (K:SV→Mem→Prop),h f us m K→gb P f∧ ∀γ vals w,Sat γ m w→ae (Has γ) us vals→
 Calls P f ⟨vals⟩ w fun e w'=> ∃β' v m' r,Sat β' m' w'∧ai m γ w m' β' w'∧e= .returned r∧Has β' v r∧K v m'
structure Ctx.Ok (C:Ctx):Prop where
 Γ: ∀f c,(f,c)∈C.Γ→sO C.P f c
 Δ: ∀f c,(f,c)∈C.Δ→ab C.P f c
 B: ∀f c,(f,c)∈C.B→UP C.P f c
 mixed:C.P.follows .mixedOrders=true
 I: ∀h,C.I=some h→a3c C.P h
def cS(σ:St)(β:Nm)(w:World)(K:SV→Mem→Prop)(r:Value)(w':World):Prop:= ∃β' s m',Sat β' m' w'∧ai σ.m β w m' β' w'∧Has β' s r∧K s m'
def Vy(C:Ctx)(y:Value→List SV→Mem→(SV→Mem→Prop)→Prop)(γ:Nm):Prop:= ∀v us m (K:SV→Mem→Prop) vals w,y v us m K→Sat γ m w→ae (Has γ) us vals→
 ∃l f tmps assign body,v= .func (.yield l) #[] #[]∧(Instr.yield l ⟨vals⟩).run C.P w= .ok (.round l f tmps assign body) w∧
  ∀ (F:Fence) (n:Nat),Wd F→RoundIn F n C.P l f tmps assign body w fun e w'=> ∃γ' s m' r,e= .returned r∧Sat γ' m' w'∧ai m γ w m' γ' w'∧Has γ' s r∧K s m'
def KC(C:Ctx)(β:Nm):Prop:= ∀y,C.Y=some y→ ∀γ,β.le γ→Vy C y γ
theorem KC.le {C:Ctx} {β γ:Nm}(h:KC C β)(k:β.le γ):KC C γ:=fun y hy δ hd=>h y hy δ (Nm.le_trans k hd)
theorem tI.mono {P:Program} {o:Oper} {a:Act} {w:World} {R S:Value→World→Prop}(h:tI P o a w R)(k: ∀v w',R v w'→S v w'):tI P o a w S:=
 fun F n hF next Q hn=>h F n hF next Q fun v w' hr=>hn v w' (k v w' hr)
theorem ic {p:Option Prop} {q:Prop}(h:IQ p q):ob p∧q:=by
 cases p with
 |none=>exact ⟨trivial,h⟩
 |some p=>exact h
section
variable {bs:Nat} {C:Ctx} {σ:St} {o:Oper} {K:SV→Mem→Prop} {β:Nm} {a:Act} {w:World}
theorem aH {m:Mem} {x:Nat} {b:bG}(h:bP m x=some b):m[x]? =some (some b):=by
 unfold bP at h;split at h
 ·cases h;assumption
 ·cases h
theorem R1 {t:TypeId} {x y:Operand} {xs ys:SV} {q:Prop} {m':Mem}(ho:o.op= .store t x y)(hm:stR C.P σ.m t xs ys=some (q,m'))(hq:q)(hk:K (.cz []) m')(hf:Fit bs σ β a w)(hxv:Has β xs (a.eval x))(hyv:Has β ys (a.eval y)):
  tI C.P o a w (cS σ β w K):=by
 unfold stR at hm;split at hm
 ·rename_i nm base sz i f u;split at hm
  ·rename_i ro z sh rs base' tot e hmm;split at hm
   ·cases hm
   ·split at hm
    ·rename_i hb;rw [Bool.and_eq_true] at hb;obtain ⟨hb1,hb2⟩:=hb;have hb1:=Nat.eq_of_beq_eq_true hb1;have hb2:=Nat.eq_of_beq_eq_true hb2;subst hb1;subst hb2;split at hm
     ·rename_i n hn;split at hm
      ·rename_i hd;simp only [Bool.and_eq_true,decide_eq_true_eq] at hd;obtain ⟨d1,d2⟩:=hd;split at hm
       ·rename_i r hr;cases hm;have hmb:=aH hmm;obtain ⟨B,hB,hz,vs,fz,t',hob,hfz,hR,hRo⟩:=hf.sat.live hmb (fun hd=>by have h2:rs= []:=hd.2;rw [h2] at hq;simp at hq)
        subst hz;obtain ⟨rfl,hte⟩:=hfz rfl;rw [hte] at hob;cases hyv with
        |v hyv=>
         obtain ⟨cs,hvc,hvs⟩:=hyv.cells;have l1:=hvs.length;have hone: ∀v∈cs,v.oneCell'=true:=by
          intro v hv;obtain ⟨j,hj,rfl⟩:=List.mem_iff_getElem.1 hv;obtain ⟨q,hq,hqv⟩:=hvs.get' (List.getElem?_eq_getElem hj);exact hqv.kT
         have hm1:(i+1)*sh.length≤tot*sh.length:=Nat.mul_le_mul_right _ (by have:=hR.1;omega)
         rw [Nat.add_mul] at hm1;have hfit:=hR.2.1;obtain ⟨w',hrun,hp⟩:=cL (P:=C.P) (b:=B) (off:=base+i*sh.length+f) (e:=e) cs 0 vs w hob hone (by omega)
         have hav:a.eval x= .pointer (some ⟨B,base+i*sh.length+f,none⟩):=by
          cases hxv with
          |v hxv=>cases hxv with
           |one hxv=>generalize a.eval x=q at hxv ⊢;cases hxv;rename_i h1;rw [hB] at h1;cases h1;rfl
         have hrowo:(bA sh (al rs i)).take f++(cs++(bA sh (al rs i)).drop (f+cs.length))=bA sh r∧aP β sh r:=by
          refine my (β:=β) hr ?_;unfold gm;rw [←l1];exact ((eo (hRo.get i)).take _).append (hvs.append ((eo (hRo.get i)).drop _))
         have hrow:=hrowo.1.symm;have hR':=hR.put hq (by omega) hrow
         have hh:=hp.here;rw [Nat.add_zero] at hh;have hBn:cw β (.rows false false sh (rs.set i r) base tot e) w'.heap[B]? :=⟨rfl,_,_,_,hh,fun _=>⟨rfl,rfl⟩,hR',hRo.set hrowo.2 i⟩;refine uw (w':=w') ?_ ⟨β,.cz [],_,hf.sat.jd hmb ⟨rfl,rfl⟩ hB hp.jd hBn,cV hmb ⟨rfl,rfl⟩ hB hp.jd,.cz .nil,hk⟩;rw [execOp,ho];simp only [hav,Instr.storeAt,Instr.sureAddr,storeVar,Sem.run_bind,Sem.run_pure,Result.andThen_ok,ao hn,hvc,List.size_toArray];rw [if_neg (by simp;omega)]
         rw [hrun];rfl
       ·cases hm
      ·cases hm
     ·cases hm
    ·cases hm
  ·cases hm
 ·cases hm
theorem lp {c:Call} {b:Builtin} {R:Value→World→Prop}(ho:o.op= .call c)(hb:c.callee= .builtin b) {s:Sem Value}(hs: ∀cs,builtin b c.argTypes o.type cs ⟨c.args.toList.map a.eval⟩=(do let x ←s;pure (.value x)))
  {v:Value} {w':World} (hr:s.run C.P w= .ok v w') (hR:R v w'):tI C.P o a w R:=by
 refine eU (v:=v) (w':=w') ?_ hR;rw [execOp,ho];have e1:(c.args.map a.eval)=⟨c.args.toList.map a.eval⟩:=by apply Array.ext';simp
 simp only [resolve,hb,Sem.run_bind,Sem.run_pure,Result.andThen_ok,invoke,e1,hs];rw [hr];rfl
theorem JF: ∀l:List UInt8,l.map (fun b=>Value.int .u8 b.toNat)=(l.map UI).flatMap (bA [.int .u8])
 | []=>rfl
 |a::l=>by rw [List.map_cons,List.map_cons,List.flatMap_cons,JF l];rfl
theorem Hq {sh:List Kd} {s:SV} {x:Value} {q:Option Prop} {ys:List (Row sh)} {k:Nat}(hq:Ze σ.m sh s=some (q,ys,k))(hp:ob q)(hs:Sat β σ.m w)(hx:Has β s x):
  ys.length=k∧(∀v:World,(Builtin.lenOf x).run C.P v= .ok k v)∧(∀v:World,v.heap=w.heap→(Builtin.firstCells sh.length k x).run C.P v= .ok ⟨ys.flatMap (bA sh)⟩ v)∧aN β sh ys:=by
 unfold Ze at hq;split at hq
 ·rename_i hq';cases hq;obtain ⟨h1,h2,h3⟩:=IY hq' hp (fun x b e=>hs.dz x b (aH e)) (fun sh v xs e=>⟨_,hs.im sh v xs e⟩) hx;obtain ⟨h4,h5⟩:=h2.first (P:=C.P);subst h1;exact ⟨rfl,h4,h5,h3⟩
 ·split at hq
  ·rename_i hq';cases hq;unfold a7m at hq';split at hq'
   ·split at hq'
    ·rename_i l hl;cases hq';rw [dq hl hx];refine ⟨by simp,fun v=>rfl,fun v _=>?_,fun r hr=>mT rfl⟩
     show (pure _:Sem _).run C.P v=_;rw [Sem.run_pure]
     congr 1
     apply Array.ext';have e1:((⟨⟨l⟩⟩:ByteArray).extract 0 l.length).data=⟨l⟩:=by
      rw [ByteArray.data_extract];simp
     show (((⟨⟨l⟩⟩:ByteArray).extract 0 l.length).data.map _).toList=_;rw [e1];simp only [List.map_toArray];exact JF l
    ·cases hq'
   ·cases hq'
  ·cases hq
theorem By {sh:List Kd} {size by_:Nat} {e:TypeId} {xs:List (Row sh)} {rest:List Value} {c:Nat}(hc:xs.length≤c)(hr:rest.length=(c-xs.length)*sh.length) {γ:Nm}(hx:aN γ sh xs):
  cw γ (.rows false false sh xs 0 c e) (some (.cells ⟨xs.flatMap (bA sh)++rest⟩ e (0,0))):=by
 have hm:(c-xs.length)*sh.length=c*sh.length-xs.length*sh.length:=Nat.sub_mul _ _ _;have hm2:xs.length*sh.length≤c*sh.length:=Nat.mul_le_mul_right _ hc;refine ⟨rfl,_,(0,0),_,rfl,fun _=>⟨rfl,rfl⟩,⟨hc,by simp only [List.length_append,bN,hr];omega,?_⟩,hx⟩
 rw [List.drop_zero,←bN,List.take_left]
theorem Tb {P:Program} {sh:List Kd} {size by_:Nat} {t t2 ty e:TypeId} {u2:TypeDesc} {i:TypeInfo} {z:Value}(ht:P.underlying t=some (.slice e))(ht2:P.underlying t2=some u2)(hz2:LW u2=true)(hi:P.info? e=some i)(hz:i.zero=some z)(hzc:z.cells=⟨bA sh (kj sh)⟩)
  (hsize:i.size=sh.length) (hsz:size=sh.length) (hby:i.bytes=by_) (hb0:0<by_) {ys:List (Row sh)} {k:Nat} (h:Sz σ.m sh size by_ e ys k K) (hs:Sat β σ.m w) {q:Option Addr} {x:Value} (hl:ys.length=k)
  (hn: ∀v:World,(Builtin.lenOf x).run P v= .ok k v) (hnew: ∀v:World,v.heap=w.heap→(Builtin.firstCells sh.length k x).run P v= .ok ⟨ys.flatMap (bA sh)⟩ v) (hyo:aN β sh ys):
  ∃r w',(Builtin.append_ #[t,t2] ty #[.slice q 0 0,x]).run P w= .ok r w'∧cS σ β w K r w':=by
 subst hsz;obtain ⟨hbd,hk⟩:=h;have hz1:z.cells.size=sh.length:=by rw [hzc];simpa using bM (sh:=sh) (r:=kj sh)
 by_cases h0:k=0
 ·subst h0;have hy:ys= []:=List.eq_nil_of_length_eq_zero hl;subst hy;have hK:=hk 0 ⟨Nat.le_refl _,fun _=>rfl⟩;refine ⟨_,w,iY ht ht2 hz2 hi hn (by rw [hsize];simpa using hnew w rfl) (Nat.le_refl _),β,_,_,?_,?_,?_,hK⟩
  ·have cut: ∀ (y:Nat) (c:bG),(σ.m++ [some (bG.rows false (decide (0=0)) sh [] 0 0 e)])[y]? =some (some c)→ ¬c.dead→σ.m[y]? =some (some c):=by
    intro y c hc hd;rcases Nat.lt_or_ge y σ.m.length with hlt|hge
    ·rwa [List.getElem?_append_left hlt] at hc
    ·rw [List.getElem?_append_right hge] at hc;cases hyy:y-σ.m.length with
     |zero=>rw [hyy] at hc;simp at hc;subst hc;exact absurd ⟨rfl,rfl⟩ hd
     |succ n=>rw [hyy] at hc;simp at hc
   refine ⟨fun y c hc=>?_,?_,fun y a hy=>?_,hs.gl,fun y a ⟨c,hc,hr⟩ hy=>hs.ng y a ⟨c,cut y c hc hr.alive,hr⟩ hy,hs.ij (Nm.le_refl β) rfl (fun _ _ _=>rfl) fun y b _ ⟨c,hc,hr⟩ e=>⟨y,⟨c,cut y c hc hr.alive,hr⟩,e⟩⟩
   ·rcases Nat.lt_or_ge y σ.m.length with hlt|hge
    ·rw [List.getElem?_append_left hlt] at hc;exact hs.dz y c hc
    ·rw [List.getElem?_append_right hge] at hc;cases hyy:y-σ.m.length with
     |zero=>rw [hyy] at hc;simp at hc;subst hc;exact .inl ⟨rfl,rfl⟩
     |succ n=>rw [hyy] at hc;simp at hc
   ·rintro y y' a ⟨c,hc,hr⟩ ⟨d,hd,hdd⟩ hy hy';exact hs.inj y y' a ⟨c,cut y c hc hr.alive,hr⟩ ⟨d,cut y' d hd hdd,hdd⟩ hy hy'
   ·have:=hs.CC y a hy;simp;omega
  ·refine ⟨Nm.le_refl β,fun _ _=>rfl,by simp,?_,?_,rfl,rfl,rfl,Nat.le_refl _,fun _ _ _=>rfl,fun _ _ _ h=> .inl h⟩
   ·rintro q y hy ⟨c,hc,hr⟩;rw [List.getElem?_append_right hy] at hc;cases hyy:y-σ.m.length with
    |zero=>rw [hyy] at hc;simp at hc;subst hc;exact absurd ⟨rfl,rfl⟩ hr.alive
    |succ n=>rw [hyy] at hc;simp at hc
   ·rintro q y hy ⟨c,hc,hr⟩;rw [List.getElem?_append_left hy] at hc;exact ⟨c,hc,hr⟩
  ·exact .v (.one (.rs ⟨fun _=>rfl,Nat.le_refl _,.inl ⟨rfl,rfl,_,rfl⟩⟩))
 ·have hd:decide (k=0)=false:=decide_eq_false h0;rw [hd] at hk;have hkb:k*1≤k*by_:=Nat.mul_le_mul_left _ hb0;obtain ⟨rest,c,hc,hrl,hrun⟩:=jH (P:=P) (w:=w) (ty:=ty) (base:=q) (sLen:=0) (sCap:=0) (old:= []) (new:=ys.flatMap (bA sh)) ht ht2 hz2 hi hz hn (fun v _=>by cases q<;>simp [Builtin.firstCells,loadCells,loadCellsFrom]) (fun v hv=>by rw [hsize];exact hnew v hv) (by omega) (by rw [hby,Nat.zero_add];exact hbd) (by omega)
  simp only [Nat.zero_add,List.nil_append] at hc hrl hrun;rw [hz1,←hl] at hrl;have hK:=hk c ⟨hc,fun e=>absurd e h0⟩;have hB:cw (β.set σ.m.length w.heap.size) (.rows false false sh ys 0 c e) (some (.cells ⟨ys.flatMap (bA sh)++rest⟩ e (0,0))):=By (size:=0) (by_:=0) (by omega) hrl (hyo.mono (Nm.jf hs.fresh))
  have hs':Sat β σ.m w.drew:=hs.ext (Ext.drew (Ext.refl w));refine ⟨_,_,hrun,_,_,_,iu hs' hB,?_,.v (.one (.rs ⟨fun _=>rfl,hc,.inr ⟨rfl,w.heap.size,by simp [Nm.set],by simp⟩⟩)),hK⟩
  exact ai.trans hs (ai.ext' (Ext.drew (Ext.refl w))) (er hs' _ _)
theorem abE {y off len cap:Nat} {kn:Bool} {v:Value}(h:Has β (.v (.one (.sl y off kn len cap))) v): ∃q,v= .slice q len cap:=by
 cases h with
 |v h=>cases h with
  |one h=>cases h with
   |sl _=>exact ⟨_,rfl⟩
theorem P9 {P:Program} {sh:List Kd} {by_:Nat} {t t2 ty e:TypeId} {u2:TypeDesc} {i:TypeInfo} {z:Value}(ht:P.underlying t=some (.slice e))(ht2:P.underlying t2=some u2)(hz2:LW u2=true)(hi:P.info? e=some i)(hz:i.zero=some z)(hzc:z.cells=⟨bA sh (kj sh)⟩)
  (hsize:i.size=sh.length) (hby:i.bytes=by_) (hb0:0<by_) {xs ys:List (Row sh)} {n k:Nat} (h:a0j σ.m sh sh.length by_ e xs ys n k K) (hs:Sat β σ.m w) {dv x:Value} (hdv: ∃q,dv= .slice q n n) (hl:ys.length=k)
  (hn: ∀v:World,(Builtin.lenOf x).run P v= .ok k v) (hnew: ∀v:World,v.heap=w.heap→(Builtin.firstCells sh.length k x).run P v= .ok ⟨ys.flatMap (bA sh)⟩ v) (hyo:aN β sh ys)
  (hl2:xs.length=n) (hold: ∀v:World,v.heap=w.heap→(Builtin.firstCells sh.length n dv).run P v= .ok ⟨xs.flatMap (bA sh)⟩ v) (hxo:aN β sh xs):
  ∃r w',(Builtin.append_ #[t,t2] ty #[dv,x]).run P w= .ok r w'∧cS σ β w K r w':=by
 obtain ⟨q,rfl⟩:=hdv;obtain ⟨⟨hk0,hbd⟩,hk⟩:=h;have hz1:z.cells.size=sh.length:=by rw [hzc];simpa using bM (sh:=sh) (r:=kj sh)
 have hkb:(n+k)*1≤(n+k)*by_:=Nat.mul_le_mul_left _ hb0;obtain ⟨rest,c,hc,hrl,hrun⟩:=jH (P:=P) (w:=w) (ty:=ty) (base:=q) (sLen:=n) (sCap:=n) (old:=xs.flatMap (bA sh)) (new:=ys.flatMap (bA sh)) ht ht2 hz2 hi hz hn (fun v hv=>by rw [hsize];exact hold v hv) (fun v hv=>by rw [hsize];exact hnew v hv) (by omega) (by rw [hby];exact hbd) (by omega)
 have hlen:(xs++ys).length=n+k:=by rw [List.length_append,hl,hl2]
 rw [hz1,←hlen] at hrl;have hK:=hk c hc;have hB:cw (β.set σ.m.length w.heap.size) (.rows false false sh (xs++ys) 0 c e) (some (.cells ⟨(xs++ys).flatMap (bA sh)++rest⟩ e (0,0))):=By (size:=0) (by_:=0) (by omega) hrl ((hxo.append hyo).mono (Nm.jf hs.fresh))
 rw [List.flatMap_append] at hB;have hs':Sat β σ.m w.drew:=hs.ext (Ext.drew (Ext.refl w));refine ⟨_,_,hrun,_,_,_,iu hs' hB,?_,.v (.one (.rs ⟨fun _=>rfl,hc,.inr ⟨rfl,w.heap.size,by simp [Nm.set],by simp⟩⟩)),hK⟩
 exact ai.trans hs (ai.ext' (Ext.drew (Ext.refl w))) (er hs' _ _)
theorem KD {P:Program} {e:TypeId} {n:Nat}(h:bI P e=some n): ∃i,P.info? e=some i∧i.size=n:=by
 unfold bI at h;split at h
 ·rename_i i hi;cases h;exact ⟨i,hi,rfl⟩
 ·cases h
theorem JQ {P:Program} {e:TypeId} {n:Nat}(h:zK P e=some n): ∃i,P.info? e=some i∧i.bytes=n:=by
 unfold zK at h;split at h
 ·rename_i i hi;cases h;exact ⟨i,hi,rfl⟩
 ·cases h
theorem a1f {us:List SV} {vals:List Value} {d s:SV}(hu:us= [d,s])(h:ae (Has β) us vals): ∃dv sv,vals= [dv,sv]∧Has β d dv∧Has β s sv:=by
 subst hu;obtain ⟨dv,r,rfl,h1,h⟩:=h.cons_inv;obtain ⟨sv,r,rfl,h2,h⟩:=h.cons_inv;rw [h.aI];exact ⟨dv,sv,rfl,h1,h2⟩
theorem ts2 {ts:Array TypeId} {t t2:TypeId}(h0:ts[0]? =some t)(h1:ts[1]? =some t2)(h2:ts[2]? =none):ts= #[t,t2]:=by
 obtain ⟨l⟩:=ts
 match l with
 | []=>simp at h0
 | [_]=>simp at h1
 | [a,b]=>simp at h0 h1;subst h0;subst h1;rfl
 |_::_::_::_=>simp at h2
theorem AH {sh:List Kd} {ys:List (Row sh)}(ho:aN β sh ys): ∀v∈ys.flatMap (bA sh),v.oneCell'=true:=by
 intro v hv;obtain ⟨r,hr0,hvr⟩:=List.mem_flatMap.1 hv;obtain ⟨j,hj,rfl⟩:=List.mem_iff_getElem.1 hvr;obtain ⟨q,hq,hqv⟩:=(eo (ho r hr0)).get' (List.getElem?_eq_getElem hj);exact hqv.kT
theorem eu {m:Mem} {x y:Nat} {c:bG}(h:(m.set x none)[y]? =some (some c)):m[y]? =some (some c):=by
 by_cases e:x=y
 ·subst e;rw [List.getElem?_set] at h;simp at h
 ·rwa [List.getElem?_set_ne e] at h
theorem Sat.forget(h:Sat β σ.m w)(x:Nat):Sat β (σ.m.set x none) w:=by
 refine ⟨fun y c hc=>h.dz y c (eu hc),?_,fun y a hy=>by simpa using h.CC y a hy,h.gl,fun y a ⟨c,hc,hr⟩ hy=>h.ng y a ⟨c,eu hc,hr⟩ hy,h.ij (Nm.le_refl β) rfl (fun _ _ _=>rfl) fun y b _ ⟨c,hc,hr⟩ e=>⟨y,⟨c,eu hc,hr⟩,e⟩⟩
 rintro y y' a ⟨c,hc,hr⟩ ⟨d,hd,hdd⟩ hy hy';exact h.inj y y' a ⟨c,eu hc,hr⟩ ⟨d,eu hd,hdd⟩ hy hy'
theorem Fh(x:Nat):ai σ.m β w (σ.m.set x none) β w:=by
 refine ⟨Nm.le_refl β,fun _ _=>rfl,by simp,?_,?_,rfl,rfl,rfl,Nat.le_refl _,fun _ _ _=>rfl,fun _ _ _ h=> .inl h⟩
 ·rintro q y hy ⟨c,hc,hr⟩;have:=(List.getElem?_eq_some_iff.1 (eu hc)).1;omega
 ·rintro q y hy ⟨c,hc,hr⟩;exact ⟨c,eu hc,hr⟩
set_option maxHeartbeats 1000000 in
theorem IT {c:Call} {us:List SV}(ho:o.op= .call c)(hb:c.callee= .builtin .append)(h:Vo C.P σ.m c.argTypes us K)(hf:Fit bs σ β a w)(hargs:ae (Has β) us (c.args.toList.map a.eval)):tI C.P o a w (cS σ β w K):=by
 unfold Vo at h;split at h
 ·rename_i d s;split at h
  ·rename_i t t2 ht0 ht1 ht2';split at h
   ·rename_i e e2 hu hu2;split at h
    ·rename_i sh size by_ hsh hsize hby;split at h
     ·rename_i hd;rw [Bool.and_eq_true,Bool.and_eq_true] at hd;have hd1:=Nat.eq_of_beq_eq_true hd.1;have hd2:0<by_:=by have:=hd.2.1;rwa [Nat.blt_eq] at this
      have hd3:=hd.2.2;subst hd1;split at h
      ·rename_i q ys k hsrc;have h00:=ic h;clear h;obtain ⟨hp,h⟩:=h00;obtain ⟨dv,sv,hvals,hdv,hsv⟩:=a1f rfl hargs;obtain ⟨i,z,hi,hz,hzc⟩:=qI hsh;obtain ⟨i',hi',his⟩:=KD hsize;obtain ⟨i'',hi'',hib⟩:=JQ hby;rw [hi] at hi' hi'';cases hi';cases hi'';obtain ⟨hl,hn,hnew,hyo⟩:=Hq (C:=C) hsrc hp hf.sat hsv;have fin: ∀ {r:Value} {w':World},(Builtin.append_ #[t,t2] o.type #[dv,sv]).run C.P w= .ok r w'→cS σ β w K r w'→tI C.P o a w (cS σ β w K):=by
        intro r w' hr hA;refine lp (s:=Builtin.append_ #[t,t2] o.type #[dv,sv]) ho hb (fun cs=>?_) hr hA;rw [hvals,ts2 ht0 ht1 ht2'];rfl
       have new:Sz σ.m sh sh.length by_ e ys k K→(∃q,dv= .slice q 0 0)→tI C.P o a w (cS σ β w K):=by
        rintro hq ⟨qa,rfl⟩;obtain ⟨r,w',hr,hA⟩:=Tb hu hu2 hd3 hi hz hzc his rfl hib hd2 hq hf.sat hl hn hnew hyo;exact fin hr hA
       unfold a6P at h;split at h
       ·cases hdv with
        |v hdv=>cases hdv with
         |one hdv=>cases hdv with
          |aj=>exact new h ⟨_,rfl⟩
       ·split at h
        ·rename_i hbb;rw [Bool.and_eq_true] at hbb;have b1:=Nat.eq_of_beq_eq_true hbb.1;have b2:=Nat.eq_of_beq_eq_true hbb.2;subst b1;subst b2;cases hdv with
         |v hdv=>cases hdv with
          |one hdv=>cases hdv with
           |sl hb=>exact new h ⟨_,rfl⟩
        ·split at h
         ·rename_i hbe;have hbe:=Nat.eq_of_beq_eq_true hbe;subst hbe;split at h
          ·rename_i q2 xs2 n2 hsrc2;obtain ⟨hp2,hn2,h⟩:=ic h;subst hn2;obtain ⟨hl2,hn2,hold2,hyo2⟩:=Hq (C:=C) hsrc2 hp2 hf.sat hdv;have his':i.size=sh.length:=his;obtain ⟨r,w',hr,hA⟩:=P9 (σ:=σ) (K:=K) (ty:=o.type) hu hu2 hd3 hi hz hzc his' hib hd2 h hf.sat (abE hdv) hl hn hnew hyo hl2 hold2 hyo2;exact fin hr hA
          ·exact h.elim
         ·exact h.elim
       ·rename_i zz tg x base sz oo n cc;cases hdv with
        |v hdv=>cases hdv with
         |one hdv=>cases hdv with
          |rs hrs=>
           split at h
           ·obtain ⟨⟨rfl,rfl⟩,h⟩:=h;exact new h hrs.isSlice
           ·split at h
            ·rename_i ro z' sh' xs base' tot e' hmm;split at h
             ·exact h.elim
             ·split at h
              ·rename_i hE hshE hbb;clear hshE;subst hE;rw [dN] at h;simp only [Bool.and_eq_true] at hbb;obtain ⟨b1,b2,b3,b4⟩:=hbb;have b1:=Nat.eq_of_beq_eq_true b1;have b2:=Nat.eq_of_beq_eq_true b2;have b3:=Nat.eq_of_beq_eq_true b3;have b4:=Nat.eq_of_beq_eq_true b4;subst b1;subst b2;subst b3;subst b4;have hmb:=aH hmm;split at h
               ·
                obtain ⟨⟨hnl,rfl,rfl,hz0,hbd⟩,h⟩:=h;have ho0:=hrs.1 rfl;subst ho0;obtain ⟨qa,hqa⟩:=hrs.isSlice;by_cases hroom:n+k≤cc
                ·
                 rcases hrs.2.2 with ⟨rfl,rfl,q',rfl⟩|⟨rfl,B,hB,rfl⟩
                 ·have hc0:=hz0 rfl;subst hc0;have hk0:k=0:=by omega
                  subst hk0;have hy0:ys= []:=List.eq_nil_of_length_eq_zero hl;subst hy0;have hx0:xs= []:=List.eq_nil_of_length_eq_zero hnl.symm;subst hx0;have hK:=h 0 (Nat.le_refl _) (fun _=>rfl);refine fin (iY hu hu2 hd3 hi hn (by rw [his];simpa using hnew w rfl) (Nat.le_refl _)) ?_
                  refine ⟨β,_,_,?_,?_,.v (.one (.rs ⟨fun _=>rfl,Nat.le_refl _,.inl ⟨rfl,rfl,_,rfl⟩⟩)),hK⟩
                  ·have cut: ∀ (y:Nat) (c:bG),(σ.m.set x none++ [some (bG.rows false (decide (0=0)&&true) sh' ([]++ []) 0 0 e')])[y]? =some (some c)→ ¬c.dead→σ.m[y]? =some (some c):=by
                    intro y c hc hd;rcases Nat.lt_or_ge y σ.m.length with hlt|hge
                    ·rw [List.getElem?_append_left (by simpa using hlt)] at hc
                     by_cases e1:x=y
                     ·subst e1;rw [List.getElem?_set] at hc;simp at hc
                     ·rwa [List.getElem?_set_ne e1] at hc
                    ·rw [List.getElem?_append_right (by simpa using hge)] at hc
                     simp only [List.length_set] at hc;cases hyy:y-σ.m.length with
                     |zero=>rw [hyy] at hc;simp at hc;subst hc;exact absurd ⟨rfl,rfl⟩ hd
                     |succ n=>rw [hyy] at hc;simp at hc
                   refine ⟨fun y c hc=>?_,?_,fun y a hy=>?_,hf.sat.gl,fun y a ⟨c,hc,hr⟩ hy=>hf.sat.ng y a ⟨c,cut y c hc hr.alive,hr⟩ hy,hf.sat.ij (Nm.le_refl β) rfl (fun _ _ _=>rfl) fun y b _ ⟨c,hc,hr⟩ e=>⟨y,⟨c,cut y c hc hr.alive,hr⟩,e⟩⟩
                   ·rcases Nat.lt_or_ge y σ.m.length with hlt|hge
                    ·rw [List.getElem?_append_left (by simpa using hlt)] at hc
                     by_cases e1:x=y
                     ·subst e1;rw [List.getElem?_set] at hc;simp at hc
                     ·rw [List.getElem?_set_ne e1] at hc;exact hf.sat.dz y c hc
                    ·rw [List.getElem?_append_right (by simpa using hge)] at hc
                     simp only [List.length_set] at hc;cases hyy:y-σ.m.length with
                     |zero=>rw [hyy] at hc;simp at hc;subst hc;exact .inl ⟨rfl,rfl⟩
                     |succ n=>rw [hyy] at hc;simp at hc
                   ·rintro y y' a ⟨c,hc,hr⟩ ⟨d,hd,hdd⟩ hy hy';exact hf.sat.inj y y' a ⟨c,cut y c hc hr.alive,hr⟩ ⟨d,cut y' d hd hdd,hdd⟩ hy hy'
                   ·have:=hf.sat.CC y a hy;simp;omega
                  ·refine ⟨Nm.le_refl β,fun _ _=>rfl,by simp,?_,?_,rfl,rfl,rfl,Nat.le_refl _,fun _ _ _=>rfl,fun _ _ _ h=> .inl h⟩
                   ·rintro q y hy ⟨c,hc,hr⟩;rw [List.getElem?_append_right (by simpa using hy)] at hc
                    simp only [List.length_set] at hc;cases hyy:y-σ.m.length with
                    |zero=>rw [hyy] at hc;simp at hc;subst hc;exact absurd ⟨rfl,rfl⟩ hr.alive
                    |succ n=>rw [hyy] at hc;simp at hc
                   ·rintro q y hy ⟨c,hc,hr⟩;rw [List.getElem?_append_left (by simpa using hy)] at hc
                    by_cases e1:x=y
                    ·subst e1;rw [List.getElem?_set] at hc;simp at hc
                    ·rw [List.getElem?_set_ne e1] at hc;exact ⟨c,hc,hr⟩
                 ·obtain ⟨B',hB',_,vs,fz,t',hob,hfz,hR,hRo⟩:=hf.sat.live hmb (fun hd=>by cases hd.1)
                  rw [hB] at hB';cases hB';obtain ⟨rfl,hte⟩:=hfz rfl;rw [hte] at hob;have hK:=h cc hroom (fun _=>rfl);rw [Bool.and_false] at hK;have hW:=hR.write (ys:=ys) (a:=n) (by omega) (by rw [hl];exact hroom)
                  have e1:xs.take n++(ys++xs.drop (n+ys.length))=xs++ys:=by
                   rw [hnl,List.take_length,List.drop_eq_nil_of_le (by omega),List.append_nil]
                  rw [e1,Nat.zero_add] at hW;have hone: ∀v∈ys.flatMap (bA sh'),v.oneCell'=true:=AH hyo;have hfit:=hR.2.1;have hmul:(n+k)*sh'.length≤cc*sh'.length:=Nat.mul_le_mul_right _ hroom;rw [Nat.add_mul] at hmul;obtain ⟨w',hrun,hp⟩:=cL (P:=C.P) (b:=B) (off:=n*sh'.length) (e:=e') (ys.flatMap (bA sh')) 0 vs w hob hone (by rw [bN,hl];omega)
                  have hh:=hp.here;rw [Nat.add_zero] at hh;have hBn:cw β (.rows false false sh' (xs++ys) 0 cc e') w'.heap[B]? :=⟨rfl,_,_,_,hh,fun _=>⟨rfl,rfl⟩,hW,hRo.append hyo⟩;refine fin (rD hu hu2 hd3 hi hn (by rw [his];exact hnew w rfl) hroom (w':=w') ?_) ?_
                  ·rw [his,aO];have e2:0+0*sh'.length+n*sh'.length=n*sh'.length:=by omega
                   rw [e2];exact hrun
                  ·refine ⟨_,_,_,hf.sat.move hmb ⟨rfl,rfl⟩ hB hp.jd hBn,LM hf.sat hmb ⟨rfl,rfl⟩ hB hp.jd,?_,hK⟩;exact .v (.one (.rs ⟨fun _=>rfl,hroom,.inr ⟨rfl,B,by simp [Nm.set],rfl⟩⟩))
                ·
                 have hk0:k≠0:=by
                  intro e0;have:=hrs.2.1;omega
                 have hdk:decide (k=0)=false:=decide_eq_false hk0;rw [hdk,Bool.false_and] at h;have hkb:(n+k)*1≤(n+k)*by_:=Nat.mul_le_mul_left _ hd2;have hz1:z.cells.size=sh'.length:=by rw [hzc];simpa using bM (sh:=sh') (r:=kj sh')
                 have hxo:aN β sh' xs:=by
                  rcases hrs.2.2 with ⟨_,e0,_⟩|⟨rfl,B,hB,hve⟩
                  ·rw [List.eq_nil_of_length_eq_zero (hnl.symm.trans e0)];exact .nil
                  ·obtain ⟨B',hB',_,vs,fz,t',hob,_,hR,hRo⟩:=hf.sat.live hmb (fun hd=>by cases hd.1)
                   exact hRo
                 have hold: ∀v:World,v.heap=w.heap→(Builtin.firstCells i.size n (.slice qa n cc)).run C.P v= .ok ⟨xs.flatMap (bA sh')⟩ v:=by
                  intro v hv;rcases hrs.2.2 with ⟨_,e0,_⟩|⟨rfl,B,hB,hve⟩
                  ·subst e0;have hx0:xs= []:=List.eq_nil_of_length_eq_zero hnl.symm;subst hx0;cases qa with
                   |none=>simp [Builtin.firstCells]
                   |some qa=>simp [Builtin.firstCells,loadCells,loadCellsFrom]
                  ·obtain ⟨B',hB',_,vs,fz,t',hob,_,hR,hRo⟩:=hf.sat.live hmb (fun hd=>by cases hd.1)
                   rw [hB] at hB';cases hB';rw [hve] at hqa;cases hqa;have h3:=hR.2.2;rw [his];refine C4 (vs:=vs) (fun i=>by simp [World.cell?,hv,hob]) (by rw [bN,hnl]) ?_ _ _
                   intro j u hj;rw [←h3,List.getElem?_take] at hj;split at hj
                   ·rw [List.drop_zero] at hj;simpa using hj
                   ·cases hj
                 obtain ⟨rest,c2,hc2,hrl,hrun⟩:=jH (P:=C.P) (w:=w) (ty:=o.type) (base:=qa) (sLen:=n) (sCap:=cc) (old:=xs.flatMap (bA sh')) (new:=ys.flatMap (bA sh')) hu hu2 hd3 hi hz hn hold (fun v hv=>by rw [his];exact hnew v hv) (by omega) (by rw [hib];exact hbd) (by omega)
                 have hK:=h c2 hc2 (fun e=>absurd e hk0);have hlen:(xs++ys).length=n+k:=by rw [List.length_append,←hnl,hl]
                 rw [hz1,←hlen] at hrl;rw [←List.flatMap_append] at hrun;have hs1:Sat β σ.m w.drew:=hf.sat.ext (Ext.drew (Ext.refl w));have hs2:=hs1.forget x;have hB:cw (β.set (σ.m.set x none).length w.heap.size) (.rows false false sh' (xs++ys) 0 c2 e') (some (.cells ⟨(xs++ys).flatMap (bA sh')++rest⟩ e' (0,0))):=By (size:=0) (by_:=0) (by rw [hlen];exact hc2) hrl ((hxo.append hyo).mono (Nm.jf hs2.fresh))
                 rw [←hqa] at hrun;refine fin hrun ⟨_,_,_,iu hs2 hB,?_,?_,hK⟩
                 ·exact ai.trans hf.sat (ai.ext' (Ext.drew (Ext.refl w))) (ai.trans hs1 (Fh x) (er hs2 _ _))
                 ·exact .v (.one (.rs ⟨fun _=>rfl,hc2,.inr ⟨rfl,w.heap.size,by simp [Nm.set],by simp⟩⟩))
               ·
                obtain ⟨⟨rfl,rfl,hon,hroom,hct⟩,h⟩:=h;rcases hrs.2.2 with ⟨e0,_⟩|⟨_,B,hB,rfl⟩
                ·cases e0
                ·obtain ⟨B',hB',_,vs,fz,t',hob,hfz,hR,hRo⟩:=hf.sat.live hmb (fun hd=>by cases hd.1)
                 rw [hB] at hB';cases hB';obtain ⟨rfl,hte⟩:=hfz rfl;rw [hte] at hob;have hW:=hR.write (ys:=ys) (a:=oo+n) hon (by omega)
                 rw [Nat.zero_add,hl] at hW;have hone: ∀v∈ys.flatMap (bA sh'),v.oneCell'=true:=AH hyo;have hfit:=hR.2.1;have hmul:(oo+n+k)*sh'.length≤tot*sh'.length:=Nat.mul_le_mul_right _ (by omega)
                 rw [Nat.add_mul] at hmul;obtain ⟨w',hrun,hp⟩:=cL (P:=C.P) (b:=B) (off:=(oo+n)*sh'.length) (e:=e') (ys.flatMap (bA sh')) 0 vs w hob hone (by rw [bN,hl];omega)
                 have hh:=hp.here;rw [Nat.add_zero] at hh;have hBn:cw β (.rows false false sh' (xs.take (oo+n)++(ys++xs.drop (oo+n+k))) 0 tot e') w'.heap[B]? :=⟨rfl,_,_,_,hh,fun _=>⟨rfl,rfl⟩,hW,(hRo.take _).append (hyo.append (hRo.drop _))⟩;refine fin (rD hu hu2 hd3 hi hn (by rw [his];exact hnew w rfl) hroom (w':=w') ?_) ?_
                 ·rw [his,aO];have e2:0+oo*sh'.length+n*sh'.length=(oo+n)*sh'.length:=by rw [Nat.add_mul];omega
                  rw [e2];exact hrun
                 ·exact ⟨β,_,_,hf.sat.jd hmb ⟨rfl,rfl⟩ hB hp.jd hBn,cV hmb ⟨rfl,rfl⟩ hB hp.jd,.v (.one (.rs ⟨fun e=>(by cases e),hroom,.inr ⟨rfl,B,hB,rfl⟩⟩)),h⟩
              ·exact h.elim
            ·exact h.elim
       ·exact h.elim
      ·exact h.elim
     ·exact h.elim
    ·exact h.elim
   ·exact h.elim
  ·exact h.elim
 ·exact h.elim
theorem KY {c:Call} {us:List SV}(ho:o.op= .call c)(hb:c.callee= .builtin .append)(h:a4s C.P σ.m c.argTypes us K)(hf:Fit bs σ β a w)(hargs:ae (Has β) us (c.args.toList.map a.eval)):tI C.P o a w (cS σ β w K):=by
 unfold a4s at h;split at h
 ·split at h
  ·rename_i t t2 ht0 ht1 ht2';split at h
   ·rename_i e e2 hu hu2;split at h
    ·rename_i sh hsh;obtain ⟨i,z,hi,hz,hzc⟩:=qI hsh;obtain ⟨dv,sv,hvals,hdv,hsv⟩:=a1f rfl hargs;cases hdv with
     |v hdv=>cases hdv with
      |one hdv=>cases hdv with
       |aj=>cases hsv with
        |v hsv=>cases hsv with
         |one hsv=>cases hsv with
          |aj=>
           refine lp (s:=Builtin.append_ #[t,t2] o.type #[.slice none 0 0,.slice none 0 0]) ho hb (fun cs=>?_) (iY hu hu2 rfl hi (fun v=>by simp [Builtin.lenOf]) (by simp [Builtin.firstCells,loadCells,loadCellsFrom]) (Nat.le_refl _)) ⟨β,_,_,hf.sat,ai.refl _ _ _,.v (.one .aj),h⟩
           rw [hvals,ts2 ht0 ht1 ht2'];rfl
    ·exact h.elim
   ·exact h.elim
  ·exact h.elim
 ·exact IT ho hb h hf hargs
theorem LR {c:Call} {us:List SV}(ho:o.op= .call c)(hb:c.callee= .builtin .clear)(h:a40 C.P σ.m c.argTypes us K)(hf:Fit bs σ β a w)(hargs:ae (Has β) us (c.args.toList.map a.eval)):tI C.P o a w (cS σ β w K):=by
 unfold a40 at h;split at h
 ·rename_i z tg x base sz oo n cc;split at h
  ·rename_i t ht;split at h
   ·rename_i e hu;split at h
    ·rename_i sh ro z' sh' xs base' tot e' hsh hmm;split at h
     ·exact h.elim
     ·split at h
      ·rename_i hE hshE hbb;clear hshE;subst hE;rw [dN] at h;simp only [Bool.and_eq_true] at hbb;obtain ⟨b1,b2⟩:=hbb;have b1:=Nat.eq_of_beq_eq_true b1;have b2:=Nat.eq_of_beq_eq_true b2;subst b1;subst b2;have hmb:=aH hmm;obtain ⟨hon,h⟩:=h;obtain ⟨v,r,hvals,hv,hr⟩:=hargs.cons_inv;rw [hr.aI] at hvals;obtain ⟨i,zv,hi,hz,hzc⟩:=qI hsh;have fin: ∀ {w':World},(Builtin.clear_ c.argTypes o.type #[v]).run C.P w= .ok (.tuple #[]) w'→cS σ β w K (.tuple #[]) w'→tI C.P o a w (cS σ β w K):=by
        intro w' hr hA;refine lp (s:=Builtin.clear_ c.argTypes o.type #[v]) ho hb (fun cs=>?_) hr hA;rw [hvals];rfl
       cases hv with
       |v hv=>cases hv with
        |one hv=>cases hv with
         |rs hrs=>
          by_cases h0:n=0
          ·subst h0;obtain ⟨qa,rfl⟩:=hrs.isSlice;have e1:σ.m.set x (some (bG.rows false z' sh' (xs.take oo++(List.replicate 0 (kj sh')++xs.drop (oo+0))) base tot e'))=σ.m:=by
            have e2:xs.take oo++(List.replicate 0 (kj sh')++xs.drop (oo+0))=xs:=by simp
            rw [e2];apply List.ext_getElem?;intro y;rw [List.getElem?_set];split
            ·rename_i e3;subst e3;have hl:=(List.getElem?_eq_some_iff.1 hmb).1;rw [if_pos hl,hmb]
            ·rfl
           rw [e1] at h;refine fin (w':=w) ?_ ⟨β,_,_,hf.sat,ai.refl _ _ _,.cz .nil,h⟩;cases qa<;>simp [Builtin.clear_,ht,run_underlying hu]
          ·rcases hrs.2.2 with ⟨_,e0,_⟩|⟨_,B,hB,rfl⟩
           ·exact absurd e0 h0
           ·obtain ⟨B',hB',hz',vs,fz,t',hob,hfz,hR,hRo⟩:=hf.sat.live hmb (fun hd=>by have h2:xs= []:=hd.2;rw [h2] at hon;simp at hon;omega)
            rw [hB] at hB';cases hB';subst hz';obtain ⟨rfl,hte⟩:=hfz rfl;rw [hte] at hob;have hlr:(List.replicate n (kj sh')).length=n:=by simp
            have hW:=hR.write (ys:=List.replicate n (kj sh')) (a:=oo) (by omega) (by rw [hlr];have:=hR.1;omega)
            have hfit:=hR.2.1;have hmul:(oo+n)*sh'.length≤tot*sh'.length:=Nat.mul_le_mul_right _ (by have:=hR.1;omega)
            rw [Nat.add_mul] at hmul;obtain ⟨w',hrun,hp⟩:=cL (P:=C.P) (b:=B) (off:=base+oo*sh'.length) (e:=e') ((List.replicate n (kj sh')).flatMap (bA sh')) 0 vs w hob (AH (β:=β) (.rep n)) (by rw [bN,hlr];omega)
            have hh:=hp.here;rw [Nat.add_zero] at hh;rw [hlr] at hW;have hBn:cw β (.rows false false sh' (xs.take oo++(List.replicate n (kj sh')++xs.drop (oo+n))) base tot e') w'.heap[B]? :=⟨rfl,_,_,_,hh,fun _=>⟨rfl,rfl⟩,hW,(hRo.take _).append ((aN.rep n).append (hRo.drop _))⟩;refine fin (w':=w') ?_ ⟨β,_,_,hf.sat.jd hmb ⟨rfl,rfl⟩ hB hp.jd hBn,cV hmb ⟨rfl,rfl⟩ hB hp.jd,.cz .nil,h⟩;have hzl:(Builtin.zeroCells zv.cells n).toList=(List.replicate n (kj sh')).flatMap (bA sh'):=by
             rcases Nat.eq_zero_or_pos sh'.length with e0|hpos
             ·have:sh'= []:=List.eq_nil_of_length_eq_zero e0;subst this;simp [Builtin.zeroCells,hzc,bA]
             ·rw [←pG hpos n (n*sh'.length) (Nat.le_refl _),hzc];have:(bA sh' (kj sh')).length=sh'.length:=bM;rw [List.take_of_length_le (by simp)]
              simp [Builtin.zeroCells,this,Array.toList_range]
            obtain ⟨n',rfl⟩: ∃n',n=n'+1:=⟨n-1,by omega⟩
            rw [←hzl] at hrun;simp [Builtin.clear_,ht,run_underlying hu,zeroValue,typeInfo,hi,hz,hrun]
      ·exact h.elim
    ·exact h.elim
   ·exact h.elim
  ·exact h.elim
 ·exact h.elim
end
theorem OP {bs:Nat} {C:Ctx} {σ:St} {o:Oper} {op:BinOp} {t:TypeId} {x y:Operand} {yt:TypeId} {K:SV→Mem→Prop} {β:Nm} {a:Act} {w:World}(ho:o.op= .binOp op t x y yt)(h:nlQ C.P op t (ev σ.tm x) (ev σ.tm y) σ.m K)(hf:Fit bs σ β a w):tI C.P o a w (cS σ β w K):=by
 unfold nlQ at h;split at h
 ·rename_i z tg b base sz of n c hx hy;split at h
  ·rename_i e ht;split at h
   ·rename_i p q hp hq;have hxv:=bh hf.tm hx;have hyv:=bh hf.tm hy;obtain ⟨hn1,hn2⟩:=h;cases hxv with
    |v hxv=>cases hxv with
     |one hxv=>cases hyv with
      |v hyv=>cases hyv with
       |one hyv=>
        generalize hu:a.eval x=u at hxv;generalize hv:a.eval y=v at hyv;cases hyv;cases hxv with
        |rs hr=>
         have fin: ∀ {r s:Bool},pN op r=some s→(Op.equal t u (.slice none 0 0)).run C.P w= .ok r w→(∃q n c,u= .slice q n c)→K (lb true s) σ.m→tI C.P o a w (cS σ β w K):=by
          intro r s hs he hsl hk;obtain ⟨q',n',c',rfl⟩:=hsl;refine eX (by rw [execOp,ho]) (v:= .bool s) (w':=w) ?_ ⟨β,lb true s,σ.m,hf.sat,ai.refl _ _ _,.v (.one .bool),hk⟩
          simp only [hu,hv];rw [Sem.run_bind,iG (by intros;simp) (by simp)]
          exact oa hs he (by intros;simp) (by intros;simp) (by intros;simp) (by intros;simp)
         rcases hr.2.2 with ⟨hz,hn,q',rfl⟩|⟨hz,k,hk,rfl⟩
         ·cases q' with
          |none=>exact fin hp (eqq fun d=>by simp [Op.equalIn,run_underlying ht]) ⟨_,_,_,rfl⟩ (hn1 hz)
          |some q'=>exact fin hq (eqq fun d=>by simp [Op.equalIn,run_underlying ht]) ⟨_,_,_,rfl⟩ hn2
         ·exact fin hq (eqq fun d=>by simp [Op.equalIn,run_underlying ht]) ⟨_,_,_,rfl⟩ hn2
   ·exact h.elim
  ·exact h.elim
 ·exact h.elim
theorem pB(w:World)(l:Nat)(o:Obj):tS w l (w.putObj l o):=⟨fun k _ hk=>World.putObj_heap_other hk,by simp,rfl,rfl,rfl⟩
theorem tK {w:World} {l:Nat} {o o':Obj}(h:w.heap[l]? =some o'):(w.putObj l o).heap[l]? =some o:=World.putObj_heap_same (Array.getElem?_eq_some_iff.1 h).1
section
variable {P:Program} {w:World} {β:Nm}
theorem ll {r:Nat} {o o':Obj}(h:w.heap[r]? =some o)(hc: ∀c e f,o≠ .cells c e f):(setObj r o').run P w= .ok () (w.putObj r o'):=by
 cases o<;>first|exact absurd rfl (hc _ _ _)|simp [setObj,Sem.run,h,World.putObj]
theorem Lz {A:Type} {p:A→Bool}: ∀ {l:List A} {i j:Nat} {a:A},LG p l i=some (j,a)→i≤j∧l[j-i]? =some a∧p a=true
 | [],_,_,_,h=>by cases h
 |b::l,i,j,a,h=>by
  unfold LG at h;split at h
  ·rename_i hb;cases h;exact ⟨Nat.le_refl _,by simp,hb⟩
  ·obtain ⟨h1,h2,h3⟩:=Lz h;refine ⟨by omega,?_,h3⟩
   rw [show j-i=(j-(i+1))+1 by omega,List.getElem?_cons_succ]
   exact h2
theorem Bg {kk:IntKind} {ks:List Kd}(h:kOk kk ks=true):ks= [.int kk]:=by
 unfold kOk at h;split at h
 ·rw [of_decide_eq_true h]
 ·cases h
theorem wZ {q kk:IntKind} {vs:List Kd} {va:Bool} {k:Int}: ∀ (es:ca [.int kk] vs) (i:Nat),Instr.findNow (.int q) (.int kk k) (es.map (e8 [.int kk] false vs va)) i=some ((LG (fun e=>Vi [.int kk] k e.1) es i).map fun e=>(e.1,vS va vs e.2.2.1))
 | [],i=>rfl
 |e::es,i=>by
  rw [List.map_cons,Instr.findNow];have e1:Instr.sameNow (.int q) (.int kk k) (e8 [.int kk] false vs va e).key=some (k==e.1.1):=by
   show (if kk=kk then some (k==e.1.1) else none)=_;rw [if_pos rfl]
  rw [e1];unfold LG;by_cases h:k=e.1.1
  ·have e2:(k==e.1.1)=true:=by simpa using h
   have e3:Vi [.int kk] k e.1=true:=by show decide (k=e.1.1)=true;simpa using h
   rw [e2,e3];rfl
  ·have e2:(k==e.1.1)=false:=by simpa using h
   have e3:Vi [.int kk] k e.1=false:=by show decide (k=e.1.1)=false;simpa using h
   rw [e2,e3];exact wZ es (i+1)
theorem iH {kt:TypeId} {kk:IntKind}(hk:P.underlying kt=some (.int kk)) {vs:List Kd} {va:Bool} {k:Int}(es:ca [.int kk] vs):(Instr.findKey kt (.int kk k) (es.map (e8 [.int kk] false vs va))).run P w= .ok ((LG (fun e=>Vi [.int kk] k e.1) es 0).map fun e=>(e.1,vS va vs e.2.2.1)) w:=by
 unfold Instr.findKey;rw [Sem.run_bind,run_underlying hk];simp only [Result.andThen_ok];rw [wZ];rfl
theorem gg {kt:TypeId} {kk:IntKind}(hk:P.underlying kt=some (.int kk))(em:Bool)(k:Int):(Instr.checkKey em 10000 kt (.int kk k)).run P w= .ok () w:=by
 show (Instr.checkKey em (9999+1) kt (.int kk k)).run P w= .ok () w;unfold Instr.checkKey;rw [Sem.run_bind,run_underlying hk];rfl
theorem vM {a:Bool} {sh:List Kd} {r:Row sh} {v:Vv}(h:Ii a sh r=some v)(ho:aP β sh r):bC β v (vS a sh r):=by
 unfold Ii at h;split at h
 ·cases h;exact .agg (eo ho)
 ·split at h
  ·rename_i l hl;cases h;have:=eo (β:=β) ho;rw [hl] at this;obtain ⟨u,us,e,h1,h2⟩:=this.cons_inv;rw [h2.aI] at e;unfold vS;rw [e];exact .one h1
  ·cases h
theorem Tq {a:Bool} {sh:List Kd} {s:SV} {r:Row sh} {v:Value}(h:a2P a sh s=some r)(k:Has β s v):v=vS a sh r∧aP β sh r:=by
 unfold a2P at h;split at h
 ·split at h
  ·cases k with
   |v k=>cases k with
    |agg k=>
     obtain ⟨h1,h2⟩:=my h k;exact ⟨by unfold vS;rw [h1],h2⟩
  ·cases h
 ·split at h
  ·cases h
  ·split at h
   ·cases k with
    |v k=>cases k with
     |one k=>
      obtain ⟨h1,h2⟩:=my h (.cons k .nil);exact ⟨by unfold vS;rw [←h1];rfl,h2⟩
   ·cases h
 ·cases h
theorem Kw {t:TypeId} {z:Vv}(h:Ls P t=some z): ∃v,(zeroValue t).run P w= .ok v w∧bC β z v:=by
 unfold Ls at h;split at h
 ·rename_i i hi;split at h
  ·rename_i u hu;split at h
   ·rename_i x hx;cases h;have:=pZ (β:=β) hx;cases this with
    |v this=>exact ⟨u,by simp [zeroValue,typeInfo,hi,hu],this⟩
   ·cases h
  ·cases h
 ·cases h
theorem wj {m:Mem} {t:TypeId} {s:SV} {y:Nat} {kk:IntKind} {et:TypeId}(h:Vd P m t s=some (y,kk,et)):s= .v (.one (.mp y))∧ ∃kt,P.underlying t=some (.map kt et)∧P.underlying kt=some (.int kk):=by
 unfold Vd at h;split at h
 ·split at h
  ·rename_i kt et' hu;split at h
   ·rename_i kk' hk;cases h;exact ⟨rfl,kt,hu,hk⟩
   ·cases h
  ·cases h
 ·cases h
theorem v9 {y:Nat} {v:Value}(h:Has β (.v (.one (.mp y))) v): ∃b,β y=some b∧v= .map (some b):=by
 cases h with
 |v h=>cases h with
  |one h=>cases h with
   |mp h=>exact ⟨_,h,rfl⟩
theorem Fm {kk:IntKind} {kn:Bool} {n:Int} {v:Value}(h:Has β (.v (.one (.int kk kn n))) v):v= .int kk n:=by
 cases h with
 |v h=>cases h with
  |one h=>cases h;rfl
theorem YW {x o:Nat} {v:Value}(h:Has β (.v (.one (.ptr x o))) v): ∃b,β x=some b∧v= .pointer (some ⟨b,o,none⟩):=by
 cases h with
 |v h=>cases h with
  |one h=>cases h with
   |ptr h=>exact ⟨_,h,rfl⟩
theorem Sat.Sm {β:Nm} {m:Mem} {w:World}(h:Sat β m w) {sh:List Kd} {v:Value} {xs:List (Row sh)}(hi:kr β m w sh v xs)(hb:xs= []∨ ∀b o n c,v= .slice (some ⟨b,o,none⟩) n c→imb β b): ∃γ:Nm,γ.im sh v xs∧Sat γ m w∧ai m β w m γ w:=by
 let γ:Nm:=⟨β.nm,fun sh' u ys=>β.g sh' u ys∨ ∃e:sh'=sh,u=v∧eA e ys=xs⟩
 have hle:β.le γ:=⟨fun _ _ e=>e,fun _ _ _ e=> .inl e⟩;have up: ∀sh' u ys,kr β m w sh' u ys→kr γ m w sh' u ys:=fun sh' u ys k=>k.mU hle (fun _ _ _=>rfl) fun y b _ hy e=>⟨y,hy,e⟩;refine ⟨γ,.inl (.inr ⟨rfl,rfl,rfl⟩),⟨fun x b hb=>(h.dz x b hb).imp id fun ⟨a,ha,hB⟩=>⟨a,ha,hB.mono hle⟩,h.inj,h.CC,h.gl,h.ng,fun sh' u ys e=>?_⟩,⟨hle,fun _ _=>rfl,Nat.le_refl _,fun q x h k=>absurd (Al k) (by omega),fun _ _ _ h=>h,rfl,rfl,rfl,Nat.le_refl _,fun _ _ _=>rfl,fun sh' u ys e=>?_⟩⟩
 ·rcases e with e|⟨rfl,rfl,e⟩
  ·exact up _ _ _ (h.im _ _ _ e)
  ·rw [dN] at e;subst e;exact up _ _ _ hi
 ·rcases e with e|⟨rfl,rfl,e⟩
  ·exact .inl e
  ·rw [dN] at e;subst e;rcases hb with hb|hb
   ·exact .inr (.inl hb)
   ·exact .inr (.inr fun b o n c hv=> .inr (.inr (hb b o n c hv)))
end
set_option maxHeartbeats 2000000 in
theorem W1 {bs:Nat} {C:Ctx}(hC:C.Ok) {σ:St} {o:Oper} {F:(SV→Mem→Prop)→Prop} {K:SV→Mem→Prop} {β:Nm} {a:Act} {w:World}(h:lX C σ o=some F)(hF:F K)(hf:Fit bs σ β a w):tI C.P o a w (cS σ β w K):=by
 have hE:=hf.env;have bind_ok: ∀ {sm:Sem Value} {r:Value} {w':World},execOp a.eval o=(do let x ←sm;pure (.value x))→sm.run C.P w= .ok r w'→cS σ β w K r w'→tI C.P o a w (cS σ β w K):=fun h1 h2 h3=>eX h1 h2 h3
 have jd: ∀ {y:Nat} {b:Nat} {b0 b1:bG} {ob:Obj},σ.m[y]? =some (some b0)→b0.rw→β y=some b→w.heap[b]? =some ob→ ∀o',cw β b1 (some o')→K (.cz []) (σ.m.set y (some b1))→cS σ β w K (.tuple #[]) (w.putObj b o'):=by
  intro y b b0 b1 ob hy hrw hb hob o' hB hk;have ht:=pB w b o';exact ⟨β,_,_,hf.sat.jd hy hrw hb ht (by rw [tK hob];exact hB),cV hy hrw hb ht,.cz .nil,hk⟩
 unfold lX at h;split at h
 ·rename_i t ho;split at h
  ·rename_i kt et hu;split at h
   ·rename_i ks vs ka va h1 h2 h3 h4;cases h;have hB:cw (β.set σ.m.length w.heap.size) (.map ks ka vs va [] 0) (some (.map #[] 0)):=⟨rfl,fun e he=>by cases he⟩
    refine bind_ok (sm:=Instr.makeMap t none) (r:= .map (some w.heap.size)) (w':=w.alloc (.map #[] 0)) (by rw [execOp,ho];rfl) ?_ ⟨_,_,_,iu hf.sat hB,er hf.sat _ _,.v (.one (.mp (by simp [Nm.set]))),hF⟩
    simp [Instr.makeMap]
   ·cases h
  ·cases h
 ·rename_i t x i ok ho;split at h
  ·rename_i av kk kn k hx hi;split at h
   ·rename_i y kk' et hq;split at h
    ·rename_i ks ka vs va es clk hmm;split at h
     ·rename_i z hg hz;cases h;simp only [Bool.and_eq_true,Bool.not_eq_true',decide_eq_true_eq] at hg;obtain ⟨rfl,hks,rfl⟩:=hg;have hks:=Bg hks;subst hks;obtain ⟨rfl,kt,hu,hk⟩:=wj hq;obtain ⟨b,hb,hbv⟩:=v9 (bh hf.tm hx);have hiv:=Fm (bh hf.tm hi);obtain ⟨b',hb',hob,hro⟩:=hf.sat.live (aH hmm) id;rw [hb] at hb';cases hb';obtain ⟨zv,hzr,hzv⟩:=Kw (P:=C.P) (w:=w) (β:=β) hz;have e1:(getObj b).run C.P w= .ok (.map ⟨es.map (e8 [.int kk] false vs va)⟩ clk) w:=by simp [getObj,Sem.run,hob]
      have fin: ∀ (v:Value) (bo:Bool) (u:Vv),bC β u v→lkK ok σ.m K u bo→(execOp a.eval o).run C.P w= .ok (.value (if ok then .tuple #[v,.bool bo] else v)) w→tI C.P o a w (cS σ β w K):=by
       intro v bo u hu hk hr;refine eU hr ?_;cases ok with
       |true=>exact ⟨β,_,_,hf.sat,ai.refl _ _ _,.cz (.cons hu (.cons (.one .bool) .nil)),hk⟩
       |false=>exact ⟨β,_,_,hf.sat,ai.refl _ _ _,.v hu,hk⟩
      obtain ⟨hF1,hF2⟩:=hF;unfold p9 at hF1 hF2;cases hm:LG (fun e=>Vi [.int kk] k e.1) es 0 with
      |none=>
       rw [hm] at hF2;refine fin zv false z hzv (hF2 rfl) ?_;rw [execOp,ho];simp only [hbv,hiv,Instr.lookup,Sem.run_bind,run_underlying hu,Result.andThen_ok,e1,gg hk,iH hk,hm,Option.map_none,hzr,Sem.run_pure]
      |some p=>
       obtain ⟨j,e⟩:=p;rw [hm] at hF1;have hF1:=hF1 _ rfl;split at hF1
       ·rename_i u hu;have hmem:e∈es:=List.mem_of_getElem? (Lz hm).2.1;refine fin _ true u (vM hu (hro e hmem)) hF1 ?_;rw [execOp,ho];simp only [hbv,hiv,Instr.lookup,Sem.run_bind,run_underlying ‹C.P.underlying t=_›,Result.andThen_ok,e1,gg hk,iH hk,hm,Option.map_some,Sem.run_pure]
       ·exact hF1.elim
     ·cases h
    ·cases h
   ·cases h
  ·cases h
 ·rename_i t x i v ho;split at h
  ·rename_i av kk kn k u hx hi hv;split at h
   ·rename_i y kk' et hq;split at h
    ·rename_i ks ka vs va es clk hmm;split at h
     ·rename_i r hg hr;cases h;simp only [Bool.and_eq_true,Bool.not_eq_true',decide_eq_true_eq] at hg;obtain ⟨rfl,hks,rfl⟩:=hg;have hks:=Bg hks;subst hks;obtain ⟨rfl,kt,hu,hk⟩:=wj hq;obtain ⟨b,hb,hbv⟩:=v9 (bh hf.tm hx);have hiv:=Fm (bh hf.tm hi);obtain ⟨hvv,hvo⟩:=Tq hr (bh hf.tm hv);obtain ⟨b',hb',hob,hro⟩:=hf.sat.live (aH hmm) id;rw [hb] at hb';cases hb';have hbn: ∀c e f,(Obj.map ⟨es.map (e8 [.int kk] false vs va)⟩ clk)≠ .cells c e f:=fun _ _ _ e=>by cases e
      have e1:(getObj b).run C.P w= .ok (.map ⟨es.map (e8 [.int kk] false vs va)⟩ clk) w:=by simp [getObj,Sem.run,hob]
      have hnew: ∀ (en:Array MapEntry) (c:Nat),en=⟨(kC es k r clk).1.map (e8 [.int kk] false vs va)⟩→c=(kC es k r clk).2→(∀e∈(kC es k r clk).1,aP β vs e.2.1)→
        (Instr.mapUpdate t (a.eval x) (a.eval i) (a.eval v)).run C.P w= .ok () (w.putObj b (.map en c))→tI C.P o a w (cS σ β w K):=by
       rintro en c rfl rfl hall hrun;have hB:cw β (.map [.int kk] false vs va (kC es k r clk).1 (kC es k r clk).2) (some (.map ⟨(kC es k r clk).1.map (e8 [.int kk] false vs va)⟩ (kC es k r clk).2)):=⟨rfl,hall⟩;refine uw (w':=w.putObj b (.map _ _)) ?_ (jd (aH hmm) trivial hb hob _ hB hF);rw [execOp,ho];simp only [Sem.run_bind,hrun,Result.andThen_ok];rfl
      have pre: ∀ {R:Result Unit},Sem.run C.P (match (LG (fun e=>Vi [.int kk] k e.1) es 0).map (fun e=>(e.1,vS va vs e.2.2.1)) with
        |some (i,_)=>do
         let key ←Instr.keyThatStays ((((⟨es.map (e8 [.int kk] false vs va)⟩:Array MapEntry)[i]?).map (·.key)).getD (.int kk k)) (.int kk k)
         setObj b (.map ((⟨es.map (e8 [.int kk] false vs va)⟩:Array MapEntry).modify i fun e=> {e with key,val:=a.eval v}) clk)
        |none=>setObj b (.map ((⟨es.map (e8 [.int kk] false vs va)⟩:Array MapEntry).push {key:= .int kk k,val:=a.eval v,born:=clk}) (clk+1))) w=R→
        (Instr.mapUpdate t (a.eval x) (a.eval i) (a.eval v)).run C.P w=R:=by
       intro R hR;simp only [hbv,hiv,Instr.mapUpdate,Sem.run_bind,run_underlying hu,Result.andThen_ok,e1,gg hk,iH hk];exact hR
      cases hm:LG (fun e=>Vi [.int kk] k e.1) es 0 with
      |none=>
       have e2:kC es k r clk=(es++ [(a2C [.int kk] k,r,clk)],clk+1):=by unfold kC;rw [hm]
       refine hnew ((⟨es.map (e8 [.int kk] false vs va)⟩:Array MapEntry).push {key:= .int kk k,val:=vS va vs r,born:=clk}) (clk+1) ?_ (by rw [e2]) ?_ (pre ?_)
       ·rw [e2];simp [e8,a2C,vS,bA,Kd.val]
       ·rw [e2];intro e he;rcases List.mem_append.1 he with he|he
        ·exact hro e he
        ·rw [List.mem_singleton.1 he];exact hvo
       ·rw [hm,hvv];exact ll hob hbn
      |some p=>
       obtain ⟨j,e⟩:=p;obtain ⟨_,hj,hke⟩:=Lz hm;have e2:kC es k r clk=(es.modify j fun e=>(e.1,r,e.2.2),clk):=by unfold kC;rw [hm]
       have e3:k=e.1.1:=of_decide_eq_true hke;have e4:(e8 [.int kk] false vs va e).key= .int kk k:=by rw [e3];rfl
       refine hnew ((⟨es.map (e8 [.int kk] false vs va)⟩:Array MapEntry).modify j fun e=> {e with key:= .int kk k,val:=vS va vs r}) clk ?_ (by rw [e2]) ?_ (pre ?_)
       ·rw [e2];apply Array.ext';rw [Array.toList_modify];show (es.map (e8 [.int kk] false vs va)).modify j _=(es.modify j _).map _;apply List.ext_getElem?;intro q;rw [List.getElem?_modify,List.getElem?_map,List.getElem?_map,List.getElem?_modify];by_cases hq:j=q
        ·subst hq;have:es[j]? =some e:=by simpa using hj
         simp [this,e8,←e4]
        ·simp [hq]
       ·rw [e2];intro e' he;obtain ⟨q,hq⟩:=List.mem_iff_getElem?.1 he;rw [List.getElem?_modify] at hq;cases hes:es[q]? with
        |none=>rw [hes] at hq;simp at hq
        |some e0=>
         rw [hes] at hq;by_cases hjq:j=q
         ·simp [hjq] at hq;rw [←hq];exact hvo
         ·simp [hjq] at hq;rw [←hq];exact hro e0 (List.mem_of_getElem? hes)
       ·rw [hm,hvv];have e5:(⟨es.map (e8 [.int kk] false vs va)⟩:Array MapEntry)[j]? =some (e8 [.int kk] false vs va e):=by
         have:es[j]? =some e:=by simpa using hj
         simp [this]
        simp only [Option.map_some,e5,Option.getD_some,e4,Instr.keyThatStays];have e6:Instr.sameBits 10000 (.int kk k) (.int kk k)=true:=by
         show (kk==kk&&k==k)=true;simp
        rw [if_pos e6];simp only [Sem.run_bind,Sem.run_pure,Result.andThen_ok];exact ll hob hbn
     ·cases h
    ·cases h
   ·cases h
  ·cases h
 ·rename_i t x lo hi ho;split at h
  ·rename_i e hu;split at h
   ·rename_i sh v xs l hh n hx hl hhi hn;split at h
    ·rename_i hb;have:=Nat.eq_of_beq_eq_true hb;subst this;have hxv:=bh hf.tm hx;generalize hq:a.eval x=q at hxv;cases hxv with
     |v hxv=>cases hxv with
      |one hxv=>cases hxv with
       |gv him hone=>
        have key: ∀ (a0 h0:Nat) (vl vh:Option Value),BV 0 l vl a0→BV xs.length hh vh h0→vl=lo.map a.eval→vh=hi.map a.eval→a0≤h0→h0≤xs.length→K (.v (.one (.gv sh (qb v sh.length a0 h0) ((xs.drop a0).take (h0-a0))))) σ.m→tI C.P o a w (cS σ β w K):=by
         rintro a0 h0 vl vh hva hvh rfl rfl hle hlx hk;have gen: ∀ (qa:Option Addr) (c:Nat),v= .slice qa xs.length c→xs.length≤c→(Instr.sliceAt t (a.eval x) (lo.map a.eval) (hi.map a.eval) none).run C.P w= .ok (qb v sh.length a0 h0) w:=by
          rintro qa c rfl hc;rw [hq];exact bQ hu hn (cZ (m:=c) (BH.none (v:=none) trivial c) hvh hva hle (by omega) (Nat.le_refl _) (fun _=>rfl))
         have fin: ∀γ:Nm,γ.im sh (qb v sh.length a0 h0) ((xs.drop a0).take (h0-a0))→(qb v sh.length a0 h0).oneCell'=true→Sat γ σ.m w→ai σ.m β w σ.m γ w→(∃qa c,v= .slice qa xs.length c∧xs.length≤c)→tI C.P o a w (cS σ β w K):=by
          rintro γ h1 h2 h3 h4 ⟨qa,c,h5,h6⟩;exact bind_ok (by rw [execOp,ho];rfl) (gen qa c h5 h6) ⟨γ,_,_,h3,h4,.v (.one (.gv h1 h2)),hk⟩
         have hlen:((xs.drop a0).take (h0-a0)).length=h0-a0:=by simp;omega
         rcases him with him|⟨rfl,rfl⟩
         ·obtain ⟨hro,c,hc,h1⟩:=hf.sat.im _ _ _ him;rcases h1 with ⟨rfl,qa,rfl⟩|⟨b,base,vs,t',fz,rfl,hob,hR,hno⟩
          ·simp at hlx;subst hlx;have:a0=0:=by omega
           subst this;have hA:kr β σ.m w sh (qb (.slice qa 0 c) sh.length 0 0) ((([]:List (Row sh)).drop 0).take (0-0)):=⟨.nil,c,Nat.zero_le _,.inl ⟨rfl,(if c=0 then qa else qa.map (·.add (0*sh.length))),rfl⟩⟩
           obtain ⟨γ,g1,g2,g3⟩:=hf.sat.Sm hA (.inl rfl);exact fin γ g1 rfl g2 g3 ⟨qa,c,rfl,hc⟩
          ·by_cases h00:h0=a0
           ·subst h00;have hnil:(xs.drop h0).take (h0-h0)= []:=by simp
            have hA:kr β σ.m w sh (qb (.slice (some ⟨b,base,none⟩) xs.length c) sh.length h0 h0) ((xs.drop h0).take (h0-h0)):=by
             rw [hnil];exact ⟨.nil,c-h0,Nat.zero_le _,.inl ⟨rfl,(if c=h0 then some ⟨b,base,none⟩ else Option.map (fun x:Addr=>x.add (h0*sh.length)) (some (⟨b,base,none⟩:Addr))),by simp only [qb,Nat.sub_self]⟩⟩
            obtain ⟨γ,g1,g2,g3⟩:=hf.sat.Sm hA (.inl hnil);exact fin γ g1 rfl g2 g3 ⟨_,c,rfl,hc⟩
           ·have hca:c≠a0:=by omega
            have hsl:qb (.slice (some ⟨b,base,none⟩) xs.length c) sh.length a0 h0= .slice (some ⟨b,base+a0*sh.length,none⟩) ((xs.drop a0).take (h0-a0)).length (c-a0):=by
             simp only [qb,if_neg hca,Option.map_some,hlen,aO]
            have hR':dT sh ((xs.drop a0).take (h0-a0)) (base+a0*sh.length) ((xs.drop a0).take (h0-a0)).length vs:=by
             rw [dT.iff] at hR ⊢;obtain ⟨r1,r2,r3⟩:=hR;have hm1:h0*sh.length≤xs.length*sh.length:=Nat.mul_le_mul_right _ hlx;have hm2:a0*sh.length+(h0-a0)*sh.length=h0*sh.length:=by rw [←Nat.add_mul];congr 1;omega
             refine ⟨Nat.le_refl _,by rw [hlen];omega,fun i r hi j hj=>?_⟩
             rw [List.getElem?_take] at hi;split at hi
             ·rw [List.getElem?_drop] at hi;have:=r3 (a0+i) r hi j hj;rw [←this]
              congr 1
              rw [Nat.add_mul];omega
             ·cases hi
            have hA:kr β σ.m w sh (qb (.slice (some ⟨b,base,none⟩) xs.length c) sh.length a0 h0) ((xs.drop a0).take (h0-a0)):=by
             rw [hsl];exact ⟨(hro.drop _).take _,c-a0,by rw [hlen];omega,.inr ⟨b,base+a0*sh.length,vs,t',fz,rfl,hob,hR',hno⟩⟩
            have hxne:xs≠ []:=by rintro rfl;simp at hlx;omega
            obtain ⟨γ,g1,g2,g3⟩:=hf.sat.Sm hA (.inr fun b' o' n' c' e=>by
             rw [hsl] at e;cases e;exact ⟨sh,_,xs,base,xs.length,c,him,hxne,rfl⟩)
            exact fin γ g1 (by rw [hsl];rfl) g2 g3 ⟨_,c,rfl,hc⟩
         ·simp at hlx;subst hlx;have:a0=0:=by omega
          subst this;have e0:qb (.slice none 0 0) sh.length 0 0= .slice none 0 0:=by simp [qb]
          exact fin β (.inr ⟨e0,rfl⟩) (by rw [e0];rfl) hf.sat (ai.refl _ _ _) ⟨none,0,rfl,Nat.le_refl _⟩
        split at h
        ·rename_i kn a0;cases h;obtain ⟨⟨q1,q2⟩,hk⟩:=hF;have e1:(xs.drop a0.toNat).take (xs.length-a0.toNat)=xs.drop a0.toNat:=List.take_of_length_le (by simp)
         refine key a0.toNat xs.length _ _ ((dW hE hl).bv q1 0) (BH.none (dW hE hhi) _) rfl rfl (by omega) (Nat.le_refl _) ?_
         rw [e1];exact hk
        ·rename_i kn b0;cases h;obtain ⟨⟨q1,q2⟩,hk⟩:=hF;refine key 0 b0.toNat _ _ (BH.none (dW hE hl) 0) ((dW hE hhi).bv q1 _) rfl rfl (Nat.zero_le _) (by omega) ?_
         rw [List.drop_zero,Nat.sub_zero];exact hk
        ·cases h
    ·cases h
   ·cases h
  ·cases h
 ·rename_i sr d x ho;split at h
  ·rename_i e hs hd;split at h
   ·rename_i he;split at h
    ·rename_i l hl;cases h;obtain ⟨s',hs',hl⟩:=Option.bind_eq_some_iff.1 hl;have hxv:=dq hl (bh hf.tm hs');have hrun:=Lib.run_convert_string_bytes w sr d e ⟨⟨l⟩⟩ hs hd he;have e1:(⟨⟨l⟩⟩:ByteArray).size=l.length:=rfl;have hc:l.length≤grownCap w l.length 0 e:=by
      exact grownCap_ge w _ _ e
     rw [e1] at hrun;have hcs:(Lib.bytesCells w e ⟨⟨l⟩⟩).toList=(l.map fun b=>Value.int .u8 (b.toNat:Int))++List.replicate (grownCap w l.length 0 e-l.length) (.int .u8 0):=by
      simp [Lib.bytesCells,e1]
     have hw:Lib.bytesWorld w e ⟨⟨l⟩⟩=w.drew.alloc (.cells (Lib.bytesCells w e ⟨⟨l⟩⟩) e ((Lib.bytesCells w e ⟨⟨l⟩⟩).size,(Lib.bytesCells w e ⟨⟨l⟩⟩).size+1)):=by
      have hh:(Lib.bytesWorld w e ⟨⟨l⟩⟩).heap=(w.drew.alloc (.cells (Lib.bytesCells w e ⟨⟨l⟩⟩) e ((Lib.bytesCells w e ⟨⟨l⟩⟩).size,(Lib.bytesCells w e ⟨⟨l⟩⟩).size+1))).heap:=by
       apply Array.ext_getElem?;intro i;by_cases h1:i<w.heap.size
       ·rw [Lib.bytesWorld_at_old w e _ i h1,Below.heap_alloc _ _ _ (by simpa using h1)]
        rfl
       ·by_cases h2:i=w.heap.size
        ·subst h2;rw [Lib.bytesWorld_at_new];exact (heap_alloc_new w.drew _).symm
        ·rw [Array.getElem?_eq_none (by rw [Lib.bytesWorld_size];omega),Array.getElem?_eq_none (by simp [World.alloc];omega)]
      have wext: ∀a b:World,a.heap=b.heap→a.tape=b.tape→a.drawn=b.drawn→a.os=b.os→a.output=b.output→a=b:=by
       rintro ⟨⟩ ⟨⟩ h1 h2 h3 h4 h5;cases h1;cases h2;cases h3;cases h4;cases h5;rfl
      exact wext _ _ hh rfl rfl rfl rfl
     have hs':Sat β σ.m w.drew:=hf.sat.ext (Ext.drew (Ext.refl w));have flat: ∀l:List UInt8,(l.map UI).flatMap (bA [.int .u8])=l.map fun b=>Value.int .u8 (b.toNat:Int):=by
      intro l
      induction l with
      |nil=>rfl
      |cons a l ih=>rw [List.map_cons,List.flatMap_cons,ih];rfl
     have hB:cw (β.set σ.m.length w.heap.size) (.rows true false [.int .u8] (l.map UI) 0 l.length e) (some (.cells (Lib.bytesCells w e ⟨⟨l⟩⟩) e ((Lib.bytesCells w e ⟨⟨l⟩⟩).size,(Lib.bytesCells w e ⟨⟨l⟩⟩).size+1))):=by
      refine ⟨rfl,(Lib.bytesCells w e ⟨⟨l⟩⟩).toList,_,e,rfl,fun e=>(by cases e),⟨by simp,by rw [hcs];simp,?_⟩,fun r _=>mT rfl⟩
      rw [hcs,flat];simp
     refine bind_ok (sm:=convert sr d (a.eval x)) (by rw [execOp,ho]) (by rw [hxv];exact hrun) ?_
     rw [hw];refine ⟨_,_,_,iu hs' hB,ai.trans hf.sat (ai.ext' (Ext.drew (Ext.refl w))) (er hs' _ _),?_,hF _ hc⟩;exact .v (.one (.rs ⟨fun _=>rfl,hc,.inr ⟨rfl,w.heap.size,by simp [Nm.set],by simp⟩⟩))
    ·cases h
   ·cases h
  ·cases h
 ·rename_i t x ho;split at h
  ·rename_i y hx;split at h
   ·rename_i kt et ks ka vs va es clk hu hmm;cases h;obtain ⟨b,hb,hbv⟩:=v9 (bh hf.tm hx);obtain ⟨b',hb',hob,hro⟩:=hf.sat.live (aH hmm) id;rw [hb] at hb';cases hb';have hylt:=hf.sat.CC _ _ hb;have hB:cw (β.set σ.m.length w.heap.size) (.it y clk [] clk) (some (.mapIter (some b) clk #[] clk)):=⟨b,by rw [Nm.pW,if_neg (by omega)];exact hb,rfl⟩
    refine bind_ok (sm:=Instr.range t (a.eval x)) (r:= .pointer (some ⟨w.heap.size,0,none⟩)) (w':=w.alloc (.mapIter (some b) clk #[] clk)) (by rw [execOp,ho]) ?_ ⟨_,_,_,iu hf.sat hB,er hf.sat _ _,.v (.one (.ptr (by simp [Nm.set]))),hF⟩
    have e1:(getObj b).run C.P w= .ok (.map ⟨es.map (e8 ks ka vs va)⟩ clk) w:=by simp [getObj,Sem.run,hob]
    simp [Instr.range,run_underlying hu,hbv,e1]
   ·cases h
  ·cases h
 ·rename_i i ho;split at h
  ·rename_i z hi;split at h
   ·rename_i y since seen last hmz;split at h
    ·rename_i ks ka vs va es clk hmm;split at h
     ·cases h
     rename_i hpl;cases h;obtain ⟨⟨hF1,hF0⟩,hF2,hF3⟩:=hF;obtain ⟨bz,hbz,hiv⟩:=YW (bh hf.tm hi);obtain ⟨bz',hbz',bm,hbm,hoz⟩:=hf.sat.live (aH hmz) id;rw [hbz] at hbz';cases hbz';obtain ⟨bm',hbm',hob,hro⟩:=hf.sat.live (aH hmm) id;rw [hbm] at hbm';cases hbm';have hleft:(leftOf ⟨es.map (e8 ks ka vs va)⟩ ⟨seen⟩).toList=(es.filter fun e=> !seen.contains e.2.2).map (e8 ks ka vs va):=by
      unfold leftOf;rw [Array.toList_filter,List.filter_map]
      congr 1
      apply List.filter_congr;intro e _;simp [e8];rfl
     rcases run_next_at (P:=C.P) w o.type bz bm since last ⟨seen⟩ ⟨es.map (e8 ks ka vs va)⟩ clk hoz hob (by
      intro x hx;obtain ⟨e,he,rfl⟩:=List.mem_map.1 hx;have:=List.all_eq_true.1 hF1 e he;exact of_decide_eq_true this) hF0 with ⟨h0,hrun⟩|⟨e,he,w1,hw1,hrun⟩
     ·have hnil:(es.filter fun e=> !seen.contains e.2.2)= []:=by
       have h1:(leftOf ⟨es.map (e8 ks ka vs va)⟩ ⟨seen⟩).toList= []:=List.eq_nil_of_length_eq_zero (by simpa using h0)
       rw [hleft] at h1;exact List.map_eq_nil_iff.1 h1
      exact bind_ok (by rw [execOp,ho]) (by rw [hiv];exact hrun) ⟨β,_,_,hf.sat,ai.refl _ _ _,.cz (.cons (.one .bool) .nil),hF2 hnil⟩
     ·rw [hleft] at he;obtain ⟨e0,he0,rfl⟩:=List.mem_map.1 he;have hF3:=hF3 e0 he0;split at hF3
      ·rename_i kv vv hkv hvv;have hmem:=(List.mem_filter.1 he0).1;have hs1:Sat β σ.m w1:=by
        rcases hw1 with rfl|rfl
        ·exact hf.sat
        ·exact hf.sat.ext (Ext.drew (Ext.refl w))
       have hsi1:ai σ.m β w σ.m β w1:=by
        rcases hw1 with rfl|rfl
        ·exact ai.refl _ _ _
        ·exact ai.ext' (Ext.drew (Ext.refl w))
       have hoz1:w1.heap[bz]? =some (.mapIter (some bm) since ⟨seen⟩ last):=by rcases hw1 with rfl|rfl<;>exact hoz
       have ht:=pB w1 bz (.mapIter (some bm) since ⟨seen++ [e0.2.2]⟩ clk);have hrun':(Instr.next (a.eval i) false o.type).run C.P w= .ok (.tuple #[.bool true,(e8 ks ka vs va e0).key,(e8 ks ka vs va e0).val]) (w1.putObj bz (.mapIter (some bm) since ⟨seen++ [e0.2.2]⟩ clk)):=by
        rw [hiv,hrun]
        congr 1
        show ({w1 with heap:=_}:World)=_;have e5:(⟨seen⟩:Array Nat).push (e8 ks ka vs va e0).born=⟨seen++ [e0.2.2]⟩:=by simp [e8]
        rw [e5];rfl
       refine bind_ok (by rw [execOp,ho]) hrun' ⟨β,_,_,hs1.jd (aH hmz) trivial hbz ht (by rw [tK hoz1];exact ⟨bm,hbm,rfl⟩),ai.trans hf.sat hsi1 (cV (aH hmz) trivial hbz ht),.cz (.cons (.one .bool) (.cons (vM hkv (mT hpl)) (.cons (vM hvv (hro e0 hmem)) .nil))),hF3⟩
      ·exact hF3.elim
    ·cases h
   ·cases h
  ·cases h
 ·rename_i c ho;split at h
  ·rename_i r n hcl;split at h
   ·rename_i t x off us hr hus;split at h
    ·rename_i f hmq;have hrv:=bh hf.tm hr;have hif: ∃b,β x=some b∧a.eval r= .iface t (.pointer (some ⟨b,off,none⟩)):=by
      generalize a.eval r=q at hrv;cases hrv with
      |v hrv=>cases hrv with
       |one hrv=>cases hrv with
        |xW hb=>exact ⟨_,hb,rfl⟩
     obtain ⟨b,hb,hrv'⟩:=hif;have hargs:ae (Has β) (.v (.one (.ptr x off))::us) (.pointer (some ⟨b,off,none⟩)::c.args.toList.map a.eval):= .cons (.v (.one (.ptr hb))) (c9 (g:=a.eval) (fun x s e=>bh hf.tm e) hus);have hcall:gb C.P f→(execOp a.eval o).run C.P w= .ok (.enter f ⟨.pointer (some ⟨b,off,none⟩)::c.args.toList.map a.eval⟩) w:=by
      intro hcl';rw [execOp,ho];have e1: ∃k,C.P.types.size+Made.depth=k+1:=⟨C.P.types.size+Made.depth-1,by simp [Made.depth]⟩
      obtain ⟨k,hk⟩:=e1;have e2:(#[a.eval r]++c.args.map a.eval).extract 1 (#[a.eval r]++c.args.map a.eval).size=c.args.map a.eval:=by
       apply Array.ext';simp;rw [List.take_of_length_le (by simp)]
      have e3: #[Value.pointer (some ⟨b,off,none⟩)]++c.args.map a.eval=⟨.pointer (some ⟨b,off,none⟩)::c.args.toList.map a.eval⟩:=by apply Array.ext';simp
      have e4:(#[a.eval r]++c.args.map a.eval)[0]? =some (a.eval r):=by
       rw [Array.getElem?_append_left (by simp)]
       rfl
      simp only [resolve,hcl,Sem.run_bind,Sem.run_pure,Result.andThen_ok,invoke,e4,e2];rw [hrv'];simp only [callMethod,Sem.run_bind,run_program,Result.andThen_ok,hk,KH hmq];rw [e3];exact dH hcl'
     split at h
     ·rename_i mc hmc;cases h;obtain ⟨hcl',hsound⟩:=hC.Δ f mc (ma hmc);refine kd (hcall hcl') ((hsound β _ _ _ w K hF hargs hf.sat).mono ?_);rintro e w' ⟨β',v,m',r,h1,h2,rfl,h3,h4⟩;exact ⟨r,rfl,β',v,m',h1,h2,h3,h4⟩
     ·split at h
      ·rename_i hh hI;cases h;obtain ⟨hcl',hsound⟩:=hC.I hh hI f _ _ K hF;refine kd (hcall hcl') ((hsound β _ w hf.sat hargs).mono ?_);rintro e w' ⟨β',v,m',r,h1,h2,rfl,h3,h4⟩;exact ⟨r,rfl,β',v,m',h1,h2,h3,h4⟩
      ·cases h
    ·cases h
   ·cases h
  ·rename_i bi hcl;split at h
   ·rename_i us t hus ht;have hargs:=c9 (g:=a.eval) (fun x s e=>bh hf.tm e) hus;have hlen:=hargs.length;have run: ∀ {sm:Sem Value} {r:Value} {w':World},(∀cs,builtin bi c.argTypes o.type cs ⟨c.args.toList.map a.eval⟩=(do let x ←sm;pure (.value x)))→sm.run C.P w= .ok r w'→cS σ β w K r w'→tI C.P o a w (cS σ β w K):=fun h1 h2 h3=>lp ho hcl h1 h2 h3
    split at h
    ·rename_i y hus1;split at h
     ·rename_i kt et ks ka vs va es clk hu hmm;cases h;obtain ⟨v,vs',hv,h1,h2⟩:=hargs.cons_inv;rw [h2.aI] at hv;obtain ⟨b,hb,rfl⟩:=v9 h1;obtain ⟨b',hb',hob,hro⟩:=hf.sat.live (aH hmm) id;rw [hb] at hb';cases hb';have e1:(getObj b).run C.P w= .ok (.map ⟨es.map (e8 ks ka vs va)⟩ clk) w:=by simp [getObj,Sem.run,hob]
      refine run (sm:=Builtin.len_ c.argTypes o.type #[.map (some b)]) (r:= .int .i64 (es.length:Int)) (w':=w) (fun cs=>by rw [hv];rfl) ?_ ⟨β,_,_,hf.sat,ai.refl _ _ _,.v (.one .int),hF⟩
      simp [Builtin.len_,ht,run_underlying hu,e1]
      try rfl
     ·cases h
    ·rename_i y hus1;split at h
     ·rename_i kt et ks ka vs va es clk hu hmm;cases h;obtain ⟨v,vs',hv,h1,h2⟩:=hargs.cons_inv;rw [h2.aI] at hv;obtain ⟨b,hb,rfl⟩:=v9 h1;obtain ⟨b',hb',hob,hro⟩:=hf.sat.live (aH hmm) id;rw [hb] at hb';cases hb';have e1:(getObj b).run C.P w= .ok (.map ⟨es.map (e8 ks ka vs va)⟩ clk) w:=by simp [getObj,Sem.run,hob]
      have hB:cw β (.map ks ka vs va [] clk) (some (.map #[] clk)):=⟨rfl,fun e he=>by cases he⟩
      refine run (sm:=Builtin.clear_ c.argTypes o.type #[.map (some b)]) (r:= .tuple #[]) (w':=w.putObj b (.map #[] clk)) (fun cs=>by rw [hv];rfl) ?_ (jd (aH hmm) trivial hb hob _ hB hF)
      have e2:=ll (P:=C.P) (o':= .map #[] clk) hob (fun _ _ _ e=>by cases e)
      simp [Builtin.clear_,ht,run_underlying hu,e1,e2]
     ·cases h
    ·rename_i av kk kn k;split at h
     ·rename_i y kk' et hq;split at h
      ·rename_i ks ka vs va es clk hmm;split at h
       ·rename_i hg;cases h;simp only [Bool.and_eq_true,Bool.not_eq_true',decide_eq_true_eq] at hg;obtain ⟨rfl,hks,rfl⟩:=hg;have hks:=Bg hks;subst hks;obtain ⟨rfl,kt,hu,hk⟩:=wj hq;obtain ⟨v,vs',hv,h1,h2⟩:=hargs.cons_inv;obtain ⟨v2,vs2,rfl,h3,h4⟩:=h2.cons_inv;rw [h4.aI] at hv;obtain ⟨b,hb,rfl⟩:=v9 h1;have:=Fm h3;subst this;obtain ⟨b',hb',hob,hro⟩:=hf.sat.live (aH hmm) id;rw [hb] at hb';cases hb';have e1:(getObj b).run C.P w= .ok (.map ⟨es.map (e8 [.int kk] false vs va)⟩ clk) w:=by simp [getObj,Sem.run,hob]
        have hB:cw β (.map [.int kk] false vs va (nW es k) clk) (some (.map ⟨(nW es k).map (e8 [.int kk] false vs va)⟩ clk)):=by
         refine ⟨rfl,fun e he=>hro e ?_⟩;unfold nW at he;split at he
         ·exact List.mem_of_mem_eraseIdx he
         ·exact he
        refine run (sm:=Builtin.delete_ c.argTypes o.type #[.map (some b),.int kk k]) (r:= .tuple #[]) (w':=w.putObj b _) (fun cs=>by rw [hv];rfl) ?_ (jd (aH hmm) trivial hb hob _ hB hF)
        have e2:=fun o'=>ll (P:=C.P) (o':=o') hob (fun _ _ _ e=>by cases e)
        cases hm:LG (fun e=>Vi [.int kk] k e.1) es 0 with
        |none=>
         have e3:nW es k=es:=by unfold nW;rw [hm]
         simp [Builtin.delete_,ht,run_underlying hu,e1,gg hk,iH hk,hm,e2,e3]
        |some p=>
         obtain ⟨j,e⟩:=p;have e3:nW es k=es.eraseIdx j:=by unfold nW;rw [hm]
         have e4:(es.map (e8 [.int kk] false vs va)).eraseIdx j=(es.eraseIdx j).map (e8 [.int kk] false vs va):=by
          apply List.ext_getElem?;intro q;rw [List.getElem?_eraseIdx,List.getElem?_map,List.getElem?_map,List.getElem?_map,List.getElem?_eraseIdx];split<;>rfl
         simp [Builtin.delete_,ht,run_underlying hu,e1,gg hk,iH hk,hm,e2,e3,e4]
       ·cases h
      ·cases h
     ·cases h
    ·cases h
   ·cases h
  ·cases h
 ·cases h
theorem LN {bs:Nat} {C:Ctx}(hC:C.Ok) {σ:St} {o:Oper} {K:SV→Mem→Prop} {β:Nm} {a:Act} {w:World}(h:a2n C σ o K)(hf:Fit bs σ β a w)(hY:KC C β):tI C.P o a w (cS σ β w K):=by
 unfold a2n at h;split at h
 ·rename_i t x y ho;split at h
  ·rename_i xs ys hx hy;split at h
   ·rename_i m' hm;unfold stQ at hm;have hxv:=bh hf.tm hx;have hyv:=bh hf.tm hy;split at hm
    ·rename_i b off u;split at hm
     ·rename_i l e hmm;split at hm
      ·rename_i n hn;split at hm
       ·rename_i hd;cases hm;simp only [Bool.and_eq_true,decide_eq_true_eq] at hd;obtain ⟨d1,d2⟩:=hd;have hmb:σ.m[b]? =some (some (.cells l e)):=by
         unfold bP at hmm;split at hmm
         ·cases hmm;assumption
         ·cases hmm
        obtain ⟨B,hB,us,hob,hus⟩:=hf.sat.cells hmb;cases hyv with
        |v hyv=>
         obtain ⟨vs,hvc,hvs⟩:=hyv.cells;have l1:=hvs.length;have l2:=hus.length;have hone: ∀v∈vs,v.oneCell'=true:=by
          intro v hv;obtain ⟨i,hi,rfl⟩:=List.mem_iff_getElem.1 hv;obtain ⟨q,hq,hqv⟩:=hvs.get' (List.getElem?_eq_getElem hi);exact hqv.kT
         obtain ⟨w',hr,hp⟩:=cL (P:=C.P) (b:=B) (off:=off) (e:=e) vs 0 us w hob hone (by omega)
         have hav:a.eval x= .pointer (some ⟨B,off,none⟩):=by
          cases hxv with
          |v hxv=>cases hxv with
           |one hxv=>generalize a.eval x=q at hxv ⊢;cases hxv;rename_i h1;rw [hB] at h1;cases h1;rfl
         have hnew:ae (aq β) (gm l off u.cells) (us.take (off+0)++(vs++us.drop (off+0+vs.length))):=by
          unfold gm;rw [←l1];exact (hus.take _).append (hvs.append (hus.drop _))
         refine uw (w':=w') ?_ ⟨β,.cz [],_,hf.sat.put hmb hB hp hnew,DV hmb hB hp,.cz .nil,h⟩;rw [execOp,ho];simp only [hav,Instr.storeAt,Instr.sureAddr,storeVar,Sem.run_bind,Sem.run_pure,Result.andThen_ok,ao hn,hvc,List.size_toArray];rw [if_neg (by simp;omega)]
         rw [hr];rfl
       ·cases hm
      ·cases hm
     ·cases hm
    ·cases hm
   ·split at h
    ·rename_i q m' hm;exact R1 ho hm h.1 h.2 hf (bh hf.tm hx) (bh hf.tm hy)
    ·exact h.elim
  ·exact h.elim
 ·rename_i c ho;split at h
  ·rename_i f hfc;split at h
   ·rename_i id caps hcl;split at h
    ·rename_i us hus;split at h
     ·rename_i mc hmc;obtain ⟨hcall,hsound⟩:=hC.Δ id mc (ma hmc);have hfh:=bh hf.tm hcl;generalize hq:a.eval f=q at hfh;cases hfh with
      |lO hcaps=>
       rename_i vs;have hargs:=(c9 (g:=a.eval) (fun x s e=>bh hf.tm e) hus).append (pE hcaps);refine kd (f:=id) (args:=⟨c.args.toList.map a.eval++vs⟩) ?_ ((hsound β _ _ _ w K h hargs hf.sat).mono ?_)
       ·rw [execOp,ho];have e1:(c.args.map a.eval)=⟨c.args.toList.map a.eval⟩:=by apply Array.ext';simp
        simp only [resolve,hfc,hq,Deferred.ofValue,Sem.run_bind,Sem.run_pure,Result.andThen_ok,invoke,e1];rw [dH hcall];simp
       ·rintro e w' ⟨β',v,m',r,h1,h2,rfl,h3,h4⟩;exact ⟨r,rfl,β',v,m',h1,h2,h3,h4⟩
     ·split at h
      ·rename_i hmc bc hbc;unfold bcQ at h;split at h
       ·rename_i y rest hus2;split at h
        ·rename_i l t hmm;split at h
         ·rename_i p s new hbcq;split at h
          ·obtain ⟨hp,hk⟩:=ic h;obtain ⟨hcall,hsound⟩:=hC.B id bc (ma hbc);have hfh:=bh hf.tm hcl;generalize hq:a.eval f=q at hfh;cases hfh with
           |lO hcaps=>
            rename_i vs;have hargs:=(c9 (g:=a.eval) (fun x s e=>bh hf.tm e) hus).append (pE hcaps);rw [hus2] at hargs;obtain ⟨v0,vals,hvals,hv0,hrest⟩:=hargs.cons_inv;obtain ⟨B,hB,us',hob,hus'⟩:=hf.sat.cells (aH hmm);have hv0':v0= .pointer (some ⟨B,0,none⟩):=by
             cases hv0 with
             |v hv0=>cases hv0 with
              |one hv0=>cases hv0 with
               |ptr e=>rw [hB] at e;cases e;rfl
            subst hv0';have hcc:Calls C.P id ⟨c.args.toList.map a.eval++vs⟩ w (fun e w'=> ∃r,e= .returned r∧cS σ β w K r w'):=by
             rw [hvals];refine (hsound β rest vals l t p s new w B us' hf.sat.gl (hf.sat.ng _ _ ⟨_,aH hmm,trivial⟩ hB) hbcq hp hrest hob hus').mono ?_;rintro e w' ⟨r,us2,rfl,hr,hnew,hhere,hturn⟩;exact ⟨r,rfl,β,s,_,hf.sat.jd (b1:= .cells new t) (aH hmm) trivial hB hturn ⟨us2,hhere,hnew⟩,cV (aH hmm) trivial hB hturn,hr,hk⟩
            refine kd (f:=id) (args:=⟨c.args.toList.map a.eval++vs⟩) ?_ hcc;rw [execOp,ho];have e1:(c.args.map a.eval)=⟨c.args.toList.map a.eval⟩:=by apply Array.ext';simp
            simp only [resolve,hfc,hq,Deferred.ofValue,Sem.run_bind,Sem.run_pure,Result.andThen_ok,invoke,e1];rw [dH hcall];simp
          ·exact h.elim
         ·exact h.elim
        ·exact h.elim
       ·exact h.elim
      ·split at h
       ·rename_i hI hIe;obtain ⟨hcall,hsound⟩:=hC.I hI hIe _ _ _ _ h;have hfh:=bh hf.tm hcl;generalize hq:a.eval f=q at hfh;cases hfh with
        |lO hcaps=>
         rename_i vs;have hargs:=(c9 (g:=a.eval) (fun x s e=>bh hf.tm e) hus).append (pE hcaps);refine kd (f:=id) (args:=⟨c.args.toList.map a.eval++vs⟩) ?_ ((hsound β _ w hf.sat hargs).mono ?_)
         ·rw [execOp,ho];have e1:(c.args.map a.eval)=⟨c.args.toList.map a.eval⟩:=by apply Array.ext';simp
          simp only [resolve,hfc,hq,Deferred.ofValue,Sem.run_bind,Sem.run_pure,Result.andThen_ok,invoke,e1];rw [dH hcall];simp
         ·rintro e w' ⟨β',v,m',r,h1,h2,rfl,h3,h4⟩;exact ⟨r,rfl,β',v,m',h1,h2,h3,h4⟩
       ·exact h.elim
    ·exact h.elim
   ·rename_i v hv;split at h
    ·rename_i y hy;split at h
     ·rename_i us hus;have hargs:=c9 (g:=a.eval) (fun x s e=>bh hf.tm e) hus;obtain ⟨l,fn,tmps,assign,body,rfl,hrun,hround⟩:=hY y hy β (Nm.le_refl β) _ us σ.m K _ w h hf.sat hargs;have hev:a.eval f= .func (.yield l) #[] #[]:=by
       have hh:=bh hf.tm hv;cases hh with
       |v hh=>cases hh with
        |one hh=>generalize a.eval f=q at hh ⊢;cases hh;rfl
      intro F n hF next Q hn;refine Fk hF (x:= .round l fn tmps assign body) (w':=w) ?_ (fun d e=>by cases e) ?_
      ·rw [execOp,ho];have e1:(c.args.map a.eval)=⟨c.args.toList.map a.eval⟩:=by apply Array.ext';simp
       simp only [resolve,hfc,hev,Deferred.ofValue,Sem.run_bind,Sem.run_pure,Result.andThen_ok,invoke,e1];simpa using hrun
      ·refine ⟨fun e=>hF.depth e,(hround F (n-1) hF).mono ?_⟩;rintro e w' ⟨γ',s,m',r,rfl,h1,h2,h3,h4⟩;exact hn _ _ ⟨γ',s,m',h1,h2,h3,h4⟩
     ·exact h.elim
    ·exact h.elim
   ·exact h.elim
  ·rename_i b hfc;split at h
   ·rename_i us hus;have hargs:=c9 (g:=a.eval) (fun x s e=>bh hf.tm e) hus;split at h
    ·exact KY ho hfc h hf hargs
    ·exact LR ho hfc h hf hargs
    ·exact h.elim
   ·exact h.elim
  ·exact h.elim
 ·rename_i op t x y yt ho;exact OP ho h hf
 ·exact h.elim
theorem PL {bs:Nat} {C:Ctx}(hC:C.Ok) {σ:St} {o:Oper} {K:SV→Mem→Prop} {β:Nm} {a:Act} {w:World}(h:lOp C σ o K)(hf:Fit bs σ β a w)(hY:KC C β):tI C.P o a w (cS σ β w K):=by
 unfold lOp at h;split at h
 ·rename_i F hF;exact W1 hC hF h hf
 ·exact LN hC h hf hY
theorem Ou {bs:Nat} {C:Ctx}(hC:C.Ok) {σ:St} {o:Oper} {K:SV→Mem→Prop} {β:Nm} {a:Act} {w:World}(h:xOp C σ o K)(hf:Fit bs σ β a w)(hY:KC C β):tI C.P o a w (cS σ β w K):=by
 unfold xOp at h;split at h
 ·rename_i len n i hsp;obtain ⟨hr,hk⟩:=h;have hq:=Hw (M:=C.M) (Γ:=C.Γ) (nm:=σ.m.length) hsp;refine (qN hC.Γ hq hr hf.env hf.sat.fresh).mono ?_;rintro r w' ⟨hs,hx⟩;have:=vO hk (j:=i.toNat) (by omega) (by omega)
  exact ⟨β,_,σ.m,hf.sat.ext hx,ai.ext' hx,hs,this⟩
 split at h
 ·rename_i p s hq;obtain ⟨hp,hk⟩:=ic h;refine (qN hC.Γ hq hp hf.env hf.sat.fresh).mono ?_;rintro r w' ⟨hs,hx⟩;exact ⟨β,s,σ.m,hf.sat.ext hx,ai.ext' hx,hs,hk⟩
 ·rename_i p s b hq;obtain ⟨hp,hk⟩:=ic h;refine (qN hC.Γ hq hp hf.env hf.sat.fresh).mono ?_;rintro r w' ⟨obj,rfl,hB,hs⟩;exact ⟨_,s,_,iu hf.sat hB,er hf.sat b obj,hs,hk⟩
 ·exact PL hC h hf hY
end Go.Proofs.YtfdmjoddhjmokaaGreatDoor.Rex
