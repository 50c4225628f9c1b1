/- Part of the proof of WholeDesync (see the last text). Conditions: none. Own work; printed by programs of mine. -/
import Derived.Test.YtfdmjoddhjmokaaGreatDoorP2
import Derived.Test.YtfdmjoddhjmokaaGreatDoorChecked
namespace Go.Proofs.YtfdmjoddhjmokaaGreatDoor.Rex
open Go.RowKit
set_option linter.unusedVariables false
set_option linter.unusedSimpArgs false
inductive Lc where
 |int (k:IntKind) (n:Int)
 |bool (q:Bool)
 |aj
 |cb
def Lc.lf:Lc→Lf
 | .int k n=> .int k true n
 | .bool q=> .bool true q
 | .aj=> .aj
 | .cb=> .cb
def Ko:Lc→Lf→Option (Option Prop)
 | .int k n,l=>match l with
  | .int k' _ m=>match decide (k'=k) with
   |true=>some (some (m=n))
   |false=>none
  |_=>none
 | .bool q,l=>match l with
  | .bool _ p=>some (some (p=q))
  |_=>none
 | .aj,l=>match l with
  | .aj=>some none
  |_=>none
 | .cb,l=>match l with
  | .cb=>some none
  |_=>none
inductive Sp where
 |cl (c:Lc)
 |me (ks:List Kd) (ka:Bool) (vs:List Kd) (va:Bool)
 |int (k:IntKind)
 |bool
 |str
 |im (sh:List Kd)
 |ar (sh:List Kd) (t:TypeId)
 |sl (sh:List Kd) (t:TypeId)
 |mp (ks:List Kd) (ka:Bool) (vs:List Kd) (va:Bool)
 |pt (t:TypeId) (fs:List Sp)
mutual
@[reducible] def Sp.T:Sp→Type
 | .int _=>Int
 | .bool=>Bool
 | .cl _=>Unit
 | .str=>List UInt8
 | .im sh=>List (Row sh)
 | .ar sh _=>List (Row sh)
 | .sl sh _=>List (Row sh)
 | .mp ks _ vs _=>ca ks vs×Nat
 | .me _ _ _ _=>Nat
 | .pt _ fs=>Sp.Ts fs
@[reducible] def Sp.Ts:List Sp→Type
 | []=>Unit
 |s::l=>s.T×Sp.Ts l
end
mutual
@[reducible] def Sp.H:Sp→Type
 | .int _=>Unit
 | .bool=>Unit
 | .cl _=>Unit
 | .str=>Unit
 | .im _=>Value
 | .ar _ _=>Unit
 | .sl _ _=>Bool×Nat
 | .mp _ _ _ _=>Unit
 | .me _ _ _ _=>Unit
 | .pt _ fs=>Sp.Hs fs
@[reducible] def Sp.Hs:List Sp→Type
 | []=>Unit
 |s::l=>s.H×Sp.Hs l
end
mutual
def Sp.cP:Sp→Nat
 | .int _=>0
 | .bool=>0
 | .cl _=>0
 | .str=>0
 | .im _=>0
 | .ar _ _=>1
 | .sl _ _=>1
 | .mp _ _ _ _=>1
 | .me _ _ _ _=>1
 | .pt _ fs=>Sp.bS fs+1
def Sp.bS:List Sp→Nat
 | []=>0
 |s::l=>s.cP+Sp.bS l
end
mutual
def Sp.mv:Sp→Nat
 | .int _=>0
 | .bool=>0
 | .cl _=>0
 | .str=>0
 | .im _=>0
 | .ar _ _=>0
 | .sl _ _=>1
 | .mp _ _ _ _=>0
 | .me _ _ _ _=>0
 | .pt _ fs=>Sp.Kg fs
def Sp.Kg:List Sp→Nat
 | []=>0
 |s::l=>s.mv+Sp.Kg l
end
mutual
def Sd(ap:Bool):(s:Sp)→s.T→s.H→Nat→Nat→Lf
 | .int k,x,_,_,_=> .int k false x
 | .bool,x,_,_,_=> .bool false x
 | .cl c,_,_,_,_=>c.lf
 | .str,x,_,_,_=> .op (dc x)
 | .im sh,x,h,_,_=> .gv sh h x
 | .ar sh _,x,_,b,_=> .rs false 0 b 0 sh.length 0 x.length x.length
 | .sl sh _,x,h,b,q=>match ap with
  |false=> .rs h.1 0 b 0 sh.length 0 x.length h.2
  |true=> .rs h.1 0 q 0 sh.length 0 x.length h.2
 | .mp _ _ _ _,_,_,b,_=> .mp b
 | .me _ _ _ _,_,_,b,_=> .mp b
 | .pt _ _,_,_,b,_=> .ptr b 0
def pI(ap:Bool):(fs:List Sp)→Sp.Ts fs→Sp.Hs fs→Nat→Nat→List Lf
 | [],_,_,_,_=> []
 |s::l,x,h,b,q=>Sd ap s x.1 h.1 b q::pI ap l x.2 h.2 (b+s.cP) (q+s.mv)
end
mutual
def oG(ap:Bool):(s:Sp)→s.T→s.H→Nat→Nat→Mem
 | .int _,_,_,_,_=> []
 | .bool,_,_,_,_=> []
 | .cl _,_,_,_,_=> []
 | .str,_,_,_,_=> []
 | .im _,_,_,_,_=> []
 | .ar sh t,x,_,_,_=> [some (.rows false false sh x 0 x.length t)]
 | .sl sh t,x,h,_,_=>match ap with
  |false=> [some (.rows false h.1 sh x 0 h.2 t)]
  |true=> [none]
 | .mp ks ka vs va,x,_,_,_=> [some (.map ks ka vs va x.1 x.2)]
 | .me ks ka vs va,x,_,_,_=> [some (.map ks ka vs va [] x)]
 | .pt t fs,x,h,b,q=>some (.cells (pI ap fs x h (b+1) q) t)::aW ap fs x h (b+1) q
def aW(ap:Bool):(fs:List Sp)→Sp.Ts fs→Sp.Hs fs→Nat→Nat→Mem
 | [],_,_,_,_=> []
 |s::l,x,h,b,q=>oG ap s x.1 h.1 b q++aW ap l x.2 h.2 (b+s.cP) (q+s.mv)
end
mutual
def apT:(s:Sp)→s.T→s.H→Mem
 | .int _,_,_=> []
 | .bool,_,_=> []
 | .cl _,_,_=> []
 | .str,_,_=> []
 | .im _,_,_=> []
 | .ar _ _,_,_=> []
 | .sl sh t,x,h=> [some (.rows false h.1 sh x 0 h.2 t)]
 | .mp _ _ _ _,_,_=> []
 | .me _ _ _ _,_,_=> []
 | .pt _ fs,x,h=>I8 fs x h
def I8:(fs:List Sp)→Sp.Ts fs→Sp.Hs fs→Mem
 | [],_,_=> []
 |s::l,x,h=>apT s x.1 h.1++I8 l x.2 h.2
end
def KB:Option Prop→Option Prop→Option Prop
 |none,q=>q
 |some p,none=>some p
 |some p,some q=>some (p∧q)
theorem eK {p q:Option Prop}(h:ob (KB p q)):ob p∧ob q:=by
 cases p<;>cases q<;>first|exact ⟨trivial,h⟩|exact ⟨h,trivial⟩|exact h
mutual
def dec(mm:Nat→Option bG)(d:Nat):(s:Sp)→Lf→Nat→Option (Option Prop×s.T×s.H×List Nat)
 | .int k,l,_=>match l with
  | .int k' _ n=>match decide (k'=k) with
   |true=>some (none,n,(),[])
   |false=>none
  |_=>none
 | .bool,l,_=>match l with
  | .bool _ q=>some (none,q,(),[])
  |_=>none
 | .cl c,l,_=>match Ko c l with
  |some p=>some (p,(),(),[])
  |none=>none
 | .str,l,_=>match l with
  | .op v=>match v with
   | .string b=>some (none,b.data.toList,(),[])
   |_=>none
  |_=>none
 | .im sh,l,_=>match l with
  | .gv sh' v xs=>match iM sh' sh with
   |some ⟨h⟩=>some (none,eA h xs,v,[])
   |none=>none
  | .aj=>some (none,[],.slice none 0 0,[])
  |_=>none
 | .ar sh t,l,_=>match l with
  | .rs z tg y base sz o n c=>match mm y with
   |some (.rows ro z' sh' xs base' tot t')=>match z,z',ro,iM sh' sh with
    |false,false,false,some ⟨h⟩=>match Nat.beq tg 0&&(Nat.beq base 0&&(Nat.beq base' 0&&(Nat.beq o 0&&(Nat.beq sz sh.length&&Nat.beq t' t)))) with
     |true=>some (some (n=xs.length∧c=xs.length∧tot=xs.length),eA h xs,(),[y])
     |false=>none
    |_,_,_,_=>none
   |_=>none
  |_=>none
 | .sl sh t,l,b=>match l with
  | .rs z tg y base sz o n c=>match mm y with
   |some (.rows ro z' sh' xs base' tot t')=>match ro,iM sh' sh with
    |false,some ⟨h⟩=>match Nat.beq base 0&&(Nat.beq base' 0&&(Nat.beq o 0&&(Nat.beq sz sh.length&&Nat.beq t' t))) with
     |true=>match tg with
      |0=>some (some (n=xs.length∧z'=z∧tot=c∧(z=true→c=0)),eA h xs,(z,c),[y])
      |_=>some (some (n≤xs.length∧z'=z∧tot=c∧(z=true→c=0)),(eA h xs).take n,(z,c),[y])
     |false=>none
    |_,_=>none
   |_=>none
  | .aj=>some (none,[],(true,0),[d+b])
  |_=>none
 | .mp ks ka vs va,l,_=>match l with
  | .mp y=>match mm y with
   |some (.map ks' ka' vs' va' es clk)=>match iM ks' ks,iM vs' vs,Rq ka' ka&&Rq va' va with
    |some ⟨h⟩,some ⟨h'⟩,true=>some (none,(Im h h' es,clk),(),[y])
    |_,_,_=>none
   |_=>none
  |_=>none
 | .me ks ka vs va,l,_=>match l with
  | .mp y=>match mm y with
   |some (.map ks' ka' vs' va' es clk)=>match iM ks' ks,iM vs' vs,Rq ka' ka&&Rq va' va with
    |some ⟨h⟩,some ⟨h'⟩,true=>some (some (Im h h' es= []),clk,(),[y])
    |_,_,_=>none
   |_=>none
  |_=>none
 | .pt t fs,l,b=>match l with
  | .ptr y o=>match mm y with
   |some (.cells ls t')=>match Nat.beq o 0&&Nat.beq t' t with
    |true=>match tJ mm d fs ls (b+1) with
     |some (p,x,h,ns)=>some (p,x,h,y::ns)
     |none=>none
    |false=>none
   |_=>none
  |_=>none
def tJ(mm:Nat→Option bG)(d:Nat):(fs:List Sp)→List Lf→Nat→Option (Option Prop×Sp.Ts fs×Sp.Hs fs×List Nat)
 | [],ls,_=>match ls with
  | []=>some (none,(),(),[])
  |_=>none
 |s::l,ls,b=>match ls with
  |a::ls=>match dec mm d s a b with
   |some (p,x,h,ns)=>match tJ mm d l ls (b+s.cP) with
    |some (p',x',h',ns')=>some (KB p p',(x,x'),(h,h'),ns++ns')
    |none=>none
   |none=>none
  | []=>none
end
mutual
def FQ(ap:Bool)(ρ:Rn):Sp→List Nat→Nat→Nat→Prop
 | .int _,_,_,_=>True
 | .bool,_,_,_=>True
 | .cl _,_,_,_=>True
 | .str,_,_,_=>True
 | .im _,_,_,_=>True
 | .ar _ _,ns,b,_=>ρ b=ns[0]?
 | .sl _ _,ns,b,q=>match ap with
  |false=>ρ b=ns[0]?
  |true=>ρ q=ns[0]?
 | .mp _ _ _ _,ns,b,_=>ρ b=ns[0]?
 | .me _ _ _ _,ns,b,_=>ρ b=ns[0]?
 | .pt _ fs,ns,b,q=>ρ b=ns[0]? ∧rj ap ρ fs (ns.drop 1) (b+1) q
def rj(ap:Bool)(ρ:Rn):List Sp→List Nat→Nat→Nat→Prop
 | [],_,_,_=>True
 |s::l,ns,b,q=>FQ ap ρ s ns b q∧rj ap ρ l (ns.drop s.cP) (b+s.cP) (q+s.mv)
end
theorem db {ρ:Rn} {m:Mem}: ∀ {a c:Mem} {y:Nat},BU ρ m y a→BU ρ m (y+a.length) c→BU ρ m y (a++c)
 | [],c,y,_,h=>by simpa using h
 |none::a,c,y,h,k=>db (a:=a) (y:=y+1) h (by rw [show y+1+a.length=y+(none::a).length by simp;omega];exact k)
 |some x::a,c,y,h,k=>⟨h.1,db (a:=a) (y:=y+1) h.2 (by rw [show y+1+a.length=y+(some x::a).length by simp;omega];exact k)⟩
mutual
theorem ek {ap:Bool}: ∀ (s:Sp) (x:s.T) (h:s.H) (b q:Nat),(oG ap s x h b q).length=s.cP
 | .int _,_,_,_,_=>rfl
 | .bool,_,_,_,_=>rfl
 | .cl _,_,_,_,_=>rfl
 | .str,_,_,_,_=>rfl
 | .im _,_,_,_,_=>rfl
 | .ar _ _,_,_,_,_=>rfl
 | .sl _ _,_,_,_,_=>by cases ap<;>rfl
 | .mp _ _ _ _,_,_,_,_=>rfl
 | .me _ _ _ _,_,_,_,_=>rfl
 | .pt t fs,x,h,b,q=>by simp only [oG,List.length_cons,bL fs x h (b+1) q,Sp.cP]
theorem bL {ap:Bool}: ∀ (fs:List Sp) (x:Sp.Ts fs) (h:Sp.Hs fs) (b q:Nat),(aW ap fs x h b q).length=Sp.bS fs
 | [],_,_,_,_=>rfl
 |s::l,x,h,b,q=>by simp only [aW,List.length_append,ek s x.1 h.1 b q,bL l x.2 h.2 (b+s.cP) (q+s.mv),Sp.bS]
end
mutual
theorem zC: ∀ (s:Sp) (x:s.T) (h:s.H),(apT s x h).length=s.mv
 | .int _,_,_=>rfl
 | .bool,_,_=>rfl
 | .cl _,_,_=>rfl
 | .str,_,_=>rfl
 | .im _,_,_=>rfl
 | .ar _ _,_,_=>rfl
 | .sl _ _,_,_=>rfl
 | .mp _ _ _ _,_,_=>rfl
 | .me _ _ _ _,_,_=>rfl
 | .pt _ fs,x,h=>kU fs x h
theorem kU: ∀ (fs:List Sp) (x:Sp.Ts fs) (h:Sp.Hs fs),(I8 fs x h).length=Sp.Kg fs
 | [],_,_=>rfl
 |s::l,x,h=>by simp only [I8,List.length_append,zC s x.1 h.1,kU l x.2 h.2,Sp.Kg]
end
section
variable {m:Mem} {d:Nat}
mutual
theorem MY: ∀ (s:Sp) (l:Lf) (b:Nat) {p:Option Prop} {x:s.T} {h:s.H} {ns:List Nat},dec (bP m) d s l b=some (p,x,h,ns)→ns.length=s.cP
 | .int k,l,b,p,x,h,ns,e=>by
  unfold dec at e;split at e
  ·split at e<;>cases e;rfl
  ·cases e
 | .bool,l,b,p,x,h,ns,e=>by
  unfold dec at e;split at e<;>cases e;rfl
 | .cl c,l,b,p,x,h,ns,e=>by
  unfold dec at e;split at e<;>cases e;rfl
 | .str,l,b,p,x,h,ns,e=>by
  unfold dec at e;split at e
  ·split at e<;>cases e;rfl
  ·cases e
 | .im _,l,b,p,x,h,ns,e=>by
  unfold dec at e;split at e
  ·split at e<;>cases e;rfl
  ·cases e;rfl
  ·cases e
 | .ar _ _,l,b,p,x,h,ns,e=>by
  unfold dec at e;split at e
  ·split at e
   ·split at e
    ·split at e<;>cases e;rfl
    ·cases e
   ·cases e
  ·cases e
 | .sl _ _,l,b,p,x,h,ns,e=>by
  unfold dec at e;split at e
  ·split at e
   ·split at e
    ·split at e
     ·split at e<;>cases e<;>rfl
     ·cases e
    ·cases e
   ·cases e
  ·cases e;rfl
  ·cases e
 | .mp _ _ _ _,l,b,p,x,h,ns,e=>by
  unfold dec at e;split at e
  ·split at e
   ·split at e<;>cases e;rfl
   ·cases e
  ·cases e
 | .me _ _ _ _,l,b,p,x,h,ns,e=>by
  unfold dec at e;split at e
  ·split at e
   ·split at e<;>cases e;rfl
   ·cases e
  ·cases e
 | .pt t fs,l,b,p,x,h,ns,e=>by
  unfold dec at e;split at e
  ·split at e
   ·split at e
    ·split at e
     ·rename_i hd;cases e;simp only [List.length_cons,jI fs _ _ hd,Sp.cP]
     ·cases e
    ·cases e
   ·cases e
  ·cases e
theorem jI: ∀ (fs:List Sp) (ls:List Lf) (b:Nat) {p:Option Prop} {x:Sp.Ts fs} {h:Sp.Hs fs} {ns:List Nat},tJ (bP m) d fs ls b=some (p,x,h,ns)→ns.length=Sp.bS fs
 | [],ls,b,p,x,h,ns,e=>by
  unfold tJ at e;split at e<;>cases e;rfl
 |s::l,ls,b,p,x,h,ns,e=>by
  unfold tJ at e;split at e
  ·split at e
   ·rename_i h1;split at e
    ·rename_i h2;cases e;simp only [List.length_append,MY s _ _ h1,jI l _ _ h2,Sp.bS]
    ·cases e
   ·cases e
  ·cases e
end
variable {ρ:Rn}
theorem uF {x y:Nat} {p:Prop}(h:ρ y=some x)(k:p):fX ρ x y p:=by
 unfold fX;rw [h];unfold oy;simpa using k
theorem nf {b:Bool} {p:Prop}(h:b=true)(k:p):oy b p:=by subst h;exact k
theorem S8 {a b:Lf} {l m:List Lf}(h:ft ρ a b)(k:cC ρ l m):cC ρ (a::l) (b::m):=by
 cases l<;>cases m<;>first|exact h|exact ⟨h,k⟩|exact k.elim
theorem Xn {ρ:Rn} {c:Lc} {l:Lf} {p:Option Prop}(h:Ko c l=some p)(hp:ob p):ft ρ l c.lf:=by
 cases c with
 |int k n=>
  cases l with
  |int k' kn m=>
   simp only [Ko] at h;split at h
   ·rename_i hk;cases h;exact nf (by simpa using hk) hp
   ·cases h
  |_=>cases h
 |bool q=>cases l<;>first|(cases h;exact hp)|cases h
 |aj=>cases l<;>first|(cases h;exact trivial)|cases h
 |cb=>cases l<;>first|(cases h;exact trivial)|cases h
theorem NM(b:Bool):Rq b b=true:=by cases b<;>rfl
theorem Gs {y b:Nat} {z:Bool} {sh:List Kd} {xs x:List (Row sh)} {c:Nat} {t:TypeId}(hm:bP m y=some (.rows false z sh xs 0 c t))(hsh:iM sh sh=some ⟨rfl⟩)(hb:ρ b=some y)(hx:xs.take x.length=x):BU ρ m b [some (.rows false z sh x 0 c t)]:=by
 refine ⟨?_,trivial⟩;rw [hb];show WH ρ (bP m y) _;rw [hm];simp only [WH,hsh];exact nf (by simp [a3X,orT]) ⟨trivial,trivial,trivial,hx⟩
mutual
theorem Ck {ap:Bool}: ∀ (s:Sp) {ns ns':List Nat} {b q:Nat},FQ ap ρ s (ns++ns') b q→ns.length=s.cP→FQ ap ρ s ns b q
 | .int _,_,_,_,_,_,_=>trivial
 | .bool,_,_,_,_,_,_=>trivial
 | .cl _,_,_,_,_,_,_=>trivial
 | .str,_,_,_,_,_,_=>trivial
 | .im _,_,_,_,_,_,_=>trivial
 | .ar _ _,[a],_,_,_,h,_=>h
 | .sl _ _,[a],_,_,_,h,_=>h
 | .mp _ _ _ _,[a],_,_,_,h,_=>h
 | .me _ _ _ _,[a],_,_,_,h,_=>h
 | .pt _ fs,a::ns,ns',b,q,h,hl=>⟨h.1,uS fs (ns:=ns) h.2 (by simpa [Sp.cP] using hl)⟩
 | .ar _ _,[],_,_,_,_,hl=>by cases hl
 | .sl _ _,[],_,_,_,_,hl=>by cases hl
 | .mp _ _ _ _,[],_,_,_,_,hl=>by cases hl
 | .me _ _ _ _,[],_,_,_,_,hl=>by cases hl
 | .pt _ _,[],_,_,_,_,hl=>by simp [Sp.cP] at hl
 | .ar _ _,_::_::_,_,_,_,_,hl=>by simp [Sp.cP] at hl
 | .sl _ _,_::_::_,_,_,_,_,hl=>by simp [Sp.cP] at hl
 | .mp _ _ _ _,_::_::_,_,_,_,_,hl=>by simp [Sp.cP] at hl
 | .me _ _ _ _,_::_::_,_,_,_,_,hl=>by simp [Sp.cP] at hl
theorem uS {ap:Bool}: ∀ (fs:List Sp) {ns ns':List Nat} {b q:Nat},rj ap ρ fs (ns++ns') b q→ns.length=Sp.bS fs→rj ap ρ fs ns b q
 | [],_,_,_,_,_,_=>trivial
 |s::l,ns,ns',b,q,h,hl=>by
  have hl:ns.length=s.cP+Sp.bS l:=hl;have e1:ns=ns.take s.cP++ns.drop s.cP:=(List.take_append_drop _ _).symm;refine ⟨?_,uS l (ns:=ns.drop s.cP) (ns':=ns') ?_ (by simp;omega)⟩
  ·have h1:=Ck s (ns:=ns.take s.cP) (ns':=ns.drop s.cP++ns') (by rw [←List.append_assoc,←e1];exact h.1) (by simp;omega)
   exact Ed s h1 (by simp;omega) |> fun k=>by rw [e1];exact k
  ·have h2:=h.2
   rwa [List.drop_append_of_le_length (by omega)] at h2
theorem Ed {ap:Bool}: ∀ (s:Sp) {ns ns':List Nat} {b q:Nat},FQ ap ρ s ns b q→ns.length=s.cP→FQ ap ρ s (ns++ns') b q
 | .int _,_,_,_,_,_,_=>trivial
 | .bool,_,_,_,_,_,_=>trivial
 | .cl _,_,_,_,_,_,_=>trivial
 | .str,_,_,_,_,_,_=>trivial
 | .im _,_,_,_,_,_,_=>trivial
 | .ar _ _,[a],_,_,_,h,_=>h
 | .sl _ _,[a],_,_,_,h,_=>h
 | .mp _ _ _ _,[a],_,_,_,h,_=>h
 | .me _ _ _ _,[a],_,_,_,h,_=>h
 | .pt _ fs,a::ns,ns',b,q,h,hl=>⟨h.1,Ao fs (ns:=ns) h.2 (by simpa [Sp.cP] using hl)⟩
 | .ar _ _,[],_,_,_,_,hl=>by cases hl
 | .sl _ _,[],_,_,_,_,hl=>by cases hl
 | .mp _ _ _ _,[],_,_,_,_,hl=>by cases hl
 | .me _ _ _ _,[],_,_,_,_,hl=>by cases hl
 | .pt _ _,[],_,_,_,_,hl=>by simp [Sp.cP] at hl
 | .ar _ _,_::_::_,_,_,_,_,hl=>by simp [Sp.cP] at hl
 | .sl _ _,_::_::_,_,_,_,_,hl=>by simp [Sp.cP] at hl
 | .mp _ _ _ _,_::_::_,_,_,_,_,hl=>by simp [Sp.cP] at hl
 | .me _ _ _ _,_::_::_,_,_,_,_,hl=>by simp [Sp.cP] at hl
theorem Ao {ap:Bool}: ∀ (fs:List Sp) {ns ns':List Nat} {b q:Nat},rj ap ρ fs ns b q→ns.length=Sp.bS fs→rj ap ρ fs (ns++ns') b q
 | [],_,_,_,_,_,_=>trivial
 |s::l,ns,ns',b,q,h,hl=>by
  have hl:ns.length=s.cP+Sp.bS l:=hl;have e1:ns=ns.take s.cP++ns.drop s.cP:=(List.take_append_drop _ _).symm;refine ⟨?_,?_⟩
  ·have h1:=Ck s (ns:=ns.take s.cP) (ns':=ns.drop s.cP) (by rw [←e1];exact h.1) (by simp;omega)
   have h2:=Ed s (ns':=ns.drop s.cP++ns') h1 (by simp;omega)
   rwa [←List.append_assoc,←e1] at h2
  ·rw [List.drop_append_of_le_length (by omega)]
   exact Ao l h.2 (by simp;omega)
end
mutual
theorem a3K(hd:m.length≤d) {ap:Bool}: ∀ (s:Sp) (l:Lf) (b q:Nat) {p:Option Prop} {x:s.T} {h:s.H} {ns:List Nat},dec (bP m) d s l b=some (p,x,h,ns)→ob p→FQ ap ρ s ns b q→ft ρ l (Sd ap s x h b q)∧BU ρ m b (oG ap s x h b q)∧(ap=true→BU ρ m q (apT s x h))
 | .int k,l,b,q,p,x,h,ns,e,hp,hn=>by
  unfold dec at e;split at e
  ·split at e
   ·rename_i hk;have:=of_decide_eq_true hk;subst this;cases e;exact ⟨nf (by simp) rfl,trivial,fun _=>trivial⟩
   ·cases e
  ·cases e
 | .bool,l,b,q,p,x,h,ns,e,hp,hn=>by
  unfold dec at e;split at e
  ·cases e;exact ⟨rfl,trivial,fun _=>trivial⟩
  ·cases e
 | .cl c,l,b,q,p,x,h,ns,e,hp,hn=>by
  unfold dec at e;split at e
  ·rename_i hc;cases e;exact ⟨Xn hc hp,trivial,fun _=>trivial⟩
  ·cases e
 | .str,l,b,q,p,x,h,ns,e,hp,hn=>by
  unfold dec at e;split at e
  ·split at e
   ·cases e;exact ⟨rfl,trivial,fun _=>trivial⟩
   ·cases e
  ·cases e
 | .im sh,l,b,q,p,x,h,ns,e,hp,hn=>by
  unfold dec at e;split at e
  ·split at e
   ·rename_i hE hsh;subst hE;cases e;refine ⟨?_,trivial,fun _=>trivial⟩;simp only [Sd,ft,hsh];exact ⟨trivial,trivial⟩
   ·cases e
  ·cases e;refine ⟨?_,trivial,fun _=>trivial⟩;simp only [Sd,ft];exact ⟨trivial,trivial⟩
  ·cases e
 | .ar sh t,l,b,q,p,x,h,ns,e,hp,hn=>by
  unfold dec at e;split at e
  ·split at e
   ·rename_i ro z' sh' xs base' tot t' hm;split at e
    ·rename_i hE hsh;split at e
     ·rename_i hd;subst hE;cases e;simp only [Bool.and_eq_true] at hd;obtain ⟨d1,d2,d3,d4,d5,d6⟩:=hd;have d1:=Nat.eq_of_beq_eq_true d1;have d2:=Nat.eq_of_beq_eq_true d2;have d3:=Nat.eq_of_beq_eq_true d3;have d4:=Nat.eq_of_beq_eq_true d4;have d5:=Nat.eq_of_beq_eq_true d5;have d6:=Nat.eq_of_beq_eq_true d6;subst d1;subst d2;subst d3;subst d4;subst d5;subst d6;obtain ⟨rfl,rfl,rfl⟩:=hp;have hn:ρ b=some _:=hn;rw [dN];refine ⟨uF hn (nf (by simp) ⟨⟨rfl,rfl,rfl,rfl,rfl⟩,trivial⟩),Gs hm hsh hn (by simp),fun _=>trivial⟩
     ·cases e
    ·cases e
   ·cases e
  ·cases e
 | .sl sh t,l,b,q,p,x,h,ns,e,hp,hn=>by
  unfold dec at e;split at e
  ·split at e
   ·rename_i z tg y base sz o n c _ ro z' sh' xs base' tot t' hm;split at e
    ·rename_i hE hsh;split at e
     ·rename_i hd;subst hE;simp only [Bool.and_eq_true] at hd;obtain ⟨d2,d3,d4,d5,d6⟩:=hd;have d2:=Nat.eq_of_beq_eq_true d2;have d3:=Nat.eq_of_beq_eq_true d3;have d4:=Nat.eq_of_beq_eq_true d4;have d5:=Nat.eq_of_beq_eq_true d5;have d6:=Nat.eq_of_beq_eq_true d6;subst d2;subst d3;subst d4;subst d5;subst d6;have key: ∀ (x:List (Row sh')) (tg:Nat),n=x.length→z'=z→tot=c→xs.take x.length=x→FQ ap ρ (.sl sh' t') [y] b q→ft ρ (.rs z tg y 0 sh'.length 0 n c) (Sd ap (.sl sh' t') x (z,c) b q)∧BU ρ m b (oG ap (.sl sh' t') x (z,c) b q)∧(ap=true→BU ρ m q (apT (.sl sh' t') x (z,c))):=by
       rintro x tg rfl rfl rfl hx hn;have hl: ∀b',ρ b'=some y→ft ρ (.rs z' tg y 0 sh'.length 0 x.length tot) (.rs z' 0 b' 0 sh'.length 0 x.length tot):=fun b' hb'=>uF hb' (nf (by simp) ⟨⟨rfl,rfl,rfl,rfl,rfl⟩,by unfold tgP;split<;>first|trivial|rfl⟩)
       cases ap with
       |false=>
        have hn:ρ b=some y:=hn;exact ⟨hl b hn,Gs hm hsh hn hx,fun e=>by cases e⟩
       |true=>
        have hn:ρ q=some y:=hn;exact ⟨hl q hn,trivial,fun _=>Gs hm hsh hn hx⟩
      split at e
      ·cases e;obtain ⟨h1,h2,h3,_⟩:=hp;exact key xs 0 h1 h2 h3 (by simp) hn
      ·cases e;obtain ⟨h1,h2,h3,_⟩:=hp;have h1:n≤xs.length:=h1;refine key (xs.take n) _ (by simp;omega) h2 h3 (by simp) hn
     ·cases e
    ·cases e
   ·cases e
  ·cases e;have dead: ∀y,ρ y=some (d+b)→BU ρ m y [some (.rows false true sh [] 0 0 t)]:=by
    intro y hy;refine ⟨?_,trivial⟩;rw [hy];have:zn m (some (d+b))=none:=by
     show bP m (d+b)=none;unfold bP;rw [List.getElem?_eq_none (by omega)]
    rw [this];exact ⟨rfl,rfl⟩
   cases ap with
   |false=>exact ⟨⟨rfl,rfl,rfl,rfl⟩,dead b hn,fun e=>by cases e⟩
   |true=>exact ⟨⟨rfl,rfl,rfl,rfl⟩,trivial,fun _=>dead q hn⟩
  ·cases e
 | .mp ks ka vs va,l,b,q,p,x,h,ns,e,hp,hn=>by
  unfold dec at e;split at e
  ·split at e
   ·rename_i y _ ks' ka' vs' va' es clk hm;split at e
    ·rename_i hE hE' h1 h2 h3;subst hE;subst hE';cases e;rw [Bool.and_eq_true] at h3;have e1:=fw h3.1;have e2:=fw h3.2;subst e1;subst e2;have hn:ρ b=some y:=hn;refine ⟨uF hn trivial,⟨?_,trivial⟩,fun _=>trivial⟩;rw [hn];show WH ρ (bP m y) _;rw [hm];simp only [WH,h1,h2];exact nf (by simp [NM]) ⟨trivial,trivial⟩
    ·cases e
   ·cases e
  ·cases e
 | .me ks ka vs va,l,b,q,p,x,h,ns,e,hp,hn=>by
  unfold dec at e;split at e
  ·split at e
   ·rename_i y _ ks' ka' vs' va' es clk hm;split at e
    ·rename_i hE hE' h1 h2 h3;subst hE;subst hE';cases e;rw [Bool.and_eq_true] at h3;have e1:=fw h3.1;have e2:=fw h3.2;subst e1;subst e2;have hn:ρ b=some y:=hn;refine ⟨uF hn trivial,⟨?_,trivial⟩,fun _=>trivial⟩;rw [hn];show WH ρ (bP m y) _;rw [hm];simp only [WH,h1,h2];exact nf (by simp [NM]) ⟨hp,trivial⟩
    ·cases e
   ·cases e
  ·cases e
 | .pt t fs,l,b,q,p,x,h,ns,e,hp,hn=>by
  unfold dec at e;split at e
  ·split at e
   ·rename_i y o _ ls t' hm;split at e
    ·rename_i hd';rw [Bool.and_eq_true] at hd';have d1:=Nat.eq_of_beq_eq_true hd'.1;have d2:=Nat.eq_of_beq_eq_true hd'.2;subst d1;subst d2;split at e
     ·rename_i h1;cases e;obtain ⟨hn0,hn1⟩:=hn;have hn0:ρ b=some y:=hn0;obtain ⟨g1,g2,g3⟩:=qv hd (ap:=ap) fs _ (b+1) q h1 hp hn1;refine ⟨uF hn0 (nf (by simp) trivial),⟨?_,g2⟩,g3⟩
      rw [hn0];show WH ρ (bP m y) _;rw [hm];exact nf (by simp) g1
     ·cases e
    ·cases e
   ·cases e
  ·cases e
theorem qv(hd:m.length≤d) {ap:Bool}: ∀ (fs:List Sp) (ls:List Lf) (b q:Nat) {p:Option Prop} {x:Sp.Ts fs} {h:Sp.Hs fs} {ns:List Nat},tJ (bP m) d fs ls b=some (p,x,h,ns)→ob p→rj ap ρ fs ns b q→cC ρ ls (pI ap fs x h b q)∧BU ρ m b (aW ap fs x h b q)∧(ap=true→BU ρ m q (I8 fs x h))
 | [],ls,b,q,p,x,h,ns,e,hp,hn=>by
  unfold tJ at e;split at e
  ·cases e;exact ⟨trivial,trivial,fun _=>trivial⟩
  ·cases e
 |s::l,ls,b,q,p,x,h,ns,e,hp,hn=>by
  unfold tJ at e;split at e
  ·split at e
   ·rename_i h1;split at e
    ·rename_i h2;cases e;obtain ⟨hp1,hp2⟩:=eK hp;obtain ⟨hn1,hn2⟩:=hn;have l1:=MY s _ _ h1;have hn1:=Ck s hn1 l1;rw [List.drop_append_of_le_length (by omega),List.drop_of_length_le (by omega),List.nil_append] at hn2
     obtain ⟨a1,a2,a3⟩:=a3K hd (ap:=ap) s _ b q h1 hp1 hn1;obtain ⟨b1,b2,b3⟩:=qv hd (ap:=ap) l _ (b+s.cP) (q+s.mv) h2 hp2 hn2;refine ⟨S8 a1 b1,db a2 (by rw [ek];exact b2),fun e=>db (a3 e) (by rw [zC];exact b3 e)⟩
    ·cases e
   ·cases e
  ·cases e
end
end
abbrev Ap:=Bool×List Sp
@[reducible] def aZ:List Ap→Type
 | []=>Unit
 |a::l=>Sp.Ts a.2×aZ l
@[reducible] def eZ:List Ap→Type
 | []=>Unit
 |a::l=>Sp.Hs a.2×eZ l
def dj:List Ap→Nat
 | []=>0
 |a::l=>Sp.bS a.2+dj l
def Yq(ag:Bool)(ls:List Lf):Vv:=match ag with
 |true=> .agg ls
 |false=>match ls with
  | [l]=> .one l
  |_=> .agg ls
def avT:(aa:List Ap)→aZ aa→eZ aa→Nat→List Vv
 | [],_,_,_=> []
 |a::l,x,h,b=>Yq a.1 (pI false a.2 x.1 h.1 b 0)::avT l x.2 h.2 (b+Sp.bS a.2)
def W3:(aa:List Ap)→aZ aa→eZ aa→Nat→Mem
 | [],_,_,_=> []
 |a::l,x,h,b=>aW false a.2 x.1 h.1 b 0++W3 l x.2 h.2 (b+Sp.bS a.2)
def a3j(ag:Bool):Vv→Option (List Lf)
 | .agg ls=>match ag with
  |true=>some ls
  |false=>none
 | .one l=>match ag with
  |true=>none
  |false=>some [l]
def Cr(mm:Nat→Option bG)(d:Nat):(aa:List Ap)→List Vv→Nat→Option (Option Prop×aZ aa×eZ aa×List Nat)
 | [],vs,_=>match vs with
  | []=>some (none,(),(),[])
  |_=>none
 |a::l,vs,b=>match vs with
  |v::vs=>match a3j a.1 v with
   |some ls=>match tJ mm d a.2 ls b with
    |some (p,x,h,ns)=>match Cr mm d l vs (b+Sp.bS a.2) with
     |some (p',x',h',ns')=>some (KB p p',(x,x'),(h,h'),ns++ns')
     |none=>none
    |none=>none
   |none=>none
  | []=>none
def a37(ρ:Rn):List Ap→List Nat→Nat→Prop
 | [],_,_=>True
 |a::l,ns,b=>rj false ρ a.2 ns b 0∧a37 ρ l (ns.drop (Sp.bS a.2)) (b+Sp.bS a.2)
section
variable {m:Mem} {d:Nat} {ρ:Rn}
theorem rO: ∀ (aa:List Ap) (x:aZ aa) (h:eZ aa) (b:Nat),(W3 aa x h b).length=dj aa
 | [],_,_,_=>rfl
 |a::l,x,h,b=>by simp only [W3,List.length_append,bL,rO l x.2 h.2,dj]
theorem AO: ∀ (aa:List Ap) (vs:List Vv) (b:Nat) {p:Option Prop} {x:aZ aa} {h:eZ aa} {ns:List Nat},Cr (bP m) d aa vs b=some (p,x,h,ns)→ns.length=dj aa
 | [],vs,b,p,x,h,ns,e=>by
  unfold Cr at e;split at e
  ·cases e;rfl
  ·cases e
 |a::l,vs,b,p,x,h,ns,e=>by
  unfold Cr at e;split at e
  ·split at e
   ·split at e
    ·rename_i h1;split at e
     ·rename_i h2;cases e;simp only [List.length_append,jI _ _ _ h1,AO l _ _ h2,dj]
     ·cases e
    ·cases e
   ·cases e
  ·cases e
theorem Yn {a b:Vv} {l m:List Vv}(h:xn ρ a b)(k:yi ρ l m):yi ρ (a::l) (b::m):=by
 cases l<;>cases m<;>first|exact h|exact ⟨h,k⟩|exact k.elim
theorem a7F {ag:Bool} {v:Vv} {ls ls':List Lf}(h:a3j ag v=some ls)(k:cC ρ ls ls'):xn ρ v (Yq ag ls'):=by
 cases v with
 |agg l=>
  cases ag with
  |true=>cases h;exact k
  |false=>cases h
 |one l=>
  cases ag with
  |true=>cases h
  |false=>
   cases h
   match ls',k with
   | [l'],k=>exact k
   | [],k=>exact k.elim
   |_::_::_,k=>exact k.2.elim
theorem GM(hd:m.length≤d): ∀ (aa:List Ap) (vs:List Vv) (b:Nat) {p:Option Prop} {x:aZ aa} {h:eZ aa} {ns:List Nat},Cr (bP m) d aa vs b=some (p,x,h,ns)→ob p→a37 ρ aa ns b→yi ρ vs (avT aa x h b)∧BU ρ m b (W3 aa x h b)
 | [],vs,b,p,x,h,ns,e,hp,hn=>by
  unfold Cr at e;split at e
  ·cases e;exact ⟨trivial,trivial⟩
  ·cases e
 |a::l,vs,b,p,x,h,ns,e,hp,hn=>by
  unfold Cr at e;split at e
  ·split at e
   ·rename_i hls;split at e
    ·rename_i h1;split at e
     ·rename_i h2;cases e;obtain ⟨hp1,hp2⟩:=eK hp;obtain ⟨hn1,hn2⟩:=hn;have l1:=jI _ _ _ h1;have hn1:=uS _ hn1 l1;rw [List.drop_append_of_le_length (by omega),List.drop_of_length_le (by omega),List.nil_append] at hn2
      obtain ⟨a1,a2,_⟩:=qv hd (ap:=false) _ _ b 0 h1 hp1 hn1;obtain ⟨b1,b2⟩:=GM hd l _ _ h2 hp2 hn2;exact ⟨Yn (a7F hls a1) b1,db a2 (by rw [bL];exact b2)⟩
     ·cases e
    ·cases e
   ·cases e
  ·cases e
end
mutual
theorem LI {ρ:Rn}: ∀ (s:Sp) (ns:List Nat) (b q:Nat),(∀i,i<s.cP→ρ (b+i)=ns[i]?)→FQ false ρ s ns b q
 | .int _,_,_,_,_=>trivial
 | .bool,_,_,_,_=>trivial
 | .cl _,_,_,_,_=>trivial
 | .str,_,_,_,_=>trivial
 | .im _,_,_,_,_=>trivial
 | .ar _ _,ns,b,q,h=>h 0 (Nat.zero_lt_one)
 | .sl _ _,ns,b,q,h=>h 0 (Nat.zero_lt_one)
 | .mp _ _ _ _,ns,b,q,h=>h 0 (Nat.zero_lt_one)
 | .me _ _ _ _,ns,b,q,h=>h 0 (Nat.zero_lt_one)
 | .pt _ fs,ns,b,q,h=>⟨h 0 (by simp [Sp.cP]),kO fs _ _ _ fun i hi=>by rw [show b+1+i=b+(i+1) by omega,h (i+1) (by simp only [Sp.cP];omega),List.getElem?_drop];congr 1;omega⟩
theorem kO {ρ:Rn}: ∀ (fs:List Sp) (ns:List Nat) (b q:Nat),(∀i,i<Sp.bS fs→ρ (b+i)=ns[i]?)→rj false ρ fs ns b q
 | [],_,_,_,_=>trivial
 |s::l,ns,b,q,h=>⟨LI s ns b q fun i hi=>h i (by simp only [Sp.bS];omega),kO l _ _ _ fun i hi=>by rw [show b+s.cP+i=b+(s.cP+i) by omega,h (s.cP+i) (by simp only [Sp.bS];omega),List.getElem?_drop]⟩
end
theorem Fa {ρ:Rn}: ∀ (aa:List Ap) (ns:List Nat) (b:Nat),(∀i,i<dj aa→ρ (b+i)=ns[i]?)→a37 ρ aa ns b
 | [],_,_,_=>trivial
 |a::l,ns,b,h=>⟨kO _ ns b 0 fun i hi=>h i (by simp only [dj];omega),Fa l _ _ fun i hi=>by rw [show b+Sp.bS a.2+i=b+(Sp.bS a.2+i) by omega,h (Sp.bS a.2+i) (by simp only [dj];omega),List.getElem?_drop]⟩
def P2(ns:List Nat)(b:Nat):Bool:=match ns with
 |y::_=>Nat.beq y b
 | []=>false
mutual
def a2o:Sp→List Nat→Nat→Bool
 | .int _,_,_=>true
 | .bool,_,_=>true
 | .cl _,_,_=>true
 | .str,_,_=>true
 | .im _,_,_=>true
 | .ar _ _,ns,b=>P2 ns b
 | .sl _ _,_,_=>true
 | .mp _ _ _ _,ns,b=>P2 ns b
 | .me _ _ _ _,ns,b=>P2 ns b
 | .pt _ fs,ns,b=>P2 ns b&&Ex fs (ns.drop 1) (b+1)
def Ex:List Sp→List Nat→Nat→Bool
 | [],_,_=>true
 |s::l,ns,b=>a2o s ns b&&Ex l (ns.drop s.cP) (b+s.cP)
end
mutual
def mvN:Sp→List Nat→List Nat
 | .int _,_=> []
 | .bool,_=> []
 | .cl _,_=> []
 | .str,_=> []
 | .im _,_=> []
 | .ar _ _,_=> []
 | .sl _ _,ns=>ns.take 1
 | .mp _ _ _ _,_=> []
 | .me _ _ _ _,_=> []
 | .pt _ fs,ns=>D9 fs (ns.drop 1)
def D9:List Sp→List Nat→List Nat
 | [],_=> []
 |s::l,ns=>mvN s ns++D9 l (ns.drop s.cP)
end
theorem qF {ns:List Nat} {b:Nat}(h:P2 ns b=true):ns[0]? =some b:=by
 unfold P2 at h;split at h
 ·rw [Nat.eq_of_beq_eq_true h];rfl
 ·cases h
mutual
theorem Ce: ∀ (s:Sp) (ns:List Nat),s.cP≤ns.length→(mvN s ns).length=s.mv
 | .int _,_,_=>rfl
 | .bool,_,_=>rfl
 | .cl _,_,_=>rfl
 | .str,_,_=>rfl
 | .im _,_,_=>rfl
 | .ar _ _,_,_=>rfl
 | .sl _ _,ns,h=>by have h:1≤ns.length:=h;simp [mvN,Sp.mv];omega
 | .mp _ _ _ _,_,_=>rfl
 | .me _ _ _ _,_,_=>rfl
 | .pt _ fs,ns,h=>pM fs _ (by simp only [Sp.cP] at h;simp;omega)
theorem pM: ∀ (fs:List Sp) (ns:List Nat),Sp.bS fs≤ns.length→(D9 fs ns).length=Sp.Kg fs
 | [],_,_=>rfl
 |s::l,ns,h=>by
  simp only [Sp.bS] at h;simp only [D9,List.length_append,Ce s ns (by omega),pM l (ns.drop s.cP) (by simp;omega),Sp.Kg]
end
mutual
theorem Pk {ρ:Rn}: ∀ (s:Sp) (ns:List Nat) (b q:Nat),s.cP≤ns.length→a2o s ns b=true→(∀i,i<s.cP→ρ (b+i)=some (b+i))→(∀j,j<s.mv→ρ (q+j)=(mvN s ns)[j]?)→FQ true ρ s ns b q
 | .int _,_,_,_,_,_,_,_=>trivial
 | .bool,_,_,_,_,_,_,_=>trivial
 | .cl _,_,_,_,_,_,_,_=>trivial
 | .str,_,_,_,_,_,_,_=>trivial
 | .im _,_,_,_,_,_,_,_=>trivial
 | .ar _ _,ns,b,q,_,hc,h,_=>by
  show ρ b=ns[0]?;rw [qF hc];exact h 0 Nat.zero_lt_one
 | .sl _ _,ns,b,q,hl,_,_,k=>by
  show ρ q=ns[0]?;have:=k 0 Nat.zero_lt_one;rw [Nat.add_zero] at this;rw [this];have hl:1≤ns.length:=hl;simp [mvN]
 | .mp _ _ _ _,ns,b,q,_,hc,h,_=>by
  show ρ b=ns[0]?;rw [qF hc];exact h 0 Nat.zero_lt_one
 | .me _ _ _ _,ns,b,q,_,hc,h,_=>by
  show ρ b=ns[0]?;rw [qF hc];exact h 0 Nat.zero_lt_one
 | .pt _ fs,ns,b,q,hl,hc,h,k=>by
  simp only [a2o,Bool.and_eq_true] at hc;simp only [Sp.cP] at hl h;refine ⟨?_,oq fs (ns.drop 1) (b+1) q (by simp;omega) hc.2 (fun i hi=>?_) k⟩
  ·rw [qF hc.1];exact h 0 (by omega)
  ·have:=h (i+1) (by omega)
   rwa [show b+(i+1)=b+1+i by omega] at this
theorem oq {ρ:Rn}: ∀ (fs:List Sp) (ns:List Nat) (b q:Nat),Sp.bS fs≤ns.length→Ex fs ns b=true→(∀i,i<Sp.bS fs→ρ (b+i)=some (b+i))→(∀j,j<Sp.Kg fs→ρ (q+j)=(D9 fs ns)[j]?)→rj true ρ fs ns b q
 | [],_,_,_,_,_,_,_=>trivial
 |s::l,ns,b,q,hl,hc,h,k=>by
  simp only [Ex,Bool.and_eq_true] at hc;simp only [Sp.bS] at hl h;simp only [Sp.Kg] at k;have l1:=Ce s ns (by omega)
  refine ⟨Pk s ns b q (by omega) hc.1 (fun i hi=>h i (by omega)) (fun j hj=>?_),oq l (ns.drop s.cP) (b+s.cP) (q+s.mv) (by simp;omega) hc.2 (fun i hi=>?_) (fun j hj=>?_)⟩
  ·rw [k j (by omega)]
   simp only [D9];rw [List.getElem?_append_left (by omega)]
  ·have:=h (s.cP+i) (by omega)
   rwa [show b+(s.cP+i)=b+s.cP+i by omega] at this
  ·have:=k (s.mv+j) (by omega)
   simp only [D9] at this;rw [List.getElem?_append_right (by omega),l1,show s.mv+j-s.mv=j by omega] at this
   rwa [show q+(s.mv+j)=q+s.mv+j by omega] at this
end
mutual
def okH:(s:Sp)→s.H→Prop
 | .sl _ _,h=>h.1=true→h.2=0
 | .pt _ fs,h=>Uo fs h
 | .int _,_=>True
 | .bool,_=>True
 | .cl _,_=>True
 | .str,_=>True
 | .im _,_=>True
 | .ar _ _,_=>True
 | .mp _ _ _ _,_=>True
 | .me _ _ _ _,_=>True
def Uo:(fs:List Sp)→Sp.Hs fs→Prop
 | [],_=>True
 |s::l,h=>okH s h.1∧Uo l h.2
end
def okA:(aa:List Ap)→eZ aa→Prop
 | [],_=>True
 |a::l,h=>Uo a.2 h.1∧okA l h.2
section
variable {mm:Nat→Option bG} {d:Nat}
mutual
theorem a2w: ∀ (s:Sp) (l:Lf) (b:Nat) {p:Option Prop} {x:s.T} {h:s.H} {ns:List Nat},dec mm d s l b=some (p,x,h,ns)→ob p→okH s h
 | .int _,_,_,_,_,_,_,_,_=>trivial
 | .bool,_,_,_,_,_,_,_,_=>trivial
 | .cl _,_,_,_,_,_,_,_,_=>trivial
 | .str,_,_,_,_,_,_,_,_=>trivial
 | .im _,_,_,_,_,_,_,_,_=>trivial
 | .ar _ _,_,_,_,_,_,_,_,_=>trivial
 | .mp _ _ _ _,_,_,_,_,_,_,_,_=>trivial
 | .me _ _ _ _,_,_,_,_,_,_,_,_=>trivial
 | .sl _ _,l,b,p,x,h,ns,e,hp=>by
  unfold dec at e;split at e
  ·split at e
   ·split at e
    ·split at e
     ·split at e
      ·cases e;exact hp.2.2.2
      ·cases e;exact hp.2.2.2
     ·cases e
    ·cases e
   ·cases e
  ·cases e;exact fun _=>rfl
  ·cases e
 | .pt _ fs,l,b,p,x,h,ns,e,hp=>by
  unfold dec at e;split at e
  ·split at e
   ·split at e
    ·split at e
     ·rename_i h1;cases e;exact ux fs _ _ h1 hp
     ·cases e
    ·cases e
   ·cases e
  ·cases e
theorem ux: ∀ (fs:List Sp) (ls:List Lf) (b:Nat) {p:Option Prop} {x:Sp.Ts fs} {h:Sp.Hs fs} {ns:List Nat},tJ mm d fs ls b=some (p,x,h,ns)→ob p→Uo fs h
 | [],_,_,_,_,_,_,_,_=>trivial
 |s::l,ls,b,p,x,h,ns,e,hp=>by
  unfold tJ at e;split at e
  ·split at e
   ·rename_i h1;split at e
    ·rename_i h2;cases e;obtain ⟨p1,p2⟩:=eK hp;exact ⟨a2w s _ _ h1 p1,ux l _ _ h2 p2⟩
    ·cases e
   ·cases e
  ·cases e
end
theorem F6: ∀ (aa:List Ap) (vs:List Vv) (b:Nat) {p:Option Prop} {x:aZ aa} {h:eZ aa} {ns:List Nat},Cr mm d aa vs b=some (p,x,h,ns)→ob p→okA aa h
 | [],_,_,_,_,_,_,_,_=>trivial
 |a::l,vs,b,p,x,h,ns,e,hp=>by
  unfold Cr at e;split at e
  ·split at e
   ·split at e
    ·rename_i h1;split at e
     ·rename_i h2;cases e;obtain ⟨p1,p2⟩:=eK hp;exact ⟨ux _ _ _ h1 p1,F6 l _ _ h2 p2⟩
     ·cases e
    ·cases e
   ·cases e
  ·cases e
end
def abm:bG→Prop
 | .rows _ z _ xs _ tot _=>xs.length≤tot∧(z=true→xs.length=0)
 |_=>True
def fB(m:Mem):Prop:= ∀b,some b∈m→abm b
theorem qq.mem {m:Mem}(h:qq m):fB m:=by
 intro b hb;obtain ⟨i,hi⟩:=List.getElem?_of_mem hb;cases b with
 |rows ro z sh xs base tot t=>exact h i ro z sh xs base tot t hi
 |cells=>trivial
 |loop=>trivial
 |map=>trivial
 |it=>trivial
theorem fB.left {a b:Mem}(h:fB (a++b)):fB a:=fun c hc=>h c (List.mem_append_left _ hc)
theorem fB.right {a b:Mem}(h:fB (a++b)):fB b:=fun c hc=>h c (List.mem_append_right _ hc)
mutual
def fit:(s:Sp)→s.T→s.H→Prop
 | .sl _ _,x,h=>x.length≤h.2∧(h.1=true→h.2=0)
 | .pt _ fs,x,h=>fits fs x h
 | .int _,_,_=>True
 | .bool,_,_=>True
 | .cl _,_,_=>True
 | .str,_,_=>True
 | .im _,_,_=>True
 | .ar _ _,_,_=>True
 | .mp _ _ _ _,_,_=>True
 | .me _ _ _ _,_,_=>True
def fits:(fs:List Sp)→Sp.Ts fs→Sp.Hs fs→Prop
 | [],_,_=>True
 |s::l,x,h=>fit s x.1 h.1∧fits l x.2 h.2
end
def Tk:(aa:List Ap)→aZ aa→eZ aa→Prop
 | [],_,_=>True
 |a::l,x,h=>fits a.2 x.1 h.1∧Tk l x.2 h.2
mutual
theorem a1Z {ap:Bool}: ∀ (s:Sp) (x:s.T) (h:s.H) (b q:Nat),fB (oG ap s x h b q)→(ap=true→fB (apT s x h))→okH s h→fit s x h
 | .int _,_,_,_,_,_,_,_=>trivial
 | .bool,_,_,_,_,_,_,_=>trivial
 | .cl _,_,_,_,_,_,_,_=>trivial
 | .str,_,_,_,_,_,_,_=>trivial
 | .im _,_,_,_,_,_,_,_=>trivial
 | .ar _ _,_,_,_,_,_,_,_=>trivial
 | .mp _ _ _ _,_,_,_,_,_,_,_=>trivial
 | .me _ _ _ _,_,_,_,_,_,_,_=>trivial
 | .sl sh t,x,h,b,q,k,k',ho=>by
  refine ⟨?_,ho⟩;cases ap with
  |false=>exact (k (.rows false h.1 sh x 0 h.2 t) (List.mem_singleton.2 rfl)).1
  |true=>exact (k' rfl (.rows false h.1 sh x 0 h.2 t) (List.mem_singleton.2 rfl)).1
 | .pt t fs,x,h,b,q,k,k',ho=>uj fs x h (b+1) q (fun c hc=>k c (List.mem_cons_of_mem _ hc)) k' ho
theorem uj {ap:Bool}: ∀ (fs:List Sp) (x:Sp.Ts fs) (h:Sp.Hs fs) (b q:Nat),fB (aW ap fs x h b q)→(ap=true→fB (I8 fs x h))→Uo fs h→fits fs x h
 | [],_,_,_,_,_,_,_=>trivial
 |s::l,x,h,b,q,k,k',ho=>⟨a1Z s x.1 h.1 b q k.left (fun e=>(k' e).left) ho.1,uj l x.2 h.2 _ _ k.right (fun e=>(k' e).right) ho.2⟩
end
theorem Ge: ∀ (aa:List Ap) (x:aZ aa) (h:eZ aa) (b:Nat),fB (W3 aa x h b)→okA aa h→Tk aa x h
 | [],_,_,_,_,_=>trivial
 |a::l,x,h,b,k,ho=>⟨uj (ap:=false) a.2 x.1 h.1 b 0 k.left (fun e=>by cases e) ho.1,Ge l x.2 h.2 _ k.right ho.2⟩
def Ij(m:Mem):Prop:= ∀b,some b∈m→b.K0=false
theorem Ij.app {a b:Mem}(h:Ij a)(k:Ij b):Ij (a++b):=fun c hc=>(List.mem_append.1 hc).elim (h c) (k c)
theorem Ij.nil:Ij []:=fun b hb=>by cases hb
mutual
theorem a4r {ap:Bool}: ∀ (s:Sp) (x:s.T) (h:s.H) (b q:Nat),Ij (oG ap s x h b q)
 | .int _,_,_,_,_=> .nil
 | .bool,_,_,_,_=> .nil
 | .cl _,_,_,_,_=> .nil
 | .str,_,_,_,_=> .nil
 | .im _,_,_,_,_=> .nil
 | .ar _ _,_,_,_,_=>fun b hb=>by cases List.mem_singleton.1 hb;rfl
 | .mp _ _ _ _,_,_,_,_=>fun b hb=>by cases List.mem_singleton.1 hb;rfl
 | .me _ _ _ _,_,_,_,_=>fun b hb=>by cases List.mem_singleton.1 hb;rfl
 | .sl sh t,x,h,b,q=>by
  cases ap with
  |false=>exact fun b hb=>by cases List.mem_singleton.1 hb;rfl
  |true=>exact fun b hb=>by cases List.mem_singleton.1 hb
 | .pt t fs,x,h,b,q=>fun c hc=>by
  rcases List.mem_cons.1 hc with e|hc
  ·cases e;rfl
  ·exact tG fs x h (b+1) q c hc
theorem tG {ap:Bool}: ∀ (fs:List Sp) (x:Sp.Ts fs) (h:Sp.Hs fs) (b q:Nat),Ij (aW ap fs x h b q)
 | [],_,_,_,_=> .nil
 |s::l,x,h,b,q=>(a4r s x.1 h.1 b q).app (tG l x.2 h.2 _ _)
end
mutual
theorem a26: ∀ (s:Sp) (x:s.T) (h:s.H),Ij (apT s x h)
 | .int _,_,_=> .nil
 | .bool,_,_=> .nil
 | .cl _,_,_=> .nil
 | .str,_,_=> .nil
 | .im _,_,_=> .nil
 | .ar _ _,_,_=> .nil
 | .mp _ _ _ _,_,_=> .nil
 | .me _ _ _ _,_,_=> .nil
 | .sl _ _,_,_=>fun b hb=>by cases List.mem_singleton.1 hb;rfl
 | .pt _ fs,x,h=>z7 fs x h
theorem z7: ∀ (fs:List Sp) (x:Sp.Ts fs) (h:Sp.Hs fs),Ij (I8 fs x h)
 | [],_,_=> .nil
 |s::l,x,h=>(a26 s x.1 h.1).app (z7 l x.2 h.2)
end
theorem Lj: ∀ (aa:List Ap) (x:aZ aa) (h:eZ aa) (b:Nat),Ij (W3 aa x h b)
 | [],_,_,_=> .nil
 |a::l,x,h,b=>(tG a.2 x.1 h.1 b 0).app (Lj l x.2 h.2 _)
theorem Ij.from {m:Mem}(h:Ij m)(n:Nat):SB m n:=fun i b _ hb=>h b (List.mem_of_getElem? hb)
def yl:List Bool→List SV→Option (List Lf×List Vv)
 | [],us=>match us with
  | []=>some ([],[])
  |_=>none
 |true::l,us=>match us with
  | .v (.one a)::us=>match yl l us with
   |some (p,q)=>some (a::p,q)
   |none=>none
  |_=>none
 |false::l,us=>match us with
  | .v v::us=>match yl l us with
   |some (p,q)=>some (p,v::q)
   |none=>none
  |_=>none
def joA:List Bool→List Lf→List Vv→List SV
 | [],_,_=> []
 |true::l,p,q=>match p with
  |a::p=> .v (.one a)::joA l p q
  | []=> []
 |false::l,p,q=>match q with
  |v::q=> .v v::joA l p q
  | []=> []
theorem Oj {ρ:Rn} {a b:SV} {l m:List SV}(h:dm ρ a b)(k:g9 ρ l m):g9 ρ (a::l) (b::m):=by
 cases b<;>first|exact k|exact ⟨h,k⟩
theorem Tl {ρ:Rn} {a:Lf} {l m:List Lf}(h:cC ρ (a::l) m): ∃b m',m=b::m'∧ft ρ a b∧cC ρ l m':=by
 cases m with
 |nil=>cases l<;>exact h.elim
 |cons b m'=>
  refine ⟨b,m',rfl,?_⟩;cases l<;>cases m'<;>first|exact ⟨h,trivial⟩|exact h
theorem NH {ρ:Rn} {a:Vv} {l m:List Vv}(h:yi ρ (a::l) m): ∃b m',m=b::m'∧xn ρ a b∧yi ρ l m':=by
 cases m with
 |nil=>cases l<;>exact h.elim
 |cons b m'=>
  refine ⟨b,m',rfl,?_⟩;cases l<;>cases m'<;>first|exact ⟨h,trivial⟩|exact h
theorem FP {ρ:Rn}: ∀ {fl:List Bool} {us:List SV} {p p':List Lf} {q q':List Vv},yl fl us=some (p,q)→cC ρ p p'→yi ρ q q'→g9 ρ us (joA fl p' q')
 | [],us,p,p',q,q',h,_,_=>by
  unfold yl at h;split at h
  ·exact trivial
  ·cases h
 |true::l,us,p,p',q,q',h,hp,hq=>by
  unfold yl at h;split at h
  ·split at h
   ·rename_i h1;cases h;obtain ⟨b,m',rfl,k1,k2⟩:=Tl hp;exact Oj k1 (FP h1 k2 hq)
   ·cases h
  ·cases h
 |false::l,us,p,p',q,q',h,hp,hq=>by
  unfold yl at h;split at h
  ·split at h
   ·rename_i h1;cases h;obtain ⟨b,m',rfl,k1,k2⟩:=NH hq;exact Oj k1 (FP h1 hp k2)
   ·cases h
  ·cases h
def Zf:List Vv→SV
 | [v]=> .v v
 |l=> .cz l
def unV:SV→Option (List Vv)
 | .v v=>some [v]
 | .cz l=>match l with
  | [_]=>none
  |_=>some l
 |_=>none
theorem a2r {ρ:Rn} {r:SV} {l l':List Vv}(h:unV r=some l)(k:yi ρ l l'):dm ρ r (Zf l'):=by
 unfold unV at h;split at h
 ·cases h;obtain ⟨b,m',rfl,k1,k2⟩:=NH k;cases m' with
  |nil=>exact k1
  |cons=>exact k2.elim
 ·split at h
  ·cases h
  ·rename_i hn;cases h
   match l,l',k,hn with
   | [],[],k,_=>exact k
   | [],_::_,k,_=>exact k.elim
   | [a],_,_,hn=>exact absurd rfl (hn a)
   |_::_::_,[],k,_=>exact k.elim
   |a::b::l,[c],k,_=>cases l<;>exact k.2.elim
   |_::_::_,_::_::_,k,_=>exact k
 ·cases h
def rtL:Sp→Nat→Lf
 | .pt _ _,b=> .ptr b 0
 | .cl c,_=>c.lf
 |_,_=> .bX
def a3l:List Sp→Nat→List Lf
 | [],_=> []
 |s::l,b=>rtL s b::a3l l (b+s.cP)
def Xz:Nat→List Nat→List Nat
 |0,l=>l
 |n+1,l=>Xz n (n::l)
theorem NU: ∀ (n:Nat) (l:List Nat),Xz n l=List.range n++l
 |0,l=>rfl
 |n+1,l=>by rw [Xz,NU n,List.range_succ];simp
def a2i(fl:List Bool)(os:List Sp)(ps:List Ap)(x:Sp.Ts os)(h:Sp.Hs os)(y:aZ ps)(k:eZ ps):List SV:=joA fl (pI false os x h 0 0) (avT ps y k (Sp.bS os))
def HP(os:List Sp)(ps:List Ap)(x:Sp.Ts os)(h:Sp.Hs os)(y:aZ ps)(k:eZ ps):Mem:=aW false os x h 0 0++W3 ps y k (Sp.bS os)
def CZ(os:List Sp)(ps rp:List Ap)(x:Sp.Ts os)(h:Sp.Hs os)(z:aZ rp)(k:eZ rp):Mem:=
 aW true os x h 0 (Sp.bS os+dj ps)++(List.replicate (dj ps) none++(I8 os x h++W3 rp z k (Sp.bS os+dj ps+Sp.Kg os)))
def a7i(os:List Sp)(ps rp:List Ap)(z:aZ rp)(k:eZ rp):SV:=Zf (avT rp z k (Sp.bS os+dj ps+Sp.Kg os))
def Tc(os:List Sp)(ps rp:List Ap)(post:Sp.Ts os→aZ rp→Prop)(r:SV)(m:Mem):Prop:=match unV r with
 |some rs=>match tJ (bP m) m.length os (a3l os 0) 0 with
  |some (p,x,h,ns)=>match Cr (bP m) m.length rp rs (Sp.bS os+dj ps+Sp.Kg os) with
   |some (q,z,k,nz)=>match Ex os ns 0&&O0 (cY (fun i=>(Xz (Sp.bS os+dj ps) (D9 os ns++nz))[i]?) 0 (CZ os ps rp x h z k)) with
    |true=>ob p∧ob q∧post x z
    |false=>False
   |none=>False
  |none=>False
 |none=>False
def qC(fl:List Bool)(os:List Sp)(ps rp:List Ap)(pre:Sp.Ts os→aZ ps→Prop)(post:Sp.Ts os→aZ ps→Sp.Ts os→aZ rp→Prop):MC:=fun us m K=>match yl fl us with
 |some (ls,vs)=>match tJ (bP m) m.length os ls 0 with
  |some (p,x,h,ns)=>match Cr (bP m) m.length ps vs (Sp.bS os) with
   |some (q,y,k,nq)=>match ndN (ns++nq) [] with
    |true=>ob p∧ob q∧pre x y∧ ∀x' h' z k',fits os x' h'→Tk rp z k'→post x y x' z→K ((a7i os ps rp z k').uK (back (ns++nq) m.length)) (Dd (ns++nq) [] m (CZ os ps rp x' h' z k'))
    |false=>False
   |none=>False
  |none=>False
 |none=>False
theorem EF {ρ:Rn} {m:Mem}: ∀ (n:Nat) {y:Nat},BU ρ m y (List.replicate n none)
 |0,_=>trivial
 |n+1,_=>EF n
theorem N2 {os:List Sp} {ps rp:List Ap} {m0:Mem}(hm0:m0.length=Sp.bS os+dj ps) {post:Sp.Ts os→aZ rp→Prop} {r:SV} {m':Mem}(hq:Tc os ps rp post r m'):
  a0k m0 (E:=Sp.Ts os×Sp.Hs os×aZ rp×eZ rp) (fun e=>fits os e.1 e.2.1∧Tk rp e.2.2.1 e.2.2.2∧post e.1 e.2.2.1) (fun e=>a7i os ps rp e.2.2.1 e.2.2.2) (fun e=>CZ os ps rp e.1 e.2.1 e.2.2.1 e.2.2.2) r m':=by
 intro β0 β' w0 w' v hs0 hs' hsi' hr';unfold Tc at hq;split at hq
 ·rename_i rs hrs;split at hq
  ·rename_i p x h ns hx;split at hq
   ·rename_i q z k nz hz;split at hq
    ·rename_i hb;rw [Bool.and_eq_true] at hb;obtain ⟨hp,hq',hpost⟩:=hq;rw [NU] at hb;have l1:=jI _ _ _ hx;have l2:=AO _ _ _ hz;have l3:=pM os ns (by omega)
     let full:=List.range (Sp.bS os+dj ps)++(D9 os ns++nz)
     let ρ:Rn:=fun i=>full[i]?
     have hlo: ∀i,i<Sp.bS os+dj ps→ρ i=some i:=fun i hi=>by
      show full[i]? =_;rw [List.getElem?_append_left (by simpa using hi)]
      simp [hi]
     have hmv: ∀j,j<Sp.Kg os→ρ (Sp.bS os+dj ps+j)=(D9 os ns)[j]? :=fun j hj=>by
      show full[_]? =_;rw [List.getElem?_append_right (by simp),List.length_range,show Sp.bS os+dj ps+j-(Sp.bS os+dj ps)=j by omega,List.getElem?_append_left (by omega)]
     have hnz: ∀j,ρ (Sp.bS os+dj ps+Sp.Kg os+j)=nz[j]? :=fun j=>by
      show full[_]? =_;rw [List.getElem?_append_right (by simp;omega),List.length_range,List.getElem?_append_right (by omega),l3]
      congr 1;omega
     obtain ⟨a1,a2,a3⟩:=qv (ρ:=ρ) (Nat.le_refl _) (ap:=true) os _ 0 (Sp.bS os+dj ps) hx hp (oq os ns 0 _ (by omega) hb.1 (fun i hi=>by rw [Nat.zero_add];exact hlo i (by omega)) hmv)
     obtain ⟨b1,b2⟩:=GM (ρ:=ρ) (Nat.le_refl _) rp _ (Sp.bS os+dj ps+Sp.Kg os) hz hq' (Fa rp nz _ fun i hi=>hnz i);have hml:(CZ os ps rp x h z k).length=full.length:=by
      simp only [CZ,List.length_append,bL,List.length_replicate,kU,rO,full,List.length_range];omega
     have hmle:BU ρ m' 0 (CZ os ps rp x h z k):=db a2 (by
      rw [bL,Nat.zero_add];refine db (EF _) ?_;rw [List.length_replicate];refine db (a3 rfl) ?_;rw [kU];exact b2)
     have hnd:O0 (cY ρ 0 (CZ os ps rp x h z k))=true:=hb.2;have hS:Sat (β'.by ρ) (CZ os ps rp x h z k) w':=hs'.uK (fun y x e=>by rw [hml];exact (List.getElem?_eq_some_iff.1 e).1) hnd hmle
     have hR:=hS.Ng.mem;refine ⟨(x,h,z,k),β'.by ρ,⟨uj (ap:=true) os x h 0 _ hR.left (fun _=>hR.right.right.left) (ux _ _ _ hx hp),Ge rp z k _ hR.right.right.right (F6 _ _ _ hz hq'),hpost⟩,hS,?_,AB (a2r hrs b1) hr'⟩;exact ai.uK hs0 hs' hsi' (fun y hy=>hlo y (by omega)) (by rw [hml,hm0];simp [full]) hmle
    ·exact hq.elim
   ·exact hq.elim
  ·exact hq.elim
 ·exact hq.elim
theorem ah {C:Ctx}(hC:C.Ok) {f:FuncId} {fn:Func}(hfn:C.P.funcs[f]? =some fn)(hname:(fn.name== "runtime.NumGoroutine")=false)(hbody:fn.body.isNone=false) {fl:List Bool} {os:List Sp} {ps rp:List Ap} {pre:Sp.Ts os→aZ ps→Prop} {post:Sp.Ts os→aZ ps→Sp.Ts os→aZ rp→Prop}
  (h: ∀x hx y hy,fits os x hx→Tk ps y hy→pre x y→ ∃L fuel,Gl (goal C L fuel fn (a2i fl os ps x hx y hy) (HP os ps x hx y hy) (Tc os ps rp (post x y)))):ab C.P f (qC fl os ps rp pre post):=by
 refine Ht hC hfn hname hbody fun us m K hc=>?_;unfold qC at hc;split at hc
 ·rename_i ls vs hsp;split at hc
  ·rename_i p x hx ns hdx;split at hc
   ·rename_i q y hy nq hdy;split at hc
    ·rename_i hb;obtain ⟨hp,hq,hpre,hk⟩:=hc;have l1:=jI _ _ _ hdx;have l2:=AO _ _ _ hdy
     let ρ:Rn:=fun i=>((ns++nq)++ [])[i]?
     have hρ: ∀i,ρ i=(ns++nq)[i]? :=fun i=>by simp [ρ]
     obtain ⟨a1,a2,_⟩:=qv (ρ:=ρ) (Nat.le_refl _) (ap:=false) os _ 0 0 hdx hp (kO os ns 0 0 fun i hi=>by rw [Nat.zero_add,hρ,List.getElem?_append_left (by omega)])
     obtain ⟨b1,b2⟩:=GM (ρ:=ρ) (Nat.le_refl _) ps _ (Sp.bS os) hdy hq (Fa ps nq _ fun i hi=>by rw [hρ,List.getElem?_append_right (by omega),l1];congr 1;omega)
     have hml:(HP os ps x hx y hy).length=Sp.bS os+dj ps:=by
      simp only [HP,List.length_append,bL,rO]
     have hex:qq (HP os ps x hx y hy)→ ∃L fuel,Gl (goal C L fuel fn (a2i fl os ps x hx y hy) (HP os ps x hx y hy) (Tc os ps rp (post x y))):=fun hR=>by
      have hR:=hR.mem;exact h x hx y hy (uj (ap:=false) os x hx 0 0 hR.left (fun e=>by cases e) (ux _ _ _ hdx hp)) (Ge ps y hy _ hR.right (F6 _ _ _ hdy hq)) hpre
     by_cases hRF:qq (HP os ps x hx y hy)
     ·obtain ⟨L,fuel,⟨hg⟩⟩:=hex hRF;exact ⟨Sp.Ts os×Sp.Hs os×aZ rp×eZ rp,_,L,fuel,ns++nq,[],_,HP os ps x hx y hy,_,_,_,⟨hb,by rw [hml,List.length_append,List.length_append,l1,l2];rfl,fun i b hi hbb=>by
       have:=(List.getElem?_eq_some_iff.1 hbb).1;rw [List.length_append,l1,l2] at hi;omega,fun e=>(((tG _ _ _ _ _).app (Ij.app (fun b hb=>by cases List.eq_of_mem_replicate hb) ((z7 _ _ _).app (Lj _ _ _ _)))):Ij (CZ os ps rp e.1 e.2.1 e.2.2.1 e.2.2.2)).from _⟩,fun β vals hv=>oU (FP hsp a1 b1) hv,db a2 (by rw [bL,Nat.zero_add];exact b2),fun _=>hg,fun r m' hr=>N2 hml hr,fun e he=>by
        rw [List.append_nil];exact hk e.1 e.2.1 e.2.2.1 e.2.2.2 he.1 he.2.1 he.2.2⟩
     ·exact ⟨Sp.Ts os×Sp.Hs os×aZ rp×eZ rp,_,fun _=>none,0,ns++nq,[],_,HP os ps x hx y hy,_,_,Tc os ps rp (post x y),⟨hb,by rw [hml,List.length_append,List.length_append,l1,l2];rfl,fun i b hi hbb=>by
       have:=(List.getElem?_eq_some_iff.1 hbb).1;rw [List.length_append,l1,l2] at hi;omega,fun e=>(((tG _ _ _ _ _).app (Ij.app (fun b hb=>by cases List.eq_of_mem_replicate hb) ((z7 _ _ _).app (Lj _ _ _ _)))):Ij (CZ os ps rp e.1 e.2.1 e.2.2.1 e.2.2.2)).from _⟩,fun β vals hv=>oU (FP hsp a1 b1) hv,db a2 (by rw [bL,Nat.zero_add];exact b2),fun k=>absurd k hRF,fun r m' hr=>N2 hml hr,fun e he=>by
        rw [List.append_nil];exact hk e.1 e.2.1 e.2.2.1 e.2.2.2 he.1 he.2.1 he.2.2⟩
    ·exact hc.elim
   ·exact hc.elim
  ·exact hc.elim
 ·exact hc.elim
end Go.Proofs.YtfdmjoddhjmokaaGreatDoor.Rex
namespace Go.Proofs.YtfdmjoddhjmokaaGreatDoor.Rex
open Go.RowKit
set_option linter.unusedVariables false
set_option linter.unusedSimpArgs false
theorem VR {β δ:Nm} {c:Lc} {l:Lf} {p:Option Prop} {v:Value}(h:Ko c l=some p)(hp:ob p)(k:aq β l v):aq δ c.lf v:=by
 cases c with
 |int k n=>
  cases l with
  |int k' kn m=>
   simp only [Ko] at h;split at h
   ·rename_i hk;cases h;have hk:=of_decide_eq_true hk;have hp:m=n:=hp;subst hk;subst hp;cases k;exact .int
   ·cases h
  |_=>cases h
 |bool q=>
  cases l with
  |bool kn p=>
   cases h;have hp:p=q:=hp;subst hp;cases k;exact .bool
  |_=>cases h
 |aj=>cases l<;>first|(cases h;cases k;exact .aj)|cases h
 |cb=>cases l<;>first|(cases h;cases k;exact .cb)|cases h
theorem a2h {γ δ:Nm} {c:Lc} {v v':Value}(k:aq γ c.lf v)(k':aq δ c.lf v'):v=v':=by
 cases c<;>(cases k;cases k';rfl)
mutual
def hD:(s:Sp)→s.H
 | .int _=>()
 | .bool=>()
 | .cl _=>()
 | .str=>()
 | .im _=> .slice none 0 0
 | .ar _ _=>()
 | .sl _ _=>(true,0)
 | .mp _ _ _ _=>()
 | .me _ _ _ _=>()
 | .pt _ fs=>hsD fs
def hsD:(fs:List Sp)→Sp.Hs fs
 | []=>()
 |s::l=>(hD s,hsD l)
end
def haD:(aa:List Ap)→eZ aa
 | []=>()
 |a::l=>(hsD a.2,haD l)
mutual
def dA(mm:Nat→Option bG):(s:Sp)→Lf→Option (Option Prop×s.T×List Nat)
 | .int k,l=>match l with
  | .int k' _ n=>match decide (k'=k) with
   |true=>some (none,n,[])
   |false=>none
  |_=>none
 | .bool,l=>match l with
  | .bool _ q=>some (none,q,[])
  |_=>none
 | .cl c,l=>match Ko c l with
  |some p=>some (p,(),[])
  |none=>none
 | .str,l=>match l with
  | .op v=>match v with
   | .string b=>some (none,b.data.toList,[])
   |_=>none
  |_=>none
 | .im sh,l=>match l with
  | .gv sh' v xs=>match iM sh' sh with
   |some ⟨h⟩=>some (none,eA h xs,[])
   |none=>none
  | .aj=>some (none,[],[])
  | .rs z tg y base sz o n c=>match mm y with
   |some (.rows ro z' sh' xs base' tot t)=>match iM sh' sh with
    |some ⟨h⟩=>match Nat.beq base base'&&(Nat.beq o 0&&Nat.beq sz sh.length) with
     |true=>match tg with
      |0=>some (some (n=xs.length∧z'=z),eA h xs,[])
      |_=>some (some (n≤xs.length∧z'=z),(eA h xs).take n,[])
     |false=>none
    |none=>none
   |_=>none
  |_=>none
 | .ar _ _,_=>none
 | .sl _ _,_=>none
 | .mp ks ka vs va,l=>match l with
  | .mp y=>match mm y with
   |some (.map ks' ka' vs' va' es clk)=>match iM ks' ks,iM vs' vs,Rq ka' ka&&Rq va' va with
    |some ⟨h⟩,some ⟨h'⟩,true=>some (none,(Im h h' es,clk),[y])
    |_,_,_=>none
   |_=>none
  |_=>none
 | .me ks ka vs va,l=>match l with
  | .mp y=>match mm y with
   |some (.map ks' ka' vs' va' es clk)=>match iM ks' ks,iM vs' vs,Rq ka' ka&&Rq va' va with
    |some ⟨h⟩,some ⟨h'⟩,true=>some (some (Im h h' es= []),clk,[y])
    |_,_,_=>none
   |_=>none
  |_=>none
 | .pt t fs,l=>match l with
  | .ptr y o=>match mm y with
   |some (.cells ls t')=>match Nat.beq o 0&&Nat.beq t' t with
    |true=>match iF mm fs ls with
     |some (p,x,ns)=>some (p,x,y::ns)
     |none=>none
    |false=>none
   |_=>none
  |_=>none
def iF(mm:Nat→Option bG):(fs:List Sp)→List Lf→Option (Option Prop×Sp.Ts fs×List Nat)
 | [],ls=>match ls with
  | []=>some (none,(),[])
  |_=>none
 |s::l,ls=>match ls with
  |a::ls=>match dA mm s a with
   |some (p,x,ns)=>match iF mm l ls with
    |some (p',x',ns')=>some (KB p p',(x,x'),ns++ns')
    |none=>none
   |none=>none
  | []=>none
end
def mG(mm:Nat→Option bG):(aa:List Ap)→List Vv→Option (Option Prop×aZ aa×List Nat)
 | [],vs=>match vs with
  | []=>some (none,(),[])
  |_=>none
 |a::l,vs=>match vs with
  |v::vs=>match a3j a.1 v with
   |some ls=>match iF mm a.2 ls with
    |some (p,x,ns)=>match mG mm l vs with
     |some (p',x',ns')=>some (KB p p',(x,x'),ns++ns')
     |none=>none
    |none=>none
   |none=>none
  | []=>none
section
variable {mm:Nat→Option bG}
mutual
theorem HM: ∀ (s:Sp) (l:Lf) {p:Option Prop} {x:s.T} {ns:List Nat},dA mm s l=some (p,x,ns)→ns.length=s.cP
 | .int k,l,p,x,ns,e=>by
  unfold dA at e;split at e
  ·split at e<;>cases e;rfl
  ·cases e
 | .bool,l,p,x,ns,e=>by
  unfold dA at e;split at e<;>cases e;rfl
 | .cl c,l,p,x,ns,e=>by
  unfold dA at e;split at e<;>cases e;rfl
 | .str,l,p,x,ns,e=>by
  unfold dA at e;split at e
  ·split at e<;>cases e;rfl
  ·cases e
 | .im _,l,p,x,ns,e=>by
  unfold dA at e;split at e
  ·split at e<;>cases e;rfl
  ·cases e;rfl
  ·split at e
   ·split at e
    ·split at e
     ·split at e<;>cases e<;>rfl
     ·cases e
    ·cases e
   ·cases e
  ·cases e
 | .ar _ _,l,p,x,ns,e=>by simp [dA] at e
 | .sl _ _,l,p,x,ns,e=>by simp [dA] at e
 | .mp _ _ _ _,l,p,x,ns,e=>by
  unfold dA at e;split at e
  ·split at e
   ·split at e<;>cases e;rfl
   ·cases e
  ·cases e
 | .me _ _ _ _,l,p,x,ns,e=>by
  unfold dA at e;split at e
  ·split at e
   ·split at e<;>cases e;rfl
   ·cases e
  ·cases e
 | .pt t fs,l,p,x,ns,e=>by
  unfold dA at e;split at e
  ·split at e
   ·split at e
    ·split at e
     ·rename_i hd;cases e;simp only [List.length_cons,qj fs _ hd,Sp.cP]
     ·cases e
    ·cases e
   ·cases e
  ·cases e
theorem qj: ∀ (fs:List Sp) (ls:List Lf) {p:Option Prop} {x:Sp.Ts fs} {ns:List Nat},iF mm fs ls=some (p,x,ns)→ns.length=Sp.bS fs
 | [],ls,p,x,ns,e=>by
  unfold iF at e;split at e<;>cases e;rfl
 |s::l,ls,p,x,ns,e=>by
  unfold iF at e;split at e
  ·split at e
   ·rename_i h1;split at e
    ·rename_i h2;cases e;simp only [List.length_append,HM s _ h1,qj l _ h2,Sp.bS]
    ·cases e
   ·cases e
  ·cases e
end
end
def zj:Option bG→Option bG
 |some (.rows _ _ _ _ _ _ _)=>none
 |b=>b
theorem Hr {b:Option bG} {c:bG}(h:zj b=some c):b=some c∧ ∀ro z sh xs base tot t,c≠ .rows ro z sh xs base tot t:=by
 cases b with
 |none=>cases h
 |some b=>cases b with
  |rows=>cases h
  |cells=>cases h;exact ⟨rfl,fun _ _ _ _ _ _ _ e=>by cases e⟩
  |loop=>cases h;exact ⟨rfl,fun _ _ _ _ _ _ _ e=>by cases e⟩
  |map=>cases h;exact ⟨rfl,fun _ _ _ _ _ _ _ e=>by cases e⟩
  |it=>cases h;exact ⟨rfl,fun _ _ _ _ _ _ _ e=>by cases e⟩
section
variable {β:Nm} {M:Mem} {w:World} {ρ:Rn}
def oJ(β:Nm)(M:Mem)(w:World):Nm:=⟨β.nm,fun sh v xs=>kr β (M.map zj) w sh v xs⟩
theorem kwM {y:Nat}(h:kw (M.map zj) y):kw M y∧ ∀ro z sh xs base tot t,M[y]? ≠some (some (.rows ro z sh xs base tot t)):=by
 obtain ⟨c,hc,hr⟩:=h;rw [List.getElem?_map] at hc;cases hy:M[y]? with
 |none=>rw [hy] at hc;cases hc
 |some b=>
  rw [hy] at hc;simp only [Option.map_some,Option.some.injEq] at hc;obtain ⟨rfl,h2⟩:=Hr hc;exact ⟨⟨c,hy,hr⟩,fun ro z sh xs base tot t e=>by cases e;exact h2 _ _ _ _ _ _ _ rfl⟩
theorem M9(hS:Sat β M w) {sh:List Kd} {v:Value} {xs:List (Row sh)}(h:β.im sh v xs):((oJ β M w).by ρ).im sh v xs:=by
 refine h.imp (fun h=>?_) id;obtain ⟨h0,c,hc,h1⟩:=hS.im sh v xs h;refine ⟨h0,c,hc,h1.imp id ?_⟩;rintro ⟨b,base,vs,t,fz,h2,h3,h4,h5⟩;exact ⟨b,base,vs,t,fz,h2,h3,h4,fun y hy=>h5 y (kwM hy).1⟩
theorem Au(hS:Sat β M w): ∀ {sh:List Kd} {r:Row sh},aP β sh r→aP ((oJ β M w).by ρ) sh r:=aP.xI (β:=(oJ β M w).by ρ) (γ:=β) fun sh v xs h=>by
 rcases M9 (ρ:=ρ) hS (.inl h) with h|⟨rfl,rfl⟩
 ·exact h
 ·exact ⟨.nil,0,Nat.le_refl _,.inl ⟨rfl,none,rfl⟩⟩
def W5(β:Nm)(M:Mem)(w:World)(δ:Nm)(ns:List Nat)(i:Nat)(dz:bG):Prop:= ∃y a c,ns[i]? =some y∧β y=some a∧(M.map zj)[y]? =some (some c)∧c.rw∧dz.rw∧cw δ dz w.heap[a]?
theorem W5.app {δ:Nm} {ns ns':List Nat} {i:Nat} {dz:bG}(h:W5 β M w δ ns i dz):W5 β M w δ (ns++ns') i dz:=by
 obtain ⟨y,a,c,h1,h2⟩:=h;exact ⟨y,a,c,by rw [List.getElem?_append_left (List.getElem?_eq_some_iff.1 h1).1];exact h1,h2⟩
theorem W5.a86 {δ:Nm} {ns ns':List Nat} {i k:Nat} {dz:bG}(hk:k=ns.length)(hi:k≤i)(h:W5 β M w δ ns' (i-k) dz):W5 β M w δ (ns++ns') i dz:=by
 obtain ⟨y,a,c,h1,h2⟩:=h;subst hk;exact ⟨y,a,c,by rw [List.getElem?_append_right hi];exact h1,h2⟩
mutual
theorem Ty(hS:Sat β M w): ∀ (s:Sp) (l:Lf) (v:Value) (b q:Nat) {p:Option Prop} {x:s.T} {ns:List Nat},dA (bP M) s l=some (p,x,ns)→ob p→aq β l v→(∀i,i<s.cP→ρ (b+i)=ns[i]?)→
  ∃h:s.H,aq ((oJ β M w).by ρ) (Sd false s x h b q) v∧ ∀i dz,(oG false s x h b q)[i]? =some (some dz)→W5 β M w ((oJ β M w).by ρ) ns i dz
 | .int k,l,v,b,q,p,x,ns,e,hp,hl,hn=>by
  unfold dA at e;split at e
  ·split at e
   ·rename_i hk;cases e;have hk:=of_decide_eq_true hk;subst hk;cases hl;exact ⟨(),.int,fun i dz h=>by simp [oG] at h⟩
   ·cases e
  ·cases e
 | .bool,l,v,b,q,p,x,ns,e,hp,hl,hn=>by
  unfold dA at e;split at e
  ·cases e;cases hl;exact ⟨(),.bool,fun i dz h=>by simp [oG] at h⟩
  ·cases e
 | .cl c,l,v,b,q,p,x,ns,e,hp,hl,hn=>by
  unfold dA at e;split at e
  ·rename_i hc;cases e;exact ⟨(),VR hc hp hl,fun i dz h=>by simp [oG] at h⟩
  ·cases e
 | .str,l,v,b,q,p,x,ns,e,hp,hl,hn=>by
  unfold dA at e;split at e
  ·split at e
   ·rename_i bb;cases e;cases hl;refine ⟨(),?_,fun i dz h=>by simp [oG] at h⟩
    show aq _ (.op (dc bb.data.toList)) _;have:dc bb.data.toList= .string bb:=by simp [dc]
    rw [this];exact .op rfl
   ·cases e
  ·cases e
 | .im sh,l,v,b,q,p,x,ns,e,hp,hl,hn=>by
  unfold dA at e;split at e
  ·split at e
   ·rename_i h0 _;cases e;subst h0;rw [dN];cases hl with
    |gv h1 h2=>exact ⟨v,.gv (M9 hS h1) h2,fun i dz h=>by simp [oG] at h⟩
   ·cases e
  ·cases e;cases hl;exact ⟨.slice none 0 0,.gv (.inr ⟨rfl,rfl⟩) rfl,fun i dz h=>by simp [oG] at h⟩
  ·rename_i z tg y base sz o n c;split at e
   ·rename_i ro z' sh' xs base' tot t hy;have hM:M[y]? =some (some (.rows ro z' sh' xs base' tot t)):=gX hy;split at e
    ·rename_i h0 _;subst h0;rw [dN] at e;split at e
     ·rename_i hc;simp only [Bool.and_eq_true] at hc;have d1:=Nat.eq_of_beq_eq_true hc.1;have d2:=Nat.eq_of_beq_eq_true hc.2.1;have d3:=Nat.eq_of_beq_eq_true hc.2.2;subst d1;subst d2;subst d3;have key: ∀ys:List (Row sh'),ys=xs.take n→n≤xs.length→z'=z→aq ((oJ β M w).by ρ) (.gv sh' v ys) v:=by
       rintro ys rfl hnx hz;cases hl with
       |rs hr=>
        obtain ⟨_,hnc,hr⟩:=hr;rcases hr with ⟨hz1,rfl,q,rfl⟩|⟨hz1,a,ha,rfl⟩
        ·exact .gv (.inl ⟨by simpa using aN.nil,c,by simp,.inl ⟨by simp,q,rfl⟩⟩) rfl
        ·have hlive:=(hS.dz y _ hM).resolve_left (fun hd=>by
          have h1:z'=true:=hd.1;rw [hz,hz1] at h1;cases h1)
         obtain ⟨a',ha',_,vs,fz,t',hob,_,hR,hro⟩:=hlive;rw [ha] at ha';cases ha';have hlen:(xs.take n).length=n:=by simp;omega
         refine .gv (.inl ⟨hro.take n,c,by rw [hlen];exact hnc,.inr ⟨a,base,vs,t',fz,by rw [hlen];simp,hob,?_,fun y' hy' e'=>?_⟩⟩) rfl
         ·rw [dT.iff] at hR ⊢;obtain ⟨r1,r2,r3⟩:=hR;rw [hlen];have hmul:n*sh'.length≤tot*sh'.length:=Nat.mul_le_mul_right _ (by omega)
          refine ⟨Nat.le_refl _,by omega,fun i r hi j hj=>r3 i r ?_ j hj⟩
          rw [List.getElem?_take] at hi;split at hi
          ·exact hi
          ·cases hi
         ·obtain ⟨k1,k2⟩:=kwM hy';have:=hS.inj y' y a k1 ⟨_,hM,fun hd=>by
           have h1:z'=true:=hd.1;rw [hz,hz1] at h1;cases h1⟩ e' ha
          subst this;exact k2 _ _ _ _ _ _ _ hM
      split at e
      ·cases e;obtain ⟨hn1,hz⟩:=hp;exact ⟨v,key _ (by rw [hn1,List.take_length]) (by omega) hz,fun i dz h=>by simp [oG] at h⟩
      ·cases e;obtain ⟨hn1,hz⟩:=hp;exact ⟨v,key _ rfl hn1 hz,fun i dz h=>by simp [oG] at h⟩
     ·cases e
    ·cases e
   ·cases e
  ·cases e
 | .ar _ _,l,v,b,q,p,x,ns,e,hp,hl,hn=>by simp [dA] at e
 | .sl _ _,l,v,b,q,p,x,ns,e,hp,hl,hn=>by simp [dA] at e
 | .mp ks ka vs va,l,v,b,q,p,x,ns,e,hp,hl,hn=>by
  unfold dA at e;split at e
  ·rename_i y;split at e
   ·rename_i ks' ka' vs' va' es clk hy;have hM:M[y]? =some (some (.map ks' ka' vs' va' es clk)):=gX hy;split at e
    ·rename_i hE hE' h1 h2 hb;subst hE;subst hE';cases e;rw [Bool.and_eq_true] at hb;have e1:=fw hb.1;have e2:=fw hb.2;subst e1;subst e2;obtain ⟨a,ha,hob⟩:=(hS.dz y _ hM).resolve_left id;cases hl with
     |mp ha'=>
      rw [ha] at ha';cases ha';have hb0:ρ b=some y:=by simpa using hn 0 Nat.zero_lt_one
      refine ⟨(),.mp (cg hb0 ha),fun i dz h=>?_⟩;cases i with
      |zero=>
       simp only [oG,List.getElem?_cons_zero,Option.some.injEq] at h;subst h;exact ⟨y,a,.map _ _ _ _ es clk,rfl,ha,by rw [List.getElem?_map,hM];rfl,trivial,trivial,hob.1,fun e he=>Au hS (hob.2 e he)⟩
      |succ i=>simp [oG] at h
    ·cases e
   ·cases e
  ·cases e
 | .me ks ka vs va,l,v,b,q,p,x,ns,e,hp,hl,hn=>by
  unfold dA at e;split at e
  ·rename_i y;split at e
   ·rename_i ks' ka' vs' va' es clk hy;have hM:M[y]? =some (some (.map ks' ka' vs' va' es clk)):=gX hy;split at e
    ·rename_i hE hE' h1 h2 hb;subst hE;subst hE';cases e;rw [Bool.and_eq_true] at hb;have e1:=fw hb.1;have e2:=fw hb.2;subst e1;subst e2;have hp:es= []:=hp;subst hp;obtain ⟨a,ha,hob⟩:=(hS.dz y _ hM).resolve_left id;cases hl with
     |mp ha'=>
      rw [ha] at ha';cases ha';have hb0:ρ b=some y:=by simpa using hn 0 Nat.zero_lt_one
      refine ⟨(),.mp (cg hb0 ha),fun i dz h=>?_⟩;cases i with
      |zero=>
       simp only [oG,List.getElem?_cons_zero,Option.some.injEq] at h;subst h;exact ⟨y,a,.map _ _ _ _ [] clk,rfl,ha,by rw [List.getElem?_map,hM];rfl,trivial,trivial,hob.1,fun e he=>Au hS (hob.2 e he)⟩
      |succ i=>simp [oG] at h
    ·cases e
   ·cases e
  ·cases e
 | .pt t fs,l,v,b,q,p,x,ns,e,hp,hl,hn=>by
  unfold dA at e;split at e
  ·rename_i y o;split at e
   ·rename_i ls t' hy;have hM:M[y]? =some (some (.cells ls t')):=gX hy;split at e
    ·rename_i hb;rw [Bool.and_eq_true] at hb;have d1:=Nat.eq_of_beq_eq_true hb.1;have d2:=Nat.eq_of_beq_eq_true hb.2;subst d1;subst d2;split at e
     ·rename_i hd;cases e;obtain ⟨a,ha,vs,hob,hvs⟩:=hS.cells hM;cases hl with
      |ptr ha'=>
       rw [ha] at ha';cases ha';obtain ⟨hs,g1,g2⟩:=mq hS fs ls vs (b+1) q hd hp hvs fun i hi=>by
        have:=hn (i+1) (by simp only [Sp.cP];omega)
        rw [show b+(i+1)=b+1+i by omega] at this
        simpa using this
       have hb0:ρ b=some y:=by simpa using hn 0 (by simp [Sp.cP])
       refine ⟨hs,.ptr (cg hb0 ha),fun i dz h=>?_⟩;cases i with
       |zero=>
        simp only [oG,List.getElem?_cons_zero,Option.some.injEq] at h;subst h;exact ⟨y,a,.cells ls t',rfl,ha,by rw [List.getElem?_map,hM];rfl,trivial,trivial,vs,hob,g1⟩
       |succ i=>
        simp only [oG,List.getElem?_cons_succ] at h;obtain ⟨y',a',c,k1,k2⟩:=g2 i dz h;exact ⟨y',a',c,by simpa using k1,k2⟩
     ·cases e
    ·cases e
   ·cases e
  ·cases e
theorem mq(hS:Sat β M w): ∀ (fs:List Sp) (ls:List Lf) (vs:List Value) (b q:Nat) {p:Option Prop} {x:Sp.Ts fs} {ns:List Nat},iF (bP M) fs ls=some (p,x,ns)→ob p→ae (aq β) ls vs→(∀i,i<Sp.bS fs→ρ (b+i)=ns[i]?)→
  ∃h:Sp.Hs fs,ae (aq ((oJ β M w).by ρ)) (pI false fs x h b q) vs∧ ∀i dz,(aW false fs x h b q)[i]? =some (some dz)→W5 β M w ((oJ β M w).by ρ) ns i dz
 | [],ls,vs,b,q,p,x,ns,e,hp,hl,hn=>by
  unfold iF at e;split at e
  ·cases e;rw [hl.aI];exact ⟨(),.nil,fun i dz h=>by simp [aW] at h⟩
  ·cases e
 |s::l,ls,vs,b,q,p,x,ns,e,hp,hl,hn=>by
  unfold iF at e;split at e
  ·split at e
   ·rename_i h1;split at e
    ·rename_i h2;cases e;obtain ⟨v,vs',rfl,hl1,hl2⟩:=hl.cons_inv;obtain ⟨p1,p2⟩:=eK hp;have n1:=HM s _ h1;obtain ⟨h,a1,a2⟩:=Ty hS s _ v b q h1 p1 hl1 fun i hi=>by
      have:=hn i (by simp only [Sp.bS];omega)
      rwa [List.getElem?_append_left (by omega)] at this
     obtain ⟨hs,b1,b2⟩:=mq hS l _ vs' (b+s.cP) (q+s.mv) h2 p2 hl2 fun i hi=>by
      have:=hn (s.cP+i) (by simp only [Sp.bS];omega)
      rw [List.getElem?_append_right (by omega),n1,show s.cP+i-s.cP=i by omega] at this
      rw [←this,Nat.add_assoc]
     refine ⟨(h,hs),.cons a1 b1,fun i dz hi=>?_⟩;simp only [aW] at hi;rcases Nat.lt_or_ge i s.cP with hlt|hge
     ·rw [List.getElem?_append_left (by rw [ek];exact hlt)] at hi
      exact (a2 i dz hi).app
     ·rw [List.getElem?_append_right (by rw [ek];exact hge),ek] at hi
      exact (b2 (i-s.cP) dz hi).a86 n1.symm hge
    ·cases e
   ·cases e
  ·cases e
end
theorem DZ(hS:Sat β M w): ∀ (aa:List Ap) (vv:List Vv) (vs:List Value) (b:Nat) {p:Option Prop} {x:aZ aa} {ns:List Nat},mG (bP M) aa vv=some (p,x,ns)→ob p→ae (bC β) vv vs→(∀i,i<dj aa→ρ (b+i)=ns[i]?)→
  ∃h:eZ aa,ae (bC ((oJ β M w).by ρ)) (avT aa x h b) vs∧ ∀i dz,(W3 aa x h b)[i]? =some (some dz)→W5 β M w ((oJ β M w).by ρ) ns i dz
 | [],vv,vs,b,p,x,ns,e,hp,hl,hn=>by
  unfold mG at e;split at e
  ·cases e;rw [hl.aI];exact ⟨(),.nil,fun i dz h=>by simp [W3] at h⟩
  ·cases e
 |a::l,vv,vs,b,p,x,ns,e,hp,hl,hn=>by
  unfold mG at e;split at e
  ·split at e
   ·rename_i hls;split at e
    ·rename_i pa xa na h1;split at e
     ·rename_i pb xb nb h2;cases e;obtain ⟨v,vs',rfl,hl1,hl2⟩:=hl.cons_inv;obtain ⟨p1,p2⟩:=eK hp;have n1:=qj _ _ h1;have hn1: ∀i,i<Sp.bS a.2→ρ (b+i)=na[i]? :=fun i hi=>by
       have:=hn i (by simp only [dj];omega)
       rwa [List.getElem?_append_left (by omega)] at this
      have first: ∃h:Sp.Hs a.2,bC ((oJ β M w).by ρ) (Yq a.1 (pI false a.2 xa h b 0)) v∧ ∀i dz,(aW false a.2 xa h b 0)[i]? =some (some dz)→W5 β M w ((oJ β M w).by ρ) na i dz:=by
       cases hl1 with
       |agg hl1=>
        cases ha:a.1 with
        |false=>rw [ha] at hls;cases hls
        |true=>
         rw [ha] at hls;cases hls;obtain ⟨h,k1,k2⟩:=mq hS a.2 _ _ b 0 h1 p1 hl1 hn1;exact ⟨h,.agg k1,k2⟩
       |one hl1=>
        cases ha:a.1 with
        |true=>rw [ha] at hls;cases hls
        |false=>
         rw [ha] at hls;cases hls;obtain ⟨h,k1,k2⟩:=mq hS a.2 _ _ b 0 h1 p1 (.cons hl1 .nil) hn1;refine ⟨h,?_,k2⟩;generalize pI false a.2 xa h b 0=L at k1 ⊢;cases k1 with
         |cons k1 k3=>
          cases k3;exact .one k1
      obtain ⟨h,a1,a2⟩:=first;obtain ⟨hs,b1,b2⟩:=DZ hS l _ vs' (b+Sp.bS a.2) h2 p2 hl2 fun i hi=>by
       have:=hn (Sp.bS a.2+i) (by simp only [dj];omega)
       rw [List.getElem?_append_right (by omega),n1,show Sp.bS a.2+i-Sp.bS a.2=i by omega] at this
       rw [←this,Nat.add_assoc]
      refine ⟨(h,hs),.cons a1 b1,fun i dz hi=>?_⟩;simp only [W3] at hi;rcases Nat.lt_or_ge i (Sp.bS a.2) with hlt|hge
      ·rw [List.getElem?_append_left (by rw [bL];exact hlt)] at hi
       exact (a2 i dz hi).app
      ·rw [List.getElem?_append_right (by rw [bL];exact hge),bL] at hi
       exact (b2 (i-Sp.bS a.2) dz hi).a86 n1.symm hge
     ·cases e
    ·cases e
   ·cases e
  ·cases e
theorem a2F(hS:Sat β M w) {ns:List Nat}(hnd:iV ns=true) {τ:Mem}(hl:τ.length=ns.length)(hb: ∀i dz,τ[i]? =some (some dz)→W5 β M w ((oJ β M w).by fun i=>ns[i]?) ns i dz):Sat ((oJ β M w).by fun i=>ns[i]?) τ w:=by
 have δe: ∀ {i y a:Nat},ns[i]? =some y→β y=some a→((oJ β M w).by fun i=>ns[i]?) i=some a:=fun h k=>cg (β:=oJ β M w) (ρ:=fun i=>ns[i]?) h k;refine ⟨fun i dz hi=>?_,?_,fun i a e=>?_,hS.gl,?_,fun sh v xs e=>?_⟩
 ·obtain ⟨y,a,c,h1,h2,h3,h4,h5,h6⟩:=hb i dz hi;exact .inr ⟨a,δe h1 h2,h6⟩
 ·rintro i j a ⟨bi,hi,hri⟩ ⟨bj,hj,hdj⟩ ei ej;obtain ⟨y,a1,c,h1,h2,h3,h4,_⟩:=hb i bi hi;obtain ⟨y',a2,c',k1,k2,k3,k4,_⟩:=hb j bj hj;have e1:=δe h1 h2;have e2:=δe k1 k2;rw [ei] at e1;cases e1;rw [ej] at e2;cases e2;have:=hS.inj y y' a (kwM ⟨c,h3,h4⟩).1 (kwM ⟨c',k3,k4⟩).1.kn h2 k2;subst this;exact pz hnd h1 k1
 ·simp only [Nm.by,Option.bind_eq_some_iff] at e;obtain ⟨y,h1,_⟩:=e;rw [hl];exact (List.getElem?_eq_some_iff.1 h1).1
 ·rintro i a ⟨bi,hi,hri⟩ ei;obtain ⟨y,a1,c,h1,h2,h3,h4,_⟩:=hb i bi hi;have e1:=δe h1 h2;rw [ei] at e1;cases e1;exact hS.ng y a (kwM ⟨c,h3,h4⟩).1 h2
 ·have e:kr β (M.map zj) w sh v xs:=e;obtain ⟨h0,c,hc,h1⟩:=e;refine ⟨fun r hr=>Au hS (h0 r hr),c,hc,h1.imp id ?_⟩;rintro ⟨b,base,vs,t,fz,h2,h3,h4,h5⟩;refine ⟨b,base,vs,t,fz,h2,h3,h4,?_⟩;rintro i ⟨bi,hi,hri⟩ ei;obtain ⟨y,a1,c,h1,h2',h3',h4',_⟩:=hb i bi hi;have e1:=δe h1 h2';rw [ei] at e1;cases e1;exact h5 y ⟨c,h3',h4'⟩ h2'
end
mutual
def noS:Sp→Bool
 | .ar _ _=>false
 | .sl _ _=>false
 | .pt _ fs=>GO fs
 | .int _=>true
 | .bool=>true
 | .cl _=>true
 | .str=>true
 | .im _=>true
 | .mp _ _ _ _=>true
 | .me _ _ _ _=>true
def GO:List Sp→Bool
 | []=>true
 |s::l=>noS s&&GO l
end
def plS:Sp→Bool
 | .cl _=>true
 | .int _=>true
 | .bool=>true
 | .str=>true
 |_=>false
def Zg:List Sp→Bool
 | []=>true
 |s::l=>plS s&&Zg l
def plA:List Ap→Bool
 | []=>true
 |a::l=>Zg a.2&&plA l
mutual
theorem a2S: ∀ (s:Sp) (x:s.T) (h:s.H) (b q q':Nat),noS s=true→Sd true s x h b q=Sd false s x h b q'∧oG true s x h b q=oG false s x h b q'∧s.mv=0
 | .int _,_,_,_,_,_,_=>⟨rfl,rfl,rfl⟩
 | .bool,_,_,_,_,_,_=>⟨rfl,rfl,rfl⟩
 | .cl _,_,_,_,_,_,_=>⟨rfl,rfl,rfl⟩
 | .str,_,_,_,_,_,_=>⟨rfl,rfl,rfl⟩
 | .im _,_,_,_,_,_,_=>⟨rfl,rfl,rfl⟩
 | .ar _ _,_,_,_,_,_,e=>by cases e
 | .sl _ _,_,_,_,_,_,e=>by cases e
 | .mp _ _ _ _,_,_,_,_,_,_=>⟨rfl,rfl,rfl⟩
 | .me _ _ _ _,_,_,_,_,_,_=>⟨rfl,rfl,rfl⟩
 | .pt t fs,x,h,b,q,q',e=>by
  obtain ⟨e1,e2,e3⟩:=yF fs x h (b+1) q q' e;exact ⟨rfl,by simp only [oG,e1,e2],e3⟩
theorem yF: ∀ (fs:List Sp) (x:Sp.Ts fs) (h:Sp.Hs fs) (b q q':Nat),GO fs=true→pI true fs x h b q=pI false fs x h b q'∧aW true fs x h b q=aW false fs x h b q'∧Sp.Kg fs=0
 | [],_,_,_,_,_,_=>⟨rfl,rfl,rfl⟩
 |s::l,x,h,b,q,q',e=>by
  simp only [GO,Bool.and_eq_true] at e;obtain ⟨a1,a2,a3⟩:=a2S s x.1 h.1 b q q' e.1;obtain ⟨b1,b2,b3⟩:=yF l x.2 h.2 (b+s.cP) (q+s.mv) (q'+s.mv) e.2;exact ⟨by simp only [pI,a1,b1],by simp only [aW,a2,b2],by simp only [Sp.Kg,a3,b3]⟩
end
section
variable {γ δ:Nm}
theorem a2Y(hg: ∀i a,γ i=some a→δ i=some a): ∀ (s:Sp) (x:s.T) (h:s.H) (b q:Nat) {v v':Value},noS s=true→aq γ (Sd false s x h b q) v→aq δ (Sd false s x h b q) v'→v=v'
 | .int _,_,_,_,_,_,_,_,k,k'=>by cases k;cases k';rfl
 | .bool,_,_,_,_,_,_,_,k,k'=>by cases k;cases k';rfl
 | .cl c,_,_,_,_,_,_,_,k,k'=>a2h k k'
 | .str,_,_,_,_,_,_,_,k,k'=>by cases k;cases k';rfl
 | .im _,_,_,_,_,_,_,_,k,k'=>by cases k;cases k';rfl
 | .ar _ _,_,_,_,_,_,_,e,_,_=>by cases e
 | .sl _ _,_,_,_,_,_,_,e,_,_=>by cases e
 | .mp _ _ _ _,_,_,_,_,_,_,_,k,k'=>by
  cases k with
  |mp k=>cases k' with
   |mp k'=>rw [hg _ _ k] at k';cases k';rfl
 | .me _ _ _ _,_,_,_,_,_,_,_,k,k'=>by
  cases k with
  |mp k=>cases k' with
   |mp k'=>rw [hg _ _ k] at k';cases k';rfl
 | .pt _ _,_,_,_,_,_,_,_,k,k'=>by
  cases k with
  |ptr k=>cases k' with
   |ptr k'=>rw [hg _ _ k] at k';cases k';rfl
theorem N5(hg: ∀i a,γ i=some a→δ i=some a): ∀ (fs:List Sp) (x:Sp.Ts fs) (h:Sp.Hs fs) (b q:Nat) {v v':List Value},GO fs=true→ae (aq γ) (pI false fs x h b q) v→ae (aq δ) (pI false fs x h b q) v'→v=v'
 | [],_,_,_,_,_,_,_,k,k'=>by cases k;cases k';rfl
 |s::l,x,h,b,q,v,v',e,k,k'=>by
  simp only [GO,Bool.and_eq_true] at e;simp only [pI] at k k';obtain ⟨u,us,rfl,k1,k2⟩:=k.cons_inv;obtain ⟨u',us',rfl,k3,k4⟩:=k'.cons_inv;rw [a2Y hg s _ _ _ _ e.1 k1 k3,N5 hg l _ _ _ _ e.2 k2 k4]
mutual
theorem a4f(hg: ∀i a,γ i=some a→δ i=some a): ∀ (s:Sp) (x:s.T) (h:s.H) (b q i:Nat) {dz:bG} {o o':Option Obj},noS s=true→(oG false s x h b q)[i]? =some (some dz)→cw γ dz o→cw δ dz o'→o=o'
 | .int _,_,_,_,_,_,_,_,_,_,e,_,_=>by simp [oG] at e
 | .bool,_,_,_,_,_,_,_,_,_,e,_,_=>by simp [oG] at e
 | .cl _,_,_,_,_,_,_,_,_,_,e,_,_=>by simp [oG] at e
 | .str,_,_,_,_,_,_,_,_,_,e,_,_=>by simp [oG] at e
 | .im _,_,_,_,_,_,_,_,_,_,e,_,_=>by simp [oG] at e
 | .ar _ _,_,_,_,_,_,_,_,_,e,_,_,_=>by cases e
 | .sl _ _,_,_,_,_,_,_,_,_,e,_,_,_=>by cases e
 | .mp _ _ _ _,_,_,_,_,i,_,_,_,_,e,k,k'=>by
  cases i with
  |zero=>
   simp only [oG,List.getElem?_cons_zero,Option.some.injEq] at e;subst e;rw [k.1,k'.1]
  |succ i=>simp [oG] at e
 | .me _ _ _ _,_,_,_,_,i,_,_,_,_,e,k,k'=>by
  cases i with
  |zero=>
   simp only [oG,List.getElem?_cons_zero,Option.some.injEq] at e;subst e;rw [k.1,k'.1]
  |succ i=>simp [oG] at e
 | .pt t fs,x,h,b,q,i,_,_,_,hn,e,k,k'=>by
  cases i with
  |zero=>
   simp only [oG,List.getElem?_cons_zero,Option.some.injEq] at e;subst e;obtain ⟨vs,rfl,k1⟩:=k;obtain ⟨vs',rfl,k2⟩:=k';rw [N5 hg fs _ _ _ _ hn k1 k2]
  |succ i=>
   simp only [oG,List.getElem?_cons_succ] at e;exact GK hg fs x h (b+1) q i hn e k k'
theorem GK(hg: ∀i a,γ i=some a→δ i=some a): ∀ (fs:List Sp) (x:Sp.Ts fs) (h:Sp.Hs fs) (b q i:Nat) {dz:bG} {o o':Option Obj},GO fs=true→(aW false fs x h b q)[i]? =some (some dz)→cw γ dz o→cw δ dz o'→o=o'
 | [],_,_,_,_,_,_,_,_,_,e,_,_=>by simp [aW] at e
 |s::l,x,h,b,q,i,_,_,_,hn,e,k,k'=>by
  simp only [GO,Bool.and_eq_true] at hn;simp only [aW] at e;rcases Nat.lt_or_ge i s.cP with hlt|hge
  ·rw [List.getElem?_append_left (by rw [ek];exact hlt)] at e
   exact a4f hg s _ _ _ _ i hn.1 e k k'
  ·rw [List.getElem?_append_right (by rw [ek];exact hge),ek] at e
   exact GK hg l _ _ _ _ _ hn.2 e k k'
end
theorem XJ {mm:Nat→Option bG}: ∀ (s:Sp) (l:Lf) (v:Value) {p:Option Prop} {x:s.T} {ns:List Nat} (b q:Nat),plS s=true→dA mm s l=some (p,x,ns)→ob p→aq γ l v→aq δ (Sd false s x (hD s) b q) v
 | .int k,l,v,p,x,ns,b,q,_,e,_,hl=>by
  unfold dA at e;split at e
  ·split at e
   ·rename_i hk;cases e;have hk:=of_decide_eq_true hk;subst hk;cases hl;exact .int
   ·cases e
  ·cases e
 | .bool,l,v,p,x,ns,b,q,_,e,_,hl=>by
  unfold dA at e;split at e
  ·cases e;cases hl;exact .bool
  ·cases e
 | .cl c,l,v,p,x,ns,b,q,_,e,hp,hl=>by
  unfold dA at e;split at e
  ·rename_i h;cases e;show aq δ c.lf v;cases c with
   |int k n=>
    cases l with
    |int k' kn m=>
     simp only [Ko] at h;split at h
     ·rename_i hk;have hk:=of_decide_eq_true hk;cases h;have hp:m=n:=hp;subst hk hp;cases hl;exact .int
     ·cases h
    |_=>cases h
   |bool q'=>
    cases l with
    |bool kn m=>
     cases h;have hp:m=q':=hp;subst hp;cases hl;exact .bool
    |_=>cases h
   |aj=>
    cases l with
    |aj=>cases hl;exact .aj
    |_=>cases h
   |cb=>
    cases l with
    |cb=>cases hl;exact .cb
    |_=>cases h
  ·cases e
 | .str,l,v,p,x,ns,b,q,_,e,_,hl=>by
  unfold dA at e;split at e
  ·split at e
   ·rename_i bb;cases e;cases hl;show aq _ (.op (dc bb.data.toList)) _;have:dc bb.data.toList= .string bb:=by simp [dc]
    rw [this];exact .op rfl
   ·cases e
  ·cases e
 | .im _,_,_,_,_,_,_,_,e,_,_,_=>by cases e
 | .ar _ _,_,_,_,_,_,_,_,e,_,_,_=>by cases e
 | .sl _ _,_,_,_,_,_,_,_,e,_,_,_=>by cases e
 | .mp _ _ _ _,_,_,_,_,_,_,_,e,_,_,_=>by cases e
 | .me _ _ _ _,_,_,_,_,_,_,_,e,_,_,_=>by cases e
 | .pt _ _,_,_,_,_,_,_,_,e,_,_,_=>by cases e
theorem AL {mm:Nat→Option bG}: ∀ (fs:List Sp) (ls:List Lf) (vs:List Value) {p:Option Prop} {x:Sp.Ts fs} {ns:List Nat} (b q:Nat),Zg fs=true→iF mm fs ls=some (p,x,ns)→ob p→ae (aq γ) ls vs→ae (aq δ) (pI false fs x (hsD fs) b q) vs
 | [],ls,vs,p,x,ns,b,q,_,e,_,hl=>by
  unfold iF at e;split at e
  ·cases e;rw [hl.aI];exact .nil
  ·cases e
 |s::l,ls,vs,p,x,ns,b,q,hp,e,ho,hl=>by
  simp only [Zg,Bool.and_eq_true] at hp;unfold iF at e;split at e
  ·split at e
   ·rename_i h1;split at e
    ·rename_i h2;cases e;obtain ⟨v,vs',rfl,hl1,hl2⟩:=hl.cons_inv;exact .cons (XJ s _ _ _ _ hp.1 h1 (eK ho).1 hl1) (AL l _ _ _ _ hp.2 h2 (eK ho).2 hl2)
    ·cases e
   ·cases e
  ·cases e
theorem JP {mm:Nat→Option bG}: ∀ (aa:List Ap) (vv:List Vv) (vs:List Value) {p:Option Prop} {x:aZ aa} {ns:List Nat} (b:Nat),plA aa=true→mG mm aa vv=some (p,x,ns)→ob p→ae (bC γ) vv vs→ae (bC δ) (avT aa x (haD aa) b) vs
 | [],vv,vs,p,x,ns,b,_,e,_,hl=>by
  unfold mG at e;split at e
  ·cases e;rw [hl.aI];exact .nil
  ·cases e
 |a::l,vv,vs,p,x,ns,b,hp,e,ho,hl=>by
  simp only [plA,Bool.and_eq_true] at hp;unfold mG at e;split at e
  ·split at e
   ·rename_i hls;split at e
    ·rename_i pa xa na h1;split at e
     ·rename_i pb xb nb h2;cases e;obtain ⟨v,vs',rfl,hl1,hl2⟩:=hl.cons_inv;refine .cons ?_ (JP l _ _ _ hp.2 h2 (eK ho).2 hl2);show bC δ (Yq a.1 (pI false a.2 xa (hsD a.2) b 0)) v;cases hl1 with
      |agg hl1=>
       cases ha:a.1 with
       |false=>rw [ha] at hls;cases hls
       |true=>
        rw [ha] at hls;cases hls;exact .agg (AL a.2 _ _ b 0 hp.1 h1 (eK ho).1 hl1)
      |one hl1=>
       cases ha:a.1 with
       |true=>rw [ha] at hls;cases hls
       |false=>
        rw [ha] at hls;cases hls;have k1:=AL (δ:=δ) a.2 _ _ b 0 hp.1 h1 (eK ho).1 (.cons hl1 .nil);generalize pI false a.2 xa (hsD a.2) b 0=L at k1 ⊢;cases k1 with
        |cons k1 k3=>
         cases k3;exact .one k1
     ·cases e
    ·cases e
   ·cases e
  ·cases e
theorem Yc {r:SV} {rs:List Vv} {u:Value}(h:unV r=some rs)(k:Has γ r u) {l:List Vv}(hl: ∀vs,ae (bC γ) rs vs→ae (bC δ) l vs):Has δ (Zf l) u:=by
 unfold unV at h;split at h
 ·cases h;cases k with
  |v k=>
   have:=hl _ (.cons k .nil);cases this with
   |cons k1 k2=>
    cases k2;exact .v k1
 ·split at h
  ·cases h
  ·rename_i hn;cases h;cases k with
   |cz k=>
    have:=hl _ k
    match l,this with
    | [],this=>exact .cz this
    | [a],this=>
     obtain ⟨v1,vs1,rfl,h1,h2⟩:=this.cons_inv;cases h2;cases k with
     |cons k k2=>cases k2;exact absurd rfl (hn _)
    |_::_::_,this=>exact .cz this
 ·cases h
end
def a6T(os:List Sp)(rp:List Ap)(x:Sp.Ts os)(h:Sp.Hs os)(z:aZ rp)(r:SV)(m:Mem):Prop:=match unV r with
 |some rs=>match tJ (bP m) m.length os (a3l os 0) 0 with
  |some (p,x',h',ns)=>match mG (fun _=>none) rp rs with
   |some (q,z',_)=>match Ex os ns 0 with
    |true=>ob p∧ob q∧x'=x∧h'=h∧z'=z
    |false=>False
   |none=>False
  |none=>False
 |none=>False
def qR(fl:List Bool)(os:List Sp)(ps rp:List Ap)(pre:Sp.Ts os→aZ ps→Prop)(res:Sp.Ts os→aZ ps→aZ rp):RC:=fun mm us=>match yl fl us with
 |some (ls,vs)=>match iF mm os ls with
  |some (p,x,ns)=>match mG mm ps vs with
   |some (q,y,nq)=>match iV ns with
    |true=>some (KB (KB p q) (some (pre x y)),Zf (avT rp (res x y) (haD rp) 0))
    |false=>none
   |none=>none
  |none=>none
 |none=>none
section
variable {mm mm':Nat→Option bG}
mutual
theorem VQ(hs: ∀x b,mm x=some b→mm' x=some b): ∀ (s:Sp) (l:Lf) {r:Option Prop×s.T×List Nat},dA mm s l=some r→dA mm' s l=some r
 | .int k,l,r,e=>by unfold dA at e ⊢;exact e
 | .bool,l,r,e=>by unfold dA at e ⊢;exact e
 | .cl _,l,r,e=>by unfold dA at e ⊢;exact e
 | .str,l,r,e=>by unfold dA at e ⊢;exact e
 | .im sh,l,r,e=>by
  unfold dA at e ⊢;split at e
  ·exact e
  ·exact e
  ·rename_i z tg y base sz o n c;cases hy:mm y with
   |none=>rw [hy] at e;cases e
   |some b=>rw [hs _ _ hy];rw [hy] at e;exact e
  ·cases e
 | .ar _ _,l,r,e=>by simp [dA] at e
 | .sl _ _,l,r,e=>by simp [dA] at e
 | .mp ks ka vs va,l,r,e=>by
  unfold dA at e ⊢;split at e
  ·rename_i y;cases hy:mm y with
   |none=>rw [hy] at e;cases e
   |some b=>rw [hs _ _ hy];rw [hy] at e;exact e
  ·cases e
 | .me ks ka vs va,l,r,e=>by
  unfold dA at e ⊢;split at e
  ·rename_i y;cases hy:mm y with
   |none=>rw [hy] at e;cases e
   |some b=>rw [hs _ _ hy];rw [hy] at e;exact e
  ·cases e
 | .pt t fs,l,r,e=>by
  unfold dA at e ⊢;split at e
  ·rename_i y o;cases hy:mm y with
   |none=>rw [hy] at e;cases e
   |some b=>
    rw [hs _ _ hy];rw [hy] at e
    try simp only at e ⊢
    split at e
    ·rename_i ls t' hb;split at e
     ·rename_i hb2;split at e
      ·rename_i hd;rw [qw hs fs _ hd];exact e
      ·cases e
     ·cases e
    ·cases e
  ·cases e
theorem qw(hs: ∀x b,mm x=some b→mm' x=some b): ∀ (fs:List Sp) (ls:List Lf) {r:Option Prop×Sp.Ts fs×List Nat},iF mm fs ls=some r→iF mm' fs ls=some r
 | [],ls,r,e=>by unfold iF at e ⊢;exact e
 |s::l,ls,r,e=>by
  unfold iF at e ⊢;split at e
  ·split at e
   ·rename_i h1;rw [VQ hs s _ h1];split at e
    ·rename_i h2;rw [qw hs l _ h2];exact e
    ·cases e
   ·cases e
  ·cases e
end
theorem E1(hs: ∀x b,mm x=some b→mm' x=some b): ∀ (aa:List Ap) (vs:List Vv) {r:Option Prop×aZ aa×List Nat},mG mm aa vs=some r→mG mm' aa vs=some r
 | [],vs,r,e=>by unfold mG at e ⊢;exact e
 |a::l,vs,r,e=>by
  unfold mG at e ⊢;split at e
  ·split at e
   ·rename_i hls;split at e
    ·rename_i h1;rw [qw hs _ _ h1];split at e
     ·rename_i h2;rw [E1 hs l _ h2];exact e
     ·cases e
    ·cases e
   ·cases e
  ·cases e
end
theorem Bu {β:Nm}: ∀ {fl:List Bool} {us:List SV} {p:List Lf} {q:List Vv} {vals:List Value},yl fl us=some (p,q)→ae (Has β) us vals→ ∃lv pv,ae (aq β) p lv∧ae (bC β) q pv∧ ∀ (δ:Nm) p' q',ae (aq δ) p' lv→ae (bC δ) q' pv→ae (Has δ) (joA fl p' q') vals
 | [],us,p,q,vals,h,k=>by
  unfold yl at h;split at h
  ·cases h;rw [k.aI];exact ⟨[],[],.nil,.nil,fun _ _ _ _ _=> .nil⟩
  ·cases h
 |true::l,us,p,q,vals,h,k=>by
  unfold yl at h;split at h
  ·split at h
   ·rename_i h1;cases h;obtain ⟨v,vs,rfl,k1,k2⟩:=k.cons_inv;obtain ⟨lv,pv,a1,a2,a3⟩:=Bu h1 k2;cases k1 with
    |v k1=>cases k1 with
     |one k1=>
      refine ⟨v::lv,pv,.cons k1 a1,a2,fun δ p' q' b1 b2=>?_⟩;cases b1 with
      |cons c1 c2=>exact .cons (.v (.one c1)) (a3 δ _ _ c2 b2)
   ·cases h
  ·cases h
 |false::l,us,p,q,vals,h,k=>by
  unfold yl at h;split at h
  ·split at h
   ·rename_i h1;cases h;obtain ⟨v,vs,rfl,k1,k2⟩:=k.cons_inv;obtain ⟨lv,pv,a1,a2,a3⟩:=Bu h1 k2;cases k1 with
    |v k1=>
     refine ⟨lv,v::pv,a1,.cons k1 a2,fun δ p' q' b1 b2=>?_⟩;cases b2 with
     |cons c1 c2=>exact .cons (.v c1) (a3 δ _ _ b1 c2)
   ·cases h
  ·cases h
theorem aD {C:Ctx}(hC:C.Ok) {f:FuncId} {fn:Func}(hfn:C.P.funcs[f]? =some fn)(hname:(fn.name== "runtime.NumGoroutine")=false)(hbody:fn.body.isNone=false) {fl:List Bool} {os:List Sp} {ps rp:List Ap} {pre:Sp.Ts os→aZ ps→Prop} {res:Sp.Ts os→aZ ps→aZ rp}
  (hno:GO os=true) (hap:dj ps=0) (hpl:plA rp=true) (h: ∀x hx y hy,pre x y→ ∃L fuel,Gl (goal C L fuel fn (a2i fl os ps x hx y hy) (aW false os x hx 0 0) (a6T os rp x hx (res x y)))):aB C.P f (qR fl os ps rp pre res):=by
 refine ⟨⟨fn,hfn,hname,hbody⟩,?_⟩;intro β mm us vals p v w hgl hmm hng hst hc hp hv;obtain ⟨M,hS,hM⟩:=hst;have hsub: ∀x b,mm x=some b→bP M x=some b:=fun x b e=>by unfold bP;rw [hM x b e]
 unfold qR at hc;split at hc
 ·rename_i ls vs hsp;split at hc
  ·rename_i p1 x ns hdx;split at hc
   ·rename_i p2 y nq hdy;split at hc
    ·rename_i hnd;cases hc;obtain ⟨hp,hpre⟩:=eK hp;obtain ⟨hp1,hp2⟩:=eK hp;obtain ⟨lv,pv,v1,v2,v3⟩:=Bu hsp hv;have n1:=qj _ _ hdx;obtain ⟨hx,a1,a2⟩:=mq (ρ:=fun i=>ns[i]?) hS os ls lv 0 0 (qw hsub _ _ hdx) hp1 v1 (fun i _=>by rw [Nat.zero_add])
     obtain ⟨hy,b1,_⟩:=DZ (ρ:=fun i=>ns[i]?) hS ps vs pv (Sp.bS os) (E1 hsub _ _ hdy) hp2 v2 (fun i hi=>by omega)
     have hs:=a2F hS hnd (τ:=aW false os x hx 0 0) (by rw [bL,n1]) a2
     obtain ⟨L,fuel,⟨hg⟩⟩:=h x hx y hy hpre;refine (lQ hC hfn hg (v3 _ _ _ a1 b1) hs).mono ?_;rintro e w' ⟨β',s,m',r,hs',hsi,rfl,hr,hR⟩;unfold a6T at hR;split at hR
     ·rename_i rs hrs;split at hR
      ·rename_i p3 x' h' ns' hd';split at hR
       ·rename_i p4 z' nz hz';split at hR
        ·rename_i hcan;obtain ⟨hp3,hp4,rfl,rfl,rfl⟩:=hR;refine ⟨r,rfl,Yc hrs hr fun us k=>JP rp _ _ 0 hpl hz' hp4 k,hsi.os,hsi.tape,hsi.output,hsi.size,fun k hk=>?_⟩;by_cases hin: ∃i,kw (aW false os x' h' 0 0) i∧((oJ β M w).by fun i=>ns[i]?) i=some k
         ·obtain ⟨i,⟨dz,hi,hrw⟩,hk2⟩:=hin;obtain ⟨k',hk',hB⟩:=(hs.dz i dz hi).resolve_left hrw.alive;rw [hk2] at hk';cases hk';have l1:=jI _ _ _ hd';have hmv:=(yF os x' h' 0 0 0 hno).2.2;obtain ⟨_,c2,_⟩:=qv (ρ:=mW) (Nat.le_refl _) (ap:=true) os _ 0 0 hd' hp3 (oq os ns' 0 0 (by omega) hcan (fun i hi=>by rw [Nat.zero_add];rfl) (fun j hj=>by omega))
          rw [(yF os x' h' 0 0 0 hno).2.1] at c2;have h1:=qm c2 hi;obtain ⟨z,c,hz,_,_,_,a,ha,hB'⟩:=(yz hs' h1).resolve_left hrw.alive;have hz:some (0+i)=some z:=hz;rw [Nat.zero_add] at hz;cases hz;rw [hsi.ext i k hk2] at ha;cases ha;exact (GK (γ:=(oJ β M w).by fun i=>ns[i]?) (δ:=β'.by mW) (fun i a e=>hsi.ext i a e) os x' h' 0 0 i hno hi hB hB').symm
         ·exact hsi.frame k hk fun i hi e=>hin ⟨i,hi,e⟩
        ·exact hR.elim
       ·exact hR.elim
      ·exact hR.elim
     ·exact hR.elim
    ·cases hc
   ·cases hc
  ·cases hc
 ·cases hc
end Go.Proofs.YtfdmjoddhjmokaaGreatDoor.Rex
namespace Go.Proofs.YtfdmjoddhjmokaaGreatDoor.Rex
open Go.RowKit
set_option linter.unusedVariables false
set_option linter.unusedSimpArgs false
def Nm.add(β:Nm)(sh0:List Kd)(v0:Value)(xs0:List (Row sh0)):Nm:=⟨β.nm,fun sh v xs=>β.g sh v xs∨(⟨sh,v,xs⟩:(sh:List Kd)×Value×List (Row sh))=⟨sh0,v0,xs0⟩⟩
theorem Nm.Sy(β:Nm)(sh0:List Kd)(v0:Value)(xs0:List (Row sh0)):β.le (β.add sh0 v0 xs0):=⟨fun _ _ h=>h,fun _ _ _ h=> .inl h⟩
theorem Sg {m:Mem} {y x:Nat} {b:bG}(h:(m.set y none)[x]? =some (some b)):x≠y∧m[x]? =some (some b):=by
 rw [List.getElem?_set] at h;split at h
 ·split at h<;>cases h
 ·rename_i hn;exact ⟨fun e=>hn e.symm,h⟩
theorem ur {m:Mem} {y x:Nat}(h:kw (m.set y none) x):x≠y∧kw m x:=by
 obtain ⟨b,h1,h2⟩:=h;exact ⟨(Sg h1).1,b,(Sg h1).2,h2⟩
theorem Zj {m:Mem} {y x:Nat}(h:kn (m.set y none) x):kn m x:=by
 obtain ⟨b,h1,h2⟩:=h;exact ⟨b,(Sg h1).2,h2⟩
theorem M4 {q:Bool} {m:Mem} {y x:Nat}(h:kq q (m.set y none) x):kq q m x:=by
 obtain ⟨b,h1,h2⟩:=h;exact ⟨b,(Sg h1).2,h2⟩
theorem UE {m0 m:Mem} {β0 β:Nm} {w0 w:World}(hS:Sat β m w)(hs:ai m0 β0 w0 m β w) {y tg base tot c:Nat} {z:Bool} {sh:List Kd} {xs:List (Row sh)} {t:TypeId} {v:Value}
  (hb:m[y]? =some (some (.rows false z sh xs base tot t))) (hv:yj β z tg y base sh.length 0 xs.length c v):
  Sat (β.add sh v xs) (m.set y none) w∧ai m0 β0 w0 (m.set y none) (β.add sh v xs) w:=by
 have hle:=β.Sy sh v xs;obtain ⟨v1,v2,v3⟩:=hv;have key:z=false→ ∃a,β y=some a∧cw β (.rows false z sh xs base tot t) w.heap[a]? :=fun hz=>(hS.dz y _ hb).resolve_left fun hd=>by rw [hz] at hd;cases hd.1
 have hro:aN β sh xs:=by
  rcases v3 with ⟨hz,hn,_⟩|⟨hz,_⟩
  ·rw [List.length_eq_zero_iff.1 hn];exact aN.nil
  ·obtain ⟨a,_,_,_,_,_,_,_,_,h⟩:=key hz;exact h
 refine ⟨⟨fun x b hx=>?_,fun x x' a h1 h2 h3 h4=>hS.inj x x' a (ur h1).2 (Zj h2) h3 h4,fun x a h=>?_,hS.gl,fun x a h k=>hS.ng x a (ur h).2 k,?_⟩,?_⟩
 ·obtain ⟨_,hx⟩:=Sg hx;exact (hS.dz x b hx).imp id fun ⟨a,ha,hB⟩=>⟨a,ha,hB.mono hle⟩
 ·rw [List.length_set];exact hS.CC x a h
 ·rintro sh' v' xs' (h|h)
  ·obtain ⟨h0,c',hc,h1⟩:=hS.im sh' v' xs' h;refine ⟨h0.mono hle,c',hc,h1.imp id ?_⟩;rintro ⟨b,ba,vs,t',fz,k1,k2,k3,k4⟩;exact ⟨b,ba,vs,t',fz,k1,k2,k3,fun y' hy=>k4 y' (ur hy).2⟩
  ·cases h;refine ⟨hro.mono hle,c,v2,?_⟩;rcases v3 with ⟨hz,hn,q,hq⟩|⟨hz,b,hyb,hq⟩
   ·exact .inl ⟨List.length_eq_zero_iff.1 hn,q,hq⟩
   ·obtain ⟨a,ha,_,vs,fz,t',hh,hf,hra,_⟩:=key hz;rw [hyb] at ha;cases ha;refine .inr ⟨b,base,vs,t',fz,by rw [hq];simp,hh,⟨Nat.le_refl _,?_,hra.2.2⟩,fun y' hy e=>?_⟩
    ·have:=hra.2.1;have:=Nat.mul_le_mul_right sh.length hra.1;omega
    ·have:=hS.inj y' y b (ur hy).2 ⟨_,hb,fun hd=>by rw [hz] at hd;cases hd.1⟩ e hyb
     exact (ur hy).1 this
 ·refine ⟨⟨fun x b h=>hs.ext x b h,fun sh' v' xs' h=> .inl (hs.ext.g _ _ _ h)⟩,hs.same,by rw [List.length_set];exact hs.len,fun q x h k=>hs.new q x h (M4 k),fun q x h k=>hs.sub q x h (M4 k),hs.os,hs.tape,hs.output,hs.size,hs.frame,?_⟩
  rintro sh' v' xs' (h|h)
  ·exact hs.WR sh' v' xs' h
  ·cases h;rcases v3 with ⟨hz,hn,q,hq⟩|⟨hz,b,hyb,hq⟩
   ·exact .inr (.inl (List.length_eq_zero_iff.1 hn))
   ·refine .inr (.inr fun b' o n c' e=>?_);rw [hq] at e;simp only [Value.slice.injEq,Option.some.injEq] at e;obtain ⟨e,_,_⟩:=e;have e:b=b':=by cases e;rfl
    subst e;have hk:kq true m y:=⟨_,hb,rfl,hz⟩;rcases Nat.lt_or_ge y m0.length with hy|hy
    ·exact .inr (.inl ⟨y,hs.sub true y hy hk,by rw [←hs.same y hy];exact hyb⟩)
    ·obtain ⟨a,ha,h⟩:=hs.new true y hy hk;rw [hyb] at ha;cases ha;exact h.imp id fun ⟨y',h1,h2⟩=> .inl ⟨y',h1,h2⟩
def Xj(m:Mem):Lf→Option (Nat×Prop×(Value→Lf))
 | .rs z tg y base sz o n c=>match bP m y with
  |some (.rows ro z' sh xs base' tot t)=>match !ro&&(Nat.beq o 0&&(Nat.beq base base'&&Nat.beq sz sh.length)) with
   |true=>some (y,n=xs.length∧z'=z,fun v=> .gv sh v xs)
   |false=>none
  |_=>none
 |_=>none
def Of(m:Mem):List Lf→Option (Nat×Prop×(Value→List Lf))
 | []=>none
 |l::ls=>match Xj m l with
  |some (y,p,f)=>some (y,p,fun v=>f v::ls)
  |none=>match Of m ls with
   |some (y,p,f)=>some (y,p,fun v=>l::f v)
   |none=>none
def Zh(m:Mem):Vv→Option (Nat×Prop×(Value→Vv))
 | .one l=>match Xj m l with
  |some (y,p,f)=>some (y,p,fun v=> .one (f v))
  |none=>none
 | .agg ls=>match Of m ls with
  |some (y,p,f)=>some (y,p,fun v=> .agg (f v))
  |none=>none
def a46(m:Mem):SV→Option (Nat×Prop×(Value→SV))
 | .v x=>match Zh m x with
  |some (y,p,f)=>some (y,p,fun v=> .v (f v))
  |none=>none
 | .cz l=>match l with
  |x::l=>match Zh m x with
   |some (y,p,f)=>some (y,p,fun v=> .cz (f v::l))
   |none=>none
  | []=>none
 |_=>none
def frz(c:MC):MC:=fun us m K=>c us m fun r m'=>match a46 m' r with
 |some (y,p,f)=>p∧ ∀v,K (f v) (m'.set y none)
 |none=>K r m'
def Frz {A B:Type}(H:Nm→A→B→Prop)(m:Mem)(β:Nm)(y:Nat)(f:Value→A)(v:B):Prop:= ∃ (u:Value) (z:Bool) (tg base tot c:Nat) (sh:List Kd) (xs:List (Row sh)) (t:TypeId),m[y]? =some (some (.rows false z sh xs base tot t))∧yj β z tg y base sh.length 0 xs.length c u∧ ∀δ:Nm,β.le δ→δ.im sh u xs→H δ (f u) v
section
variable {m:Mem} {β:Nm}
theorem Jz {l:Lf} {v:Value} {y:Nat} {p:Prop} {f:Value→Lf}(e:Xj m l=some (y,p,f))(hp:p)(h:aq β l v):Frz aq m β y f v:=by
 unfold Xj at e;split at e
 ·rename_i z tg y' base sz o n c;split at e
  ·rename_i ro z' sh xs base' tot t hm;split at e
   ·rename_i hb;cases e;simp only [Bool.and_eq_true,Bool.not_eq_true'] at hb;obtain ⟨hro,ho,hba,hsz⟩:=hb;obtain ⟨hn,hz⟩:=hp;have ho:=Nat.eq_of_beq_eq_true ho;have hba:=Nat.eq_of_beq_eq_true hba;have hsz:=Nat.eq_of_beq_eq_true hsz;subst hro ho hba hsz hn hz;have hs:=h.kT;cases h with
    |rs h=>exact ⟨v,_,tg,_,tot,c,sh,xs,t,aH hm,h,fun δ _ hd=> .gv hd hs⟩
   ·cases e
  ·cases e
 ·cases e
theorem Dl: ∀ {l:List Lf} {v:List Value} {y:Nat} {p:Prop} {f:Value→List Lf},Of m l=some (y,p,f)→p→ae (aq β) l v→Frz (fun δ=>ae (aq δ)) m β y f v
 | [],_,_,_,_,e,_,_=>by cases e
 |l::ls,v,y,p,f,e,hp,h=>by
  obtain ⟨b,bs,rfl,h1,h2⟩:=h.cons_inv;unfold Of at e;split at e
  ·rename_i e1;cases e;obtain ⟨u,z,tg,base,tot,c,sh,xs,t,k1,k2,k3⟩:=Jz e1 hp h1;exact ⟨u,z,tg,base,tot,c,sh,xs,t,k1,k2,fun δ hl hd=> .cons (k3 δ hl hd) (h2.mono fun _ _=>aq.mono hl)⟩
  ·split at e
   ·rename_i e1;cases e;obtain ⟨u,z,tg,base,tot,c,sh,xs,t,k1,k2,k3⟩:=Dl e1 hp h2;exact ⟨u,z,tg,base,tot,c,sh,xs,t,k1,k2,fun δ hl hd=> .cons (h1.mono hl) (k3 δ hl hd)⟩
   ·cases e
theorem HN {l:Vv} {v:Value} {y:Nat} {p:Prop} {f:Value→Vv}(e:Zh m l=some (y,p,f))(hp:p)(h:bC β l v):Frz bC m β y f v:=by
 unfold Zh at e;split at e
 ·split at e
  ·rename_i e1;cases e;cases h with
   |one h=>
    obtain ⟨u,z,tg,base,tot,c,sh,xs,t,k1,k2,k3⟩:=Jz e1 hp h;exact ⟨u,z,tg,base,tot,c,sh,xs,t,k1,k2,fun δ hl hd=> .one (k3 δ hl hd)⟩
  ·cases e
 ·split at e
  ·rename_i e1;cases e;cases h with
   |agg h=>
    obtain ⟨u,z,tg,base,tot,c,sh,xs,t,k1,k2,k3⟩:=Dl e1 hp h;exact ⟨u,z,tg,base,tot,c,sh,xs,t,k1,k2,fun δ hl hd=> .agg (k3 δ hl hd)⟩
  ·cases e
theorem UW {l:SV} {v:Value} {y:Nat} {p:Prop} {f:Value→SV}(e:a46 m l=some (y,p,f))(hp:p)(h:Has β l v):Frz Has m β y f v:=by
 unfold a46 at e;split at e
 ·split at e
  ·rename_i e1;cases e;cases h with
   |v h=>
    obtain ⟨u,z,tg,base,tot,c,sh,xs,t,k1,k2,k3⟩:=HN e1 hp h;exact ⟨u,z,tg,base,tot,c,sh,xs,t,k1,k2,fun δ hl hd=> .v (k3 δ hl hd)⟩
  ·cases e
 ·split at e
  ·split at e
   ·rename_i e1;cases e;cases h with
    |cz h=>
     obtain ⟨b,bs,rfl,h1,h2⟩:=h.cons_inv;obtain ⟨u,z,tg,base,tot,c,sh,xs,t,k1,k2,k3⟩:=HN e1 hp h1;exact ⟨u,z,tg,base,tot,c,sh,xs,t,k1,k2,fun δ hl hd=> .cz (.cons (k3 δ hl hd) (h2.mono fun _ _=>bC.mono hl))⟩
   ·cases e
  ·cases e
 ·cases e
end
theorem DD {P:Program} {f:FuncId} {c:MC}(h:ab P f c):ab P f (frz c):=by
 refine ⟨h.1,fun β args vals m w K hc ha hS=>?_⟩;refine (h.2 β args vals m w _ hc ha hS).mono ?_;rintro e w' ⟨β',v,m',r,hS',hs,rfl,hr,hk⟩;split at hk
 ·rename_i y p g hq;obtain ⟨hp,hk⟩:=hk;obtain ⟨u,z,tg,base,tot,c',sh,xs,t,k1,k2,k3⟩:=UW hq hp hr;obtain ⟨q1,q2⟩:=UE hS' hs k1 k2;exact ⟨_,g u,_,r,q1,q2,rfl,k3 _ (β'.Sy sh u xs) (.inl (.inr rfl)),hk u⟩
 ·exact ⟨β',v,m',r,hS',hs,rfl,hr,hk⟩
def orC(c d:MC):MC:=fun us m K=>c us m K∨d us m K
theorem jD {P:Program} {f:FuncId} {c d:MC}(h:ab P f c)(k:ab P f d):ab P f (orC c d):=
 ⟨h.1,fun β args vals m w K hc ha hS=>hc.elim (fun e=>h.2 β args vals m w K e ha hS) fun e=>k.2 β args vals m w K e ha hS⟩
end Go.Proofs.YtfdmjoddhjmokaaGreatDoor.Rex
namespace Go.Proofs.YtfdmjoddhjmokaaGreatDoor
open Go.RowKit Rex
theorem a4u:Tryz.prog.follows .mixedOrders=true:=by kernel_rfl
noncomputable def Γ0:List (FuncId×FX):= []
theorem ok0:Ci Tryz.prog Γ0:=Ci.nil _
noncomputable def Δ0:List (FuncId×MC):= []
theorem ac7:CX Tryz.prog Δ0:=CX.nil _
noncomputable def B0:List (FuncId×BC):= []
theorem abM:BOk Tryz.prog B0:=BOk.nil _
end Go.Proofs.YtfdmjoddhjmokaaGreatDoor
namespace Go.Proofs.YtfdmjoddhjmokaaGreatDoor.Rex
open Go.RowKit
set_option linter.unusedVariables false
def a7y:Lf→Bool
 | .int _ kn _=>kn
 | .bool kn _=>kn
 | .aj=>true
 | .cb=>true
 |_=>false
def vKn:Vv→Bool
 | .one l=>a7y l
 | .agg ls=>ls.all a7y
def abj:SV→Bool
 | .v x=>vKn x
 |_=>false
def knL(q:Bool):Lf→Lf
 | .int k kn n=> .int k (kn||q) n
 | .bool kn b=> .bool (kn||q) b
 |l=>l
def knV(q:Bool):Vv→Vv
 | .one l=> .one (knL q l)
 | .agg ls=> .agg (ls.map (knL q))
def knS(q:Bool):SV→SV
 | .v x=> .v (knV q x)
 | .cz l=> .cz (l.map (knV q))
 |s=>s
def Ry(c:FC):FC:=fun us=>match c us with
 |some (p,s)=>some (p,knS (us.all abj) s)
 |none=>none
section
variable {β:Nm} {q:Bool}
theorem Mk {l:Lf} {v:Value}(h:aq β l v):aq β (knL q l) v:=by
 cases h with
 |int=>exact .int
 |bool=>exact .bool
 |ptr e=>exact .ptr e
 |cb=>exact .cb
 |sl e=>exact .sl e
 |aj=>exact .aj
 |op e=>exact .op e
 |bX e=>exact .bX e
 |rs e=>exact .rs e
 |rp e=>exact .rp e
 |gv e k=>exact .gv e k
 |imp e k=>exact .imp e k
 |mp e=>exact .mp e
 |xW e=>exact .xW e
theorem Jo: ∀ {l:List Lf} {v:List Value},ae (aq β) l v→ae (aq β) (l.map (knL q)) v
 | [],_,h=>by rw [h.aI];exact .nil
 |a::l,v,h=>by
  obtain ⟨b,bs,rfl,h1,h2⟩:=h.cons_inv;exact .cons (Mk h1) (Jo h2)
theorem Mu {l:Vv} {v:Value}(h:bC β l v):bC β (knV q l) v:=by
 cases h with
 |one h=>exact .one (Mk h)
 |agg h=>exact .agg (Jo h)
theorem Ix: ∀ {l:List Vv} {v:List Value},ae (bC β) l v→ae (bC β) (l.map (knV q)) v
 | [],_,h=>by rw [h.aI];exact .nil
 |a::l,v,h=>by
  obtain ⟨b,bs,rfl,h1,h2⟩:=h.cons_inv;exact .cons (Mu h1) (Ix h2)
theorem Xo {l:SV} {v:Value}(h:Has β l v):Has β (knS q l) v:=by
 cases h with
 |v h=>exact .v (Mu h)
 |cz h=>exact .cz (Ix h)
 |lO h=>exact .lO h
 |bX=>exact .bX
 |xX h=>exact .xX h
end
theorem dP {P:Program} {f:FuncId} {c:FC}(h:bf P f c):bf P f (Ry c):=by
 refine ⟨h.1,fun β args vals p v w hG hc hp ha=>?_⟩;unfold Ry at hc;split at hc
 ·rename_i p' s hs;cases hc;refine (h.2 β args vals p s w hG hs hp ha).mono ?_;rintro e w' ⟨r,rfl,hr,he⟩;exact ⟨r,rfl,Xo hr,he⟩
 ·cases hc
end Go.Proofs.YtfdmjoddhjmokaaGreatDoor.Rex
namespace Go.Proofs.YtfdmjoddhjmokaaGreatDoor
open Go.RowKit Rex
theorem cl:(∀ {α:Type} (a:α),(a=a)=True)∧(∀p:Prop,(True∧p)=p)∧(∀p:Prop,(p∧True)=p)∧(∀p:Prop,(p∧p)=p)∧(∀ {a b c:Prop},(a∧b→c)↔(a→b→c))∧(∀p:Prop,(True→p)=p)∧(∀ {α:Type},(α→True)=True)∧(∀p:Prop,(p→True)=True)∧(∀ {α:Type} {b:Prop} [Nonempty α],(α→b)↔b)∧(∀ {p b:Prop},Nonempty p→((p→b)↔b))∧(∀ {α:Type} (l:List α),l.take l.length=l)∧(∀ {p:Prop} [Decidable p],(decide p=true)=p)∧(∀ {p:Prop} {_:Decidable p},(decide p=false)↔ ¬p)∧(∀ {α:Type} [BEq α] [LawfulBEq α] {a b:α},(a==b)=true↔a=b)∧(∀ {α:Type} [BEq α] [LawfulBEq α] (a b:α),(a==b)=false↔a≠b)∧(∀ {α:Type} [BEq α] [LawfulBEq α] {a b:α},(a !=b)=true↔a≠b)∧(∀ {α:Type} [BEq α] [LawfulBEq α] {a b:α},(a !=b)=false↔a=b)∧(∀ {b:Bool},((!b)=true)=(b=false))∧(∀ {b:Bool},((!b)=false)=(b=true))∧(∀ {α:Type} (a b:α),(a≠b)= ¬(a=b))∧(¬True)=False∧(¬False)=True∧((OfNat.ofNat (0:Nat):Int)=0)∧ ∀n:Nat,(n:Int).toNat=n:=by
 (repeat' apply And.intro)<;>intros<;>simp_all
structure DL where
 l:List (FuncId×MC)
 ok:CX Tryz.prog l
def DL.add(d:DL)(f:FuncId) {c:MC}(h:ab Tryz.prog f c):DL:=⟨(f,c)::d.l,CX.cons h d.ok⟩
structure GL where
 l:List (FuncId×FX)
 ok:Ci Tryz.prog l
def GL.rd(d:GL)(f:FuncId) {c:RC}(h:aB Tryz.prog f c):GL:=⟨(f,.read c)::d.l,Ci.cons (c:= .read c) h d.ok⟩
def GL.pu(d:GL)(f:FuncId) {c:FC}(h:bf Tryz.prog f c):GL:=⟨(f,.pure c)::d.l,Ci.cons (c:= .pure c) h d.ok⟩
noncomputable def D0:DL:=⟨Δ0,ac7⟩
noncomputable def G0:GL:=⟨Γ0,ok0⟩
theorem cx(M:Md)(N:List FuncId)(G:GL)(D:DL):Ctx.Ok ⟨M,Tryz.prog,G.l,D.l,B0,none,false,N,none⟩:=Ctx.a3a (M:=M) (N:=N) a4u G.ok D.ok abM
def jk:List (Nat×SV)→Nat→List SV
 | [],n=>List.replicate n .bX
 |(k,v)::l,n=>List.replicate k .bX++v::jk l (n-k-1)
open Go.RowKit Rex
set_option linter.unusedVariables false
def dZ {sh:List Kd}(l:List (Row sh))(first n:Int):Prop:=0<l.length∧l.length≤4096∧0≤first∧first<l.length∧0≤n∧n≤l.length
def rQ {sh:List Kd}(l:List (Row sh))(first n:Int):List (Row sh):=(List.range n.toNat).map fun i=>al l ((first.toNat+i)%l.length)
section
variable {sh:List Kd} {l:List (Row sh)} {first n:Int}
theorem mC:(rQ l first n).length=n.toNat:=by simp [rQ]
theorem a2D {i:Nat}(h:i<n.toNat):(rQ l first n)[i]? =some (al l ((first.toNat+i)%l.length)):=by simp [rQ,h]
theorem eT {i j:Nat} {x:Row sh}(hi:i<l.length):al (l.set i x) j=if j=i then x else al l j:=by
 unfold al;simp only [List.getD_eq_getElem?_getD,List.getElem?_set];by_cases h:i=j
 ·subst h;simp [hi]
 ·rw [if_neg h,if_neg (fun e=>h e.symm)]
theorem UT {a:Int} {m:Nat}(ha:0≤a):(a.tmod m).toNat=a.toNat %m:=by
 obtain ⟨k,rfl⟩:=Int.eq_ofNat_of_zero_le ha;rw [Int.tmod_eq_emod_of_nonneg (by omega)]
 simp only [Int.toNat_natCast];omega
theorem tD {f i j m:Nat}(hi:i<m)(hj:j<m)(h:(f+i)%m=(f+j)%m):i=j:=by
 have h1:=Nat.div_add_mod (f+i) m;have h2:=Nat.div_add_mod (f+j) m;rcases Nat.lt_trichotomy ((f+i)/ m) ((f+j)/ m) with c|c|c
 ·have:m*((f+i)/ m)+m≤m*((f+j)/ m):=by rw [←Nat.mul_succ];exact Nat.mul_le_mul_left _ c
  omega
 ·rw [c] at h1;omega
 ·have:m*((f+j)/ m)+m≤m*((f+i)/ m):=by rw [←Nat.mul_succ];exact Nat.mul_le_mul_left _ c
  omega
theorem bO(h:dZ l first n) {i:Int}(hi:0≤i):0≤(first+i).tmod l.length∧(first+i).tmod l.length<l.length∧((first+i).tmod l.length).toNat<l.length∧((first+i).tmod l.length).toNat=(first.toNat+i.toNat)%l.length:=by
 obtain ⟨h1,h2,h3,h4,h5,h6⟩:=h;have h7:=UT (a:=first+i) (m:=l.length) (by omega)
 have h8:=Nat.mod_lt (first+i).toNat h1;have h9:0≤(first+i).tmod l.length:=Int.tmod_nonneg _ (by omega)
 have h10:(first+i).toNat=first.toNat+i.toNat:=by omega
 rw [h10] at h7 h8;exact ⟨h9,by omega,by omega,h7⟩
theorem Ay(h:dZ l first n):((first+0).tmod l.length).toNat=first.toNat:=by
 have h':=(bO h (i:=0) (by omega)).2.2.2
 rw [h'];obtain ⟨h1,h2,h3,h4,h5,h6⟩:=h;exact Nat.mod_eq_of_lt (by omega)
theorem Mh(h:dZ l first n)(i:Nat)(x:Row sh):dZ (l.set i x) first n:=by
 unfold dZ at h ⊢;simpa using h
theorem Gb(h:dZ l first n)(hn:n<l.length)(x:Row sh):dZ (l.set ((first+n).tmod l.length).toNat x) first (n+1)∧rQ (l.set ((first+n).tmod l.length).toNat x) first (n+1)=rQ l first n++ [x]:=by
 have h':=h;obtain ⟨h1,h2,h3,h4,h5,h6⟩:=h';obtain ⟨p1,p2,p3,p4⟩:=bO h h5;refine ⟨⟨by simpa using h1,by simpa using h2,h3,by simpa using h4,by omega,by simp;omega⟩,?_⟩
 have e1:(n+1).toNat=n.toNat+1:=by omega
 unfold rQ;rw [e1,List.range_succ,List.map_append,List.length_set]
 congr 1
 ·refine List.map_congr_left fun i hi=>?_;have hi:i<n.toNat:=by simpa using hi
  rw [eT p3,if_neg];rw [p4];intro e;have:=tD (by omega) (by omega) e
  omega
 ·simp only [List.map_cons,List.map_nil,List.cons.injEq,and_true];rw [eT p3,if_pos p4.symm]
theorem TU(h:dZ l first n)(hn:0<n)(x:Row sh):dZ (l.set first.toNat x) ((first+1).tmod l.length) (n-1)∧rQ l first n=al l first.toNat::rQ (l.set first.toNat x) ((first+1).tmod l.length) (n-1):=by
 have h':=h;obtain ⟨h1,h2,h3,h4,h5,h6⟩:=h';obtain ⟨p1,p2,p3,p4⟩:=bO h (i:=1) (by omega)
 have p4:((first+1).tmod l.length).toNat=(first.toNat+1)%l.length:=p4;refine ⟨⟨by simpa using h1,by simpa using h2,p1,by simpa using p2,by omega,by simp;omega⟩,?_⟩
 have e1:n.toNat=(n-1).toNat+1:=by omega
 have hf:first.toNat<l.length:=by omega
 unfold rQ;rw [e1,List.range_succ_eq_map,List.map_cons,List.map_map,List.length_set,Nat.add_zero,Nat.mod_eq_of_lt hf]
 congr 1
 refine List.map_congr_left fun i hi=>?_;have hi:i<(n-1).toNat:=by simpa using hi
 simp only [Function.comp];have e2:(((first+1).tmod l.length).toNat+i)%l.length=(first.toNat+(i+1))%l.length:=by
  rw [p4,Nat.mod_add_mod]
  congr 1;omega
 rw [e2,eT hf,if_neg]
 ·intro e;have e:(first.toNat+(i+1))%l.length=(first.toNat+0)%l.length:=by rw [e,Nat.add_zero,Nat.mod_eq_of_lt hf]
  have:=tD (by omega) (by omega) e
  omega
theorem Li(k:Nat)(hk:0<k)(h4:k≤4096)(x:Row sh):dZ (List.replicate k x) 0 0∧rQ (List.replicate k x) 0 0= []:=by
 refine ⟨⟨by simpa using hk,by simpa using h4,by omega,by simpa using hk,by omega,by simp⟩,rfl⟩
def ga(l:List (Row sh))(first:Int):Prop:=0<l.length∧l.length≤4096∧0≤first∧first≤1073741824
abbrev qH(l:List (Row sh))(first f:Int):Prop:=first≤f∧f-first<l.length∧f≤1073741824
def jF(has:Row sh→Bool)(l:List (Row sh))(first:Int):Nat→List (Row [.int .i64])
 |0=> []
 |i+1=>if first+i≤1073741824∧has (al l ((first+i).tmod l.length).toNat)=true then jF has l first i++ [(first+i,())] else jF has l first i
theorem hZ {has:Row sh→Bool} {l:List (Row sh)} {first:Int}: ∀n,(jF has l first n).length≤n
 |0=>Nat.le_refl _
 |n+1=>by
  have:=hZ (has:=has) (l:=l) (first:=first) n;unfold jF;split
  ·rw [List.length_append];simp;omega
  ·omega
def uM(z:Row sh)(l:List (Row sh))(xs:List (Row [.int .i64])):Nat→List (Row sh)
 |0=>l
 |i+1=>(uM z l xs i).set ((al xs i).1.tmod l.length).toNat z
theorem bp {z:Row sh} {l:List (Row sh)} {xs:List (Row [.int .i64])}: ∀n,(uM z l xs n).length=l.length
 |0=>rfl
 |n+1=>by rw [uM,List.length_set,bp n]
def oH(xs:List (Row [.int .i64]))(i:Nat):Int:=(al xs i).1
def Fw(l:List (Row sh))(first:Int)(xs:List (Row [.int .i64])):Prop:= ∀i,i<xs.length→first≤oH xs i∧oH xs i-first<l.length∧oH xs i≤1073741824
def xU(l:List (Row sh))(f:Int):Row sh:=al l (f.tmod l.length).toNat
theorem fQ {i j:Nat} {x:Row sh}(h:j≠i):al (l.set i x) j=al l j:=by
 unfold al;simp only [List.getD_eq_getElem?_getD,List.getElem?_set];rw [if_neg (fun e=>h e.symm)]
theorem Dg {m:Nat} {a b F:Int}(hF:0≤F)(ha:F≤a)(hb:F≤b)(ka:a-F<m)(kb:b-F<m)(h:(a.tmod m).toNat=(b.tmod m).toNat):a=b:=by
 have e1:(a.tmod m).toNat=a.toNat %m:=UT (by omega)
 have e2:(b.tmod m).toNat=b.toNat %m:=UT (by omega)
 have:=tD (f:=F.toNat) (i:=(a-F).toNat) (j:=(b-F).toNat) (m:=m) (by omega) (by omega) (by
  rw [show F.toNat+(a-F).toNat=a.toNat by omega,show F.toNat+(b-F).toNat=b.toNat by omega];omega)
 omega
theorem Lv {z:Row sh} {xs:List (Row [.int .i64])} {f F:Int}(hF:0≤F)(hf:F≤f)(kf:f-F<l.length): ∀n,(∀i,i<n→F≤oH xs i∧oH xs i<f)→xU (uM z l xs n) f=xU l f
 |0,_=>rfl
 |n+1,h=>by
  have ih:=Lv (z:=z) hF hf kf n fun i hi=>h i (by omega)
  have h1:=h n (by omega)
  unfold xU at ih ⊢;rw [uM,List.length_set,fQ,ih];rw [bp];intro e;have:=Dg (m:=l.length) hF hf h1.1 kf (by omega) e
  omega
theorem FF {z:Row sh} {xs:List (Row [.int .i64])}(i:Nat): ∀n,al (uM z l xs n) i=al l i∨al (uM z l xs n) i=z
 |0=> .inl rfl
 |n+1=>by
  rw [uM];by_cases h:((al xs n).1.tmod l.length).toNat=i
  ·by_cases hl:((al xs n).1.tmod l.length).toNat<(uM z l xs n).length
   ·right;rw [eT hl,if_pos h.symm]
   ·rw [List.set_eq_of_length_le (by omega)];exact FF i n
  ·rw [fQ (fun e=>h e.symm)];exact FF i n
def mvd(z:Row sh)(l l':List (Row sh))(first first' to:Int):Prop:=l'.length=l.length∧first'=(if to<first∨1073741824<to then first else to)∧(∀f,first'≤f→f-first<l.length→xU l' f=xU l f)∧ ∀i,al l' i=al l i∨al l' i=z
theorem tM {has:Row sh→Bool} {first:Int}(h0:0≤first): ∀n,n≤l.length→ ∀i,i<(jF has l first n).length→first≤oH (jF has l first n) i∧oH (jF has l first n) i-first<l.length∧oH (jF has l first n) i≤1073741824
 |0,_,i,hi=>by simp [jF] at hi
 |n+1,hn,i,hi=>by
  unfold jF at hi ⊢;split
  ·rename_i hc;rw [if_pos hc] at hi;rw [List.length_append] at hi;rcases Nat.lt_or_ge i (jF has l first n).length with h|h
   ·have:=tM h0 n (by omega) i h
    unfold oH al at this ⊢;rw [List.getD_eq_getElem?_getD,List.getElem?_append_left h,←List.getD_eq_getElem?_getD];exact this
   ·have hi':i-(jF has l first n).length=0:=by simp at hi;omega
    unfold oH al;rw [List.getD_eq_getElem?_getD,List.getElem?_append_right h,hi'];simp only [List.getElem?_cons_zero,Option.getD_some];omega
  ·rename_i hc;rw [if_neg hc] at hi;exact tM h0 n (by omega) i hi
end
end Go.Proofs.YtfdmjoddhjmokaaGreatDoor
namespace Go.Proofs.YtfdmjoddhjmokaaGreatDoor
open Go.RowKit Rex
set_option linter.unusedVariables false
def kK:Nat→Nat→List UInt8
 |0,n=> [UInt8.ofNat n]
 |k+1,n=>if n<128 then [UInt8.ofNat n] else UInt8.ofNat (n %128+128)::kK k (n / 128)
def bY(n:Int):List UInt8:=kK 9 n.toNat
theorem nu {n:Nat}(h:n<128): ∀k,kK k n= [UInt8.ofNat n]
 |0=>rfl
 |k+1=>by rw [kK,if_pos h]
theorem xB: ∀k n,(kK k n).length≤k+1
 |0,n=>by simp [kK]
 |k+1,n=>by
  have:=xB k (n / 128);unfold kK;split
  ·simp
  ·simp only [List.length_cons];omega
theorem ee(n:Int):(bY n).length≤10:=xB 9 _
def oz(l:List UInt8):Nat→Nat×Nat
 |0=>(1,0)
 |i+1=>((oz l i).1+(l.getD i 0).toNat,(oz l i).2+((oz l i).1+(l.getD i 0).toNat))
theorem TD {l:List UInt8}: ∀i,(oz l i).1≤1+255*i∧(oz l i).2≤i*(1+255*i)
 |0=>by simp [oz]
 |i+1=>by
  have h:=TD (l:=l) i;have hb:(l.getD i 0).toNat≤255:=by have:=(l.getD i 0).toNat_lt;omega
  have e1:i*(1+255*i)≤i*(1+255*(i+1)):=Nat.mul_le_mul_left _ (by omega)
  have e2:(i+1)*(1+255*(i+1))=i*(1+255*(i+1))+(1+255*(i+1)):=Nat.succ_mul i _;refine ⟨by simp only [oz];omega,?_⟩
  simp only [oz];rw [e2];exact Nat.add_le_add (Nat.le_trans h.2 e1) (by omega)
def iN(l:List UInt8):Int:=((oz l l.length).2 %65521*65536+(oz l l.length).1 %65521:Nat)
theorem dQ(l:List UInt8):0≤iN l∧iN l≤4294967295:=by unfold iN;omega
def kI(n:Int):List UInt8:= [UInt8.ofNat (n.toNat / 16777216 %256),UInt8.ofNat (n.toNat / 65536 %256),UInt8.ofNat (n.toNat / 256 %256),UInt8.ofNat (n.toNat %256)]
def fM(n:Int):List UInt8:= [UInt8.ofNat (n.toNat / 256 %256),UInt8.ofNat (n.toNat %256)]
def dL(l:List UInt8):List UInt8:=l++kI (iN l)
def G9(n:Int):List UInt8:=dL (80::1::kI n)
def v8(n:Int):List UInt8:=dL (80::2::kI n)
def zx(s a n:Int):List UInt8:=dL (80::3::(fM s++(fM a++(bY n++(0::bY n)))))
def Ae(s n:Int):List UInt8:=dL (80::4::(fM s++kI n))
def Fx(a:Int):List UInt8:=dL (80::5::fM a)
def uU(s n:Int):List UInt8:=dL (80::6::(fM s++bY n))
end Go.Proofs.YtfdmjoddhjmokaaGreatDoor
namespace Go.Proofs.YtfdmjoddhjmokaaGreatDoor
open Go.RowKit Rex
set_option linter.unusedVariables false
theorem ZC {x:Int}(h0:0≤x)(h1:x<128):IntKind.u8.wrap ((BitVec.ofInt 8 x ||| BitVec.ofInt 8 128).toNat:Int)=x+128:=by
 obtain ⟨k,rfl⟩:=Int.eq_ofNat_of_zero_le h0;have hk:k<128:=by omega
 exact (by decide: ∀k:Fin 128,IntKind.u8.wrap ((BitVec.ofInt 8 (k.val:Int) ||| BitVec.ofInt 8 128).toNat:Int)=(k.val:Int)+128) ⟨k,hk⟩
theorem pd {w:Nat} {a:Int}(h0:0≤a)(h:a<2^w):(BitVec.ofInt w a).toNat=a.toNat:=by
 obtain ⟨k,rfl⟩:=Int.eq_ofNat_of_zero_le h0;have hk:k<2^w:=by exact_mod_cast h
 rw [BitVec.ofInt_natCast,BitVec.toNat_ofNat,Int.toNat_natCast];exact Nat.mod_eq_of_lt hk
theorem orW {k:IntKind} {w i:Nat} {a b:Int}(ha:0≤a)(hb:0≤b)(hbi:b<2^i)(hr:aL k (a*2^i+b))(hw:a*2^i+b<2^w):k.wrap ((BitVec.ofInt w (a*2^i) ||| BitVec.ofInt w b).toNat:Int)=a*2^i+b:=by
 have hm:0≤a*2^i:=Int.mul_nonneg ha (Int.le_of_lt (Int.pow_pos (by decide)))
 rw [BitVec.toNat_or,pd hm (by omega),pd hb (by omega)]
 obtain ⟨x,rfl⟩:=Int.eq_ofNat_of_zero_le ha;obtain ⟨y,rfl⟩:=Int.eq_ofNat_of_zero_le hb;have hy:y<2^i:=by exact_mod_cast hbi
 have e1:((x:Int)*2^i).toNat=x <<< i:=by
  rw [Nat.shiftLeft_eq,show ((x:Int)*2^i)=((x*2^i:Nat):Int) by push_cast;rfl,Int.toNat_natCast]
 have e2:((x <<< i ||| y:Nat):Int)=(x:Int)*2^i+y:=by
  rw [←Nat.shiftLeft_add_eq_or_of_lt hy x,Nat.shiftLeft_eq];push_cast;rfl
 rw [e1,Int.toNat_natCast,e2];exact dn hr
theorem or0 {k:IntKind} {w:Nat} {a:Int}(ha:0≤a)(hr:aL k a)(hw:a<2^w):k.wrap ((BitVec.ofInt w 0 ||| BitVec.ofInt w a).toNat:Int)=a:=by
 rw [BitVec.toNat_or,pd ha hw,show (BitVec.ofInt w 0).toNat=0 by simp,Nat.zero_or,Int.toNat_of_nonneg ha]
 exact dn hr
theorem Ky(l:List UInt8)(i:Nat):0≤cG l i∧cG l i≤255:=by
 unfold cG;have:=(l.getD i 0).toNat_lt;omega
theorem uR {k n:Nat}(h: ¬n<128):kK (k+1) n=UInt8.ofNat (n %128+128)::kK k (n / 128):=by rw [kK,if_neg h]
theorem dC(a b:List (Row [.int .u8])):bw (a++b)=bw a++bw b:=by unfold bw;rw [List.map_append]
end Go.Proofs.YtfdmjoddhjmokaaGreatDoor
namespace Go.Proofs.YtfdmjoddhjmokaaGreatDoor
open Go.RowKit Rex
set_option linter.unusedVariables false
set_option linter.unusedSimpArgs false
set_option maxRecDepth 100000
abbrev zh:Sp:= .pt 311 [.im [.int .u8],.int .i64,.int .i64]
abbrev ig:Type:=(List (Row [.int .u8])×Int×Int×Unit)
abbrev oD:Sp:= .pt 311 [.ar [.int .u8] 5,.int .i64,.int .i64]
abbrev iC:Type:=(List (Row [.int .u8])×Int×Int×Unit)
abbrev Gz:Sp:= .pt 301 [.im [.str],.int .i64,.int .i64]
abbrev sq:Type:=(List (Row [.str])×Int×Int×Unit)
abbrev dh:Sp:= .pt 301 [.ar [.str] 9,.int .i64,.int .i64]
abbrev uo:Type:=(List (Row [.str])×Int×Int×Unit)
def FI(x:(Unit))(y:((Int×Unit)×Unit)):Prop:=True
def yK(x:(Unit))(y:((Int×Unit)×Unit)):((Bool×Unit)×Unit):=((decide (1≤y.1.1∧y.1.1≤4096),()),())
noncomputable def a8e:RC:=qR [false] [] [(false,[.int .i64])] [(false,[.bool])] FI yK
abbrev eL:Type:=Unit
abbrev ck:Type:=Sp.Hs []
abbrev Il:Type:=Bool×Unit
def Q3(a:Bool)(b:Prop):Prop:=a=true→b
def Q4(a:Bool)(b:Prop):Prop:=a=false→b
def Q0(a:Bool)(b c:Prop):Prop:=Q3 a b∧Q4 a c
def Q7(a b c:Prop):Prop:=a∧b∧c
def Q6(a b c d e:Prop):Prop:=Q7 a b (Q7 c d e)
def Q5(a b c d:Prop):Prop:=Q6 True a b c d
def Q1(a:Prop)(b:eL)(c:ck)(d:Prop):Prop:=Q5 a (()=b) (()=c) d
def Q8:Il:=(false,())
def Q2:(Bool×Unit)×Unit:=(Q8,())
theorem a7l:aB Tryz.prog 171 a8e:=by
 refine aD (cx Mx [] G0 D0) Tryz.func171 (by kernel_rfl) (by kernel_rfl) rfl rfl rfl fun (x:(Unit)) h (y:((Int×Unit)×Unit)) k hp=>⟨bK,400,af (q:=Q0 (decide ((1:Int)≤y.1.1)) (Q1 True x h (((decide (y.1.1≤(4096:Int)),()),())=yK x y)) (Q1 True x h (Q2=yK x y))) (by kernel_rfl) ?_⟩
 delta Q7 Q6 Q3 Q4 Q5 Q0 Q1 Q8 Q2;obtain ⟨⟨⟩⟩:=x;obtain ⟨⟨⟩⟩:=h;obtain ⟨⟨(k0:Int),⟨⟩⟩,⟨⟩⟩:=y;obtain ⟨⟨⟨⟩,⟨⟩⟩,⟨⟩⟩:=k
 try dsimp only [yK]
 simp+contextual;omega
noncomputable def TX:=G0.rd 171 a7l
def fD(x:(ig×Unit))(y:((Int×Unit)×Unit)):Prop:=dZ x.1.1 x.1.2.1 x.1.2.2.1∧0≤y.1.1∧y.1.1≤4096
def sT(x:(ig×Unit))(y:((Int×Unit)×Unit)):((Int×Unit)×Unit):=(((x.1.2.1+y.1.1).tmod (List.length x.1.1),()),())
noncomputable def Vx:RC:=qR [true,false] [zh] [(false,[.int .i64])] [(false,[.int .i64])] fD sT
abbrev kG:Type:=List (Row [Kd.int IntKind.u8])
abbrev A4:Type:=Int×Int×Unit
abbrev ky:Type:=(Int×Unit)×Unit
def Qa(a:kG):Int:=(↑a.length:Int)
def Qb(a:ig×Unit):Prop:=((a.1.1,a.1.2.1,a.1.2.2.1,()),())=a
def Qh(a:Int)(b:Nat):Int:=a.tmod (↑b:Int)
def Qg(a:Int):ky:=((a,()),())
def Qf(a b c:Prop):Prop:=Q5 True a b c
def Qi(a:Int):Prop:=aL IntKind.i64 a
def Qd(a b:Int):Prop:=Qi (a+b)
def Qe(a:Int):Prop:=a≠(0:Int)
def Q9(a:A4)(b:ky)(c:Int)(d e:Prop)(f:Nat)(g:ky):Prop:=Q7 (Qd a.1 b.1.1) (Qe c) (Qf d e (Qg (Qh (a.1+b.1.1) f)=g))
def Qk:Unit×Unit:=((),())
def Qj:Unit×Unit×Unit:=((),Qk)
def Qc(a:Sp.Hs [zh]):Prop:=((a.1.1,Qj),())=a
theorem VV:aB Tryz.prog 201 Vx:=by
 refine aD (cx Mx [] TX D0) Tryz.func201 (by kernel_rfl) (by kernel_rfl) rfl rfl rfl fun (x:(ig×Unit)) h (y:((Int×Unit)×Unit)) k hp=>⟨bK,400,af (q:=Q9 x.1.2 y (Qa x.1.1) (Qb x) (Qc h) x.1.1.length (sT x y)) (by kernel_rfl) ?_⟩
 delta Q7 Q6 Qk Q5 Qj Qi Qh Qg Qa Qf Qd Qe Qb Q9 Qc;obtain ⟨⟨l0,(k0:Int),(n0:Int),⟨⟩⟩,⟨⟩⟩:=x;obtain ⟨⟨m0,⟨⟩,⟨⟩,⟨⟩⟩,⟨⟩⟩:=h;obtain ⟨⟨(i:Int),⟨⟩⟩,⟨⟩⟩:=y;obtain ⟨⟨⟨⟩,⟨⟩⟩,⟨⟩⟩:=k
 try dsimp only [sT]
 obtain ⟨⟨h1,h2,h3,h4,h5,h6⟩,h7,h8⟩:=hp;dsimp only at*;simp only [Prod.mk.injEq,and_true,true_and,beq_iff_eq,beq_eq_false_iff_ne,List.length_set,decide_eq_true_eq,decide_eq_false_iff_not,ne_eq,implies_true];simp only [aL,aT,aU];omega
noncomputable def Ep:=TX.rd 201 VV
def W2(x:(ig×Unit))(y:(Unit)):Prop:=True
def C8(x:(ig×Unit))(y:(Unit)):((Int×Unit)×Unit):=((x.1.2.2.1,()),())
noncomputable def a4k:RC:=qR [true] [zh] [] [(false,[.int .i64])] W2 C8
theorem a3e:aB Tryz.prog 137 a4k:=by
 refine aD (cx Mx [] Ep D0) Tryz.func137 (by kernel_rfl) (by kernel_rfl) rfl rfl rfl fun (x:(ig×Unit)) h (y:(Unit)) k hp=>⟨bK,400,af (q:=Qf (Qb x) (Qc h) (Qg x.1.2.2.1=C8 x y)) (by kernel_rfl) ?_⟩
 delta Q7 Q6 Qk Q5 Qj Qg Qf Qb Qc;obtain ⟨⟨l0,(k0:Int),(n0:Int),⟨⟩⟩,⟨⟩⟩:=x;obtain ⟨⟨m0,⟨⟩,⟨⟩,⟨⟩⟩,⟨⟩⟩:=h;obtain ⟨⟨⟩⟩:=y;obtain ⟨⟨⟩⟩:=k
 try dsimp only [C8]
 simp
noncomputable def Mq:=Ep.rd 137 a3e
def Fe(x:(ig×Unit))(y:((Int×Unit)×Unit)):Prop:=dZ x.1.1 x.1.2.1 x.1.2.2.1
def tP(x:(ig×Unit))(y:((Int×Unit)×Unit)):((Int×Unit)×(Bool×Unit)×Unit):=((if 0≤y.1.1∧y.1.1<x.1.2.2.1 then (al x.1.1 ((x.1.2.1+y.1.1).tmod (List.length x.1.1)).toNat).1 else 0,()),(decide (0≤y.1.1∧y.1.1<x.1.2.2.1),()),())
noncomputable def a84:RC:=qR [true,false] [zh] [(false,[.int .i64])] [(false,[.int .u8]),(false,[.bool])] Fe tP
def Qn(a b c d:Prop):Prop:=a∧Q7 b c d
def Qs(a b c:Prop):Prop:=Qn a True b c
def Qr(a b:Prop):Prop:=Qs True a b
def Qp(a:Int)(b:Nat):Nat:=(Qh a b).toNat
def Ql(a:Bool)(b c:Prop):Prop:=Q4 a b∧Q3 a c
def Qt(a:Int):Prop:=(0:Int)≤a
def Qo(a b:Int):Prop:=Qt a∧a<b
def Qm:Int×Unit:=((0:Int),())
def Qq:Il:=(true,())
theorem a7v:aB Tryz.prog 303 a84:=by
 refine aD (cx Mx [] Mq D0) Tryz.func303 (by kernel_rfl) (by kernel_rfl) rfl rfl rfl fun (x:(ig×Unit)) h (y:((Int×Unit)×Unit)) k hp=>⟨bK,400,af (q:=Ql (decide (y.1.1<(0:Int))) (Q0 (decide (x.1.2.2.1≤y.1.1)) (Qf (Qb x) (Qc h) ((Qm,Q2)=tP x y)) (Qn (fD ((x.1.1,x.1.2.1,x.1.2.2.1,()),()) (Qg y.1.1)) (Qo (Qh (x.1.2.1+y.1.1) x.1.1.length) (Qa x.1.1)) (Qp (x.1.2.1+y.1.1) x.1.1.length<x.1.1.length) (Qf (Qb x) (Qc h) ((((al x.1.1 (Qp (x.1.2.1+y.1.1) x.1.1.length)).1,()),Qq,())=tP x y)))) (Qr (Qb x) (Qc h∧(Qm,Q2)=tP x y))) (by kernel_rfl) ?_⟩
 delta Q7 Q6 Qn Qs Q3 Qr Qk Q4 Q5 Q0 Qj Qh Qg Qp Qt Qa Ql Qo Q8 Qf Qm Qq Q2 Qb Qc;obtain ⟨⟨l0,(k0:Int),(m0:Int),⟨⟩⟩,⟨⟩⟩:=x;obtain ⟨⟨n0,⟨⟩,⟨⟩,⟨⟩⟩,⟨⟩⟩:=h;obtain ⟨⟨(i:Int),⟨⟩⟩,⟨⟩⟩:=y;obtain ⟨⟨⟨⟩,⟨⟩⟩,⟨⟩⟩:=k
 try dsimp only [tP]
 have hp:dZ l0 k0 m0:=hp;dsimp only [fD];simp only [Prod.mk.injEq,and_true,true_and,beq_iff_eq,beq_eq_false_iff_ne,List.length_set,decide_eq_true_eq,decide_eq_false_iff_not,ne_eq,implies_true];refine ⟨fun h=>⟨fun h1=>?_,fun h1=>?_⟩,fun h=>?_⟩
 ·rw [if_neg (by omega)];simp;omega
 ·obtain ⟨p1,p2,p3,_⟩:=bO hp (i:=i) (by omega)
  have hp':=hp;obtain ⟨q1,q2,q3,q4,q5,q6⟩:=hp';rw [if_pos (by omega)]
  simp [hp,p1,p2,p3];omega
 ·rw [if_neg (by omega)];simp;omega
noncomputable def vT:=Mq.rd 303 a7v
def OV(x:(iC×Unit))(y:((Int×Unit)×Unit)):Prop:=dZ x.1.1 x.1.2.1 x.1.2.2.1
def nd(x:(iC×Unit))(y:((Int×Unit)×Unit))(x':(iC×Unit))(z:((Int×Unit)×Unit)):Prop:=dZ x'.1.1 x'.1.2.1 x'.1.2.2.1∧List.length x'.1.1=List.length x.1.1∧(x.1.2.2.1=List.length x.1.1→rQ x'.1.1 x'.1.2.1 x'.1.2.2.1=rQ x.1.1 x.1.2.1 x.1.2.2.1∧z.1.1=8)∧(x.1.2.2.1≠List.length x.1.1→rQ x'.1.1 x'.1.2.1 x'.1.2.2.1=rQ x.1.1 x.1.2.1 x.1.2.2.1++ [(y.1.1,())]∧z.1.1=0)
noncomputable def X9:MC:=qC [true,false] [oD] [(false,[.int .u8])] [(false,[.int .i64])] OV nd
abbrev D6:Type:=iC×Unit
abbrev N0:Type:=List (Row [Kd.int IntKind.u8])×Int×Int×Unit
def QC(a b c d:Prop):Prop:=Q6 a b c True d
def QH(a:Int):Int:=a+(1:Int)
def QF(a b:Nat):Prop:=Q7 (a=b) (a=b) (a=b)
def QJ:Prop:=false=false
def QA(a b:Nat):Prop:=a=b∧QJ
def QE(a:Int):Prop:=Qi (QH a)
def Qz(a b c d:Prop):Prop:=Q7 (a∧b) c d
def Qw(a:D6):Nat:=a.1.1.length
def QI:ky:=Qg (0:Int)
def QK(a:Bool)(b c d e:Prop):Prop:=Q0 a (Q7 b c d) e
def Qu(a b:Int)(c d e f:Prop):Prop:=QK (a==b) c d e f
def Qv(a:D6):Int:=a.1.2.2.1
def QL(a:Int)(b:Nat):Prop:=Qo a (↑b:Int)
def QB(a:Int)(b:Nat):Prop:=QL (Qh a b) b
def QD(a:D6)(b:Int):Nat:=Qp (a.1.2.1+b) (Qw a)
def QG(a:D6)(b:ky):Nat:=(a.1.1.set (QD a (Qv a)) (b.1.1,())).length
def Qx(a:D6):Prop:=QF (Qw a) (Qw a)
def Qy(a:D6):N0:=(a.1.1,a.1.2.1,Qv a,())
theorem Ym:ab Tryz.prog 138 X9:=by
 refine ah (cx Mx [] vT D0) Tryz.func138 (by kernel_rfl) (by kernel_rfl) fun (x:(iC×Unit)) h (y:((Int×Unit)×Unit)) k hf hg hp=>⟨bK,400,af (q:=Qu (Qv x) (↑(Qw x):Int) (Qx x) True (nd x y (Qy x,()) (Qg (8:Int))) (Qz (QA (Qw x) (Qw x)) (fD (Qy x,()) (Qg (Qv x))) (QB (x.1.2.1+Qv x) (Qw x)) (QC (QD x (Qv x)<Qw x) (QE (Qv x)) (QF (Qw x) (QG x y)) (nd x y ((x.1.1.set (QD x (Qv x)) (y.1.1,()),x.1.2.1,QH (Qv x),()),()) QI)))) (by kernel_rfl) ?_⟩
 delta Q7 Q6 QC Q3 Q4 QJ Q0 QH QF QK Qi Qh QA Qg Qp Qt QE Qo Qz QL Qw QI Qu Qv QB QD QG Qx Qy;obtain ⟨⟨l0,(k0:Int),(m0:Int),⟨⟩⟩,⟨⟩⟩:=x;obtain ⟨⟨⟨⟩,⟨⟩,⟨⟩,⟨⟩⟩,⟨⟩⟩:=h;obtain ⟨⟨(x:Int),⟨⟩⟩,⟨⟩⟩:=y;obtain ⟨⟨⟨⟩,⟨⟩⟩,⟨⟩⟩:=k
 try dsimp only
 have hp:dZ l0 k0 m0:=hp;have hp':=hp;obtain ⟨h1,h2,h3,h4,h5,h6⟩:=hp';dsimp only [nd,fD];simp only [Prod.mk.injEq,and_true,true_and,beq_iff_eq,beq_eq_false_iff_ne,List.length_set,decide_eq_true_eq,decide_eq_false_iff_not,ne_eq,implies_true];refine ⟨fun h=>⟨hp,fun k=>absurd h k⟩,fun h=>?_⟩;obtain ⟨p1,p2,p3,_⟩:=bO hp h5;obtain ⟨q1,q2⟩:=Gb hp (by omega) (x,())
 exact ⟨⟨hp,h5,by omega⟩,⟨p1,p2⟩,p3,by simp only [aL,aT,aU];omega,q1,fun k=>absurd k h,fun _=>q2⟩
noncomputable def Jv:=D0.add 138 Ym
def TT(x:(iC×Unit))(y:(Unit)):Prop:=dZ x.1.1 x.1.2.1 x.1.2.2.1
def qD(x:(iC×Unit))(y:(Unit))(x':(iC×Unit))(z:((Int×Unit)×(Bool×Unit)×Unit)):Prop:=dZ x'.1.1 x'.1.2.1 x'.1.2.2.1∧List.length x'.1.1=List.length x.1.1∧z.2.1.1=decide (0<x.1.2.2.1)∧(x.1.2.2.1=0→rQ x'.1.1 x'.1.2.1 x'.1.2.2.1= [])∧(x.1.2.2.1≠0→rQ x.1.1 x.1.2.1 x.1.2.2.1=(z.1.1,())::rQ x'.1.1 x'.1.2.1 x'.1.2.2.1)
noncomputable def a21:MC:=qC [true] [oD] [] [(false,[.int .u8]),(false,[.bool])] TT qD
def QR(a b:Prop):Prop:=Q7 a True b
def QQ(a:Int):Int:=a-(1:Int)
def QS(a b:Int):Prop:=Qi (a-b)
def QO(a:Int):Prop:=QS a (1:Int)
def QM(a:D6):Bool:=decide ((0:Int)≤(0:Int)∧(0:Int)<(Qv a))
def QN(a:D6):Nat:=(a.1.1.set a.1.2.1.toNat ((0:Int),())).length
def QP(a:D6)(b:eL)(c:N0):Prop:=qD a b (c,()) ((if (0:Int)≤(0:Int)∧(0:Int)<(Qv a) then (al a.1.1 (QD a (0:Int))).1 else (0:Int),()),(QM a,()),())
theorem a3E:ab Tryz.prog 272 a21:=by
 refine ah (cx Mx [] vT Jv) Tryz.func272 (by kernel_rfl) (by kernel_rfl) fun (x:(iC×Unit)) h (y:(Unit)) k hf hg hp=>⟨bK,400,af (q:=Qz (QA (Qw x) (Qw x)) (Fe (Qy x,()) QI) (Q3 (QM x) (Q7 (QL x.1.2.1 (Qw x)) (x.1.2.1.toNat<Qw x) (QC (QA (Qw x) (QN x)∧fD ((x.1.1.set x.1.2.1.toNat ((0:Int),()),x.1.2.1,Qv x,()),()) (Qg (1:Int))) (QO (Qv x)) (QF (Qw x) (QN x)) (QP x y (x.1.1.set x.1.2.1.toNat ((0:Int),()),Qh (QH x.1.2.1) (QN x),QQ (Qv x),()))))) (Q4 (QM x) (QR (Qx x) (QP x y (Qy x))))) (by kernel_rfl) ?_⟩
 delta Q7 Q6 QC Q3 Q4 QJ QH QF Qi Qh QA Qg Qp Qt Qo Qz QL Qw QR QS QI Qv QQ QD QO QM QN Qx Qy QP;obtain ⟨⟨l0,(k0:Int),(m0:Int),⟨⟩⟩,⟨⟩⟩:=x;obtain ⟨⟨⟨⟩,⟨⟩,⟨⟩,⟨⟩⟩,⟨⟩⟩:=h;obtain ⟨⟨⟩⟩:=y;obtain ⟨⟨⟩⟩:=k
 try dsimp only
 have hp:dZ l0 k0 m0:=hp;have hp':=hp;obtain ⟨h1,h2,h3,h4,h5,h6⟩:=hp';dsimp only [qD,fD,Fe];simp only [Prod.mk.injEq,and_true,true_and,beq_iff_eq,beq_eq_false_iff_ne,List.length_set,decide_eq_true_eq,decide_eq_false_iff_not,ne_eq,implies_true];refine ⟨hp,fun h=>?_,fun h=>?_⟩
 ·obtain ⟨q1,q2⟩:=TU hp h.2 (0,());refine ⟨⟨h3,h4⟩,by omega,⟨Mh hp _ _,by omega,by omega⟩,by simp only [aL,aT,aU];omega,q1,by simp,fun e=>absurd e (by omega),fun _=>?_⟩
  rw [if_pos h,q2,Ay hp]
 ·exact ⟨hp,by simp,fun e=>by rw [e];rfl,fun e=>absurd (by omega) e⟩
noncomputable def Ms:=Jv.add 272 a3E
def SS(x:(Unit))(y:((Int×Unit)×Unit)):Prop:=1≤y.1.1∧y.1.1≤4096
def vP(x:(Unit))(y:((Int×Unit)×Unit))(x':(Unit))(z:((ig×Unit)×(Int×Unit)×Unit)):Prop:=dZ z.1.1.1 z.1.1.2.1 z.1.1.2.2.1∧List.length z.1.1.1=y.1.1.toNat∧z.1.1.2.2.1=0∧z.2.1.1=0∧rQ z.1.1.1 z.1.1.2.1 z.1.1.2.2.1= []
noncomputable def a25:MC:=qC [false] [] [(false,[.int .i64])] [(false,[oD]),(false,[.int .i64])] SS vP
def QW(a:ky):Nat:=a.1.1.toNat
def QT(a:Prop)(b:Bool)(c d:Prop):Prop:=Q7 a (Q3 b c) (Q4 b d)
def QU(a:Int):Bool:= !(decide ((1:Int)≤a∧a≤(4096:Int)))
def QV(a b:Int)(c d:Prop):Prop:=Qs (Qn (Qt a) (a≤a) (b*a≤(140737488355328:Int)) (a≤(140737488355328:Int))) c d
def QX(a:ky):Nat:=(List.replicate (QW a) (Int.ofNat (0:Nat),())).length
theorem a2b:ab Tryz.prog 115 a25:=by
 refine ah (cx Mx [] vT Ms) Tryz.func115 (by kernel_rfl) (by kernel_rfl) fun (x:(Unit)) h (y:((Int×Unit)×Unit)) k hf hg hp=>⟨bK,400,af (q:=QT (FI () (Qg y.1.1)) (QU y.1.1) False (QV y.1.1 (1:Int) (QF (QW y) (QX y)) (vP x y () (((List.replicate (QW y) (Int.ofNat (0:Nat),()),(0:Int),(0:Int),()),()),QI)))) (by kernel_rfl) ?_⟩
 delta Q7 Qn Qs Q3 Q4 QF Qg Qt QW QI QT QU QV QX;obtain ⟨⟨⟩⟩:=x;obtain ⟨⟨⟩⟩:=h;obtain ⟨⟨(k0:Int),⟨⟩⟩,⟨⟩⟩:=y;obtain ⟨⟨⟨⟩,⟨⟩⟩,⟨⟩⟩:=k
 try dsimp only
 have hp:1≤k0∧k0≤4096:=hp;obtain ⟨q1,q2⟩:=Li (sh:= [.int .u8]) k0.toNat (by omega) (by omega) (0,())
 dsimp only [vP,FI];simp only [Prod.mk.injEq,and_true,true_and,beq_iff_eq,beq_eq_false_iff_ne,List.length_set,decide_eq_true_eq,decide_eq_false_iff_not,ne_eq,implies_true];simp only [List.length_replicate,hp,not_true,false_imp_iff,true_and,Bool.not_eq_true',decide_eq_false_iff_not,Bool.not_eq_false',decide_eq_true_eq];refine fun _=>⟨⟨by omega,by omega,by omega,by omega⟩,q1,q2⟩
noncomputable def Ml:=Ms.add 115 a2b
end Go.Proofs.YtfdmjoddhjmokaaGreatDoor
namespace Go.Proofs.YtfdmjoddhjmokaaGreatDoor
open Go.RowKit Rex
set_option linter.unusedVariables false
set_option linter.unusedSimpArgs false
set_option maxRecDepth 100000
abbrev Cn:Sp:= .pt 355 [.int .i64,.im [.int .u8,.bool]]
abbrev gh:Type:=(Int×List (Row [.int .u8,.bool])×Unit)
abbrev mR:Sp:= .pt 355 [.int .i64,.ar [.int .u8,.bool] 364]
abbrev fo:Type:=(Int×List (Row [.int .u8,.bool])×Unit)
def Ln(x:(Unit))(y:((Int×Unit)×(Int×Unit)×Unit)):Prop:=1≤y.1.1∧y.1.1≤4096∧0≤y.2.1.1∧y.2.1.1≤1073741824
def pr(x:(Unit))(y:((Int×Unit)×(Int×Unit)×Unit))(x':(Unit))(z:((gh×Unit)×(Int×Unit)×Unit)):Prop:=z.1.1.1=y.2.1.1∧z.1.1.2.1=List.replicate y.1.1.toNat (0,false,())∧z.2.1.1=0
noncomputable def VJ:MC:=qC [false,false] [] [(false,[.int .i64]),(false,[.int .i64])] [(false,[mR]),(false,[.int .i64])] Ln pr
abbrev CN:Type:=(Int×Unit)×(Int×Unit)×Unit
def Q10(a b:Prop):Prop:=Q7 True a b
def gD(a:ky):Bool:=decide ((1073741824:Int)<a.1.1)
def QY(a:CN)(b:Prop):Prop:=Q10 (Q4 (QU a.1.1) (Ql (decide (a.2.1.1<(0:Int))) (Q0 (gD a.2) False b) False)) (Q3 (QU a.1.1) False)
def QZ(a:CN):Nat:=(List.replicate a.1.1.toNat (Int.ofNat (0:Nat),Q8)).length
theorem TZ:ab Tryz.prog 175 VJ:=by
 refine ah (cx Mx [221] vT Ml) Tryz.func175 (by kernel_rfl) (by kernel_rfl) fun (x:(Unit)) h (y:((Int×Unit)×(Int×Unit)×Unit)) k hf hg hp=>⟨bK,400,af (q:=QY y (QV y.1.1 (2:Int) (QF y.1.1.toNat (QZ y)) (pr x y () (((y.2.1.1,List.replicate y.1.1.toNat (Int.ofNat (0:Nat),false,()),()),()),QI)))) (by kernel_rfl) ?_⟩
 delta Q7 Qn Qs Q3 Q4 Q0 QF Qg Qt Q10 Ql Q8 QI gD QU QV QY QZ;obtain ⟨⟨⟩⟩:=x;obtain ⟨⟨⟩⟩:=h;obtain ⟨⟨(k0:Int),⟨⟩⟩,⟨(first:Int),⟨⟩⟩,⟨⟩⟩:=y;obtain ⟨⟨⟨⟩,⟨⟩⟩,⟨⟨⟩,⟨⟩⟩,⟨⟩⟩:=k
 try dsimp only
 obtain ⟨h1,h2,h3,h4⟩:=(show 1≤k0∧k0≤4096∧0≤first∧first≤1073741824 from hp);dsimp only [pr];simp only [Prod.mk.injEq,and_true,true_and,beq_iff_eq,beq_eq_false_iff_ne,List.length_set,decide_eq_true_eq,decide_eq_false_iff_not,ne_eq,implies_true];simp only [List.length_replicate,Bool.not_eq_true',Bool.not_eq_false',decide_eq_true_eq,decide_eq_false_iff_not]
 (repeat' (first|(refine And.intro ?_ ?_)|intro _))
 all_goals (try simp only [aL,aT,aU])
 all_goals first|omega|rfl|(split<;>omega)|(simp_all;done)|(simp_all;omega)
noncomputable def qB:=Ml.add 175 TZ
def PM(x:(gh×Unit))(y:((Int×Unit)×Unit)):Prop:=ga x.1.2.1 x.1.1∧0≤y.1.1∧y.1.1≤2^40
def mP(x:(gh×Unit))(y:((Int×Unit)×Unit)):((Int×Unit)×(Bool×Unit)×Unit):=((if qH x.1.2.1 x.1.1 y.1.1∧(xU x.1.2.1 y.1.1).2.1=true then (xU x.1.2.1 y.1.1).1 else 0,()),(decide (qH x.1.2.1 x.1.1 y.1.1)&&(xU x.1.2.1 y.1.1).2.1,()),())
noncomputable def YR:RC:=qR [true,false] [Cn] [(false,[.int .i64])] [(false,[.int .u8]),(false,[.bool])] PM mP
abbrev Zz:Type:=Row [Kd.int IntKind.u8,Kd.bool]
def Yo(a:List (Row [Kd.int IntKind.u8,Kd.bool])×Unit):Nat:=a.1.length
def K7(a:Bool)(b c d e f:Prop):Prop:=Q0 a (Qn b c d e) f
def H4(a:Cn.H):Unit×(Sp.im [Kd.int IntKind.u8,Kd.bool]).H×Unit:=((),a.2.1,())
def kS(a:Bool):Prop:=a=true
def Q1a(a b c:Prop)(d:Bool)(e f:Prop):Prop:=Q6 a b c (Q3 d e) (Q4 d f)
def Q14(a b c:Prop):Prop:=Qn True a b c
def Q18(a:Bool):Prop:=a=false
def mL(a:ky)(b:Int):Bool:=decide (a.1.1<b)
def Ra(a b c:Int):Bool:=decide (a≤(b-c))
def Q17(a:gh×Unit)(b:ky):Bool:=Ra (↑(Yo a.1.2):Int) b.1.1 a.1.1
def Q19(a:gh×Unit)(b:Sp.Hs [Cn])(c:ky):Prop:=Qf (((a.1.1,a.1.2.1,()),())=a) ((H4 b.1,())=b) ((Qm,Q2)=mP a c)
def yv(a:gh×Unit)(b:ky):Zz:=al a.1.2.1 (Qp b.1.1 (Yo a.1.2))
theorem Yv:aB Tryz.prog 154 YR:=by
 refine aD (cx Mx [221] vT qB) Tryz.func154 (by kernel_rfl) (by kernel_rfl) rfl rfl rfl fun (x:(gh×Unit)) h (y:((Int×Unit)×Unit)) k hp=>⟨bK,400,af (q:=QK (mL y x.1.1) (kS (mL y x.1.1)) True (Q14 (((x.1.1,x.1.2.1,()),())=x) ((H4 h.1,())=h) ((Qm,Q2)=mP x y)) (K7 (Q17 x y) (Q18 (mL y x.1.1)) (QS y.1.1 x.1.1) (kS (Q17 x y)) (Q19 x h y) (Q1a (Q18 (mL y x.1.1)) (QS y.1.1 x.1.1) (Q18 (Q17 x y)) (gD y) (Q19 x h y) (Q1a (Qe (↑(Yo x.1.2):Int)) (QB y.1.1 (Yo x.1.2)) (Qp y.1.1 (Yo x.1.2)<Yo x.1.2) (!(yv x y).2.1) (Q19 x h y) (Qp y.1.1 (Yo x.1.2)<Yo x.1.2∧Qf (((x.1.1,x.1.2.1,()),())=x) ((H4 h.1,())=h) ((((yv x y).1,()),Qq,())=mP x y)))))) (by kernel_rfl) ?_⟩
 delta Q7 Q6 Qn Q3 Q4 Q5 Yo Q0 QK Qi Qh Qp Qt K7 Qo QL H4 kS Q1a QS Q8 Ra Q14 Q18 Qf mL QB Qm gD Qe Qq Q2 Q17 Q19 yv;obtain ⟨⟨(l0:Int),k0,⟨⟩⟩,⟨⟩⟩:=x;obtain ⟨⟨⟨⟩,m0,⟨⟩⟩,⟨⟩⟩:=h;obtain ⟨⟨(f:Int),⟨⟩⟩,⟨⟩⟩:=y;obtain ⟨⟨⟨⟩,⟨⟩⟩,⟨⟩⟩:=k
 try dsimp only [mP]
 obtain ⟨⟨h1,h2,h3,h4⟩,h5,h6⟩:=(show ga k0 l0∧0≤f∧f≤2^40 from hp);have m1:0≤f.tmod (List.length k0):=Int.tmod_nonneg _ (by omega)
 have m2:f.tmod (List.length k0)<List.length k0:=Int.tmod_lt_of_pos _ (by omega)
 dsimp only [mP,xU,qH];simp only [Prod.mk.injEq,and_true,true_and,beq_iff_eq,beq_eq_false_iff_ne,List.length_set,decide_eq_true_eq,decide_eq_false_iff_not,ne_eq,implies_true];simp only [Bool.not_eq_true',Bool.not_eq_false',decide_eq_true_eq,decide_eq_false_iff_not]
 (repeat' (first|(refine And.intro ?_ ?_)|intro _))
 all_goals (try simp only [aL,aT,aU])
 all_goals first|omega|rfl|(split<;>omega)|(simp_all;done)|(simp_all;omega)
noncomputable def HK:=vT.rd 154 Yv
def Hl(x:(gh×Unit))(y:(Unit)):Prop:=True
def kW(x:(gh×Unit))(y:(Unit)):((Int×Unit)×Unit):=((x.1.1,()),())
noncomputable def Pn:RC:=qR [true] [Cn] [] [(false,[.int .i64])] Hl kW
theorem Pb:aB Tryz.prog 286 Pn:=by
 refine aD (cx Mx [221] HK qB) Tryz.func286 (by kernel_rfl) (by kernel_rfl) rfl rfl rfl fun (x:(gh×Unit)) h (y:(Unit)) k hp=>⟨bK,400,af (q:=Qf (((x.1.1,x.1.2.1,()),())=x) ((H4 h.1,())=h) (Qg x.1.1=kW x y)) (by kernel_rfl) ?_⟩
 delta Q7 Q6 Q5 Qg H4 Qf;obtain ⟨⟨(k0:Int),l0,⟨⟩⟩,⟨⟩⟩:=x;obtain ⟨⟨⟨⟩,m0,⟨⟩⟩,⟨⟩⟩:=h;obtain ⟨⟨⟩⟩:=y;obtain ⟨⟨⟩⟩:=k
 try dsimp only [kW]
 simp [kW]
noncomputable def b8:=HK.rd 286 Pb
def Pu(x:(fo×Unit))(y:((Int×Unit)×(Int×Unit)×Unit)):Prop:=ga x.1.2.1 x.1.1∧0≤y.1.1∧y.1.1≤2^40
def gM(x:(fo×Unit))(y:((Int×Unit)×(Int×Unit)×Unit))(x':(fo×Unit))(z:((Int×Unit)×Unit)):Prop:=(qH x.1.2.1 x.1.1 y.1.1→z.1.1=0∧x'.1.1=x.1.1∧x'.1.2.1=List.set x.1.2.1 (y.1.1.tmod (List.length x.1.2.1)).toNat (y.2.1.1,true,()))∧(¬qH x.1.2.1 x.1.1 y.1.1→x'.1=x.1∧z.1.1=if y.1.1<x.1.1 then 10 else 8)
noncomputable def YL:MC:=qC [true,false,false] [mR] [(false,[.int .i64]),(false,[.int .u8])] [(false,[.int .i64])] Pu gM
abbrev iW:Type:=fo×Unit
def O2(a:iW):Nat:=Yo a.1.2
def Q1h(a:iW):Prop:=QF (O2 a) (O2 a)
def dG(a:Int)(b:iW):Bool:=decide (a<b.1.1)
def YQ(a:iW):Int:=(↑(O2 a):Int)
def Q1f(a:iW)(b:CN)(c:Int):Prop:=QR (Q1h a) (gM a b ((a.1.1,a.1.2.1,()),()) (Qg c))
def Q1g(a:iW)(b:Int):Bool:=Ra (↑(O2 a):Int) b a.1.1
def yn(a b:Prop)(c:Bool)(d e:Prop):Prop:=Qn a b (Q3 c d) (Q4 c e)
def Q1i(a:Bool)(b c:Int)(d:Bool)(e f g:Prop)(i:Bool)(j l:Prop):Prop:=Q1a (Q18 a) (QS b c) (Q18 d) (decide ((1073741824:Int)<b)) e (yn f g i j l)
def yX(a:iW)(b:CN):Nat:=(a.1.2.1.set (Qp b.1.1 (O2 a)) (b.2.1.1,true,())).length
theorem Zq:ab Tryz.prog 166 YL:=by
 refine ah (cx Mx [221] b8 qB) Tryz.func166 (by kernel_rfl) (by kernel_rfl) fun (x:(fo×Unit)) h (y:((Int×Unit)×(Int×Unit)×Unit)) k hf hg hp=>⟨bK,400,af (q:=QK (dG y.1.1 x) (kS (dG y.1.1 x)) (Q3 (dG y.1.1 x) (Q1f x y (10:Int))) (Q4 (dG y.1.1 x) (Q1f x y (8:Int))) (K7 (Q1g x y.1.1) (Q18 (dG y.1.1 x)) (QS y.1.1 x.1.1) (kS (Q1g x y.1.1)) (QK (dG y.1.1 x) (Q1h x) True (gM x y ((x.1.1,x.1.2.1,()),()) (Qg (10:Int))) (Q1f x y (8:Int))) (Q1i (dG y.1.1 x) y.1.1 x.1.1 (Q1g x y.1.1) (QK (dG y.1.1 x) (Q1h x) True (gM x y ((x.1.1,x.1.2.1,()),()) (Qg (10:Int))) (Q1f x y (8:Int))) (Qe (YQ x)) (QB y.1.1 (O2 x)) (dG y.1.1 x) (Q1f x y (10:Int)) (Qn (Qp y.1.1 (O2 x)<O2 x) (QF (O2 x) (yX x y)) True (gM x y ((x.1.1,x.1.2.1.set (Qp y.1.1 (O2 x)) (y.2.1.1,true,()),()),()) QI))))) (by kernel_rfl) ?_⟩
 delta Q7 Q6 Qn Q3 Q4 Yo Q0 O2 QF QK Qi Qh Qg Qp Qt K7 Qo QL kS Q1a QR QS QI Ra Q18 yn QB Q1h dG YQ Q1f Q1g Qe Q1i yX;obtain ⟨⟨(l0:Int),k0,⟨⟩⟩,⟨⟩⟩:=x;obtain ⟨⟨⟨⟩,⟨⟩,⟨⟩⟩,⟨⟩⟩:=h;obtain ⟨⟨(f:Int),⟨⟩⟩,⟨(x:Int),⟨⟩⟩,⟨⟩⟩:=y;obtain ⟨⟨⟨⟩,⟨⟩⟩,⟨⟨⟩,⟨⟩⟩,⟨⟩⟩:=k
 try dsimp only
 obtain ⟨⟨h1,h2,h3,h4⟩,h5,h6⟩:=(show ga k0 l0∧0≤f∧f≤2^40 from hp);have m1:0≤f.tmod (List.length k0):=Int.tmod_nonneg _ (by omega)
 have m2:f.tmod (List.length k0)<List.length k0:=Int.tmod_lt_of_pos _ (by omega)
 dsimp only [gM,qH];simp only [Prod.mk.injEq,and_true,true_and,beq_iff_eq,beq_eq_false_iff_ne,List.length_set,decide_eq_true_eq,decide_eq_false_iff_not,ne_eq,implies_true]
 (repeat' (first|(refine And.intro ?_ ?_)|intro _))
 all_goals (try simp only [aL,aT,aU])
 all_goals first|omega|rfl|(split<;>omega)|(simp_all;done)|(simp_all;omega)
noncomputable def I3:=qB.add 166 Zq
end Go.Proofs.YtfdmjoddhjmokaaGreatDoor
namespace Go.Proofs.YtfdmjoddhjmokaaGreatDoor
open Go.RowKit Rex
set_option linter.unusedVariables false
set_option linter.unusedSimpArgs false
set_option maxRecDepth 100000
def ke(r:Row [.int .u8,.bool]):Bool:=r.2.1
def F9(x:(fo×Unit))(y:(Unit)):Prop:=ga x.1.2.1 x.1.1
def lH(x:(fo×Unit))(y:(Unit))(x':(fo×Unit))(z:((List (Row [.int .i64])×Unit)×Unit)):Prop:=x'.1=x.1∧z.1.1=jF ke x.1.2.1 x.1.1 (List.length x.1.2.1)
noncomputable def Ld:MC:=qC [true] [mR] [] [(false,[.sl [.int .i64] 3])] F9 lH
abbrev eV:Type:=Nat×Nat
abbrev oI:Type:=List (Row [Kd.int IntKind.i64])
def oO(a:Int):Prop:=a=(0:Int)
def lG:Prop:=oO (0:Int)
def ya(a:Prop):Prop:=a∧True
def kA(a:Nat):Prop:=a=(0:Nat)
def jh:Prop:=kA (0:Nat)
def cu(a b c:Prop)(d e:Nat)(f:Prop):Prop:=Q6 a b c (d=e) f
def iZ(a b:Bool)(c d e f:Nat):Prop:=ya (cu (a=b) jh jh c d (e=f))
def Oy(a:eV):Int:=(↑a.1:Int)
def Q23(a b:Prop)(c d:Nat)(e:Prop):Prop:=Qn a b (c=d) e
def gC(a:Bool)(b:Nat):Prop:=Q3 a (kA b)
def kF(a b:Nat)(c d:Bool)(e f:Nat):Prop:=Q23 (a=b) (c=d) e f (gC d f)
def K5(a b c d:Prop):Prop:=Q6 a b True c d
def WD(a b:Nat)(c:Prop):Prop:=Q23 QJ jh a b c
def GR(a:iW)(b:eV):oI:=jF ke a.1.2.1 a.1.1 b.1
def yG(a:Int)(b:Nat):Prop:=a=(↑b:Int)
def xG(a b:Nat):Prop:=yG (↑a:Int) b
def cR(a b:Prop):Prop:=Q7 a b True
def Vu(a:Prop)(b c:Nat):Prop:=cR a (cu QJ jh jh b c (b=c))
def Cw(a:iW)(b:eV):Bool:=decide ((GR a b).length=(0:Nat))
def rB(a:Nat):Nat:=a+(1:Nat)
def Yw(a:Prop)(b c:Nat)(d:Prop):Prop:=Q5 a (xG b c) d True
def Ha(a b:Nat):Prop:=kA a→kA b
def Q27(a:Nat):Value:=Value.func (Fn.yield a) {toList:= []} {toList:= []}
def uN(a:Nat):Prop:=Q27 a=Q27 a
def oE(a b:Bool)(c d:Nat)(e:Prop):Prop:=Q23 (a=b) jh c d e
def Cp(a b:Bool)(c d e:Nat)(f g:oI):Prop:=oE a b c d (List.take e f=g)
def qZ(a:iW)(b:eV):Nat:=(GR a b).length
def RA(a b c d e f:Prop):Prop:=Q6 a b (c∧d) e f
def Q1I(a b c d e:Prop):Prop:=RA a b c d e True
def Nc(a:Bool):Bool:=false&&a
def RH(a b c d:Nat)(e:Prop):Prop:=a≤b→(kA c→b=d)→e
def Q2a(a b c:Nat)(d:Prop):Prop:=RH a b (1:Nat) c d
def x9(a b c:Nat)(d:Prop):Prop:=Q2a (rB a) b c d
def D4(a:eV)(b:Prop):Prop:=QE (Oy a)∧b
def Dr(a:Nat)(b:Prop)(c:iW)(d e:Prop)(f:Loop)(g:Prop):Prop:=QC (uN a∧b) (Vu (c.1.1=c.1.1) (O2 c) (O2 c)) (WD (O2 c) (O2 c) d) (Q1I lG e (f=f) jh g)
def b9(a:iW)(b:eV):Int:=a.1.1+Oy b
def Q2d(a b c d e:Prop):Prop:=Qn a b c d∧e
def E4(a b c d:Prop)(e f g i:Nat):Prop:=Q2d a b c d (e-f<g-i)
def jE(a:Prop)(b:eV)(c:iW)(d:eV):Prop:=E4 a (b.1≤O2 c) (qZ c b≤b.2) (Ha (qZ c b) b.2) (O2 c) b.1 (O2 c) d.1
def Q1R(a:iW):Prop:=Vu (a.1.1=a.1.1) (O2 a) (O2 a)
def Q2e(a b:Bool)(c d:oI)(e f:Nat):Prop:=iZ a b c.length d.length e f
def Q1K(a:iW)(b c:eV):Prop:=Q2e (Cw a b) (Cw a c) (GR a b) (GR a c) b.2 c.2
def GW(a:Nat):Prop:=a≤(140737488355328:Nat)
def WV(a b:Nat):Prop:=GW (rB a*b)
def vY(a b c:Nat)(d:Bool)(e:Nat):Prop:=Q6 (a=b) (c=c) (d=d) (gC d c) (WV a e)
def ta(a b:Nat)(c:Prop):Prop:=a=b∧c
def tu(a:iW)(b c:eV):Prop:=Yw True (O2 a) (O2 a) (QH (Oy b)=Oy c)
def iq(a:eV)(b:Int):Bool:=decide ((Oy a)<b)
def Rt:Prop:=kS (decide ((0:Nat)=(0:Nat)))
def Q1r:Prop:=Qn Rt jh jh jh
def Ut(a:iW)(b c:eV)(d:oI):Prop:=Cp (Cw a b) (Cw a c) b.2 c.2 (qZ a c) (GR a b) d
def Kb(a:iW):Prop:=List.take (O2 a) a.1.2.1=a.1.2.1
def lN(a b c d e:Prop):Prop:=Qn (a∧b) c d e
def Q1y(a:iW)(b:eV):Bool:=decide ((0:Int)≤(b9 a b))
def Q1t(a:Nat):Prop:=(0:Nat)≤a
def Wl:Prop:=jh→jh
def GY(a b c:Prop):Prop:=Q2d a b ((0:Nat)≤(0:Nat)) Wl c
def Cv(a:oI):Prop:=Rt∧a=([]:List (Row [Kd.int IntKind.i64]))
theorem Lo:ab Tryz.prog 153 Ld:=by
 refine ah (cx Mx [221,220,218,269] b8 I3) Tryz.func153 (by kernel_rfl) (by kernel_rfl) fun (x:(fo×Unit)) h (y:(Unit)) k hf hg hp=>⟨(fun bk=>match bk with|489001000=>some {S:=Nat×Nat,st:=fun s=>⟨jk [(1,.v (.one (.ptr 2 0))),(0,.v (.one (.ptr 3 0))),(10,.v (.one (.int .i64 false ((List.length x.1.2.1:Int))))),(0,.v (.one (.int .i64 false ((s.1:Int)))))] 46,[some (.cells [.int .i64 false x.1.1,.rs false 0 1 0 2 0 (List.length x.1.2.1) (List.length x.1.2.1)] 355),some (.rows false false [.int .u8,.bool] x.1.2.1 0 (List.length x.1.2.1) 364),some (.cells [.ptr 0 0] 273),some (.cells [.int .i64 false 0] 3),some (.cells [.rs (decide ((List.length (jF ke x.1.2.1 x.1.1 s.1))=0)) 0 6 0 1 0 (List.length (jF ke x.1.2.1 x.1.1 s.1)) s.2] 279),none,some (.rows false (decide ((List.length (jF ke x.1.2.1 x.1.1 s.1))=0)) [.int .i64] (jF ke x.1.2.1 x.1.1 s.1) 0 s.2 3)]⟩,ok:=fun s=>s.1≤List.length x.1.2.1∧(List.length (jF ke x.1.2.1 x.1.1 s.1))≤s.2∧((List.length (jF ke x.1.2.1 x.1.1 s.1))=0→s.2=0),mu:=fun s=>List.length x.1.2.1-s.1,init:=(0,0)}|_=>none),400,af (q:= ∀ (va:Nat) (vb:Loop),GY (Dr va (Yw True (O2 x) (O2 x) ((0:Int)=(↑(0:Nat):Int))) x (Kb x) Q1r vb (Cv (jF ke x.1.2.1 x.1.1 (0:Nat)))) (Q1t (O2 x)) (∀ (vc:eV),Q7 (vc.1≤O2 x) (qZ x vc≤vc.2) (Ha (qZ x vc) vc.2)→QK (iq vc (YQ x)) (Qi (b9 x vc)) (Q3 (dG (b9 x vc) x) (QT (kS (dG (b9 x vc) x)) (Q1y x vc) (D4 vc (∃ (vd:eV),jE (QC (K5 (uN va) True (xG (O2 x) (O2 x)) (ya (QH (Oy vc)=Oy vd))) (Vu (x.1.1=x.1.1) (O2 x) (O2 x)) (WD (O2 x) (O2 x) (Kb x)) (Q1I lG (Q1K x vc vd) (vb=vb) jh (Q7 (Cw x vc=Cw x vd) jh (ta vc.2 vd.2 (List.take (qZ x vd) (GR x vc)=GR x vd))))) vd x vc)) (D4 vc (∃ (vd:eV),jE (Dr va (tu x vc vd) x (Kb x) (Q1K x vc vd) vb (Ut x vc vd (GR x vd))) vd x vc)))) (Q4 (dG (b9 x vc) x) (Q0 (Q1g x (b9 x vc)) (Q1a (Q18 (dG (b9 x vc) x)) (QS (b9 x vc) x.1.1) (kS (Q1g x (b9 x vc))) (Q1y x vc) (D4 vc (∃ (vd:eV),jE (Qz (uN va) (tu x vc vd) (Q1R x) (Q7 QJ jh (ta (O2 x) (O2 x) (Kb x))∧Q5 lG (Q1K x vc vd) (vb=vb∧jh) (ya (Ut x vc vd (GR x vd))))) vd x vc)) (D4 vc (∃ (vd:eV),jE (Dr va (tu x vc vd) x (Kb x) (Q1K x vc vd) vb (Ut x vc vd (GR x vd))) vd x vc))) (Q1i (dG (b9 x vc) x) (b9 x vc) x.1.1 (Q1g x (b9 x vc)) (Q0 (Q1y x vc) (D4 vc (∃ (vd:eV),jE (Dr va (tu x vc vd) x (Kb x) (Q1K x vc vd) vb (Ut x vc vd (GR x vd))) vd x vc)) (D4 vc (∃ (vd:eV),jE (lN (uN va) (tu x vc vd) (Q1R x) (WD (O2 x) (O2 x) (List.take (O2 x) x.1.2.1=x.1.2.1)) (Q5 lG (Q1K x vc vd) (vb=vb∧jh) (ya (Ut x vc vd (GR x vd))))) vd x vc))) (Qe (YQ x)) (QB (b9 x vc) (O2 x)) (Q1y x vc) (Q7 (Qp (x.1.1+Oy vc) (O2 x)<O2 x) ((al x.1.2.1 (Qp (x.1.1+Oy vc) (O2 x))).2.1=true→Q6 (va=va) (vb=vb) (vb=vb) (vY (qZ x vc) (qZ x vc) vc.2 (Cw x vc) (8:Nat)) (∀ (vd:Nat),x9 (qZ x vc) vd vc.2 (Q7 (vb=vb) (QE (Oy vc)) (∃ (ve:eV),jE (Dr va (tu x vc ve) x (Kb x) (iZ (Nc (Cw x vc)) (Cw x ve) (rB (qZ x vc)) (GR x ve).length vd ve.2) vb (Cp (Nc (Cw x vc)) (Cw x ve) vd ve.2 (qZ x ve) ((GR x vc).append [(b9 x vc,())]) (GR x ve))) ve x vc)))) ((al x.1.2.1 (Qp (x.1.1+Oy vc) (O2 x))).2.1=false→D4 vc (∃ (vd:eV),jE (QC (QR (uN va) (Q14 (xG (O2 x) (O2 x)) (QH (Oy vc)=Oy vd) True)) (Vu (x.1.1=x.1.1) (O2 x) (O2 x)) (WD (O2 x) (O2 x) (Kb x)) (Q1I lG (Q1K x vc vd) (vb=vb) jh (Ut x vc vd (GR x vd)))) vd x vc))) (D4 vc (∃ (vd:eV),jE (Dr va (tu x vc vd) x (Kb x) (ya (Qn (Cw x vc=Cw x vd) jh jh (ta (qZ x vc) (qZ x vd) (vc.2=vd.2)))) vb (Q7 (Cw x vc=Cw x vd) jh (ta vc.2 vd.2 (List.take (qZ x vd) (GR x vc)=GR x vd)))) vd x vc))))) (Q7 (Q1h x) (kF (qZ x vc) (qZ x vc) (Cw x vc) (Cw x vc) vc.2 vc.2) (lH x y (x.1,()) ((GR x vc,()),()))))) (by kernel_rfl) ?_⟩
 delta Q7 Q6 oO lG QC Qn kA cR Q3 ya jh Q4 Q5 QJ cu Yo Q0 Q23 gC O2 iZ Oy QH kF QF QK Qi Qh Qp yG oE Qt QE K5 WD GR xG Vu Q27 Qo RA Q2d Cw rB Q2e Qz Yw Ha RH Q2a E4 uN QL Cp qZ kS Q1I Q1a QR Nc QS x9 Ra GW WV D4 Q14 Q18 Dr yn b9 QT QB jE Q1h Q1R Q1K Rt vY ta tu dG iq Q1r Ut YQ Kb lN Q1y Wl Q1g Qe Q1i Q1t GY Cv;obtain ⟨⟨(l0:Int),k0,⟨⟩⟩,⟨⟩⟩:=x;obtain ⟨⟨⟨⟩,⟨⟩,⟨⟩⟩,⟨⟩⟩:=h;obtain ⟨⟨⟩⟩:=y;obtain ⟨⟨⟩⟩:=k
 try dsimp only
 have hw:ga k0 l0:=hp;obtain ⟨h1,h2,h3,h4⟩:=hw;intro l r;refine ⟨by simp [jF],fun s hs=>⟨fun hc=>?_,fun hc=>?_⟩⟩
 ·obtain ⟨i,c⟩:=s;obtain ⟨hs1,hs2,hs3⟩:=hs;dsimp only at hs1 hs2 hs3 hc ⊢;simp only [decide_eq_true_eq,decide_eq_false_iff_not] at hc ⊢;have m1:0≤(l0+(i:Int)).tmod (List.length k0):=Int.tmod_nonneg _ (by omega)
  have m2:(l0+(i:Int)).tmod (List.length k0)<List.length k0:=Int.tmod_lt_of_pos _ (by omega)
  have hfl:=hZ (has:=ke) (l:=k0) (first:=l0) i;have hs3':jF ke k0 l0 i= []→c=0:=fun k=>hs3 (by rw [k];rfl)
  have e0:jF ke k0 l0 (i+1)=if l0+i≤1073741824∧ke (al k0 ((l0+i).tmod k0.length).toNat)=true then jF ke k0 l0 i++ [(l0+i,())] else jF ke k0 l0 i:=rfl;refine ⟨by simp only [aL,aT,aU];omega,fun h=>absurd h (by omega),fun _=>⟨fun h=>absurd h (by omega),fun _=>⟨by omega,by simp only [aL,aT,aU];omega,by omega,fun h=>⟨fun _=>?_,fun hn=>absurd (by omega) hn⟩,fun h=>⟨by omega,⟨m1,m2⟩,fun _=>⟨by omega,fun hb=>⟨trivial,trivial,trivial,⟨trivial,trivial,trivial,hs3,by omega⟩,fun c' hc1 hc2=>⟨trivial,?_⟩⟩,fun hb=>?_⟩,fun hn=>absurd (by omega) hn⟩⟩⟩⟩
  ·rw [if_neg (by omega)] at e0
   refine ⟨by simp only [aL,aT,aU];omega,(i+1,c),?_⟩
   simp only [e0];simp [hs2]
   repeat' (first|exact hs3'|omega|exact List.take_of_length_le (by simp)|refine And.intro ?_ ?_)
  ·rw [if_pos ⟨by omega,hb⟩] at e0
   refine ⟨by simp only [aL,aT,aU];omega,(i+1,c'),?_⟩
   simp only [e0];simp
   repeat' (first|exact hs3'|omega|exact List.take_of_length_le (by simp)|refine And.intro ?_ ?_)
  ·rw [if_neg (fun k=>by rw [show ke _=_ from hb] at k;cases k.2)] at e0
   refine ⟨by simp only [aL,aT,aU];omega,(i+1,c),?_⟩
   simp only [e0];simp [hs2]
   repeat' (first|exact hs3'|omega|exact List.take_of_length_le (by simp)|refine And.intro ?_ ?_)
 ·obtain ⟨i,c⟩:=s;obtain ⟨hs1,hs2,hs3⟩:=hs;dsimp only at hs1 hs2 hs3 hc ⊢;simp only [decide_eq_false_iff_not] at hc;obtain rfl:i=k0.length:=by omega
  simp [lH];exact fun k=>hs3 (by rw [k];rfl)
noncomputable def xO:=I3.add 153 Lo
end Go.Proofs.YtfdmjoddhjmokaaGreatDoor
namespace Go.Proofs.YtfdmjoddhjmokaaGreatDoor
open Go.RowKit Rex
set_option linter.unusedVariables false
set_option linter.unusedSimpArgs false
set_option maxRecDepth 100000
def L3(x:(fo×Unit))(y:((List (Row [.int .i64])×Unit)×Unit)):Prop:=ga x.1.2.1 x.1.1∧List.length y.1.1≤4096∧Fw x.1.2.1 x.1.1 y.1.1
def qc(x:(fo×Unit))(y:((List (Row [.int .i64])×Unit)×Unit))(x':(fo×Unit))(z:((Int×Unit)×Unit)):Prop:=x'.1.1=x.1.1∧x'.1.2.1=uM (0,false,()) x.1.2.1 y.1.1 (List.length y.1.1)∧z.1.1=List.length y.1.1
noncomputable def VX:MC:=qC [true,false] [mR] [(false,[.sl [.int .i64] 3])] [(false,[.int .i64])] L3 qc
abbrev CK:Type:=(List (Row [Kd.int IntKind.i64])×Unit)×Unit
abbrev Fv:Type:=eZ [(false,[Sp.sl [Kd.int IntKind.i64] (3:TypeId)])]
abbrev HJ:Type:=List (Row [Kd.int IntKind.u8,Kd.bool])
def Q2B(a b:Prop)(c d:Int)(e f:Prop):Prop:=Q6 a b (c=d) e f
def Q2m(a b:Prop)(c d:Int)(e:Prop):Prop:=Q2B a b c d e True
def Q2l(a:Prop):Prop:=True∧a
def Q2C(a:Nat):Int:=QH (↑a:Int)
def ku(a b:Nat):Prop:=yG (Q2C a) b
def KJ(a:CK):Nat:=a.1.1.length
def Q2D(a:Prop)(b c d e:Nat):Prop:=a∧b-c<d-e
def MG(a b:Prop)(c d e:Nat):Prop:=Q2D (a∧b) c d c e
def Q2n(a:Fv)(b:CK):Prop:=Q2e a.1.1.1 a.1.1.1 b.1.1 b.1.1 a.1.1.2 a.1.1.2
def Kf(a:Il):(Kd.int IntKind.u8).T×Bool×Unit:=(OfNat.ofNat (0:Nat),a)
def la(a:iW)(b:oI)(c:Nat):HJ:=uM (Kf Q8) a.1.2.1 b c
def MT(a:Nat)(b:Int):Bool:=decide ((↑a:Int)<b)
def lV(a b:Nat):Bool:=MT a (↑b:Int)
def ny(a b:Nat):Prop:=QL (↑a:Int) b
def sY(a:Nat):Nat:=(↑a:Int).toNat
def F7(a b:Nat):Prop:=sY a<b
def WG(a:Prop)(b c:Nat)(d:Bool)(e f g:Prop):Prop:=a→K7 (lV b c) (ny b c) (F7 b c) (Q3 d e) (Q4 d f) g
def Ka(a:oI)(b:Nat):Row [Kd.int IntKind.i64]:=al a (sY b)
def u6(a:CK)(b:Nat)(c:Int):Bool:=decide ((Ka a.1.1 b).1<c)
def rb(a:Nat):Prop:=QE (↑a:Int)
def Ct(a:Int)(b:CK)(c:Nat)(d:Int):Bool:=decide (a≤((Ka b.1.1 c).1-d))
def uX(a:CK)(b:Nat)(c:Int):Int:=Int.tmod (Ka a.1.1 b).1 c
def W9(a b c:Prop):Prop:=(a∧b)∧c
def Q2k(a b c:Prop)(d:Fv)(e:CK):Prop:=Q6 a b c (Cp d.1.1.1 d.1.1.1 d.1.1.2 d.1.1.2 (KJ e) e.1.1 e.1.1) True
def fi(a:Int):Prop:=(0:Int)=a
def qW:Prop:=fi (↑(0:Nat):Int)
def wh(a:CK)(b:Nat):Bool:=decide ((1073741824:Int)<(Ka a.1.1 b).1)
def AZ(a:CK)(b:Nat)(c:Int):Prop:=aL IntKind.i64 ((Ka a.1.1 b).1-c)
def MV(a:CK):Int:=(↑(KJ a):Int)
theorem Tw:ab Tryz.prog 216 VX:=by
 refine ah (cx Mx [221] b8 xO) Tryz.func216 (by kernel_rfl) (by kernel_rfl) fun (x:(fo×Unit)) h (y:((List (Row [.int .i64])×Unit)×Unit)) k hf hg hp=>⟨(fun bk=>match bk with|0=>some {S:=Nat,st:=fun s=>⟨jk [(0,.v (.one (.ptr 0 0))),(0,.v (.one (.rs k.1.1.1 0 2 0 1 0 (List.length y.1.1) k.1.1.2))),(5,.v (.one (.rs k.1.1.1 0 2 0 1 0 (List.length y.1.1) k.1.1.2))),(0,.v (.one (.int .i64 false ((List.length y.1.1:Int))))),(0,.v (.one (.int .i64 false ((s:Int)))))] 21,[some (.cells [.int .i64 false x.1.1,.rs false 0 1 0 2 0 (List.length x.1.2.1) (List.length x.1.2.1)] 355),some (.rows false false [.int .u8,.bool] (uM (0,false,()) x.1.2.1 y.1.1 s) 0 (List.length x.1.2.1) 364),some (.rows false k.1.1.1 [.int .i64] y.1.1 0 k.1.1.2 3)]⟩,ok:=fun s=>s≤List.length y.1.1,mu:=fun s=>List.length y.1.1-s,init:=0}|_=>none),400,af (q:=W9 (Q2k (Q2l (Q2m (Q2n k y) (Q2n k y) (↑(KJ y):Int) (MV y) qW)) (Q1R x) (WD (O2 x) (O2 x) (List.take (la x y.1.1 (0:Nat)).length x.1.2.1=la x y.1.1 (0:Nat))) k y) (Q1t (KJ y)) (∀ (va:Nat),WG (va≤KJ y) va (KJ y) (u6 y va x.1.1) (kS (u6 y va x.1.1)∧False) (K7 (Ct (YQ x) y va x.1.1) (Q18 (u6 y va x.1.1)) (AZ y va x.1.1) (kS (Ct (YQ x) y va x.1.1)) False (Qn (Q18 (u6 y va x.1.1)) (AZ y va x.1.1) (Q18 (Ct (YQ x) y va x.1.1)) (Q0 (wh y va) False (Q6 (Qe (YQ x)) (QL (uX y va (YQ x)) (O2 x)) ((uX y va (YQ x)).toNat<(la x y.1.1 va).length) (rb va) (∃ (vb:Nat),MG (Q2k (Q5 (Q2n k y) (Q2n k y) (xG (KJ y) (KJ y)) (ya (ku va vb))) (Q1R x) (WD (O2 x) (O2 x) (List.take (la x y.1.1 vb).length ((la x y.1.1 va).set (uX y va (YQ x)).toNat ((0:Int),false,()))=la x y.1.1 vb)) k y) (vb≤KJ y) (KJ y) vb va))))) (QR (QF (O2 x) (la x y.1.1 va).length) (qc x y ((x.1.1,uM (OfNat.ofNat (0:Nat),false,()) x.1.2.1 y.1.1 va,()),()) (Qg (MV y)))))) (by kernel_rfl) ?_⟩
 delta Q7 Q6 Qn kA cR Q3 ya jh Q4 Q5 QJ cu Yo Q0 Q23 O2 iZ Q2B QH QF Qi Qg sY yG oE Qt QE WD xG K7 Vu Ka Qo Q2m Q2l Q2e Q2C MT QL ku Cp kS QR lV Q8 Q18 Q2D ny F7 KJ Q1R MG Q2n Kf la WG u6 YQ fi rb Ct uX Qe W9 Q2k qW wh Q1t AZ MV;obtain ⟨⟨(l0:Int),k0,⟨⟩⟩,⟨⟩⟩:=x;obtain ⟨⟨⟨⟩,⟨⟩,⟨⟩⟩,⟨⟩⟩:=h;obtain ⟨⟨l,⟨⟩⟩,⟨⟩⟩:=y;obtain ⟨⟨⟨lz,lc⟩,⟨⟩⟩,⟨⟩⟩:=k
 try dsimp only
 obtain ⟨⟨h1,h2,h3,h4⟩,h5,h6⟩:=(show ga k0 l0∧List.length l≤4096∧Fw k0 l0 l from hp);simp only [show (OfNat.ofNat (0:Nat):Int)=0 from rfl];refine ⟨by simp [uM],fun s hs=>⟨fun hc=>?_,fun hc=>?_⟩⟩
 ·simp only [decide_eq_true_eq,decide_eq_false_iff_not,Int.toNat_natCast] at hc ⊢;have hi:s<l.length:=by omega
  obtain ⟨k1,k2,k3⟩:=h6 s hi;have q1: ¬(al l s).1<l0:=Int.not_lt.2 k1;have q2: ¬(List.length k0:Int)≤(al l s).1-l0:=Int.not_le.2 k2;have q3: ¬(1073741824:Int)<(al l s).1:=Int.not_lt.2 k3;dsimp only [oH] at k1 k2 k3;have m1:0≤Int.tmod (al l s).1 (List.length k0):=Int.tmod_nonneg _ (by omega)
  have m2:Int.tmod (al l s).1 (List.length k0)<List.length k0:=Int.tmod_lt_of_pos _ (by omega)
  refine ⟨by omega,hi,fun h=>absurd h q1,fun _=>⟨fun h=>absurd h q2,fun _=>⟨q1,by simp only [aL,aT,aU];omega,q2,fun h=>absurd h q3,fun _=>⟨by omega,⟨m1,m2⟩,by rw [bp];omega,by simp only [aL,aT,aU];omega,s+1,?_⟩⟩⟩⟩
  simp [uM]
  repeat' (first|omega|exact List.take_of_length_le (by simp)|refine And.intro ?_ ?_)
 ·simp only [decide_eq_false_iff_not] at hc;obtain rfl:s=l.length:=by omega
  refine ⟨⟨(bp _).symm,(bp _).symm,(bp _).symm⟩,trivial,?_⟩;simp [qc]
noncomputable def DX:=xO.add 216 Tw
end Go.Proofs.YtfdmjoddhjmokaaGreatDoor
namespace Go.Proofs.YtfdmjoddhjmokaaGreatDoor
open Go.RowKit Rex
set_option linter.unusedVariables false
set_option linter.unusedSimpArgs false
set_option maxRecDepth 100000
def AY(L:Nat)(first:Int)(l:List (Row [.int .i64]))(a b:Nat):Prop:= ∀i,a≤i→i<b→first≤oH l i∧oH l i-first<L∧oH l i≤1073741824
theorem ie {l:List (Row [.int .i64])} {i j:Nat} {x:Row [.int .i64]}(h:j≠i):oH (l.set i x) j=oH l j:=by unfold oH;rw [fQ h]
theorem yS {l:List (Row [.int .i64])} {i:Nat} {x:Row [.int .i64]}(h:i<l.length):oH (l.set i x) i=x.1:=by unfold oH;rw [eT h,if_pos rfl]
theorem uq {l:List (Row [.int .i64])} {i n:Nat}(h:i<n):oH (l.take n) i=oH l i:=by
 unfold oH al;simp only [List.getD_eq_getElem?_getD];rw [List.getElem?_take_of_lt h]
theorem HX {A:Type}(l m:List A) {i:Nat}(h:i≤l.length):List.take i ((List.take (0+i) l).append m)=List.take i l:=by
 show List.take i (List.take (0+i) l++m)=_;rw [Nat.zero_add,List.take_append_of_le_length (by simp;omega),List.take_take,Nat.min_self]
def LC(x:(fo×Unit))(y:((Int×Unit)×Unit)):Prop:=ga x.1.2.1 x.1.1
def eC(x:(fo×Unit))(y:((Int×Unit)×Unit))(x':(fo×Unit))(z:((Int×Unit)×Unit)):Prop:=ga x'.1.2.1 x'.1.1∧mvd (0,false,()) x.1.2.1 x'.1.2.1 x.1.1 x'.1.1 y.1.1
noncomputable def UX:MC:=qC [true,false] [mR] [(false,[.int .i64])] [(false,[.int .i64])] LC eC
abbrev rG:Type:=List (Row [Kd.int IntKind.i64])×Nat×Nat×Bool
abbrev fU:Type:=eZ [(false,[Sp.int IntKind.i64])]
abbrev mF:Type:=aZ [(false,[Sp.int IntKind.i64])]
abbrev CM:Type:=Sp.Hs [mR]
abbrev zV:Type:=Sp.Ts [mR]
abbrev mM:Type:=List (Row [Kd.int IntKind.i64])×Nat×Nat×Nat
abbrev Hd:Type:=aZ [(false,[Sp.sl [Kd.int IntKind.i64] (3:TypeId)])]
def mJ:Prop:=cR True True
def JY:Prop:=ya True
def sE(a:mR.T):Nat:=List.length a.2.1
def y7(a:mM):Int:=Oy a.2.2
def uI(a b c d:Prop):Prop:=a→b→c→d
def dD(a b c d:Prop):Prop:=uI (ya a) (ya b) c d
def Q3j(a b c:Prop):Prop:=dD a JY b c
def Q2Z(a b:Prop):Prop:=Q3j mJ a b
def Pq(a:mM):Nat:=a.1.length
def eb(a:mM):Nat:=(y7 a).toNat
def LL(a:rG):Nat:=a.1.length
def Na(a:Nat)(b:Prop):Prop:=QE (↑a:Int)∧b
def fW(a:Nat):Prop:=a≤(4096:Nat)
def Em(a:Hd):Nat:=List.length a.1.1
def Q3f(a:mM):oI:=(List.take ((0:Nat)+eb a) a.1).append ((List.replicate (Pq a-eb a) (Int.ofNat (0:Nat),())).append (List.drop ((0:Nat)+eb a+(Pq a-eb a)) a.1))
def Q3g(a:Nat)(b:mM):oI:=List.take a (Q3f b)
def Q31(a:zV):Prop:=QF (sE a.1) (sE a.1)
def pA(a:Nat)(b:Int)(c:oI)(d:Nat):Prop:=AY a b c (0:Nat) d
def Yg(a b:Nat)(c:oI)(d:ky):Prop:=a<b→(al c a).1<d.1.1
def cr(a:iW)(b:ky)(c:Prop):Prop:=Q2m (Q1R a) (WD (O2 a) (O2 a) (List.take (O2 a) a.1.2.1=a.1.2.1)) b.1.1 b.1.1 c
def Q2V(a:Int)(b:oI)(c:Nat):Bool:=decide (a≤(Ka b c).1)
def Zt(a:mF):ky:=((a.1.1,()),())
def td(a:mM)(b:Prop):Prop:=Q6 (a.2.2.1<a.2.2.2) (a.2.2.2≤Pq a) (Pq a≤a.2.1) (fW (Pq a)) b
def sX(a b c d:Nat):Prop:=ya (cu QJ jh jh a b (c=d))
def ja(a b:mM)(c:Int)(d e f g:Prop):Prop:=E4 (Q2m (sX (Pq a) (Pq b) a.2.1 b.2.1) True c (y7 b) (ku a.2.2.2 b.2.2.2)∧d) e f g (Pq b) b.2.2.2 (Pq a) a.2.2.2
def Q2S(a:iW)(b:rG)(c:Prop):Prop:=pA (O2 a) a.1.1 b.1 (LL b)∧Q6 (b.2.2.1≤LL b) (LL b≤b.2.1) (fW (LL b)) (gC b.2.2.2 b.2.1) c
def pn(a:Hd)(b:rG)(c:Fv):Prop:=kF (Em a) (LL b) b.2.2.2 c.1.1.1 b.2.1 c.1.1.2
def Q30(a:rG):Int:=(↑(LL a):Int)
def Q2N(a:Hd)(b:Fv)(c d e:Prop):Prop:=dD mJ (ya (Em a≤b.1.1.2∧gC b.1.1.1 b.1.1.2)) c (d∧e)
def D7(a:Nat):Prop:=(0:Nat)<a
def Q2M(a:Nat)(b:Int)(c:Prop):Prop:=Qs (QF a a) (Qn (D7 a) (fW a) (Qt b) (b≤(1073741824:Int))) c
def Q2O(a b:Prop)(c:rG)(d:Fv)(e:Hd):Prop:=cu a b (c.2.2.2=d.1.1.1) c.2.1 d.1.1.2 (LL c=Em e)
def RU(a:Nat):Prop:=yG (0:Int) a
def Q2P(a:Fv)(b:rG)(c:Hd):Prop:=Q2m (iZ a.1.1.1 b.2.2.2 (Em c) b.1.length a.1.1.2 b.2.1) True (↑(Em c):Int) (Q30 b) (RU b.2.2.1)
def FY(a:iW)(b:mM):Prop:=AY (O2 a) a.1.1 b.1 b.2.2.2 (Pq b)
def Q3p(a b c d e f g:Prop):Prop:=Q7 a b (Q6 c d e f g)
def D8(a b:Int):Prop:=Qt a∧a≤b
def yg(a:mM)(b c d e:Prop):Prop:=Q3p (D8 (y7 a) (↑(Pq a):Int)) ((0:Nat)+eb a+(Pq a-eb a)≤Pq a) (D8 (y7 a) (↑(Pq a):Int)) b c d e
def dx(a:mM)(b:oI):Prop:=List.take (Pq a) b=a.1
def Q2Y(a:iW)(b:Nat)(c:oI):Prop:=Q7 (ga a.1.2.1 a.1.1) (fW b) (Fw a.1.2.1 a.1.1 c)
def Q2W(a:rG):Bool:=(↑a.2.2.1:Int)==(-1:Int)
theorem TH:ab Tryz.prog 148 UX:=by
 refine ah (cx Mx [221,149,217,215] b8 DX) Tryz.func148 (by kernel_rfl) (by kernel_rfl) fun (x:(fo×Unit)) h (y:((Int×Unit)×Unit)) k hf hg hp=>⟨(fun bk=>match bk with|368000000=>some {S:=List (Row [.int .i64])×Nat×Nat×Bool,st:=fun s=>⟨jk [(0,.v (.one (.rs s.2.2.2 0 17 0 1 0 (List.length s.1) s.2.1))),(0,.lO 215 [.ptr 2 0]),(5,.v (.one (.int .i64 false ((List.length s.1:Int))))),(0,.v (.one (.int .i64 false ((s.2.2.1:Int)))))] 19,[some (.cells [.int .i64 false x.1.1,.rs false 0 1 0 2 0 (List.length x.1.2.1) (List.length x.1.2.1)] 355),some (.rows false false [.int .u8,.bool] x.1.2.1 0 (List.length x.1.2.1) 364),some (.cells [.int .i64 false y.1.1] 3),none,none,none,none,none,none,none,none,none,none,none,none,none,none,some (.rows false s.2.2.2 [.int .i64] s.1 0 s.2.1 3)]⟩,ok:=fun s=>AY (List.length x.1.2.1) x.1.1 s.1 0 (List.length s.1)∧s.2.2.1≤List.length s.1∧List.length s.1≤s.2.1∧List.length s.1≤4096∧(s.2.2.2=true→s.2.1=0)∧ ∀i,i<s.2.2.1→oH s.1 i<y.1.1,mu:=fun s=>List.length s.1-s.2.2.1,init:=([],0,0,false),ex:=true,tie:=some (fun σ s=>match (σ.tm[0]? :Option SV) with|some (.v (.one (.rs z _ _ _ _ _ n c)))=>s.2.2.2=z∧s.2.1=c∧List.length s.1=n|_=>False)}|150000000=>some {S:=List (Row [.int .i64])×Nat×Nat×Nat,st:=fun s=>⟨jk [(0,.v (.one (.rs false 0 17 0 1 0 (List.length s.1) s.2.1))),(0,.lO 215 [.ptr 2 0]),(3,.v (.one (.int .i64 false ((s.2.2.1:Int))))),(0,.v (.one (.int .i64 false ((s.2.2.2:Int)))))] 42,[some (.cells [.int .i64 false x.1.1,.rs false 0 1 0 2 0 (List.length x.1.2.1) (List.length x.1.2.1)] 355),some (.rows false false [.int .u8,.bool] x.1.2.1 0 (List.length x.1.2.1) 364),some (.cells [.int .i64 false y.1.1] 3),none,none,none,none,none,none,none,none,none,none,none,none,none,none,some (.rows false false [.int .i64] s.1 0 s.2.1 3)]⟩,ok:=fun s=>AY (List.length x.1.2.1) x.1.1 s.1 s.2.2.2 (List.length s.1)∧AY (List.length x.1.2.1) x.1.1 s.1 0 s.2.2.1∧s.2.2.1<s.2.2.2∧s.2.2.2≤List.length s.1∧List.length s.1≤s.2.1∧List.length s.1≤4096∧ ∀i,i<s.2.2.1→oH s.1 i<y.1.1,mu:=fun s=>List.length s.1-s.2.2.2,init:=([],0,0,0),ex:=true}|_=>none),400,af (q:=K7 (mL y x.1.1) (kS (mL y x.1.1)) (Q1h x) True (eC x y (x.1,()) QI) (QT (Q18 (mL y x.1.1)) (gD y) (QR (Q1h x) (eC x y (x.1,()) QI)) (Q2M (O2 x) x.1.1 (∀ (va:zV) (vb:CM) (vc:Hd) (vd:Fv),Q2N vc vd (va.1=x.1∧vc.1.1=jF ke x.1.2.1 x.1.1 (O2 x)) (∃ (ve:rG),Q2O (Q2P vd ve vc∧Q2m (Vu (va.1.1=x.1.1) (sE va.1) (O2 x)) (WD (sE va.1) (O2 x) (List.take (O2 x) va.1.2.1=x.1.2.1)) y.1.1 y.1.1 (oE vd.1.1.1 ve.2.2.2 vd.1.1.2 ve.2.1 (List.take (LL ve) vc.1.1=ve.1))) (Q2S x ve (∀ (vf:Nat),Yg vf ve.2.2.1 ve.1 y)) ve vd vc) (∀ (ve:rG),WG (Q23 (Q2S x ve (∀ (vf:Nat),Yg vf ve.2.2.1 ve.1 y)) (ve.2.2.2=vd.1.1.1) ve.2.1 vd.1.1.2 (LL ve=Em vc)) ve.2.2.1 (LL ve) (Q2V y.1.1 ve.1 ve.2.2.1) (K7 (Q2W ve) (Q1h x) (pn vc ve vd) (Q2Y x (LL ve) ve.1) (∀ (vf:zV) (vg:CM) (vi:mF) (vj:fU),Q2Z (Q7 (vf.1.1=x.1.1) (vf.1.2.1=la x ve.1 (LL ve)) (vi.1.1=Q30 ve)) (QR (Q31 vf) (eC x y ((y.1.1,vf.1.2.1,()),()) (Zt vi)))) (Q7 (rb ve.2.2.1) (∃ (vf:mM),lN (Q2m (iZ vd.1.1.1 false (Em vc) vf.1.length vd.1.1.2 vf.2.1) True (↑ve.2.2.1:Int) (y7 vf) (ku ve.2.2.1 vf.2.2.2)) (Q2m (Q1R x) (Q7 QJ jh (ta (O2 x) (O2 x) (Kb x))) y.1.1 y.1.1 (Cp ve.2.2.2 false ve.2.1 vf.2.1 (Pq vf) ve.1 vf.1)) (FY x vf) (pA (O2 x) x.1.1 vf.1 vf.2.2.1) (td vf (∀ (vg:Nat),Yg vg vf.2.2.1 vf.1 y))) (∀ (vf:mM),WG (Qn (FY x vf) (pA (O2 x) x.1.1 vf.1 vf.2.2.1) (vf.2.2.1<vf.2.2.2) (Qn (vf.2.2.2≤Pq vf) (Pq vf≤vf.2.1) (fW (Pq vf)) (∀ (vg:Nat),Yg vg vf.2.2.1 vf.1 y))) vf.2.2.2 (Pq vf) (!(Q2V y.1.1 vf.1 vf.2.2.2)) (Q6 (QL (y7 vf) (Pq vf)) (eb vf<Pq vf) (QE (y7 vf)) (rb vf.2.2.2) (∃ (vg:mM),ja vf vg (QH (y7 vf)) (cr x y (WD vf.2.1 vg.2.1 (dx vg (vf.1.set (eb vf) ((Ka vf.1 vf.2.2.2).1,()))))) (FY x vg) (pA (O2 x) x.1.1 vg.1 vg.2.2.1) (td vg (∀ (vi:Nat),Yg vi vg.2.2.1 vg.1 y)))) (Na vf.2.2.2 (∃ (vg:mM),ja vf vg (y7 vf) (cr x y (WD vf.2.1 vg.2.1 (dx vg vf.1))) (FY x vg) (pA (O2 x) x.1.1 vg.1 vg.2.2.1) (td vg (∀ (vi:Nat),Yg vi vg.2.2.1 vg.1 y)))) (yg vf (Q1h x) (Q23 (eb vf≤(Q3f vf).length) QJ vf.2.1 vf.2.1 (gC false vf.2.1)) (Q2Y x (Q3g (eb vf) vf).length (Q3g (eb vf) vf)) (∀ (vg:zV) (vi:CM) (vj:mF) (vl:fU),Q2Z (Q7 (vg.1.1=x.1.1) (vg.1.2.1=la x (Q3g (eb vf) vf) (Q3g (eb vf) vf).length) (vj.1.1=(↑(Q3g (eb vf) vf).length:Int))) (QR (Q31 vg) (eC x y ((y.1.1,vg.1.2.1,()),()) (Zt vj)))))))) (Na ve.2.2.1 (∃ (vf:rG),Q2D (Q2O (Q2m (Q2e ve.2.2.2 vf.2.2.2 ve.1 vf.1 ve.2.1 vf.2.1) True (Q30 ve) (Q30 vf) (ku ve.2.2.1 vf.2.2.1)∧cr x y (Cp ve.2.2.2 vf.2.2.2 ve.2.1 vf.2.1 (LL vf) ve.1 vf.1)) (Q2S x vf (∀ (vg:Nat),Yg vg vf.2.2.1 vf.1 y)) vf vd vc) (LL vf) vf.2.2.1 (LL ve) ve.2.2.1)) (Qn (Q1h x) (pn vc ve vd) (Q2Y x (LL ve) ve.1) (∀ (vf:zV) (vg:CM) (vi:mF) (vj:fU),ya mJ→ya JY→Q7 (vf.1.1=x.1.1) (vf.1.2.1=la x ve.1 (LL ve)) (vi.1.1=Q30 ve)→QR (Q31 vf) (eC x y ((y.1.1,vf.1.2.1,()),()) (Zt vi))))))))) (by kernel_rfl) ?_⟩
 delta Q7 Q6 Qn kA cR Qs Q3 ya jh mJ Q4 QJ cu Yo JY Q0 Q23 gC uI O2 iZ Q2B Oy QH kF QF Qi sE Qg sY yG oE Qt dD Q3j QE WD K7 Vu Ka Qo Q2d y7 Q2m Q2Z Q2e Pq Q2C MT eb E4 QL ku Cp kS sX QR LL Q3p lV Na D8 Q8 QI fW Q18 RU Q2D ny mL QT F7 Q1h gD Q1R Em Kf la ta WG Q3f Q3g Q31 pA Kb rb lN D7 Yg cr Q2V Zt td ja Q2S pn Q30 Q2N Q2M Q2O Q2P FY yg dx Q2Y Q2W;obtain ⟨⟨(l0:Int),k0,⟨⟩⟩,⟨⟩⟩:=x;obtain ⟨⟨⟨⟩,⟨⟩,⟨⟩⟩,⟨⟩⟩:=h;obtain ⟨⟨(to:Int),⟨⟩⟩,⟨⟩⟩:=y;obtain ⟨⟨⟨⟩,⟨⟩⟩,⟨⟩⟩:=k
 try dsimp only
 have hw:ga k0 l0:=hp;obtain ⟨h1,h2,h3,h4⟩:=hw;have hpost:(to<l0∨1073741824<to)→ ∀n:Int,eC ((l0,k0,()),()) ((to,()),()) ((l0,k0,()),()) ((n,()),()):=fun h n=>⟨hp,rfl,by rw [if_pos h],fun f _ _=>rfl,fun i=> .inl rfl⟩
 have hpost2: ¬(to<l0∨1073741824<to)→ ∀ (l:List (Row [.int .i64])) (n:Int),(∀i,i<l.length→l0≤oH l i∧oH l i<to)→eC ((l0,k0,()),()) ((to,()),()) ((to,uM (0,false,()) k0 l l.length,()),()) ((n,()),()):=fun h l n hl=>by
  refine ⟨⟨by rw [bp];exact h1,by rw [bp];exact h2,by show 0≤to;omega,by show to≤1073741824;omega⟩,bp _,by rw [if_neg h],fun f (hf:to≤f) (hf2:f-l0<k0.length)=>?_,fun i=>FF i _⟩
  exact Lv h3 (by omega) hf2 _ fun i hi=>⟨(hl i hi).1,by have:=(hl i hi).2;omega⟩
 simp only [decide_eq_true_eq,decide_eq_false_iff_not,show (OfNat.ofNat (0:Nat):Int)=0 from rfl];refine ⟨fun c1=>⟨c1,⟨trivial,trivial,trivial⟩,trivial,hpost (.inl c1) _⟩,fun c1=>⟨c1,fun c2=>⟨⟨trivial,trivial,trivial⟩,trivial,hpost (.inr c2) _⟩,fun c2=>⟨⟨trivial,trivial,trivial⟩,trivial,hp,?_⟩⟩⟩;have hc: ¬(to<l0∨1073741824<to):=by omega
 rintro ⟨x1,x2⟩ h' ⟨⟨zl,⟨⟩⟩,⟨⟩⟩ ⟨⟨⟨kz,kc⟩,⟨⟩⟩,⟨⟩⟩-hk ⟨hx,hz⟩;dsimp only at hx hz hk;subst hx hz;dsimp only;obtain ⟨⟨⟨k1,k2⟩,-⟩,-⟩:=hk;have hN:=hZ (has:=ke) (l:=k0) (first:=l0) k0.length;have hA:=tM (has:=ke) (l:=k0) h3 k0.length (Nat.le_refl _);generalize jF ke k0 l0 k0.length=zl at*;refine ⟨⟨(zl,kc,0,kz),?_⟩,?_⟩
 ·simp only [List.take_length,and_true,true_and]
  (repeat' (refine And.intro ?_ ?_))<;>first|exact fun i _ hi=>hA i hi|omega|rfl|exact k2|exact fun i hi=>absurd hi (by omega)
 rintro ⟨ml,mc,mi,mz⟩ ⟨⟨hl,hi,hlc,h40,hzc,hlt⟩,rfl,rfl,hzl⟩;dsimp only at hl hi hlc h40 hzc hlt hzl ⊢;have fin: ∀ (l:List (Row [.int .i64])),AY k0.length l0 l 0 l.length→(∀i,i<l.length→oH l i<to)→Fw k0 l0 l∧ ∀n:Int,eC ((l0,k0,()),()) ((to,()),()) ((to,uM (0,false,()) k0 l l.length,()),()) ((n,()),()):=fun l q1 q2=>⟨fun i hi=>q1 i (by omega) hi,fun n=>hpost2 hc l n fun i hi=>⟨(q1 i (by omega) hi).1,q2 i hi⟩⟩
 refine ⟨fun hq=>⟨⟨by omega,hq⟩,by omega,fun hge=>⟨fun e=>by simp at e,fun _=>⟨by simp only [aL,aT,aU];omega,?_,?_⟩⟩,fun hge=>⟨by simp only [aL,aT,aU];omega,(ml,mc,mi+1,mz),?_⟩⟩,fun hq=>?_⟩
 ·have hz0:mz=false:=by
   cases mz with
   |false=>rfl
   |true=>have:=hzc rfl;omega
  subst hz0;refine ⟨(ml,mc,mi,mi+1),?_⟩;simp only [List.take_length,and_true,true_and]
  (repeat' (refine And.intro ?_ ?_))<;>first|exact fun i _ hi=>hl i (by omega) hi|exact fun i _ hi=>hl i (by omega) (by omega)|omega|rfl|exact hlt
 ·rintro ⟨tl,tc,ti,tj⟩ ⟨q1,q2,q3,q4,q5,q6,q7⟩;dsimp only at q1 q2 q3 q4 q5 q6 q7 ⊢;refine ⟨fun hq=>⟨⟨by omega,hq⟩,by omega,fun hb=>⟨⟨by omega,by omega⟩,by omega,by simp only [aL,aT,aU];omega,by simp only [aL,aT,aU];omega,(tl.set ti (al tl tj),tc,ti+1,tj+1),?_⟩,fun hb=>⟨by simp only [aL,aT,aU];omega,(tl,tc,ti,tj+1),?_⟩⟩,fun hq=>?_⟩
  ·have hb':(al tl tj).1<to:=by simpa using hb
   simp only [List.length_set,Int.toNat_natCast,and_true,true_and]
   (repeat' (refine And.intro ?_ ?_))<;>first|omega|rfl|exact List.take_of_length_le (by simp)|exact fun i hi k=>by rw [ie (by omega)];exact q1 i (by omega) k|(intro i hi k;by_cases e:i=ti;(· subst e;rw [yS (by omega)];exact q1 tj (by omega) (by omega));(· rw [ie e];exact q2 i (by omega) (by omega)))|(intro i hi;show oH _ i<to;by_cases e:i=ti;(· subst e;rw [yS (by omega)];exact hb');(· rw [ie e];exact q7 i (by omega)))
  ·simp only [List.take_length,and_true,true_and]
   (repeat' (refine And.intro ?_ ?_))<;>first|omega|rfl|exact fun i hi k=>q1 i (by omega) k|exact q2|exact q7
  ·obtain rfl:tj=tl.length:=by omega
   simp only [Int.toNat_natCast];rw [HX tl _ (by omega)]
   have hlen:(List.take ti tl).length=ti:=by simp;omega
   obtain ⟨f1,f2⟩:=fin (List.take ti tl) (fun i _ hi=>by rw [uq (by omega)];exact q2 i (by omega) (by omega)) (fun i hi=>by rw [uq (by omega)];exact q7 i (by omega))
   refine ⟨⟨by omega,by omega⟩,by omega,⟨by omega,by omega⟩,⟨trivial,trivial,trivial⟩,⟨by simp;omega,trivial,trivial,fun h=>by cases h⟩,⟨hp,by omega,f1⟩,?_⟩
   rintro x' h' z k'- -⟨e1,e2,e3⟩;refine ⟨⟨trivial,trivial,trivial⟩,trivial,?_⟩;rw [e2];exact f2 _
 ·simp only [List.take_length,and_true,true_and]
  (repeat' (refine And.intro ?_ ?_))<;>first|omega|rfl|exact hl|exact hzc|exact hzl|exact fun i hi'=>(Nat.lt_or_ge i mi).elim (hlt i) fun k=>by rw [show i=mi by omega];exact Int.not_le.1 hge
 ·obtain rfl:mi=ml.length:=by omega
  obtain ⟨f1,f2⟩:=fin ml hl hlt;refine ⟨⟨trivial,trivial,trivial⟩,⟨hzl.symm,rfl,rfl,hzc⟩,⟨hp,h40,f1⟩,?_⟩;rintro x' h' z k'- -⟨e1,e2,e3⟩;refine ⟨⟨trivial,trivial,trivial⟩,trivial,?_⟩;rw [e2];exact f2 _
noncomputable def DI:=DX.add 148 TH
end Go.Proofs.YtfdmjoddhjmokaaGreatDoor
namespace Go.Proofs.YtfdmjoddhjmokaaGreatDoor
open Go.RowKit Rex
set_option linter.unusedVariables false
set_option linter.unusedSimpArgs false
set_option maxRecDepth 100000
abbrev gE:Sp:= .pt 275 [mR,mR,.int .i64,.cl (.int .u8 (0))]
abbrev cO:Type:=(fo×fo×Int×Unit×Unit)
def fz(l:List (Row [.int .u8,.bool])):Prop:= ∀i,(al l i).1=0
def n7(kf:Int)(kl:List (Row [.int .u8,.bool]))(uf:Int)(ul:List (Row [.int .u8,.bool]))(next:Int):Prop:=(ga kl kf∧kl.length=64∧fz kl)∧(ga ul uf∧ul.length=64∧fz ul)∧uf=kf∧kf≤next∧next≤1000000
theorem SR {l:List (Row [.int .u8,.bool])}(h:fz l)(i:Nat)(b:Bool):fz (l.set i (0,b,())):=fun j=>by
 by_cases e:j=i
 ·subst e;by_cases hl:j<l.length
  ·rw [eT hl,if_pos rfl]
  ·rw [List.set_eq_of_length_le (by omega)];exact h j
 ·rw [fQ e];exact h j
theorem Sv {l l':List (Row [.int .u8,.bool])} {a b c:Int}(h:fz l)(k:mvd (0,false,()) l l' a b c):fz l':=fun i=>by
 rcases k.2.2.2 i with e|e
 ·rw [e];exact h i
 ·rw [e]
def AX(a b:Sp.T gE)(P:Prop):Prop:=(True∧True∧a.2.2.1=b.2.2.1∧(0:Int)=(0:Int))∧(a.1.1=b.1.1∧(false=false∧(0:Nat)=(0:Nat)∧(0:Nat)=(0:Nat)∧(List.length a.1.2.1)=(List.length b.1.2.1)∧(List.length a.1.2.1)=(List.length b.1.2.1))∧True)∧(false=false∧(0:Nat)=(0:Nat)∧(List.length a.1.2.1)=(List.length b.1.2.1)∧List.take ((List.length b.1.2.1)) a.1.2.1=b.1.2.1)∧(a.2.1.1=b.2.1.1∧(false=false∧(0:Nat)=(0:Nat)∧(0:Nat)=(0:Nat)∧(List.length a.2.1.2.1)=(List.length b.2.1.2.1)∧(List.length a.2.1.2.1)=(List.length b.2.1.2.1))∧True)∧(false=false∧(0:Nat)=(0:Nat)∧(List.length a.2.1.2.1)=(List.length b.2.1.2.1)∧List.take ((List.length b.2.1.2.1)) a.2.1.2.1=b.2.1.2.1)∧P
def bH(a:Sp.T gE):Prop:=(((List.length a.1.2.1)=(List.length a.1.2.1)∧(List.length a.1.2.1)=(List.length a.1.2.1)∧(List.length a.1.2.1)=(List.length a.1.2.1))∧((List.length a.2.1.2.1)=(List.length a.2.1.2.1)∧(List.length a.2.1.2.1)=(List.length a.2.1.2.1)∧(List.length a.2.1.2.1)=(List.length a.2.1.2.1))∧(0:Int)=(0:Int))
def U9(x:(Unit))(y:(Unit)):Prop:=True
def vW(x:(Unit))(y:(Unit))(x':(Unit))(z:(((gh×gh×Int×Unit×Unit)×Unit)×Unit)):Prop:=n7 z.1.1.1.1 z.1.1.1.2.1 z.1.1.2.1.1 z.1.1.2.1.2.1 z.1.1.2.2.1∧z.1.1.2.2.1=0∧z.1.1.1.1=0
noncomputable def a1Y:MC:=qC [] [] [] [(false,[gE])] U9 vW
abbrev a1r:Type:=eZ [(false,[mR]),(false,[Sp.int IntKind.i64])]
abbrev MF:Type:=aZ [(false,[mR]),(false,[Sp.int IntKind.i64])]
abbrev cI:Type:=Sp.Ts []
abbrev nM:Type:=(Sp.int IntKind.i64).T
def Ye(a b:Prop):Prop:=Q7 a b lG
def wM(a b c:Prop):Prop:=Qr (Qn a b ((0:Int)≤(0:Int)) ((0:Int)≤(1073741824:Int))) c
def yd(a:Prop):Prop:=wM ((1:Int)≤(64:Int)) ((64:Int)≤(4096:Int)) a
def K1(a b c:Prop):Prop:=uI True (cR (ya a) JY) b c
def Q3x(a:nM):Prop:=a=(0:Int)
def rv(a:mF):Prop:=Q3x a.1.1
def CV(a:MF)(b:Prop):Prop:=K1 mJ (Q7 (Q3x a.1.1.1) (a.1.1.2.1=List.replicate (64:Nat) (Kf Q8)) (rv a.2)) b
def Q3u(a:MF):Prop:=QF (sE a.1.1) (sE a.1.1)
theorem a2J:ab Tryz.prog 111 a1Y:=by
 refine ah (cx Mx [251,155] b8 DI) Tryz.func111 (by kernel_rfl) (by kernel_rfl) fun (x:(Unit)) h (y:(Unit)) k hf hg hp=>⟨bK,400,af (q:=yd (∀ (va:cI) (vb:ck) (vc:MF) (vd:a1r),CV vc (yd (∀ (ve:cI) (vf:ck) (vg:MF) (vi:a1r),CV vg (Q10 (Ye (Q3u vc) (Q3u vg)) (vW x y () (((vc.1.1,vg.1.1,(0:Int),Qk),()),()))))))) (by kernel_rfl) ?_⟩
 delta Q7 oO lG Qn cR Qs ya Qr Qk mJ JY uI QF sE Ye Q10 K1 Q8 Q3x Kf rv wM yd CV Q3u;obtain ⟨⟨⟩⟩:=x;obtain ⟨⟨⟩⟩:=h;obtain ⟨⟨⟩⟩:=y;obtain ⟨⟨⟩⟩:=k
 try dsimp only
 simp only [cl];refine ⟨by omega,fun z e1 e2 e3=>⟨by omega,fun z' f1 f2 f3=>?_⟩⟩
 dsimp only [vW];rw [e1,e2,f1,f2];have hz:fz (List.replicate 64 (0,false,())):=fun i=>by unfold al;rw [List.getD_eq_getElem?_getD,List.getElem?_replicate];split<;>rfl
 exact ⟨⟨⟨by simp [ga],by simp,hz⟩,⟨by simp [ga],by simp,hz⟩,rfl,by omega,by omega⟩,rfl,rfl⟩
noncomputable def MH:=DI.add 111 a2J
def Ta(x:(cO×Unit))(y:((Int×Unit)×(Unit×Unit)×Unit)):Prop:=n7 x.1.1.1 x.1.1.2.1 x.1.2.1.1 x.1.2.1.2.1 x.1.2.2.1∧y.1.1=x.1.2.2.1∧x.1.2.2.1-x.1.1.1<64∧x.1.2.2.1<1000000
def wL(x:(cO×Unit))(y:((Int×Unit)×(Unit×Unit)×Unit))(x':(cO×Unit))(z:((Unit×Unit)×Unit)):Prop:=n7 x'.1.1.1 x'.1.1.2.1 x'.1.2.1.1 x'.1.2.1.2.1 x'.1.2.2.1∧x'.1.2.2.1=x.1.2.2.1+1∧x'.1.1.1=x.1.1.1
noncomputable def a3t:MC:=qC [true,false,false] [gE] [(false,[.int .i64]),(false,[.cl (.int .u8 (0))])] [(false,[.cl (.int .i64 (0))])] Ta wL
abbrev AJ:Type:=(Unit×Unit)×Unit
abbrev Jj:Type:=cO×Unit
def mB:AJ:=(Qk,())
def yo(a:Jj):Nat:=Yo a.1.2.1.2
def Q3B(a:Jj):Nat:=Yo a.1.1.2
def CW:Prop:=oO (1:Int)
def I2(a:Jj):HJ:=a.1.1.2.1
def Q3E(a:mF):Bool:=a.1.1 !=(0:Int)
def Q3G(a b c:Prop):Prop:=a→b∧c
def Q3D(a b c:Prop)(d:mF)(e f:Int)(g:Prop):Prop:=Q2Z (a∧Q3G b c (d.1.1=(if e<f then (10:Int) else (8:Int)))) g
theorem a28:ab Tryz.prog 92 a3t:=by
 refine ah (cx Mx [251,155] b8 MH) Tryz.func92 (by kernel_rfl) (by kernel_rfl) fun (x:(cO×Unit)) h (y:((Int×Unit)×(Unit×Unit)×Unit)) k hf hg hp=>⟨bK,400,af (q:=Ql (decide (y.1.1<(0:Int))) (QK (decide ((1073741824:Int)<y.1.1)) (bH x.1) CW (wL x y (x.1,()) mB) (QK (decide (y.1.1<x.1.2.2.1)) (bH x.1) (oO (10:Int)) (wL x y (x.1,()) mB) (QK (decide (x.1.2.2.1<y.1.1)) (bH x.1) (oO (11:Int)) (wL x y (x.1,()) mB) (Qs (QF (Q3B x) (Q3B x)) (Q7 (ga (I2 x) x.1.1.1) (Qt y.1.1) (y.1.1≤(1099511627776:Int))) (∀ (va:zV) (vb:CM) (vc:mF) (vd:fU),Q3D (qH (I2 x) x.1.1.1 y.1.1→Q7 (rv vc) (va.1.1=x.1.1.1) (va.1.2.1=(I2 x).set (Qp y.1.1 (Q3B x)) ((0:Int),true,()))) (¬(qH (I2 x) x.1.1.1 y.1.1)) (va.1=x.1.1) vc y.1.1 x.1.1.1 (QK (Q3E vc) (Ye (Q31 va) (QF (yo x) (yo x))) (rv vc) (wL x y ((va.1,x.1.2.1,x.1.2.2.1,Qk),()) mB) (Qn (QE y.1.1) (Ye (Q31 va) (QF (yo x) (yo x))) lG (wL x y ((va.1,x.1.2.1,QH y.1.1,Qk),()) mB)))))))) (Q7 (bH x.1) CW (wL x y (x.1,()) mB))) (by kernel_rfl) ?_⟩
 delta Q7 oO lG Qn cR Qs Q3 ya Qk mJ Q4 Yo JY Q0 uI mB QH QF QK Qi Qh sE Qp Ye Qt dD Q3j QE Ql Q2Z yo Q3x Q3B CW Q3G I2 Q31 rv Q3E Q3D bH;obtain ⟨⟨⟨(l0:Int),m0,⟨⟩⟩,⟨(n0:Int),o0,⟨⟩⟩,(k0:Int),⟨⟩,⟨⟩⟩,⟨⟩⟩:=x;obtain ⟨⟨⟨⟨⟩,⟨⟩,⟨⟩⟩,⟨⟨⟩,⟨⟩,⟨⟩⟩,⟨⟩,⟨⟩,⟨⟩⟩,⟨⟩⟩:=h;obtain ⟨⟨(fr:Int),⟨⟩⟩,⟨⟨⟩,⟨⟩⟩,⟨⟩⟩:=y;obtain ⟨⟨⟨⟩,⟨⟩⟩,⟨⟨⟩,⟨⟩⟩,⟨⟩⟩:=k
 try dsimp only
 obtain ⟨⟨⟨k1,k2,k3⟩,⟨u1,u2,u3⟩,n1,n2,n3⟩,hfr,hlt,hmx⟩:=(show n7 l0 m0 n0 o0 k0∧fr=k0∧k0-l0<64∧k0<1000000 from hp);subst hfr;have k1':=k1;obtain ⟨w1,w2,w3,w4⟩:=k1';simp only [cl];refine ⟨fun h1=>⟨fun h2=>absurd h2 (by omega),fun h2=>⟨fun h3=>absurd h3 (by omega),fun h3=>⟨fun h4=>absurd h4 (by omega),fun h4=>⟨⟨k1,by omega,by omega⟩,fun x z hx hx'=>?_⟩⟩⟩⟩,fun h1=>absurd h1 (by omega)⟩
 obtain ⟨e1,e2,e3⟩:=hx n2 (by omega) (by omega)
 refine ⟨fun h=>absurd e1 h,fun _=>⟨by simp only [aL,aT,aU];omega,?_⟩⟩
 dsimp only [wL];rw [e2,e3];refine ⟨⟨⟨⟨by simpa using w1,by simpa using w2,w3,w4⟩,by simpa using k2,SR k3 _ _⟩,⟨u1,u2,u3⟩,n1,by omega,by omega⟩,rfl,rfl⟩
noncomputable def Ob:=MH.add 92 a28
def PJ(x:(cO×Unit))(y:((Int×Unit)×Unit)):Prop:=n7 x.1.1.1 x.1.1.2.1 x.1.2.1.1 x.1.2.1.2.1 x.1.2.2.1∧x.1.1.1≤y.1.1∧y.1.1≤1000000
def fG(x:(cO×Unit))(y:((Int×Unit)×Unit))(x':(cO×Unit))(z:((Unit×Unit)×(Bool×Unit)×Unit)):Prop:=n7 x'.1.1.1 x'.1.1.2.1 x'.1.2.1.1 x'.1.2.1.2.1 x'.1.2.2.1∧x'.1.2.2.1=x.1.2.2.1∧x'.1.1.1=x.1.1.1
noncomputable def YI:MC:=qC [true,false] [gE] [(false,[.int .i64])] [(false,[.cl (.int .u8 (0))]),(false,[.bool])] PJ fG
abbrev MM:Type:=(Kd.int IntKind.u8).T
def Q3J(a:Jj):HJ:=a.1.2.1.2.1
def Wg(a:Jj)(b:ky)(c:Prop):Prop:=Qs (QF (yo a) (yo a)) (Q7 (ga (Q3J a) a.1.2.1.1) (Qt b.1.1) (b.1.1≤(1099511627776:Int))) c
def nS(a:Jj)(b:ky):Bool:=decide (qH (I2 a) a.1.1.1 b.1.1)&&(xU (I2 a) b.1.1).2.1
def Q3K(a:Jj)(b:ky):MM:=if qH (I2 a) a.1.1.1 b.1.1∧(xU (I2 a) b.1.1).2.1=true then (xU (I2 a) b.1.1).1 else (0:Int)
theorem Zm:ab Tryz.prog 202 YI:=by
 refine ah (cx Mx [251,155] b8 Ob) Tryz.func202 (by kernel_rfl) (by kernel_rfl) fun (x:(cO×Unit)) h (y:((Int×Unit)×Unit)) k hf hg hp=>⟨bK,400,af (q:=Q7 (ya (QA (Q3B x) (Q3B x))) (Q4 (mL y x.1.1.1) (QK (gD y) (bH x.1) lG (fG x y (x.1,()) (Qk,Q2)) (QT (Qn (QA (Q3B x) (Q3B x)) (ga (I2 x) x.1.1.1) (Qt y.1.1) (y.1.1≤(1099511627776:Int))) (!(nS x y)) (Wg x y (∀ (va:zV) (vb:CM) (vc:mF) (vd:fU),Q3D (qH (Q3J x) x.1.2.1.1 y.1.1→Q7 (rv vc) (va.1.1=x.1.2.1.1) (va.1.2.1=(Q3J x).set (Qp y.1.1 (yo x)) ((0:Int),true,()))) (¬(qH (Q3J x) x.1.2.1.1 y.1.1)) (va.1=x.1.2.1) vc y.1.1 x.1.2.1.1 (Q7 (Ye (QF (Q3B x) (Q3B x)) (Q31 va)) lG (fG x y ((x.1.1,va.1,x.1.2.2.1,Qk),()) (Qk,(nS x y,()),()))))) (Wg x y (∀ (va:zV) (vb:CM) (vc:mF) (vd:fU),Q3D (qH (Q3J x) x.1.2.1.1 y.1.1→Q7 (rv vc) (va.1.1=x.1.2.1.1) (va.1.2.1=(Q3J x).set (Qp y.1.1 (yo x)) (Q3K x y,true,()))) (¬(qH (Q3J x) x.1.2.1.1 y.1.1)) (va.1=x.1.2.1) vc y.1.1 x.1.2.1.1 (Q7 (Ye (QF (Q3B x) (Q3B x)) (Q31 va)) (Q3K x y=(0:Int)) (fG x y ((x.1.1,va.1,x.1.2.2.1,Qk),()) (Qk,(nS x y,()),())))))))) (Q3 (mL y x.1.1.1) (Q7 (bH x.1) lG (fG x y (x.1,()) (Qk,Q2))))) (by kernel_rfl) ?_⟩
 delta Q7 oO lG Qn cR Qs Q3 ya Qk mJ Q4 QJ Yo JY Q0 uI QF QK Qh QA sE Qp Ye Qt dD Q3j Q2Z yo Q8 Q3x Q3B mL QT Q3G gD I2 Q31 rv Q3J Q2 Q3D Wg nS Q3K bH;obtain ⟨⟨⟨(m0:Int),n0,⟨⟩⟩,⟨(k0:Int),l0,⟨⟩⟩,(o0:Int),⟨⟩,⟨⟩⟩,⟨⟩⟩:=x;obtain ⟨⟨⟨⟨⟩,⟨⟩,⟨⟩⟩,⟨⟨⟩,⟨⟩,⟨⟩⟩,⟨⟩,⟨⟩,⟨⟩⟩,⟨⟩⟩:=h;obtain ⟨⟨(fr:Int),⟨⟩⟩,⟨⟩⟩:=y;obtain ⟨⟨⟨⟩,⟨⟩⟩,⟨⟩⟩:=k
 try dsimp only
 obtain ⟨⟨⟨k1,k2,k3⟩,⟨u1,u2,u3⟩,n1,n2,n3⟩,hlo,hhi⟩:=(show n7 m0 n0 k0 l0 o0∧m0≤fr∧fr≤1000000 from hp);have u1':=u1;have k1':=k1;obtain ⟨w1,w2,w3,w4⟩:=k1';obtain ⟨v1,v2,v3,v4⟩:=u1';have hz: ∀c:Prop,∀_:Decidable c,(if c then (xU n0 fr).1 else 0)=0:=fun c _=>by split;exact k3 _;rfl
 have fin: ∀ (x':Sp.Ts [mR]) (z:Int) (b:Bool),(k0≤fr→fr-k0<l0.length→fr≤1073741824→z=0∧x'.fst.fst=k0∧x'.fst.snd.fst=l0.set (fr.tmod l0.length).toNat (0,true,()))→(¬qH l0 k0 fr→x'.fst=(k0,l0,())∧z=if fr<k0 then 10 else 8)→fG (((m0,n0,()),(k0,l0,()),o0,(),()),()) ((fr,()),()) (((m0,n0,()),(x'.fst.fst,x'.fst.snd.fst,()),o0,(),()),()) (((),()),(b,()),()):=fun x' z b h1 h2=>by
  dsimp only [fG];by_cases hw:qH l0 k0 fr
  ·obtain ⟨e1,e2,e3⟩:=h1 hw.1 hw.2.1 hw.2.2;rw [e2,e3];exact ⟨⟨⟨k1,k2,k3⟩,⟨⟨by simpa using v1,by simpa using v2,v3,v4⟩,by simpa using u2,SR u3 _ _⟩,n1,n2,n3⟩,rfl,rfl⟩
  ·obtain ⟨e1,e2⟩:=h2 hw;rw [e1];exact ⟨⟨⟨k1,k2,k3⟩,⟨u1,u2,u3⟩,n1,n2,n3⟩,rfl,rfl⟩
 simp only [cl];simp only [hz];refine ⟨fun h1=>⟨fun h2=>absurd h2 (by omega),fun h2=>⟨⟨k1,by omega,by omega⟩,fun h3=>⟨⟨u1,by omega,by omega⟩,fun x z h4 h5=>fin x z.1.1 _ h4 h5⟩,fun h3=>⟨⟨u1,by omega,by omega⟩,fun x z h4 h5=>⟨trivial,fin x z.1.1 _ h4 h5⟩⟩⟩⟩,fun h1=>absurd h1 (by omega)⟩
noncomputable def J5:=Ob.add 202 Zm
def Lk(x:(cO×Unit))(y:(Unit)):Prop:=n7 x.1.1.1 x.1.1.2.1 x.1.2.1.1 x.1.2.1.2.1 x.1.2.2.1
def pU(x:(cO×Unit))(y:(Unit))(x':(cO×Unit))(z:((Unit×Unit)×(Unit×Unit)×Unit)):Prop:=x'.1=x.1
noncomputable def VE:MC:=qC [true] [gE] [] [(false,[.cl (.int .i64 (0))]),(false,[.cl (.bool false)])] Lk pU
abbrev FT:Type:=List (Row [Kd.int IntKind.i64])×Nat×Bool×Nat
def LP:(Unit×Unit)×(Unit×Unit)×Unit:=(Qk,mB)
def Q3O(a:FT):(Kd.int IntKind.i64).T:=(Ka a.1 a.2.2.2).1
def kQ(a:Prop)(b:Bool)(c d e:Prop):Prop:=a→Q0 b (c∧d) e
def Rz(a:(Kd.int IntKind.i64).T):Prop:=a=(0:Int)
def yp(a:FT):Nat:=a.1.length
def H5(a:HJ)(b:FT):Zz:=xU a (Q3O b)
def Q3Q(a:HJ)(b:Int)(c:FT)(d:Kd.bool.T)(e:MM):MM:=if qH a b (Q3O c)∧d=true then e else (0:Int)
def Q3M(a:Nat)(b:FT):Prop:=Q3G (a<yp b) ((0:Int)≤(al b.1 a).1) ((al b.1 a).1≤(1073741824:Int))
theorem Ve:ab Tryz.prog 85 VE:=by
 refine ah (cx Mx [251,155] b8 J5) Tryz.func85 (by kernel_rfl) (by kernel_rfl) fun (x:(cO×Unit)) h (y:(Unit)) k hf hg hp=>⟨(fun bk=>match bk with|0=>some {S:=List (Row [.int .i64])×Nat×Bool×Nat,st:=fun s=>⟨jk [(0,.v (.one (.ptr 0 0))),(15,.v (.one (.rs s.2.2.1 0 5 0 1 0 (List.length s.1) s.2.1))),(0,.v (.one (.int .i64 false ((List.length s.1:Int))))),(0,.v (.one (.int .i64 false ((s.2.2.2:Int)))))] 45,aW false [gE] (x.1,()) ((((),(),()),((),(),()),(),(),()),()) 0 0++ [some (.rows false s.2.2.1 [.int .i64] s.1 0 s.2.1 3)]⟩,ok:=fun s=>(∀i,i<List.length s.1→0≤oH s.1 i∧oH s.1 i≤1073741824)∧s.2.2.2≤List.length s.1∧List.length s.1≤4096,mu:=fun s=>List.length s.1-s.2.2.2,init:=([],0,false,0),ex:=true}|_=>none),400,af (q:=Q2M (yo x) x.1.2.1.1 (∀ (va:zV) (vb:CM) (vc:Hd) (vd:Fv),Q2N vc vd (va.1=x.1.2.1∧vc.1.1=jF ke (Q3J x) x.1.2.1.1 (yo x)) (∃ (ve:FT),Qn (Qn (Yw (iZ vd.1.1.1 ve.2.2.1 (Em vc) ve.1.length vd.1.1.2 ve.2.1) (Em vc) (yp ve) (RU ve.2.2.2)) (Qr (x.1.2.2.1=x.1.2.2.1) lG) (Vu (x.1.1.1=x.1.1.1) (Q3B x) (Q3B x)) (Q6 (WD (Q3B x) (Q3B x) (List.take (Q3B x) (I2 x)=I2 x)) (Vu (va.1.1=x.1.2.1.1) (sE va.1) (yo x)) (WD (sE va.1) (yo x) (List.take (yo x) va.1.2.1=Q3J x)) (oE vd.1.1.1 ve.2.2.1 vd.1.1.2 ve.2.1 (List.take (yp ve) vc.1.1=ve.1)) True)) (∀ (vf:Nat),Q3M vf ve) (ve.2.2.2≤yp ve) (fW (yp ve))) (∀ (ve:FT),kQ (Q7 (∀ (vf:Nat),Q3M vf ve) (ve.2.2.2≤yp ve) (fW (yp ve))) (lV ve.2.2.2 (yp ve)) (ny ve.2.2.2 (yp ve)) (Q1a (F7 ve.2.2.2 (yp ve)) (Qn (QA (yo x) (yo x)) (ga (Q3J x) x.1.2.1.1) ((0:Int)≤Q3O ve) (Q3O ve≤(1099511627776:Int))) (Qn (QA (Q3B x) (Q3B x)) (ga (I2 x) x.1.1.1) ((0:Int)≤Q3O ve) (Q3O ve≤(1099511627776:Int))) (decide (qH (I2 x) x.1.1.1 (Q3O ve))&&(H5 (I2 x) ve).2.1) (QK (Q3Q (I2 x) x.1.1.1 ve (H5 (I2 x) ve).2.1 (H5 (I2 x) ve).1 !=Q3Q (Q3J x) x.1.2.1.1 ve (H5 (Q3J x) ve).2.1 (H5 (Q3J x) ve).1) (bH x.1) (Rz (Q3O ve)∧Q18 true) (pU x y (x.1,()) LP) (Na ve.2.2.2 (∃ (vf:FT),E4 (Yw (Q2e ve.2.2.1 vf.2.2.1 ve.1 vf.1 ve.2.1 vf.2.1) (yp ve) (yp vf) (ku ve.2.2.2 vf.2.2.2)∧AX x.1 x.1 (ya (Cp ve.2.2.1 vf.2.2.1 ve.2.1 vf.2.1 (yp vf) ve.1 vf.1))) (∀ (vg:Nat),Q3M vg vf) (vf.2.2.2≤yp vf) (fW (yp vf)) (yp vf) vf.2.2.2 (yp ve) ve.2.2.2))) (Na ve.2.2.2 (∃ (vf:FT),E4 (Yw (Q2e ve.2.2.1 vf.2.2.1 ve.1 vf.1 ve.2.1 vf.2.1) (yp ve) (yp vf) (ku ve.2.2.2 vf.2.2.2)∧AX x.1 x.1 (ya (Cp ve.2.2.1 vf.2.2.1 ve.2.1 vf.2.1 (yp vf) ve.1 vf.1))) (∀ (vg:Nat),Q3M vg vf) (vf.2.2.2≤yp vf) (fW (yp vf)) (yp vf) vf.2.2.2 (yp ve) ve.2.2.2))) (Q7 (bH x.1) (lG∧QJ) (pU x y (x.1,()) LP))))) (by kernel_rfl) ?_⟩
 delta Q7 Q6 oO lG Qn kA cR Qs Q3 ya Qr jh Qk mJ Q4 Q5 QJ cu Yo Q0 Q23 gC uI mB iZ QH QF QK Qi QA sE sY yG oE Qt dD QE WD xG Vu LP Ka Qo Q2d Q2e Q2C MT Yw E4 QL ku Cp Q1a yo lV Na Q3B fW Q18 RU ny Q3O kQ F7 Q3G I2 Rz yp Em H5 Q3J D7 Q3Q Q2N Q2M Q3M AX bH;obtain ⟨⟨⟨(n0:Int),l0,⟨⟩⟩,⟨(m0:Int),k0,⟨⟩⟩,(o0:Int),⟨⟩,⟨⟩⟩,⟨⟩⟩:=x;obtain ⟨⟨⟨⟨⟩,⟨⟩,⟨⟩⟩,⟨⟨⟩,⟨⟩,⟨⟩⟩,⟨⟩,⟨⟩,⟨⟩⟩,⟨⟩⟩:=h;obtain ⟨⟨⟩⟩:=y;obtain ⟨⟨⟩⟩:=k
 try dsimp only
 obtain ⟨⟨k1,k2,k3⟩,⟨u1,u2,u3⟩,n1,n2,n3⟩:=(show n7 n0 l0 m0 k0 o0 from hp);have u1':=u1;obtain ⟨w1,w2,w3,w4⟩:=u1';have hz: ∀ (c:Prop) (_:Decidable c) (fr:Int),(if c then (xU l0 fr).1 else 0)=0:=fun c _ fr=>by split;exact k3 _;rfl
 have hz2: ∀ (c:Prop) (_:Decidable c) (fr:Int),(if c then (xU k0 fr).1 else 0)=0:=fun c _ fr=>by split;exact u3 _;rfl
 simp only [cl];simp only [hz,hz2];refine ⟨by omega,fun x z k hk1 hk2 hx hz=>⟨⟨(z.fst.fst,k.fst.fst.snd,k.fst.fst.fst,0),?_⟩,?_⟩⟩
 ·rw [hx,hz];have hN:=hZ (has:=ke) (l:=k0) (first:=m0) k0.length;have hA:=tM (has:=ke) (l:=k0) w3 k0.length (Nat.le_refl _);simp only [List.take_length,true_and,and_true]
  (repeat' (refine And.intro ?_ ?_))<;>first|omega|rfl|exact fun i hi=>⟨Int.le_trans w3 (hA i hi).1,(hA i hi).2.2⟩
 ·rintro ⟨l,c,q,i⟩ h1 h2 h3;dsimp only at h1 h2 h3 ⊢;refine ⟨fun h4=>?_,fun _=>rfl⟩;have hi:i<l.length:=by omega
  obtain ⟨a1,a2⟩:=h1 i hi;refine ⟨⟨by omega,h4⟩,hi,⟨u1,a1,Int.le_trans a2 (by decide)⟩,⟨k1,a1,Int.le_trans a2 (by decide)⟩,fun _=>⟨fun h=>absurd trivial h,fun _=>⟨by simp only [aL,aT,aU];omega,(l,c,q,i+1),?_⟩⟩,fun _=>⟨by simp only [aL,aT,aU];omega,(l,c,q,i+1),?_⟩⟩
  all_goals
   simp only [List.take_length,true_and,and_true]
   (repeat' (refine And.intro ?_ ?_))<;>first|omega|rfl|exact h1
noncomputable def DM:=J5.add 85 Ve
def OU(x:(cO×Unit))(y:((Int×Unit)×Unit)):Prop:=n7 x.1.1.1 x.1.1.2.1 x.1.2.1.1 x.1.2.1.2.1 x.1.2.2.1
def zg(x:(cO×Unit))(y:((Int×Unit)×Unit))(x':(cO×Unit))(z:((Int×Unit)×Unit)):Prop:=n7 x'.1.1.1 x'.1.1.2.1 x'.1.2.1.1 x'.1.2.1.2.1 x'.1.2.2.1∧x'.1.2.2.1=x.1.2.2.1∧x'.1.1.1=(if min y.1.1 x.1.2.2.1<x.1.1.1 then x.1.1.1 else min y.1.1 x.1.2.2.1)
noncomputable def Z0:MC:=qC [true,false] [gE] [(false,[.int .i64])] [(false,[.int .i64])] OU zg
theorem XK:ab Tryz.prog 81 Z0:=by
 refine ah (cx Mx [251,155] b8 DM) Tryz.func81 (by kernel_rfl) (by kernel_rfl) fun (x:(cO×Unit)) h (y:((Int×Unit)×Unit)) k hf hg hp=>⟨bK,400,af (q:=Qs (QF (yo x) (yo x)) (Q7 (D7 (yo x)) (fW (yo x)) (D8 x.1.2.1.1 (1073741824:Int))) (∀ (va:zV) (vb:CM) (vc:mF) (vd:fU),Q2Z (ga va.1.2.1 va.1.1∧mvd (Kf Q8) (Q3J x) va.1.2.1 x.1.2.1.1 va.1.1 (if x.1.2.2.1<y.1.1 then x.1.2.2.1 else y.1.1)) (Q2M (Q3B x) x.1.1.1 (∀ (ve:zV) (vf:CM) (vg:mF) (vi:fU),Q2Z (ga ve.1.2.1 ve.1.1∧mvd (Kf Q8) (I2 x) ve.1.2.1 x.1.1.1 ve.1.1 (if x.1.2.2.1<y.1.1 then x.1.2.2.1 else y.1.1)) (QR (Ye (Q31 ve) (Q31 va)) (zg x y ((ve.1,va.1,x.1.2.2.1,Qk),()) (Zt vg))))))) (by kernel_rfl) ?_⟩
 delta Q7 oO lG Qn cR Qs ya Qk mJ Yo JY uI QF sE Ye Qt dD Q3j Q2Z yo QR D8 Q8 Q3B fW I2 Kf Q31 Q3J D7 Zt Q2M;obtain ⟨⟨⟨(l0:Int),m0,⟨⟩⟩,⟨(n0:Int),o0,⟨⟩⟩,(k0:Int),⟨⟩,⟨⟩⟩,⟨⟩⟩:=x;obtain ⟨⟨⟨⟨⟩,⟨⟩,⟨⟩⟩,⟨⟨⟩,⟨⟩,⟨⟩⟩,⟨⟩,⟨⟩,⟨⟩⟩,⟨⟩⟩:=h;obtain ⟨⟨(fr:Int),⟨⟩⟩,⟨⟩⟩:=y;obtain ⟨⟨⟨⟩,⟨⟩⟩,⟨⟩⟩:=k
 try dsimp only
 obtain ⟨⟨k1,k2,k3⟩,⟨u1,u2,u3⟩,n1,n2,n3⟩:=(show n7 l0 m0 n0 o0 k0 from hp);simp only [cl];refine ⟨u1,fun x h1 h2=>⟨k1,fun y z h3 h4=>?_⟩⟩;have q1:=Sv u3 h2;have q2:=Sv k3 h4;obtain ⟨a1,a2,-,-⟩:=h2;obtain ⟨b1,b2,-,-⟩:=h4;have hmin:(if k0<fr then k0 else fr)=min fr k0:=by rw [Int.min_def];split<;>split<;>omega
 rw [hmin] at a2 b2;have hk: ¬1073741824<min fr k0:=by omega
 simp only [hk,or_false] at a2 b2;refine ⟨⟨⟨h3,b1.trans k2,q2⟩,⟨h1,a1.trans u2,q1⟩,?_,?_,n3⟩,rfl,b2⟩
 ·show x.1.1=y.1.1;rw [a2,b2,n1]
 ·show y.1.1≤k0;rw [b2];split
  ·exact n2
  ·exact Int.min_le_right _ _
noncomputable def IJ:=DM.add 81 XK
end Go.Proofs.YtfdmjoddhjmokaaGreatDoor
namespace Go.Proofs.YtfdmjoddhjmokaaGreatDoor
open Go.RowKit Rex
set_option linter.unusedVariables false
set_option linter.unusedSimpArgs false
set_option maxRecDepth 100000
abbrev vV:List Kd:= [.int .i64,.int .u32,.int .i64,.int .i64,.int .i32,.int .i32,.int .i32,.int .i32,.int .i64,.int .i64,.int .i64,.int .i64,.int .i64,.int .i64,.int .i32,.int .i32,.int .i32,.int .i32,.int .i64,.int .i64,.int .i64,.int .i64,.int .i64,.int .i64,.int .i32,.int .i32,.int .i32,.int .i32,.int .i64,.int .i64,.int .i32,.int .i32,.int .i32,.int .i32,.int .i64,.int .i64,.int .i32,.int .i32,.int .i32,.int .i32,.int .i64,.int .i64,.int .i32,.int .i32,.int .i32,.int .i32,.int .i64,.int .i64,.int .i32,.int .i32,.int .i32,.int .i32,.int .i64,.int .i64,.int .i32,.int .i32,.int .i32,.int .i32,.int .i64,.int .i64,.bool]
def jc(f d l:Int):Row vV:=(f,d,0,l,(-2097152),0,0,0,0,3,0,0,0,0,2097152,0,0,0,32768,3,0,0,0,0,0,0,0,0,0,0,0,0,0,0,0,0,0,0,0,0,0,0,0,0,0,0,0,0,0,0,0,0,0,0,0,0,0,0,0,0,true,())
abbrev zW:List Sp:=(.int .i64)::(.int .u32)::(.cl (.int .i64 (0)))::(.int .i64)::(.cl (.int .i32 (-2097152)))::(.cl (.int .i32 (0)))::(.cl (.int .i32 (0)))::(.cl (.int .i32 (0)))::(.cl (.int .i64 (0)))::(.cl (.int .i64 (3)))::(.cl (.int .i64 (0)))::(.cl (.int .i64 (0)))::(.cl (.int .i64 (0)))::(.cl (.int .i64 (0)))::(.cl (.int .i32 (2097152)))::(.cl (.int .i32 (0)))::(.cl (.int .i32 (0)))::(.cl (.int .i32 (0)))::(.cl (.int .i64 (32768)))::(.cl (.int .i64 (3)))::(.cl (.int .i64 (0)))::(.cl (.int .i64 (0)))::(.cl (.int .i64 (0)))::(.cl (.int .i64 (0)))::(.cl (.int .i32 (0)))::(.cl (.int .i32 (0)))::(.cl (.int .i32 (0)))::(.cl (.int .i32 (0)))::(.cl (.int .i64 (0)))::(.cl (.int .i64 (0)))::(.cl (.int .i32 (0)))::(.cl (.int .i32 (0)))::(.cl (.int .i32 (0)))::(.cl (.int .i32 (0)))::(.cl (.int .i64 (0)))::(.cl (.int .i64 (0)))::(.cl (.int .i32 (0)))::(.cl (.int .i32 (0)))::(.cl (.int .i32 (0)))::(.cl (.int .i32 (0)))::(.cl (.int .i64 (0)))::(.cl (.int .i64 (0)))::(.cl (.int .i32 (0)))::(.cl (.int .i32 (0)))::(.cl (.int .i32 (0)))::(.cl (.int .i32 (0)))::(.cl (.int .i64 (0)))::(.cl (.int .i64 (0)))::(.cl (.int .i32 (0)))::(.cl (.int .i32 (0)))::(.cl (.int .i32 (0)))::(.cl (.int .i32 (0)))::(.cl (.int .i64 (0)))::(.cl (.int .i64 (0)))::(.cl (.int .i32 (0)))::(.cl (.int .i32 (0)))::(.cl (.int .i32 (0)))::(.cl (.int .i32 (0)))::(.cl (.int .i64 (0)))::(.cl (.int .i64 (0))):: []
abbrev stV(f d l:Int):Sp.Ts zW:=(f,d,(),l,(),(),(),(),(),(),(),(),(),(),(),(),(),(),(),(),(),(),(),(),(),(),(),(),(),(),(),(),(),(),(),(),(),(),(),(),(),(),(),(),(),(),(),(),(),(),(),(),(),(),(),(),(),(),(),(),())
abbrev stH:Sp.Hs zW:=((),(),(),(),(),(),(),(),(),(),(),(),(),(),(),(),(),(),(),(),(),(),(),(),(),(),(),(),(),(),(),(),(),(),(),(),(),(),(),(),(),(),(),(),(),(),(),(),(),(),(),(),(),(),(),(),(),(),(),(),())
def X6:Prop:=((0:Int)=(0:Int)∧(0:Int)=(-2097152:Int)∧(0:Int)=(0:Int)∧(0:Int)=(0:Int)∧(0:Int)=(0:Int)∧(0:Int)=(0:Int)∧(0:Int)=(3:Int)∧(0:Int)=(0:Int)∧(0:Int)=(0:Int)∧(0:Int)=(0:Int)∧(0:Int)=(0:Int)∧(0:Int)=(2097152:Int)∧(0:Int)=(0:Int)∧(0:Int)=(0:Int)∧(0:Int)=(0:Int)∧(0:Int)=(32768:Int)∧(0:Int)=(3:Int)∧(0:Int)=(0:Int)∧(0:Int)=(0:Int)∧(0:Int)=(0:Int)∧(0:Int)=(0:Int)∧(0:Int)=(0:Int)∧(0:Int)=(0:Int)∧(0:Int)=(0:Int)∧(0:Int)=(0:Int)∧(0:Int)=(0:Int)∧(0:Int)=(0:Int)∧(0:Int)=(0:Int)∧(0:Int)=(0:Int)∧(0:Int)=(0:Int)∧(0:Int)=(0:Int)∧(0:Int)=(0:Int)∧(0:Int)=(0:Int)∧(0:Int)=(0:Int)∧(0:Int)=(0:Int)∧(0:Int)=(0:Int)∧(0:Int)=(0:Int)∧(0:Int)=(0:Int)∧(0:Int)=(0:Int)∧(0:Int)=(0:Int)∧(0:Int)=(0:Int)∧(0:Int)=(0:Int)∧(0:Int)=(0:Int)∧(0:Int)=(0:Int)∧(0:Int)=(0:Int)∧(0:Int)=(0:Int)∧(0:Int)=(0:Int)∧(0:Int)=(0:Int)∧(0:Int)=(0:Int)∧(0:Int)=(0:Int)∧(0:Int)=(0:Int)∧(0:Int)=(0:Int)∧(0:Int)=(0:Int)∧(0:Int)=(0:Int)∧(0:Int)=(0:Int)∧(0:Int)=(0:Int)∧(0:Int)=(0:Int))
def isI(r:Row vV):Prop:=r.2.2.1=0∧r.2.2.2.2.1= -2097152∧r.2.2.2.2.2.1=0∧r.2.2.2.2.2.2.1=0∧r.2.2.2.2.2.2.2.1=0∧r.2.2.2.2.2.2.2.2.1=0∧r.2.2.2.2.2.2.2.2.2.1=3∧r.2.2.2.2.2.2.2.2.2.2.1=0∧r.2.2.2.2.2.2.2.2.2.2.2.1=0∧r.2.2.2.2.2.2.2.2.2.2.2.2.1=0∧r.2.2.2.2.2.2.2.2.2.2.2.2.2.1=0∧r.2.2.2.2.2.2.2.2.2.2.2.2.2.2.1=2097152∧r.2.2.2.2.2.2.2.2.2.2.2.2.2.2.2.1=0∧r.2.2.2.2.2.2.2.2.2.2.2.2.2.2.2.2.1=0∧r.2.2.2.2.2.2.2.2.2.2.2.2.2.2.2.2.2.1=0∧r.2.2.2.2.2.2.2.2.2.2.2.2.2.2.2.2.2.2.1=32768∧r.2.2.2.2.2.2.2.2.2.2.2.2.2.2.2.2.2.2.2.1=3∧r.2.2.2.2.2.2.2.2.2.2.2.2.2.2.2.2.2.2.2.2.1=0∧r.2.2.2.2.2.2.2.2.2.2.2.2.2.2.2.2.2.2.2.2.2.1=0∧r.2.2.2.2.2.2.2.2.2.2.2.2.2.2.2.2.2.2.2.2.2.2.1=0∧r.2.2.2.2.2.2.2.2.2.2.2.2.2.2.2.2.2.2.2.2.2.2.2.1=0∧r.2.2.2.2.2.2.2.2.2.2.2.2.2.2.2.2.2.2.2.2.2.2.2.2.1=0∧r.2.2.2.2.2.2.2.2.2.2.2.2.2.2.2.2.2.2.2.2.2.2.2.2.2.1=0∧r.2.2.2.2.2.2.2.2.2.2.2.2.2.2.2.2.2.2.2.2.2.2.2.2.2.2.1=0∧r.2.2.2.2.2.2.2.2.2.2.2.2.2.2.2.2.2.2.2.2.2.2.2.2.2.2.2.1=0∧r.2.2.2.2.2.2.2.2.2.2.2.2.2.2.2.2.2.2.2.2.2.2.2.2.2.2.2.2.1=0∧r.2.2.2.2.2.2.2.2.2.2.2.2.2.2.2.2.2.2.2.2.2.2.2.2.2.2.2.2.2.1=0∧r.2.2.2.2.2.2.2.2.2.2.2.2.2.2.2.2.2.2.2.2.2.2.2.2.2.2.2.2.2.2.1=0∧r.2.2.2.2.2.2.2.2.2.2.2.2.2.2.2.2.2.2.2.2.2.2.2.2.2.2.2.2.2.2.2.1=0∧r.2.2.2.2.2.2.2.2.2.2.2.2.2.2.2.2.2.2.2.2.2.2.2.2.2.2.2.2.2.2.2.2.1=0∧r.2.2.2.2.2.2.2.2.2.2.2.2.2.2.2.2.2.2.2.2.2.2.2.2.2.2.2.2.2.2.2.2.2.1=0∧r.2.2.2.2.2.2.2.2.2.2.2.2.2.2.2.2.2.2.2.2.2.2.2.2.2.2.2.2.2.2.2.2.2.2.1=0∧r.2.2.2.2.2.2.2.2.2.2.2.2.2.2.2.2.2.2.2.2.2.2.2.2.2.2.2.2.2.2.2.2.2.2.2.1=0∧r.2.2.2.2.2.2.2.2.2.2.2.2.2.2.2.2.2.2.2.2.2.2.2.2.2.2.2.2.2.2.2.2.2.2.2.2.1=0∧r.2.2.2.2.2.2.2.2.2.2.2.2.2.2.2.2.2.2.2.2.2.2.2.2.2.2.2.2.2.2.2.2.2.2.2.2.2.1=0∧r.2.2.2.2.2.2.2.2.2.2.2.2.2.2.2.2.2.2.2.2.2.2.2.2.2.2.2.2.2.2.2.2.2.2.2.2.2.2.1=0∧r.2.2.2.2.2.2.2.2.2.2.2.2.2.2.2.2.2.2.2.2.2.2.2.2.2.2.2.2.2.2.2.2.2.2.2.2.2.2.2.1=0∧r.2.2.2.2.2.2.2.2.2.2.2.2.2.2.2.2.2.2.2.2.2.2.2.2.2.2.2.2.2.2.2.2.2.2.2.2.2.2.2.2.1=0∧r.2.2.2.2.2.2.2.2.2.2.2.2.2.2.2.2.2.2.2.2.2.2.2.2.2.2.2.2.2.2.2.2.2.2.2.2.2.2.2.2.2.1=0∧r.2.2.2.2.2.2.2.2.2.2.2.2.2.2.2.2.2.2.2.2.2.2.2.2.2.2.2.2.2.2.2.2.2.2.2.2.2.2.2.2.2.2.1=0∧r.2.2.2.2.2.2.2.2.2.2.2.2.2.2.2.2.2.2.2.2.2.2.2.2.2.2.2.2.2.2.2.2.2.2.2.2.2.2.2.2.2.2.2.1=0∧r.2.2.2.2.2.2.2.2.2.2.2.2.2.2.2.2.2.2.2.2.2.2.2.2.2.2.2.2.2.2.2.2.2.2.2.2.2.2.2.2.2.2.2.2.1=0∧r.2.2.2.2.2.2.2.2.2.2.2.2.2.2.2.2.2.2.2.2.2.2.2.2.2.2.2.2.2.2.2.2.2.2.2.2.2.2.2.2.2.2.2.2.2.1=0∧r.2.2.2.2.2.2.2.2.2.2.2.2.2.2.2.2.2.2.2.2.2.2.2.2.2.2.2.2.2.2.2.2.2.2.2.2.2.2.2.2.2.2.2.2.2.2.1=0∧r.2.2.2.2.2.2.2.2.2.2.2.2.2.2.2.2.2.2.2.2.2.2.2.2.2.2.2.2.2.2.2.2.2.2.2.2.2.2.2.2.2.2.2.2.2.2.2.1=0∧r.2.2.2.2.2.2.2.2.2.2.2.2.2.2.2.2.2.2.2.2.2.2.2.2.2.2.2.2.2.2.2.2.2.2.2.2.2.2.2.2.2.2.2.2.2.2.2.2.1=0∧r.2.2.2.2.2.2.2.2.2.2.2.2.2.2.2.2.2.2.2.2.2.2.2.2.2.2.2.2.2.2.2.2.2.2.2.2.2.2.2.2.2.2.2.2.2.2.2.2.2.1=0∧r.2.2.2.2.2.2.2.2.2.2.2.2.2.2.2.2.2.2.2.2.2.2.2.2.2.2.2.2.2.2.2.2.2.2.2.2.2.2.2.2.2.2.2.2.2.2.2.2.2.2.1=0∧r.2.2.2.2.2.2.2.2.2.2.2.2.2.2.2.2.2.2.2.2.2.2.2.2.2.2.2.2.2.2.2.2.2.2.2.2.2.2.2.2.2.2.2.2.2.2.2.2.2.2.2.1=0∧r.2.2.2.2.2.2.2.2.2.2.2.2.2.2.2.2.2.2.2.2.2.2.2.2.2.2.2.2.2.2.2.2.2.2.2.2.2.2.2.2.2.2.2.2.2.2.2.2.2.2.2.2.1=0∧r.2.2.2.2.2.2.2.2.2.2.2.2.2.2.2.2.2.2.2.2.2.2.2.2.2.2.2.2.2.2.2.2.2.2.2.2.2.2.2.2.2.2.2.2.2.2.2.2.2.2.2.2.2.1=0∧r.2.2.2.2.2.2.2.2.2.2.2.2.2.2.2.2.2.2.2.2.2.2.2.2.2.2.2.2.2.2.2.2.2.2.2.2.2.2.2.2.2.2.2.2.2.2.2.2.2.2.2.2.2.2.1=0∧r.2.2.2.2.2.2.2.2.2.2.2.2.2.2.2.2.2.2.2.2.2.2.2.2.2.2.2.2.2.2.2.2.2.2.2.2.2.2.2.2.2.2.2.2.2.2.2.2.2.2.2.2.2.2.2.1=0∧r.2.2.2.2.2.2.2.2.2.2.2.2.2.2.2.2.2.2.2.2.2.2.2.2.2.2.2.2.2.2.2.2.2.2.2.2.2.2.2.2.2.2.2.2.2.2.2.2.2.2.2.2.2.2.2.2.1=0∧r.2.2.2.2.2.2.2.2.2.2.2.2.2.2.2.2.2.2.2.2.2.2.2.2.2.2.2.2.2.2.2.2.2.2.2.2.2.2.2.2.2.2.2.2.2.2.2.2.2.2.2.2.2.2.2.2.2.1=0∧r.2.2.2.2.2.2.2.2.2.2.2.2.2.2.2.2.2.2.2.2.2.2.2.2.2.2.2.2.2.2.2.2.2.2.2.2.2.2.2.2.2.2.2.2.2.2.2.2.2.2.2.2.2.2.2.2.2.2.1=0∧r.2.2.2.2.2.2.2.2.2.2.2.2.2.2.2.2.2.2.2.2.2.2.2.2.2.2.2.2.2.2.2.2.2.2.2.2.2.2.2.2.2.2.2.2.2.2.2.2.2.2.2.2.2.2.2.2.2.2.2.1=0
theorem a3S(a b c:Int):isI (jc a b c):=by unfold isI;exact ⟨rfl,rfl,rfl,rfl,rfl,rfl,rfl,rfl,rfl,rfl,rfl,rfl,rfl,rfl,rfl,rfl,rfl,rfl,rfl,rfl,rfl,rfl,rfl,rfl,rfl,rfl,rfl,rfl,rfl,rfl,rfl,rfl,rfl,rfl,rfl,rfl,rfl,rfl,rfl,rfl,rfl,rfl,rfl,rfl,rfl,rfl,rfl,rfl,rfl,rfl,rfl,rfl,rfl,rfl,rfl,rfl,rfl⟩
abbrev RZ:Sp:= .pt 278 [.int .i64,.im vV]
abbrev BK:Type:=(Int×List (Row vV)×Unit)
abbrev gw:Sp:= .pt 278 [.int .i64,.ar vV 308]
abbrev dw:Type:=(Int×List (Row vV)×Unit)
def og(r:Row vV):Bool:=r.2.2.2.2.2.2.2.2.2.2.2.2.2.2.2.2.2.2.2.2.2.2.2.2.2.2.2.2.2.2.2.2.2.2.2.2.2.2.2.2.2.2.2.2.2.2.2.2.2.2.2.2.2.2.2.2.2.2.2.2.1
abbrev zS:Row vV:=kj vV
def KU(x:(Unit))(y:((Int×Unit)×(Int×Unit)×Unit)):Prop:=1≤y.1.1∧y.1.1≤4096∧0≤y.2.1.1∧y.2.1.1≤1073741824
def pe(x:(Unit))(y:((Int×Unit)×(Int×Unit)×Unit))(x':(Unit))(z:((BK×Unit)×(Unit×Unit)×Unit)):Prop:=z.1.1.1=y.2.1.1∧z.1.1.2.1=List.replicate y.1.1.toNat zS
noncomputable def U8:MC:=qC [false,false] [] [(false,[.int .i64]),(false,[.int .i64])] [(false,[gw]),(false,[.cl (.int .i64 (0))])] KU pe
def gk(a:Prop):Prop:=a∧lG
def fS(a:CN)(b:Row vV):List (Row vV):=List.replicate a.1.1.toNat b
theorem Sw:ab Tryz.prog 110 U8:=by
 refine ah (cx Mx [176] b8 IJ) Tryz.func110 (by kernel_rfl) (by kernel_rfl) fun (x:(Unit)) h (y:((Int×Unit)×(Int×Unit)×Unit)) k hf hg hp=>⟨bK,400,af (q:=QY y (QV y.1.1 (360:Int) (gk (QF y.1.1.toNat (fS y zS).length)) (pe x y () (((y.2.1.1,fS y zS,()),()),mB)))) (by kernel_rfl) ?_⟩
 delta Q7 oO lG Qn Qs Q3 Qk Q4 Q0 mB QF Qt Q10 Ql gk gD QU QV QY fS;obtain ⟨⟨⟩⟩:=x;obtain ⟨⟨⟩⟩:=h;obtain ⟨⟨(k0:Int),⟨⟩⟩,⟨(first:Int),⟨⟩⟩,⟨⟩⟩:=y;obtain ⟨⟨⟨⟩,⟨⟩⟩,⟨⟨⟩,⟨⟩⟩,⟨⟩⟩:=k
 try dsimp only
 obtain ⟨h1,h2,h3,h4⟩:=(show 1≤k0∧k0≤4096∧0≤first∧first≤1073741824 from hp);have hpost:pe () ((k0,()),(first,()),()) () (((first,List.replicate k0.toNat zS,()),()),((),()),()):=⟨rfl,rfl⟩;simp only [cl];simp only [List.length_replicate,decide_true,h1,h2,Bool.not_true]
 (repeat' (first|(refine And.intro ?_ ?_)|intro _))
 all_goals first|(exfalso;omega)|omega|trivial|rfl|(simp only [aL,aT,aU];omega)|exact hpost
noncomputable def Df:=IJ.add 110 Sw
def Pa(x:(dw×Unit))(y:((Int×Unit)×Unit)):Prop:=ga x.1.2.1 x.1.1∧0≤y.1.1∧qH x.1.2.1 x.1.1 y.1.1∧ ∃a b c,xU x.1.2.1 y.1.1=jc a b c
def ou(x:(dw×Unit))(y:((Int×Unit)×Unit))(x':(dw×Unit))(z:(Sp.Ts zW×(Unit×Unit)×Unit)):Prop:=x'.1=x.1∧xU x.1.2.1 y.1.1=jc z.1.1 z.1.2.1 z.1.2.2.2.1
noncomputable def YZ:MC:=qC [true,false] [gw] [(false,[.int .i64])] [(true,zW),(false,[.cl (.bool true)])] Pa ou
abbrev gR:Type:=dw×Unit
def Q40(a:gR):Nat:=a.1.2.1.length
def Pd(a:gR)(b:ky):Row vV:=al a.1.2.1 (Qp b.1.1 (Q40 a))
def H8(a b c d e f g i j:Prop):Prop:=Q6 a b c d (Q6 e f g i j)
def sg(a:gR):Prop:=QF (Q40 a) (Q40 a)
def Wa:(Sp.cl (Lc.int IntKind.i64 (0:Int))).T×Sp.Ts []:=((),())
def Kc:(Sp.cl (Lc.int IntKind.i64 (0:Int))).T×Sp.Ts [Sp.cl (Lc.int IntKind.i32 (0:Int)),Sp.cl (Lc.int IntKind.i32 (0:Int)),Sp.cl (Lc.int IntKind.i32 (0:Int)),Sp.cl (Lc.int IntKind.i32 (0:Int)),Sp.cl (Lc.int IntKind.i64 (0:Int)),Sp.cl (Lc.int IntKind.i64 (0:Int))]:=((),(),(),(),(),(),Wa)
def uL:Prop:=false=true
def RV(a:(Kd.int IntKind.i32).T):Prop:=a=(0:Int)
def Q3Y(a:gR)(b:Int):Bool:=Ra (↑(Q40 a):Int) b a.1.1
def Q3Z(a:gR):Int:=(↑(Q40 a):Int)
def Q44:Prop:=kS true
theorem Y7:ab Tryz.prog 189 YZ:=by
 refine ah (cx Mx [176] b8 Df) Tryz.func189 (by kernel_rfl) (by kernel_rfl) fun (x:(dw×Unit)) h (y:((Int×Unit)×Unit)) k hf hg hp=>⟨bK,400,af (q:=QK (mL y x.1.1) (kS (mL y x.1.1)) (sg x) (W9 X6 uL (ou x y (x.1,()) (((0:Int),((0:Int),((),((0:Int),((),(),(),(),(),(),(),(),(),(),(),(),(),(),(),(),(),(),(),(),(),(),(),(),(),(),(),(),(),(),(),(),(),(),(),(),(),(),(),(),(),(),(),(),(),(),(),(),(),Kc))))),mB))) (Q0 (Q3Y x y.1.1) (Q18 (mL y x.1.1)∧Q6 (QS y.1.1 x.1.1) (kS (Q3Y x y.1.1)) (sg x) (X6∧uL) (ou x y (x.1,()) (((0:Int),((0:Int),((),((0:Int),((),(),(),(),(),(),(),(),(),(),(),(),(),(),(),(),(),(),(),(),(),(),(),(),(),(),(),(),(),(),(),(),(),(),(),(),(),(),(),(),(),(),(),(),(),(),(),(),(),Kc))))),mB))) (Q1a (Q18 (mL y x.1.1)) (QS y.1.1 x.1.1) (Q18 (Q3Y x y.1.1)) (gD y) (Q7 (sg x) (X6∧uL) (ou x y (x.1,()) (((0:Int),((0:Int),((),((0:Int),((),(),(),(),(),(),(),(),(),(),(),(),(),(),(),(),(),(),(),(),(),(),(),(),(),(),(),(),(),(),(),(),(),(),(),(),(),(),(),(),(),(),(),(),(),(),(),(),(),Kc))))),mB))) (Qn (Qe (Q3Z x)) (QB y.1.1 (Q40 x)) (Qp y.1.1 (Q40 x)<Q40 x) (QK (!(Pd x y).2.2.2.2.2.2.2.2.2.2.2.2.2.2.2.2.2.2.2.2.2.2.2.2.2.2.2.2.2.2.2.2.2.2.2.2.2.2.2.2.2.2.2.2.2.2.2.2.2.2.2.2.2.2.2.2.2.2.2.2.1) (sg x) (X6∧uL) (ou x y (x.1,()) (((0:Int),((0:Int),((),((0:Int),((),(),(),(),(),(),(),(),(),(),(),(),(),(),(),(),(),(),(),(),(),(),(),(),(),(),(),(),(),(),(),(),(),(),(),(),(),(),(),(),(),(),(),(),(),(),(),(),(),Kc))))),mB)) (Q7 (Qp y.1.1 (Q40 x)<Q40 x) (sg x) (Q2d (Rz (Pd x y).2.2.1) ((Pd x y).2.2.2.2.1=(-2097152:Int)) (RV (Pd x y).2.2.2.2.2.1) (H8 (RV (Pd x y).2.2.2.2.2.2.1) (RV (Pd x y).2.2.2.2.2.2.2.1) (Rz (Pd x y).2.2.2.2.2.2.2.2.1) ((Pd x y).2.2.2.2.2.2.2.2.2.1=(3:Int)) (Rz (Pd x y).2.2.2.2.2.2.2.2.2.2.1) (Rz (Pd x y).2.2.2.2.2.2.2.2.2.2.2.1) (Rz (Pd x y).2.2.2.2.2.2.2.2.2.2.2.2.1) (Rz (Pd x y).2.2.2.2.2.2.2.2.2.2.2.2.2.1) (H8 ((Pd x y).2.2.2.2.2.2.2.2.2.2.2.2.2.2.1=(2097152:Int)) (RV (Pd x y).2.2.2.2.2.2.2.2.2.2.2.2.2.2.2.1) (RV (Pd x y).2.2.2.2.2.2.2.2.2.2.2.2.2.2.2.2.1) (RV (Pd x y).2.2.2.2.2.2.2.2.2.2.2.2.2.2.2.2.2.1) ((Pd x y).2.2.2.2.2.2.2.2.2.2.2.2.2.2.2.2.2.2.1=(32768:Int)) ((Pd x y).2.2.2.2.2.2.2.2.2.2.2.2.2.2.2.2.2.2.2.1=(3:Int)) (Rz (Pd x y).2.2.2.2.2.2.2.2.2.2.2.2.2.2.2.2.2.2.2.2.1) (Rz (Pd x y).2.2.2.2.2.2.2.2.2.2.2.2.2.2.2.2.2.2.2.2.2.1) (H8 (Rz (Pd x y).2.2.2.2.2.2.2.2.2.2.2.2.2.2.2.2.2.2.2.2.2.2.1) (Rz (Pd x y).2.2.2.2.2.2.2.2.2.2.2.2.2.2.2.2.2.2.2.2.2.2.2.1) (RV (Pd x y).2.2.2.2.2.2.2.2.2.2.2.2.2.2.2.2.2.2.2.2.2.2.2.2.1) (RV (Pd x y).2.2.2.2.2.2.2.2.2.2.2.2.2.2.2.2.2.2.2.2.2.2.2.2.2.1) (RV (Pd x y).2.2.2.2.2.2.2.2.2.2.2.2.2.2.2.2.2.2.2.2.2.2.2.2.2.2.1) (RV (Pd x y).2.2.2.2.2.2.2.2.2.2.2.2.2.2.2.2.2.2.2.2.2.2.2.2.2.2.2.1) (Rz (Pd x y).2.2.2.2.2.2.2.2.2.2.2.2.2.2.2.2.2.2.2.2.2.2.2.2.2.2.2.2.1) (Rz (Pd x y).2.2.2.2.2.2.2.2.2.2.2.2.2.2.2.2.2.2.2.2.2.2.2.2.2.2.2.2.2.1) (Qn (RV (Pd x y).2.2.2.2.2.2.2.2.2.2.2.2.2.2.2.2.2.2.2.2.2.2.2.2.2.2.2.2.2.2.1) (RV (Pd x y).2.2.2.2.2.2.2.2.2.2.2.2.2.2.2.2.2.2.2.2.2.2.2.2.2.2.2.2.2.2.2.1) (RV (Pd x y).2.2.2.2.2.2.2.2.2.2.2.2.2.2.2.2.2.2.2.2.2.2.2.2.2.2.2.2.2.2.2.2.1) (Q6 (RV (Pd x y).2.2.2.2.2.2.2.2.2.2.2.2.2.2.2.2.2.2.2.2.2.2.2.2.2.2.2.2.2.2.2.2.2.1) (Rz (Pd x y).2.2.2.2.2.2.2.2.2.2.2.2.2.2.2.2.2.2.2.2.2.2.2.2.2.2.2.2.2.2.2.2.2.2.1) (Rz (Pd x y).2.2.2.2.2.2.2.2.2.2.2.2.2.2.2.2.2.2.2.2.2.2.2.2.2.2.2.2.2.2.2.2.2.2.2.1) (RV (Pd x y).2.2.2.2.2.2.2.2.2.2.2.2.2.2.2.2.2.2.2.2.2.2.2.2.2.2.2.2.2.2.2.2.2.2.2.2.1) (H8 (RV (Pd x y).2.2.2.2.2.2.2.2.2.2.2.2.2.2.2.2.2.2.2.2.2.2.2.2.2.2.2.2.2.2.2.2.2.2.2.2.2.1) (RV (Pd x y).2.2.2.2.2.2.2.2.2.2.2.2.2.2.2.2.2.2.2.2.2.2.2.2.2.2.2.2.2.2.2.2.2.2.2.2.2.2.1) (RV (Pd x y).2.2.2.2.2.2.2.2.2.2.2.2.2.2.2.2.2.2.2.2.2.2.2.2.2.2.2.2.2.2.2.2.2.2.2.2.2.2.2.1) (Rz (Pd x y).2.2.2.2.2.2.2.2.2.2.2.2.2.2.2.2.2.2.2.2.2.2.2.2.2.2.2.2.2.2.2.2.2.2.2.2.2.2.2.2.1) (Rz (Pd x y).2.2.2.2.2.2.2.2.2.2.2.2.2.2.2.2.2.2.2.2.2.2.2.2.2.2.2.2.2.2.2.2.2.2.2.2.2.2.2.2.2.1) (RV (Pd x y).2.2.2.2.2.2.2.2.2.2.2.2.2.2.2.2.2.2.2.2.2.2.2.2.2.2.2.2.2.2.2.2.2.2.2.2.2.2.2.2.2.2.1) (RV (Pd x y).2.2.2.2.2.2.2.2.2.2.2.2.2.2.2.2.2.2.2.2.2.2.2.2.2.2.2.2.2.2.2.2.2.2.2.2.2.2.2.2.2.2.2.1) (RV (Pd x y).2.2.2.2.2.2.2.2.2.2.2.2.2.2.2.2.2.2.2.2.2.2.2.2.2.2.2.2.2.2.2.2.2.2.2.2.2.2.2.2.2.2.2.2.1) (RV (Pd x y).2.2.2.2.2.2.2.2.2.2.2.2.2.2.2.2.2.2.2.2.2.2.2.2.2.2.2.2.2.2.2.2.2.2.2.2.2.2.2.2.2.2.2.2.2.1∧Q6 (Rz (Pd x y).2.2.2.2.2.2.2.2.2.2.2.2.2.2.2.2.2.2.2.2.2.2.2.2.2.2.2.2.2.2.2.2.2.2.2.2.2.2.2.2.2.2.2.2.2.2.1) (Rz (Pd x y).2.2.2.2.2.2.2.2.2.2.2.2.2.2.2.2.2.2.2.2.2.2.2.2.2.2.2.2.2.2.2.2.2.2.2.2.2.2.2.2.2.2.2.2.2.2.2.1) (RV (Pd x y).2.2.2.2.2.2.2.2.2.2.2.2.2.2.2.2.2.2.2.2.2.2.2.2.2.2.2.2.2.2.2.2.2.2.2.2.2.2.2.2.2.2.2.2.2.2.2.2.1) (RV (Pd x y).2.2.2.2.2.2.2.2.2.2.2.2.2.2.2.2.2.2.2.2.2.2.2.2.2.2.2.2.2.2.2.2.2.2.2.2.2.2.2.2.2.2.2.2.2.2.2.2.2.1) (RV (Pd x y).2.2.2.2.2.2.2.2.2.2.2.2.2.2.2.2.2.2.2.2.2.2.2.2.2.2.2.2.2.2.2.2.2.2.2.2.2.2.2.2.2.2.2.2.2.2.2.2.2.2.1∧H8 (RV (Pd x y).2.2.2.2.2.2.2.2.2.2.2.2.2.2.2.2.2.2.2.2.2.2.2.2.2.2.2.2.2.2.2.2.2.2.2.2.2.2.2.2.2.2.2.2.2.2.2.2.2.2.2.1) (Rz (Pd x y).2.2.2.2.2.2.2.2.2.2.2.2.2.2.2.2.2.2.2.2.2.2.2.2.2.2.2.2.2.2.2.2.2.2.2.2.2.2.2.2.2.2.2.2.2.2.2.2.2.2.2.2.1) (Rz (Pd x y).2.2.2.2.2.2.2.2.2.2.2.2.2.2.2.2.2.2.2.2.2.2.2.2.2.2.2.2.2.2.2.2.2.2.2.2.2.2.2.2.2.2.2.2.2.2.2.2.2.2.2.2.2.1) (RV (Pd x y).2.2.2.2.2.2.2.2.2.2.2.2.2.2.2.2.2.2.2.2.2.2.2.2.2.2.2.2.2.2.2.2.2.2.2.2.2.2.2.2.2.2.2.2.2.2.2.2.2.2.2.2.2.2.1) (RV (Pd x y).2.2.2.2.2.2.2.2.2.2.2.2.2.2.2.2.2.2.2.2.2.2.2.2.2.2.2.2.2.2.2.2.2.2.2.2.2.2.2.2.2.2.2.2.2.2.2.2.2.2.2.2.2.2.2.1) (RV (Pd x y).2.2.2.2.2.2.2.2.2.2.2.2.2.2.2.2.2.2.2.2.2.2.2.2.2.2.2.2.2.2.2.2.2.2.2.2.2.2.2.2.2.2.2.2.2.2.2.2.2.2.2.2.2.2.2.2.1) (RV (Pd x y).2.2.2.2.2.2.2.2.2.2.2.2.2.2.2.2.2.2.2.2.2.2.2.2.2.2.2.2.2.2.2.2.2.2.2.2.2.2.2.2.2.2.2.2.2.2.2.2.2.2.2.2.2.2.2.2.2.1) (Rz (Pd x y).2.2.2.2.2.2.2.2.2.2.2.2.2.2.2.2.2.2.2.2.2.2.2.2.2.2.2.2.2.2.2.2.2.2.2.2.2.2.2.2.2.2.2.2.2.2.2.2.2.2.2.2.2.2.2.2.2.2.1) (Rz (Pd x y).2.2.2.2.2.2.2.2.2.2.2.2.2.2.2.2.2.2.2.2.2.2.2.2.2.2.2.2.2.2.2.2.2.2.2.2.2.2.2.2.2.2.2.2.2.2.2.2.2.2.2.2.2.2.2.2.2.2.2.1))))))))) Q44∧ou x y (x.1,()) (((Pd x y).1,(Pd x y).2.1,(),(Pd x y).2.2.2.1,(),(),(),(),(),(),(),(),(),(),(),(),(),(),(),(),(),(),(),(),(),(),(),(),(),(),(),(),(),(),(),(),(),(),(),(),(),(),(),(),(),(),(),(),(),(),(),(),(),Kc),mB)))))))) (by kernel_rfl) ?_⟩
 delta Q7 Q6 Qn Q3 Qk Q4 Q0 Q40 mB QF QK Qi Qh Qp Qt Pd Qo Q2d QL kS Q1a QS Wa Ra H8 Q18 sg mL Kc uL QB RV gD Rz Q3Y Q3Z Qe Q44 W9;obtain ⟨⟨(l0:Int),k0,⟨⟩⟩,⟨⟩⟩:=x;obtain ⟨⟨⟨⟩,⟨⟩,⟨⟩⟩,⟨⟩⟩:=h;obtain ⟨⟨(f:Int),⟨⟩⟩,⟨⟩⟩:=y;obtain ⟨⟨⟨⟩,⟨⟩⟩,⟨⟩⟩:=k
 try dsimp only
 obtain ⟨⟨h1,h2,h3,h4⟩,h5,⟨h6,h7,h8⟩,a,b,c,h9⟩:=(show ga k0 l0∧0≤f∧qH k0 l0 f∧ ∃a b c,xU k0 f=jc a b c from hp);have m1:0≤f.tmod (List.length k0):=Int.tmod_nonneg _ (by omega)
 have m2:f.tmod (List.length k0)<List.length k0:=Int.tmod_lt_of_pos _ (by omega)
 have h9':=h9;dsimp only [xU] at h9;simp only [h9];have hpost:ou ((l0,k0,()),()) ((f,()),()) ((l0,k0,()),()) (stV (jc a b c).fst (jc a b c).snd.fst (jc a b c).snd.snd.snd.fst,((),()),()):=⟨rfl,h9'⟩;have hI:=a3S a b c;simp only [cl]
 (repeat' (first|(refine And.intro ?_ ?_)|intro _))
 all_goals first|(exfalso;omega)|omega|trivial|rfl|(simp only [aL,aT,aU];omega)|exact hI|exact hpost
noncomputable def JU:=Df.add 189 Y7
def OB(x:(dw×Unit))(y:((Int×Unit)×Sp.Ts zW×Unit)):Prop:=ga x.1.2.1 x.1.1∧0≤y.1.1∧qH x.1.2.1 x.1.1 y.1.1
def gQ(x:(dw×Unit))(y:((Int×Unit)×Sp.Ts zW×Unit))(x':(dw×Unit))(z:((Unit×Unit)×Unit)):Prop:=x'.1.1=x.1.1∧x'.1.2.1=List.set x.1.2.1 (y.1.1.tmod (List.length x.1.2.1)).toNat (jc y.2.1.1 y.2.1.2.1 y.2.1.2.2.2.1)
noncomputable def Yh:MC:=qC [true,false,false] [gw] [(false,[.int .i64]),(true,zW)] [(false,[.cl (.int .i64 (0))])] OB gQ
abbrev SP:Type:=(Int×Unit)×Sp.Ts zW×Unit
def Wk(a:Int)(b:gR):Bool:=decide (a<b.1.1)
def y8(a:gR)(b:SP):Prop:=Q7 (sg a) (oO (10:Int)) (gQ a b (a.1,()) mB)
def zX(a:gR)(b:SP):Prop:=Q7 (sg a) (oO (8:Int)) (gQ a b (a.1,()) mB)
def ZN(a:gR)(b:SP)(c:nM):Nat:=(a.1.2.1.set (Qp b.1.1 (Q40 a)) (jc b.2.1.1 b.2.1.2.1 c)).length
theorem X3:ab Tryz.prog 112 Yh:=by
 refine ah (cx Mx [176] b8 JU) Tryz.func112 (by kernel_rfl) (by kernel_rfl) fun (x:(dw×Unit)) h (y:((Int×Unit)×Sp.Ts zW×Unit)) k hf hg hp=>⟨bK,400,af (q:=QK (Wk y.1.1 x) (kS (Wk y.1.1 x)) (Q3 (Wk y.1.1 x) (y8 x y)) (Q4 (Wk y.1.1 x) (zX x y)) (Q0 (Q3Y x y.1.1) (Q1a (Q18 (Wk y.1.1 x)) (QS y.1.1 x.1.1) (kS (Q3Y x y.1.1)) (Wk y.1.1 x) (y8 x y) (zX x y)) (Q1i (Wk y.1.1 x) y.1.1 x.1.1 (Q3Y x y.1.1) (QK (Wk y.1.1 x) (sg x) (oO (10:Int)) (gQ x y (x.1,()) mB) (zX x y)) (Qe (Q3Z x)) (QB y.1.1 (Q40 x)) (Wk y.1.1 x) (y8 x y) (Qn (Qp y.1.1 (Q40 x)<Q40 x) (QF (Q40 x) (ZN x y y.2.1.2.2.2.1)) lG (gQ x y ((x.1.1,x.1.2.1.set (Qp y.1.1 (Q40 x)) (jc y.2.1.1 y.2.1.2.1 y.2.1.2.2.2.1),()),()) mB))))) (by kernel_rfl) ?_⟩
 delta Q7 Q6 oO lG Qn Q3 Qk Q4 Q0 Q40 mB QF QK Qi Qh Qp Qt Qo QL kS Q1a QS Ra Q18 sg yn QB Q3Y Wk Q3Z Qe Q1i y8 zX ZN;obtain ⟨⟨(l0:Int),k0,⟨⟩⟩,⟨⟩⟩:=x;obtain ⟨⟨⟨⟩,⟨⟩,⟨⟩⟩,⟨⟩⟩:=h;obtain ⟨⟨(f:Int),⟨⟩⟩,⟨(n0:Int),(m0:Int),⟨⟩,(o0:Int),⟨⟩,⟨⟩,⟨⟩,⟨⟩,⟨⟩,⟨⟩,⟨⟩,⟨⟩,⟨⟩,⟨⟩,⟨⟩,⟨⟩,⟨⟩,⟨⟩,⟨⟩,⟨⟩,⟨⟩,⟨⟩,⟨⟩,⟨⟩,⟨⟩,⟨⟩,⟨⟩,⟨⟩,⟨⟩,⟨⟩,⟨⟩,⟨⟩,⟨⟩,⟨⟩,⟨⟩,⟨⟩,⟨⟩,⟨⟩,⟨⟩,⟨⟩,⟨⟩,⟨⟩,⟨⟩,⟨⟩,⟨⟩,⟨⟩,⟨⟩,⟨⟩,⟨⟩,⟨⟩,⟨⟩,⟨⟩,⟨⟩,⟨⟩,⟨⟩,⟨⟩,⟨⟩,⟨⟩,⟨⟩,⟨⟩,⟨⟩⟩,⟨⟩⟩:=y;obtain ⟨⟨⟨⟩,⟨⟩⟩,⟨⟨⟩,⟨⟩,⟨⟩,⟨⟩,⟨⟩,⟨⟩,⟨⟩,⟨⟩,⟨⟩,⟨⟩,⟨⟩,⟨⟩,⟨⟩,⟨⟩,⟨⟩,⟨⟩,⟨⟩,⟨⟩,⟨⟩,⟨⟩,⟨⟩,⟨⟩,⟨⟩,⟨⟩,⟨⟩,⟨⟩,⟨⟩,⟨⟩,⟨⟩,⟨⟩,⟨⟩,⟨⟩,⟨⟩,⟨⟩,⟨⟩,⟨⟩,⟨⟩,⟨⟩,⟨⟩,⟨⟩,⟨⟩,⟨⟩,⟨⟩,⟨⟩,⟨⟩,⟨⟩,⟨⟩,⟨⟩,⟨⟩,⟨⟩,⟨⟩,⟨⟩,⟨⟩,⟨⟩,⟨⟩,⟨⟩,⟨⟩,⟨⟩,⟨⟩,⟨⟩,⟨⟩⟩,⟨⟩⟩:=k
 try dsimp only
 obtain ⟨⟨h1,h2,h3,h4⟩,h5,⟨h6,h7,h8⟩⟩:=(show ga k0 l0∧0≤f∧qH k0 l0 f from hp);have m1:0≤f.tmod (List.length k0):=Int.tmod_nonneg _ (by omega)
 have m2:f.tmod (List.length k0)<List.length k0:=Int.tmod_lt_of_pos _ (by omega)
 have hpost:gQ ((l0,k0,()),()) ((f,()),stV n0 m0 o0,()) ((l0,k0.set (f.tmod k0.length).toNat (jc n0 m0 o0),()),()) (((),()),()):=⟨rfl,rfl⟩;simp only [cl];simp only [List.length_set]
 (repeat' (first|(refine And.intro ?_ ?_)|intro _))
 all_goals first|(exfalso;omega)|omega|trivial|rfl|(simp only [aL,aT,aU];omega)|exact hpost
noncomputable def Ir:=JU.add 112 X3
end Go.Proofs.YtfdmjoddhjmokaaGreatDoor
namespace Go.Proofs.YtfdmjoddhjmokaaGreatDoor
open Go.RowKit Rex
set_option linter.unusedVariables false
set_option linter.unusedSimpArgs false
set_option maxRecDepth 100000
def tF(x:(dw×Unit))(y:(Unit)):Prop:=ga x.1.2.1 x.1.1
def il(x:(dw×Unit))(y:(Unit))(x':(dw×Unit))(z:((List (Row [.int .i64])×Unit)×Unit)):Prop:=x'.1=x.1∧z.1.1=jF og x.1.2.1 x.1.1 (List.length x.1.2.1)
noncomputable def Lm:MC:=qC [true] [gw] [] [(false,[.sl [.int .i64] 3])] tF il
def Q4k(a:gR)(b:eV):oI:=jF og a.1.2.1 a.1.1 b.1
def Q4l(a:gR)(b:eV):Bool:=decide ((Q4k a b).length=(0:Nat))
def Q4c(a:gR)(b:eV):Nat:=(Q4k a b).length
def Q4a(a:Nat)(b:Prop)(c:gR)(d e:Prop)(f:Loop)(g:Prop):Prop:=QC (uN a∧b) (Vu (c.1.1=c.1.1) (Q40 c) (Q40 c)) (WD (Q40 c) (Q40 c) d) (Q1I lG e (f=f) jh g)
def Q4d(a:gR)(b:eV):Int:=a.1.1+Oy b
def Q4i(a:gR)(b c:eV):Prop:=Q2e (Q4l a b) (Q4l a c) (Q4k a b) (Q4k a c) b.2 c.2
def Q4f(a:Prop)(b:eV)(c:gR)(d:eV):Prop:=E4 a (b.1≤Q40 c) (Q4c c b≤b.2) (Ha (Q4c c b) b.2) (Q40 c) b.1 (Q40 c) d.1
def Gk(a:gR)(b c:eV):Prop:=Yw True (Q40 a) (Q40 a) (QH (Oy b)=Oy c)
def WT(a:gR)(b c:eV)(d:oI):Prop:=Cp (Q4l a b) (Q4l a c) b.2 c.2 (Q4c a c) (Q4k a b) d
def uQ(a:gR):Prop:=List.take (Q40 a) a.1.2.1=a.1.2.1
def Cg(a:gR):Prop:=WD (Q40 a) (Q40 a) (uQ a)
def Q4e(a:gR)(b:eV):Bool:=decide ((0:Int)≤(Q4d a b))
theorem KA:ab Tryz.prog 150 Lm:=by
 refine ah (cx Mx [176,219,218,269] b8 Ir) Tryz.func150 (by kernel_rfl) (by kernel_rfl) fun (x:(dw×Unit)) h (y:(Unit)) k hf hg hp=>⟨(fun bk=>match bk with|489001000=>some {S:=Nat×Nat,st:=fun s=>⟨jk [(1,.v (.one (.ptr 2 0))),(0,.v (.one (.ptr 3 0))),(10,.v (.one (.int .i64 false ((List.length x.1.2.1:Int))))),(0,.v (.one (.int .i64 false ((s.1:Int)))))] 46,[some (.cells [.int .i64 false x.1.1,.rs false 0 1 0 61 0 (List.length x.1.2.1) (List.length x.1.2.1)] 278),some (.rows false false vV (x.1.2.1) 0 (List.length x.1.2.1) 308),some (.cells [.ptr 0 0] 124),some (.cells [.int .i64 false 0] 3),some (.cells [.rs (decide ((List.length (jF og x.1.2.1 x.1.1 s.1))=0)) 0 6 0 1 0 (List.length (jF og x.1.2.1 x.1.1 s.1)) s.2] 279),none,some (.rows false (decide ((List.length (jF og x.1.2.1 x.1.1 s.1))=0)) [.int .i64] (jF og x.1.2.1 x.1.1 s.1) 0 s.2 3)]⟩,ok:=fun s=>s.1≤List.length x.1.2.1∧(List.length (jF og x.1.2.1 x.1.1 s.1))≤s.2∧((List.length (jF og x.1.2.1 x.1.1 s.1))=0→s.2=0),mu:=fun s=>List.length x.1.2.1-s.1,init:=(0,0)}|_=>none),400,af (q:= ∀ (va:Nat) (vb:Loop),GY (Q4a va (Yw True (Q40 x) (Q40 x) ((0:Int)=(↑(0:Nat):Int))) x (uQ x) Q1r vb (Cv (jF og x.1.2.1 x.1.1 (0:Nat)))) (Q1t (Q40 x)) (∀ (vc:eV),Q7 (vc.1≤Q40 x) (Q4c x vc≤vc.2) (Ha (Q4c x vc) vc.2)→QK (iq vc (Q3Z x)) (Qi (Q4d x vc)) (Q3 (Wk (Q4d x vc) x) (QT (kS (Wk (Q4d x vc) x)) (Q4e x vc) (D4 vc (∃ (vd:eV),Q4f (QC (uN va∧Gk x vc vd) (cR (x.1.1=x.1.1) (Qn QJ jh jh (ta (Q40 x) (Q40 x) (Q40 x=Q40 x)))) (Cg x) (Q1I lG (Q4i x vc vd) (vb=vb) jh (WT x vc vd (Q4k x vd)))) vd x vc)) (D4 vc (∃ (vd:eV),Q4f (Q4a va (Gk x vc vd) x (uQ x) (Q4i x vc vd) vb (WT x vc vd (Q4k x vd))) vd x vc)))) (Q4 (Wk (Q4d x vc) x) (Q0 (Q3Y x (Q4d x vc)) (Q1a (Q18 (Wk (Q4d x vc) x)) (QS (Q4d x vc) x.1.1) (kS (Q3Y x (Q4d x vc))) (Q4e x vc) (D4 vc (∃ (vd:eV),Q4f (Q4a va (Gk x vc vd) x (uQ x) (Q4i x vc vd) vb (WT x vc vd (Q4k x vd))) vd x vc)) (D4 vc (∃ (vd:eV),Q4f (Q4a va (Gk x vc vd) x (uQ x) (Q4i x vc vd) vb (WT x vc vd (Q4k x vd))) vd x vc))) (Q1i (Wk (Q4d x vc) x) (Q4d x vc) x.1.1 (Q3Y x (Q4d x vc)) (Q0 (Q4e x vc) (D4 vc (∃ (vd:eV),Q4f (Q4a va (Gk x vc vd) x (uQ x) (Q4i x vc vd) vb (WT x vc vd (Q4k x vd))) vd x vc)) (D4 vc (∃ (vd:eV),Q4f (Q4a va (Gk x vc vd) x (uQ x) (Q4i x vc vd) vb (WT x vc vd (Q4k x vd))) vd x vc))) (Qe (Q3Z x)) (QB (Q4d x vc) (Q40 x)) (Q4e x vc) (Q7 (Qp (Q4d x vc) (Q40 x)<Q40 x) ((al x.1.2.1 (Qp (Q4d x vc) (Q40 x))).2.2.2.2.2.2.2.2.2.2.2.2.2.2.2.2.2.2.2.2.2.2.2.2.2.2.2.2.2.2.2.2.2.2.2.2.2.2.2.2.2.2.2.2.2.2.2.2.2.2.2.2.2.2.2.2.2.2.2.2.1=true→Q6 (va=va) (vb=vb) (vb=vb) (vY (Q4c x vc) (Q4c x vc) vc.2 (Q4l x vc) (8:Nat)) (∀ (vd:Nat),x9 (Q4c x vc) vd vc.2 (Q7 (vb=vb) (QE (Oy vc)) (∃ (ve:eV),Q4f (Q4a va (Gk x vc ve) x (uQ x) (iZ (Nc (Q4l x vc)) (Q4l x ve) (rB (Q4c x vc)) (Q4k x ve).length vd ve.2) vb (Cp (Nc (Q4l x vc)) (Q4l x ve) vd ve.2 (Q4c x ve) ((Q4k x vc).append [(Q4d x vc,())]) (Q4k x ve))) ve x vc)))) ((al x.1.2.1 (Qp (Q4d x vc) (Q40 x))).2.2.2.2.2.2.2.2.2.2.2.2.2.2.2.2.2.2.2.2.2.2.2.2.2.2.2.2.2.2.2.2.2.2.2.2.2.2.2.2.2.2.2.2.2.2.2.2.2.2.2.2.2.2.2.2.2.2.2.2.1=false→D4 vc (∃ (vd:eV),Q4f (Q4a va (Gk x vc vd) x (uQ x) (Q4i x vc vd) vb (WT x vc vd (Q4k x vd))) vd x vc))) (D4 vc (∃ (vd:eV),Q4f (Q4a va (Gk x vc vd) x (uQ x) (Q4i x vc vd) vb (WT x vc vd (Q4k x vd))) vd x vc))))) (Q7 (sg x) (kF (Q4c x vc) (Q4c x vc) (Q4l x vc) (Q4l x vc) vc.2 vc.2) (il x y (x.1,()) ((Q4k x vc,()),()))))) (by kernel_rfl) ?_⟩
 delta Q7 Q6 oO lG QC Qn kA cR Q3 ya jh Q4 Q5 QJ cu Q0 Q40 Q23 gC iZ Oy QH kF QF QK Qi Qh Qp yG oE Qt QE WD Q4k xG Vu Q27 Qo RA Q2d Q4l rB Q2e Yw Ha RH Q2a E4 uN QL Cp kS Q1I Q1a Q4c Q4a Nc QS x9 Ra GW WV D4 Q18 Q4d sg yn QT QB Q4i Q4f Gk WT Rt vY Q3Y ta Wk iq Q1r uQ Q3Z Cg Q4e Wl Qe Q1i Q1t GY Cv;obtain ⟨⟨(l0:Int),k0,⟨⟩⟩,⟨⟩⟩:=x;obtain ⟨⟨⟨⟩,⟨⟩,⟨⟩⟩,⟨⟩⟩:=h;obtain ⟨⟨⟩⟩:=y;obtain ⟨⟨⟩⟩:=k
 try dsimp only
 have hw:ga k0 l0:=hp;obtain ⟨h1,h2,h3,h4⟩:=hw;intro l r;refine ⟨by simp [jF],fun s hs=>⟨fun hc=>?_,fun hc=>?_⟩⟩
 ·obtain ⟨i,c⟩:=s;obtain ⟨hs1,hs2,hs3⟩:=hs;dsimp only at hs1 hs2 hs3 hc ⊢;simp only [decide_eq_true_eq,decide_eq_false_iff_not] at hc ⊢;have m1:0≤(l0+(i:Int)).tmod (List.length k0):=Int.tmod_nonneg _ (by omega)
  have m2:(l0+(i:Int)).tmod (List.length k0)<List.length k0:=Int.tmod_lt_of_pos _ (by omega)
  have hfl:=hZ (has:=og) (l:=k0) (first:=l0) i;have hs3':jF og k0 l0 i= []→c=0:=fun k=>hs3 (by rw [k];rfl)
  have e0:jF og k0 l0 (i+1)=if l0+i≤1073741824∧og (al k0 ((l0+i).tmod k0.length).toNat)=true then jF og k0 l0 i++ [(l0+i,())] else jF og k0 l0 i:=rfl;refine ⟨by simp only [aL,aT,aU];omega,fun h=>absurd h (by omega),fun _=>⟨fun h=>absurd h (by omega),fun _=>⟨by omega,by simp only [aL,aT,aU];omega,by omega,fun h=>⟨fun _=>?_,fun hn=>absurd (by omega) hn⟩,fun h=>⟨by omega,⟨m1,m2⟩,fun _=>⟨by omega,fun hb=>⟨trivial,trivial,trivial,⟨trivial,trivial,trivial,hs3,by omega⟩,fun c' hc1 hc2=>⟨trivial,?_⟩⟩,fun hb=>?_⟩,fun hn=>absurd (by omega) hn⟩⟩⟩⟩
  ·rw [if_neg (by omega)] at e0
   refine ⟨by simp only [aL,aT,aU];omega,(i+1,c),?_⟩
   simp only [e0];simp [hs2]
   repeat' (first|exact hs3'|omega|exact List.take_of_length_le (by simp)|refine And.intro ?_ ?_)
  ·rw [if_pos ⟨by omega,hb⟩] at e0
   refine ⟨by simp only [aL,aT,aU];omega,(i+1,c'),?_⟩
   simp only [e0];simp
   repeat' (first|exact hs3'|omega|exact List.take_of_length_le (by simp)|refine And.intro ?_ ?_)
  ·rw [if_neg (fun k=>by rw [show og _=_ from hb] at k;cases k.2)] at e0
   refine ⟨by simp only [aL,aT,aU];omega,(i+1,c),?_⟩
   simp only [e0];simp [hs2]
   repeat' (first|exact hs3'|omega|exact List.take_of_length_le (by simp)|refine And.intro ?_ ?_)
 ·obtain ⟨i,c⟩:=s;obtain ⟨hs1,hs2,hs3⟩:=hs;dsimp only at hs1 hs2 hs3 hc ⊢;simp only [decide_eq_false_iff_not] at hc;obtain rfl:i=k0.length:=by omega
  simp [il];exact fun k=>hs3 (by rw [k];rfl)
noncomputable def xd:=Ir.add 150 KA
def nC(x:(dw×Unit))(y:((List (Row [.int .i64])×Unit)×Unit)):Prop:=ga x.1.2.1 x.1.1∧List.length y.1.1≤4096∧Fw x.1.2.1 x.1.1 y.1.1
def lr(x:(dw×Unit))(y:((List (Row [.int .i64])×Unit)×Unit))(x':(dw×Unit))(z:((Int×Unit)×Unit)):Prop:=x'.1.1=x.1.1∧x'.1.2.1=uM zS x.1.2.1 y.1.1 (List.length y.1.1)∧z.1.1=List.length y.1.1
noncomputable def Tj:MC:=qC [true,false] [gw] [(false,[.sl [.int .i64] 3])] [(false,[.int .i64])] nC lr
def Q4m(a:gR):Prop:=Vu (a.1.1=a.1.1) (Q40 a) (Q40 a)
def yY(a:gR)(b:CK)(c:Nat):Nat:=(uM zS a.1.2.1 b.1.1 c).length
theorem UB:ab Tryz.prog 152 Tj:=by
 refine ah (cx Mx [176] b8 xd) Tryz.func152 (by kernel_rfl) (by kernel_rfl) fun (x:(dw×Unit)) h (y:((List (Row [.int .i64])×Unit)×Unit)) k hf hg hp=>⟨(fun bk=>match bk with|0=>some {S:=Nat,st:=fun s=>⟨jk [(0,.v (.one (.ptr 0 0))),(0,.v (.one (.rs k.1.1.1 0 2 0 1 0 (List.length y.1.1) k.1.1.2))),(5,.v (.one (.rs k.1.1.1 0 2 0 1 0 (List.length y.1.1) k.1.1.2))),(0,.v (.one (.int .i64 false ((List.length y.1.1:Int))))),(0,.v (.one (.int .i64 false ((s:Int)))))] 21,[some (.cells [.int .i64 false x.1.1,.rs false 0 1 0 61 0 (List.length x.1.2.1) (List.length x.1.2.1)] 278),some (.rows false false vV (uM zS x.1.2.1 y.1.1 s) 0 (List.length x.1.2.1) 308),some (.rows false k.1.1.1 [.int .i64] y.1.1 0 k.1.1.2 3)]⟩,ok:=fun s=>s≤List.length y.1.1,mu:=fun s=>List.length y.1.1-s,init:=0}|_=>none),400,af (q:=W9 (Q2k (Q10 (Q2n k y) (Qn (Q2n k y) (xG (KJ y) (KJ y)) qW True)) (Q4m x) (WD (Q40 x) (Q40 x) (List.take (yY x y (0:Nat)) x.1.2.1=uM zS x.1.2.1 y.1.1 (0:Nat))) k y) (Q1t (KJ y)) (∀ (va:Nat),WG (va≤KJ y) va (KJ y) (u6 y va x.1.1) (kS (u6 y va x.1.1)∧False) (K7 (Ct (Q3Z x) y va x.1.1) (Q18 (u6 y va x.1.1)) (AZ y va x.1.1) (kS (Ct (Q3Z x) y va x.1.1)) False (Q1a (Q18 (u6 y va x.1.1)) (AZ y va x.1.1) (Q18 (Ct (Q3Z x) y va x.1.1)) (wh y va) False (Q6 (Qe (Q3Z x)) (QL (uX y va (Q3Z x)) (Q40 x)) ((uX y va (Q3Z x)).toNat<yY x y va) (rb va) (∃ (vb:Nat),MG (Q2k (Q2l (Q2m (Q2n k y) (Q2n k y) (MV y) (MV y) (ku va vb))) (Q4m x) (WD (Q40 x) (Q40 x) (List.take (yY x y vb) ((uM zS x.1.2.1 y.1.1 va).set (uX y va (Q3Z x)).toNat ((0:Int),(0:Int),(0:Int),(0:Int),(0:Int),(0:Int),(0:Int),(0:Int),(0:Int),(0:Int),(0:Int),(0:Int),(0:Int),(0:Int),(0:Int),(0:Int),(0:Int),(0:Int),(0:Int),(0:Int),(0:Int),(0:Int),(0:Int),(0:Int),(0:Int),(0:Int),(0:Int),(0:Int),(0:Int),(0:Int),(0:Int),(0:Int),(0:Int),(0:Int),(0:Int),(0:Int),(0:Int),(0:Int),(0:Int),(0:Int),(0:Int),(0:Int),(0:Int),(0:Int),(0:Int),(0:Int),(0:Int),(0:Int),(0:Int),(0:Int),(0:Int),(0:Int),(0:Int),(0:Int),(0:Int),(0:Int),(0:Int),(0:Int),(0:Int),(0:Int),false,()))=uM zS x.1.2.1 y.1.1 vb)) k y) (vb≤KJ y) (KJ y) vb va)))) (QR (QF (Q40 x) (yY x y va)) (lr x y ((x.1.1,uM zS x.1.2.1 y.1.1 va,()),()) (Qg (MV y)))))) (by kernel_rfl) ?_⟩
 delta Q7 Q6 Qn kA cR Q3 ya jh Q4 QJ cu Q0 Q40 Q23 iZ Q2B QH QF Qi Qg sY yG oE Qt Q10 QE WD xG K7 Vu Ka Qo Q2m Q2l Q2e Q2C MT QL ku Cp kS Q1a QR lV Q18 Q2D ny F7 KJ MG Q2n WG Q4m Q3Z u6 fi rb Ct uX Qe W9 Q2k qW wh yY Q1t AZ MV;obtain ⟨⟨(l0:Int),k0,⟨⟩⟩,⟨⟩⟩:=x;obtain ⟨⟨⟨⟩,⟨⟩,⟨⟩⟩,⟨⟩⟩:=h;obtain ⟨⟨l,⟨⟩⟩,⟨⟩⟩:=y;obtain ⟨⟨⟨lz,lc⟩,⟨⟩⟩,⟨⟩⟩:=k
 try dsimp only
 obtain ⟨⟨h1,h2,h3,h4⟩,h5,h6⟩:=(show ga k0 l0∧List.length l≤4096∧Fw k0 l0 l from hp);simp only [show (OfNat.ofNat (0:Nat):Int)=0 from rfl];refine ⟨by simp [uM],fun s hs=>⟨fun hc=>?_,fun hc=>?_⟩⟩
 ·simp only [decide_eq_true_eq,decide_eq_false_iff_not,Int.toNat_natCast] at hc ⊢;have hi:s<l.length:=by omega
  obtain ⟨k1,k2,k3⟩:=h6 s hi;have q1: ¬(al l s).1<l0:=Int.not_lt.2 k1;have q2: ¬(List.length k0:Int)≤(al l s).1-l0:=Int.not_le.2 k2;have q3: ¬(1073741824:Int)<(al l s).1:=Int.not_lt.2 k3;dsimp only [oH] at k1 k2 k3;have m1:0≤Int.tmod (al l s).1 (List.length k0):=Int.tmod_nonneg _ (by omega)
  have m2:Int.tmod (al l s).1 (List.length k0)<List.length k0:=Int.tmod_lt_of_pos _ (by omega)
  refine ⟨by omega,hi,fun h=>absurd h q1,fun _=>⟨fun h=>absurd h q2,fun _=>⟨q1,by simp only [aL,aT,aU];omega,q2,fun h=>absurd h q3,fun _=>⟨by omega,⟨m1,m2⟩,by rw [bp];omega,by simp only [aL,aT,aU];omega,s+1,?_⟩⟩⟩⟩
  simp [uM]
  repeat' (first|omega|exact List.take_of_length_le (by simp)|refine And.intro ?_ ?_)
 ·simp only [decide_eq_false_iff_not] at hc;obtain rfl:s=l.length:=by omega
  refine ⟨⟨(bp _).symm,(bp _).symm,(bp _).symm⟩,trivial,?_⟩;simp [lr]
noncomputable def Eh:=xd.add 152 UB
def LQ(x:(dw×Unit))(y:((Int×Unit)×Unit)):Prop:=ga x.1.2.1 x.1.1
def ew(x:(dw×Unit))(y:((Int×Unit)×Unit))(x':(dw×Unit))(z:((Int×Unit)×Unit)):Prop:=ga x'.1.2.1 x'.1.1∧mvd zS x.1.2.1 x'.1.2.1 x.1.1 x'.1.1 y.1.1
noncomputable def Uc:MC:=qC [true,false] [gw] [(false,[.int .i64])] [(false,[.int .i64])] LQ ew
abbrev lR:Type:=Sp.Hs [gw]
abbrev e9:Type:=Sp.Ts [gw]
def Q4s(a:Sp.Ts [Sp.ar vV (308:TypeId)]):Nat:=List.length a.1
def Q4o(a:e9):Nat:=Q4s a.1.2
def Q4p(a:gR)(b:rG)(c:Prop):Prop:=pA (Q40 a) a.1.1 b.1 (LL b)∧Q6 (b.2.2.1≤LL b) (LL b≤b.2.1) (fW (LL b)) (gC b.2.2.2 b.2.1) c
def PE(a:e9):Prop:=QF (Q4o a) (Q4o a)
def Rv(a:gR)(b:oI)(c:e9)(d:mF)(e:ky):Prop:=Q2Z (lr (a.1,()) ((b,()),()) c d) (QR (PE c) (ew a e ((e.1.1,c.1.2.1,()),()) (Zt d)))
def AT(a:gR)(b:mM):Prop:=AY (Q40 a) a.1.1 b.1 b.2.2.2 (Pq b)
theorem VP:ab Tryz.prog 82 Uc:=by
 refine ah (cx Mx [176,149,217,151] b8 Eh) Tryz.func82 (by kernel_rfl) (by kernel_rfl) fun (x:(dw×Unit)) h (y:((Int×Unit)×Unit)) k hf hg hp=>⟨(fun bk=>match bk with|368000000=>some {S:=List (Row [.int .i64])×Nat×Nat×Bool,st:=fun s=>⟨jk [(0,.v (.one (.rs s.2.2.2 0 17 0 1 0 (List.length s.1) s.2.1))),(0,.lO 151 [.ptr 2 0]),(5,.v (.one (.int .i64 false ((List.length s.1:Int))))),(0,.v (.one (.int .i64 false ((s.2.2.1:Int)))))] 19,[some (.cells [.int .i64 false x.1.1,.rs false 0 1 0 61 0 (List.length x.1.2.1) (List.length x.1.2.1)] 278),some (.rows false false vV (x.1.2.1) 0 (List.length x.1.2.1) 308),some (.cells [.int .i64 false y.1.1] 3),none,none,none,none,none,none,none,none,none,none,none,none,none,none,some (.rows false s.2.2.2 [.int .i64] s.1 0 s.2.1 3)]⟩,ok:=fun s=>AY (List.length x.1.2.1) x.1.1 s.1 0 (List.length s.1)∧s.2.2.1≤List.length s.1∧List.length s.1≤s.2.1∧List.length s.1≤4096∧(s.2.2.2=true→s.2.1=0)∧ ∀i,i<s.2.2.1→oH s.1 i<y.1.1,mu:=fun s=>List.length s.1-s.2.2.1,init:=([],0,0,false),ex:=true,tie:=some (fun σ s=>match (σ.tm[0]? :Option SV) with|some (.v (.one (.rs z _ _ _ _ _ n c)))=>s.2.2.2=z∧s.2.1=c∧List.length s.1=n|_=>False)}|150000000=>some {S:=List (Row [.int .i64])×Nat×Nat×Nat,st:=fun s=>⟨jk [(0,.v (.one (.rs false 0 17 0 1 0 (List.length s.1) s.2.1))),(0,.lO 151 [.ptr 2 0]),(3,.v (.one (.int .i64 false ((s.2.2.1:Int))))),(0,.v (.one (.int .i64 false ((s.2.2.2:Int)))))] 42,[some (.cells [.int .i64 false x.1.1,.rs false 0 1 0 61 0 (List.length x.1.2.1) (List.length x.1.2.1)] 278),some (.rows false false vV (x.1.2.1) 0 (List.length x.1.2.1) 308),some (.cells [.int .i64 false y.1.1] 3),none,none,none,none,none,none,none,none,none,none,none,none,none,none,some (.rows false false [.int .i64] s.1 0 s.2.1 3)]⟩,ok:=fun s=>AY (List.length x.1.2.1) x.1.1 s.1 s.2.2.2 (List.length s.1)∧AY (List.length x.1.2.1) x.1.1 s.1 0 s.2.2.1∧s.2.2.1<s.2.2.2∧s.2.2.2≤List.length s.1∧List.length s.1≤s.2.1∧List.length s.1≤4096∧ ∀i,i<s.2.2.1→oH s.1 i<y.1.1,mu:=fun s=>List.length s.1-s.2.2.2,init:=([],0,0,0),ex:=true}|_=>none),400,af (q:=K7 (mL y x.1.1) (kS (mL y x.1.1)) (sg x) True (ew x y (x.1,()) QI) (QT (Q18 (mL y x.1.1)) (gD y) (QR (sg x) (ew x y (x.1,()) QI)) (Qs (QF (Q40 x) (Q40 x)) (tF (x.1,()) ()) (∀ (va:e9) (vb:lR) (vc:Hd) (vd:Fv),Q2N vc vd (il (x.1,()) () va vc) (∃ (ve:rG),Q2O (Q7 (Q2P vd ve vc) (Vu (va.1.1=x.1.1) (Q4o va) (Q40 x)) (Qn (WD (Q4o va) (Q40 x) (List.take (Q40 x) va.1.2.1=x.1.2.1)) (y.1.1=y.1.1) (oE vd.1.1.1 ve.2.2.2 vd.1.1.2 ve.2.1 (List.take (LL ve) vc.1.1=ve.1)) True)) (Q4p x ve (∀ (vf:Nat),Yg vf ve.2.2.1 ve.1 y)) ve vd vc) (∀ (ve:rG),WG (Q23 (Q4p x ve (∀ (vf:Nat),Yg vf ve.2.2.1 ve.1 y)) (ve.2.2.2=vd.1.1.1) ve.2.1 vd.1.1.2 (LL ve=Em vc)) ve.2.2.1 (LL ve) (Q2V y.1.1 ve.1 ve.2.2.1) (K7 (Q2W ve) (sg x) (pn vc ve vd) (nC (x.1,()) ((ve.1,()),())) (∀ (vf:e9) (vg:lR) (vi:mF) (vj:fU),Rv x ve.1 vf vi y) (Q7 (rb ve.2.2.1) (∃ (vf:mM),lN (Q2m (iZ vd.1.1.1 false (Em vc) vf.1.length vd.1.1.2 vf.2.1) True (↑ve.2.2.1:Int) (y7 vf) (ku ve.2.2.1 vf.2.2.2)) (Q2m (Q4m x) (Cg x) y.1.1 y.1.1 (Cp ve.2.2.2 false ve.2.1 vf.2.1 (Pq vf) ve.1 vf.1)) (AT x vf) (pA (Q40 x) x.1.1 vf.1 vf.2.2.1) (td vf (∀ (vg:Nat),Yg vg vf.2.2.1 vf.1 y))) (∀ (vf:mM),WG (Q3p (AT x vf) (pA (Q40 x) x.1.1 vf.1 vf.2.2.1) (vf.2.2.1<vf.2.2.2) (vf.2.2.2≤Pq vf) (Pq vf≤vf.2.1) (fW (Pq vf)) (∀ (vg:Nat),Yg vg vf.2.2.1 vf.1 y)) vf.2.2.2 (Pq vf) (!(Q2V y.1.1 vf.1 vf.2.2.2)) (Q6 (QL (y7 vf) (Pq vf)) (eb vf<Pq vf) (QE (y7 vf)) (rb vf.2.2.2) (∃ (vg:mM),E4 (Q6 (Q2m (ya (Qn QJ jh jh (ta (Pq vf) (Pq vg) (vf.2.1=vg.2.1)))) True (QH (y7 vf)) (y7 vg) (ku vf.2.2.2 vg.2.2.2)) (Q4m x) (Cg x) (y.1.1=y.1.1) (ya (WD vf.2.1 vg.2.1 (dx vg (vf.1.set (eb vf) ((Ka vf.1 vf.2.2.2).1,())))))) (AT x vg) (pA (Q40 x) x.1.1 vg.1 vg.2.2.1) (td vg (∀ (vi:Nat),Yg vi vg.2.2.1 vg.1 y)) (Pq vg) vg.2.2.2 (Pq vf) vf.2.2.2)) (Na vf.2.2.2 (∃ (vg:mM),ja vf vg (y7 vf) (Q2m (Q4m x) (Cg x) y.1.1 y.1.1 (WD vf.2.1 vg.2.1 (dx vg vf.1))) (AT x vg) (pA (Q40 x) x.1.1 vg.1 vg.2.2.1) (td vg (∀ (vi:Nat),Yg vi vg.2.2.1 vg.1 y)))) (yg vf (sg x) (Q23 (eb vf≤(Q3f vf).length) QJ vf.2.1 vf.2.1 (gC false vf.2.1)) (nC (x.1,()) ((Q3g (eb vf) vf,()),())) (∀ (vg:e9) (vi:lR) (vj:mF) (vl:fU),Rv x (Q3g (eb vf) vf) vg vj y))))) (Na ve.2.2.1 (∃ (vf:rG),Q2D (Q2O (Q2m (Q2e ve.2.2.2 vf.2.2.2 ve.1 vf.1 ve.2.1 vf.2.1) True (Q30 ve) (Q30 vf) (ku ve.2.2.1 vf.2.2.1)∧Q2m (Q4m x) (Cg x) y.1.1 y.1.1 (Cp ve.2.2.2 vf.2.2.2 ve.2.1 vf.2.1 (LL vf) ve.1 vf.1)) (Q4p x vf (∀ (vg:Nat),Yg vg vf.2.2.1 vf.1 y)) vf vd vc) (LL vf) vf.2.2.1 (LL ve) ve.2.2.1)) (Qn (sg x) (pn vc ve vd) (nC (x.1,()) ((ve.1,()),())) (∀ (vf:e9) (vg:lR) (vi:mF) (vj:fU),Rv x ve.1 vf vi y))))))) (by kernel_rfl) ?_⟩
 delta Q7 Q6 Qn kA cR Qs Q3 ya jh mJ Q4 QJ cu Q4s JY Q0 Q40 Q23 Q4o gC uI iZ Q2B Oy QH kF QF Qi Qg sY yG oE Qt dD Q3j QE WD K7 Vu Ka Qo Q2d y7 Q2m Q2Z Q2e Pq Q2C MT eb E4 QL ku Cp kS sX QR LL Q3p lV Na D8 QI fW Q18 RU sg Q2D ny mL QT F7 gD Em ta WG uQ Q3f Q3g Q4m pA rb lN Cg Yg Q2V Zt td ja Q4p pn Q30 PE Rv Q2N Q2O Q2P AT yg dx Q2W;obtain ⟨⟨(l0:Int),k0,⟨⟩⟩,⟨⟩⟩:=x;obtain ⟨⟨⟨⟩,⟨⟩,⟨⟩⟩,⟨⟩⟩:=h;obtain ⟨⟨(to:Int),⟨⟩⟩,⟨⟩⟩:=y;obtain ⟨⟨⟨⟩,⟨⟩⟩,⟨⟩⟩:=k
 try dsimp only
 have hw:ga k0 l0:=hp;obtain ⟨h1,h2,h3,h4⟩:=hw;have hpost:(to<l0∨1073741824<to)→ ∀n:Int,ew ((l0,k0,()),()) ((to,()),()) ((l0,k0,()),()) ((n,()),()):=fun h n=>⟨hp,rfl,by rw [if_pos h],fun f _ _=>rfl,fun i=> .inl rfl⟩
 have hpost2: ¬(to<l0∨1073741824<to)→ ∀ (l:List (Row [.int .i64])) (n:Int),(∀i,i<l.length→l0≤oH l i∧oH l i<to)→ew ((l0,k0,()),()) ((to,()),()) ((to,uM zS k0 l l.length,()),()) ((n,()),()):=fun h l n hl=>by
  refine ⟨⟨by rw [bp];exact h1,by rw [bp];exact h2,by show 0≤to;omega,by show to≤1073741824;omega⟩,bp _,by rw [if_neg h],fun f (hf:to≤f) (hf2:f-l0<k0.length)=>?_,fun i=>FF i _⟩
  exact Lv h3 (by omega) hf2 _ fun i hi=>⟨(hl i hi).1,by have:=(hl i hi).2;omega⟩
 simp only [decide_eq_true_eq,decide_eq_false_iff_not,show (OfNat.ofNat (0:Nat):Int)=0 from rfl];refine ⟨fun c1=>⟨c1,⟨trivial,trivial,trivial⟩,trivial,hpost (.inl c1) _⟩,fun c1=>⟨c1,fun c2=>⟨⟨trivial,trivial,trivial⟩,trivial,hpost (.inr c2) _⟩,fun c2=>⟨⟨trivial,trivial,trivial⟩,trivial,hp,?_⟩⟩⟩;have hc: ¬(to<l0∨1073741824<to):=by omega
 rintro ⟨x1,x2⟩ h' ⟨⟨zl,⟨⟩⟩,⟨⟩⟩ ⟨⟨⟨kz,kc⟩,⟨⟩⟩,⟨⟩⟩-hk ⟨hx,hz⟩;dsimp only at hx hz hk;subst hx hz;dsimp only;obtain ⟨⟨⟨k1,k2⟩,-⟩,-⟩:=hk;have hN:=hZ (has:=og) (l:=k0) (first:=l0) k0.length;have hA:=tM (has:=og) (l:=k0) h3 k0.length (Nat.le_refl _);generalize jF og k0 l0 k0.length=zl at*;refine ⟨⟨(zl,kc,0,kz),?_⟩,?_⟩
 ·simp only [List.take_length,and_true,true_and]
  (repeat' (refine And.intro ?_ ?_))<;>first|exact fun i _ hi=>hA i hi|omega|rfl|exact k2|exact fun i hi=>absurd hi (by omega)
 rintro ⟨ml,mc,mi,mz⟩ ⟨⟨hl,hi,hlc,h40,hzc,hlt⟩,rfl,rfl,hzl⟩;dsimp only at hl hi hlc h40 hzc hlt hzl ⊢;have fin: ∀ (l:List (Row [.int .i64])),AY k0.length l0 l 0 l.length→(∀i,i<l.length→oH l i<to)→Fw k0 l0 l∧ ∀n:Int,ew ((l0,k0,()),()) ((to,()),()) ((to,uM zS k0 l l.length,()),()) ((n,()),()):=fun l q1 q2=>⟨fun i hi=>q1 i (by omega) hi,fun n=>hpost2 hc l n fun i hi=>⟨(q1 i (by omega) hi).1,q2 i hi⟩⟩
 refine ⟨fun hq=>⟨⟨by omega,hq⟩,by omega,fun hge=>⟨fun e=>by simp at e,fun _=>⟨by simp only [aL,aT,aU];omega,?_,?_⟩⟩,fun hge=>⟨by simp only [aL,aT,aU];omega,(ml,mc,mi+1,mz),?_⟩⟩,fun hq=>?_⟩
 ·have hz0:mz=false:=by
   cases mz with
   |false=>rfl
   |true=>have:=hzc rfl;omega
  subst hz0;refine ⟨(ml,mc,mi,mi+1),?_⟩;simp only [List.take_length,and_true,true_and]
  (repeat' (refine And.intro ?_ ?_))<;>first|exact fun i _ hi=>hl i (by omega) hi|exact fun i _ hi=>hl i (by omega) (by omega)|omega|rfl|exact hlt
 ·rintro ⟨tl,tc,ti,tj⟩ ⟨q1,q2,q3,q4,q5,q6,q7⟩;dsimp only at q1 q2 q3 q4 q5 q6 q7 ⊢;refine ⟨fun hq=>⟨⟨by omega,hq⟩,by omega,fun hb=>⟨⟨by omega,by omega⟩,by omega,by simp only [aL,aT,aU];omega,by simp only [aL,aT,aU];omega,(tl.set ti (al tl tj),tc,ti+1,tj+1),?_⟩,fun hb=>⟨by simp only [aL,aT,aU];omega,(tl,tc,ti,tj+1),?_⟩⟩,fun hq=>?_⟩
  ·have hb':(al tl tj).1<to:=by simpa using hb
   simp only [List.length_set,Int.toNat_natCast,and_true,true_and]
   (repeat' (refine And.intro ?_ ?_))<;>first|omega|rfl|exact List.take_of_length_le (by simp)|exact fun i hi k=>by rw [ie (by omega)];exact q1 i (by omega) k|(intro i hi k;by_cases e:i=ti;(· subst e;rw [yS (by omega)];exact q1 tj (by omega) (by omega));(· rw [ie e];exact q2 i (by omega) (by omega)))|(intro i hi;show oH _ i<to;by_cases e:i=ti;(· subst e;rw [yS (by omega)];exact hb');(· rw [ie e];exact q7 i (by omega)))
  ·simp only [List.take_length,and_true,true_and]
   (repeat' (refine And.intro ?_ ?_))<;>first|omega|rfl|exact fun i hi k=>q1 i (by omega) k|exact q2|exact q7
  ·obtain rfl:tj=tl.length:=by omega
   simp only [Int.toNat_natCast];rw [HX tl _ (by omega)]
   have hlen:(List.take ti tl).length=ti:=by simp;omega
   obtain ⟨f1,f2⟩:=fin (List.take ti tl) (fun i _ hi=>by rw [uq (by omega)];exact q2 i (by omega) (by omega)) (fun i hi=>by rw [uq (by omega)];exact q7 i (by omega))
   refine ⟨⟨by omega,by omega⟩,by omega,⟨by omega,by omega⟩,⟨trivial,trivial,trivial⟩,⟨by simp;omega,trivial,trivial,fun h=>by cases h⟩,⟨hp,(by show (List.take ti tl).length≤4096;omega),f1⟩,?_⟩
   rintro x' h' z k'- -⟨e1,e2,e3⟩;refine ⟨⟨trivial,trivial,trivial⟩,trivial,?_⟩;rw [e2];exact f2 _
 ·simp only [List.take_length,and_true,true_and]
  (repeat' (refine And.intro ?_ ?_))<;>first|omega|rfl|exact hl|exact hzc|exact hzl|exact fun i hi'=>(Nat.lt_or_ge i mi).elim (hlt i) fun k=>by rw [show i=mi by omega];exact Int.not_le.1 hge
 ·obtain rfl:mi=ml.length:=by omega
  obtain ⟨f1,f2⟩:=fin ml hl hlt;refine ⟨⟨trivial,trivial,trivial⟩,⟨hzl.symm,rfl,rfl,hzc⟩,⟨hp,h40,f1⟩,?_⟩;rintro x' h' z k'- -⟨e1,e2,e3⟩;refine ⟨⟨trivial,trivial,trivial⟩,trivial,?_⟩;rw [e2];exact f2 _
noncomputable def vG:=Eh.add 82 VP
end Go.Proofs.YtfdmjoddhjmokaaGreatDoor
namespace Go.Proofs.YtfdmjoddhjmokaaGreatDoor
open Go.RowKit Rex
set_option linter.unusedVariables false
set_option linter.unusedSimpArgs false
set_option maxRecDepth 100000
def FE(k:Nat)(s:List UInt8):List UInt8:=if k=0 then s else []
def fV(n:Nat):List (Row [.int .u8]):=List.replicate n (0,())
def iP(l:List UInt8):Nat→Nat
 |0=>0
 |i+1=>iP l i*256+(l.getD i 0).toNat
def mh(x:(Unit))(y:((List UInt8×Unit)×Unit)):Prop:=List.length y.1.1≤1000
def qP(x:(Unit))(y:((List UInt8×Unit)×Unit)):((Int×Unit)×Unit):=((iN y.1.1,()),())
noncomputable def YP:RC:=qR [false] [] [(false,[.str])] [(false,[.int .u32])] mh qP
abbrev gz:Type:=List UInt8
abbrev kJ:Type:=(List UInt8×Unit)×Unit
def Q4x(a:gz):Int:=(↑a.length:Int)
def Q4I(a:Array UInt8):Value:=Value.string ({data:=a})
def Lh(a:gz):Value:=Q4I ({toList:=a})
def Q4B(a:kJ):Int:=Q4x a.1.1
def yq(a:kJ):Prop:=Lh a.1.1=Lh a.1.1
def Q4C(a:Nat)(b:Int):Prop:=Qo (↑a:Int) b
def I4(a b:gz):Prop:=Lh a=Lh b
def Q4A(a:kJ):Nat:=a.1.1.length
def Q4v(a:Nat):Nat:=a %(65521:Nat)
def Q4w(a:kJ)(b:Nat):eV:=oz a.1.1 (b*Q4A a)
def D5(a:Nat):Int:=(↑(Q4v a):Int)
def Q4E(a:kJ)(b:Nat):Int:=Oy (oz a.1.1 b)+cG a.1.1 (sY b)
def tp(a:Int):Prop:=aL IntKind.u32 a
def Bj(a:Nat)(b:kJ):Int:=if (5552:Int)<(Q4x (FE a b.1.1)) then (5552:Int) else (Q4x (FE a b.1.1))
def Q4H(a b:Int):Int:=IntKind.u32.wrap (↑((BitVec.ofInt (32:Nat) a) ||| (BitVec.ofInt (32:Nat) b)).toNat:Int)
theorem Xb:aB Tryz.prog 188 YP:=by
 refine aD (cx Mx [243] b8 vG) Tryz.func188 (by kernel_rfl) (by kernel_rfl) rfl rfl rfl fun (x:(Unit)) h (y:((List UInt8×Unit)×Unit)) k hp=>⟨(fun bk=>match bk with|244000000=>some {S:=Nat,st:=fun k=>⟨jk [(1,.v (.one (.op (dc (FE k y.1.1))))),(3,.v (.one (.int .u32 false (((oz y.1.1 (k*List.length y.1.1)).1 %65521:Nat))))),(0,.v (.one (.int .u32 false (((oz y.1.1 (k*List.length y.1.1)).2 %65521:Nat)))))] 46,[]⟩,ok:=fun k=>k≤1,mu:=fun k=>1-k,init:=0}|244000002=>some {S:=Nat,st:=fun i=>⟨jk [(1,.v (.one (.op (dc (y.1.1))))),(3,.v (.one (.int .u32 false (((oz y.1.1 i).1:Nat))))),(0,.v (.one (.int .u32 false (((oz y.1.1 i).2:Nat))))),(0,.v (.one (.int .i64 false ((List.length y.1.1:Int))))),(13,.v (.one (.int .i64 false ((List.length y.1.1:Int))))),(0,.v (.one (.int .i64 false ((i:Int)))))] 46,[]⟩,ok:=fun i=>i≤List.length y.1.1,mu:=fun i=>List.length y.1.1-i,init:=0}|_=>none),400,af (q:=W9 (ya (Qn (Lh y.1.1=Lh (FE (0:Nat) y.1.1)) (yG (1:Int) (Q4v (Q4w y (0:Nat)).1)) (RU (Q4v (Q4w y (0:Nat)).2)) True)) ((0:Nat)≤(1:Nat)) (∀ (va:Nat),kQ (va≤(1:Nat)) (decide ((0:Int)<(Q4x (FE va y.1.1)))) (ya (Q7 (Lh (FE va y.1.1)=Lh y.1.1) (D5 (Q4w y va).1=(↑(1:Nat):Int)) (Q2B (D5 (Q4w y va).2=(↑(0:Nat):Int)) (yG (Bj va y) (Q4A y)) (Bj va y) (Q4B y) qW True))∧Q1t (Q4A y)) (∀ (vb:Nat),kQ (vb≤Q4A y) (MT vb (Q4B y)) (Q4C vb (Q4B y)) (Q6 (tp (cG y.1.1 (sY vb))) (tp (Q4E y vb)) (tp ((↑(oz y.1.1 vb).2:Int)+Q4E y vb)) (rb vb) (∃ (vc:Nat),MG (ya (Q7 (yq y) (Q4E y vb=Oy (oz y.1.1 vc)) (Q2m (yG ((↑(oz y.1.1 vb).2:Int)+Q4E y vb) (oz y.1.1 vc).2) (xG (Q4A y) (Q4A y)) (Q4B y) (Q4B y) (ku vb vc)))) (vc≤Q4A y) (Q4A y) vc vb)) (D8 (Q4B y) (Q4B y)∧(∃ (vc:Nat),MG (ya (Q7 (I4 (List.drop (sY (Q4A y)) y.1.1) (FE vc y.1.1)) (yG ((Oy (oz y.1.1 vb)).tmod (65521:Int)) (Q4v (Q4w y vc).1)) (ya (yG ((↑(oz y.1.1 vb).2:Int).tmod (65521:Int)) (Q4v (Q4w y vc).2))))) (vc≤(1:Nat)) (1:Nat) vc va))) (tp (D5 (Q4w y va).2*(65536:Int))∧Q1 True x h (Qg (Q4H (D5 (Q4w y va).2*(65536:Int)) (D5 (Q4w y va).1))=qP x y)))) (by kernel_rfl) ?_⟩
 delta Q7 Q6 Qn Q3 ya Q4 Q5 Q0 Q2B Oy QH Qi Q1 Qg sY yG Qt QE xG Q4x Q4I Lh Qo Q4B Q2m Q2C MT ku D8 yq RU Q2D kQ MG Q4C I4 fi Q4A rb W9 Q4v Q4w qW Q1t D5 Q4E tp Bj Q4H;obtain ⟨⟨⟩⟩:=x;obtain ⟨⟨⟩⟩:=h;obtain ⟨⟨s,⟨⟩⟩,⟨⟩⟩:=y;obtain ⟨⟨⟨⟩,⟨⟩⟩,⟨⟩⟩:=k
 try dsimp only [qP]
 have h0:s.length≤1000:=hp;have hc0:FE 0 s=s:=rfl;have hc1:FE 1 s= []:=rfl;have hstep: ∀i,oz s (i+1)=((oz s i).1+(s.getD i 0).toNat,(oz s i).2+((oz s i).1+(s.getD i 0).toNat)):=fun _=>rfl;simp only [cl];refine ⟨⟨⟨by rw [hc0],by simp [oz],by simp [oz]⟩,by omega⟩,fun k hk=>⟨fun h1=>?_,fun h1=>?_⟩⟩
 ·obtain rfl:k=0:=by
   rcases Nat.eq_zero_or_pos k with e|e
   ·exact e
   ·obtain rfl:k=1:=by omega
    rw [hc1] at h1;exact absurd h1 (by simp)
  rw [hc0] at h1 ⊢;refine ⟨⟨⟨rfl,by simp [oz],by simp [oz],by rw [if_neg (by omega)],by rw [if_neg (by omega)],rfl⟩,by omega⟩,fun i hi=>⟨fun h2=>?_,fun h2=>⟨by omega,1,?_⟩⟩⟩
  ·have b1:=TD (l:=s) i;have b2:=Ky s i;have b3:i*(1+255*i)≤1000*(1+255*1000):=Nat.mul_le_mul (by omega) (by omega)
   have hs:=hstep i;have b4:cG s i=((s.getD i 0).toNat:Int):=rfl;refine ⟨by omega,by simp only [aL,aT,aU];omega,by simp only [aL,aT,aU];omega,by simp only [aL,aT,aU];omega,by simp only [aL,aT,aU];omega,i+1,?_⟩
   rw [hs,b4];dsimp only;omega
  ·obtain rfl:i=s.length:=by omega
   rw [hc1,Nat.one_mul];refine ⟨⟨⟨by rw [List.drop_length],?_,?_⟩,by omega⟩,by omega⟩
   ·rw [Int.tmod_eq_emod_of_nonneg (by omega)];rfl
   ·rw [Int.tmod_eq_emod_of_nonneg (by omega)];rfl
 ·have h2:(k*s.length)=s.length:=by
   rcases Nat.eq_zero_or_pos k with e|e
   ·subst e;rw [hc0] at h1;have:s.length=0:=by omega
    rw [this]
   ·obtain rfl:k=1:=by omega
    rw [Nat.one_mul]
  rw [h2];have q1:(oz s s.length).2 %65521<65521:=Nat.mod_lt _ (by omega)
  have q2:(oz s s.length).1 %65521<65521:=Nat.mod_lt _ (by omega)
  dsimp only [qP,iN];generalize (oz s s.length).2 %65521=a at*;generalize (oz s s.length).1 %65521=b at*;refine ⟨by simp only [aL,aT,aU];omega,?_⟩
  have:=orW (k:= .u32) (w:=32) (i:=16) (a:=(a:Int)) (b:=(b:Int)) (by omega) (by omega) (by omega) (by simp only [aL,aT,aU];omega) (by omega)
  rw [show (2:Int)^16=65536 by rfl] at this
  rw [this];exact congrArg (fun z:Int=>((z,()),())) (by omega)
noncomputable def BL:=b8.rd 188 Xb
def KK(x:(Unit))(y:((Int×Unit)×Unit)):Prop:=0≤y.1.1∧y.1.1≤18446744073709551615
def xN(x:(Unit))(y:((Int×Unit)×Unit))(x':(Unit))(z:((List UInt8×Unit)×Unit)):Prop:=z.1.1=bY y.1.1
noncomputable def TR:MC:=qC [false] [] [(false,[.int .u64])] [(false,[.str])] KK xN
abbrev tQ:Type:=List (Row [Kd.int IntKind.u8])×Int×Nat
def RF(a:tQ):Nat:=a.1.length
def y9(a:gz):kJ:=((a,()),())
def Q4P(a:Int):Prop:=aL IntKind.u64 a
def Q4V(a:(Kd.int IntKind.u8).T×Row []):kG:= [a]
def TW(a:kG)(b:Int):kG:=a.append (Q4V (b,()))
def Q4W(a:tQ):Bool:=decide ((RF a)=(0:Nat))
def Q4S(a:tQ):Prop:=vY (RF a) (RF a) a.2.2 (Q4W a) (1:Nat)
def Xp(a:Nat):Prop:=a≤(18446744073709551615:Nat)
def RM(a:Prop):Prop:=cR (cR a Q1r) (Rt∧(([]:List (Row [Kd.int IntKind.u8]))= []))
def UZ(a:tQ)(b:ky):Prop:=(bw a.1).append (kK ((9:Nat)-RF a) a.2.1.toNat)=bY b.1.1
def Q4N(a:tQ)(b:ky):Prop:=Q6 (RF a≤(9:Nat)) (UZ a b) (Xp (a.2.1.toNat*((128:Nat)^ (RF a)))) (RF a≤a.2.2) (Ha (RF a) a.2.2)
def Q4Q(a:Prop)(b:tQ)(c:ky)(d:tQ):Prop:=Q3p a (Qt b.2.1) (RF b≤(9:Nat)) (UZ b c) (Xp (b.2.1.toNat*((128:Nat)^ (RF b)))) (RF b≤b.2.2) (Ha (RF b) b.2.2)∧b.2.1.toNat<d.2.1.toNat
def nj(a:ky):Prop:=(bw []).append (kK ((9:Nat)-(0:Nat)) (QW a))=bY a.1.1
def Q4M(a:tQ)(b c d:Prop):Prop:=Qt a.2.1∧b→QK (decide ((128:Int)≤a.2.1)) (aL IntKind.u8 (a.2.1.tmod (128:Int))) (Q4S a) c d
def jm(a:Int):kG:= [(IntKind.u8.wrap a,())]
def yI(a b:Bool)(c d e:Nat)(f g:kG):Prop:=oE a b c d (List.take e f=g)
def Q4R(a b:tQ)(c:Nat):Prop:=cR (cR (a.2.1.tdiv (128:Int)=b.2.1) (iZ (Nc (Q4W a)) (Q4W b) (rB (RF a)) (RF b) c b.2.2)) (yI (Nc (Q4W a)) (Q4W b) c b.2.2 (RF b) (a.1.append (jm (↑((BitVec.ofInt (8:Nat) (a.2.1.tmod (128:Int))) ||| (BitVec.ofInt (8:Nat) (128:Int))).toNat:Int))) b.1)
theorem Vm:ab Tryz.prog 185 TR:=by
 refine ah (cx Mx [] BL vG) Tryz.func185 (by kernel_rfl) (by kernel_rfl) fun (x:(Unit)) h (y:((Int×Unit)×Unit)) k hf hg hp=>⟨(fun bk=>match bk with|0=>some {S:=List (Row [.int .u8])×Int×Nat,st:=fun s=>⟨jk [(0,.v (.one (.int .u64 false (s.2.1)))),(2,.v (.one (.rs (decide (List.length s.1=0)) 0 0 0 1 0 (List.length s.1) s.2.2)))] 21,[some (.rows false (decide (List.length s.1=0)) [.int .u8] s.1 0 s.2.2 5)]⟩,ok:=fun s=>0≤s.2.1∧List.length s.1≤9∧bw s.1++kK (9-List.length s.1) s.2.1.toNat=bY y.1.1∧s.2.1.toNat*128^List.length s.1≤18446744073709551615∧List.length s.1≤s.2.2∧(List.length s.1=0→s.2.2=0),mu:=fun s=>s.2.1.toNat,init:=([],y.1.1,0)}|_=>none),400,af (q:=(RM (y.1.1=y.1.1)∧Q6 (Qt y.1.1) ((0:Nat)≤(9:Nat)) (nj y) (Xp (QW y*((128:Nat)^ (0:Nat)))) (((0:Nat)≤(0:Nat))∧Wl))∧(∀ (va:tQ),Q4M va (Q4N va y) (∀ (vb:Nat),x9 (RF va) vb va.2.2 (Q4P (va.2.1.tdiv (128:Int))∧(∃ (vc:tQ),Q4Q (Q4R va vc vb) vc y va))) (Q7 (aL IntKind.u8 va.2.1) (Q4S va) (∀ (vb:Nat),x9 (RF va) vb va.2.2 (Qs (rB (RF va)=(TW va.1 va.2.1).length) True (xN x y () (y9 (bw (TW va.1 va.2.1))))))))) (by kernel_rfl) ?_⟩
 delta Q7 Q6 Qn kA cR Qs Q3 ya jh Q4 cu Q0 Q23 gC iZ QK oE Qt rB Ha RH Q2a jm kS RF Q3p Nc x9 QW GW WV yI Q4W Q4V y9 Rt vY Q4P Q1r TW Wl Q4S Xp UZ RM Q4N Q4Q nj Q4M Q4R;obtain ⟨⟨⟩⟩:=x;obtain ⟨⟨⟩⟩:=h;obtain ⟨⟨(n:Int),⟨⟩⟩,⟨⟩⟩:=y;obtain ⟨⟨⟨⟩,⟨⟩⟩,⟨⟩⟩:=k
 try dsimp only
 obtain ⟨h0,h1⟩:=(show 0≤n∧n≤18446744073709551615 from hp);simp only [cl];refine ⟨?_,fun s a1 a2 a3 a4 a5 a6=>⟨fun hc=>?_,fun hc=>?_⟩⟩
 ·have e:n.toNat*128^0=n.toNat:=by simp
  (repeat' (refine And.intro ?_ ?_))<;>first|omega|rfl|trivial
 ·obtain ⟨A,m,c⟩:=s;dsimp only at a1 a2 a3 a4 a5 a6 hc ⊢;obtain ⟨x,rfl⟩:=Int.eq_ofNat_of_zero_le a1;have e1:(x:Int).tmod 128=((x %128:Nat):Int):=by rw [Int.tmod_eq_emod_of_nonneg (by omega)];rfl
  have e2:(x:Int).tdiv 128=((x / 128:Nat):Int):=by rw [Int.tdiv_eq_ediv_of_nonneg (by omega)];rfl
  have hx: ¬x<128:=by omega
  simp only [Int.toNat_natCast] at a3 a4;have hx2:x≤x*128^A.length:=Nat.le_mul_of_pos_right x (Nat.pow_pos (by omega))
  have hl:A.length≤8:=by
   rcases Nat.lt_or_ge A.length 9 with k|k
   ·omega
   ·have k9:A.length=9:=by omega
    rw [k9] at a4;omega
  have hp2:x / 128*128^ (A.length+1)≤x*128^A.length:=by
   rw [Nat.pow_succ,Nat.mul_comm (128^A.length) 128,←Nat.mul_assoc];exact Nat.mul_le_mul_right _ (Nat.div_mul_le_self _ _)
  have h9:9-A.length=(9-(A.length+1))+1:=by omega
  rw [h9,uR hx] at a3;rw [e1,e2,ZC (by omega) (by omega)]
  refine ⟨by simp only [aL,aT,aU];omega,⟨a6,by omega⟩,fun c' k1 k2=>⟨by simp only [aL,aT,aU];omega,(A++ [(((x %128:Nat):Int)+128,())],((x / 128:Nat):Int),c'),?_⟩⟩
  have hA:bw (A++ [(((x %128:Nat):Int)+128,())])=bw A++ [UInt8.ofNat (x %128+128)]:=by
   rw [dC];rfl
  simp only [List.length_append,List.length_cons,List.length_nil,Nat.zero_add,Bool.false_and,Int.toNat_natCast,hA]
  (repeat' (refine And.intro ?_ ?_))<;>first|omega|rfl|trivial|exact (decide_eq_false (by omega)).symm|exact List.take_of_length_le (by simp)|(intro e;omega)|(show (bw A++ [_])++_=_;rw [List.append_assoc];exact a3)
 ·obtain ⟨A,m,c⟩:=s;dsimp only at a1 a2 a3 a4 a5 a6 hc ⊢;obtain ⟨x,rfl⟩:=Int.eq_ofNat_of_zero_le a1;simp only [Int.toNat_natCast] at a3 a4;refine ⟨by simp only [aL,aT,aU];omega,⟨a6,by omega⟩,fun c' k1 k2=>⟨by simp,?_⟩⟩
  rw [nu (by omega)] at a3
  show bw (A++ [((x:Int),())])=bY n;rw [dC];exact a3
noncomputable def ib:=vG.add 185 Vm
def IV(x:(Unit))(y:((List UInt8×Unit)×Unit)):Prop:=0<List.length y.1.1∧(y.1.1.getD 0 0).toNat<128
def dE(x:(Unit))(y:((List UInt8×Unit)×Unit)):((Int×Unit)×(Unit×Unit)×(Unit×Unit)×Unit):=((((y.1.1.getD 0 0).toNat:Int),()),((),()),((),()),())
noncomputable def PY:RC:=qR [false] [] [(false,[.str])] [(false,[.int .u64]),(false,[.cl (.int .i64 (1))]),(false,[.cl (.int .i64 (0))])] IV dE
abbrev Tp:Type:=(Int×Unit)×(Unit×Unit)×(Unit×Unit)×Unit
def Q57(a:gz):Int:=cG a (0:Nat)
def Rr(a:kJ):Int:=Q57 a.1.1
def Rl(a:kJ):Bool:=decide ((Rr a)<(128:Int))
def Q50(a:kJ)(b c d:Prop):Prop:=ya (ya (Q2m (yq a) b (Q4B a) (Q4B a) c))∧d
def Q5b(a:Int):Int:=IntKind.u64.wrap a
def F2(a:BitVec (64:Nat)):Int:=Q5b (↑a.toNat:Int)
def Kl(a:kJ):Int:=(Rr a).tmod (128:Int)
def Ea(a:kJ):Int:=Kl a*(1:Int)
def WJ(a:kJ):Int:=F2 ((BitVec.ofInt (64:Nat) (0:Int)) ||| (BitVec.ofInt (64:Nat) (Ea a)))
def GX(a:kJ):Prop:=Q50 a (oO (WJ a)) CW ((0:Nat)<(0:Nat))
def Q5e:Prop:=(1:Int)=(1:Int)
def Q5d(a b c d e:Prop):Prop:=Qn a (b∧c) d e
def Wv(a:kJ)(b:eL)(c:ck)(d:Tp)(e:Prop):Prop:=Q5d (Q4P (Ea a)) ((0:Int)≤(0:Int)) ((0:Int)<Q4B a) (Q3 (Rl a) (Q1 (gk Q5e) b c (((WJ a,()),LP)=d))) (Q4 (Rl a) e)
def Q5f(a:Int):Prop:=((0:Int)≤(0:Int))∧(0:Int)<a
def Q53(a:kJ)(b:eL)(c:ck)(d:Tp)(e f:Prop):Prop:=K7 (Kl a==(0:Int)) (Q4P (Ea a)) (Q5f (Q4B a)) (Q3 (Rl a) (Q1 (gk Q5e) b c (((WJ a,()),LP)=d))) (Q4 (Rl a) e) f
def Vl(a:Prop)(b:Int):Prop:=a∧oO b
def ra(a:kJ)(b:eL)(c:ck)(d:Tp)(e:Prop):Prop:=True→Q0 (decide ((0:Int)<(Q4B a))) (Q1a (Q5f (Q4B a)) (Q4P (Rr a)) (Q4P (Ea a)) (Ea a / (1:Int) !=Kl a) (Q1 (Vl ((0:Int)=(1:Int)) (4:Int)) b c ((Qm,LP)=d)) e) (Q1 (Vl ((0:Int)=(1:Int)) (3:Int)) b c ((Qm,LP)=d))
theorem R6:aB Tryz.prog 223 PY:=by
 refine aD (cx Mx [] BL ib) Tryz.func223 (by kernel_rfl) (by kernel_rfl) rfl rfl rfl fun (x:(Unit)) h (y:((List UInt8×Unit)×Unit)) k hp=>⟨(fun bk=>match bk with|0=>some {S:=Nat,st:=fun q=>⟨jk [(0,.v (.one (.op (dc (y.1.1))))),(4,.v (.one (.int .u64 true 0))),(4,.v (.one (.int .i64 false ((List.length y.1.1:Int))))),(0,.v (.one (.int .i64 true 0)))] 59,[]⟩,ok:=fun q=>True,mu:=fun q=>0,init:=0}|_=>none),400,af (q:=Q50 y lG lG (∀ (va:Nat),ra y x h (dE x y) (Qz ((0:Int)≤(0:Int)) ((0:Int)<Q4B y) (Q3 (Rl y) (Q53 y x h (dE x y) (∃ (vb:Nat),GX y) (Wv y x h (dE x y) (∃ (vb:Nat),GX y)))) (Q4 (Rl y) (Wv y x h (dE x y) (∃ (vb:Nat),GX y)))))) (by kernel_rfl) ?_⟩
 delta Q7 Q6 oO lG Qn Q3 ya Qk Q4 Q5 Q0 mB Q2B Q1 Q5b Q5e Q57 Rr K7 Q4x LP Q4I Lh Q5d Q4B Q2m Qz gk Q1a F2 Kl Ea CW yq Qm Rl WJ Q50 GX Q4P Vl Wv Q5f Q53 ra;obtain ⟨⟨⟩⟩:=x;obtain ⟨⟨⟩⟩:=h;obtain ⟨⟨s,⟨⟩⟩,⟨⟩⟩:=y;obtain ⟨⟨⟨⟩,⟨⟩⟩,⟨⟩⟩:=k
 try dsimp only [dE]
 obtain ⟨h0,h1⟩:=(show 0<List.length s∧(s.getD 0 0).toNat<128 from hp);have b1:=Ky s 0;have b2:cG s 0<128:=by unfold cG;omega
 have e1:(cG s 0).tmod 128=cG s 0:=by rw [Int.tmod_eq_emod_of_nonneg (by omega)];omega
 have e2:cG s 0*1 / 1=cG s 0:=by omega
 have e3:cG s 0*1=cG s 0:=by omega
 have e4:IntKind.u64.wrap ((BitVec.ofInt 64 0 ||| BitVec.ofInt 64 (cG s 0)).toNat:Int)=cG s 0:=or0 b1.1 (by simp only [aL,aT,aU];omega) (by omega)
 have hres:((cG s 0,()),((),()),((),()),())=dE () ((s,()),()):=rfl;simp only [cl];simp only [e1,e2,e3,e4]
 (repeat' (first|(refine And.intro ?_ ?_)|intro _))
 all_goals first|(exfalso;omega)|omega|trivial|rfl|(simp only [aL,aT,aU];omega)|exact hres|exact absurd trivial (by assumption)
noncomputable def BI:=BL.rd 223 R6
def eO(x:(Unit))(y:((List (Row [.int .u8])×Unit)×Unit)):Prop:=y.1.1=fV (List.length y.1.1)∧List.length y.1.1≤64
def qE(x:(Unit))(y:((List (Row [.int .u8])×Unit)×Unit)):((Unit×Unit)×Unit):=(((),()),())
noncomputable def Zi:RC:=qR [false] [] [(false,[.im [.int .u8]])] [(false,[.cl (.bool true)])] eO qE
abbrev GF:Type:=(List (Row [Kd.int IntKind.u8])×Unit)×Unit
abbrev Un:Type:=eZ [(false,[Sp.im [Kd.int IntKind.u8]])]
def Q5m(a:Prop)(b:eL)(c:ck)(d:AJ):Prop:=Q1 a b c (mB=d)
def OS(a:GF):Nat:=a.1.1.length
def WK(a:Nat)(b:kG):Bool:=MT a (Qa b)
def Q5l(a:kG)(b:Nat):MM:=(al a (sY b)).1
def Xu(a:GF):Int:=Qa a.1.1
def ua(a:Un)(b:GF):Prop:=a.1.1=a.1.1∧b.1.1=b.1.1
theorem Yp:aB Tryz.prog 184 Zi:=by
 refine aD (cx Mx [] BI ib) Tryz.func184 (by kernel_rfl) (by kernel_rfl) rfl rfl rfl fun (x:(Unit)) h (y:((List (Row [.int .u8])×Unit)×Unit)) k hp=>⟨(fun bk=>match bk with|0=>some {S:=Nat,st:=fun i=>⟨jk [(0,.v (.one (.gv [.int .u8] k.1.1 y.1.1))),(4,.v (.one (.gv [.int .u8] k.1.1 y.1.1))),(0,.v (.one (.int .i64 false ((List.length y.1.1:Int))))),(0,.v (.one (.int .i64 false ((i:Int)))))] 17,[]⟩,ok:=fun i=>i≤List.length y.1.1,mu:=fun i=>List.length y.1.1-i,init:=0}|_=>none),400,af (q:=W9 (ya (Q2m (ua k y) (ua k y) (Xu y) (Xu y) qW)) (Q1t (OS y)) (∀ (va:Nat),va≤OS y→K7 (WK va y.1.1) (Q4C va (Xu y)) (F7 va (OS y)) (Q3 (decide ((63:Int)<(Q5l y.1.1 va))) (Q5m uL x h (qE x y))) (Q4 (decide ((63:Int)<(Q5l y.1.1 va))) (Na va (∃ (vb:Nat),MG (ya (Q2m (ua k y) (ua k y) (Xu y) (Xu y) (ku va vb))) (vb≤OS y) (OS y) vb va))) (Q5m (kS (decide ((Xu y)≤(64:Int)))) x h (qE x y)))) (by kernel_rfl) ?_⟩
 delta Q7 Q6 Qn Q3 ya Qk Q4 Q5 Q0 mB Q2B QH Qi Q1 Q5m sY yG Qt QE Qa K7 Qo Q2m Q2C MT ku kS Na Q2D uL OS F7 MG WK Q4C Q5l fi Xu W9 qW ua Q1t;obtain ⟨⟨⟩⟩:=x;obtain ⟨⟨⟩⟩:=h;obtain ⟨⟨l,⟨⟩⟩,⟨⟩⟩:=y;obtain ⟨⟨lv,⟨⟩⟩,⟨⟩⟩:=k
 try dsimp only [qE]
 obtain ⟨h0,h1⟩:=(show l=fV (List.length l)∧List.length l≤64 from hp);have hz: ∀i,(al l i).1=0:=fun i=>by
  rw [h0];unfold fV al;rw [List.getD_eq_getElem?_getD,List.getElem?_replicate];split<;>rfl
 simp only [cl];simp only [hz];refine ⟨by omega,fun i hi=>⟨fun h=>⟨by omega,by omega,fun h=>absurd h (by decide),fun _=>⟨by simp only [aL,aT,aU];omega,i+1,by omega⟩⟩,fun _=>by omega⟩⟩
noncomputable def JO:=BI.rd 184 Yp
def sC(x:(Unit))(y:((List (Row [.int .u8])×Unit)×(List (Row [.int .u8])×Unit)×Unit)):Prop:=y.2.1.1=y.1.1∧List.length y.1.1≤4096
def jS(x:(Unit))(y:((List (Row [.int .u8])×Unit)×(List (Row [.int .u8])×Unit)×Unit)):((Unit×Unit)×Unit):=(((),()),())
noncomputable def VG:RC:=qR [false,false] [] [(false,[.im [.int .u8]]),(false,[.im [.int .u8]])] [(false,[.cl (.bool true)])] sC jS
theorem TF:aB Tryz.prog 241 VG:=by
 refine aD (cx Mx [] JO ib) Tryz.func241 (by kernel_rfl) (by kernel_rfl) rfl rfl rfl fun (x:(Unit)) h (y:((List (Row [.int .u8])×Unit)×(List (Row [.int .u8])×Unit)×Unit)) k hp=>⟨(fun bk=>match bk with|0=>some {S:=Nat,st:=fun i=>⟨jk [(0,.v (.one (.gv [.int .u8] k.1.1 y.1.1))),(0,.v (.one (.gv [.int .u8] k.2.1.1 y.2.1.1))),(10,.v (.one (.int .i64 false ((List.length y.1.1:Int))))),(0,.v (.one (.int .i64 false ((i:Int)))))] 26,[]⟩,ok:=fun i=>i≤List.length y.1.1,mu:=fun i=>List.length y.1.1-i,init:=0}|_=>none),400,af (q:=Q0 (Qa y.1.1 !=Xu y.2) (Q5m uL x h (jS x y)) (W9 (ya (Q2m (k.1.1=k.1.1∧y.1.1=y.1.1) (ua k.2 y.2) (Qa y.1.1) (Qa y.1.1) qW)) (Q1t y.1.1.length) (∀ (va:Nat),kQ (va≤y.1.1.length) (WK va y.1.1) (Q4C va (Qa y.1.1)) (Q1a (F7 va y.1.1.length) (Q4C va (Xu y.2)) (F7 va (OS y.2)) (Q5l y.1.1 va !=Q5l y.2.1.1 va) (Q5m uL x h (jS x y)) (Na va (∃ (vb:Nat),MG (ya (Q2m (k.1.1=k.1.1∧y.1.1=y.1.1) (ua k.2 y.2) (Qa y.1.1) (Qa y.1.1) (ku va vb))) (vb≤y.1.1.length) y.1.1.length vb va))) (Q5m Q44 x h (jS x y))))) (by kernel_rfl) ?_⟩
 delta Q7 Q6 Q3 ya Qk Q4 Q5 Q0 mB Q2B QH Qi Q1 Q5m sY yG Qt QE Qa Qo Q2m Q2C MT ku kS Q1a Na Q2D uL kQ OS F7 MG WK Q4C Q5l fi Xu Q44 W9 qW ua Q1t;obtain ⟨⟨⟩⟩:=x;obtain ⟨⟨⟩⟩:=h;obtain ⟨⟨a,⟨⟩⟩,⟨b,⟨⟩⟩,⟨⟩⟩:=y;obtain ⟨⟨av,⟨⟩⟩,⟨bv,⟨⟩⟩,⟨⟩⟩:=k
 try dsimp only [jS]
 have h0:b=a:=(show b=a∧a.length≤4096 from hp).1;have h1:a.length≤4096:=(show b=a∧a.length≤4096 from hp).2;subst h0;simp only [cl];refine ⟨fun h=>h.elim,by omega,fun i hi h=>⟨by omega,by omega,by omega,by omega,fun h=>h.elim,by simp only [aL,aT,aU];omega,i+1,by omega⟩⟩
noncomputable def EJ:=JO.rd 241 TF
end Go.Proofs.YtfdmjoddhjmokaaGreatDoor
namespace Go.Proofs.YtfdmjoddhjmokaaGreatDoor
open Go.RowKit Rex
set_option linter.unusedVariables false
set_option linter.unusedSimpArgs false
set_option maxRecDepth 100000
abbrev dk:List Kd:= [.int .i64,.int .u32,.int .u16,.int .u16,.im [.int .u8],.int .u32,.int .i64]
abbrev Sq:Sp:= .pt 313 [.im dk,.int .i64,.int .i64]
abbrev wE:Type:=(List (Row dk)×Int×Int×Unit)
abbrev mD:Sp:= .pt 313 [.ar dk 151,.int .i64,.int .i64]
abbrev kR:Type:=(List (Row dk)×Int×Int×Unit)
def ZU(r:Row dk)(kind nonce serial dI:Int)(ins:List (Row [.int .u8]))(sum lead:Int):Prop:=r.1=kind∧r.2.1=nonce∧r.2.2.1=serial∧r.2.2.2.1=dI∧r.2.2.2.2.1.2=ins∧r.2.2.2.2.2.1=sum∧r.2.2.2.2.2.2.1=lead
def Og {sh:List Kd}(l:List (Row sh))(first:Int):Nat→List (Row sh)
 |0=>l
 |i+1=>(Og l first i).set ((first+i).tmod l.length).toNat (al (Og l first i) ((first+(i+1)).tmod l.length).toNat)
theorem nD {sh:List Kd} {l:List (Row sh)} {first:Int}: ∀n,(Og l first n).length=l.length
 |0=>rfl
 |n+1=>by rw [Og,List.length_set,nD n]
theorem Ns {sh:List Kd} {l:List (Row sh)} {first n:Int}(h:dZ l first n): ∀k:Nat,k<l.length→ ∀j,j<l.length→al (Og l first k) ((first.toNat+j)%l.length)=if j<k then al l ((first.toNat+(j+1))%l.length) else al l ((first.toNat+j)%l.length)
 |0,_,j,_=>by simp [Og]
 |k+1,hk,j,hj=>by
  have ih:=Ns h k (by omega)
  have e1:((first+(k:Int)).tmod l.length).toNat=(first.toNat+k)%l.length:=by
   have:=(bO h (i:=(k:Int)) (by omega)).2.2.2
   rwa [Int.toNat_natCast] at this
  have e2:((first+((k:Int)+1)).tmod l.length).toNat=(first.toNat+(k+1))%l.length:=by
   have:=(bO h (i:=(k:Int)+1) (by omega)).2.2.2
   rwa [show ((k:Int)+1).toNat=k+1 by omega] at this
  have hp:(first.toNat+k)%l.length<(Og l first k).length:=by rw [nD];exact Nat.mod_lt _ (by omega)
  rw [Og,e1,e2,eT hp];by_cases hjk:j=k
  ·subst hjk;rw [if_pos rfl,ih (j+1) (by omega),if_neg (by omega),if_pos (by omega)]
  ·rw [if_neg (fun e=>hjk (tD hj (by omega) e)),ih j hj]
   by_cases c:j<k
   ·rw [if_pos c,if_pos (by omega)]
   ·rw [if_neg c,if_neg (by omega)]
theorem X7 {sh:List Kd} {l:List (Row sh)} {first n:Int}(h:dZ l first n)(hn:0<n)(z:Row sh):rQ l first n=al l ((first+0).tmod l.length).toNat::rQ ((Og l first (n-1).toNat).set ((first+(n-1)).tmod l.length).toNat z) first (n-1):=by
 have h':=h;obtain ⟨h1,h2,h3,h4,h5,h6⟩:=h';have e0:((first+0).tmod l.length).toNat=(first.toNat+0)%l.length:=(bO h (i:=0) (by omega)).2.2.2
 have e1:((first+(n-1)).tmod l.length).toNat=(first.toNat+(n-1).toNat)%l.length:=(bO h (i:=n-1) (by omega)).2.2.2
 unfold rQ;rw [show n.toNat=(n-1).toNat+1 by omega,List.range_succ_eq_map,List.map_cons,List.map_map,e0,e1]
 congr 1
 refine List.map_congr_left fun i hi=>?_;have hi:i<(n-1).toNat:=by simpa using hi
 simp only [Function.comp,List.length_set,nD];rw [fQ (fun e=>by have:=tD (m:=l.length) (by omega) (by omega) e;omega),Ns h _ (by omega) i (by omega),if_pos hi]
def oh(x:(sq×Unit))(y:((Int×Unit)×Unit)):Prop:=dZ x.1.1 x.1.2.1 x.1.2.2.1∧0≤y.1.1∧y.1.1≤4096
def nk(x:(sq×Unit))(y:((Int×Unit)×Unit)):((Int×Unit)×Unit):=(((x.1.2.1+y.1.1).tmod (List.length x.1.1),()),())
noncomputable def Uz:RC:=qR [true,false] [Gz] [(false,[.int .i64])] [(false,[.int .i64])] oh nk
theorem TP:aB Tryz.prog 172 Uz:=by
 refine aD (cx Mx [] EJ ib) Tryz.func172 (by kernel_rfl) (by kernel_rfl) rfl rfl rfl fun (x:(sq×Unit)) h (y:((Int×Unit)×Unit)) k hp=>⟨bK,400,af (q:=Q9 x.1.2 y (↑x.1.1.length:Int) ((x.1,())=x) (((h.1.1,Qj),())=h) x.1.1.length (nk x y)) (by kernel_rfl) ?_⟩
 delta Q7 Q6 Qk Q5 Qj Qi Qh Qg Qf Qd Qe Q9;obtain ⟨⟨l0,(k0:Int),(m0:Int),⟨⟩⟩,⟨⟩⟩:=x;obtain ⟨⟨n0,⟨⟩,⟨⟩,⟨⟩⟩,⟨⟩⟩:=h;obtain ⟨⟨(i:Int),⟨⟩⟩,⟨⟩⟩:=y;obtain ⟨⟨⟨⟩,⟨⟩⟩,⟨⟩⟩:=k
 try dsimp only [nk]
 obtain ⟨⟨h1,h2,h3,h4,h5,h6⟩,h7,h8⟩:=(show dZ l0 k0 m0∧0≤i∧i≤4096 from hp);have hres:(((k0+i).tmod (l0.length:Int),()),())=nk ((l0,k0,m0,()),()) ((i,()),()):=rfl;simp only [cl]
 (repeat' (first|exact hres|(refine And.intro ?_ ?_)|intro _))
 all_goals first|(exfalso;omega)|omega|trivial|rfl|(simp only [aL,aT,aU];omega)|exact hres
noncomputable def Ei:=EJ.rd 172 TP
def Sj(x:(sq×Unit))(y:(Unit)):Prop:=True
def tW(x:(sq×Unit))(y:(Unit)):((Int×Unit)×Unit):=((x.1.2.2.1,()),())
noncomputable def a3v:RC:=qR [true] [Gz] [] [(false,[.int .i64])] Sj tW
theorem a4e:aB Tryz.prog 108 a3v:=by
 refine aD (cx Mx [] Ei ib) Tryz.func108 (by kernel_rfl) (by kernel_rfl) rfl rfl rfl fun (x:(sq×Unit)) h (y:(Unit)) k hp=>⟨bK,400,af (q:=Qf ((x.1,())=x) (((h.1.1,Qj),())=h) (Qg x.1.2.2.1=tW x y)) (by kernel_rfl) ?_⟩
 delta Q7 Q6 Qk Q5 Qj Qg Qf;obtain ⟨⟨l0,(k0:Int),(n0:Int),⟨⟩⟩,⟨⟩⟩:=x;obtain ⟨⟨m0,⟨⟩,⟨⟩,⟨⟩⟩,⟨⟩⟩:=h;obtain ⟨⟨⟩⟩:=y;obtain ⟨⟨⟩⟩:=k
 try dsimp only [tW]
 simp [tW]
noncomputable def tr:=Ei.rd 108 a4e
def vL(x:(uo×Unit))(y:((List UInt8×Unit)×Unit)):Prop:=dZ x.1.1 x.1.2.1 x.1.2.2.1
def oc(x:(uo×Unit))(y:((List UInt8×Unit)×Unit))(x':(uo×Unit))(z:((Int×Unit)×Unit)):Prop:=dZ x'.1.1 x'.1.2.1 x'.1.2.2.1∧List.length x'.1.1=List.length x.1.1∧(x.1.2.2.1=List.length x.1.1→rQ x'.1.1 x'.1.2.1 x'.1.2.2.1=rQ x.1.1 x.1.2.1 x.1.2.2.1∧z.1.1=8)∧(x.1.2.2.1≠List.length x.1.1→(∃q,q=(y.1.1,())∧rQ x'.1.1 x'.1.2.1 x'.1.2.2.1=rQ x.1.1 x.1.2.1 x.1.2.2.1++ [q])∧z.1.1=0)
noncomputable def Y1:MC:=qC [true,false] [dh] [(false,[.str])] [(false,[.int .i64])] vL oc
abbrev zr:Type:=uo×Unit
def Gu(a:zr):Nat:=a.1.1.length
def tb(a:zr)(b:Int)(c:Nat):Nat:=Qp (a.1.2.1+b) c
def Zs(a:zr):Int:=a.1.2.2.1
def Q5p(a:zr)(b:Int)(c:Nat):Prop:=QB (a.1.2.1+b) c
def yJ(a:zr)(b:kJ):Nat:=(a.1.1.set (tb a (Zs a) (Gu a)) (b.1.1,())).length
theorem YU:ab Tryz.prog 102 Y1:=by
 refine ah (cx Mx [174] tr ib) Tryz.func102 (by kernel_rfl) (by kernel_rfl) fun (x:(uo×Unit)) h (y:((List UInt8×Unit)×Unit)) k hf hg hp=>⟨bK,400,af (q:=Qu (Zs x) (↑(Gu x):Int) (QF (Gu x) (Gu x)) True (oc x y (x.1,()) (Qg (8:Int))) (Qz (QA (Gu x) (Gu x)) (oh (x.1,()) (Qg (Zs x))) (Q5p x (Zs x) (Gu x)) (QC (tb x (Zs x) (Gu x)<Gu x) (QE (Zs x)) (QF (Gu x) (yJ x y)) (oc x y ((x.1.1.set (tb x (Zs x) (Gu x)) (y.1.1,()),x.1.2.1,QH (Zs x),()),()) QI)))) (by kernel_rfl) ?_⟩
 delta Q7 Q6 QC Q3 Q4 QJ Q0 QH QF QK Qi Qh QA Qg Qp Qt QE Qo Qz QL QI Gu Qu tb QB Zs Q5p yJ;obtain ⟨⟨l0,(m0:Int),(k0:Int),⟨⟩⟩,⟨⟩⟩:=x;obtain ⟨⟨⟨⟩,⟨⟩,⟨⟩,⟨⟩⟩,⟨⟩⟩:=h;obtain ⟨⟨x,⟨⟩⟩,⟨⟩⟩:=y;obtain ⟨⟨⟨⟩,⟨⟩⟩,⟨⟩⟩:=k
 try dsimp only
 have hp:dZ l0 m0 k0:=hp;have hp':=hp;obtain ⟨h1,h2,h3,h4,h5,h6⟩:=hp';simp only [cl];refine ⟨fun h=>⟨hp,rfl,fun _=>⟨rfl,rfl⟩,fun k=>absurd h k⟩,fun h=>?_⟩;have h':k0≠(l0.length:Int):=by omega
 obtain ⟨p1,p2,p3,p4⟩:=bO hp h5;obtain ⟨q1,q2⟩:=Gb hp (by omega) (x,())
 refine ⟨⟨hp,h5,(by show k0≤4096;omega)⟩,⟨p1,p2⟩,p3,by simp only [aL,aT,aU];omega,by simp,?_⟩
 exact ⟨q1,by simp,fun k=>absurd k h',fun _=>⟨⟨(x,()),rfl,q2⟩,rfl⟩⟩
noncomputable def HG:=ib.add 102 YU
def Cm(x:(Unit))(y:((Int×Unit)×Unit)):Prop:=1≤y.1.1∧y.1.1≤4096
def m9(x:(Unit))(y:((Int×Unit)×Unit))(x':(Unit))(z:((sq×Unit)×(Unit×Unit)×Unit)):Prop:=dZ z.1.1.1 z.1.1.2.1 z.1.1.2.2.1∧List.length z.1.1.1=y.1.1.toNat∧z.1.1.2.2.1=0∧rQ z.1.1.1 z.1.1.2.1 z.1.1.2.2.1= []
noncomputable def a3C:MC:=qC [false] [] [(false,[.int .i64])] [(false,[dh]),(false,[.cl (.int .i64 (0))])] Cm m9
def uH:A4:=((0:Int),(0:Int),())
def N1(a:ky):Nat:=(List.replicate (QW a) (([]:List UInt8),())).length
theorem a4p:ab Tryz.prog 98 a3C:=by
 refine ah (cx Mx [174] tr HG) Tryz.func98 (by kernel_rfl) (by kernel_rfl) fun (x:(Unit)) h (y:((Int×Unit)×Unit)) k hf hg hp=>⟨bK,400,af (q:=Q10 (Q3 (QU y.1.1) False) (Q4 (QU y.1.1) (QV y.1.1 (16:Int) (gk (QF (QW y) (N1 y))) (m9 x y () (((List.replicate (QW y) (([]:List UInt8),()),uH),()),mB))))) (by kernel_rfl) ?_⟩
 delta Q7 oO lG Qn Qs Q3 Qk Q4 mB QF Qt Q10 gk QW QU uH QV N1;obtain ⟨⟨⟩⟩:=x;obtain ⟨⟨⟩⟩:=h;obtain ⟨⟨(k0:Int),⟨⟩⟩,⟨⟩⟩:=y;obtain ⟨⟨⟨⟩,⟨⟩⟩,⟨⟩⟩:=k
 try dsimp only
 obtain ⟨h1,h2⟩:=(show 1≤k0∧k0≤4096 from hp);obtain ⟨q1,q2⟩:=Li (sh:= [.str]) k0.toNat (by omega) (by omega) (([]:List UInt8),())
 simp only [cl];simp only [List.length_replicate,h1,h2,decide_true,Bool.not_true];have hpost:m9 () ((k0,()),()) () (((List.replicate k0.toNat (([]:List UInt8),()),(0:Int),(0:Int),()),()),((),()),()):=⟨q1,by simp,rfl,q2⟩
 (repeat' (first|exact hpost|(refine And.intro ?_ ?_)|intro _))
 all_goals first|(exfalso;omega)|omega|trivial|rfl|(simp only [aL,aT,aU];omega)|exact hpost
noncomputable def Od:=HG.add 98 a4p
def wm(x:(uo×Unit))(y:((Unit×Unit)×Unit)):Prop:=dZ x.1.1 x.1.2.1 x.1.2.2.1∧0<x.1.2.2.1
def jN(x:(uo×Unit))(y:((Unit×Unit)×Unit))(x':(uo×Unit))(z:((List UInt8×Unit)×(Unit×Unit)×Unit)):Prop:=dZ x'.1.1 x'.1.2.1 x'.1.2.2.1∧List.length x'.1.1=List.length x.1.1∧rQ x.1.1 x.1.2.1 x.1.2.2.1=(z.1.1,())::rQ x'.1.1 x'.1.2.1 x'.1.2.2.1
noncomputable def X1:MC:=qC [true,false] [dh] [(false,[.cl (.int .i64 (0))])] [(false,[.str]),(false,[.cl (.bool true)])] wm jN
abbrev NI:Type:=List (Row [Kd.str])
def Q5y(a:zr)(b:Nat):NI:=Og a.1.1 a.1.2.1 b
def Q5x(a:zr)(b:Nat):Nat:=(Q5y a b).length
def Q5w(a b:Nat)(c:A4)(d e:Int):Prop:=Q7 (sX a b a b) (c.1=c.1) (d=e)
def Q5A(a:zr):Int:=QQ (Zs a)
def Q5B(a:Nat)(b:Int):Prop:=(↑a:Int)≤b
def Q5v(a:zr):Array UInt8:= {toList:=(al a.1.1 (tb a (0:Int) (Gu a))).1}
def Wr(a:zr)(b:Nat):Nat:=((Q5y a b).set (tb a (Q5A a) (Q5x a b)) (([]:List UInt8),())).length
def Hi:(List UInt8×Unit)×(Unit×Unit)×Unit:=((([]:List UInt8),()),mB)
def Q5C(a:zr)(b:Nat)(c:Int):Prop:=oh ((Q5y a b,a.1.2.1,Zs a,()),()) (Qg c)
def Q5z(a:Int):Prop:=(↑(0:Nat):Int)≤a
theorem XD:ab Tryz.prog 173 X1:=by
 refine ah (cx Mx [174] tr Od) Tryz.func173 (by kernel_rfl) (by kernel_rfl) fun (x:(uo×Unit)) h (y:((Unit×Unit)×Unit)) k hf hg hp=>⟨(fun bk=>match bk with|0=>some {S:=Nat,st:=fun s=>⟨jk [(0,.v (.one (.ptr 0 0))),(0,.v (.one (.int .i64 false ((s:Int))))),(4,.v (.one (.op (dc ((al x.1.1 ((x.1.2.1+0).tmod (List.length x.1.1)).toNat).1)))))] 66,aW false [dh] ((Og x.1.1 x.1.2.1 s,x.1.2.1,x.1.2.2.1,()),()) (((),(),(),()),()) 0 0⟩,ok:=fun s=>(s:Int)≤x.1.2.2.1-1,mu:=fun s=>(x.1.2.2.1-1).toNat-s,init:=0}|_=>none),400,af (q:=QK (decide ((Zs x)≤(0:Int))) (QF (Gu x) (Gu x)) uL (jN x y (x.1,()) Hi) (Q6 (QA (Gu x) (Gu x)∧oh (x.1,()) QI) (Q5p x (0:Int) (Gu x)) (tb x (0:Int) (Gu x)<Gu x) (Q2d (Qn True ((0:Int)=(↑(0:Nat):Int)) (Q4I (Q5v x)=Q4I (Q5v x)) True) (Q5w (Gu x) (Q5x x (0:Nat)) x.1.2 (Zs x) (Zs x)) (WD (Gu x) (Q5x x (0:Nat)) (List.take (Q5x x (0:Nat)) x.1.1=Q5y x (0:Nat))) True (Q5z (Q5A x))) (∀ (va:Nat),Q5B va (Q5A x)→QT (QO (Zs x)) (MT va (Q5A x)) (RA (QA (Q5x x va) (Q5x x va)∧Q5C x va (↑va:Int)) (rb va) (QA (Q5x x va) (Q5x x va)) (Q5C x va (Q2C va)) (Q5p x (Q2C va) (Q5x x va)) (Q6 (tb x (Q2C va) (Q5x x va)<Q5x x va) (Q5p x (↑va:Int) (Q5x x va)) (tb x (↑va:Int) (Q5x x va)<Q5x x va) (rb va) (∃ (vb:Nat),Q2D (Q2d (Q14 (ku va vb) (Q4I (Q5v x)=Q4I (Q5v x)) True) (Q5w (Q5x x va) (Q5x x vb) x.1.2 (Zs x) (Zs x)) (Q7 QJ jh (ta (Q5x x va) (Q5x x vb) (List.take (Q5x x vb) ((Q5y x va).set (tb x (↑va:Int) (Q5x x va)) ((al (Q5y x va) (tb x (Q2C va) (Q5x x va))).1,()))=Q5y x vb))) True (Q5B vb (Q5A x))) (Q5A x).toNat vb (Q5A x).toNat va))) (Q5d (QO (Zs x)) (QA (Q5x x va) (Q5x x va)) (Q5C x va (Q5A x)) (Q5p x (Q5A x) (Q5x x va)) (Q6 (tb x (Q5A x) (Q5x x va)<Q5x x va) (QO (Zs x)) (QF (Q5x x va) (Wr x va)) Q44 (jN x y (((Q5y x va).set (tb x (Q5A x) (Q5x x va)) (([]:List UInt8),()),x.1.2.1,Q5A x,()),()) (((al x.1.1 (tb x (0:Int) (Gu x))).1,()),mB))))))) (by kernel_rfl) ?_⟩
 delta Q7 Q6 Qn kA Q3 ya jh Qk Q4 QJ cu Q0 Q23 mB QH QF QK Qi Qh QA Qg Qp yG Qt QE WD Q4I Q5d Qo RA Q2d Q2C MT QL ku kS sX Q5y Q5x QS QI Gu Q14 Q2D tb QT uL QB Zs Q5w QQ ta Q5A rb Q5p Q44 QO Q5B Q5v Wr Hi Q5C Q5z;obtain ⟨⟨l0,(m0:Int),(k0:Int),⟨⟩⟩,⟨⟩⟩:=x;obtain ⟨⟨⟨⟩,⟨⟩,⟨⟩,⟨⟩⟩,⟨⟩⟩:=h;obtain ⟨⟨⟨⟩,⟨⟩⟩,⟨⟩⟩:=y;obtain ⟨⟨⟨⟩,⟨⟩⟩,⟨⟩⟩:=k
 try dsimp only
 obtain ⟨hp,hn⟩:=(show dZ l0 m0 k0∧0<k0 from hp);have hp':=hp;obtain ⟨h1,h2,h3,h4,h5,h6⟩:=hp';obtain ⟨p1,p2,p3,_⟩:=bO hp (i:=0) (by omega)
 have hL: ∀s,(Og l0 m0 s).length=l0.length:=fun s=>nD s;have hps: ∀s,dZ (Og l0 m0 s) m0 k0:=fun s=>by unfold dZ;rw [hL];exact hp
 simp only [cl];refine ⟨fun h=>absurd h (by omega),fun _=>⟨⟨hp,by decide,by decide⟩,⟨p1,p2⟩,p3,⟨⟨rfl,rfl,rfl,List.take_length⟩,by omega⟩,fun s hs=>⟨by simp only [aL,aT,aU];omega,fun hc=>?_,fun hc=>?_⟩⟩⟩
 ·obtain ⟨a1,a2,a3,_⟩:=bO (hps s) (i:=(s:Int)) (by omega)
  obtain ⟨b1,b2,b3,_⟩:=bO (hps s) (i:=(s:Int)+1) (by omega)
  refine ⟨⟨hps s,(by show (0:Int)≤s;omega),(by show (s:Int)≤4096;omega)⟩,by simp only [aL,aT,aU];omega,⟨hps s,(by show (0:Int)≤(s:Int)+1;omega),(by show (s:Int)+1≤4096;omega)⟩,⟨b1,b2⟩,b3,⟨a1,a2⟩,a3,by simp only [aL,aT,aU];omega,s+1,?_⟩
  rw [hL,hL];refine ⟨⟨⟨by omega,rfl,rfl,?_⟩,by omega⟩,by omega⟩
  rw [List.take_of_length_le (by rw [List.length_set,hL];exact Nat.le_refl _)]
  rfl
 ·obtain rfl:s=(k0-1).toNat:=by omega
  obtain ⟨a1,a2,a3,_⟩:=bO (hps (k0-1).toNat) (i:=k0-1) (by omega)
  refine ⟨by simp only [aL,aT,aU];omega,⟨hps _,(by show (0:Int)≤k0-1;omega),(by show k0-1≤4096;omega)⟩,⟨a1,a2⟩,a3,by simp only [aL,aT,aU];omega,by rw [List.length_set],?_⟩
  rw [hL];refine ⟨?_,(by show (List.set _ _ _).length=_;rw [List.length_set,hL]),X7 hp hn _⟩
  unfold dZ;rw [show ∀ (a b:Nat) (x:Row [.str]),(List.set (Og l0 m0 a) b x).length=l0.length from fun a b x=>by rw [List.length_set,hL]]
  exact ⟨h1,h2,h3,h4,by show (0:Int)≤k0-1;omega,by show k0-1≤_;omega⟩
noncomputable def zU:=Od.add 173 XD
def nR(x:(wE×Unit))(y:((Int×Unit)×Unit)):Prop:=dZ x.1.1 x.1.2.1 x.1.2.2.1∧0≤y.1.1∧y.1.1≤4096
def nL(x:(wE×Unit))(y:((Int×Unit)×Unit)):((Int×Unit)×Unit):=(((x.1.2.1+y.1.1).tmod (List.length x.1.1),()),())
noncomputable def SQ:RC:=qR [true,false] [Sq] [(false,[.int .i64])] [(false,[.int .i64])] nR nL
theorem Ss:aB Tryz.prog 225 SQ:=by
 refine aD (cx Mx [] tr zU) Tryz.func225 (by kernel_rfl) (by kernel_rfl) rfl rfl rfl fun (x:(wE×Unit)) h (y:((Int×Unit)×Unit)) k hp=>⟨bK,400,af (q:=Q9 x.1.2 y (↑x.1.1.length:Int) ((x.1,())=x) (((h.1.1,Qj),())=h) x.1.1.length (nL x y)) (by kernel_rfl) ?_⟩
 delta Q7 Q6 Qk Q5 Qj Qi Qh Qg Qf Qd Qe Q9;obtain ⟨⟨l0,(k0:Int),(m0:Int),⟨⟩⟩,⟨⟩⟩:=x;obtain ⟨⟨n0,⟨⟩,⟨⟩,⟨⟩⟩,⟨⟩⟩:=h;obtain ⟨⟨(i:Int),⟨⟩⟩,⟨⟩⟩:=y;obtain ⟨⟨⟨⟩,⟨⟩⟩,⟨⟩⟩:=k
 try dsimp only [nL]
 obtain ⟨⟨h1,h2,h3,h4,h5,h6⟩,h7,h8⟩:=(show dZ l0 k0 m0∧0≤i∧i≤4096 from hp);have hres:(((k0+i).tmod (l0.length:Int),()),())=nL ((l0,k0,m0,()),()) ((i,()),()):=rfl;simp only [cl]
 (repeat' (first|exact hres|(refine And.intro ?_ ?_)|intro _))
 all_goals first|(exfalso;omega)|omega|trivial|rfl|(simp only [aL,aT,aU];omega)|exact hres
noncomputable def jz:=tr.rd 225 Ss
def P6(x:(kR×Unit))(y:((Int×Int×Int×Int×List (Row [.int .u8])×Int×Int×Unit)×Unit)):Prop:=dZ x.1.1 x.1.2.1 x.1.2.2.1
def rR(x:(kR×Unit))(y:((Int×Int×Int×Int×List (Row [.int .u8])×Int×Int×Unit)×Unit))(x':(kR×Unit))(z:((Int×Unit)×Unit)):Prop:=dZ x'.1.1 x'.1.2.1 x'.1.2.2.1∧List.length x'.1.1=List.length x.1.1∧(x.1.2.2.1=List.length x.1.1→rQ x'.1.1 x'.1.2.1 x'.1.2.2.1=rQ x.1.1 x.1.2.1 x.1.2.2.1∧z.1.1=8)∧(x.1.2.2.1≠List.length x.1.1→(∃q,ZU q y.1.1 y.1.2.1 y.1.2.2.1 y.1.2.2.2.1 y.1.2.2.2.2.1 y.1.2.2.2.2.2.1 y.1.2.2.2.2.2.2.1∧rQ x'.1.1 x'.1.2.1 x'.1.2.2.1=rQ x.1.1 x.1.2.1 x.1.2.2.1++ [q])∧z.1.1=0)
noncomputable def Z3:MC:=qC [true,false] [mD] [(true,[.int .i64,.int .u32,.int .u16,.int .u16,.im [.int .u8],.int .u32,.int .i64])] [(false,[.int .i64])] P6 rR
abbrev IX:Type:=kR×Unit
abbrev iT:Type:=(Int×Int×Int×Int×List (Row [Kd.int IntKind.u8])×Int×Int×Unit)×Unit
abbrev a04:Type:=eZ [(true,[Sp.int IntKind.i64,Sp.int IntKind.u32,Sp.int IntKind.u16,Sp.int IntKind.u16,Sp.im [Kd.int IntKind.u8],Sp.int IntKind.u32,Sp.int IntKind.i64])]
abbrev wv:Type:=List (Row dk)
def Q5E(a:IX):Nat:=a.1.1.length
def Q5J(a:iT):Int:=a.1.2.2.2.2.2.2.1
def KM(a:iT):Int:=a.1.2.2.2.2.2.1
def L4(a:iT):Int:=a.1.2.2.2.1
def Fz(a:iT):Int:=a.1.2.2.1
def We(a:IX)(b:iT)(c:a04):wv:=a.1.1.set (Qp (a.1.2.1+a.1.2.2.1) (Q5E a)) (b.1.1,b.1.2.1,Fz b,L4 b,(c.1.2.2.2.2.1,b.1.2.2.2.2.1),KM b,Q5J b,())
theorem YD:ab Tryz.prog 164 Z3:=by
 refine ah (cx Mx [239] jz zU) Tryz.func164 (by kernel_rfl) (by kernel_rfl) fun (x:(kR×Unit)) h (y:((Int×Int×Int×Int×List (Row [.int .u8])×Int×Int×Unit)×Unit)) k hf hg hp=>⟨bK,400,af (q:=Qu x.1.2.2.1 (↑(Q5E x):Int) (QF (Q5E x) (Q5E x)) True (rR x y (x.1,()) (Qg (8:Int))) (lN (QA (Q5E x) (Q5E x)) (nR (x.1,()) (Qg x.1.2.2.1)) (QB (x.1.2.1+x.1.2.2.1) (Q5E x)) (Qp (x.1.2.1+x.1.2.2.1) (Q5E x)<Q5E x) (Qn (QE x.1.2.2.1) (QF (Q5E x) (We x y k).length) True (rR x y ((We x y k,x.1.2.1,QH x.1.2.2.1,()),()) QI)))) (by kernel_rfl) ?_⟩
 delta Q7 Qn Q3 Q4 QJ Q0 QH QF QK Qi Qh QA Q5J Qg Qp Qt QE KM L4 Qo Fz QL Q5E QI Qu QB lN We;obtain ⟨⟨l0,(u0:Int),(k0:Int),⟨⟩⟩,⟨⟩⟩:=x;obtain ⟨⟨⟨⟩,⟨⟩,⟨⟩,⟨⟩⟩,⟨⟩⟩:=h;obtain ⟨⟨(p0:Int),(r0:Int),(s0:Int),(m0:Int),n0,(t0:Int),(q0:Int),⟨⟩⟩,⟨⟩⟩:=y;obtain ⟨⟨⟨⟩,⟨⟩,⟨⟩,⟨⟩,o0,⟨⟩,⟨⟩,⟨⟩⟩,⟨⟩⟩:=k
 try dsimp only
 have hp:dZ l0 u0 k0:=hp;have hp':=hp;obtain ⟨h1,h2,h3,h4,h5,h6⟩:=hp';simp only [cl];refine ⟨fun h=>⟨hp,rfl,fun _=>⟨rfl,rfl⟩,fun k=>absurd h k⟩,fun h=>?_⟩;have h':k0≠(l0.length:Int):=by omega
 obtain ⟨p1,p2,p3,p4⟩:=bO hp h5;obtain ⟨q1,q2⟩:=Gb hp (by omega) (p0,r0,s0,m0,(o0,n0),t0,q0,())
 refine ⟨⟨hp,h5,(by show k0≤4096;omega)⟩,⟨p1,p2⟩,p3,by simp only [aL,aT,aU];omega,by simp,?_⟩
 exact ⟨q1,by simp,fun k=>absurd k h',fun _=>⟨⟨(p0,r0,s0,m0,(o0,n0),t0,q0,()),⟨rfl,rfl,rfl,rfl,rfl,rfl,rfl⟩,q2⟩,rfl⟩⟩
noncomputable def IC:=zU.add 164 YD
def Vf(x:(Unit))(y:((Int×Unit)×Unit)):Prop:=1≤y.1.1∧y.1.1≤4096
def wK(x:(Unit))(y:((Int×Unit)×Unit))(x':(Unit))(z:((wE×Unit)×(Unit×Unit)×Unit)):Prop:=dZ z.1.1.1 z.1.1.2.1 z.1.1.2.2.1∧List.length z.1.1.1=y.1.1.toNat∧z.1.1.2.2.1=0∧rQ z.1.1.1 z.1.1.2.1 z.1.1.2.2.1= []
noncomputable def a42:MC:=qC [false] [] [(false,[.int .i64])] [(false,[mD]),(false,[.cl (.int .i64 (0))])] Vf wK
def Q5L:Value×List (Row [Kd.int IntKind.u8]):=(Value.slice none (0:Nat) (0:Nat),([]:List (Row [Kd.int IntKind.u8])))
def Q5K(a:ky):Nat:=(List.replicate (QW a) (Int.ofNat (0:Nat),Int.ofNat (0:Nat),Int.ofNat (0:Nat),Int.ofNat (0:Nat),Q5L,Int.ofNat (0:Nat),Int.ofNat (0:Nat),())).length
theorem a2E:ab Tryz.prog 116 a42:=by
 refine ah (cx Mx [239] jz IC) Tryz.func116 (by kernel_rfl) (by kernel_rfl) fun (x:(Unit)) h (y:((Int×Unit)×Unit)) k hf hg hp=>⟨bK,400,af (q:=Q10 (Q3 (QU y.1.1) False) (Q4 (QU y.1.1) (QV y.1.1 (56:Int) (gk (QF (QW y) (Q5K y))) (wK x y () (((List.replicate (QW y) (Int.ofNat (0:Nat),Int.ofNat (0:Nat),Int.ofNat (0:Nat),Int.ofNat (0:Nat),Q5L,Int.ofNat (0:Nat),Int.ofNat (0:Nat),()),uH),()),mB))))) (by kernel_rfl) ?_⟩
 delta Q7 oO lG Qn Qs Q3 Qk Q4 mB QF Qt Q10 gk Q5L QW QU uH QV Q5K;obtain ⟨⟨⟩⟩:=x;obtain ⟨⟨⟩⟩:=h;obtain ⟨⟨(k0:Int),⟨⟩⟩,⟨⟩⟩:=y;obtain ⟨⟨⟨⟩,⟨⟩⟩,⟨⟩⟩:=k
 try dsimp only
 obtain ⟨h1,h2⟩:=(show 1≤k0∧k0≤4096 from hp);obtain ⟨q1,q2⟩:=Li (sh:=dk) k0.toNat (by omega) (by omega) ((0:Int),(0:Int),(0:Int),(0:Int),(Value.slice none 0 0,([]:List (Row [.int .u8]))),(0:Int),(0:Int),())
 simp only [cl];simp only [List.length_replicate,h1,h2,decide_true,Bool.not_true];have hpost:wK () ((k0,()),()) () (((List.replicate k0.toNat ((0:Int),(0:Int),(0:Int),(0:Int),(Value.slice none 0 0,([]:List (Row [.int .u8]))),(0:Int),(0:Int),()),(0:Int),(0:Int),()),()),((),()),()):=⟨q1,by simp,rfl,q2⟩
 (repeat' (first|exact hpost|(refine And.intro ?_ ?_)|intro _))
 all_goals first|(exfalso;omega)|omega|trivial|rfl|(simp only [aL,aT,aU];omega)|exact hpost
noncomputable def NP:=IC.add 116 a2E
def TE(x:(kR×Unit))(y:(Unit)):Prop:=dZ x.1.1 x.1.2.1 x.1.2.2.1
def uY(x:(kR×Unit))(y:(Unit))(x':(kR×Unit))(z:((Int×Int×Int×Int×List (Row [.int .u8])×Int×Int×Unit)×(Bool×Unit)×Unit)):Prop:=dZ x'.1.1 x'.1.2.1 x'.1.2.2.1∧List.length x'.1.1=List.length x.1.1∧z.2.1.1=decide (0<x.1.2.2.1)∧(x.1.2.2.1=0→rQ x'.1.1 x'.1.2.1 x'.1.2.2.1= [])∧(x.1.2.2.1≠0→ ∃q,ZU q z.1.1 z.1.2.1 z.1.2.2.1 z.1.2.2.2.1 z.1.2.2.2.2.1 z.1.2.2.2.2.2.1 z.1.2.2.2.2.2.2.1∧rQ x.1.1 x.1.2.1 x.1.2.2.1=q::rQ x'.1.1 x'.1.2.1 x'.1.2.2.1)
noncomputable def a3m:MC:=qC [true] [mD] [] [(true,[.int .i64,.int .u32,.int .u16,.int .u16,.im [.int .u8],.int .u32,.int .i64]),(false,[.bool])] TE uY
abbrev B7:Type:=Int×Int×Int×Int×List (Row [Kd.int IntKind.u8])×Int×Int×Unit
abbrev Io:Type:=Int×Int×List (Row [Kd.int IntKind.u8])×Int×Int×Unit
abbrev Hz:Type:=(Kd.int IntKind.i64).T×Row [Kd.int IntKind.u32,Kd.int IntKind.u16,Kd.int IntKind.u16,Kd.im [Kd.int IntKind.u8],Kd.int IntKind.u32,Kd.int IntKind.i64]
abbrev a1E:Type:=(Kd.int IntKind.i64).T×Row []
def Q5T(a:A4):N0:=(([]:List (Row [Kd.int IntKind.u8])),a)
def Q5S(a:Int):N0:=Q5T ((0:Int),a,())
def Q5R:Io:=((0:Int),(0:Int),Q5S (0:Int))
def WA(a:Int):B7:=(a,(0:Int),Q5R)
def Q5U(a b c d:Int)(e:a1E):Hz:=(a,b,c,d,Q5L,(0:Int),e)
def Q5V:a1E:=((0:Int),())
def Q5P:Hz:=Q5U (0:Int) (0:Int) (0:Int) (0:Int) Q5V
def Q5O(a:IX):Nat:=(a.1.1.set a.1.2.1.toNat Q5P).length
def L6(a:IX):Nat:=Qp (a.1.2.1+(0:Int)) (Q5E a)
def Q5Q(a:IX):Row [Kd.int IntKind.u16,Kd.im [Kd.int IntKind.u8],Kd.int IntKind.u32,Kd.int IntKind.i64]:=(al a.1.1 (L6 a)).2.2.2
theorem a3h:ab Tryz.prog 179 a3m:=by
 refine ah (cx Mx [239] jz NP) Tryz.func179 (by kernel_rfl) (by kernel_rfl) fun (x:(kR×Unit)) h (y:(Unit)) k hf hg hp=>⟨bK,400,af (q:=QK (decide (x.1.2.2.1≤(0:Int))) (QF (Q5E x) (Q5E x)) True (uY x y (x.1,()) (WA (0:Int),Q2)) ((QA (Q5E x) (Q5E x)∧nR (x.1,()) QI)∧Q6 (QB (x.1.2.1+(0:Int)) (Q5E x)) (L6 x<Q5E x) (QL x.1.2.1 (Q5E x)) (x.1.2.1.toNat<Q5E x) (QC (QA (Q5E x) (Q5O x)∧nR ((x.1.1.set x.1.2.1.toNat Q5P,x.1.2.1,x.1.2.2.1,()),()) (Qg (1:Int))) (QO x.1.2.2.1) (QF (Q5E x) (Q5O x)) (uY x y ((x.1.1.set x.1.2.1.toNat Q5P,Qh (QH x.1.2.1) (Q5O x),QQ x.1.2.2.1,()),()) (((al x.1.1 (L6 x)).1,(al x.1.1 (L6 x)).2.1,(al x.1.1 (L6 x)).2.2.1,(Q5Q x).1,(Q5Q x).2.1.2,(Q5Q x).2.2.1,(Q5Q x).2.2.2.1,()),Qq,()))))) (by kernel_rfl) ?_⟩
 delta Q7 Q6 QC Q3 Q4 QJ Q0 QH QF QK Qi Qh QA Qg Qp Qt Qo Q5T Q5S Q5R WA QL Q5L Q5U QS Q5E Q8 QI QB QQ Q5V Q5P Q5O L6 Qq Q2 QO Q5Q;obtain ⟨⟨m0,(l0:Int),(k0:Int),⟨⟩⟩,⟨⟩⟩:=x;obtain ⟨⟨⟨⟩,⟨⟩,⟨⟩,⟨⟩⟩,⟨⟩⟩:=h;obtain ⟨⟨⟩⟩:=y;obtain ⟨⟨⟩⟩:=k
 try dsimp only
 have hp:dZ m0 l0 k0:=hp;have hp':=hp;obtain ⟨h1,h2,h3,h4,h5,h6⟩:=hp';obtain ⟨p1,p2,p3,_⟩:=bO hp (i:=0) (by omega)
 have e0:=Ay hp;simp only [cl];rw [e0] at*;refine ⟨fun h=>?_,fun h=>?_⟩
 ·obtain rfl:k0=0:=by omega
  exact ⟨hp,rfl,by simp,fun _=>rfl,fun k=>absurd rfl k⟩
 ·obtain ⟨q1,q2⟩:=TU hp (by omega) ((0:Int),(0:Int),(0:Int),(0:Int),(Value.slice none 0 0,([]:List (Row [.int .u8]))),(0:Int),(0:Int),())
  refine ⟨⟨hp,by decide,by decide⟩,⟨p1,p2⟩,by omega,⟨h3,h4⟩,by omega,⟨by rw [List.length_set],Mh hp _ _,by decide,by decide⟩,by simp only [aL,aT,aU];omega,by rw [List.length_set],?_⟩
  rw [List.length_set];exact ⟨q1,by show (List.set _ _ _).length=_;rw [List.length_set],by simp;omega,fun k=>absurd k (by show ¬k0=0;omega),fun _=>⟨_,⟨rfl,rfl,rfl,rfl,rfl,rfl,rfl⟩,q2⟩⟩
noncomputable def aF:=NP.add 179 a3h
end Go.Proofs.YtfdmjoddhjmokaaGreatDoor
